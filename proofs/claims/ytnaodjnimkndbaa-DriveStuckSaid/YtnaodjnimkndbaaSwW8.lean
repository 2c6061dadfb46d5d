/-
  Functions' forms, and what is proved of them, part 8.
-/
import Derived.Test.YtnaodjnimkndbaaSwCfg
import Derived.Test.YtnaodjnimkndbaaSwW7
import Derived.Test.YtnaodjnimkndbaaSwW5
import Derived.Test.YtnaodjnimkndbaaSwW1
import Derived.Test.YtnaodjnimkndbaaSwLib8
import Derived.Test.YtnaodjnimkndbaaSwW6
set_option linter.unusedSimpArgs false
set_option linter.unusedVariables false
set_option linter.unusedSectionVars false
section
set_option maxRecDepth 100000
set_option linter.unusedVariables false
namespace Go.Sw
noncomputable section
def swashref07_Read_l1 (k : Nat) (call : Caller) : Env → Heap → Res (AExit × Env) := loopB (C k) call F.swashref07_Read [1, 1, 1, 1, 1, 1, 1, 0, 0, 0]
def swashref07_Read_l1k (k : Nat) (call : Caller) : Kont Value := kBlock 0 (kSeq (pieceK (C k) call F.swashref07_Read [1, 1, 1, 1, 1, 1, 1, 1]) (kDone Prog (resOf Prog F.swashref07_Read)))
def swashref07_Read_j1 (k : Nat) (call : Caller) (a0 a6 a8 a11 a12 a13 : Value) (h : Heap) : Res (AExit × Env) :=
  kSeq (pieceK (C k) call F.swashref07_Read [1, 1, 1, 1, 1, 1, 1, 0, 0, 0, 1, 0, 1, 1, 1]) (kBlock 1 (kRound (ownOf (C k) F.swashref07_Read [1, 1, 1, 1, 1, 1, 1, 0, 0, 0]))) .normal [(0, a0), (6, a6), (8, a8), (11, a11), (12, a12), (13, a13)] h
def swashref07_Read_j2 (k : Nat) (call : Caller) (a0 a6 a8 a11 a12 a13 a93 : Value) (h : Heap) : Res (AExit × Env) :=
  kSeq (pieceK (C k) call F.swashref07_Read [1, 1, 1, 1, 1, 1, 1, 0, 0, 0, 1, 0, 1, 1, 1]) (kBlock 1 (kRound (ownOf (C k) F.swashref07_Read [1, 1, 1, 1, 1, 1, 1, 0, 0, 0]))) .normal [(0, a0), (6, a6), (8, a8), (11, a11), (12, a12), (13, a13), (93, a93)] h
def swashref07_Read_j3 (k : Nat) (call : Caller) (a0 a6 a8 a11 a12 a13 : Value) (h : Heap) : Res (AExit × Env) :=
  kSeq (pieceK (C k) call F.swashref07_Read [1, 1, 1, 1, 1, 1, 1, 0, 0, 0, 1, 0, 1, 1, 1, 1]) (kBlock 1 (kRound (ownOf (C k) F.swashref07_Read [1, 1, 1, 1, 1, 1, 1, 0, 0, 0]))) .normal [(0, a0), (6, a6), (8, a8), (11, a11), (12, a12), (13, a13)] h
def swashref07_Read_j4 (k : Nat) (call : Caller) (a0 a6 a8 a11 a12 a13 a115 : Value) (h : Heap) : Res (AExit × Env) :=
  kSeq (pieceK (C k) call F.swashref07_Read [1, 1, 1, 1, 1, 1, 1, 0, 0, 0, 1, 0, 1, 1, 1, 1]) (kBlock 1 (kRound (ownOf (C k) F.swashref07_Read [1, 1, 1, 1, 1, 1, 1, 0, 0, 0]))) .normal [(0, a0), (6, a6), (8, a8), (11, a11), (12, a12), (13, a13), (115, a115)] h
def swashref07_Read (k : Nat) (call : Caller) (a0 a1 a2 : Value) (h : Heap) : Res Value :=
  (allocR Prog 137 h).bind fun v1 h2 =>
  (call F.swashref01_U [a0, (.int .i64 0), (.int .i64 4)] h2).bind fun v3 h4 =>
  (call F.swashref01_U [a0, (.int .i64 8), (.int .i64 4)] h4).bind fun v5 h6 =>
  (call F.swashref01_U [a0, (.int .i64 12), (.int .i64 4)] h6).bind fun v7 h8 =>
  (buildR Prog 137 [(0, a0), (1, v3), (2, v5), (3, v7), (4, (.int .i64 2)), (6, a2)] h8).bind fun v9 h10 =>
  (allocR Prog 137 h10).bind fun v11 h12 =>
  (storeR Prog 137 v11 v9 h12).bind fun _v13 h14 =>
  (call F.swashref01_U [a0, (.int .i64 4), (.int .i64 4)] h14).bind fun v15 h16 =>
  (fieldAddrR Prog 137 v11 1 h16).bind fun v17 h18 =>
  (loadR Prog 3 v17 h18).bind fun v19 h20 =>
  (binR Prog .lss 3 v19 (.int .i64 4) h20).bind fun v21 h22 =>
  ((bif wantVal v21 false then fieldAddrR Prog 137 v11 1 h22 else Res.ok undef h22)).bind fun v23 h24 =>
  ((bif wantVal v21 false then loadR Prog 3 v23 h24 else Res.ok undef h24)).bind fun v25 h26 =>
  ((bif wantVal v21 false then binR Prog .gtr 3 v25 (.int .i64 65535) h26 else Res.ok undef h26)).bind fun v27 h28 =>
  (condV (some v21) (Res.ok (.bool true) h28) (Res.ok v27 h28)).bind fun v29 h30 =>
  ((bif wantVal v29 false then fieldAddrR Prog 137 v11 2 h30 else Res.ok undef h30)).bind fun v31 h32 =>
  ((bif wantVal v29 false then loadR Prog 3 v31 h32 else Res.ok undef h32)).bind fun v33 h34 =>
  ((bif wantVal v29 false then binR Prog .lss 3 v33 (.int .i64 0) h34 else Res.ok undef h34)).bind fun v35 h36 =>
  (condV (some v29) (Res.ok (.bool true) h36) (Res.ok v35 h36)).bind fun v37 h38 =>
  ((bif wantVal v37 false then fieldAddrR Prog 137 v11 3 h38 else Res.ok undef h38)).bind fun v39 h40 =>
  ((bif wantVal v37 false then loadR Prog 3 v39 h40 else Res.ok undef h40)).bind fun v41 h42 =>
  ((bif wantVal v37 false then binR Prog .lss 3 v41 (.int .i64 0) h42 else Res.ok undef h42)).bind fun v43 h44 =>
  (condV (some v37) (Res.ok (.bool true) h44) (Res.ok v43 h44)).bind fun v45 h46 =>
  ((bif wantVal v45 false then fieldAddrR Prog 137 v11 2 h46 else Res.ok undef h46)).bind fun v47 h48 =>
  ((bif wantVal v45 false then loadR Prog 3 v47 h48 else Res.ok undef h48)).bind fun v49 h50 =>
  ((bif wantVal v45 false then Res.ok a0 h50 else Res.ok undef h50)).bind fun v51 h52 =>
  ((bif wantVal v45 false then builtinV Prog .len [65] [v51] h52 else Res.ok undef h52)).bind fun v53 h54 =>
  ((bif wantVal v45 false then binR Prog .gtr 3 v49 v53 h54 else Res.ok undef h54)).bind fun v55 h56 =>
  (condV (some v45) (Res.ok (.bool true) h56) (Res.ok v55 h56)).bind fun v57 h58 =>
  ((bif wantVal v57 false then fieldAddrR Prog 137 v11 3 h58 else Res.ok undef h58)).bind fun v59 h60 =>
  ((bif wantVal v57 false then loadR Prog 3 v59 h60 else Res.ok undef h60)).bind fun v61 h62 =>
  ((bif wantVal v57 false then Res.ok a0 h62 else Res.ok undef h62)).bind fun v63 h64 =>
  ((bif wantVal v57 false then builtinV Prog .len [65] [v63] h64 else Res.ok undef h64)).bind fun v65 h66 =>
  ((bif wantVal v57 false then binR Prog .gtr 3 v61 v65 h66 else Res.ok undef h66)).bind fun v67 h68 =>
  (condV (some v57) (Res.ok (.bool true) h68) (Res.ok v67 h68)).bind fun v69 h70 =>
  ((bif wantVal v69 false then Res.ok v15 h70 else Res.ok undef h70)).bind fun v71 h72 =>
  ((bif wantVal v69 false then binR Prog .lss 3 v71 (.int .i64 0) h72 else Res.ok undef h72)).bind fun v73 h74 =>
  (condV (some v69) (Res.ok (.bool true) h74) (Res.ok v73 h74)).bind fun v75 h76 =>
  ((bif wantVal v75 false then Res.ok v15 h76 else Res.ok undef h76)).bind fun v77 h78 =>
  ((bif wantVal v75 false then Res.ok a0 h78 else Res.ok undef h78)).bind fun v79 h80 =>
  ((bif wantVal v75 false then builtinV Prog .len [65] [v79] h80 else Res.ok undef h80)).bind fun v81 h82 =>
  ((bif wantVal v75 false then binR Prog .gtr 3 v77 v81 h82 else Res.ok undef h82)).bind fun v83 h84 =>
  (condV (some v75) (Res.ok (.bool true) h84) (Res.ok v83 h84)).bind fun v85 h86 =>
  condV (some v85) (
    (buildR Prog 137 [] h86).bind fun v87 h88 =>
    (storeR Prog 137 v1 v87 h88).bind fun _v89 h90 =>
    (loadR Prog 137 v1 h90).bind fun v91 h92 =>
    .ok (.tuple #[v91, (.bool false)]) h92)
  (
    (sliceR Prog 65 a0 (some v15) none none h86).bind fun v93 h94 =>
    (call F.swashref06_Read [v93, a1, (.int .i64 2)] h94).bind fun v95 h96 =>
    (extractR v95 0 h96).bind fun v97 h98 =>
    (extractR v95 1 h98).bind fun v99 h100 =>
    (allocR Prog 88 h100).bind fun v101 h102 =>
    (storeR Prog 88 v101 v97 h102).bind fun _v103 h104 =>
    (loadR Prog 88 v101 h104).bind fun v105 h106 =>
    (fieldAddrR Prog 137 v11 7 h106).bind fun v107 h108 =>
    (storeR Prog 88 v107 v105 h108).bind fun _v109 h110 =>
    (binR Prog .mul 3 (.int .i64 2) a2 h110).bind fun v111 h112 =>
    (binR Prog .add 3 (.int .i64 4) v111 h112).bind fun v113 h114 =>
    (loopN (swashref07_Read_l1 k call) loopFuel [(0, a0), (6, v1), (8, v11), (11, v99), (12, v113)] h114).bind fun r115 h116 =>
    swashref07_Read_l1k k call r115.1 r115.2 h116)
theorem swashref07_Read_R (k : Nat) (a0 a1 a2 : Value) (h : Heap) : R (T k) F.swashref07_Read [a0, a1, a2] h = nrm .fz h (swashref07_Read k (R (T k)) a0 a1 a2 h) :=
  (R_body (t := T k) (T_scott k) (by kernel_rfl) _ _).trans (by kernel_rfl)
theorem swashref07_Read_l1_eq (k : Nat) (call : Caller) (a0 a6 a8 a11 a12 : Value) (h : Heap) : swashref07_Read_l1 k call [(0, a0), (6, a6), (8, a8), (11, a11), (12, a12)] h =
  condV (some a11) (
    (loadR Prog 137 a8 h).bind fun v117 h118 =>
    (allocR Prog 137 h118).bind fun v119 h120 =>
    (storeR Prog 137 v119 v117 h120).bind fun _v121 h122 =>
    (builtinV Prog .len [65] [a0] h122).bind fun v123 h124 =>
    (fieldAddrR Prog 137 a8 2 h124).bind fun v125 h126 =>
    (loadR Prog 3 v125 h126).bind fun v127 h128 =>
    (fieldAddrR Prog 137 a8 4 h128).bind fun v129 h130 =>
    (loadR Prog 3 v129 h130).bind fun v131 h132 =>
    (fieldAddrR Prog 137 a8 1 h132).bind fun v133 h134 =>
    (loadR Prog 3 v133 h134).bind fun v135 h136 =>
    (binR Prog .mul 3 (.int .i64 2) v135 h136).bind fun v137 h138 =>
    (call F.swashref01_Rows [v123, v127, v131, v137] h138).bind fun v139 h140 =>
    condV (some v139) (
      (fieldAddrR Prog 137 a8 5 h140).bindN fun v141 h142 =>
      (loadR Prog 3 v141 h142).bindN fun v143 h144 =>
      (fieldAddrR Prog 137 a8 2 h144).bindN fun v145 h146 =>
      (loadR Prog 3 v145 h146).bindN fun v147 h148 =>
      (fieldAddrR Prog 137 a8 4 h148).bindN fun v149 h150 =>
      (loadR Prog 3 v149 h150).bindN fun v151 h152 =>
      (fieldAddrR Prog 137 a8 1 h152).bindN fun v153 h154 =>
      (loadR Prog 3 v153 h154).bindN fun v155 h156 =>
      (binR Prog .mul 3 v151 v155 h156).bindN fun v157 h158 =>
      (call F.swashref07_needs [a0, v147, v157, (.int .i64 2)] h158).bindT (fun p161 h162 => .panic p161 h162) fun v159 h160 =>
      (builtinV Prog .max [3, 3] [v143, v159] h160).bindN fun v163 h164 =>
      (fieldAddrR Prog 137 a8 5 h164).bindN fun v165 h166 =>
      (storeR Prog 3 v165 v163 h166).bindN fun _v167 h168 =>
      chkR ((okVal (loadR Prog 3 v141 h160) v143 && true) && true) (
      (builtinV Prog .len [65] [a0] h168).bind fun v169 h170 =>
      (fieldAddrR Prog 137 a8 3 h170).bind fun v171 h172 =>
      (loadR Prog 3 v171 h172).bind fun v173 h174 =>
      (fieldAddrR Prog 137 a8 5 h174).bind fun v175 h176 =>
      (loadR Prog 3 v175 h176).bind fun v177 h178 =>
      (call F.swashref01_Rows [v169, v173, v177, a12] h178).bind fun v179 h180 =>
      swashref07_Read_j1 k call a0 a6 a8 v179 a12 v119 h180))
    (
      swashref07_Read_j2 k call a0 a6 a8 v139 a12 v119 v139 h140))
  (
    .ok ((.exit 0), [(0, a0), (6, a6), (8, a8), (12, a12), (81, a11)]) h) :=
  (loopB_eq _ _).trans (by kernel_rfl)
theorem swashref07_Read_j1_eq (k : Nat) (call : Caller) (a0 a6 a8 a11 a12 a13 : Value) (h : Heap) : swashref07_Read_j1 k call a0 a6 a8 a11 a12 a13 h =
  condV (some a11) (
    (fieldAddrR Prog 137 a8 4 h).bindN fun v181 h182 =>
    (loadR Prog 3 v181 h182).bindN fun v183 h184 =>
    (fieldAddrR Prog 137 a8 3 h184).bindN fun v185 h186 =>
    (loadR Prog 3 v185 h186).bindN fun v187 h188 =>
    (fieldAddrR Prog 137 a8 5 h188).bindN fun v189 h190 =>
    (loadR Prog 3 v189 h190).bindN fun v191 h192 =>
    (call F.swashref07_needs [a0, v187, v191, a12] h192).bindT (fun p195 h196 => .panic p195 h196) fun v193 h194 =>
    (builtinV Prog .max [3, 3] [v183, v193] h194).bindN fun v197 h198 =>
    (fieldAddrR Prog 137 a8 4 h198).bindN fun v199 h200 =>
    (storeR Prog 3 v199 v197 h200).bindN fun _v201 h202 =>
    chkR ((okVal (loadR Prog 3 v181 h194) v183 && true) && true) (
    swashref07_Read_j3 k call a0 a6 a8 a11 a12 a13 h202))
  (
    swashref07_Read_j4 k call a0 a6 a8 a11 a12 a13 a11 h) := by kernel_rfl
theorem swashref07_Read_j2_eq (k : Nat) (call : Caller) (a0 a6 a8 a11 a12 a13 a93 : Value) (h : Heap) : swashref07_Read_j2 k call a0 a6 a8 a11 a12 a13 a93 h =
  condV (some a11) (
    (fieldAddrR Prog 137 a8 4 h).bindN fun v203 h204 =>
    (loadR Prog 3 v203 h204).bindN fun v205 h206 =>
    (fieldAddrR Prog 137 a8 3 h206).bindN fun v207 h208 =>
    (loadR Prog 3 v207 h208).bindN fun v209 h210 =>
    (fieldAddrR Prog 137 a8 5 h210).bindN fun v211 h212 =>
    (loadR Prog 3 v211 h212).bindN fun v213 h214 =>
    (call F.swashref07_needs [a0, v209, v213, a12] h214).bindT (fun p217 h218 => .panic p217 h218) fun v215 h216 =>
    (builtinV Prog .max [3, 3] [v205, v215] h216).bindN fun v219 h220 =>
    (fieldAddrR Prog 137 a8 4 h220).bindN fun v221 h222 =>
    (storeR Prog 3 v221 v219 h222).bindN fun _v223 h224 =>
    chkR ((okVal (loadR Prog 3 v203 h216) v205 && true) && true) (
    swashref07_Read_j3 k call a0 a6 a8 a11 a12 a13 h224))
  (
    swashref07_Read_j4 k call a0 a6 a8 a11 a12 a13 a11 h) := by kernel_rfl
theorem swashref07_Read_j3_eq (k : Nat) (call : Caller) (a0 a6 a8 a11 a12 a13 : Value) (h : Heap) : swashref07_Read_j3 k call a0 a6 a8 a11 a12 a13 h =
  ((bif wantVal a11 true then fieldAddrR Prog 137 a8 4 h else Res.ok undef h)).bind fun v225 h226 =>
  ((bif wantVal a11 true then loadR Prog 3 v225 h226 else Res.ok undef h226)).bind fun v227 h228 =>
  ((bif wantVal a11 true then fieldAddrR Prog 137 a13 4 h228 else Res.ok undef h228)).bind fun v229 h230 =>
  ((bif wantVal a11 true then loadR Prog 3 v229 h230 else Res.ok undef h230)).bind fun v231 h232 =>
  ((bif wantVal a11 true then binR Prog .eql 3 v227 v231 h232 else Res.ok undef h232)).bind fun v233 h234 =>
  (condV (some a11) (Res.ok v233 h234) (Res.ok (.bool false) h234)).bind fun v235 h236 =>
  ((bif wantVal v235 true then fieldAddrR Prog 137 a8 5 h236 else Res.ok undef h236)).bind fun v237 h238 =>
  ((bif wantVal v235 true then loadR Prog 3 v237 h238 else Res.ok undef h238)).bind fun v239 h240 =>
  ((bif wantVal v235 true then fieldAddrR Prog 137 a13 5 h240 else Res.ok undef h240)).bind fun v241 h242 =>
  ((bif wantVal v235 true then loadR Prog 3 v241 h242 else Res.ok undef h242)).bind fun v243 h244 =>
  ((bif wantVal v235 true then binR Prog .eql 3 v239 v243 h244 else Res.ok undef h244)).bind fun v245 h246 =>
  (condV (some v235) (Res.ok v245 h246) (Res.ok (.bool false) h246)).bind fun v247 h248 =>
  condV (some v247) (
    (loadR Prog 137 a8 h248).bind fun v249 h250 =>
    (storeR Prog 137 a6 v249 h250).bind fun _v251 h252 =>
    .ok (.ret, [(6, a6), (7, (.bool true))]) h252)
  (
    .ok (.normal, [(0, a0), (6, a6), (8, a8), (11, a11), (12, a12)]) h248) := by kernel_rfl
theorem swashref07_Read_j4_eq (k : Nat) (call : Caller) (a0 a6 a8 a11 a12 a13 a115 : Value) (h : Heap) : swashref07_Read_j4 k call a0 a6 a8 a11 a12 a13 a115 h =
  ((bif wantVal a11 true then fieldAddrR Prog 137 a8 4 h else Res.ok undef h)).bind fun v253 h254 =>
  ((bif wantVal a11 true then loadR Prog 3 v253 h254 else Res.ok undef h254)).bind fun v255 h256 =>
  ((bif wantVal a11 true then fieldAddrR Prog 137 a13 4 h256 else Res.ok undef h256)).bind fun v257 h258 =>
  ((bif wantVal a11 true then loadR Prog 3 v257 h258 else Res.ok undef h258)).bind fun v259 h260 =>
  ((bif wantVal a11 true then binR Prog .eql 3 v255 v259 h260 else Res.ok undef h260)).bind fun v261 h262 =>
  (condV (some a11) (Res.ok v261 h262) (Res.ok (.bool false) h262)).bind fun v263 h264 =>
  ((bif wantVal v263 true then fieldAddrR Prog 137 a8 5 h264 else Res.ok undef h264)).bind fun v265 h266 =>
  ((bif wantVal v263 true then loadR Prog 3 v265 h266 else Res.ok undef h266)).bind fun v267 h268 =>
  ((bif wantVal v263 true then fieldAddrR Prog 137 a13 5 h268 else Res.ok undef h268)).bind fun v269 h270 =>
  ((bif wantVal v263 true then loadR Prog 3 v269 h270 else Res.ok undef h270)).bind fun v271 h272 =>
  ((bif wantVal v263 true then binR Prog .eql 3 v267 v271 h272 else Res.ok undef h272)).bind fun v273 h274 =>
  (condV (some v263) (Res.ok v273 h274) (Res.ok (.bool false) h274)).bind fun v275 h276 =>
  condV (some v275) (
    (loadR Prog 137 a8 h276).bind fun v277 h278 =>
    (storeR Prog 137 a6 v277 h278).bind fun _v279 h280 =>
    .ok (.ret, [(6, a6), (7, (.bool true))]) h280)
  (
    .ok (.normal, [(0, a0), (6, a6), (8, a8), (11, a11), (12, a12)]) h276) := by kernel_rfl
theorem swashref07_Read_l1k_x0 (k : Nat) (call : Caller) (a0 a6 a8 a12 a81 : Value) (h : Heap) : swashref07_Read_l1k k call (.exit 0) [(0, a0), (6, a6), (8, a8), (12, a12), (81, a81)] h =
  (buildR Prog 137 [] h).bind fun v281 h282 =>
  (storeR Prog 137 a6 v281 h282).bind fun _v283 h284 =>
  (loadR Prog 137 a6 h284).bind fun v285 h286 =>
  .ok (.tuple #[v285, (.bool false)]) h286 := by kernel_rfl
theorem swashref07_Read_l1k_r (k : Nat) (call : Caller) (a6 a7 : Value) (h : Heap) : swashref07_Read_l1k k call .ret [(6, a6), (7, a7)] h =
  (loadR Prog 137 a6 h).bind fun v287 h288 =>
  .ok (.tuple #[v287, a7]) h288 := by kernel_rfl
def swashref07_needs_l1 (k : Nat) (call : Caller) : Env → Heap → Res (AExit × Env) := loopB (C k) call F.swashref07_needs [1, 1, 0, 1, 0, 0]
def swashref07_needs_l1k (k : Nat) (call : Caller) : Kont Value := kBlock 0 (kSeq (pieceK (C k) call F.swashref07_needs [1, 1, 1]) (kDone Prog (resOf Prog F.swashref07_needs)))
def swashref07_needs (k : Nat) (call : Caller) (a0 a1 a2 a3 : Value) (h : Heap) : Res Value :=
  (loopN (swashref07_needs_l1 k call) loopFuel [(0, a0), (1, a1), (2, a2), (3, a3), (9, (.int .i64 0)), (10, (.int .i64 0))] h).bind fun r1 h2 =>
  swashref07_needs_l1k k call r1.1 r1.2 h2
theorem swashref07_needs_R (k : Nat) (a0 a1 a2 a3 : Value) (h : Heap) : R (T k) F.swashref07_needs [a0, a1, a2, a3] h = nrm .gc h (swashref07_needs k (R (T k)) a0 a1 a2 a3 h) :=
  (R_body (t := T k) (T_scott k) (by kernel_rfl) _ _).trans (by kernel_rfl)
theorem swashref07_needs_l1_eq (k : Nat) (call : Caller) (a0 a1 a2 a3 a9 a10 : Value) (h : Heap) : swashref07_needs_l1 k call [(0, a0), (1, a1), (2, a2), (3, a3), (9, a9), (10, a10)] h =
  (binR Prog .lss 3 a10 a2 h).bind fun v3 h4 =>
  condV (some v3) (
    (binR Prog .mul 3 a10 a3 h4).bind fun v5 h6 =>
    (binR Prog .add 3 a1 v5 h6).bind fun v7 h8 =>
    (call F.swashref01_U [a0, v7, (.int .i64 2)] h8).bind fun v9 h10 =>
    (binR Prog .add 3 v9 (.int .i64 1) h10).bind fun v11 h12 =>
    (builtinV Prog .max [3, 3] [a9, v11] h12).bind fun v13 h14 =>
    (binR Prog .add 3 a10 (.int .i64 1) h14).bind fun v15 h16 =>
    .ok (.normal, [(0, a0), (1, a1), (2, a2), (3, a3), (9, v13), (10, v15)]) h16)
  (
    .ok ((.exit 0), [(0, a0), (1, a1), (2, a2), (3, a3), (9, a9), (10, a10), (13, v3)]) h4) :=
  (loopB_eq _ _).trans (by kernel_rfl)
theorem swashref07_needs_l1k_x0 (k : Nat) (call : Caller) (a0 a1 a2 a3 a9 a10 a13 : Value) (h : Heap) : swashref07_needs_l1k k call (.exit 0) [(0, a0), (1, a1), (2, a2), (3, a3), (9, a9), (10, a10), (13, a13)] h =
  .ok a9 h := by kernel_rfl
end
end Go.Sw
end
section
namespace Go.Sw
open Go.RowKit
theorem Star.stAll {H0 H : Heap} {L : List It} (h : Star H0 H L) (i : Nat) {c : Nat} {cells : List Value} {e : Nat} (hi : L[i]? = some (itBlk c ⟨cells, e, false⟩)) (vs : List Value) (n : Nat) (hn : cells.length = n) (hv : vs.length = n) :
    ∃ H', stR n (.pointer (some ⟨c, 0, none⟩)) (.agg vs.toArray) H = .ok undef H' ∧ Star H0 H' (L.set i (itBlk c ⟨vs, e, false⟩)) ∧ H'.n = H.n := by
  have hg := h.get i hi
  refine ⟨H.set c (some ⟨vs, e, false⟩), ?_, h.step i hi (by simp) (fun d _ hd => ?_) _ ?_ fun b hb => .inl hb, by simp⟩
  · have hd : cells.drop vs.length = [] := by rw [List.drop_eq_nil_iff]; omega
    simp [hg, hv, hd]
    rw [hv] at hd
    rw [if_pos (by omega), hd]
    simp
  · rw [get_set_ne]
    exact fun e => hd (show d ∈ [c] by simp [e])
  · exact get_set_eq _ _ _ (by rw [hg]; rfl)
theorem needs_run (k : Nat) (b : List Int) (hb : Byt b) (i step : Int) (n : Nat) (hi : 0 ≤ i ∧ i < 2 ^ 32) (hs : 0 ≤ step ∧ step ≤ 8) (hn : n < 2 ^ 33) (hl : b.length < 2 ^ 31) (H : Heap) :
    R (T k) F.swashref07_needs [lv encB b, .int .i64 i, .int .i64 n, .int .i64 step] H = .ok (.int .i64 (needsS b i step n)) H := by
  have hU := fun j H' => refU_run k (H := H') (Sl.lv H' 1 b) hb j 2 (by omega) (by omega)
  rw [swashref07_needs_R]
  obtain ⟨x, e', H1, hr, rfl, rfl, a, rfl⟩ := loop_up (body := swashref07_needs_l1 k (R (T k))) n
    (fun j e H' => H' = H ∧ e = [(0, lv encB b), (1, .int .i64 i), (2, .int .i64 n), (3, .int .i64 step), (9, .int .i64 (needsS b i step j)), (10, .int .i64 j)])
    (fun x e H' => H' = H ∧ x = .exit 0 ∧ ∃ a, e = [(0, lv encB b), (1, .int .i64 i), (2, .int .i64 n), (3, .int .i64 step), (9, .int .i64 (needsS b i step n)), (10, a), (13, .bool false)])
    (e0 := [(0, lv encB b), (1, .int .i64 i), (2, .int .i64 n), (3, .int .i64 step), (9, .int .i64 0), (10, .int .i64 0)]) (H0 := H) ⟨rfl, rfl⟩ (by omega)
    (fun j e H' hj ⟨hH, he⟩ => by
      subst he hH
      have hlt : (j : Int) < n := by omega
      have hm0 : 0 ≤ (j : Int) * step := Int.mul_nonneg (by omega) hs.1
      have hm1 : (j : Int) * step ≤ 8589934592 * 8 := Int.mul_le_mul (by omega) (by omega) (by omega) (by omega)
      have hu : ∀ H', R (T k) F.swashref01_U [lv encB b, .int .i64 (i + (j : Int) * step), .int .i64 2] H' = .ok (.int .i64 (gU b (i + (j : Int) * step) 2)) H' := fun H' => hU _ H'
      have hg := gU_two hb (i + (j : Int) * step)
      have hN : needsS b i step (j + 1) = (if gU b (i + (j : Int) * step) 2 + 1 > needsS b i step j then gU b (i + (j : Int) * step) 2 + 1 else needsS b i step j) := by
        unfold needsS
        rw [List.range_succ, List.map_append, List.map_singleton, needL_snoc]
        split <;> omega
      refine .inl ⟨_, H', ?_, rfl, rfl⟩
      rw [swashref07_needs_l1_eq, hN]
      generalize gU b (i + (j : Int) * step) 2 = y at *
      simp -implicitDefEqProofs (disch := omega) [hlt, hu])
    (fun e H' ⟨hH, he⟩ => by
      subst he hH
      refine ⟨.exit 0, _, H', ?_, by simp, rfl, rfl, .int .i64 n, rfl⟩
      rw [swashref07_needs_l1_eq]
      simp -implicitDefEqProofs)
  refine nrm_gc (Pure.of ?_) (.int _ _)
  simp -implicitDefEqProofs [swashref07_needs, hr, swashref07_needs_l1k_x0]
abbrev rmCells (b : List Int) (n j q S N w : Int) (tb : List Int) (ps : List RP) : List Value :=
  [lv encB b, .int .i64 n, .int .i64 j, .int .i64 q, .int .i64 S, .int .i64 N, .int .i64 w, lv encB tb, lv encRP ps]
abbrev rmV (r : RMach) : Value := .agg (rmCells r.b r.cl r.rowsAt r.entsAt r.states r.n r.words r.tb r.parts).toArray
theorem Flat.rm (r : RMach) : Flat (rmV r) := .aggL (.cons (Flat.B _) (.cons (.int _ _) (.cons (.int _ _) (.cons (.int _ _) (.cons (.int _ _) (.cons (.int _ _) (.cons (.int _ _) (.cons (Flat.B _) (.cons (Flat.RPs _) .nil)))))))))
abbrev rmZ : RMach := ⟨[], 0, 0, 0, 0, 0, 0, [], []⟩
def rmO (o : Option RMach) : Value := rmV (o.getD rmZ)
abbrev zCells : List Value := [.slice none 0 0, .int .i64 0, .int .i64 0, .int .i64 0, .int .i64 0, .int .i64 0, .int .i64 0, .slice none 0 0, .slice none 0 0]
set_option maxHeartbeats 1000000 in
theorem ref7_loop (k : Nat) (b : List Int) (hb : Byt b) (hl : b.length < 2 ^ 31) {n w j q : Int} (hn : 4 ≤ n ∧ n ≤ 65535) (hw : 0 ≤ w ∧ w ≤ 2) {rv ev : List Int} (hrv : restS b j = some rv) (hev : restS b q = some ev) (tb : List Int) (ps : List RP) {H0 H : Heap} {z c : Nat}
    (g : Star H0 H [itBlk z ⟨zCells, 1, false⟩, itBlk c ⟨rmCells b n j q 2 0 w tb ps, 1, false⟩]) :
    match closeA rv ev n w 2 with
    | some x => ∃ H' S N, loopN (swashref07_Read_l1 k (R (T k))) loopFuel [(0, lv encB b), (6, ptrV z), (8, ptrV c), (11, .bool true), (12, .int .i64 (4 + 2 * w))] H = .ok (.ret, [(6, ptrV z), (7, .bool true)]) H' ∧ Ext H0 H' ∧ H'.get z = some ⟨rmCells b n j q S N w tb ps, 1, false⟩ ∧ S = x.1.length ∧ N = x.2.length
    | none => ∃ H', loopN (swashref07_Read_l1 k (R (T k))) loopFuel [(0, lv encB b), (6, ptrV z), (8, ptrV c), (11, .bool true), (12, .int .i64 (4 + 2 * w))] H = .ok (.exit 0, [(0, lv encB b), (6, ptrV z), (8, ptrV c), (12, .int .i64 (4 + 2 * w)), (81, .bool false)]) H' ∧ Ext H0 H' ∧ H'.get z = some ⟨zCells, 1, false⟩ := by
  have hj := (restS_iff.1 hrv).1
  have hq := (restS_iff.1 hev).1
  have hbE := hb.rest hev
  have hbR := hb.rest hrv
  obtain ⟨n, rfl⟩ := Int.eq_ofNat_of_zero_le (show 0 ≤ n by omega)
  have hRows := fun i n z H' => refRows_run k b.length i n z (by omega) (by omega) H'
  obtain ⟨x, e', H1, hr, hQ⟩ := loopDec (body := swashref07_Read_l1 k (R (T k)))
    (fun m e H' => ∃ (S N : Nat) (fl : Bool), e = [(0, lv encB b), (6, ptrV z), (8, ptrV c), (11, .bool fl), (12, .int .i64 (4 + 2 * w))] ∧ 2 ≤ S ∧ S ≤ 65536 ∧ N ≤ 65536 ∧ Star H0 H' [itBlk z ⟨zCells, 1, false⟩, itBlk c ⟨rmCells b n j q S N w tb ps, 1, false⟩] ∧
      (fl = true → m = (65537 - S) * 65538 + (65537 - N) + 1 ∧ closeA rv ev n w 2 = closeA rv ev n w S ∧ ∀ rs, rowsTo rv n S = some rs → (N : Int) ≤ needR rs) ∧ (fl = false → m = 0 ∧ closeA rv ev n w 2 = none))
    (fun x e H' => (∃ (y : List (List Int) × List En) (S N : Int), closeA rv ev n w 2 = some y ∧ x = .ret ∧ e = [(6, ptrV z), (7, .bool true)] ∧ Ext H0 H' ∧ H'.get z = some ⟨rmCells b n j q S N w tb ps, 1, false⟩ ∧ S = y.1.length ∧ N = y.2.length) ∨
      (closeA rv ev n w 2 = none ∧ x = .exit 0 ∧ e = [(0, lv encB b), (6, ptrV z), (8, ptrV c), (12, .int .i64 (4 + 2 * w)), (81, .bool false)] ∧ Ext H0 H' ∧ H'.get z = some ⟨zCells, 1, false⟩))
    ((65537 - 2) * 65538 + 65537 + 1) (e0 := [(0, lv encB b), (6, ptrV z), (8, ptrV c), (11, .bool true), (12, .int .i64 (4 + 2 * w))]) (H0 := H) ⟨2, 0, true, rfl, by omega, by omega, by omega, g, fun _ => ⟨rfl, rfl, fun rs _ => needR_nonneg rs⟩, fun h => by cases h⟩ (by omega)
    (fun m e H' ⟨S, N, fl, he, hS2, hS6, hN6, g, ht, hf⟩ => by
      subst he
      cases fl with
      | false =>
        obtain ⟨hm, hc⟩ := hf rfl
        refine .inr ⟨.exit 0, _, H', ?_, by simp, .inr ⟨hc, rfl, rfl, g.ext, g.get 0 rfl⟩⟩
        rw [swashref07_Read_l1_eq]
        simp -implicitDefEqProofs
      | true =>
        obtain ⟨hm, hc, hNle⟩ := ht rfl
        clear hf ht
        have hcA := closeA_eq (rv := rv) hbE (n := (n : Int)) (w := w) hS6
        have hM := g.get 1 rfl
        have hcn : ¬ c = H'.n := by have := Heap.get_lt hM; omega
        have e0 : stR 9 (.pointer (some ⟨H'.n, 0, none⟩)) (.agg (rmCells b n j q S N w tb ps).toArray) (H'.push ⟨zCells, 1, false⟩) = .ok undef (H'.push ⟨rmCells b n j q S N w tb ps, 1, false⟩) := by simp
        have g1 := g.push ⟨rmCells b n j q S N w tb ps, 1, false⟩
        obtain ⟨P, hP⟩ : ∃ P, P = H'.push ⟨rmCells b n j q S N w tb ps, 1, false⟩ := ⟨_, rfl⟩
        rw [← hP] at g1 e0
        simp only [List.cons_append, List.nil_append] at g1
        have hMP := g1.get 1 rfl
        have hWP := g1.get 2 rfl
        have hre := rows_there hrv (show (0 : Int) < n by omega) (s := S) (by omega)
        have hR1 := fun H' => hRows j S (2 * n) H'
        cases hrt : rowsTo rv n S with
        | none =>
          rw [hrt] at hre
          simp at hre
          rw [hre] at hR1
          rw [hrt] at hcA
          refine .inl ⟨0, _, P, ?_, by omega, S, N, false, rfl, hS2, hS6, hN6, g1.take 2, (fun h => by cases h), fun _ => ⟨rfl, by rw [hc, hcA]; rfl⟩⟩
          rw [swashref07_Read_l1_eq]
          simp -implicitDefEqProofs (disch := omega) [-stR_ptr, hM, e0, hMP, hR1, swashref07_Read_j2_eq, swashref07_Read_j4_eq]
        | some rs =>
          rw [hrt] at hre
          simp at hre
          rw [hre] at hR1
          rw [hrt, Option.bind_some] at hcA
          have hrl : rs.length = S := by have := mapO_len hrt; simpa using this
          have hneed := rows_needs hrv (show (0 : Int) < n by omega) hrt
          have hNle := hNle rs hrt
          have hn6 := rowsTo_need hbR hrt
          have hn0 := needR_nonneg rs
          have hSn : (S : Int) * (n : Int) = ((S * n : Nat) : Int) := by simp
          have hSnb : S * n ≤ 65536 * 65535 := Nat.mul_le_mul (by omega) (by omega)
          rw [Int.toNat_natCast] at hneed
          have hnr := fun H' => needs_run k b hb j 2 (S * n) (by omega) (by omega) (by omega) hl H'
          rw [hneed, ← hSn] at hnr
          obtain ⟨N', hN'⟩ : ∃ N' : Nat, (N' : Int) = needR rs := ⟨(needR rs).toNat, by omega⟩
          have hmx : (if needR rs > N then needR rs else (N : Int)) = (N' : Int) := by rw [hN']; split <;> omega
          obtain ⟨P2, e2, g2, _⟩ := g1.stCell 1 rfl 5 (v := .int .i64 N') rfl rfl (by simp)
          simp only [List.set_cons_zero, List.set_cons_succ] at g2
          have hMP2 := g2.get 1 rfl
          have hWP2 := g2.get 2 rfl
          have hR2 := fun H' => hRows q N' (4 + 2 * w) H'
          have hee := ents_there hev hw.1 N'
          have hb1 : (S : Int) * (n : Int) ≤ 65536 * 65535 := by omega
          have hb0 : 0 ≤ (S : Int) * (n : Int) := by omega
          rw [show (needR rs).toNat = N' by omega] at hcA
          cases het : entsTo ev w N' with
          | none =>
            rw [het] at hee
            simp at hee
            rw [hee] at hR2
            rw [het] at hcA
            refine .inl ⟨0, _, P2, ?_, by omega, S, N', false, rfl, hS2, hS6, by omega, g2.take 2, (fun h => by cases h), fun _ => ⟨rfl, by rw [hc, hcA]; rfl⟩⟩
            rw [swashref07_Read_l1_eq]
            simp -implicitDefEqProofs (disch := omega) [-stR_ptr, hM, e0, hMP, hR1, hnr, hmx, e2, hMP2, hR2, swashref07_Read_j1_eq, swashref07_Read_j4_eq]
          | some es =>
            rw [het] at hee
            simp at hee
            rw [hee] at hR2
            rw [het, Option.bind_some] at hcA
            have hel : es.length = N' := by have := mapO_len het; simpa using this
            have hE := needE_le hbE het
            have hneed2 := ents_needs hev hw het
            have hnr2 := fun H' => needs_run k b hb q (4 + 2 * w) N' (by omega) (by omega) (by omega) hl H'
            rw [hneed2] at hnr2
            obtain ⟨S', hS'⟩ : ∃ S' : Nat, (S' : Int) = max (S : Int) (needE es) := ⟨(max (S : Int) (needE es)).toNat, by omega⟩
            have hEe : needE es = max 2 (needL (es.map En.next)) := rfl
            have hmx2 : (if needL (es.map En.next) > S then needL (es.map En.next) else (S : Int)) = (S' : Int) := by rw [hS', hEe]; split <;> omega
            have hL6 : needL (es.map En.next) ≤ 65536 := by omega
            obtain ⟨P3, e3, g3, _⟩ := g2.stCell 1 rfl 4 (v := .int .i64 S') rfl rfl (by simp)
            simp only [List.set_cons_zero, List.set_cons_succ] at g3
            have hMP3 := g3.get 1 rfl
            have hWP3 := g3.get 2 rfl
            by_cases hsame : S' = S ∧ N' = N
            · obtain ⟨rfl, rfl⟩ := hsame
              rw [if_pos (by omega)] at hcA
              obtain ⟨P4, e4, g4, _⟩ := g3.stAll 0 rfl (rmCells b n j q S' N' w tb ps) 9 rfl rfl
              simp only [List.set_cons_zero, List.set_cons_succ] at g4
              refine .inr ⟨.ret, _, P4, ?_, by simp, .inl ⟨_, S', N', by rw [hc, hcA], rfl, rfl, g4.ext, g4.get 0 rfl, by rw [hrl], by rw [hel]⟩⟩
              rw [swashref07_Read_l1_eq]
              simp -implicitDefEqProofs (disch := omega) [-stR_ptr, hM, e0, hMP, hR1, hnr, hmx, e2, hMP2, hR2, swashref07_Read_j1_eq, hnr2, hmx2, e3, hMP3, hWP3, swashref07_Read_j3_eq, e4]
            · refine .inl ⟨(65537 - S') * 65538 + (65537 - N') + 1, _, P3, ?_, ?_, S', N', true, rfl, by omega, by omega, by omega, g3.take 2, fun _ => ⟨rfl, ?_, ?_⟩, fun h => by cases h⟩
              · by_cases hs1 : S' = S
                · have hs2 : ((N' : Int) == (N : Int)) = false := by simp; omega
                  subst hs1
                  rw [swashref07_Read_l1_eq]
                  simp -implicitDefEqProofs (disch := omega) [-stR_ptr, hM, e0, hMP, hR1, hnr, hmx, e2, hMP2, hR2, swashref07_Read_j1_eq, hnr2, hmx2, e3, hMP3, hWP3, swashref07_Read_j3_eq, hs2]
                · have hs2 : ((S' : Int) == (S : Int)) = false := by simp; omega
                  rw [swashref07_Read_l1_eq]
                  simp -implicitDefEqProofs (disch := omega) [-stR_ptr, hM, e0, hMP, hR1, hnr, hmx, e2, hMP2, hR2, swashref07_Read_j1_eq, hnr2, hmx2, e3, hMP3, hWP3, swashref07_Read_j3_eq, hs2]
              · omega
              · rw [hc]
                by_cases hcl : (needE es).toNat ≤ S
                · rw [show S' = S by omega]
                · rw [hcA, if_neg hcl, show S' = (needE es).toNat by omega]
              · intro rt hrt2
                have := needR_mono (s := S) (t := S') (by omega) hrt hrt2
                omega)
  rcases hQ with ⟨y, S, N, h1, rfl, rfl, h2, h3, h4⟩ | ⟨h1, rfl, rfl, h2, h3⟩
  · rw [h1]; exact ⟨H1, S, N, hr, h2, h3, h4⟩
  · rw [h1]; exact ⟨H1, hr, h2, h3⟩
end Go.Sw
end
section
namespace Go.Sw
open Go.RowKit
theorem gU_four {b : List Int} (hb : Byt b) (i : Int) : -1 ≤ gU b i 4 ∧ gU b i 4 < 4294967296 := by
  unfold gU
  cases h : uS b i 4 with
  | none => simp
  | some x => have := uS_four hb h; simp; omega
theorem gU_lt {b : List Int} {i : Int} (h : ¬ gU b i 4 < 0) : uS b i 4 = some (gU b i 4) := by
  unfold gU at h ⊢
  cases hu : uS b i 4 with
  | none => rw [hu] at h; simp at h
  | some x => rfl
set_option maxHeartbeats 1000000 in
theorem ref7Read_run (k : Nat) (b : List Int) (hb : Byt b) (g w : Int) (hg : 1 ≤ g ∧ g ≤ 65535) (hw : w = 0 ∨ w = 1 ∨ w = 2) (hl : b.length < 2 ^ 31) (H : Heap) :
    R (T k) F.swashref07_Read [lv encB b, .int .i64 g, .int .i64 w] H = .ok (.tuple #[rmO (refMachS b g w), .bool (refMachS b g w).isSome]) H := by
  rw [swashref07_Read_R]
  have hU := fun j H' => refU_run k (H := H') (Sl.lv H' 1 b) hb j 4 (by omega) (by omega)
  have u0 : ∀ H', R (T k) F.swashref01_U [lv encB b, .int .i64 0, .int .i64 4] H' = .ok (.int .i64 (gU b 0 4)) H' := fun H' => hU _ H'
  have u4 : ∀ H', R (T k) F.swashref01_U [lv encB b, .int .i64 4, .int .i64 4] H' = .ok (.int .i64 (gU b 4 4)) H' := fun H' => hU _ H'
  have u8 : ∀ H', R (T k) F.swashref01_U [lv encB b, .int .i64 8, .int .i64 4] H' = .ok (.int .i64 (gU b 8 4)) H' := fun H' => hU _ H'
  have u12 : ∀ H', R (T k) F.swashref01_U [lv encB b, .int .i64 12, .int .i64 4] H' = .ok (.int .i64 (gU b 12 4)) H' := fun H' => hU _ H'
  have b0 := gU_four hb 0
  have b4 := gU_four hb 4
  have b8 := gU_four hb 8
  have b12 := gU_four hb 12
  have fl : ∀ o : Option RMach, Flat (.tuple #[rmO o, .bool o.isSome]) := fun o => .tupleL (.cons (Flat.rm _) (.cons (.bool _) .nil))
  obtain ⟨n, hn⟩ : ∃ n, gU b 0 4 = n := ⟨_, rfl⟩
  obtain ⟨i, hi⟩ : ∃ i, gU b 4 4 = i := ⟨_, rfl⟩
  obtain ⟨j, hj⟩ : ∃ j, gU b 8 4 = j := ⟨_, rfl⟩
  obtain ⟨q, hq⟩ : ∃ q, gU b 12 4 = q := ⟨_, rfl⟩
  rw [hn] at u0 b0
  rw [hi] at u4 b4
  rw [hj] at u8 b8
  rw [hq] at u12 b12
  obtain ⟨M1, hM1⟩ : ∃ M1 : Blk, M1 = ⟨[lv encB b, .int .i64 n, .int .i64 j, .int .i64 q, .int .i64 2, .int .i64 0, .int .i64 w, .slice none 0 0, .slice none 0 0], 1, false⟩ := ⟨_, rfl⟩
  have hx2 : Ext H ((H.push ⟨zCells, 1, false⟩).push M1) := ((Ext.refl H).push _).push _
  -- one thing is not as it should be
  have no : machS b g w = none → swashref07_Read k (R (T k)) (lv encB b) (.int .i64 g) (.int .i64 w) H = .ok (.tuple #[.agg zCells.toArray, .bool false]) ((H.push ⟨zCells, 1, false⟩).push M1) → nrm .fz H (swashref07_Read k (R (T k)) (lv encB b) (.int .i64 g) (.int .i64 w) H) = .ok (.tuple #[rmO (refMachS b g w), .bool (refMachS b g w).isSome]) H := fun h1 h2 => by
    have : refMachS b g w = none := by unfold refMachS; rw [h1]; rfl
    rw [this]
    exact nrm_fz (L := []) h2 rfl hx2 (fl none).alive
  have n0 : ∀ m, machS b g w = some m → (4 ≤ n ∧ n ≤ 65535) ∧ 0 ≤ i ∧ i ≤ b.length ∧ 0 ≤ j ∧ j ≤ b.length ∧ 0 ≤ q ∧ q ≤ b.length := fun m hm => by
    obtain ⟨i', j', q', tb, rv, ev, x, h0, h1, h2, h3, h4, h5, h6, h7, h8, h9, _⟩ := machS_parts hm
    have e0 := gU_some h0
    have e3 := gU_some h3
    have e6 := gU_some h6
    have e8 := gU_some h8
    rw [hn] at e0
    rw [hi] at e3
    rw [hj] at e6
    rw [hq] at e8
    have r4 := (restS_iff.1 h4).1
    have r7 := (restS_iff.1 h7).1
    have r9 := (restS_iff.1 h9).1
    omega
  have nn : ¬ ((4 ≤ n ∧ n ≤ 65535) ∧ 0 ≤ i ∧ i ≤ b.length ∧ 0 ≤ j ∧ j ≤ b.length ∧ 0 ≤ q ∧ q ≤ b.length) → machS b g w = none := fun h => by
    cases hm : machS b g w with
    | none => rfl
    | some m => exact absurd (n0 m hm) h
  by_cases c1 : n < 4
  · refine no (nn (by omega)) ?_
    rw [hM1]
    simp -implicitDefEqProofs (disch := omega) [swashref07_Read, u0, u4, u8, u12, c1]
  by_cases c2 : n > 65535
  · refine no (nn (by omega)) ?_
    rw [hM1]
    simp -implicitDefEqProofs (disch := omega) [swashref07_Read, u0, u4, u8, u12, c1, c2]
  by_cases c3 : j < 0
  · refine no (nn (by omega)) ?_
    rw [hM1]
    simp -implicitDefEqProofs (disch := omega) [swashref07_Read, u0, u4, u8, u12, c1, c2, c3]
  by_cases c4 : q < 0
  · refine no (nn (by omega)) ?_
    rw [hM1]
    simp -implicitDefEqProofs (disch := omega) [swashref07_Read, u0, u4, u8, u12, c1, c2, c3, c4]
  by_cases c5 : j > b.length
  · refine no (nn (by omega)) ?_
    rw [hM1]
    simp -implicitDefEqProofs (disch := omega) [swashref07_Read, u0, u4, u8, u12, c1, c2, c3, c4, c5]
  by_cases c6 : q > b.length
  · refine no (nn (by omega)) ?_
    rw [hM1]
    simp -implicitDefEqProofs (disch := omega) [swashref07_Read, u0, u4, u8, u12, c1, c2, c3, c4, c5, c6]
  by_cases c7 : i < 0
  · refine no (nn (by omega)) ?_
    rw [hM1]
    simp -implicitDefEqProofs (disch := omega) [swashref07_Read, u0, u4, u8, u12, c1, c2, c3, c4, c5, c6, c7]
  by_cases c8 : i > b.length
  · refine no (nn (by omega)) ?_
    rw [hM1]
    simp -implicitDefEqProofs (disch := omega) [swashref07_Read, u0, u4, u8, u12, c1, c2, c3, c4, c5, c6, c7, c8]
  clear no nn n0
  have hU0 := gU_lt (b := b) (i := 0) (by omega)
  have hU4 := gU_lt (b := b) (i := 4) (by omega)
  have hU8 := gU_lt (b := b) (i := 8) (by omega)
  have hU12 := gU_lt (b := b) (i := 12) (by omega)
  rw [hn] at hU0
  rw [hi] at hU4
  rw [hj] at hU8
  rw [hq] at hU12
  obtain ⟨tb, htb⟩ : ∃ tb, tb = b.drop i.toNat := ⟨_, rfl⟩
  have r4 : restS b i = some tb := restS_iff.2 ⟨by omega, htb⟩
  have r8 : restS b j = some (b.drop j.toNat) := restS_iff.2 ⟨by omega, rfl⟩
  have r12 : restS b q = some (b.drop q.toNat) := restS_iff.2 ⟨by omega, rfl⟩
  have hsl := fun H' => slS_lv encB_len b (some (.int .i64 i)) none none i.toNat b.length b.length (by unfold boundOf; dsimp only; rw [if_pos (by omega)]) rfl rfl (fun h => by cases h) (by omega) (Nat.le_refl _) (Nat.le_refl _) H'
  rw [List.take_length, ← htb] at hsl
  have htbb : Byt tb := hb.rest r4
  have htbl : tb.length < 2 ^ 31 := by rw [htb]; simp; omega
  have hrd := fun H' => read06_run k tb htbb g 2 hg (.inl rfl) htbl H'
  have hlr := look_ref htbb hg.1 hg.2 (.inl rfl : (2 : Int) = 2 ∨ (2 : Int) = 4)
  have hmach : machS b g w = (lookS tb g 2).bind fun tab => (closeA (b.drop j.toNat) (b.drop q.toNat) n w 2).map fun x => ⟨n, tab, x.1, x.2⟩ := by
    unfold machS
    rw [hU0, Option.bind_some, if_pos (by omega), hU4, Option.bind_some, r4, Option.bind_some]
    congr 1
    funext tab
    rw [hU8, Option.bind_some, r8, Option.bind_some, hU12, Option.bind_some, r12, Option.bind_some]
  cases hlk : lookS tb g 2 with
  | none =>
    have hm : refMachS b g w = none := by unfold refMachS; rw [hmach, hlk]; rfl
    rw [hm]
    have hrr := hlr.2 hlk
    rw [hrr] at hrd
    simp only [tabRO, Option.isSome_none] at hrd
    obtain ⟨x, e', H1, hr, rfl, rfl, rfl⟩ := loopDec (body := swashref07_Read_l1 k (R (T k)))
      (fun m e H' => H' = (((H.push ⟨zCells, 1, false⟩).push ⟨rmCells b n j q 2 0 w [] [], 1, false⟩).push ⟨[lv encB [], lv encRP []], 1, false⟩) ∧ e = [(0, lv encB b), (6, ptrV H.n), (8, ptrV (H.n + 1)), (11, .bool false), (12, .int .i64 (4 + 2 * w))])
      (fun x e H' => H' = (((H.push ⟨zCells, 1, false⟩).push ⟨rmCells b n j q 2 0 w [] [], 1, false⟩).push ⟨[lv encB [], lv encRP []], 1, false⟩) ∧ x = .exit 0 ∧ e = [(0, lv encB b), (6, ptrV H.n), (8, ptrV (H.n + 1)), (12, .int .i64 (4 + 2 * w)), (81, .bool false)])
      0 (e0 := [(0, lv encB b), (6, ptrV H.n), (8, ptrV (H.n + 1)), (11, .bool false), (12, .int .i64 (4 + 2 * w))]) (H0 := (((H.push ⟨zCells, 1, false⟩).push ⟨rmCells b n j q 2 0 w [] [], 1, false⟩).push ⟨[lv encB [], lv encRP []], 1, false⟩)) ⟨rfl, rfl⟩ (by omega)
      (fun m e H' ⟨hH, he⟩ => by
        subst hH he
        refine .inr ⟨.exit 0, _, _, ?_, by simp, rfl, rfl, rfl⟩
        rw [swashref07_Read_l1_eq]
        simp -implicitDefEqProofs)
    refine nrm_fz (L := []) (v := .tuple #[.agg zCells.toArray, .bool false]) (H' := ((H.push ⟨zCells, 1, false⟩).push ⟨rmCells b n j q 2 0 w [] [], 1, false⟩).push ⟨[lv encB [], lv encRP []], 1, false⟩) ?_ rfl ((((Ext.refl H).push _).push _).push _) (fl none).alive
    simp -implicitDefEqProofs (disch := omega) [swashref07_Read, u0, u4, u8, u12, c1, c2, c3, c4, c5, c6, c7, c8, hsl, hrd, hr, swashref07_Read_l1k_x0]
  | some tab =>
    obtain ⟨ps, hps, hrel⟩ := hlr.1 tab hlk
    rw [hps] at hrd
    simp only [tabRO, Option.isSome_some] at hrd
    have st := ((Star.nil H).push ⟨zCells, 1, false⟩).push ⟨rmCells b n j q 2 0 w tb ps, 1, false⟩
    have st := st.rest ((Ext.refl _).push ⟨[lv encB tb, lv encRP ps], 1, false⟩)
    have hlp := ref7_loop k b hb hl (n := n) (w := w) (by omega) (by omega) r8 r12 tb ps (by simpa using st)
    cases hcl : closeA (b.drop j.toNat) (b.drop q.toNat) n w 2 with
    | none =>
      have hm : refMachS b g w = none := by unfold refMachS; rw [hmach, hlk, Option.bind_some, hcl]; rfl
      rw [hm]
      rw [hcl] at hlp
      obtain ⟨H2, hr, hx, hz⟩ := hlp
      have hgs : (H2.set H.n (some ⟨zCells, 1, false⟩)).get H.n = some ⟨zCells, 1, false⟩ := get_set_eq _ _ _ (by rw [hz]; rfl)
      have hx3 : Ext H (H2.set H.n (some ⟨zCells, 1, false⟩)) := ⟨by simpa using hx.1, fun d hd hs => by rw [get_set_ne _ _ _ _ (by omega)]; exact hx.2 d hd hs⟩
      refine nrm_fz (L := []) (v := .tuple #[.agg zCells.toArray, .bool false]) (H' := H2.set H.n (some ⟨zCells, 1, false⟩)) ?_ rfl hx3 (fl none).alive
      simp -implicitDefEqProofs (disch := omega) [swashref07_Read, u0, u4, u8, u12, c1, c2, c3, c4, c5, c6, c7, c8, hsl, hrd, hr, swashref07_Read_l1k_x0, hz, hgs]
    | some x =>
      have hm : refMachS b g w = some (rmOf b g w ⟨n, tab, x.1, x.2⟩) := by unfold refMachS; rw [hmach, hlk, Option.bind_some, hcl]; rfl
      rw [hm]
      rw [hcl] at hlp
      obtain ⟨H2, S, N, hr, hx, hz, rfl, rfl⟩ := hlp
      have hrm : rmO (some (rmOf b g w ⟨n, tab, x.1, x.2⟩)) = .agg (rmCells b n j q x.1.length x.2.length w tb ps).toArray := by
        unfold rmO rmOf
        rw [hj, hq, hi, ← htb, hps]
        rfl
      have fl2 := fl (some (rmOf b g w ⟨n, tab, x.1, x.2⟩))
      rw [hrm] at fl2 ⊢
      refine nrm_fz (L := []) (v := .tuple #[.agg (rmCells b n j q x.1.length x.2.length w tb ps).toArray, .bool true]) (H' := H2) ?_ rfl hx fl2.alive
      simp -implicitDefEqProofs (disch := omega) [swashref07_Read, u0, u4, u8, u12, c1, c2, c3, c4, c5, c6, c7, c8, hsl, hrd, hr, swashref07_Read_l1k_r, hz]
end Go.Sw
end
section
namespace Go.Sw
theorem row_I {r : List Da} {cs : List Value} (h : LayRow [.int .i64] r cs) : ∃ n : Int, cs = encI n ∧ (Lit.int .i64 n).wf = true := by
  obtain ⟨d, v, ds, vs, rfl, h1, h2⟩ := h.head
  obtain rfl := h2.done
  obtain ⟨n, rfl, w⟩ := h1.intv
  exact ⟨n, rfl, w⟩
theorem wf_u8 {n : Int} (h : (Lit.int .u8 n).wf = true) : 0 ≤ n ∧ n < 256 := by
  simp [Lit.wf, IntKind.min, IntKind.max, IntKind.signed, IntKind.bits] at h
  omega
theorem row_B {r : List Da} {cs : List Value} (h : LayRow [.int .u8] r cs) : ∃ n : Int, cs = encB n ∧ (0 ≤ n ∧ n < 256) := by
  obtain ⟨d, v, ds, vs, rfl, h1, h2⟩ := h.head
  obtain rfl := h2.done
  obtain ⟨n, rfl, w⟩ := h1.intv
  exact ⟨n, rfl, wf_u8 w⟩
theorem arg_B {v : Value} (h : ArgLay (.one (.slice [.int .u8])) v) : ∃ b, v = lv encB b ∧ Byt b := by
  obtain ⟨d, h1⟩ := h.cell
  obtain ⟨b, rfl, hb⟩ := Lay.list (enc := encB) (ok := fun n => 0 ≤ n ∧ n < 256) (fun r cs h => row_B h) h1
  exact ⟨b, rfl, hb⟩
theorem arg_I {v : Value} (h : ArgLay (.one (.slice [.int .i64])) v) : ∃ l, v = lv encI l ∧ ∀ n, n ∈ l → (Lit.int .i64 n).wf = true := by
  obtain ⟨d, h1⟩ := h.cell
  exact Lay.list (enc := encI) (ok := fun n => (Lit.int .i64 n).wf = true) (fun r cs h => row_I h) h1
end Go.Sw
end
section
namespace Go.Sw
open Go.RowKit
end Go.Sw
end
section
namespace Go.Sw
open Go.RowKit
theorem planRoom_byt {p : Plan} (hp : p.ok) (w : Int) {rm : List Int} (hrm : Byt rm) : Byt (planRoom p w rm) := by
  have tw : ∀ l, Byt (twos l) := fun l => Byt.flat fun r hr => by obtain ⟨c, _, rfl⟩ := List.mem_map.1 hr; exact bytesOf_byt _ _
  unfold planRoom
  refine (bytesOf_byt _ _).app ((bytesOf_byt _ _).app ((bytesOf_byt _ _).app ((bytesOf_byt _ _).app (hrm.app (Byt.app ?_ (Byt.app ?_ ?_))))))
  · unfold ofS
    exact (((bytesOf_byt _ _).app (bytesOf_byt _ _)).app (bytesOf_byt _ _)).app (tw _)
  · exact Byt.flat fun r hr => by obtain ⟨c, _, rfl⟩ := List.mem_map.1 hr; exact tw _
  · refine Byt.flat fun r hr => ?_
    obtain ⟨e, _, rfl⟩ := List.mem_map.1 hr
    unfold entB
    refine (((bytesOf_byt _ _).app (bytesOf_byt _ _)).app ?_).app ?_
    · split
      · exact bytesOf_byt _ _
      · exact Byt.nil
    · split
      · exact bytesOf_byt _ _
      · exact Byt.nil
theorem rep_byt (n : Nat) : Byt (List.replicate n 0) := fun x hx => by
  have := List.eq_of_mem_replicate hx
  omega
theorem planRoom_len {p : Plan} (hp : p.ok) (w : Int) {rm : List Int} (hrm : rm.length ≤ 1000) (h1 : p.cls.length ≤ 1000) (h2 : p.rows.length ≤ 1000) (h3 : p.ents.length ≤ 1000) : (planRoom p w rm).length ≤ 100000 := by
  have hN := planN_eq p hp.2.2
  have hofl : (ofS p.cls).length = 6 + p.cls.length * 2 := by unfold ofS; simp [twos_len]; omega
  have hrl : (rowsL (planN p) p.rows).length ≤ 1000 * 22 := by rw [rowsL_len]; exact Nat.mul_le_mul h2 (by omega)
  have hel := entsB_len w p.ents
  unfold planRoom
  simp
  omega
theorem row_En {r : List Da} {cs : List Value} (h : LayRow [.int .i64, .int .i64, .int .i64, .int .i64] r cs) : ∃ p : En, cs = encEn p ∧ True := by
  obtain ⟨_, v1, _, _, rfl, h1, h⟩ := h.head
  obtain ⟨_, v2, _, _, rfl, h2, h⟩ := h.head
  obtain ⟨_, v3, _, _, rfl, h3, h⟩ := h.head
  obtain ⟨_, v4, _, _, rfl, h4, h⟩ := h.head
  obtain rfl := h.done
  obtain ⟨a, rfl, _⟩ := h1.intv
  obtain ⟨b, rfl, _⟩ := h2.intv
  obtain ⟨c, rfl, _⟩ := h3.intv
  obtain ⟨d, rfl, _⟩ := h4.intv
  exact ⟨⟨a, b, c, d⟩, rfl, trivial⟩
theorem row_BR {r : List Da} {cs : List Value} (h : LayRow [.slice [.int .u8]] r cs) : ∃ b : List Int, cs = encBR b ∧ Byt b := by
  obtain ⟨_, v1, _, _, rfl, h1, h⟩ := h.head
  obtain rfl := h.done
  obtain ⟨b, rfl, hb⟩ := Lay.list (enc := encB) (ok := fun n => 0 ≤ n ∧ n < 256) (fun r cs h => row_B h) h1
  exact ⟨b, rfl, hb⟩
abbrev planSh : ASh := .agg [.slice [.int .u8], .slice [.slice [.int .u8]], .slice [.int .i64, .int .i64, .int .i64, .int .i64], .int .u8]
theorem arg_plan {v : Value} (h : ArgLay planSh v) : ∃ p, v = planV p ∧ p.ok := by
  cases h with
  | agg ss ds vs h =>
    obtain ⟨_, v1, _, _, rfl, h1, h⟩ := h.head
    obtain ⟨_, v2, _, _, rfl, h2, h⟩ := h.head
    obtain ⟨_, v3, _, _, rfl, h3, h⟩ := h.head
    obtain ⟨_, v4, _, _, rfl, h4, h⟩ := h.head
    obtain rfl := h.done
    obtain ⟨a, rfl, wa⟩ := Lay.list (enc := encB) (ok := fun n => 0 ≤ n ∧ n < 256) (fun r cs h => row_B h) h1
    obtain ⟨b, rfl, wb⟩ := Lay.list (enc := encBR) (ok := Byt) (fun r cs h => row_BR h) h2
    obtain ⟨c, rfl, wc⟩ := Lay.list (enc := encEn) (ok := fun _ => True) (fun r cs h => row_En h) h3
    obtain ⟨d, rfl, wd⟩ := h4.intv
    exact ⟨⟨a, b, c, d⟩, rfl, wa, wb, wf_u8 wd⟩
end Go.Sw
end
section
set_option maxRecDepth 100000
set_option linter.unusedVariables false
namespace Go.Sw
noncomputable section
def swashlaw12_DriveStuck_l1 (k : Nat) (call : Caller) : Env → Heap → Res (AExit × Env) := loopB (C k) call F.swashlaw12_DriveStuck [1, 1, 1, 1, 1, 0, 1, 0, 0]
def swashlaw12_DriveStuck_l1k (k : Nat) (call : Caller) : Kont Value := kBlock 0 (kSeq (pieceK (C k) call F.swashlaw12_DriveStuck [1, 1, 1, 1, 1, 1]) (kDone Prog (resOf Prog F.swashlaw12_DriveStuck)))
def swashlaw12_DriveStuck (k : Nat) (call : Caller) (a0 a1 : Value) (h : Heap) : Res Value :=
  (boxR a0 h).bind fun v1 h2 =>
  (call F.swashlaw12_speaks [] h2).bind fun v3 h4 =>
  (unR .not v3 h4).bind fun v5 h6 =>
  condV (some v5) (
    .ok (.bool false) h6)
  (
    (loadR Prog 146 v1 h6).bind fun v7 h8 =>
    (call F.swashlaw12_small [v7, a1] h8).bind fun v9 h10 =>
    (unR .not v9 h10).bind fun v11 h12 =>
    condV (some v11) (
      .ok (.bool true) h12)
    (
      (loadR Prog 146 v1 h12).bind fun v13 h14 =>
      (allocR Prog 146 h14).bind fun v15 h16 =>
      (storeR Prog 146 v15 v13 h16).bind fun _v17 h18 =>
      (buildSliceR Prog 144 0 [] h18).bind fun v19 h20 =>
      (fieldAddrR Prog 146 v1 2 h20).bind fun v21 h22 =>
      (loadR Prog 144 v21 h22).bind fun v23 h24 =>
      (builtinV Prog .append [144, 144] [v19, v23] h24).bind fun v25 h26 =>
      (fieldAddrR Prog 146 v15 2 h26).bind fun v27 h28 =>
      (storeR Prog 144 v27 v25 h28).bind fun _v29 h30 =>
      (fieldAddrR Prog 146 v15 2 h30).bind fun v31 h32 =>
      (loadR Prog 144 v31 h32).bind fun v33 h34 =>
      (builtinV Prog .len [144] [v33] h34).bind fun v35 h36 =>
      (loopN (swashlaw12_DriveStuck_l1 k call) loopFuel [(1, a1), (5, v15), (29, v35), (30, (.int .i64 0))] h36).bind fun r37 h38 =>
      swashlaw12_DriveStuck_l1k k call r37.1 r37.2 h38))
theorem swashlaw12_DriveStuck_R (k : Nat) (a0 a1 : Value) (h : Heap) : R (T k) F.swashlaw12_DriveStuck [a0, a1] h = nrm .gc h (swashlaw12_DriveStuck k (R (T k)) a0 a1 h) :=
  (R_body (t := T k) (T_scott k) (by kernel_rfl) _ _).trans (by kernel_rfl)
theorem swashlaw12_DriveStuck_l1_eq (k : Nat) (call : Caller) (a1 a5 a29 a30 : Value) (h : Heap) : swashlaw12_DriveStuck_l1 k call [(1, a1), (5, a5), (29, a29), (30, a30)] h =
  (binR Prog .lss 3 a30 a29 h).bind fun v39 h40 =>
  condV (some v39) (
    (fieldAddrR Prog 146 a5 2 h40).bind fun v41 h42 =>
    (loadR Prog 144 v41 h42).bind fun v43 h44 =>
    (indexAddrR Prog 144 v43 a30 h44).bind fun v45 h46 =>
    (fieldAddrR Prog 150 v45 1 h46).bind fun v47 h48 =>
    (loadR Prog 3 v47 h48).bind fun v49 h50 =>
    (binR Prog .or 3 v49 (.int .i64 16384) h50).bind fun v51 h52 =>
    (indexAddrR Prog 144 v43 a30 h52).bind fun v53 h54 =>
    (fieldAddrR Prog 150 v53 1 h54).bind fun v55 h56 =>
    (storeR Prog 3 v55 v51 h56).bind fun _v57 h58 =>
    (binR Prog .add 3 a30 (.int .i64 1) h58).bind fun v59 h60 =>
    .ok (.normal, [(1, a1), (5, a5), (29, a29), (30, v59)]) h60)
  (
    .ok ((.exit 0), [(1, a1), (5, a5), (29, a29), (30, a30), (31, v39)]) h40) :=
  (loopB_eq _ _).trans (by kernel_rfl)
theorem swashlaw12_DriveStuck_l1k_x0 (k : Nat) (call : Caller) (a1 a5 a29 a30 a31 : Value) (h : Heap) : swashlaw12_DriveStuck_l1k k call (.exit 0) [(1, a1), (5, a5), (29, a29), (30, a30), (31, a31)] h =
  (loadR Prog 146 a5 h).bind fun v61 h62 =>
  (call F.swashlaw07_Write [v61, (.int .i64 0), (.int .i64 0)] h62).bind fun v63 h64 =>
  (call F.state_Read [v63, (.int .i64 40), (.int .i64 0)] h64).bind fun v65 h66 =>
  (extractR v65 0 h66).bind fun v67 h68 =>
  (extractR v65 1 h68).bind fun v69 h70 =>
  (call F.swashref07_Read [v63, (.int .i64 40), (.int .i64 0)] h70).bind fun v71 h72 =>
  (extractR v71 0 h72).bind fun v73 h74 =>
  (extractR v71 1 h74).bind fun v75 h76 =>
  (allocR Prog 137 h76).bind fun v77 h78 =>
  (storeR Prog 137 v77 v73 h78).bind fun _v79 h80 =>
  (binR Prog .eql 133 v67 (.pointer none) h80).bind fun v81 h82 =>
  ((bif wantVal v81 false then Res.ok v75 h82 else Res.ok undef h82)).bind fun v83 h84 =>
  ((bif wantVal v81 false then unR .not v83 h84 else Res.ok undef h84)).bind fun v85 h86 =>
  (condV (some v81) (Res.ok (.bool true) h86) (Res.ok v85 h86)).bind fun v87 h88 =>
  ((bif wantVal v87 false then fieldAddrR Prog 137 v77 5 h88 else Res.ok undef h88)).bind fun v89 h90 =>
  ((bif wantVal v87 false then loadR Prog 3 v89 h90 else Res.ok undef h90)).bind fun v91 h92 =>
  ((bif wantVal v87 false then fieldAddrR Prog 146 a5 2 h92 else Res.ok undef h92)).bind fun v93 h94 =>
  ((bif wantVal v87 false then loadR Prog 144 v93 h94 else Res.ok undef h94)).bind fun v95 h96 =>
  ((bif wantVal v87 false then builtinV Prog .len [144] [v95] h96 else Res.ok undef h96)).bind fun v97 h98 =>
  ((bif wantVal v87 false then binR Prog .gtr 3 v91 v97 h98 else Res.ok undef h98)).bind fun v99 h100 =>
  (condV (some v87) (Res.ok (.bool true) h100) (Res.ok v99 h100)).bind fun v101 h102 =>
  ((bif wantVal v101 false then fieldAddrR Prog 137 v77 4 h102 else Res.ok undef h102)).bind fun v103 h104 =>
  ((bif wantVal v101 false then loadR Prog 3 v103 h104 else Res.ok undef h104)).bind fun v105 h106 =>
  ((bif wantVal v101 false then fieldAddrR Prog 146 a5 1 h106 else Res.ok undef h106)).bind fun v107 h108 =>
  ((bif wantVal v101 false then loadR Prog 143 v107 h108 else Res.ok undef h108)).bind fun v109 h110 =>
  ((bif wantVal v101 false then builtinV Prog .len [143] [v109] h110 else Res.ok undef h110)).bind fun v111 h112 =>
  ((bif wantVal v101 false then binR Prog .gtr 3 v105 v111 h112 else Res.ok undef h112)).bind fun v113 h114 =>
  (condV (some v101) (Res.ok (.bool true) h114) (Res.ok v113 h114)).bind fun v115 h116 =>
  condV (some v115) (
    (binR Prog .eql 133 v67 (.pointer none) h116).bind fun v117 h118 =>
    ((bif wantVal v117 false then Res.ok v75 h118 else Res.ok undef h118)).bind fun v119 h120 =>
    (condV (some v117) (Res.ok (.bool true) h120) (Res.ok v119 h120)).bind fun v121 h122 =>
    .ok v121 h122)
  (
    (allocR Prog 3 h116).bind fun v123 h124 =>
    (storeR Prog 3 v123 (.int .i64 0) h124).bind fun _v125 h126 =>
    (call F.line_New [a1] h126).bind fun v127 h128 =>
    (call F.drive_Plain [(.func (.func F.swashlaw12_DriveStuck_in1) #[] #[v123])] h128).bind fun v129 h130 =>
    (call F.drive_Run [v67, v127, v129] h130).bind fun v131 h132 =>
    (extractR v131 0 h132).bind fun v133 h134 =>
    (extractR v131 1 h134).bind fun v135 h136 =>
    (binR Prog .eql 3 v133 (.int .i64 65) h136).bind fun v137 h138 =>
    ((bif wantVal v137 true then Res.ok v135 h138 else Res.ok undef h138)).bind fun v139 h140 =>
    ((bif wantVal v137 true then binR Prog .eql 69 v139 (.int .i64 4) h140 else Res.ok undef h140)).bind fun v141 h142 =>
    (condV (some v137) (Res.ok v141 h142) (Res.ok (.bool false) h142)).bind fun v143 h144 =>
    ((bif wantVal v143 true then loadR Prog 3 v123 h144 else Res.ok undef h144)).bind fun v145 h146 =>
    ((bif wantVal v143 true then binR Prog .eql 3 v145 (.int .i64 0) h146 else Res.ok undef h146)).bind fun v147 h148 =>
    (condV (some v143) (Res.ok v147 h148) (Res.ok (.bool false) h148)).bind fun v149 h150 =>
    .ok v149 h150) := by kernel_rfl
def swashlaw12_small (k : Nat) (call : Caller) (a0 a1 : Value) (h : Heap) : Res Value :=
  (boxR a0 h).bind fun v1 h2 =>
  (fieldAddrR Prog 146 v1 0 h2).bind fun v3 h4 =>
  (loadR Prog 65 v3 h4).bind fun v5 h6 =>
  (builtinV Prog .len [65] [v5] h6).bind fun v7 h8 =>
  (binR Prog .leq 3 v7 (.int .i64 40) h8).bind fun v9 h10 =>
  ((bif wantVal v9 true then fieldAddrR Prog 146 v1 1 h10 else Res.ok undef h10)).bind fun v11 h12 =>
  ((bif wantVal v9 true then loadR Prog 143 v11 h12 else Res.ok undef h12)).bind fun v13 h14 =>
  ((bif wantVal v9 true then builtinV Prog .len [143] [v13] h14 else Res.ok undef h14)).bind fun v15 h16 =>
  ((bif wantVal v9 true then binR Prog .leq 3 v15 (.int .i64 20) h16 else Res.ok undef h16)).bind fun v17 h18 =>
  (condV (some v9) (Res.ok v17 h18) (Res.ok (.bool false) h18)).bind fun v19 h20 =>
  ((bif wantVal v19 true then fieldAddrR Prog 146 v1 2 h20 else Res.ok undef h20)).bind fun v21 h22 =>
  ((bif wantVal v19 true then loadR Prog 144 v21 h22 else Res.ok undef h22)).bind fun v23 h24 =>
  ((bif wantVal v19 true then builtinV Prog .len [144] [v23] h24 else Res.ok undef h24)).bind fun v25 h26 =>
  ((bif wantVal v19 true then binR Prog .leq 3 v25 (.int .i64 40) h26 else Res.ok undef h26)).bind fun v27 h28 =>
  (condV (some v19) (Res.ok v27 h28) (Res.ok (.bool false) h28)).bind fun v29 h30 =>
  ((bif wantVal v29 true then Res.ok a1 h30 else Res.ok undef h30)).bind fun v31 h32 =>
  ((bif wantVal v29 true then builtinV Prog .len [28] [v31] h32 else Res.ok undef h32)).bind fun v33 h34 =>
  ((bif wantVal v29 true then binR Prog .leq 3 v33 (.int .i64 60) h34 else Res.ok undef h34)).bind fun v35 h36 =>
  (condV (some v29) (Res.ok v35 h36) (Res.ok (.bool false) h36)).bind fun v37 h38 =>
  .ok v37 h38
theorem swashlaw12_small_R (k : Nat) (a0 a1 : Value) (h : Heap) : R (T k) F.swashlaw12_small [a0, a1] h = nrm .gc h (swashlaw12_small k (R (T k)) a0 a1 h) :=
  (R_body (t := T k) (T_scott k) (by kernel_rfl) _ _).trans (by kernel_rfl)
def swashlaw12_DriveStuck_in1 (k : Nat) (call : Caller) (a0 a1 a2 : Value) (h : Heap) : Res Value :=
  (boxR a1 h).bind fun v1 h2 =>
  (loadR Prog 3 a2 h2).bind fun v3 h4 =>
  (binR Prog .add 3 v3 a0 h4).bind fun v5 h6 =>
  (storeR Prog 3 a2 v5 h6).bind fun _v7 h8 =>
  .ok (.tuple #[]) h8
theorem swashlaw12_DriveStuck_in1_R (k : Nat) (a0 a1 a2 : Value) (h : Heap) : R (T k) F.swashlaw12_DriveStuck_in1 [a0, a1, a2] h = nrm .no h (swashlaw12_DriveStuck_in1 k (R (T k)) a0 a1 a2 h) :=
  (R_body (t := T k) (T_scott k) (by kernel_rfl) _ _).trans (by kernel_rfl)
end
end Go.Sw
end
section
namespace Go.Sw
open Go.RowKit
variable {σ : Type}
def DoOk (k : Nat) (m : Mach) (H0 : Heap) (W : σ → List It) (Inv : σ → Prop) (a : Value) (g : σ → Int → En → σ) : Prop :=
  ∀ s i e H X, Inv s → Star H0 H (W s ++ X) → 0 ≤ i → i < 2 ^ 50 → e ∈ m.ents →
    ∃ v H', callV (R (T k)) a [.int .i64 i, encE e] H = .ok v H' ∧ Star H0 H' (W (g s i e) ++ X) ∧ Inv (g s i e)
theorem plain_ok (k : Nat) {m : Mach} {H0 : Heap} {W : σ → List It} {Inv : σ → Prop} {a : Value} {g : σ → Int → En → σ} (h : DoOk k m H0 W Inv a g) (p : Nat) :
    ActOk k m H0 (fun s => W s ++ [itBlk p ⟨[a], 1, false⟩]) Inv (.func (.func F.drive_Plain_in1) #[] #[ptrV p]) (fun s i e => (g s i e, i, i + 1)) := by
  intro s i e H X hI st h0 h1 he
  have st2 := st.push ⟨encEn e, 1, false⟩
  have hp := st2.memBlk (c := p) (k := ⟨[a], 1, false⟩) (by simp)
  have hpn : ¬ p = H.n := by have := Heap.get_lt (st.memBlk (c := p) (k := ⟨[a], 1, false⟩) (by simp)); omega
  obtain ⟨v, H', e1, st3, hI2⟩ := h s i e (H.push ⟨encEn e, 1, false⟩) ([itBlk p ⟨[a], 1, false⟩] ++ X ++ [itBlk H.n ⟨encEn e, 1, false⟩]) hI (by simpa [List.append_assoc] using st2) h0 h1 he
  have st4 : Star H0 H' (W (g s i e) ++ [itBlk p ⟨[a], 1, false⟩] ++ X) := by
    have : W (g s i e) ++ ([itBlk p ⟨[a], 1, false⟩] ++ X ++ [itBlk H.n ⟨encEn e, 1, false⟩]) = (W (g s i e) ++ [itBlk p ⟨[a], 1, false⟩] ++ X) ++ [itBlk H.n ⟨encEn e, 1, false⟩] := by simp
    rw [this] at st3
    exact st3.drop_last
  refine ⟨H', ?_, st4, hI2, by dsimp only; omega, by dsimp only; omega⟩
  simp only [callV, List.nil_append, List.cons_append]
  rw [drive_Plain_in1_R, nrm_of]
  simp -implicitDefEqProofs (disch := omega) [drive_Plain_in1, hp, hpn, e1]
def RestsM (m : Mach) : Prop := ∀ e, e ∈ m.ents → e.flags / 16384 % 2 = 1
theorem runD_stuck (m : Mach) (hm : m.ok) (hs : RestsM m) (ln : σ → List Gl) (g : σ → Int → En → σ) (P : σ → Prop) (hg : ∀ s e, P s → P (g s 0 e)) (most : Int) (hmost : 128 ≤ most) :
    ∀ (j n : Nat) (s : σ) (st : Int), j ≤ 64 → 65 - j ≤ n → 0 ≤ st → st < m.rows.length → P s →
      (runD m ln (fun s i e => (g s i e, i, i + 1)) most n (s, ⟨st, 0, j, j⟩)).1 = 65 ∧ (runD m ln (fun s i e => (g s i e, i, i + 1)) most n (s, ⟨st, 0, j, j⟩)).2.1 = 4 ∧ P (runD m ln (fun s i e => (g s i e, i, i + 1)) most n (s, ⟨st, 0, j, j⟩)).2.2 := by
  intro j
  induction hk : 64 - j generalizing j with
  | zero =>
    intro n s st hj hn h0 h1 hP
    obtain ⟨n, rfl⟩ : ∃ n', n = n' + 1 := ⟨n - 1, by omega⟩
    have hmem := entS_mem hm (ln s) ⟨st, 0, j, j⟩ ⟨h0, h1⟩
    have hfl := hs _ hmem
    unfold runD
    rw [if_pos (by dsimp only; omega)]
    unfold stepD
    dsimp only
    rw [if_pos hfl]
    dsimp only
    rw [if_neg (by decide), if_pos (by omega)]
    exact ⟨by dsimp only; omega, rfl, hg _ _ hP⟩
  | succ c ih =>
    intro n s st hj hn h0 h1 hP
    obtain ⟨n, rfl⟩ : ∃ n', n = n' + 1 := ⟨n - 1, by omega⟩
    have hmem := entS_mem hm (ln s) ⟨st, 0, j, j⟩ ⟨h0, h1⟩
    have hfl := hs _ hmem
    have he := hm.ent _ hmem
    have := ih (j + 1) (by omega) n (g s 0 (entS m (ln s) ⟨st, 0, j, j⟩)) (entS m (ln s) ⟨st, 0, j, j⟩).next (by omega) (by omega) he.1 he.2.1 (hg _ _ hP)
    unfold runD
    rw [if_pos (by dsimp only; omega)]
    unfold stepD
    dsimp only
    rw [if_pos hfl]
    dsimp only
    rw [if_neg (by decide), if_neg (by omega)]
    exact this
end Go.Sw
end
section
namespace Go.Sw
open Go.RowKit
theorem closeS_ents {rv ev : List Int} {n w : Int} : ∀ (f s : Nat) x, closeS rv ev n w f s = some x → ∃ N, entsTo ev w N = some x.2
  | 0, _, _, h => by cases h
  | f + 1, s, x, h => by
    simp only [closeS] at h
    obtain ⟨rs, e1, h⟩ := Option.bind_eq_some_iff.1 h
    obtain ⟨es, e2, h⟩ := Option.bind_eq_some_iff.1 h
    split at h
    · injection h with h; subst h; exact ⟨_, e2⟩
    · exact closeS_ents f _ x h
def orI (a : Int) : Int := IntKind.i64.wrap (BitVec.ofInt 64 a ||| BitVec.ofInt 64 16384).toNat
theorem or14 (P : Program) (t : TypeId) (H : Heap) (a : Int) : binR P .or t (.int .i64 a) (.int .i64 16384) H = .ok (.int .i64 (orI a)) H := by
  have e1 : binV P .or t (.int .i64 a) (.int .i64 16384) = some (.int .i64 (orI a)) := rfl
  unfold binR
  rw [e1]
  rfl
theorem orI_set (a : Int) : m16 (orI a) / 16384 % 2 = 1 := by
  have hb : (BitVec.ofInt 64 a ||| BitVec.ofInt 64 16384).toNat.testBit 14 = true := by
    have h : (BitVec.ofInt 64 16384).toNat.testBit 14 = true := by decide
    rw [BitVec.toNat_or, Nat.testBit_or, h, Bool.or_true]
  have hlt := (BitVec.ofInt 64 a ||| BitVec.ofInt 64 16384).isLt
  unfold orI m16
  generalize (BitVec.ofInt 64 a ||| BitVec.ofInt 64 16384).toNat = N at hb hlt ⊢
  rw [Nat.testBit_eq_decide_div_mod_eq, decide_eq_true_eq] at hb
  have hw : IntKind.i64.wrap (N : Int) % 65536 = (N : Int) % 65536 := by
    unfold IntKind.wrap
    simp [IntKind.signed, IntKind.bits]
    split <;> omega
  rw [hw]
  omega
def setE (e : En) : En := ⟨e.next, orI e.flags, e.a, e.b⟩
theorem stuck_rests {p : Plan} (hp : p.ok) (h1 : p.cls.length ≤ 1000) (h2 : p.rows.length ≤ 1000) {m : Mach} (h : machS (planRoom ⟨p.cls, p.rows, p.ents.map setE, p.wide⟩ 0 []) 40 0 = some m) (hn : m.ents.length ≤ p.ents.length) : RestsM m := by
  have e := plan_mach ⟨p.cls, p.rows, p.ents.map setE, p.wide⟩ hp 0 [] [] (by simp) h1 h2 40
  rw [List.append_nil, h] at e
  obtain ⟨x, hx, hm⟩ := Option.map_eq_some_iff.1 e.symm
  obtain ⟨N, hN⟩ := closeS_ents _ _ _ hx
  have hme : m.ents = x.2 := by rw [← hm]
  intro en hen
  rw [hme] at hen hn
  obtain ⟨i, hi⟩ := List.getElem?_of_mem hen
  obtain ⟨j, hj, hk⟩ := mapO_get hN hi
  have hil := (List.getElem?_eq_some_iff.1 hi).1
  have hlen := mapO_len hN
  simp at hlen
  rw [List.getElem?_range (by omega)] at hj
  injection hj with hj
  subst hj
  obtain ⟨q, hq⟩ : ∃ q, p.ents[i]? = some q := ⟨_, List.getElem?_eq_getElem (by omega)⟩
  have hq2 : (p.ents.map setE)[i]? = some (setE q) := by rw [List.getElem?_map, hq]; rfl
  have := entK_plan (w := 0) (by omega) [] hq2
  dsimp only at hk
  rw [this] at hk
  injection hk with hk
  subst hk
  exact orI_set q.flags
theorem speaks12_run (k : Nat) (hk : k % 1000000 = F.swashlaw12_speaks) (H : Heap) : R (T k) F.swashlaw12_speaks [] H = .ok (.bool true) H :=
  (R_sp (t := T k) (T_scott k) (s := constSp (.bool true)) (by unfold T C; dsimp only; rw [hk]; kernel_rfl) [] H).trans (nrm_gc (Pure.of rfl) (.bool _))
theorem small12_run (k : Nat) (p : Plan) (ids : List Int) (H : Heap) : R (T k) F.swashlaw12_small [planV p, lv encI ids] H = .ok (.bool (decide (p.cls.length ≤ 40 ∧ p.rows.length ≤ 20 ∧ p.ents.length ≤ 40 ∧ ids.length ≤ 60))) H := by
  rw [swashlaw12_small_R]
  refine nrm_gc ⟨_, ?_, (Ext.refl H).push ⟨planCells p, 1, false⟩⟩ (.bool _)
  by_cases h1 : p.cls.length ≤ 40
  · have h1' : (p.cls.length : Int) ≤ 40 := by omega
    by_cases h2 : p.rows.length ≤ 20
    · have h2' : (p.rows.length : Int) ≤ 20 := by omega
      by_cases h3 : p.ents.length ≤ 40
      · have h3' : (p.ents.length : Int) ≤ 40 := by omega
        by_cases h4 : ids.length ≤ 60
        · have h4' : (ids.length : Int) ≤ 60 := by omega
          simp -implicitDefEqProofs [swashlaw12_small, h1, h2, h3, h4, h1', h2', h3', h4']
        · have h4' : ¬ (ids.length : Int) ≤ 60 := by omega
          simp -implicitDefEqProofs [swashlaw12_small, h1, h2, h3, h4, h1', h2', h3', h4']
      · have h3' : ¬ (p.ents.length : Int) ≤ 40 := by omega
        simp -implicitDefEqProofs [swashlaw12_small, h1, h2, h3, h1', h2', h3']
    · have h2' : ¬ (p.rows.length : Int) ≤ 20 := by omega
      simp -implicitDefEqProofs [swashlaw12_small, h1, h2, h1', h2']
  · have h1' : ¬ (p.cls.length : Int) ≤ 40 := by omega
    simp -implicitDefEqProofs [swashlaw12_small, h1, h1']
theorem stuck_do (k : Nat) (m : Mach) {H0 : Heap} (pb : Nat) (Z : List It) : DoOk k m H0 (fun s : Int => itBlk pb ⟨[.int .i64 s], 1, false⟩ :: Z) (fun _ => True) (.func (.func F.swashlaw12_DriveStuck_in1) #[] #[ptrV pb]) (fun s i _ => IntKind.i64.wrap (s + i)) := by
  intro s i e H X _ st h0 h1 he
  have hp := st.get 0 rfl
  have hpn : ¬ pb = H.n := by have := Heap.get_lt hp; omega
  have st2 := st.push ⟨encEn e, 1, false⟩
  have hp2 := st2.get 0 rfl
  have st3 := st2.setBlk 0 rfl ⟨[.int .i64 (IntKind.i64.wrap (s + i))], 1, false⟩
  simp only [List.cons_append, List.set_cons_zero] at st3
  have st4 : Star H0 ((H.push ⟨encEn e, 1, false⟩).set pb (some ⟨[.int .i64 (IntKind.i64.wrap (s + i))], 1, false⟩)) (itBlk pb ⟨[.int .i64 (IntKind.i64.wrap (s + i))], 1, false⟩ :: (Z ++ X)) := by
    have := st3
    rw [← List.cons_append] at this
    exact this.drop_last
  refine ⟨.tuple #[], _, ?_, by simpa using st4, trivial⟩
  simp only [callV, List.nil_append, List.cons_append]
  rw [swashlaw12_DriveStuck_in1_R, nrm_of]
  simp -implicitDefEqProofs [swashlaw12_DriveStuck_in1, hp, hpn]
end Go.Sw
end
section
namespace Go.Sw
open Go.RowKit
theorem setE_take {l : List En} {j : Nat} {e : En} (h : l[j]? = some e) : ((l.take j).map setE ++ l.drop j).set j (setE e) = (l.take (j + 1)).map setE ++ l.drop (j + 1) := by
  have hj := (List.getElem?_eq_some_iff.1 h).1
  have hd : l.drop j = e :: l.drop (j + 1) := by
    rw [List.drop_eq_getElem_cons hj]
    have := (List.getElem?_eq_some_iff.1 h).2
    rw [this]
  rw [hd, take_snoc h, List.set_append_right _ _ (by simp; omega)]
  simp [List.length_take, Nat.min_eq_left (Nat.le_of_lt hj)]
theorem setE_get {l : List En} {j : Nat} {e : En} (h : l[j]? = some e) : ((l.take j).map setE ++ l.drop j)[j]? = some e := by
  have hj := (List.getElem?_eq_some_iff.1 h).1
  rw [List.getElem?_append_right (by simp; omega)]
  simp [List.length_take, Nat.min_eq_left (Nat.le_of_lt hj), h]
theorem plainNew (k : Nat) (f : Fn) (a b : Array Value) (H : Heap) : R (T k) F.drive_Plain [.func f a b] H = .ok (.func (.func F.drive_Plain_in1) #[] #[ptrV H.n]) (H.push ⟨[.func f a b], 1, false⟩) := by
  rw [drive_Plain_R]
  have e : drive_Plain k (R (T k)) (.func f a b) H = .ok (.func (.func F.drive_Plain_in1) #[] #[ptrV H.n]) (H.push ⟨[.func f a b], 1, false⟩) := by
    simp -implicitDefEqProofs [drive_Plain]
  rw [e]
  have dead : ¬ Alive H (.func (.func F.drive_Plain_in1) #[] #[ptrV H.n]) := fun h => by
    cases h with
    | func fn xs ys h1 h2 =>
      have := h2 0 (ptrV H.n) rfl
      cases this with
      | ptr b off k hg => have := Heap.get_lt hg; omega
  unfold nrm
  exact if_neg fun hc => dead hc.2
set_option maxHeartbeats 2000000 in
theorem DriveStuck_run (p : Plan) (hp : p.ok) (ids : List Int) : R (T F.swashlaw12_speaks) F.swashlaw12_DriveStuck [planV p, lv encI ids] Heap.empty = .ok (.bool true) Heap.empty := by
  generalize hk : F.swashlaw12_speaks = k
  have hs := speaks12_run k (by subst hk; rfl)
  clear hk
  rw [swashlaw12_DriveStuck_R]
  generalize Heap.empty = H
  have hx1 : Ext H (H.push ⟨planCells p, 1, false⟩) := (Ext.refl H).push _
  have hsm := fun H => small12_run k p ids H
  by_cases c1 : p.cls.length ≤ 40 ∧ p.rows.length ≤ 20 ∧ p.ents.length ≤ 40 ∧ ids.length ≤ 60
  rotate_left
  · refine nrm_gc ⟨_, ?_, hx1⟩ (.bool _)
    rw [decide_eq_false c1] at hsm
    simp -implicitDefEqProofs (disch := omega) [swashlaw12_DriveStuck, hs, hsm]
  rw [decide_eq_true c1] at hsm
  -- the entries are copied, and set
  have g := (Star.nil H).push ⟨planCells p, 1, false⟩
  have g := g.push ⟨planCells p, 1, false⟩
  have g := g.more_row (Ext.refl _) (OwnO.bare encEn _ 4) (fun b hb => by cases hb)
  simp only [List.nil_append, List.cons_append, hn_push] at g
  obtain ⟨s1, o1, H1, e1, g⟩ := g.append (bytes := 32) 2 encEn_len rfl (b := lv encEn p.ents) (l2 := p.ents) rfl (lv_first encEn_len p.ents _) (by simp; omega) (by decide)
  simp only [List.nil_append, List.cons_append, List.set_cons_zero, List.set_cons_succ] at g
  have b1 := g.get 0 rfl
  obtain ⟨H2, e2, g, _⟩ := g.stCell 1 rfl 2 (g.row 2 rfl).storable (g.row 2 rfl).cells (by simp)
  simp only [List.set_cons_zero, List.set_cons_succ] at g
  have b2 := g.get 1 rfl
  have hln : ∀ H', lnS s1 H' = .ok (.int .i64 p.ents.length) H' := (g.row 2 rfl).len
  obtain ⟨x, e', H3, hr3, rfl, rfl, g⟩ := loop_up (body := swashlaw12_DriveStuck_l1 k (R (T k))) p.ents.length
    (fun j e H' => e = [(1, lv encI ids), (5, ptrV (H.n + 1)), (29, .int .i64 p.ents.length), (30, .int .i64 j)] ∧ Star H H' [itBlk H.n ⟨planCells p, 1, false⟩, itBlk (H.n + 1) ⟨[lv encB p.cls, lv encBR p.rows, s1, .int .u8 p.wide], 1, false⟩, itRow o1 4 s1 encEn ((p.ents.take j).map setE ++ p.ents.drop j)])
    (fun x e H' => x = .exit 0 ∧ e = [(1, lv encI ids), (5, ptrV (H.n + 1)), (29, .int .i64 p.ents.length), (30, .int .i64 p.ents.length), (31, .bool false)] ∧ Star H H' [itBlk H.n ⟨planCells p, 1, false⟩, itBlk (H.n + 1) ⟨[lv encB p.cls, lv encBR p.rows, s1, .int .u8 p.wide], 1, false⟩, itRow o1 4 s1 encEn (p.ents.map setE)])
    (e0 := [(1, lv encI ids), (5, ptrV (H.n + 1)), (29, .int .i64 p.ents.length), (30, .int .i64 0)]) (H0 := H2) ⟨rfl, by simpa using g⟩ (by omega)
    (fun j e H' hj ⟨he, g⟩ => by
      subst he
      have hlt : (j : Int) < p.ents.length := by omega
      obtain ⟨y, hy⟩ : ∃ y, p.ents[j]? = some y := ⟨_, List.getElem?_eq_getElem hj⟩
      have hyj := setE_get hy
      have bq := g.get 1 rfl
      obtain ⟨c, hc, hgc, i2⟩ := g.ix 2 rfl .i64 j (by simp; omega)
      subst hc
      have l1 := ld1_row encEn_len hgc (i := j) (c := 1) hyj (by decide) rfl
      obtain ⟨H5, e5, g5, _⟩ := g.stRow 2 rfl encEn_len (j := j) (c := 1) (n := 1) (setE y) (v := .int .i64 (orI y.flags)) hyj rfl rfl (by decide) rfl
      rw [setE_take hy] at g5
      have hor := fun H => or14 Prog 3 H y.flags
      refine .inl ⟨_, H5, ?_, rfl, by simpa using g5⟩
      rw [swashlaw12_DriveStuck_l1_eq]
      simp -implicitDefEqProofs (disch := omega) [-stR_ptr, -ld1_ptr, ld1_ptr (H.n + 1) 2, hlt, bq, i2, l1, hor, e5])
    (fun e H' ⟨he, g⟩ => by
      subst he
      rw [List.take_length, List.drop_length, List.append_nil] at g
      refine ⟨.exit 0, _, H', ?_, by simp, rfl, rfl, g⟩
      rw [swashlaw12_DriveStuck_l1_eq]
      simp -implicitDefEqProofs)
  -- the machine is written, and read
  obtain ⟨p2, hp2⟩ : ∃ p2 : Plan, p2 = ⟨p.cls, p.rows, p.ents.map setE, p.wide⟩ := ⟨_, rfl⟩
  have q1 : p2.cls = p.cls := by rw [hp2]
  have q2 : p2.rows = p.rows := by rw [hp2]
  have q3 : p2.ents = p.ents.map setE := by rw [hp2]
  have q4 : p2.wide = p.wide := by rw [hp2]
  have q5 : p2.ok := by rw [hp2]; exact hp
  have q6 : p2.ents.length ≤ 1000 := by rw [q3]; simp; omega
  have hrow : Sl H3 4 s1 encEn p2.ents := by rw [q3]; exact (g.row 2 rfl).sl encEn_len
  have b3 := g.get 1 rfl
  obtain ⟨c, hc⟩ : ∃ c, c = planRoom p2 0 (List.replicate 0 0) := ⟨_, rfl⟩
  have hw2 : R (T k) F.swashlaw07_Write [.agg #[lv encB p.cls, lv encBR p.rows, s1, .int .u8 p.wide], .int .i64 0, .int .i64 0] H3 = .ok (lv encB c) H3 := by
    have := Write_any k p2 q5 0 (by omega) 0 (by omega) (by rw [q1]; omega) (by rw [q2]; omega) q6 hrow
    rw [planBytes_room, ← hc, q1, q2, q4] at this
    exact this
  have hcb : Byt c := by rw [hc]; exact planRoom_byt q5 0 (rep_byt 0)
  have hcl : c.length ≤ 100000 := by rw [hc]; exact planRoom_len q5 0 (by simp) (by rw [q1]; omega) (by rw [q2]; omega) q6
  have hrd := fun H' => stateRead_run k (H := H') (Sl.lv H' 1 c) hcb 40 0 (by omega)
  unfold machO machN at hrd
  rw [show badM 40 0 = false from rfl] at hrd
  have hrr := fun H' => ref7Read_run k c hcb 40 0 (by omega) (by omega) (by omega) H'
  unfold refMachS rmO at hrr
  have h29 : ∀ H', lnS s1 H' = .ok (.int .i64 p.ents.length) H' := hln
  cases h : machS c 40 0 with
  | none =>
    rw [h] at hrd hrr
    simp [machP] at hrd hrr
    refine nrm_gc ⟨_, ?_, g.ext.push ⟨rmCells [] 0 0 0 0 0 0 [] [], 1, false⟩⟩ (.bool _)
    simp -implicitDefEqProofs (disch := omega) [-stR_ptr, stR_ptr 4 (H.n + 1) 0, stR_ptr 9 H3.n 0, swashlaw12_DriveStuck, hs, hsm, e1, b1, e2, b2, hln, hr3, swashlaw12_DriveStuck_l1k_x0, b3, hw2, hrd, hrr]
  | some m =>
    rw [h] at hrd hrr
    simp [machP] at hrd hrr
    have hok := machS_ok hcb (by omega) (by omega) (by omega) h
    have hrn : (rmOf c 40 0 m).n = m.ents.length := rfl
    have hrs : (rmOf c 40 0 m).states = m.rows.length := rfl
    generalize rmOf c 40 0 m = r at hrr hrn hrs
    have hnn : ¬ H.n + 1 = H3.n := by have := Heap.get_lt b3; omega
    have gr := g.push ⟨rmCells r.b r.cl r.rowsAt r.entsAt m.rows.length m.ents.length r.words r.tb r.parts, 1, false⟩
    simp only [List.cons_append, List.nil_append] at gr
    have b4 := gr.get 1 rfl
    by_cases d1 : m.ents.length > p.ents.length
    · have d1' : (m.ents.length : Int) > p.ents.length := by omega
      refine nrm_gc ⟨_, ?_, gr.ext⟩ (.bool _)
      simp -implicitDefEqProofs (disch := omega) [-stR_ptr, stR_ptr 4 (H.n + 1) 0, stR_ptr 9 H3.n 0, swashlaw12_DriveStuck, hs, hsm, e1, b1, e2, b2, hln, hr3, swashlaw12_DriveStuck_l1k_x0, b3, hw2, hrd, hrr, b4, hnn, hrn, hrs, d1']
    have d1' : ¬ (m.ents.length : Int) > p.ents.length := by omega
    by_cases d2 : m.rows.length > p.rows.length
    · have d2' : (m.rows.length : Int) > p.rows.length := by omega
      refine nrm_gc ⟨_, ?_, gr.ext⟩ (.bool _)
      simp -implicitDefEqProofs (disch := omega) [-stR_ptr, stR_ptr 4 (H.n + 1) 0, stR_ptr 9 H3.n 0, swashlaw12_DriveStuck, hs, hsm, e1, b1, e2, b2, hln, hr3, swashlaw12_DriveStuck_l1k_x0, b3, hw2, hrd, hrr, b4, hnn, hrn, hrs, d1', d2']
    have d2' : ¬ (m.rows.length : Int) > p.rows.length := by omega
    have hrest : RestsM m := stuck_rests hp (by omega) (by omega) (by rw [hc, hp2] at h; exact h) (by omega)
    -- the places' sum, the line, the act
    have g2 := gr.push ⟨[.int .i64 0], 1, false⟩
    simp only [List.cons_append, List.nil_append, hn_push] at g2
    obtain ⟨cl, o, H5, eN, g5⟩ := lineNew_star k g2 ids (by omega)
    simp only [List.cons_append, List.nil_append] at g5
    have ePl := plainNew k (.func F.swashlaw12_DriveStuck_in1) #[] #[ptrV (H3.n + 1)] H5
    have g6 := g5.push ⟨[.func (.func F.swashlaw12_DriveStuck_in1) #[] #[ptrV (H3.n + 1)]], 1, false⟩
    simp only [List.cons_append, List.nil_append] at g6
    have g7 : Star H (H5.push ⟨[.func (.func F.swashlaw12_DriveStuck_in1) #[] #[ptrV (H3.n + 1)]], 1, false⟩) [itBlk (H3.n + 1) ⟨[.int .i64 0], 1, false⟩, itLine cl o (newG ids), itBlk H5.n ⟨[.func (.func F.swashlaw12_DriveStuck_in1) #[] #[ptrV (H3.n + 1)]], 1, false⟩] := g6.drop 4
    have hact := plain_ok k (stuck_do k m (H0 := H) (H3.n + 1) [itLine cl o (newG ids)]) H5.n
    obtain ⟨H6, eR, g8, _⟩ := driveRun_star k m hok (fun s : Int => (itBlk (H3.n + 1) ⟨[.int .i64 s], 1, false⟩ :: [itLine cl o (newG ids)]) ++ [itBlk H5.n ⟨[.func (.func F.swashlaw12_DriveStuck_in1) #[] #[ptrV (H3.n + 1)]], 1, false⟩]) (fun _ => True) (fun _ => newG ids) cl (fun s => ⟨1, o, rfl⟩) _ _ hact [] 0 trivial (by simpa using g7) (by simp; omega)
    have hst := runD_stuck m hok hrest (fun _ : Int => newG ids) (fun s i _ => IntKind.i64.wrap (s + i)) (fun s => s = 0) (fun s e h => by subst h; decide) (2 * (newG ids).length + 128) (by omega) 0 (2 * (newG ids).length + 128) 0 0 (by omega) (by omega) (by omega) (by have := hok.two; omega) rfl
    obtain ⟨t1, t2, t3⟩ := hst
    rw [show (((0 : Nat) : Int)) = 0 from rfl] at t1 t2 t3
    rw [t1, t2] at eR
    rw [t3] at g8
    have b6 := g8.get 0 rfl
    refine nrm_gc ⟨H6, ?_, g8.ext⟩ (.bool _)
    simp -implicitDefEqProofs (disch := omega) [-stR_ptr, stR_ptr 4 (H.n + 1) 0, stR_ptr 9 H3.n 0, stR_ptr 1 (H3.n + 1) 0, swashlaw12_DriveStuck, hs, hsm, e1, b1, e2, b2, hln, hr3, swashlaw12_DriveStuck_l1k_x0, b3, hw2, hrd, hrr, b4, hnn, hrn, hrs, d1', d2', eN, ePl, eR, b6]
theorem DriveStuck_args (vs : List Value) (h : ArgsLay [planSh, .one (.slice [.int .i64])] vs) : ∃ H', R (T F.swashlaw12_speaks) F.swashlaw12_DriveStuck vs Heap.empty = .ok (.bool true) H' := by
  obtain ⟨v1, _, rfl, h1, h⟩ := h.head
  obtain ⟨v2, _, rfl, h2, h⟩ := h.head
  obtain rfl := h.done
  obtain ⟨p, rfl, hp⟩ := arg_plan h1
  obtain ⟨ids, rfl, _⟩ := arg_I h2
  exact ⟨_, DriveStuck_run p hp ids⟩
end Go.Sw
end
