/-
  Functions' forms, and what is proved of them, part 8.
-/
import Derived.Test.YtanfippcmdialaaSwCfg
import Derived.Test.YtanfippcmdialaaSwW7
import Derived.Test.YtanfippcmdialaaSwW5
import Derived.Test.YtanfippcmdialaaSwW1
import Derived.Test.YtanfippcmdialaaSwLib8
import Derived.Test.YtanfippcmdialaaSwW6
import Derived.Test.YtanfippcmdialaaSwW3
import Derived.Test.YtanfippcmdialaaSwW4
import Derived.Tactics
import Derived.Tactics2
import Derived.Defers
import Derived.Recover
import Derived.Laws.Pointers
set_option linter.unusedSimpArgs false
set_option linter.unusedVariables false
set_option linter.unusedSectionVars false
section
set_option maxRecDepth 100000
set_option linter.unusedVariables false
namespace Go.Sw
noncomputable section
def ζ1w (k:Nat) (call:Caller):Env → Heap → Res (AExit × Env):=loopB (C k) call F.ζ7 [1,1,1,1,1,1,1,0,0,0]
def ζ4e (k:Nat) (call:Caller):Kont Value:=kBlock 0 (kSeq (pieceK (C k) call F.ζ7 [1,1,1,1,1,1,1,1]) (kDone Prog (resOf Prog F.ζ7)))
def ζ7z (k:Nat) (call:Caller) (a0 a6 a8 a11 a12 a13:Value) (h:Heap):Res (AExit × Env) :=
 kSeq (pieceK (C k) call F.ζ7 [1,1,1,1,1,1,1,0,0,0,1,0,1,1,1]) (kBlock 1 (kRound (ownOf (C k) F.ζ7 [1,1,1,1,1,1,1,0,0,0]))) .normal [(0,a0),(6,a6),(8,a8),(11,a11),(12,a12),(13,a13)] h
def ζ80 (k:Nat) (call:Caller) (a0 a6 a8 a11 a12 a13 a93:Value) (h:Heap):Res (AExit × Env) :=
 kSeq (pieceK (C k) call F.ζ7 [1,1,1,1,1,1,1,0,0,0,1,0,1,1,1]) (kBlock 1 (kRound (ownOf (C k) F.ζ7 [1,1,1,1,1,1,1,0,0,0]))) .normal [(0,a0),(6,a6),(8,a8),(11,a11),(12,a12),(13,a13),(93,a93)] h
def ζ4q (k:Nat) (call:Caller) (a0 a6 a8 a11 a12 a13:Value) (h:Heap):Res (AExit × Env) :=
 kSeq (pieceK (C k) call F.ζ7 [1,1,1,1,1,1,1,0,0,0,1,0,1,1,1,1]) (kBlock 1 (kRound (ownOf (C k) F.ζ7 [1,1,1,1,1,1,1,0,0,0]))) .normal [(0,a0),(6,a6),(8,a8),(11,a11),(12,a12),(13,a13)] h
def ζ4r (k:Nat) (call:Caller) (a0 a6 a8 a11 a12 a13 a115:Value) (h:Heap):Res (AExit × Env) :=
 kSeq (pieceK (C k) call F.ζ7 [1,1,1,1,1,1,1,0,0,0,1,0,1,1,1,1]) (kBlock 1 (kRound (ownOf (C k) F.ζ7 [1,1,1,1,1,1,1,0,0,0]))) .normal [(0,a0),(6,a6),(8,a8),(11,a11),(12,a12),(13,a13),(115,a115)] h
def ζ7 (k:Nat) (call:Caller) (a0 a1 a2:Value) (h:Heap):Res Value :=
 (allocR Prog 115 h).bind fun v1 h2 =>
 (call F.ζ3 [a0,(.int .i64 0),(.int .i64 4)] h2).bind fun v3 h4 =>
 (call F.ζ3 [a0,(.int .i64 8),(.int .i64 4)] h4).bind fun v5 h6 =>
 (call F.ζ3 [a0,(.int .i64 12),(.int .i64 4)] h6).bind fun v7 h8 =>
 (buildR Prog 115 [(0,a0),(1,v3),(2,v5),(3,v7),(4,(.int .i64 2)),(6,a2)] h8).bind fun v9 h10 =>
 (allocR Prog 115 h10).bind fun v11 h12 =>
 (storeR Prog 115 v11 v9 h12).bind fun _v13 h14 =>
 (call F.ζ3 [a0,(.int .i64 4),(.int .i64 4)] h14).bind fun v15 h16 =>
 (fieldAddrR Prog 115 v11 1 h16).bind fun v17 h18 =>
 (loadR Prog 3 v17 h18).bind fun v19 h20 =>
 (binR Prog .lss 3 v19 (.int .i64 4) h20).bind fun v21 h22 =>
 ((bif wantVal v21 false then fieldAddrR Prog 115 v11 1 h22 else Res.ok undef h22)).bind fun v23 h24 =>
 ((bif wantVal v21 false then loadR Prog 3 v23 h24 else Res.ok undef h24)).bind fun v25 h26 =>
 ((bif wantVal v21 false then binR Prog .gtr 3 v25 (.int .i64 65535) h26 else Res.ok undef h26)).bind fun v27 h28 =>
 (condV (some v21) (Res.ok (.bool true) h28) (Res.ok v27 h28)).bind fun v29 h30 =>
 ((bif wantVal v29 false then fieldAddrR Prog 115 v11 2 h30 else Res.ok undef h30)).bind fun v31 h32 =>
 ((bif wantVal v29 false then loadR Prog 3 v31 h32 else Res.ok undef h32)).bind fun v33 h34 =>
 ((bif wantVal v29 false then binR Prog .lss 3 v33 (.int .i64 0) h34 else Res.ok undef h34)).bind fun v35 h36 =>
 (condV (some v29) (Res.ok (.bool true) h36) (Res.ok v35 h36)).bind fun v37 h38 =>
 ((bif wantVal v37 false then fieldAddrR Prog 115 v11 3 h38 else Res.ok undef h38)).bind fun v39 h40 =>
 ((bif wantVal v37 false then loadR Prog 3 v39 h40 else Res.ok undef h40)).bind fun v41 h42 =>
 ((bif wantVal v37 false then binR Prog .lss 3 v41 (.int .i64 0) h42 else Res.ok undef h42)).bind fun v43 h44 =>
 (condV (some v37) (Res.ok (.bool true) h44) (Res.ok v43 h44)).bind fun v45 h46 =>
 ((bif wantVal v45 false then fieldAddrR Prog 115 v11 2 h46 else Res.ok undef h46)).bind fun v47 h48 =>
 ((bif wantVal v45 false then loadR Prog 3 v47 h48 else Res.ok undef h48)).bind fun v49 h50 =>
 ((bif wantVal v45 false then Res.ok a0 h50 else Res.ok undef h50)).bind fun v51 h52 =>
 ((bif wantVal v45 false then builtinV Prog .len [31] [v51] h52 else Res.ok undef h52)).bind fun v53 h54 =>
 ((bif wantVal v45 false then binR Prog .gtr 3 v49 v53 h54 else Res.ok undef h54)).bind fun v55 h56 =>
 (condV (some v45) (Res.ok (.bool true) h56) (Res.ok v55 h56)).bind fun v57 h58 =>
 ((bif wantVal v57 false then fieldAddrR Prog 115 v11 3 h58 else Res.ok undef h58)).bind fun v59 h60 =>
 ((bif wantVal v57 false then loadR Prog 3 v59 h60 else Res.ok undef h60)).bind fun v61 h62 =>
 ((bif wantVal v57 false then Res.ok a0 h62 else Res.ok undef h62)).bind fun v63 h64 =>
 ((bif wantVal v57 false then builtinV Prog .len [31] [v63] h64 else Res.ok undef h64)).bind fun v65 h66 =>
 ((bif wantVal v57 false then binR Prog .gtr 3 v61 v65 h66 else Res.ok undef h66)).bind fun v67 h68 =>
 (condV (some v57) (Res.ok (.bool true) h68) (Res.ok v67 h68)).bind fun v69 h70 =>
 ((bif wantVal v69 false then Res.ok v15 h70 else Res.ok undef h70)).bind fun v71 h72 =>
 ((bif wantVal v69 false then binR Prog .lss 3 v71 (.int .i64 0) h72 else Res.ok undef h72)).bind fun v73 h74 =>
 (condV (some v69) (Res.ok (.bool true) h74) (Res.ok v73 h74)).bind fun v75 h76 =>
 ((bif wantVal v75 false then Res.ok v15 h76 else Res.ok undef h76)).bind fun v77 h78 =>
 ((bif wantVal v75 false then Res.ok a0 h78 else Res.ok undef h78)).bind fun v79 h80 =>
 ((bif wantVal v75 false then builtinV Prog .len [31] [v79] h80 else Res.ok undef h80)).bind fun v81 h82 =>
 ((bif wantVal v75 false then binR Prog .gtr 3 v77 v81 h82 else Res.ok undef h82)).bind fun v83 h84 =>
 (condV (some v75) (Res.ok (.bool true) h84) (Res.ok v83 h84)).bind fun v85 h86 =>
 condV (some v85) (
 (buildR Prog 115 [] h86).bind fun v87 h88 =>
 (storeR Prog 115 v1 v87 h88).bind fun _v89 h90 =>
 (loadR Prog 115 v1 h90).bind fun v91 h92 =>
 .ok (.tuple #[v91,(.bool false)]) h92)
 (
 (sliceR Prog 31 a0 (some v15) none none h86).bind fun v93 h94 =>
 (call F.ζr [v93,a1,(.int .i64 2)] h94).bind fun v95 h96 =>
 (extractR v95 0 h96).bind fun v97 h98 =>
 (extractR v95 1 h98).bind fun v99 h100 =>
 (allocR Prog 38 h100).bind fun v101 h102 =>
 (storeR Prog 38 v101 v97 h102).bind fun _v103 h104 =>
 (loadR Prog 38 v101 h104).bind fun v105 h106 =>
 (fieldAddrR Prog 115 v11 7 h106).bind fun v107 h108 =>
 (storeR Prog 38 v107 v105 h108).bind fun _v109 h110 =>
 (binR Prog .mul 3 (.int .i64 2) a2 h110).bind fun v111 h112 =>
 (binR Prog .add 3 (.int .i64 4) v111 h112).bind fun v113 h114 =>
 (loopN (ζ1w k call) loopFuel [(0,a0),(6,v1),(8,v11),(11,v99),(12,v113)] h114).bind fun r115 h116 =>
 ζ4e k call r115.1 r115.2 h116)
theorem ζce (k:Nat) (a0 a1 a2:Value) (h:Heap):R (T k) F.ζ7 [a0,a1,a2] h = nrm .fz h (ζ7 k (R (T k)) a0 a1 a2 h) :=
 (R_body (t:=T k) (T_scott k) (by kernel_rfl) (by kernel_rfl) _ _).trans (by kernel_rfl)
theorem ζ15 (k:Nat) (call:Caller) (a0 a6 a8 a11 a12:Value) (h:Heap):ζ1w k call [(0,a0),(6,a6),(8,a8),(11,a11),(12,a12)] h =
 condV (some a11) (
 (loadR Prog 115 a8 h).bind fun v117 h118 =>
 (allocR Prog 115 h118).bind fun v119 h120 =>
 (storeR Prog 115 v119 v117 h120).bind fun _v121 h122 =>
 (builtinV Prog .len [31] [a0] h122).bind fun v123 h124 =>
 (fieldAddrR Prog 115 a8 2 h124).bind fun v125 h126 =>
 (loadR Prog 3 v125 h126).bind fun v127 h128 =>
 (fieldAddrR Prog 115 a8 4 h128).bind fun v129 h130 =>
 (loadR Prog 3 v129 h130).bind fun v131 h132 =>
 (fieldAddrR Prog 115 a8 1 h132).bind fun v133 h134 =>
 (loadR Prog 3 v133 h134).bind fun v135 h136 =>
 (binR Prog .mul 3 (.int .i64 2) v135 h136).bind fun v137 h138 =>
 (call F.ζj [v123,v127,v131,v137] h138).bind fun v139 h140 =>
 condV (some v139) (
 (fieldAddrR Prog 115 a8 5 h140).bindN fun v141 h142 =>
 (loadR Prog 3 v141 h142).bindN fun v143 h144 =>
 (fieldAddrR Prog 115 a8 2 h144).bindN fun v145 h146 =>
 (loadR Prog 3 v145 h146).bindN fun v147 h148 =>
 (fieldAddrR Prog 115 a8 4 h148).bindN fun v149 h150 =>
 (loadR Prog 3 v149 h150).bindN fun v151 h152 =>
 (fieldAddrR Prog 115 a8 1 h152).bindN fun v153 h154 =>
 (loadR Prog 3 v153 h154).bindN fun v155 h156 =>
 (binR Prog .mul 3 v151 v155 h156).bindN fun v157 h158 =>
 (call F.ζ12 [a0,v147,v157,(.int .i64 2)] h158).bindT (fun p161 h162 => .panic p161 h162) fun v159 h160 =>
 (builtinV Prog .max [3,3] [v143,v159] h160).bindN fun v163 h164 =>
 (fieldAddrR Prog 115 a8 5 h164).bindN fun v165 h166 =>
 (storeR Prog 3 v165 v163 h166).bindN fun _v167 h168 =>
 chkR ((okVal (loadR Prog 3 v141 h160) v143 && true) && true) (
 (builtinV Prog .len [31] [a0] h168).bind fun v169 h170 =>
 (fieldAddrR Prog 115 a8 3 h170).bind fun v171 h172 =>
 (loadR Prog 3 v171 h172).bind fun v173 h174 =>
 (fieldAddrR Prog 115 a8 5 h174).bind fun v175 h176 =>
 (loadR Prog 3 v175 h176).bind fun v177 h178 =>
 (call F.ζj [v169,v173,v177,a12] h178).bind fun v179 h180 =>
 ζ7z k call a0 a6 a8 v179 a12 v119 h180))
 (
 ζ80 k call a0 a6 a8 v139 a12 v119 v139 h140))
 (
 .ok ((.exit 0),[(0,a0),(6,a6),(8,a8),(12,a12),(81,a11)]) h) :=
 (loopB_eq _ _).trans (by kernel_rfl)
theorem ζ2c (k:Nat) (call:Caller) (a0 a6 a8 a11 a12 a13:Value) (h:Heap):ζ7z k call a0 a6 a8 a11 a12 a13 h =
 condV (some a11) (
 (fieldAddrR Prog 115 a8 4 h).bindN fun v181 h182 =>
 (loadR Prog 3 v181 h182).bindN fun v183 h184 =>
 (fieldAddrR Prog 115 a8 3 h184).bindN fun v185 h186 =>
 (loadR Prog 3 v185 h186).bindN fun v187 h188 =>
 (fieldAddrR Prog 115 a8 5 h188).bindN fun v189 h190 =>
 (loadR Prog 3 v189 h190).bindN fun v191 h192 =>
 (call F.ζ12 [a0,v187,v191,a12] h192).bindT (fun p195 h196 => .panic p195 h196) fun v193 h194 =>
 (builtinV Prog .max [3,3] [v183,v193] h194).bindN fun v197 h198 =>
 (fieldAddrR Prog 115 a8 4 h198).bindN fun v199 h200 =>
 (storeR Prog 3 v199 v197 h200).bindN fun _v201 h202 =>
 chkR ((okVal (loadR Prog 3 v181 h194) v183 && true) && true) (
 ζ4q k call a0 a6 a8 a11 a12 a13 h202))
 (
 ζ4r k call a0 a6 a8 a11 a12 a13 a11 h):=by kernel_rfl
theorem ζa0 (k:Nat) (call:Caller) (a0 a6 a8 a11 a12 a13 a93:Value) (h:Heap):ζ80 k call a0 a6 a8 a11 a12 a13 a93 h =
 condV (some a11) (
 (fieldAddrR Prog 115 a8 4 h).bindN fun v203 h204 =>
 (loadR Prog 3 v203 h204).bindN fun v205 h206 =>
 (fieldAddrR Prog 115 a8 3 h206).bindN fun v207 h208 =>
 (loadR Prog 3 v207 h208).bindN fun v209 h210 =>
 (fieldAddrR Prog 115 a8 5 h210).bindN fun v211 h212 =>
 (loadR Prog 3 v211 h212).bindN fun v213 h214 =>
 (call F.ζ12 [a0,v209,v213,a12] h214).bindT (fun p217 h218 => .panic p217 h218) fun v215 h216 =>
 (builtinV Prog .max [3,3] [v205,v215] h216).bindN fun v219 h220 =>
 (fieldAddrR Prog 115 a8 4 h220).bindN fun v221 h222 =>
 (storeR Prog 3 v221 v219 h222).bindN fun _v223 h224 =>
 chkR ((okVal (loadR Prog 3 v203 h216) v205 && true) && true) (
 ζ4q k call a0 a6 a8 a11 a12 a13 h224))
 (
 ζ4r k call a0 a6 a8 a11 a12 a13 a11 h):=by kernel_rfl
theorem ζ3d (k:Nat) (call:Caller) (a0 a6 a8 a11 a12 a13:Value) (h:Heap):ζ4q k call a0 a6 a8 a11 a12 a13 h =
 ((bif wantVal a11 true then fieldAddrR Prog 115 a8 4 h else Res.ok undef h)).bind fun v225 h226 =>
 ((bif wantVal a11 true then loadR Prog 3 v225 h226 else Res.ok undef h226)).bind fun v227 h228 =>
 ((bif wantVal a11 true then fieldAddrR Prog 115 a13 4 h228 else Res.ok undef h228)).bind fun v229 h230 =>
 ((bif wantVal a11 true then loadR Prog 3 v229 h230 else Res.ok undef h230)).bind fun v231 h232 =>
 ((bif wantVal a11 true then binR Prog .eql 3 v227 v231 h232 else Res.ok undef h232)).bind fun v233 h234 =>
 (condV (some a11) (Res.ok v233 h234) (Res.ok (.bool false) h234)).bind fun v235 h236 =>
 ((bif wantVal v235 true then fieldAddrR Prog 115 a8 5 h236 else Res.ok undef h236)).bind fun v237 h238 =>
 ((bif wantVal v235 true then loadR Prog 3 v237 h238 else Res.ok undef h238)).bind fun v239 h240 =>
 ((bif wantVal v235 true then fieldAddrR Prog 115 a13 5 h240 else Res.ok undef h240)).bind fun v241 h242 =>
 ((bif wantVal v235 true then loadR Prog 3 v241 h242 else Res.ok undef h242)).bind fun v243 h244 =>
 ((bif wantVal v235 true then binR Prog .eql 3 v239 v243 h244 else Res.ok undef h244)).bind fun v245 h246 =>
 (condV (some v235) (Res.ok v245 h246) (Res.ok (.bool false) h246)).bind fun v247 h248 =>
 condV (some v247) (
 (loadR Prog 115 a8 h248).bind fun v249 h250 =>
 (storeR Prog 115 a6 v249 h250).bind fun _v251 h252 =>
 .ok (.ret,[(6,a6),(7,(.bool true))]) h252)
 (
 .ok (.normal,[(0,a0),(6,a6),(8,a8),(11,a11),(12,a12)]) h248):=by kernel_rfl
theorem ζ5s (k:Nat) (call:Caller) (a0 a6 a8 a11 a12 a13 a115:Value) (h:Heap):ζ4r k call a0 a6 a8 a11 a12 a13 a115 h =
 ((bif wantVal a11 true then fieldAddrR Prog 115 a8 4 h else Res.ok undef h)).bind fun v253 h254 =>
 ((bif wantVal a11 true then loadR Prog 3 v253 h254 else Res.ok undef h254)).bind fun v255 h256 =>
 ((bif wantVal a11 true then fieldAddrR Prog 115 a13 4 h256 else Res.ok undef h256)).bind fun v257 h258 =>
 ((bif wantVal a11 true then loadR Prog 3 v257 h258 else Res.ok undef h258)).bind fun v259 h260 =>
 ((bif wantVal a11 true then binR Prog .eql 3 v255 v259 h260 else Res.ok undef h260)).bind fun v261 h262 =>
 (condV (some a11) (Res.ok v261 h262) (Res.ok (.bool false) h262)).bind fun v263 h264 =>
 ((bif wantVal v263 true then fieldAddrR Prog 115 a8 5 h264 else Res.ok undef h264)).bind fun v265 h266 =>
 ((bif wantVal v263 true then loadR Prog 3 v265 h266 else Res.ok undef h266)).bind fun v267 h268 =>
 ((bif wantVal v263 true then fieldAddrR Prog 115 a13 5 h268 else Res.ok undef h268)).bind fun v269 h270 =>
 ((bif wantVal v263 true then loadR Prog 3 v269 h270 else Res.ok undef h270)).bind fun v271 h272 =>
 ((bif wantVal v263 true then binR Prog .eql 3 v267 v271 h272 else Res.ok undef h272)).bind fun v273 h274 =>
 (condV (some v263) (Res.ok v273 h274) (Res.ok (.bool false) h274)).bind fun v275 h276 =>
 condV (some v275) (
 (loadR Prog 115 a8 h276).bind fun v277 h278 =>
 (storeR Prog 115 a6 v277 h278).bind fun _v279 h280 =>
 .ok (.ret,[(6,a6),(7,(.bool true))]) h280)
 (
 .ok (.normal,[(0,a0),(6,a6),(8,a8),(11,a11),(12,a12)]) h276):=by kernel_rfl
theorem ζ5h (k:Nat) (call:Caller) (a0 a6 a8 a12 a81:Value) (h:Heap):ζ4e k call (.exit 0) [(0,a0),(6,a6),(8,a8),(12,a12),(81,a81)] h =
 (buildR Prog 115 [] h).bind fun v281 h282 =>
 (storeR Prog 115 a6 v281 h282).bind fun _v283 h284 =>
 (loadR Prog 115 a6 h284).bind fun v285 h286 =>
 .ok (.tuple #[v285,(.bool false)]) h286:=by kernel_rfl
theorem ζa1 (k:Nat) (call:Caller) (a6 a7:Value) (h:Heap):ζ4e k call .ret [(6,a6),(7,a7)] h =
 (loadR Prog 115 a6 h).bind fun v287 h288 =>
 .ok (.tuple #[v287,a7]) h288:=by kernel_rfl
def ζ75 (k:Nat) (call:Caller) (a2 a4 a5 a6:Value) (h:Heap):Res Value :=
 kSeq (pieceK (C k) call F.ζi [1,1,1,1]) (kDone Prog (resOf Prog F.ζi)) .normal [(2,a2),(4,a4),(5,a5),(6,a6)] h
def ζ76 (k:Nat) (call:Caller) (a2 a4 a5 a6 a28:Value) (h:Heap):Res Value :=
 kSeq (pieceK (C k) call F.ζi [1,1,1,1]) (kDone Prog (resOf Prog F.ζi)) .normal [(2,a2),(4,a4),(5,a5),(6,a6),(28,a28)] h
def ζ4c (k:Nat) (call:Caller) (a4 a6:Value) (h:Heap):Res Value :=
 kSeq (pieceK (C k) call F.ζi [1,1,1,1,1]) (kDone Prog (resOf Prog F.ζi)) .normal [(4,a4),(6,a6)] h
def ζ4d (k:Nat) (call:Caller) (a2 a4 a5 a6 a37:Value) (h:Heap):Res Value :=
 kSeq (pieceK (C k) call F.ζi [1,1,1,1,1]) (kDone Prog (resOf Prog F.ζi)) .normal [(2,a2),(4,a4),(5,a5),(6,a6),(37,a37)] h
def ζi (k:Nat) (call:Caller) (a0 a1:Value) (h:Heap):Res Value :=
 (boxR a0 h).bind fun v1 h2 =>
 (allocR Prog 130 h2).bind fun v3 h4 =>
 (fieldAddrR Prog 115 v1 3 h4).bind fun v5 h6 =>
 (loadR Prog 3 v5 h6).bind fun v7 h8 =>
 (fieldAddrR Prog 115 v1 6 h8).bind fun v9 h10 =>
 (loadR Prog 3 v9 h10).bind fun v11 h12 =>
 (binR Prog .mul 3 (.int .i64 2) v11 h12).bind fun v13 h14 =>
 (binR Prog .add 3 (.int .i64 4) v13 h14).bind fun v15 h16 =>
 (binR Prog .mul 3 a1 v15 h16).bind fun v17 h18 =>
 (binR Prog .add 3 v7 v17 h18).bind fun v19 h20 =>
 (fieldAddrR Prog 115 v1 0 h20).bindN fun v21 h22 =>
 (loadR Prog 31 v21 h22).bindN fun v23 h24 =>
 (call F.ζ3 [v23,v19,(.int .i64 2)] h24).bindT (fun p27 h28 => (fieldAddrR Prog 115 v1 0 h24).bindN fun v29 h30 => (loadR Prog 31 v29 h30).bindN fun v31 h32 => (binR Prog .add 3 v19 (.int .i64 2) h32).bindN fun v33 h34 => (allocR Prog 130 h34).bindN fun v35 h36 => chkR ((okVal (loadR Prog 31 v29 h20) v31 && true) && true) (.panic p27 h28)) fun v25 h26 =>
 (fieldAddrR Prog 115 v1 0 h26).bindN fun v37 h38 =>
 (loadR Prog 31 v37 h38).bindN fun v39 h40 =>
 (binR Prog .add 3 v19 (.int .i64 2) h40).bindN fun v41 h42 =>
 (call F.ζ3 [v39,v41,(.int .i64 2)] h42).bindT (fun p45 h46 => (allocR Prog 130 h42).bindN fun v47 h48 => chkR ((okVal (loadR Prog 31 v37 h20) v39 && true) && true) (.panic p45 h46)) fun v43 h44 =>
 (buildR Prog 130 [(0,v25),(1,v43)] h44).bindN fun v49 h50 =>
 (allocR Prog 130 h50).bindN fun v51 h52 =>
 (storeR Prog 130 v51 v49 h52).bindN fun _v53 h54 =>
 chkR ((okVal (loadR Prog 31 v37 h20) v39 && true) && true) (
 (fieldAddrR Prog 115 v1 6 h54).bind fun v55 h56 =>
 (loadR Prog 3 v55 h56).bind fun v57 h58 =>
 (binR Prog .gtr 3 v57 (.int .i64 0) h58).bind fun v59 h60 =>
 condV (some v59) (
 (fieldAddrR Prog 115 v1 0 h60).bind fun v61 h62 =>
 (loadR Prog 31 v61 h62).bind fun v63 h64 =>
 (binR Prog .add 3 v19 (.int .i64 4) h64).bind fun v65 h66 =>
 (call F.ζ3 [v63,v65,(.int .i64 2)] h66).bind fun v67 h68 =>
 (fieldAddrR Prog 130 v51 2 h68).bind fun v69 h70 =>
 (storeR Prog 3 v69 v67 h70).bind fun _v71 h72 =>
 ζ75 k call v1 v3 v19 v51 h72)
 (
 ζ76 k call v1 v3 v19 v51 v59 h60))
theorem ζbq (k:Nat) (a0 a1:Value) (h:Heap):R (T k) F.ζi [a0,a1] h = nrm .gc h (ζi k (R (T k)) a0 a1 h) :=
 (R_body (t:=T k) (T_scott k) (by kernel_rfl) (by kernel_rfl) _ _).trans (by kernel_rfl)
theorem ζ5f (k:Nat) (call:Caller) (a2 a4 a5 a6:Value) (h:Heap):ζ75 k call a2 a4 a5 a6 h =
 (fieldAddrR Prog 115 a2 6 h).bind fun v73 h74 =>
 (loadR Prog 3 v73 h74).bind fun v75 h76 =>
 (binR Prog .gtr 3 v75 (.int .i64 1) h76).bind fun v77 h78 =>
 condV (some v77) (
 (fieldAddrR Prog 115 a2 0 h78).bind fun v79 h80 =>
 (loadR Prog 31 v79 h80).bind fun v81 h82 =>
 (binR Prog .add 3 a5 (.int .i64 6) h82).bind fun v83 h84 =>
 (call F.ζ3 [v81,v83,(.int .i64 2)] h84).bind fun v85 h86 =>
 (fieldAddrR Prog 130 a6 3 h86).bind fun v87 h88 =>
 (storeR Prog 3 v87 v85 h88).bind fun _v89 h90 =>
 ζ4c k call a4 a6 h90)
 (
 ζ4d k call a2 a4 a5 a6 v77 h78):=by kernel_rfl
theorem ζ9f (k:Nat) (call:Caller) (a2 a4 a5 a6 a28:Value) (h:Heap):ζ76 k call a2 a4 a5 a6 a28 h =
 (fieldAddrR Prog 115 a2 6 h).bind fun v91 h92 =>
 (loadR Prog 3 v91 h92).bind fun v93 h94 =>
 (binR Prog .gtr 3 v93 (.int .i64 1) h94).bind fun v95 h96 =>
 condV (some v95) (
 (fieldAddrR Prog 115 a2 0 h96).bind fun v97 h98 =>
 (loadR Prog 31 v97 h98).bind fun v99 h100 =>
 (binR Prog .add 3 a5 (.int .i64 6) h100).bind fun v101 h102 =>
 (call F.ζ3 [v99,v101,(.int .i64 2)] h102).bind fun v103 h104 =>
 (fieldAddrR Prog 130 a6 3 h104).bind fun v105 h106 =>
 (storeR Prog 3 v105 v103 h106).bind fun _v107 h108 =>
 ζ4c k call a4 a6 h108)
 (
 ζ4d k call a2 a4 a5 a6 v95 h96):=by kernel_rfl
theorem ζ9g (k:Nat) (call:Caller) (a4 a6:Value) (h:Heap):ζ4c k call a4 a6 h =
 (loadR Prog 130 a6 h).bind fun v109 h110 =>
 (storeR Prog 130 a4 v109 h110).bind fun _v111 h112 =>
 (loadR Prog 130 a4 h112).bind fun v113 h114 =>
 .ok v113 h114:=by kernel_rfl
theorem ζ5g (k:Nat) (call:Caller) (a2 a4 a5 a6 a37:Value) (h:Heap):ζ4d k call a2 a4 a5 a6 a37 h =
 (loadR Prog 130 a6 h).bind fun v115 h116 =>
 (storeR Prog 130 a4 v115 h116).bind fun _v117 h118 =>
 (loadR Prog 130 a4 h118).bind fun v119 h120 =>
 .ok v119 h120:=by kernel_rfl
def ζ4f (k:Nat) (call:Caller):Env → Heap → Res (AExit × Env):=loopB (C k) call F.ζ12 [1,1,0,1,0,0]
def ζ6q (k:Nat) (call:Caller):Kont Value:=kBlock 0 (kSeq (pieceK (C k) call F.ζ12 [1,1,1]) (kDone Prog (resOf Prog F.ζ12)))
def ζ12 (k:Nat) (call:Caller) (a0 a1 a2 a3:Value) (h:Heap):Res Value :=
 (loopN (ζ4f k call) loopFuel [(0,a0),(1,a1),(2,a2),(3,a3),(9,(.int .i64 0)),(10,(.int .i64 0))] h).bind fun r1 h2 =>
 ζ6q k call r1.1 r1.2 h2
theorem ζbr (k:Nat) (a0 a1 a2 a3:Value) (h:Heap):R (T k) F.ζ12 [a0,a1,a2,a3] h = nrm .gc h (ζ12 k (R (T k)) a0 a1 a2 a3 h) :=
 (R_body (t:=T k) (T_scott k) (by kernel_rfl) (by kernel_rfl) _ _).trans (by kernel_rfl)
theorem ζ5i (k:Nat) (call:Caller) (a0 a1 a2 a3 a9 a10:Value) (h:Heap):ζ4f k call [(0,a0),(1,a1),(2,a2),(3,a3),(9,a9),(10,a10)] h =
 (binR Prog .lss 3 a10 a2 h).bind fun v3 h4 =>
 condV (some v3) (
 (binR Prog .mul 3 a10 a3 h4).bind fun v5 h6 =>
 (binR Prog .add 3 a1 v5 h6).bind fun v7 h8 =>
 (call F.ζ3 [a0,v7,(.int .i64 2)] h8).bind fun v9 h10 =>
 (binR Prog .add 3 v9 (.int .i64 1) h10).bind fun v11 h12 =>
 (builtinV Prog .max [3,3] [a9,v11] h12).bind fun v13 h14 =>
 (binR Prog .add 3 a10 (.int .i64 1) h14).bind fun v15 h16 =>
 .ok (.normal,[(0,a0),(1,a1),(2,a2),(3,a3),(9,v13),(10,v15)]) h16)
 (
 .ok ((.exit 0),[(0,a0),(1,a1),(2,a2),(3,a3),(9,a9),(10,a10),(13,v3)]) h4) :=
 (loopB_eq _ _).trans (by kernel_rfl)
theorem ζ8y (k:Nat) (call:Caller) (a0 a1 a2 a3 a9 a10 a13:Value) (h:Heap):ζ6q k call (.exit 0) [(0,a0),(1,a1),(2,a2),(3,a3),(9,a9),(10,a10),(13,a13)] h =
 .ok a9 h:=by kernel_rfl
end
end Go.Sw
end
section
namespace Go.Sw
open Go.RowKit
theorem Star.stAll {H0 H:Heap} {L:List It} (h:Star H0 H L) (i:Nat) {c:Nat} {cells:List Value} {e:Nat} (hi:L[i]? = some (itBlk c ⟨cells,e,false⟩)) (vs:List Value) (n:Nat) (hn:cells.length = n) (hv:vs.length = n) :
  ∃ H',stR n (.pointer (some ⟨c,0,none⟩)) (.agg vs.toArray) H = .ok undef H' ∧ Star H0 H' (L.set i (itBlk c ⟨vs,e,false⟩)) ∧ H'.n = H.n:=by
 have hg:=h.get i hi;refine ⟨H.set c (some ⟨vs,e,false⟩),?_,h.step i hi (by simp) (fun d _ hd => ?_) _ ?_ fun b hb => .inl hb,by simp⟩
 ·have hd:cells.drop vs.length = []:=by rw [List.drop_eq_nil_iff]; omega
  simp [hg,hv,hd];rw [hv] at hd;rw [if_pos (by omega),hd];simp
 ·rw [ζ2e];exact fun e => hd (show d ∈ [c] by simp [e])
 ·exact ζ7g _ _ _ (by rw [hg]; rfl)
theorem ζj9 (k:Nat) (b:List Int) (hb:Byt b) (i step:Int) (n:Nat) (hi:0 ≤ i ∧ i < 2 ^ 32) (hs:0 ≤ step ∧ step ≤ 8) (hn:n < 2 ^ 33) (hl:b.length < 2 ^ 31) (H:Heap) :
  R (T k) F.ζ12 [lv encB b,.int .i64 i,.int .i64 n,.int .i64 step] H = .ok (.int .i64 (needsS b i step n)) H:=by
 have hU:=fun j H' => refU_run k (H:=H') (Sl.lv H' 1 b) hb j 2 (by omega) (by omega);rw [ζbr]
 obtain ⟨x,e',H1,hr,rfl,rfl,a,rfl⟩:=loop_up (body:=ζ4f k (R (T k))) n
  (fun j e H' => H' = H ∧ e = [(0,lv encB b),(1,.int .i64 i),(2,.int .i64 n),(3,.int .i64 step),(9,.int .i64 (needsS b i step j)),(10,.int .i64 j)])
  (fun x e H' => H' = H ∧ x = .exit 0 ∧ ∃ a,e = [(0,lv encB b),(1,.int .i64 i),(2,.int .i64 n),(3,.int .i64 step),(9,.int .i64 (needsS b i step n)),(10,a),(13,.bool false)])
  (e0:=[(0,lv encB b),(1,.int .i64 i),(2,.int .i64 n),(3,.int .i64 step),(9,.int .i64 0),(10,.int .i64 0)]) (H0:=H) ⟨rfl,rfl⟩ (by omega)
  (fun j e H' hj ⟨hH,he⟩ => by
   subst he hH;have hlt:(j:Int) < n:=by omega
   have hm0:0 ≤ (j:Int) * step:=Int.mul_nonneg (by omega) hs.1;have hm1:(j:Int) * step ≤ 8589934592 * 8:=Int.mul_le_mul (by omega) (by omega) (by omega) (by omega);have hu:∀ H',R (T k) F.ζ3 [lv encB b,.int .i64 (i + (j:Int) * step),.int .i64 2] H' = .ok (.int .i64 (gU b (i + (j:Int) * step) 2)) H':=fun H' => hU _ H';have hg:=gU_two hb (i + (j:Int) * step);have hN:needsS b i step (j + 1) = (if gU b (i + (j:Int) * step) 2 + 1 > needsS b i step j then gU b (i + (j:Int) * step) 2 + 1 else needsS b i step j):=by
    unfold needsS;rw [List.range_succ,List.map_append,List.map_singleton,ζde];split <;> omega
   refine .inl ⟨_,H',?_,rfl,rfl⟩;rw [ζ5i,hN];generalize gU b (i + (j:Int) * step) 2 = y at *;simp -implicitDefEqProofs (disch:=omega) [hlt,hu])
  (fun e H' ⟨hH,he⟩ => by
   subst he hH;refine ⟨.exit 0,_,H',?_,by simp,rfl,rfl,.int .i64 n,rfl⟩;rw [ζ5i];simp -implicitDefEqProofs)
 refine nrm_gc (Pure.of ?_) (.int _ _);simp -implicitDefEqProofs [ζ12,hr,ζ8y]
abbrev rmCells (b:List Int) (n j q S N w:Int) (tb:List Int) (ps:List RP):List Value :=
 [lv encB b,.int .i64 n,.int .i64 j,.int .i64 q,.int .i64 S,.int .i64 N,.int .i64 w,lv encB tb,lv encRP ps]
abbrev rmV (r:RMach):Value:=.agg (rmCells r.b r.cl r.rowsAt r.entsAt r.states r.n r.words r.tb r.parts).toArray
theorem Flat.rm (r:RMach):Flat (rmV r):=.aggL (.cons (Flat.B _) (.cons (.int _ _) (.cons (.int _ _) (.cons (.int _ _) (.cons (.int _ _) (.cons (.int _ _) (.cons (.int _ _) (.cons (Flat.B _) (.cons (Flat.RPs _) .nil)))))))))
abbrev rmZ:RMach:=⟨[],0,0,0,0,0,0,[],[]⟩
def rmO (o:Option RMach):Value:=rmV (o.getD rmZ)
abbrev zCells:List Value:=[.slice none 0 0,.int .i64 0,.int .i64 0,.int .i64 0,.int .i64 0,.int .i64 0,.int .i64 0,.slice none 0 0,.slice none 0 0]
set_option maxHeartbeats 1000000 in
theorem ζny (k:Nat) (b:List Int) (hb:Byt b) (hl:b.length < 2 ^ 31) {n w j q:Int} (hn:4 ≤ n ∧ n ≤ 65535) (hw:0 ≤ w ∧ w ≤ 2) {rv ev:List Int} (hrv:restS b j = some rv) (hev:restS b q = some ev) (tb:List Int) (ps:List RP) {H0 H:Heap} {z c:Nat}
  (g:Star H0 H [itBlk z ⟨zCells,1,false⟩,itBlk c ⟨rmCells b n j q 2 0 w tb ps,1,false⟩]) :
  match closeA rv ev n w 2 with
  | some x => ∃ H' S N,loopN (ζ1w k (R (T k))) loopFuel [(0,lv encB b),(6,ptrV z),(8,ptrV c),(11,.bool true),(12,.int .i64 (4 + 2 * w))] H = .ok (.ret,[(6,ptrV z),(7,.bool true)]) H' ∧ Ext H0 H' ∧ H'.get z = some ⟨rmCells b n j q S N w tb ps,1,false⟩ ∧ S = x.1.length ∧ N = x.2.length
  | none => ∃ H',loopN (ζ1w k (R (T k))) loopFuel [(0,lv encB b),(6,ptrV z),(8,ptrV c),(11,.bool true),(12,.int .i64 (4 + 2 * w))] H = .ok (.exit 0,[(0,lv encB b),(6,ptrV z),(8,ptrV c),(12,.int .i64 (4 + 2 * w)),(81,.bool false)]) H' ∧ Ext H0 H' ∧ H'.get z = some ⟨zCells,1,false⟩:=by
 have hj:=(ζ2l.1 hrv).1;have hq:=(ζ2l.1 hev).1;have hbE:=hb.rest hev;have hbR:=hb.rest hrv;obtain ⟨n,rfl⟩:=Int.eq_ofNat_of_zero_le (show 0 ≤ n by omega);have hRows:=fun i n z H' => ζ7l k b.length i n z (by omega) (by omega) H'
 obtain ⟨x,e',H1,hr,hQ⟩:=loopDec (body:=ζ1w k (R (T k)))
  (fun m e H' => ∃ (S N:Nat) (fl:Bool),e = [(0,lv encB b),(6,ptrV z),(8,ptrV c),(11,.bool fl),(12,.int .i64 (4 + 2 * w))] ∧ 2 ≤ S ∧ S ≤ 65536 ∧ N ≤ 65536 ∧ Star H0 H' [itBlk z ⟨zCells,1,false⟩,itBlk c ⟨rmCells b n j q S N w tb ps,1,false⟩] ∧
   (fl = true → m = (65537 - S) * 65538 + (65537 - N) + 1 ∧ closeA rv ev n w 2 = closeA rv ev n w S ∧ ∀ rs,rowsTo rv n S = some rs → (N:Int) ≤ needR rs) ∧ (fl = false → m = 0 ∧ closeA rv ev n w 2 = none))
  (fun x e H' => (∃ (y:List (List Int) × List En) (S N:Int),closeA rv ev n w 2 = some y ∧ x = .ret ∧ e = [(6,ptrV z),(7,.bool true)] ∧ Ext H0 H' ∧ H'.get z = some ⟨rmCells b n j q S N w tb ps,1,false⟩ ∧ S = y.1.length ∧ N = y.2.length) ∨
   (closeA rv ev n w 2 = none ∧ x = .exit 0 ∧ e = [(0,lv encB b),(6,ptrV z),(8,ptrV c),(12,.int .i64 (4 + 2 * w)),(81,.bool false)] ∧ Ext H0 H' ∧ H'.get z = some ⟨zCells,1,false⟩))
  ((65537 - 2) * 65538 + 65537 + 1) (e0:=[(0,lv encB b),(6,ptrV z),(8,ptrV c),(11,.bool true),(12,.int .i64 (4 + 2 * w))]) (H0:=H) ⟨2,0,true,rfl,by omega,by omega,by omega,g,fun _ => ⟨rfl,rfl,fun rs _ => ζ68 rs⟩,fun h => by cases h⟩ (by omega)
  (fun m e H' ⟨S,N,fl,he,hS2,hS6,hN6,g,ht,hf⟩ => by
   subst he;cases fl with
   | false =>
    obtain ⟨hm,hc⟩:=hf rfl;refine .inr ⟨.exit 0,_,H',?_,by simp,.inr ⟨hc,rfl,rfl,g.ext,g.get 0 rfl⟩⟩;rw [ζ15];simp -implicitDefEqProofs
   | true =>
    obtain ⟨hm,hc,hNle⟩:=ht rfl;clear hf ht;have hcA:=ζiq (rv:=rv) hbE (n:=(n:Int)) (w:=w) hS6;have hM:=g.get 1 rfl;have hcn:¬ c = H'.n:=by have:=Heap.get_lt hM; omega
    have e0:stR 9 (.pointer (some ⟨H'.n,0,none⟩)) (.agg (rmCells b n j q S N w tb ps).toArray) (H'.push ⟨zCells,1,false⟩) = .ok undef (H'.push ⟨rmCells b n j q S N w tb ps,1,false⟩):=by simp
    have g1:=g.push ⟨rmCells b n j q S N w tb ps,1,false⟩;obtain ⟨P,hP⟩:∃ P,P = H'.push ⟨rmCells b n j q S N w tb ps,1,false⟩:=⟨_,rfl⟩
    rw [← hP] at g1 e0;simp only [List.cons_append,List.nil_append] at g1;have hMP:=g1.get 1 rfl;have hWP:=g1.get 2 rfl;have hre:=ζm5 hrv (show (0:Int) < n by omega) (s:=S) (by omega);have hR1:=fun H' => hRows j S (2 * n) H';cases hrt:rowsTo rv n S with
    | none =>
     rw [hrt] at hre;simp at hre;rw [hre] at hR1;rw [hrt] at hcA;refine .inl ⟨0,_,P,?_,by omega,S,N,false,rfl,hS2,hS6,hN6,g1.take 2,(fun h => by cases h),fun _ => ⟨rfl,by rw [hc,hcA]; rfl⟩⟩;rw [ζ15];simp -implicitDefEqProofs (disch:=omega) [-stR_ptr,hM,e0,hMP,hR1,ζa0,ζ5s]
    | some rs =>
     rw [hrt] at hre;simp at hre;rw [hre] at hR1;rw [hrt,Option.bind_some] at hcA;have hrl:rs.length = S:=by have:=mapO_len hrt; simpa using this
     have hneed:=ζm4 hrv (show (0:Int) < n by omega) hrt;have hNle:=hNle rs hrt;have hn6:=ζbj hbR hrt;have hn0:=ζ68 rs;have hSn:(S:Int) * (n:Int) = ((S * n:Nat):Int):=by simp
     have hSnb:S * n ≤ 65536 * 65535:=Nat.mul_le_mul (by omega) (by omega);rw [Int.toNat_natCast] at hneed;have hnr:=fun H' => ζj9 k b hb j 2 (S * n) (by omega) (by omega) (by omega) hl H';rw [hneed,← hSn] at hnr;obtain ⟨N',hN'⟩:∃ N':Nat,(N':Int) = needR rs:=⟨(needR rs).toNat,by omega⟩
     have hmx:(if needR rs > N then needR rs else (N:Int)) = (N':Int):=by rw [hN']; split <;> omega
     obtain ⟨P2,e2,g2,_⟩:=g1.stCell 1 rfl 5 (v:=.int .i64 N') rfl rfl (by simp);simp only [List.set_cons_zero,List.set_cons_succ] at g2;have hMP2:=g2.get 1 rfl;have hWP2:=g2.get 2 rfl;have hR2:=fun H' => hRows q N' (4 + 2 * w) H';have hee:=ζlj hev hw.1 N';have hb1:(S:Int) * (n:Int) ≤ 65536 * 65535:=by omega
     have hb0:0 ≤ (S:Int) * (n:Int):=by omega
     rw [show (needR rs).toNat = N' by omega] at hcA;cases het:entsTo ev w N' with
     | none =>
      rw [het] at hee;simp at hee;rw [hee] at hR2;rw [het] at hcA;refine .inl ⟨0,_,P2,?_,by omega,S,N',false,rfl,hS2,hS6,by omega,g2.take 2,(fun h => by cases h),fun _ => ⟨rfl,by rw [hc,hcA]; rfl⟩⟩;rw [ζ15];simp -implicitDefEqProofs (disch:=omega) [-stR_ptr,hM,e0,hMP,hR1,hnr,hmx,e2,hMP2,hR2,ζ2c,ζ5s]
     | some es =>
      rw [het] at hee;simp at hee;rw [hee] at hR2;rw [het,Option.bind_some] at hcA;have hel:es.length = N':=by have:=mapO_len het; simpa using this
      have hE:=needE_le hbE het;have hneed2:=ζli hev hw het;have hnr2:=fun H' => ζj9 k b hb q (4 + 2 * w) N' (by omega) (by omega) (by omega) hl H';rw [hneed2] at hnr2;obtain ⟨S',hS'⟩:∃ S':Nat,(S':Int) = max (S:Int) (needE es):=⟨(max (S:Int) (needE es)).toNat,by omega⟩
      have hEe:needE es = max 2 (needL (es.map En.next)):=rfl;have hmx2:(if needL (es.map En.next) > S then needL (es.map En.next) else (S:Int)) = (S':Int):=by rw [hS',hEe]; split <;> omega
      have hL6:needL (es.map En.next) ≤ 65536:=by omega
      obtain ⟨P3,e3,g3,_⟩:=g2.stCell 1 rfl 4 (v:=.int .i64 S') rfl rfl (by simp);simp only [List.set_cons_zero,List.set_cons_succ] at g3;have hMP3:=g3.get 1 rfl;have hWP3:=g3.get 2 rfl;by_cases hsame:S' = S ∧ N' = N
      ·obtain ⟨rfl,rfl⟩:=hsame;rw [if_pos (by omega)] at hcA;obtain ⟨P4,e4,g4,_⟩:=g3.stAll 0 rfl (rmCells b n j q S' N' w tb ps) 9 rfl rfl;simp only [List.set_cons_zero,List.set_cons_succ] at g4;refine .inr ⟨.ret,_,P4,?_,by simp,.inl ⟨_,S',N',by rw [hc,hcA],rfl,rfl,g4.ext,g4.get 0 rfl,by rw [hrl],by rw [hel]⟩⟩;rw [ζ15];simp -implicitDefEqProofs (disch:=omega) [-stR_ptr,hM,e0,hMP,hR1,hnr,hmx,e2,hMP2,hR2,ζ2c,hnr2,hmx2,e3,hMP3,hWP3,ζ3d,e4]
      ·refine .inl ⟨(65537 - S') * 65538 + (65537 - N') + 1,_,P3,?_,?_,S',N',true,rfl,by omega,by omega,by omega,g3.take 2,fun _ => ⟨rfl,?_,?_⟩,fun h => by cases h⟩
       ·by_cases hs1:S' = S
        ·have hs2:((N':Int) == (N:Int)) = false:=by simp; omega
         subst hs1;rw [ζ15];simp -implicitDefEqProofs (disch:=omega) [-stR_ptr,hM,e0,hMP,hR1,hnr,hmx,e2,hMP2,hR2,ζ2c,hnr2,hmx2,e3,hMP3,hWP3,ζ3d,hs2]
        ·have hs2:((S':Int) == (S:Int)) = false:=by simp; omega
         rw [ζ15];simp -implicitDefEqProofs (disch:=omega) [-stR_ptr,hM,e0,hMP,hR1,hnr,hmx,e2,hMP2,hR2,ζ2c,hnr2,hmx2,e3,hMP3,hWP3,ζ3d,hs2]
       ·omega
       ·rw [hc];by_cases hcl:(needE es).toNat ≤ S
        ·rw [show S' = S by omega]
        ·rw [hcA,if_neg hcl,show S' = (needE es).toNat by omega]
       ·intro rt hrt2;have:=ζlu (s:=S) (t:=S') (by omega) hrt hrt2;omega)
 rcases hQ with ⟨y,S,N,h1,rfl,rfl,h2,h3,h4⟩ | ⟨h1,rfl,rfl,h2,h3⟩
 ·rw [h1]; exact ⟨H1,S,N,hr,h2,h3,h4⟩
 ·rw [h1]; exact ⟨H1,hr,h2,h3⟩
end Go.Sw
end
section
namespace Go.Sw
open Go.RowKit
theorem gU_four {b:List Int} (hb:Byt b) (i:Int):-1 ≤ gU b i 4 ∧ gU b i 4 < 4294967296:=by
 unfold gU;cases h:uS b i 4 with
 | none => simp
 | some x => have:=uS_four hb h; simp; omega
theorem gU_lt {b:List Int} {i:Int} (h:¬ gU b i 4 < 0):uS b i 4 = some (gU b i 4):=by
 unfold gU at h ⊢;cases hu:uS b i 4 with
 | none => rw [hu] at h; simp at h
 | some x => rfl
set_option maxHeartbeats 1000000 in
theorem ζid (k:Nat) (b:List Int) (hb:Byt b) (g w:Int) (hg:1 ≤ g ∧ g ≤ 65535) (hw:w = 0 ∨ w = 1 ∨ w = 2) (hl:b.length < 2 ^ 31) (H:Heap) :
  R (T k) F.ζ7 [lv encB b,.int .i64 g,.int .i64 w] H = .ok (.tuple #[rmO (refMachS b g w),.bool (refMachS b g w).isSome]) H:=by
 rw [ζce];have hU:=fun j H' => refU_run k (H:=H') (Sl.lv H' 1 b) hb j 4 (by omega) (by omega);have u0:∀ H',R (T k) F.ζ3 [lv encB b,.int .i64 0,.int .i64 4] H' = .ok (.int .i64 (gU b 0 4)) H':=fun H' => hU _ H';have u4:∀ H',R (T k) F.ζ3 [lv encB b,.int .i64 4,.int .i64 4] H' = .ok (.int .i64 (gU b 4 4)) H':=fun H' => hU _ H';have u8:∀ H',R (T k) F.ζ3 [lv encB b,.int .i64 8,.int .i64 4] H' = .ok (.int .i64 (gU b 8 4)) H':=fun H' => hU _ H';have u12:∀ H',R (T k) F.ζ3 [lv encB b,.int .i64 12,.int .i64 4] H' = .ok (.int .i64 (gU b 12 4)) H':=fun H' => hU _ H';have b0:=gU_four hb 0;have b4:=gU_four hb 4;have b8:=gU_four hb 8;have b12:=gU_four hb 12;have fl:∀ o:Option RMach,Flat (.tuple #[rmO o,.bool o.isSome]):=fun o => .tupleL (.cons (Flat.rm _) (.cons (.bool _) .nil));obtain ⟨n,hn⟩:∃ n,gU b 0 4 = n:=⟨_,rfl⟩
 obtain ⟨i,hi⟩:∃ i,gU b 4 4 = i:=⟨_,rfl⟩
 obtain ⟨j,hj⟩:∃ j,gU b 8 4 = j:=⟨_,rfl⟩
 obtain ⟨q,hq⟩:∃ q,gU b 12 4 = q:=⟨_,rfl⟩
 rw [hn] at u0 b0;rw [hi] at u4 b4;rw [hj] at u8 b8;rw [hq] at u12 b12;obtain ⟨M1,hM1⟩:∃ M1:Blk,M1 = ⟨[lv encB b,.int .i64 n,.int .i64 j,.int .i64 q,.int .i64 2,.int .i64 0,.int .i64 w,.slice none 0 0,.slice none 0 0],1,false⟩:=⟨_,rfl⟩
 have hx2:Ext H ((H.push ⟨zCells,1,false⟩).push M1):=((Ext.refl H).push _).push _
 -- one thing is not as it should be
 have no:machS b g w = none → ζ7 k (R (T k)) (lv encB b) (.int .i64 g) (.int .i64 w) H = .ok (.tuple #[.agg zCells.toArray,.bool false]) ((H.push ⟨zCells,1,false⟩).push M1) → nrm .fz H (ζ7 k (R (T k)) (lv encB b) (.int .i64 g) (.int .i64 w) H) = .ok (.tuple #[rmO (refMachS b g w),.bool (refMachS b g w).isSome]) H:=fun h1 h2 => by
  have:refMachS b g w = none:=by unfold refMachS; rw [h1]; rfl
  rw [this];exact nrm_fz (L:=[]) h2 rfl hx2 (fl none).alive
 have n0:∀ m,machS b g w = some m → (4 ≤ n ∧ n ≤ 65535) ∧ 0 ≤ i ∧ i ≤ b.length ∧ 0 ≤ j ∧ j ≤ b.length ∧ 0 ≤ q ∧ q ≤ b.length:=fun m hm => by
  obtain ⟨i',j',q',tb,rv,ev,x,h0,h1,h2,h3,h4,h5,h6,h7,h8,h9,_⟩:=ζex hm;have e0:=gU_some h0;have e3:=gU_some h3;have e6:=gU_some h6;have e8:=gU_some h8;rw [hn] at e0;rw [hi] at e3;rw [hj] at e6;rw [hq] at e8;have r4:=(ζ2l.1 h4).1;have r7:=(ζ2l.1 h7).1;have r9:=(ζ2l.1 h9).1;omega
 have nn:¬ ((4 ≤ n ∧ n ≤ 65535) ∧ 0 ≤ i ∧ i ≤ b.length ∧ 0 ≤ j ∧ j ≤ b.length ∧ 0 ≤ q ∧ q ≤ b.length) → machS b g w = none:=fun h => by
  cases hm:machS b g w with
  | none => rfl
  | some m => exact absurd (n0 m hm) h
 by_cases c1:n < 4
 ·refine no (nn (by omega)) ?_;rw [hM1];simp -implicitDefEqProofs (disch:=omega) [ζ7,u0,u4,u8,u12,c1]
 by_cases c2:n > 65535
 ·refine no (nn (by omega)) ?_;rw [hM1];simp -implicitDefEqProofs (disch:=omega) [ζ7,u0,u4,u8,u12,c1,c2]
 by_cases c3:j < 0
 ·refine no (nn (by omega)) ?_;rw [hM1];simp -implicitDefEqProofs (disch:=omega) [ζ7,u0,u4,u8,u12,c1,c2,c3]
 by_cases c4:q < 0
 ·refine no (nn (by omega)) ?_;rw [hM1];simp -implicitDefEqProofs (disch:=omega) [ζ7,u0,u4,u8,u12,c1,c2,c3,c4]
 by_cases c5:j > b.length
 ·refine no (nn (by omega)) ?_;rw [hM1];simp -implicitDefEqProofs (disch:=omega) [ζ7,u0,u4,u8,u12,c1,c2,c3,c4,c5]
 by_cases c6:q > b.length
 ·refine no (nn (by omega)) ?_;rw [hM1];simp -implicitDefEqProofs (disch:=omega) [ζ7,u0,u4,u8,u12,c1,c2,c3,c4,c5,c6]
 by_cases c7:i < 0
 ·refine no (nn (by omega)) ?_;rw [hM1];simp -implicitDefEqProofs (disch:=omega) [ζ7,u0,u4,u8,u12,c1,c2,c3,c4,c5,c6,c7]
 by_cases c8:i > b.length
 ·refine no (nn (by omega)) ?_;rw [hM1];simp -implicitDefEqProofs (disch:=omega) [ζ7,u0,u4,u8,u12,c1,c2,c3,c4,c5,c6,c7,c8]
 clear no nn n0;have hU0:=gU_lt (b:=b) (i:=0) (by omega);have hU4:=gU_lt (b:=b) (i:=4) (by omega);have hU8:=gU_lt (b:=b) (i:=8) (by omega);have hU12:=gU_lt (b:=b) (i:=12) (by omega);rw [hn] at hU0;rw [hi] at hU4;rw [hj] at hU8;rw [hq] at hU12;obtain ⟨tb,htb⟩:∃ tb,tb = b.drop i.toNat:=⟨_,rfl⟩
 have r4:restS b i = some tb:=ζ2l.2 ⟨by omega,htb⟩;have r8:restS b j = some (b.drop j.toNat):=ζ2l.2 ⟨by omega,rfl⟩;have r12:restS b q = some (b.drop q.toNat):=ζ2l.2 ⟨by omega,rfl⟩;have hsl:=fun H' => slS_lv encB_len b (some (.int .i64 i)) none none i.toNat b.length b.length (by unfold boundOf; dsimp only; rw [if_pos (by omega)]) rfl rfl (fun h => by cases h) (by omega) (Nat.le_refl _) (Nat.le_refl _) H';rw [List.take_length,← htb] at hsl;have htbb:Byt tb:=hb.rest r4;have htbl:tb.length < 2 ^ 31:=by rw [htb]; simp; omega
 have hrd:=fun H' => ζm1 k tb htbb g 2 hg (.inl rfl) htbl H';have hlr:=look_ref htbb hg.1 hg.2 (.inl rfl:(2:Int) = 2 ∨ (2:Int) = 4);have hmach:machS b g w = (lookS tb g 2).bind fun tab => (closeA (b.drop j.toNat) (b.drop q.toNat) n w 2).map fun x => ⟨n,tab,x.1,x.2⟩:=by
  unfold machS;rw [hU0,Option.bind_some,if_pos (by omega),hU4,Option.bind_some,r4,Option.bind_some];congr 1;funext tab;rw [hU8,Option.bind_some,r8,Option.bind_some,hU12,Option.bind_some,r12,Option.bind_some]
 cases hlk:lookS tb g 2 with
 | none =>
  have hm:refMachS b g w = none:=by unfold refMachS; rw [hmach,hlk]; rfl
  rw [hm];have hrr:=hlr.2 hlk;rw [hrr] at hrd;simp only [tabRO,Option.isSome_none] at hrd
  obtain ⟨x,e',H1,hr,rfl,rfl,rfl⟩:=loopDec (body:=ζ1w k (R (T k)))
   (fun m e H' => H' = (((H.push ⟨zCells,1,false⟩).push ⟨rmCells b n j q 2 0 w [] [],1,false⟩).push ⟨[lv encB [],lv encRP []],1,false⟩) ∧ e = [(0,lv encB b),(6,ptrV H.n),(8,ptrV (H.n + 1)),(11,.bool false),(12,.int .i64 (4 + 2 * w))])
   (fun x e H' => H' = (((H.push ⟨zCells,1,false⟩).push ⟨rmCells b n j q 2 0 w [] [],1,false⟩).push ⟨[lv encB [],lv encRP []],1,false⟩) ∧ x = .exit 0 ∧ e = [(0,lv encB b),(6,ptrV H.n),(8,ptrV (H.n + 1)),(12,.int .i64 (4 + 2 * w)),(81,.bool false)])
   0 (e0:=[(0,lv encB b),(6,ptrV H.n),(8,ptrV (H.n + 1)),(11,.bool false),(12,.int .i64 (4 + 2 * w))]) (H0:=(((H.push ⟨zCells,1,false⟩).push ⟨rmCells b n j q 2 0 w [] [],1,false⟩).push ⟨[lv encB [],lv encRP []],1,false⟩)) ⟨rfl,rfl⟩ (by omega)
   (fun m e H' ⟨hH,he⟩ => by
    subst hH he;refine .inr ⟨.exit 0,_,_,?_,by simp,rfl,rfl,rfl⟩;rw [ζ15];simp -implicitDefEqProofs)
  refine nrm_fz (L:=[]) (v:=.tuple #[.agg zCells.toArray,.bool false]) (H':=((H.push ⟨zCells,1,false⟩).push ⟨rmCells b n j q 2 0 w [] [],1,false⟩).push ⟨[lv encB [],lv encRP []],1,false⟩) ?_ rfl ((((Ext.refl H).push _).push _).push _) (fl none).alive;simp -implicitDefEqProofs (disch:=omega) [ζ7,u0,u4,u8,u12,c1,c2,c3,c4,c5,c6,c7,c8,hsl,hrd,hr,ζ5h]
 | some tab =>
  obtain ⟨ps,hps,hrel⟩:=hlr.1 tab hlk;rw [hps] at hrd;simp only [tabRO,Option.isSome_some] at hrd;have st:=((Star.nil H).push ⟨zCells,1,false⟩).push ⟨rmCells b n j q 2 0 w tb ps,1,false⟩;have st:=st.rest ((Ext.refl _).push ⟨[lv encB tb,lv encRP ps],1,false⟩);have hlp:=ζny k b hb hl (n:=n) (w:=w) (by omega) (by omega) r8 r12 tb ps (by simpa using st);cases hcl:closeA (b.drop j.toNat) (b.drop q.toNat) n w 2 with
  | none =>
   have hm:refMachS b g w = none:=by unfold refMachS; rw [hmach,hlk,Option.bind_some,hcl]; rfl
   rw [hm];rw [hcl] at hlp;obtain ⟨H2,hr,hx,hz⟩:=hlp;have hgs:(H2.set H.n (some ⟨zCells,1,false⟩)).get H.n = some ⟨zCells,1,false⟩:=ζ7g _ _ _ (by rw [hz]; rfl);have hx3:Ext H (H2.set H.n (some ⟨zCells,1,false⟩)):=⟨by simpa using hx.1,fun d hd hs => by rw [ζ2e _ _ _ _ (by omega)]; exact hx.2 d hd hs⟩
   refine nrm_fz (L:=[]) (v:=.tuple #[.agg zCells.toArray,.bool false]) (H':=H2.set H.n (some ⟨zCells,1,false⟩)) ?_ rfl hx3 (fl none).alive;simp -implicitDefEqProofs (disch:=omega) [ζ7,u0,u4,u8,u12,c1,c2,c3,c4,c5,c6,c7,c8,hsl,hrd,hr,ζ5h,hz,hgs]
  | some x =>
   have hm:refMachS b g w = some (rmOf b g w ⟨n,tab,x.1,x.2⟩):=by unfold refMachS; rw [hmach,hlk,Option.bind_some,hcl]; rfl
   rw [hm];rw [hcl] at hlp;obtain ⟨H2,S,N,hr,hx,hz,rfl,rfl⟩:=hlp;have hrm:rmO (some (rmOf b g w ⟨n,tab,x.1,x.2⟩)) = .agg (rmCells b n j q x.1.length x.2.length w tb ps).toArray:=by
    unfold rmO rmOf;rw [hj,hq,hi,← htb,hps];rfl
   have fl2:=fl (some (rmOf b g w ⟨n,tab,x.1,x.2⟩));rw [hrm] at fl2 ⊢;refine nrm_fz (L:=[]) (v:=.tuple #[.agg (rmCells b n j q x.1.length x.2.length w tb ps).toArray,.bool true]) (H':=H2) ?_ rfl hx fl2.alive;simp -implicitDefEqProofs (disch:=omega) [ζ7,u0,u4,u8,u12,c1,c2,c3,c4,c5,c6,c7,c8,hsl,hrd,hr,ζa1,hz]
theorem mach_at {b:List Int} (hb:Byt b) {g w:Int} (hw:0 ≤ w ∧ w ≤ 2) {m:Mach} (h:machS b g w = some m) :
  (0 ≤ gU b 8 4 ∧ gU b 8 4 ≤ b.length) ∧ (0 ≤ gU b 12 4 ∧ gU b 12 4 ≤ b.length) ∧
  (∀ (i:Nat) e,m.ents[i]? = some e → e = ⟨gU b (gU b 12 4 + (i:Int) * (4 + 2 * w)) 2,gU b (gU b 12 4 + (i:Int) * (4 + 2 * w) + 2) 2,if 0 < w then gU b (gU b 12 4 + (i:Int) * (4 + 2 * w) + 4) 2 else 0,if 1 < w then gU b (gU b 12 4 + (i:Int) * (4 + 2 * w) + 6) 2 else 0⟩) ∧
  ∀ (s c:Nat) r x,m.rows[s]? = some r → r[c]? = some x → x = gU b (gU b 8 4 + (m.classes * s + (c:Nat)) * 2) 2:=by
 obtain ⟨i,j,q,tb,rv,ev,x,h0,h1,h2,h3,h4,h5,h6,h7,h8,h9,h10,h11,h12⟩:=ζex h;have e6:=gU_some h6;have e8:=gU_some h8;rw [e6,e8];obtain ⟨c1,c2,c3,c4,c5,c6,c7,_⟩:=ζfk (hb.rest h7) (hb.rest h9) (by omega) hw _ _ x (by omega) (by omega) h10;refine ⟨(ζ2l.1 h7).1,(ζ2l.1 h9).1,fun i e he => ?_,fun s c r x' hr hx => ?_⟩
 ·rw [h12] at he;obtain ⟨y,g1,g2⟩:=mapO_at c7 (List.getElem?_eq_some_iff.1 he).1;rw [he] at g2;injection g2 with g2;subst g2;exact ent_at h9 hw g1
 ·rw [h11] at hr;obtain ⟨y,g1,g2⟩:=mapO_at c6 (List.getElem?_eq_some_iff.1 hr).1;rw [hr] at g2;injection g2 with g2;subst g2;have hra:=row_at h7 (by omega) g1;have hlt:=(List.getElem?_eq_some_iff.1 hx).1;rw [hra] at hx hlt;simp at hlt;rw [List.getElem?_map,List.getElem?_range (by omega)] at hx;injection hx with hx;exact hx.symm
theorem ζlh (k:Nat) {b:List Int} (hb:Byt b) {g w:Int} (hw:w = 0 ∨ w = 1 ∨ w = 2) (hl:b.length < 2 ^ 31) {m:Mach} (h:machS b g w = some m) {i:Int} (hi0:0 ≤ i) (hi6:i ≤ 65536) {e:En} (he:m.ents[i.toNat]? = some e) (H:Heap) :
  R (T k) F.ζi [rmV (rmOf b g w m),.int .i64 i] H = .ok (.agg (encEn e).toArray) H:=by
 obtain ⟨_,hq,hat,_⟩:=mach_at hb (by omega) h;have he:=hat _ _ he;clear hat;obtain ⟨i,rfl⟩:=Int.eq_ofNat_of_zero_le hi0;rw [Int.toNat_natCast] at he;obtain ⟨p,hp⟩:∃ p,p = gU b 12 4 + (i:Int) * (4 + 2 * w):=⟨_,rfl⟩
 have hm0:0 ≤ (i:Int) * (4 + 2 * w):=Int.mul_nonneg (by omega) (by omega);have hm1:(i:Int) * (4 + 2 * w) ≤ 65536 * 8:=Int.mul_le_mul (by omega) (by omega) (by omega) (by omega);have hU:=fun j H' => refU_run k (H:=H') (Sl.lv H' 1 b) hb j 2 (by omega) (by omega);have hu:∀ j H',R (T k) F.ζ3 [lv encB b,.int .i64 j,.int .i64 2] H' = .ok (.int .i64 (gU b j 2)) H':=fun j H' => hU j H';rw [ζbq];rw [← hp] at he;have hx:Ext H (((H.push ⟨rmCells b m.classes (gU b 8 4) (gU b 12 4) m.rows.length m.ents.length w (b.drop (gU b 4 4).toNat) ((refReadS (b.drop (gU b 4 4).toNat) g 2).getD []),1,false⟩).push ⟨encEn e,1,false⟩).push ⟨encEn e,1,false⟩):=(((Ext.refl H).push _).push _).push _;refine nrm_gc ⟨_,?_,hx⟩ (Flat.ofEn e).alive;subst he;unfold rmOf;rcases hw with rfl | rfl | rfl
 ·simp -implicitDefEqProofs at hm0 hm1 hp;simp -implicitDefEqProofs (disch:=omega) [ζi,← hp,hu,ζ9f,ζ5g]
 ·simp -implicitDefEqProofs at hm0 hm1 hp;simp -implicitDefEqProofs (disch:=omega) [ζi,← hp,hu,ζ5f,ζ5g]
 ·simp -implicitDefEqProofs at hm0 hm1 hp;simp -implicitDefEqProofs (disch:=omega) [ζi,← hp,hu,ζ5f,ζ9g]
end Go.Sw
end
section
namespace Go.Sw
theorem row_I {r:List Da} {cs:List Value} (h:LayRow [.int .i64] r cs):∃ n:Int,cs = encI n ∧ (Lit.int .i64 n).wf = true:=by
 obtain ⟨d,v,ds,vs,rfl,h1,h2⟩:=h.head;obtain rfl:=h2.done;obtain ⟨n,rfl,w⟩:=h1.intv;exact ⟨n,rfl,w⟩
theorem wf_u8 {n:Int} (h:(Lit.int .u8 n).wf = true):0 ≤ n ∧ n < 256:=by
 simp [Lit.wf,IntKind.min,IntKind.max,IntKind.signed,IntKind.bits] at h;omega
theorem row_B {r:List Da} {cs:List Value} (h:LayRow [.int .u8] r cs):∃ n:Int,cs = encB n ∧ (0 ≤ n ∧ n < 256):=by
 obtain ⟨d,v,ds,vs,rfl,h1,h2⟩:=h.head;obtain rfl:=h2.done;obtain ⟨n,rfl,w⟩:=h1.intv;exact ⟨n,rfl,wf_u8 w⟩
end Go.Sw
end
section
namespace Go.Sw
open Go.RowKit
theorem veq_RP (l:List RP):veq (lv encRP l) (lv encRP l) = true:=veq_lv fun p _ v hv => by
 simp [encRP] at hv;rcases hv with rfl | rfl | rfl | rfl | rfl <;> simp
theorem veq_rm (r:RMach):veq (rmV r) (rmV r) = true:=veq_agg fun v hv => by
 simp [rmCells] at hv;rcases hv with rfl | rfl | rfl | rfl | rfl | rfl | rfl | rfl | rfl
 ·simp
 ·simp
 ·simp
 ·simp
 ·simp
 ·simp
 ·simp
 ·simp
 ·exact veq_RP _
end Go.Sw
end
section
namespace Go.Sw
open Go.RowKit
theorem ζic {p:Plan} (hp:p.ok) (w:Int) {rm:List Int} (hrm:Byt rm):Byt (planRoom p w rm):=by
 have tw:∀ l,Byt (twos l):=fun l => Byt.flat fun r hr => by obtain ⟨c,_,rfl⟩:=List.mem_map.1 hr; exact ζt _ _
 unfold planRoom;refine (ζt _ _).app ((ζt _ _).app ((ζt _ _).app ((ζt _ _).app (hrm.app (Byt.app ?_ (Byt.app ?_ ?_))))))
 ·unfold ofS;exact (((ζt _ _).app (ζt _ _)).app (ζt _ _)).app (tw _)
 ·exact Byt.flat fun r hr => by obtain ⟨c,_,rfl⟩:=List.mem_map.1 hr; exact tw _
 ·refine Byt.flat fun r hr => ?_;obtain ⟨e,_,rfl⟩:=List.mem_map.1 hr;unfold entB;refine (((ζt _ _).app (ζt _ _)).app ?_).app ?_
  ·split
   ·exact ζt _ _
   ·exact Byt.nil
  ·split
   ·exact ζt _ _
   ·exact Byt.nil
theorem ζdk {p:Plan} (hp:p.ok) (w:Int) {rm:List Int} (hrm:rm.length ≤ 1000) (h1:p.cls.length ≤ 1000) (h2:p.rows.length ≤ 1000) (h3:p.ents.length ≤ 1000):(planRoom p w rm).length ≤ 100000:=by
 have hN:=planN_eq p hp.2.2;have hofl:(ofS p.cls).length = 6 + p.cls.length * 2:=by unfold ofS; simp [twos_len]; omega
 have hrl:(rowsL (planN p) p.rows).length ≤ 1000 * 22:=by rw [ζcq]; exact Nat.mul_le_mul h2 (by omega)
 have hel:=ζck w p.ents;unfold planRoom;simp;omega
theorem row_En {r:List Da} {cs:List Value} (h:LayRow [.int .i64,.int .i64,.int .i64,.int .i64] r cs):∃ p:En,cs = encEn p ∧ True:=by
 obtain ⟨_,v1,_,_,rfl,h1,h⟩:=h.head;obtain ⟨_,v2,_,_,rfl,h2,h⟩:=h.head;obtain ⟨_,v3,_,_,rfl,h3,h⟩:=h.head;obtain ⟨_,v4,_,_,rfl,h4,h⟩:=h.head;obtain rfl:=h.done;obtain ⟨a,rfl,_⟩:=h1.intv;obtain ⟨b,rfl,_⟩:=h2.intv;obtain ⟨c,rfl,_⟩:=h3.intv;obtain ⟨d,rfl,_⟩:=h4.intv;exact ⟨⟨a,b,c,d⟩,rfl,trivial⟩
theorem row_BR {r:List Da} {cs:List Value} (h:LayRow [.slice [.int .u8]] r cs):∃ b:List Int,cs = encBR b ∧ Byt b:=by
 obtain ⟨_,v1,_,_,rfl,h1,h⟩:=h.head;obtain rfl:=h.done;obtain ⟨b,rfl,hb⟩:=Lay.list (enc:=encB) (ok:=fun n => 0 ≤ n ∧ n < 256) (fun r cs h => row_B h) h1;exact ⟨b,rfl,hb⟩
end Go.Sw
end
section
namespace Go.Sw
open Go.RowKit
variable {σ:Type}
def DoOk (k:Nat) (m:Mach) (H0:Heap) (W:σ → List It) (Inv:σ → Prop) (a:Value) (g:σ → Int → En → σ):Prop :=
 ∀ s i e H X,Inv s → Star H0 H (W s ++ X) → 0 ≤ i → i < 2 ^ 50 → e ∈ m.ents →
  ∃ v H',callV (R (T k)) a [.int .i64 i,encE e] H = .ok v H' ∧ Star H0 H' (W (g s i e) ++ X) ∧ Inv (g s i e)
theorem plain_ok (k:Nat) {m:Mach} {H0:Heap} {W:σ → List It} {Inv:σ → Prop} {a:Value} {g:σ → Int → En → σ} (h:DoOk k m H0 W Inv a g) (p:Nat) :
  ActOk k m H0 (fun s => W s ++ [itBlk p ⟨[a],1,false⟩]) Inv (.func (.func F.ζ1j) #[] #[ptrV p]) (fun s i e => (g s i e,i,i + 1)):=by
 intro s i e H X hI st h0 h1 he;have st2:=st.push ⟨encEn e,1,false⟩;have hp:=st2.memBlk (c:=p) (k:=⟨[a],1,false⟩) (by simp);have hpn:¬ p = H.n:=by have:=Heap.get_lt (st.memBlk (c:=p) (k:=⟨[a],1,false⟩) (by simp)); omega
 obtain ⟨v,H',e1,st3,hI2⟩:=h s i e (H.push ⟨encEn e,1,false⟩) ([itBlk p ⟨[a],1,false⟩] ++ X ++ [itBlk H.n ⟨encEn e,1,false⟩]) hI (by simpa [List.append_assoc] using st2) h0 h1 he;have st4:Star H0 H' (W (g s i e) ++ [itBlk p ⟨[a],1,false⟩] ++ X):=by
  have:W (g s i e) ++ ([itBlk p ⟨[a],1,false⟩] ++ X ++ [itBlk H.n ⟨encEn e,1,false⟩]) = (W (g s i e) ++ [itBlk p ⟨[a],1,false⟩] ++ X) ++ [itBlk H.n ⟨encEn e,1,false⟩]:=by simp
  rw [this] at st3;exact st3.ζfm
 refine ⟨H',?_,st4,hI2,by dsimp only; omega,by dsimp only; omega⟩;simp only [callV,List.nil_append,List.cons_append];rw [ζc3,nrm_of];simp -implicitDefEqProofs (disch:=omega) [ζ1j,hp,hpn,e1]
end Go.Sw
end
section
namespace Go.Sw
open Go.RowKit
end Go.Sw
end
section
namespace Go.Sw
open Go.RowKit
end Go.Sw
end
section
namespace Go.Sw
open Go.RowKit
theorem subV_lv (b:List Int) (a n:Nat) (h:a + n ≤ b.length):subV 1 (lv encB b) a n = lv encB ((b.drop a).take n):=by
 have h2:=((Sl.lv Heap.empty 1 b).sub encB_len .i64 .i64 .i64 a n h).1 Heap.empty (Ext.refl _);rw [slS_lv encB_len b _ _ _ a (a + n) (a + n) (by simp [boundOf]) (by unfold boundOf; dsimp only; rw [if_pos (by omega),Int.toNat_natCast]) (by unfold boundOf; dsimp only; rw [if_pos (by omega),Int.toNat_natCast]) (fun _ => rfl) (by omega) (Nat.le_refl _) h] at h2;injection h2 with h2;rw [← h2,List.drop_take,show a + n - a = n by omega]
theorem piece_lv {b r:List Int} {i n:Int} (h:pieceS b i n = some r):subV 1 (lv encB b) i.toNat n.toNat = lv encB r:=by
 obtain ⟨h1,rfl⟩:=ζ2z.1 h;exact subV_lv b _ _ (by omega)
theorem ζfx {α:Type} {o:Option α} {f g:α → Value} (h:∀ a,o = some a → f a = g a) (H:Heap):orF o f H = orF o g H:=by
 cases o with
 | none => rfl
 | some a => show Res.ok (f a) H = Res.ok (g a) H; rw [h a rfl]
abbrev vwB (b:List Int):Value:=.agg #[lv encB b]
theorem Cut_lv (k:Nat) (b:List Int) (i n:Int) (hl:b.length < 2 ^ 62) (H:Heap):R (T k) F.ζ1f [vwB b,.int .i64 i,.int .i64 n] H = orF (pieceS b i n) vwB H :=
 (Cut_run k (Sl.lv H 1 b) i n hl).trans (ζfx (fun r hr => by rw [piece_lv hr]) H)
theorem Rest_lv (k:Nat) (b:List Int) (i:Int) (hl:b.length < 2 ^ 62) (hi:i ≤ 9223372036854775807) (H:Heap):R (T k) F.ζv [vwB b,.int .i64 i] H = orF (restS b i) vwB H :=
 (Rest_run k (Sl.lv H 1 b) i hl hi).trans (ζfx (fun r hr => by rw [piece_lv (by rw [ζa9 b i hl hi]; exact hr)]) H)
theorem Rows_lv (k:Nat) (b:List Int) (i n s:Int) (hl:b.length < 2 ^ 62) (H:Heap):R (T k) F.ζp [vwB b,.int .i64 i,.int .i64 n,.int .i64 s] H = orF (rowsS b i n s) vwB H :=
 (Rows_run k (Sl.lv H 1 b) i n s hl).trans (ζfx (fun r hr => by rw [piece_lv (ζ21 hr)]) H)
theorem Of_lv (k:Nat) (b:List Int) (H:Heap):R (T k) F.view_Of [lv encB b] H = .ok (vwB b) H:=Of_run k (Sl.lv H 1 b)
theorem ζik (k:Nat) {H:Heap} {v:Value} {b:List Int} (hv:Sl H 1 v encB b) (hl:b.length ≤ 2 ^ 30):R (T k) F.ζ29 [.agg #[v]] H = .ok (lv encB b) H:=by
 rw [ζcg];have g:=(Star.nil H).push ⟨[v],1,false⟩;have g:=g.more_row (Ext.refl _) (OwnO.bare encB _ 1) (fun b hb => by cases hb);obtain ⟨s,o,H1,e1,g⟩:=g.append (bytes:=1) 1 encB_len rfl (b:=v) (l2:=b) (ζj2 hv.lenL) ((hv.up g.ext).first encB_len) (by simp; omega) (by decide);simp only [List.nil_append,List.cons_append,List.set_cons_zero,List.set_cons_succ] at g;obtain ⟨L,hf⟩:=(g.own 1 rfl).freeze encB_len (fun n _ v hv => by simp at hv; subst hv; trivial) 6;refine nrm_fz (v:=s) (H':=H1) ?_ hf g.ext (Flat.B b).alive;simp -implicitDefEqProofs [ζ29,e1]
theorem veq_Pt (l:List Pt):veq (lv encPt l) (lv encPt l) = true:=veq_lv fun p _ v hv => by
 simp [encPt] at hv;rcases hv with rfl | rfl | rfl <;> simp
theorem veq_tab (x:Int × List Pt):veq (boxV #[.int .i64 x.1,lv encPt x.2]) (boxV #[.int .i64 x.1,lv encPt x.2]) = true:=veq_boxV (l:=[.int .i64 x.1,lv encPt x.2]) fun v hv => by
 simp at hv;rcases hv with rfl | rfl
 ·simp
 ·exact veq_Pt _
end Go.Sw
end
section
namespace Go.Sw
open Go.RowKit
structure CTab where
 m:Mach
 subs:List (Int × List Pt)
end Go.Sw
end
section
namespace Go.Sw
open Go.RowKit
end Go.Sw
end
section
namespace Go.Sw
open Go.RowKit
end Go.Sw
end
section
namespace Go.Sw
open Go.RowKit Go.Proofs
set_option maxRecDepth 20000 in
theorem ζjz (p:Addr) (b:Bool) (w:World) (hc:(w.alloc (.cells #[] 190)).cell? p = some (.bool b)) (hz:(w.alloc (.cells #[] 190)).frozen? p = false) :
  CallsD Prog 100 #[.pointer (some p)] (.panicking [{ v:=.iface 190 (.agg #[]),recovered:=false }]) w fun e u' w' =>
   e = .returned (.tuple #[]) ∧ u' = .panicking [{ v:=.iface 190 (.agg #[]),recovered:=true }] ∧ w' = (w.alloc (.cells #[] 190)).setCell p (.bool false):=by
 refine callsD_of_wpS Try.func100 rfl fun c₀ cs hu => ?_;apply wpS_seq;apply wpS_region;simp [wpOpsS,go_sem,recoverD,hu,Try.ntmps100,Exit.thenS];have hta:∀ w,(Instr.typeAssert (.iface 190 (.agg #[])) 20 190 true).run Prog w = .ok (.tuple #[.agg #[],.bool true]) w:=fun w => by kernel_rfl
 refine wpS_of_wp ?_
 go_wp2
 cases c₀;simp_all [bodyPostS,results,Try.results100]
theorem ζl7 (p:Addr) (w:World) :
  CallsD Prog 100 #[.pointer (some p)] .returning w fun e u' w' => e = .returned (.tuple #[]) ∧ u' = .returning ∧ w' = w:=by
 refine callsD_of_wpS Try.func100 rfl fun c₀ cs hu => ?_;apply wpS_seq;apply wpS_region;simp [wpOpsS,go_sem,recoverD,hu,Try.ntmps100,Exit.thenS];refine wpS_of_wp ?_
 go_wp2
 cases c₀;simp_all [bodyPostS,results,Try.results100]
set_option maxRecDepth 20000 in
theorem try_walk (g:FuncId) (first cap:Array Value) (w:World) (R:Ending → World → Prop)
  (hcf:(callFunc g (first ++ cap)).run Prog (w.alloc (.cells #[.bool false] 4)) = .ok (.enter g (first ++ cap)) (w.alloc (.cells #[.bool false] 4)))
  (hcall:Calls Prog g (first ++ cap) (w.alloc (.cells #[.bool false] 4)) fun e w' => match e with
   | .returned _ => w'.heap[w.heap.size]? = some (.cells #[.bool false] 4 (0,0)) ∧ R (.returned (.bool true)) (w'.setCell ⟨w.heap.size,0,none⟩ (.bool true))
   | .panicked chain => chain = [{ v:=.iface 190 (.agg #[]),recovered:=false }] ∧ w'.heap[w.heap.size]? = some (.cells #[.bool false] 4 (0,0)) ∧ R (.returned (.bool false)) ((w'.alloc (.cells #[] 190)).setCell ⟨w.heap.size,0,none⟩ (.bool false))
   | .outgrown => False) :
  Calls Prog 40 #[.func (.func g) first cap] w R:=by
 have hmf:∀ (fn:Fn) (first cap:Array Value) (w:World),(Instr.makeFunc fn first cap).run Prog w = .ok (.func fn first cap) w:=fun _ _ _ _ => rfl
 go_enter_defers Try.func40,Try.ntmps40
 go_wp2
 rename_i K2 hK2 K1 hK1;refine hcall.mono fun e w' he => ?_;cases e with
 | returned v =>
  obtain ⟨h1,h2⟩:=he;have hc:w'.cell? ⟨w.heap.size,0,none⟩ = some (.bool false):=by simp [World.cell?,h1]
  have hz:w'.frozen? ⟨w.heap.size,0,none⟩ = false:=by simp [World.frozen?,h1]
  apply hK1;apply hK2
  go_wp2
  have hc2:(w'.setCell ⟨w.heap.size,0,none⟩ (.bool true)).cell? ⟨w.heap.size,0,none⟩ = some (.bool true):=World.cell?_setCell_same _ _ _ hc;refine leaves_cons (f:=100) (args:=#[.pointer (some ⟨w.heap.size,0,none⟩)]) (by simp) (by simp [go_sem]) ?_;refine (ζl7 ⟨w.heap.size,0,none⟩ _).mono ?_;rintro e u' w'' ⟨rfl,rfl,rfl⟩;simp [Leaves,settle,results,Try.results40,go_sem,hc2];exact h2
 | panicked chain =>
  obtain ⟨h0,h1,h2⟩:=he;subst h0;have hlt:w.heap.size < w'.heap.size:=by
   rcases Nat.lt_or_ge w.heap.size w'.heap.size with h | h
   ·exact h
   ·rw [Array.getElem?_eq_none h] at h1; cases h1
  have h3:(w'.alloc (.cells #[] 190)).heap[w.heap.size]? = some (.cells #[.bool false] 4 (0,0)):=by
   rw [ζ16 _ _ _ hlt]; exact h1
  have hc:(w'.alloc (.cells #[] 190)).cell? ⟨w.heap.size,0,none⟩ = some (.bool false):=by simp only [World.cell?,h3]; rfl
  have hz:(w'.alloc (.cells #[] 190)).frozen? ⟨w.heap.size,0,none⟩ = false:=by simp [World.frozen?,h3]
  have hc2:((w'.alloc (.cells #[] 190)).setCell ⟨w.heap.size,0,none⟩ (.bool false)).cell? ⟨w.heap.size,0,none⟩ = some (.bool false):=World.cell?_setCell_same _ _ _ hc;show Leaves _ _ _ _ _ _ _;refine leaves_cons (f:=100) (args:=#[.pointer (some ⟨w.heap.size,0,none⟩)]) (by simp) (by simp [go_sem]) ?_;refine (ζjz ⟨w.heap.size,0,none⟩ false _ hc hz).mono ?_;rintro e u' w'' ⟨rfl,rfl,rfl⟩;simp [Leaves,settle,results,Try.results40,go_sem,hc2];exact h2
 | outgrown => exact he.elim
theorem try_is:SpIs Prog 40 (tryV 190):=try_of (bt:=4) Try.func40 rfl (by kernel_rfl) try_walk
end Go.Sw
end
section
namespace Go.Sw
open Go.RowKit
structure CTab.ok (t:CTab):Prop where
 m:t.m.ok
 subs:∀ x,x ∈ t.subs → (∀ p,p ∈ x.2 → p.ok) ∧ risesS x.2 = true ∧ x.2.length < 2 ^ 31
 has:∀ e,e ∈ t.m.ents → (e.a = 65535 ∨ e.a < t.subs.length) ∧ (e.b = 65535 ∨ e.b < t.subs.length)
end Go.Sw
end
section
namespace Go.Sw
open Go.RowKit
theorem ζms (n:Nat):n &&& 2 ^ 15 = if n.testBit 15 then 2 ^ 15 else 0:=by
 apply Nat.eq_of_testBit_eq;intro i;rw [Nat.testBit_and,Nat.testBit_two_pow];by_cases h:15 = i
 ·subst h;cases hb:n.testBit 15 <;> simp <;> decide
 ·cases hb:n.testBit 15
  ·simp [h]
  ·simp only [h,decide_false,Bool.and_false,if_true,Nat.testBit_two_pow]
theorem and15 (P:Program) (t:TypeId) (H:Heap) {a:Int} (h0:0 ≤ a) (h1:a < 65536):binR P .and t (.int .i64 a) (.int .i64 32768) H = .ok (.int .i64 (if a ≥ 32768 then 32768 else 0)) H:=by
 have e:(BitVec.ofInt 64 a &&& BitVec.ofInt 64 32768).toNat = (if a ≥ 32768 then 32768 else 0):=by
  rw [BitVec.toNat_and,BitVec.toNat_ofInt,BitVec.toNat_ofInt];rw [show ((32768:Int) % ((2 ^ 64:Nat):Int)).toNat = 2 ^ 15 from by decide,ζms,Nat.testBit_eq_decide_div_mod_eq];obtain ⟨n,rfl⟩:=Int.eq_ofNat_of_zero_le h0;rw [show (((n:Int)) % ((2 ^ 64:Nat):Int)).toNat = n by omega];by_cases h:(n:Int) ≥ 32768
  ·rw [if_pos h,decide_eq_true (show n / 2 ^ 15 % 2 = 1 by omega)]; rfl
  ·rw [if_neg h,decide_eq_false (show ¬ n / 2 ^ 15 % 2 = 1 by omega)]; rfl
 have e1:binV P .and t (.int .i64 a) (.int .i64 32768) = some (.int .i64 (IntKind.i64.wrap (BitVec.ofInt 64 a &&& BitVec.ofInt 64 32768).toNat)):=rfl;unfold binR;rw [e1,e];by_cases h:a ≥ 32768
 ·simp [h]
 ·simp [h]
end Go.Sw
end
section
namespace Go.Sw
open Go.RowKit
theorem ζem {rv ev:List Int} {n w:Int}:∀ (f s:Nat) x,closeS rv ev n w f s = some x → ∃ N,entsTo ev w N = some x.2
 | 0,_,_,h => by cases h
 | f + 1,s,x,h => by
  simp only [closeS] at h;obtain ⟨rs,e1,h⟩:=Option.bind_eq_some_iff.1 h;obtain ⟨es,e2,h⟩:=Option.bind_eq_some_iff.1 h;split at h
  ·injection h with h; subst h; exact ⟨_,e2⟩
  ·exact ζem f _ x h
end Go.Sw
end
section
namespace Go.Sw
open Go.RowKit
theorem plainNew (k:Nat) (f:Fn) (a b:Array Value) (H:Heap):R (T k) F.ζ4i [.func f a b] H = .ok (.func (.func F.ζ1j) #[] #[ptrV H.n]) (H.push ⟨[.func f a b],1,false⟩):=by
 rw [ζgu];have e:ζ4i k (R (T k)) (.func f a b) H = .ok (.func (.func F.ζ1j) #[] #[ptrV H.n]) (H.push ⟨[.func f a b],1,false⟩):=by
  simp -implicitDefEqProofs [ζ4i]
 rw [e];have dead:¬ Alive H (.func (.func F.ζ1j) #[] #[ptrV H.n]):=fun h => by
  cases h with
  | func fn xs ys h1 h2 =>
   have:=h2 0 (ptrV H.n) rfl;cases this with
   | ptr b off k hg => have:=Heap.get_lt hg; omega
 unfold nrm;exact if_neg fun hc => dead hc.2
end Go.Sw
end
section
namespace Go.Sw
open Go.RowKit
theorem veq_Ens (l:List En):veq (lv encEn l) (lv encEn l) = true:=veq_lv fun p _ v hv => by
 simp [encEn] at hv;rcases hv with rfl | rfl | rfl | rfl <;> simp
theorem veq_Is (l:List Int):veq (lv encI l) (lv encI l) = true:=veq_lv fun p _ v hv => by
 simp [encI] at hv;subst hv; simp
theorem veq_Rows (l:List (List Int)):veq (lv encRow l) (lv encRow l) = true:=veq_lv fun p _ v hv => by
 simp [encRow] at hv;subst hv; exact veq_Is p
theorem veq_mach (m:Mach):veq (machV m) (machV m) = true:=veq_boxV (l:=[.int .i64 m.classes,tabV m.tab,lv encRow m.rows,lv encEn m.ents]) fun v hv => by
 simp at hv;rcases hv with rfl | rfl | rfl | rfl
 ·simp
 ·exact veq_tab _
 ·exact veq_Rows _
 ·exact veq_Ens _
end Go.Sw
end
section
namespace Go.Sw
open Go.RowKit
theorem Star.perm {H0 H:Heap} {L L':List It} (h:Star H0 H L) (hp:L.Perm L'):Star H0 H L':=by
 have hpw:L.Pairwise fun x y => ∀ b,b ∈ x.o → b ∉ y.o:=List.pairwise_iff_getElem.2 fun i j hi hj hij b hb => h.2.2 i j _ _ (by omega) (List.getElem?_eq_getElem hi) (List.getElem?_eq_getElem hj) b hb;have hpw':=(hp.pairwise_iff (fun {x y} hxy b hb hb2 => hxy b hb2 hb)).1 hpw;refine ⟨h.1,fun i x hx => ?_,fun i j x y hij hx hy b hb => ?_⟩
 ·obtain ⟨j,hj⟩:=List.getElem?_of_mem (hp.mem_iff.2 (List.mem_of_getElem? hx));exact h.2.1 j x hj
 ·obtain ⟨hi,rfl⟩:=List.getElem?_eq_some_iff.1 hx;obtain ⟨hj,rfl⟩:=List.getElem?_eq_some_iff.1 hy;rcases Nat.lt_or_gt_of_ne hij with hlt | hgt
  ·exact List.pairwise_iff_getElem.1 hpw' i j hi hj hlt b hb
  ·exact fun hb2 => List.pairwise_iff_getElem.1 hpw' j i hj hi hgt b hb2 hb
end Go.Sw
end
section
namespace Go.Sw
open Go.RowKit
end Go.Sw
end
section
namespace Go.Sw
open Go.RowKit
structure BTab where
 m:Mach
 kind:Int
 acts:List Int
def entAct (k:Int) (a:List Int) (e:En):Bool:=decide (e.a = 65535) || (pieceS a (4 * k * e.a) (4 * k)).isSome
def bindS (b:List Int) (g:Int):Option BTab:=(machS b g 1).bind fun m => (uS b 16 4).bind fun w =>
 if w / 1073741824 = 1 ∨ w / 1073741824 = 2 then (restS b (w % 16777216)).bind fun a => if m.ents.all (entAct (w / 1073741824) a) then some ⟨m,w / 1073741824,a⟩ else none else some ⟨m,w / 1073741824,[]⟩
structure BTab.ok (t:BTab):Prop where
 m:t.m.ok
 kind:0 ≤ t.kind ∧ t.kind < 4
 byt:Byt t.acts
 len:t.acts.length < 2 ^ 31
 has:t.kind = 1 ∨ t.kind = 2 → ∀ e,e ∈ t.m.ents → e.a = 65535 ∨ 4 * t.kind * e.a + 4 * t.kind ≤ t.acts.length
theorem bindS_ok {b:List Int} (hb:Byt b) {g:Int} (h1:1 ≤ g) (h2:g ≤ 65535) (hl:b.length < 2 ^ 31) {t:BTab} (h:bindS b g = some t):t.ok:=by
 unfold bindS at h;obtain ⟨m,hm,h⟩:=Option.bind_eq_some_iff.1 h;obtain ⟨w,hw,h⟩:=Option.bind_eq_some_iff.1 h;have hwb:=uS_four hb hw;split at h
 ·rename_i hc;obtain ⟨a,ha,h⟩:=Option.bind_eq_some_iff.1 h;split at h
  ·rename_i hall;injection h with h;subst h;have:=ζ4w ha;refine ⟨machS_ok hb h1 h2 (by omega) hm,by dsimp only; omega,hb.rest ha,by dsimp only; omega,fun _ e he => ?_⟩;have:=List.all_eq_true.1 hall e he;unfold entAct at this;rw [Bool.or_eq_true,decide_eq_true_eq] at this;refine this.imp id fun hp => ?_;obtain ⟨r,hr⟩:=Option.isSome_iff_exists.1 hp;unfold pieceS at hr;split at hr
   ·dsimp only; omega
   ·cases hr
  ·cases h
 ·rename_i hc;injection h with h;subst h;exact ⟨machS_ok hb h1 h2 (by omega) hm,by dsimp only; omega,Byt.nil,by simp,fun h => absurd h hc⟩
def ptsS (t:BTab) (pg:Int → Int → Option (Int × Int)) (a mk own:Int):Option ((Int × Int) × (Int × Int)) :=
 if t.kind = 1 then (pg mk (gU t.acts (4 * a) 2)).bind fun p => (pg own (gU t.acts (4 * a + 2) 2)).map fun q => (p,q)
 else if t.kind = 2 then some ((s16 (gU t.acts (8 * a) 2),s16 (gU t.acts (8 * a + 2) 2)),(s16 (gU t.acts (8 * a + 4) 2),s16 (gU t.acts (8 * a + 6) 2)))
 else none
def shiftPl (l:List Pl) (i x y:Int):List Pl:=updPl l i fun p => ⟨p.adv,addI p.x x,addI p.y y⟩
def bindPl (t:BTab) (pg:Int → Int → Option (Int × Int)) (gl:List Gl) (l:List Pl) (i mark:Int) (e:En):List Pl :=
 if e.a = 65535 then l else
 match atG gl i,atG gl mark with
 | some own,some mk => match ptsS t pg e.a mk.id own.id with
  | some r => shiftPl l i (r.1.1 - r.2.1) (r.1.2 - r.2.2)
  | none => l
 | _,_ => l
def doBi (t:BTab) (pg:Int → Int → Option (Int × Int)) (gl:List Gl) (s:List Pl × Int) (i:Int) (e:En):List Pl × Int :=
 (bindPl t pg gl s.1 i s.2 e,if e.flags ≥ 32768 ∧ (atG gl i).isSome = true then i else s.2)
theorem ζl4 (t:BTab) (pg:Int → Int → Option (Int × Int)) (gl:List Gl) (l:List Pl) (i mark:Int) (e:En):(bindPl t pg gl l i mark e).length = l.length:=by
 unfold bindPl shiftPl
 repeat' split
 all_goals simp
theorem ζmw (t:BTab) (pg:Int → Int → Option (Int × Int)) (gl:List Gl) {l:List Pl} (h:∀ q,q ∈ l → q.ok) (i mark:Int) (e:En):∀ q,q ∈ bindPl t pg gl l i mark e → q.ok:=by
 unfold bindPl shiftPl
 repeat' split
 all_goals first
  | exact h
  | exact updPl_ok h _ fun q hq => ⟨hq.1,addI_ok _ _,addI_ok _ _⟩
def runBr (t:BTab) (pg:Int → Int → Option (Int × Int)) (gl:List Gl) (l:List Pl):Int × Int × (List Pl × Int) :=
 runD t.m (fun _:List Pl × Int => gl) (fun s i e => (doBi t pg gl s i e,i,i + 1)) (2 * (gl.length:Int) + 128) (2 * gl.length + 128) ((l,-1),⟨0,0,0,0⟩)
def runB (t:BTab) (pg:Int → Int → Option (Int × Int)) (gl:List Gl) (l:List Pl):List Pl × Int:=((runBr t pg gl l).2.2.1,(runBr t pg gl l).2.1)
end Go.Sw
end
