/-
  Functions' forms, and what is proved of them, part 3.
-/
import Derived.Test.YtanfippcmdialaaSwCfg
import Derived.Test.YtanfippcmdialaaSwW2
import Derived.Test.YtanfippcmdialaaSwLib9
set_option linter.unusedSimpArgs false
set_option linter.unusedVariables false
set_option linter.unusedSectionVars false
section
set_option maxRecDepth 100000
set_option linter.unusedVariables false
namespace Go.Sw
noncomputable section
def ζ2b (k:Nat) (call:Caller) (a0 a1:Value) (h:Heap):Res Value :=
 (boxR a0 h).bind fun v1 h2 =>
 (boxR a1 h2).bind fun v3 h4 =>
 (loadR Prog 32 v1 h4).bind fun v5 h6 =>
 (nilR v5 h6).bind fun v7 h8 =>
 (fieldAddrR Prog 177 v7 1 h8).bind fun v9 h10 =>
 (loadR Prog 175 v9 h10).bind fun v11 h12 =>
 (builtinV Prog .len [175] [v11] h12).bind fun v13 h14 =>
 (call F.ζ5b [v13,(.func (.func F.ζ1w) #[] #[v1,v3])] h14).bind fun v15 h16 =>
 (loadR Prog 32 v1 h16).bindN fun v17 h18 =>
 (nilR v17 h18).bindN fun v19 h20 =>
 (fieldAddrR Prog 177 v19 1 h20).bindN fun v21 h22 =>
 (loadR Prog 175 v21 h22).bindN fun v23 h24 =>
 (builtinV Prog .len [175] [v23] h24).bindN fun v25 h26 =>
 (binR Prog .eql 3 v15 v25 h26).bindN fun v27 h28 =>
 ((bif wantVal v27 false then loadR Prog 32 v1 h28 else Res.ok undef h28)).bindN fun v29 h30 =>
 ((bif wantVal v27 false then nilR v29 h30 else Res.ok undef h30)).bindN fun v31 h32 =>
 ((bif wantVal v27 false then fieldAddrR Prog 177 v31 1 h32 else Res.ok undef h32)).bindN fun v33 h34 =>
 ((bif wantVal v27 false then loadR Prog 175 v33 h34 else Res.ok undef h34)).bindN fun v35 h36 =>
 ((bif wantVal v27 false then Res.ok v15 h36 else Res.ok undef h36)).bindN fun v37 h38 =>
 ((bif wantVal v27 false then indexAddrR Prog 175 v35 v37 h38 else Res.ok undef h38)).bindN fun v39 h40 =>
 ((bif wantVal v27 false then fieldAddrR Prog 179 v39 0 h40 else Res.ok undef h40)).bindN fun v41 h42 =>
 ((bif wantVal v27 false then loadR Prog 3 v41 h42 else Res.ok undef h42)).bindN fun v43 h44 =>
 ((bif wantVal v27 false then loadR Prog 3 v3 h44 else Res.ok undef h44)).bindN fun v45 h46 =>
 ((bif wantVal v27 false then binR Prog .gtr 3 v43 v45 h46 else Res.ok undef h46)).bindN fun v47 h48 =>
 (condV (some v27) (Res.ok (.bool true) h48) (Res.ok v47 h48)).bindN fun v49 h50 =>
 condV (some v49) (
 .ok (.tuple #[(.int .i64 0),(.bool false)]) h50)
 (
 (loadR Prog 32 v1 h50).bindN fun v51 h52 =>
 (nilR v51 h52).bindN fun v53 h54 =>
 (fieldAddrR Prog 177 v53 1 h54).bindN fun v55 h56 =>
 (loadR Prog 175 v55 h56).bindN fun v57 h58 =>
 (indexAddrR Prog 175 v57 v15 h58).bindN fun v59 h60 =>
 (loadR Prog 179 v59 h60).bindN fun v61 h62 =>
 (loadR Prog 3 v3 h62).bindN fun v63 h64 =>
 (call F.ζ47 [v61,v63] h64).bindT (fun p67 h68 => .panic p67 h68) fun v65 h66 =>
 .ok (.tuple #[v65,(.bool true)]) h66)
theorem ζhe (k:Nat) (a0 a1:Value) (h:Heap):R (T k) F.ζ2b [a0,a1] h = nrm .gc h (ζ2b k (R (T k)) a0 a1 h) :=
 (R_body (t:=T k) (T_scott k) (by kernel_rfl) (by kernel_rfl) _ _).trans (by kernel_rfl)
def ζ26 (k:Nat) (call:Caller) (a8:Value) (h:Heap):Res Value :=
 kSeq (pieceK (C k) call F.ζ39 [1,1,1,1]) (kDone Prog (resOf Prog F.ζ39)) .normal [(8,a8)] h
def ζag (k:Nat) (call:Caller):Env → Heap → Res (AExit × Env):=loopB (C k) call F.ζ39 [1,1,1,1,0,1,0,0]
def ζfu (k:Nat) (call:Caller):Kont Value:=kBlock 1 (kSeq (pieceK (C k) call F.ζ39 [1,1,1,1,1]) (kDone Prog (resOf Prog F.ζ39)))
def ζ39 (k:Nat) (call:Caller) (a0 a1 a2:Value) (h:Heap):Res Value :=
 (boxR a0 h).bind fun v1 h2 =>
 (loadR Prog 75 v1 h2).bind fun v3 h4 =>
 (buildR Prog 263 [(0,v3),(1,a1),(2,a2)] h4).bind fun v5 h6 =>
 (allocR Prog 263 h6).bind fun v7 h8 =>
 (storeR Prog 263 v7 v5 h8).bind fun _v9 h10 =>
 (loadR Prog 75 v1 h10).bind fun v11 h12 =>
 (call F.ζf [v11,(.int .i64 0)] h12).bind fun v13 h14 =>
 (buildR Prog 177 [(0,v13)] h14).bind fun v15 h16 =>
 (boxR v15 h16).bind fun v17 h18 =>
 (nilR v17 h18).bind fun v19 h20 =>
 (fieldAddrR Prog 177 v19 0 h20).bind fun v21 h22 =>
 (loadR Prog 3 v21 h22).bind fun v23 h24 =>
 (binR Prog .eql 3 v23 (.int .i64 0) h24).bind fun v25 h26 =>
 condV (some v25) (
 (binR Prog .sub 3 a1 (.int .i64 1) h26).bind fun v27 h28 =>
 (loadR Prog 75 v1 h28).bind fun v29 h30 =>
 (call F.ζ3a [v29,(.int .i64 2),a1,a2] h30).bind fun v31 h32 =>
 (buildR Prog 179 [(0,(.int .i64 0)),(1,v27),(2,v31)] h32).bind fun v33 h34 =>
 (buildSliceR Prog 175 1 [(0,v33)] h34).bind fun v35 h36 =>
 (nilR v17 h36).bind fun v37 h38 =>
 (fieldAddrR Prog 177 v37 1 h38).bind fun v39 h40 =>
 (storeR Prog 175 v39 v35 h40).bind fun _v41 h42 =>
 ζ26 k call v17 h42)
 (
 (binR Prog .eql 3 v23 (.int .i64 2) h26).bind fun v43 h44 =>
 condV (some v43) (
 (loadR Prog 263 v7 h44).bind fun v45 h46 =>
 (call F.ζ4 [v45,(.bool false)] h46).bind fun v47 h48 =>
 (nilR v17 h48).bind fun v49 h50 =>
 (fieldAddrR Prog 177 v49 1 h50).bind fun v51 h52 =>
 (storeR Prog 175 v51 v47 h52).bind fun _v53 h54 =>
 ζ26 k call v17 h54)
 (
 (binR Prog .eql 3 v23 (.int .i64 4) h44).bind fun v55 h56 =>
 condV (some v55) (
 (loadR Prog 263 v7 h56).bind fun v57 h58 =>
 (call F.ζ4 [v57,(.bool true)] h58).bind fun v59 h60 =>
 (nilR v17 h60).bind fun v61 h62 =>
 (fieldAddrR Prog 177 v61 1 h62).bind fun v63 h64 =>
 (storeR Prog 175 v63 v59 h64).bind fun _v65 h66 =>
 ζ26 k call v17 h66)
 (
 (binR Prog .eql 3 v23 (.int .i64 6) h56).bind fun v67 h68 =>
 condV (some v67) (
 (loadR Prog 263 v7 h68).bind fun v69 h70 =>
 (call F.ζ18 [v69] h70).bind fun v71 h72 =>
 (nilR v17 h72).bind fun v73 h74 =>
 (fieldAddrR Prog 177 v73 1 h74).bind fun v75 h76 =>
 (storeR Prog 175 v75 v71 h76).bind fun _v77 h78 =>
 ζ26 k call v17 h78)
 (
 (binR Prog .eql 3 v23 (.int .i64 8) h68).bind fun v79 h80 =>
 condV (some v79) (
 (loadR Prog 263 v7 h80).bind fun v81 h82 =>
 (call F.ζ1l [v81,(.int .i64 2),a2] h82).bind fun v83 h84 =>
 (nilR v17 h84).bind fun v85 h86 =>
 (fieldAddrR Prog 177 v85 1 h86).bind fun v87 h88 =>
 (storeR Prog 175 v87 v83 h88).bind fun _v89 h90 =>
 ζ26 k call v17 h90)
 (
 (binR Prog .eql 3 v23 (.int .i64 10) h80).bind fun v91 h92 =>
 condV (some v91) (
 (loadR Prog 75 v1 h92).bind fun v93 h94 =>
 (call F.ζf [v93,(.int .i64 2)] h94).bind fun v95 h96 =>
 (binR Prog .eql 3 v95 (.int .i64 1) h96).bind fun v97 h98 =>
 ((bif wantVal v97 false then Res.ok v95 h98 else Res.ok undef h98)).bind fun v99 h100 =>
 ((bif wantVal v97 false then binR Prog .eql 3 v99 (.int .i64 2) h100 else Res.ok undef h100)).bind fun v101 h102 =>
 (condV (some v97) (Res.ok (.bool true) h102) (Res.ok v101 h102)).bind fun v103 h104 =>
 ((bif wantVal v103 false then Res.ok v95 h104 else Res.ok undef h104)).bind fun v105 h106 =>
 ((bif wantVal v103 false then binR Prog .eql 3 v105 (.int .i64 4) h106 else Res.ok undef h106)).bind fun v107 h108 =>
 (condV (some v103) (Res.ok (.bool true) h108) (Res.ok v107 h108)).bind fun v109 h110 =>
 (call F.ζ2x [v109] h110).bind fun v111 h112 =>
 (loadR Prog 263 v7 h112).bind fun v113 h114 =>
 (call F.ζ1l [v113,(.int .i64 4),v95] h114).bind fun v115 h116 =>
 (nilR v17 h116).bind fun v117 h118 =>
 (fieldAddrR Prog 177 v117 1 h118).bind fun v119 h120 =>
 (storeR Prog 175 v119 v115 h120).bind fun _v121 h122 =>
 ζ26 k call v17 h122)
 (
 (call F.ζat [] h92).bind fun v123 h124 =>
 ζ26 k call v17 h124))))))
theorem ζn1 (k:Nat) (a0 a1 a2:Value) (h:Heap):R (T k) F.ζ39 [a0,a1,a2] h = nrm .fz h (ζ39 k (R (T k)) a0 a1 a2 h) :=
 (R_body (t:=T k) (T_scott k) (by kernel_rfl) (by kernel_rfl) _ _).trans (by kernel_rfl)
theorem ζi5 (k:Nat) (call:Caller) (a8:Value) (h:Heap):ζ26 k call a8 h =
 (loopN (ζag k call) loopFuel [(8,a8),(10,(.int .i64 1))] h).bind fun r125 h126 =>
 ζfu k call r125.1 r125.2 h126:=by kernel_rfl
theorem ζaw (k:Nat) (call:Caller) (a8 a10:Value) (h:Heap):ζag k call [(8,a8),(10,a10)] h =
 (nilR a8 h).bind fun v127 h128 =>
 (fieldAddrR Prog 177 v127 1 h128).bind fun v129 h130 =>
 (loadR Prog 175 v129 h130).bind fun v131 h132 =>
 (builtinV Prog .len [175] [v131] h132).bind fun v133 h134 =>
 (binR Prog .lss 3 a10 v133 h134).bind fun v135 h136 =>
 condV (some v135) (
 (nilR a8 h136).bindN fun v137 h138 =>
 (fieldAddrR Prog 177 v137 1 h138).bindN fun v139 h140 =>
 (loadR Prog 175 v139 h140).bindN fun v141 h142 =>
 (binR Prog .sub 3 a10 (.int .i64 1) h142).bindN fun v143 h144 =>
 (indexAddrR Prog 175 v141 v143 h144).bindN fun v145 h146 =>
 (fieldAddrR Prog 179 v145 1 h146).bindN fun v147 h148 =>
 (loadR Prog 3 v147 h148).bindN fun v149 h150 =>
 (nilR a8 h150).bindN fun v151 h152 =>
 (fieldAddrR Prog 177 v151 1 h152).bindN fun v153 h154 =>
 (loadR Prog 175 v153 h154).bindN fun v155 h156 =>
 (indexAddrR Prog 175 v155 a10 h156).bindN fun v157 h158 =>
 (fieldAddrR Prog 179 v157 0 h158).bindN fun v159 h160 =>
 (loadR Prog 3 v159 h160).bindN fun v161 h162 =>
 (binR Prog .lss 3 v149 v161 h162).bindN fun v163 h164 =>
 (call F.ζ2x [v163] h164).bindT (fun p167 h168 => .panic p167 h168) fun v165 h166 =>
 (binR Prog .add 3 a10 (.int .i64 1) h166).bind fun v169 h170 =>
 .ok (.normal,[(8,a8),(10,v169)]) h170)
 (
 .ok ((.exit 1),[(8,a8),(10,a10),(93,v135)]) h136) :=
 (loopB_eq _ _).trans (by kernel_rfl)
theorem ζhf (k:Nat) (call:Caller) (a8 a10 a93:Value) (h:Heap):ζfu k call (.exit 1) [(8,a8),(10,a10),(93,a93)] h =
 .ok a8 h:=by kernel_rfl
def ζ47 (k:Nat) (call:Caller) (a0 a1:Value) (h:Heap):Res Value :=
 (boxR a0 h).bind fun v1 h2 =>
 (fieldAddrR Prog 179 v1 2 h2).bind fun v3 h4 =>
 (loadR Prog 23 v3 h4).bind fun v5 h6 =>
 (fieldAddrR Prog 179 v1 0 h6).bind fun v7 h8 =>
 (loadR Prog 3 v7 h8).bind fun v9 h10 =>
 (binR Prog .sub 3 a1 v9 h10).bind fun v11 h12 =>
 (fieldAddrR Prog 179 v1 2 h12).bind fun v13 h14 =>
 (loadR Prog 23 v13 h14).bind fun v15 h16 =>
 (builtinV Prog .len [23] [v15] h16).bind fun v17 h18 =>
 (binR Prog .sub 3 v17 (.int .i64 1) h18).bind fun v19 h20 =>
 (builtinV Prog .min [3,3] [v11,v19] h20).bind fun v21 h22 =>
 (indexAddrR Prog 23 v5 v21 h22).bind fun v23 h24 =>
 (loadR Prog 3 v23 h24).bind fun v25 h26 =>
 .ok v25 h26
theorem ζjo (k:Nat) (a0 a1:Value) (h:Heap):R (T k) F.ζ47 [a0,a1] h = nrm .gc h (ζ47 k (R (T k)) a0 a1 h) :=
 (R_body (t:=T k) (T_scott k) (by kernel_rfl) (by kernel_rfl) _ _).trans (by kernel_rfl)
def ζ1w (k:Nat) (call:Caller) (a0 a1 a2:Value) (h:Heap):Res Value :=
 (loadR Prog 32 a1 h).bindN fun v1 h2 =>
 (nilR v1 h2).bindN fun v3 h4 =>
 (fieldAddrR Prog 177 v3 1 h4).bindN fun v5 h6 =>
 (loadR Prog 175 v5 h6).bindN fun v7 h8 =>
 (indexAddrR Prog 175 v7 a0 h8).bindN fun v9 h10 =>
 (fieldAddrR Prog 179 v9 1 h10).bindN fun v11 h12 =>
 (loadR Prog 3 v11 h12).bindN fun v13 h14 =>
 (loadR Prog 3 a2 h14).bindN fun v15 h16 =>
 (binR Prog .geq 3 v13 v15 h16).bindN fun v17 h18 =>
 .ok v17 h18
theorem ζbh (k:Nat) (a0 a1 a2:Value) (h:Heap):R (T k) F.ζ1w [a0,a1,a2] h = nrm .gc h (ζ1w k (R (T k)) a0 a1 a2 h) :=
 (R_body (t:=T k) (T_scott k) (by kernel_rfl) (by kernel_rfl) _ _).trans (by kernel_rfl)
def ζah (k:Nat) (call:Caller):Env → Heap → Res (AExit × Env):=loopB (C k) call F.ζ3a [1,1,1,0,1,0,0]
def ζfv (k:Nat) (call:Caller):Kont Value:=kBlock 0 (kSeq (pieceK (C k) call F.ζ3a [1,1,1,1]) (kDone Prog (resOf Prog F.ζ3a)))
def ζ3a (k:Nat) (call:Caller) (a0 a1 a2 a3:Value) (h:Heap):Res Value :=
 (boxR a0 h).bind fun v1 h2 =>
 (loadR Prog 75 v1 h2).bind fun v3 h4 =>
 (call F.ζ1d [v3,a1,a2,a3] h4).bind fun v5 h6 =>
 (allocR Prog 75 h6).bind fun v7 h8 =>
 (storeR Prog 75 v7 v5 h8).bind fun _v9 h10 =>
 (makeSliceV Prog 23 a2 a2 h10).bind fun v11 h12 =>
 (builtinV Prog .len [23] [v11] h12).bind fun v13 h14 =>
 (loopN (ζah k call) loopFuel [(3,a3),(9,v7),(10,v11),(20,v13),(21,(.int .i64 0))] h14).bind fun r15 h16 =>
 ζfv k call r15.1 r15.2 h16
theorem ζn2 (k:Nat) (a0 a1 a2 a3:Value) (h:Heap):R (T k) F.ζ3a [a0,a1,a2,a3] h = nrm .fz h (ζ3a k (R (T k)) a0 a1 a2 a3 h) :=
 (R_body (t:=T k) (T_scott k) (by kernel_rfl) (by kernel_rfl) _ _).trans (by kernel_rfl)
theorem ζax (k:Nat) (call:Caller) (a3 a9 a10 a20 a21:Value) (h:Heap):ζah k call [(3,a3),(9,a9),(10,a10),(20,a20),(21,a21)] h =
 (binR Prog .lss 3 a21 a20 h).bind fun v17 h18 =>
 condV (some v17) (
 (loadR Prog 75 a9 h18).bind fun v19 h20 =>
 (binR Prog .mul 3 a3 a21 h20).bind fun v21 h22 =>
 (call F.ζ2j [v19,v21,a3] h22).bind fun v23 h24 =>
 (indexAddrR Prog 23 a10 a21 h24).bind fun v25 h26 =>
 (storeR Prog 3 v25 v23 h26).bind fun _v27 h28 =>
 (binR Prog .add 3 a21 (.int .i64 1) h28).bind fun v29 h30 =>
 .ok (.normal,[(3,a3),(9,a9),(10,a10),(20,a20),(21,v29)]) h30)
 (
 .ok ((.exit 0),[(3,a3),(9,a9),(10,a10),(20,a20),(21,a21),(22,v17)]) h18) :=
 (loopB_eq _ _).trans (by kernel_rfl)
theorem ζhg (k:Nat) (call:Caller) (a3 a9 a10 a20 a21 a22:Value) (h:Heap):ζfv k call (.exit 0) [(3,a3),(9,a9),(10,a10),(20,a20),(21,a21),(22,a22)] h =
 .ok a10 h:=by kernel_rfl
def ζ4s (k:Nat) (call:Caller) (a1 a2 a5:Value) (h:Heap):Res Value :=
 kSeq (pieceK (C k) call F.ζ4 [1,1,1]) (kDone Prog (resOf Prog F.ζ4)) .normal [(1,a1),(2,a2),(5,a5)] h
def ζ4t (k:Nat) (call:Caller) (a1 a2 a5 a13:Value) (h:Heap):Res Value :=
 kSeq (pieceK (C k) call F.ζ4 [1,1,1]) (kDone Prog (resOf Prog F.ζ4)) .normal [(1,a1),(2,a2),(5,a5),(13,a13)] h
def ζ1y (k:Nat) (call:Caller):Env → Heap → Res (AExit × Env):=loopB (C k) call F.ζ4 [1,1,1,1,0,1,0,0]
def ζ27 (k:Nat) (call:Caller):Kont Value:=kBlock 0 (kSeq (pieceK (C k) call F.ζ4 [1,1,1,1,1]) (kDone Prog (resOf Prog F.ζ4)))
def ζ3b (k:Nat) (call:Caller) (a1 a2 a6 a9 a17 a18 a19:Value) (h:Heap):Res (AExit × Env) :=
 kSeq (pieceK (C k) call F.ζ4 [1,1,1,1,0,1,0,0,1,1,0,0,1,1,1,1]) (kBlock 1 (kSeq (pieceK (C k) call F.ζ4 [1,1,1,1,0,1,0,0,1,1,1]) (kRound (ownOf (C k) F.ζ4 [1,1,1,1,0,1,0,0])))) .normal [(1,a1),(2,a2),(6,a6),(9,a9),(17,a17),(18,a18),(19,a19)] h
def ζ4 (k:Nat) (call:Caller) (a0 a1:Value) (h:Heap):Res Value :=
 (boxR a0 h).bind fun v1 h2 =>
 (fieldAddrR Prog 263 v1 2 h2).bind fun v3 h4 =>
 (loadR Prog 3 v3 h4).bind fun v5 h6 =>
 (binR Prog .add 3 (.int .i64 4) v5 h6).bind fun v7 h8 =>
 condV (some a1) (
 ζ4s k call a1 v1 (.int .i64 6) h8)
 (
 ζ4t k call a1 v1 v7 a1 h8)
theorem ζai (k:Nat) (a0 a1:Value) (h:Heap):R (T k) F.ζ4 [a0,a1] h = nrm .fz h (ζ4 k (R (T k)) a0 a1 h) :=
 (R_body (t:=T k) (T_scott k) (by kernel_rfl) (by kernel_rfl) _ _).trans (by kernel_rfl)
theorem ζ7w (k:Nat) (call:Caller) (a1 a2 a5:Value) (h:Heap):ζ4s k call a1 a2 a5 h =
 (fieldAddrR Prog 263 a2 0 h).bind fun v9 h10 =>
 (loadR Prog 75 v9 h10).bind fun v11 h12 =>
 (call F.ζ2q [v11,(.int .i64 2),a5,(.int .i64 2)] h12).bind fun v13 h14 =>
 (builtinV Prog .len [309] [v13] h14).bind fun v15 h16 =>
 (loopN (ζ1y k call) loopFuel [(1,a1),(2,a2),(6,(.slice none 0 0)),(17,v13),(18,v15),(19,(.int .i64 0))] h16).bind fun r17 h18 =>
 ζ27 k call r17.1 r17.2 h18:=by kernel_rfl
theorem ζ7x (k:Nat) (call:Caller) (a1 a2 a5 a13:Value) (h:Heap):ζ4t k call a1 a2 a5 a13 h =
 (fieldAddrR Prog 263 a2 0 h).bind fun v19 h20 =>
 (loadR Prog 75 v19 h20).bind fun v21 h22 =>
 (call F.ζ2q [v21,(.int .i64 2),a5,(.int .i64 2)] h22).bind fun v23 h24 =>
 (builtinV Prog .len [309] [v23] h24).bind fun v25 h26 =>
 (loopN (ζ1y k call) loopFuel [(1,a1),(2,a2),(6,(.slice none 0 0)),(17,v23),(18,v25),(19,(.int .i64 0))] h26).bind fun r27 h28 =>
 ζ27 k call r27.1 r27.2 h28:=by kernel_rfl
theorem ζ3z (k:Nat) (call:Caller) (a1 a2 a6 a17 a18 a19:Value) (h:Heap):ζ1y k call [(1,a1),(2,a2),(6,a6),(17,a17),(18,a18),(19,a19)] h =
 (binR Prog .lss 3 a19 a18 h).bind fun v29 h30 =>
 condV (some v29) (
 (indexAddrR Prog 309 a17 a19 h30).bind fun v31 h32 =>
 (loadR Prog 75 v31 h32).bind fun v33 h34 =>
 (allocR Prog 75 h34).bind fun v35 h36 =>
 (storeR Prog 75 v35 v33 h36).bind fun _v37 h38 =>
 (loadR Prog 75 v35 h38).bindN fun v39 h40 =>
 (call F.ζf [v39,(.int .i64 2)] h40).bindT (fun p43 h44 => (loadR Prog 75 v35 h40).bindN fun v45 h46 => (allocR Prog 179 h46).bindN fun v47 h48 => chkR ((okVal (loadR Prog 75 v35 h38) v45 && true) && true) (.panic p43 h44)) fun v41 h42 =>
 (loadR Prog 75 v35 h42).bindN fun v49 h50 =>
 (call F.ζf [v49,(.int .i64 0)] h50).bindT (fun p53 h54 => (allocR Prog 179 h50).bindN fun v55 h56 => chkR ((okVal (loadR Prog 75 v35 h38) v49 && true) && true) (.panic p53 h54)) fun v51 h52 =>
 (buildR Prog 179 [(0,v41),(1,v51)] h52).bindN fun v57 h58 =>
 (allocR Prog 179 h58).bindN fun v59 h60 =>
 (storeR Prog 179 v59 v57 h60).bindN fun _v61 h62 =>
 chkR ((okVal (loadR Prog 75 v35 h38) v49 && true) && true) (
 (fieldAddrR Prog 179 v59 0 h62).bind fun v63 h64 =>
 (loadR Prog 3 v63 h64).bind fun v65 h66 =>
 (fieldAddrR Prog 179 v59 1 h66).bind fun v67 h68 =>
 (loadR Prog 3 v67 h68).bind fun v69 h70 =>
 (binR Prog .leq 3 v65 v69 h70).bind fun v71 h72 =>
 (call F.ζ2x [v71] h72).bind fun v73 h74 =>
 condV (some a1) (
 (fieldAddrR Prog 263 a2 0 h74).bindN fun v75 h76 =>
 (loadR Prog 75 v75 h76).bindN fun v77 h78 =>
 (loadR Prog 75 v35 h78).bindN fun v79 h80 =>
 (call F.ζf [v79,(.int .i64 4)] h80).bindT (fun p83 h84 => (fieldAddrR Prog 179 v59 1 h80).bindN fun v85 h86 => (loadR Prog 3 v85 h86).bindN fun v87 h88 => (fieldAddrR Prog 179 v59 0 h88).bindN fun v89 h90 => (loadR Prog 3 v89 h90).bindN fun v91 h92 => (binR Prog .sub 3 v87 v91 h92).bindN fun v93 h94 => (binR Prog .add 3 v93 (.int .i64 1) h94).bindN fun v95 h96 => (fieldAddrR Prog 263 a2 2 h96).bindN fun v97 h98 => (loadR Prog 3 v97 h98).bindN fun v99 h100 => chkR ((okVal (loadR Prog 3 v85 h74) v87 && true) && ((okVal (loadR Prog 3 v89 h74) v91 && true) && ((okVal (loadR Prog 3 v97 h74) v99 && true) && true))) (.panic p83 h84)) fun v81 h82 =>
 (fieldAddrR Prog 179 v59 1 h82).bindN fun v101 h102 =>
 (loadR Prog 3 v101 h102).bindN fun v103 h104 =>
 (fieldAddrR Prog 179 v59 0 h104).bindN fun v105 h106 =>
 (loadR Prog 3 v105 h106).bindN fun v107 h108 =>
 (binR Prog .sub 3 v103 v107 h108).bindN fun v109 h110 =>
 (binR Prog .add 3 v109 (.int .i64 1) h110).bindN fun v111 h112 =>
 (fieldAddrR Prog 263 a2 2 h112).bindN fun v113 h114 =>
 (loadR Prog 3 v113 h114).bindN fun v115 h116 =>
 (call F.ζ3a [v77,v81,v111,v115] h116).bindT (fun p119 h120 => chkR ((okVal (loadR Prog 75 v75 h82) v77 && true) && ((okVal (loadR Prog 3 v101 h74) v103 && true) && ((okVal (loadR Prog 3 v105 h74) v107 && true) && ((okVal (loadR Prog 3 v113 h74) v115 && true) && true)))) (.panic p119 h120)) fun v117 h118 =>
 (fieldAddrR Prog 179 v59 2 h118).bindN fun v121 h122 =>
 (storeR Prog 23 v121 v117 h122).bindN fun _v123 h124 =>
 chkR ((okVal (loadR Prog 75 v75 h82) v77 && true) && ((okVal (loadR Prog 3 v101 h74) v103 && true) && ((okVal (loadR Prog 3 v105 h74) v107 && true) && ((okVal (loadR Prog 3 v113 h74) v115 && true) && true)))) (
 ζ3b k call a1 a2 a6 v59 a17 a18 a19 h124))
 (
 (loadR Prog 75 v35 h74).bind fun v125 h126 =>
 (fieldAddrR Prog 263 a2 2 h126).bind fun v127 h128 =>
 (loadR Prog 3 v127 h128).bind fun v129 h130 =>
 (call F.ζ2j [v125,(.int .i64 4),v129] h130).bind fun v131 h132 =>
 (buildSliceR Prog 23 1 [(0,v131)] h132).bind fun v133 h134 =>
 (fieldAddrR Prog 179 v59 2 h134).bind fun v135 h136 =>
 (storeR Prog 23 v135 v133 h136).bind fun _v137 h138 =>
 ζ3b k call a1 a2 a6 v59 a17 a18 a19 h138)))
 (
 .ok ((.exit 0),[(1,a1),(2,a2),(6,a6),(17,a17),(18,a18),(19,a19),(20,v29)]) h30) :=
 (loopB_eq _ _).trans (by kernel_rfl)
theorem ζ3y (k:Nat) (call:Caller) (a1 a2 a6 a9 a17 a18 a19:Value) (h:Heap):ζ3b k call a1 a2 a6 a9 a17 a18 a19 h =
 (loadR Prog 179 a9 h).bind fun v139 h140 =>
 (buildSliceR Prog 175 1 [(0,v139)] h140).bind fun v141 h142 =>
 (builtinV Prog .append [175,175] [a6,v141] h142).bind fun v143 h144 =>
 (binR Prog .add 3 a19 (.int .i64 1) h144).bind fun v145 h146 =>
 .ok (.normal,[(1,a1),(2,a2),(6,v143),(17,a17),(18,a18),(19,v145)]) h146:=by kernel_rfl
theorem ζ7n (k:Nat) (call:Caller) (a1 a2 a6 a17 a18 a19 a20:Value) (h:Heap):ζ27 k call (.exit 0) [(1,a1),(2,a2),(6,a6),(17,a17),(18,a18),(19,a19),(20,a20)] h =
 .ok a6 h:=by kernel_rfl
def ζ5t (k:Nat) (call:Caller):Env → Heap → Res (AExit × Env):=loopB (C k) call F.ζ18 [1,1,0,1,0,0]
def ζ59 (k:Nat) (call:Caller):Kont Value:=kBlock 0 (kSeq (pieceK (C k) call F.ζ18 [1,1,1]) (kDone Prog (resOf Prog F.ζ18)))
def ζ18 (k:Nat) (call:Caller) (a0:Value) (h:Heap):Res Value :=
 (boxR a0 h).bind fun v1 h2 =>
 (fieldAddrR Prog 263 v1 0 h2).bind fun v3 h4 =>
 (loadR Prog 75 v3 h4).bind fun v5 h6 =>
 (fieldAddrR Prog 263 v1 2 h6).bind fun v7 h8 =>
 (loadR Prog 3 v7 h8).bind fun v9 h10 =>
 (binR Prog .add 3 (.int .i64 2) v9 h10).bind fun v11 h12 =>
 (call F.ζ2q [v5,(.int .i64 2),v11,(.int .i64 1)] h12).bind fun v13 h14 =>
 (builtinV Prog .len [309] [v13] h14).bind fun v15 h16 =>
 (loopN (ζ5t k call) loopFuel [(1,v1),(3,(.slice none 0 0)),(12,v13),(13,v15),(14,(.int .i64 0))] h16).bind fun r17 h18 =>
 ζ59 k call r17.1 r17.2 h18
theorem ζbi (k:Nat) (a0:Value) (h:Heap):R (T k) F.ζ18 [a0] h = nrm .fz h (ζ18 k (R (T k)) a0 h) :=
 (R_body (t:=T k) (T_scott k) (by kernel_rfl) (by kernel_rfl) _ _).trans (by kernel_rfl)
theorem ζ4i (k:Nat) (call:Caller) (a1 a3 a12 a13 a14:Value) (h:Heap):ζ5t k call [(1,a1),(3,a3),(12,a12),(13,a13),(14,a14)] h =
 (binR Prog .lss 3 a14 a13 h).bind fun v19 h20 =>
 condV (some v19) (
 (indexAddrR Prog 309 a12 a14 h20).bind fun v21 h22 =>
 (loadR Prog 75 v21 h22).bind fun v23 h24 =>
 (allocR Prog 75 h24).bind fun v25 h26 =>
 (storeR Prog 75 v25 v23 h26).bind fun _v27 h28 =>
 (loadR Prog 75 v25 h28).bind fun v29 h30 =>
 (call F.ζf [v29,(.int .i64 0)] h30).bind fun v31 h32 =>
 (loadR Prog 75 v25 h32).bind fun v33 h34 =>
 (fieldAddrR Prog 263 a1 2 h34).bind fun v35 h36 =>
 (loadR Prog 3 v35 h36).bind fun v37 h38 =>
 (call F.ζ2j [v33,(.int .i64 2),v37] h38).bind fun v39 h40 =>
 (buildSliceR Prog 23 1 [(0,v39)] h40).bind fun v41 h42 =>
 (buildR Prog 179 [(0,v31),(1,v31),(2,v41)] h42).bind fun v43 h44 =>
 (buildSliceR Prog 175 1 [(0,v43)] h44).bind fun v45 h46 =>
 (builtinV Prog .append [175,175] [a3,v45] h46).bind fun v47 h48 =>
 (binR Prog .add 3 a14 (.int .i64 1) h48).bind fun v49 h50 =>
 .ok (.normal,[(1,a1),(3,v47),(12,a12),(13,a13),(14,v49)]) h50)
 (
 .ok ((.exit 0),[(1,a1),(3,a3),(12,a12),(13,a13),(14,a14),(15,v19)]) h20) :=
 (loopB_eq _ _).trans (by kernel_rfl)
theorem ζ8q (k:Nat) (call:Caller) (a1 a3 a12 a13 a14 a15:Value) (h:Heap):ζ59 k call (.exit 0) [(1,a1),(3,a3),(12,a12),(13,a13),(14,a14),(15,a15)] h =
 .ok a3 h:=by kernel_rfl
def ζ1l (k:Nat) (call:Caller) (a0 a1 a2:Value) (h:Heap):Res Value :=
 (boxR a0 h).bind fun v1 h2 =>
 (fieldAddrR Prog 263 v1 0 h2).bindN fun v3 h4 =>
 (loadR Prog 75 v3 h4).bindN fun v5 h6 =>
 (call F.ζf [v5,a1] h6).bindT (fun p9 h10 => (fieldAddrR Prog 263 v1 0 h6).bindN fun v11 h12 => (loadR Prog 75 v11 h12).bindN fun v13 h14 => (binR Prog .add 3 a1 (.int .i64 2) h14).bindN fun v15 h16 => chkR ((okVal (loadR Prog 75 v11 h2) v13 && true) && true) (.panic p9 h10)) fun v7 h8 =>
 (fieldAddrR Prog 263 v1 0 h8).bindN fun v17 h18 =>
 (loadR Prog 75 v17 h18).bindN fun v19 h20 =>
 (binR Prog .add 3 a1 (.int .i64 2) h20).bindN fun v21 h22 =>
 (call F.ζf [v19,v21] h22).bindT (fun p25 h26 => chkR ((okVal (loadR Prog 75 v17 h2) v19 && true) && true) (.panic p25 h26)) fun v23 h24 =>
 chkR ((okVal (loadR Prog 75 v17 h2) v19 && true) && true) (
 (binR Prog .add 3 v7 v23 h24).bind fun v27 h28 =>
 (binR Prog .leq 3 v27 (.int .i64 65536) h28).bind fun v29 h30 =>
 (call F.ζ2x [v29] h30).bind fun v31 h32 =>
 (fieldAddrR Prog 263 v1 0 h32).bind fun v33 h34 =>
 (loadR Prog 75 v33 h34).bind fun v35 h36 =>
 (binR Prog .add 3 a1 (.int .i64 4) h36).bind fun v37 h38 =>
 (call F.ζ3a [v35,v37,v23,a2] h38).bind fun v39 h40 =>
 (binR Prog .eql 3 v23 (.int .i64 0) h40).bind fun v41 h42 =>
 condV (some v41) (
 .ok (.slice none 0 0) h42)
 (
 (binR Prog .add 3 v7 v23 h42).bind fun v43 h44 =>
 (binR Prog .sub 3 v43 (.int .i64 1) h44).bind fun v45 h46 =>
 (buildR Prog 179 [(0,v7),(1,v45),(2,v39)] h46).bind fun v47 h48 =>
 (buildSliceR Prog 175 1 [(0,v47)] h48).bind fun v49 h50 =>
 .ok v49 h50))
theorem ζb0 (k:Nat) (a0 a1 a2:Value) (h:Heap):R (T k) F.ζ1l [a0,a1,a2] h = nrm .fz h (ζ1l k (R (T k)) a0 a1 a2 h) :=
 (R_body (t:=T k) (T_scott k) (by kernel_rfl) (by kernel_rfl) _ _).trans (by kernel_rfl)
def ζ2j (k:Nat) (call:Caller) (a0 a1 a2:Value) (h:Heap):Res Value :=
 (boxR a0 h).bind fun v1 h2 =>
 (binR Prog .eql 3 a2 (.int .i64 1) h2).bind fun v3 h4 =>
 condV (some v3) (
 (loadR Prog 75 v1 h4).bind fun v5 h6 =>
 (call F.ζ4r [v5,a1] h6).bind fun v7 h8 =>
 .ok v7 h8)
 (
 (binR Prog .eql 3 a2 (.int .i64 2) h4).bind fun v9 h10 =>
 condV (some v9) (
 (loadR Prog 75 v1 h10).bind fun v11 h12 =>
 (call F.ζf [v11,a1] h12).bind fun v13 h14 =>
 .ok v13 h14)
 (
 (loadR Prog 75 v1 h10).bind fun v15 h16 =>
 (call F.ζ1a [v15,a1] h16).bind fun v17 h18 =>
 .ok v17 h18))
theorem ζkv (k:Nat) (a0 a1 a2:Value) (h:Heap):R (T k) F.ζ2j [a0,a1,a2] h = nrm .gc h (ζ2j k (R (T k)) a0 a1 a2 h) :=
 (R_body (t:=T k) (T_scott k) (by kernel_rfl) (by kernel_rfl) _ _).trans (by kernel_rfl)
end
end Go.Sw
end
section
namespace Go.Sw
open Go.RowKit
theorem ζjs (k:Nat) {H:Heap} {v:Value} {b:List Int} (hv:Sl H 1 v encB b) (hb:Byt b) (i z:Int) (hz:z = 1 ∨ z = 2 ∨ z = 4) (hl:b.length < 2 ^ 62):R (T k) F.ζ2j [.agg #[v],.int .i64 i,.int .i64 z] H = orF (uS b i z) (.int .i64) H:=by
 rw [ζkv];have hx:Ext H (H.push ⟨[v],1,false⟩):=(Ext.refl H).push _;refine gc_orF ?_ fun _ _ => .int _ _;rcases hz with rfl | rfl | rfl
 ·simp -implicitDefEqProofs [ζ2j];exact Cp.callL (U8_run k (hv.up hx) hb i hl) hx fun n hn => .ok hx rfl
 ·simp -implicitDefEqProofs [ζ2j];exact Cp.callL (U16_run k (hv.up hx) hb i hl) hx fun n hn => .ok hx rfl
 ·simp -implicitDefEqProofs [ζ2j];exact Cp.callL (U32_run k (hv.up hx) hb i hl) hx fun n hn => .ok hx rfl
theorem repeat_I:∀ n,repeatCells [Value.int .i64 0] n = rows encI (List.replicate n 0)
 | 0 => rfl
 | n + 1 => by
  have:=repeat_I n;simp only [repeatCells,List.replicate_succ] at this ⊢;simp [rows,this]
theorem uS_cut {r:List Int} {z n j:Nat} (hr:r.length = n * z) (hj:j < n):uS r ((z:Int) * j) z = some (num ((r.drop (z * j)).take z)):=by
 have:z * j + z ≤ r.length:=by
  rw [hr,← Nat.mul_succ,Nat.mul_comm];exact Nat.mul_le_mul_right _ hj
 have e1:((z:Int) * j) = ((z * j:Nat):Int):=by simp
 unfold uS;rw [e1,pieceS,if_pos (by omega),Int.toNat_natCast,Int.toNat_natCast];rfl
theorem list_run (k:Nat) {H:Heap} {v:Value} {b:List Int} (hv:Sl H 1 v encB b) (hb:Byt b) (i n z:Int) (hz:z = 1 ∨ z = 2 ∨ z = 4) (hl:b.length < 2 ^ 31):R (T k) F.ζ3a [.agg #[v],.int .i64 i,.int .i64 n,.int .i64 z] H = orF (listS b i n z) (lv encI) H:=by
 rw [ζn2];have hx1:Ext H (H.push ⟨[v],1,false⟩):=(Ext.refl H).push _;refine fz_orF ?_ fun _ _ => (Flat.I _).alive;simp -implicitDefEqProofs [ζ3a];unfold listS;refine Cp.callM (Rows_run k (hv.up hx1) i n z (by omega)) hx1 fun r hr => ?_;have hn:=rowsS_n hr;have hp:=ζ3c hr;have hs:=ζ48 hv hp;have hrb:=(hb.piece hp).1;have hrl:=ζ3l hp;obtain ⟨n,rfl⟩:=Int.eq_ofNat_of_zero_le hn.1;obtain ⟨z,rfl⟩:=Int.eq_ofNat_of_zero_le hn.2.1;have hrl:r.length = n * z:=by exact_mod_cast hrl
 have hnl:n ≤ 2 ^ 31:=by
  have h1:n * 1 ≤ n * z:=Nat.mul_le_mul_left n (by omega);have h2:(n:Int) * z ≤ b.length:=by omega
  have h3:n * z ≤ b.length:=by exact_mod_cast h2
  omega
 simp only [Int.toNat_natCast];generalize subV 1 v i.toNat ((n:Int) * z).toNat = rv at hs;have hx2:Ext H ((H.push ⟨[v],1,false⟩).push ⟨[rv],1,false⟩):=hx1.push _
 obtain ⟨x,e',H1,hr',rfl,rfl,ho,hx⟩:=loop_up (body:=ζah k (R (T k))) n
  (fun j e H' => e = [(3,.int .i64 z),(9,.pointer (some ⟨H.n + 1,0,none⟩)),(10,.slice (some ⟨H.n + 2,0,none⟩) n n),(20,.int .i64 n),(21,.int .i64 j)] ∧
   Own H H' 1 (.slice (some ⟨H.n + 2,0,none⟩) n n) encI (((cutRows r z n).map num).take j ++ List.replicate (n - j) 0) ∧ Ext H H' ∧ H'.get (H.n + 1) = some ⟨[rv],1,false⟩)
  (fun x e H' => x = .exit 0 ∧ e = [(3,.int .i64 z),(9,.pointer (some ⟨H.n + 1,0,none⟩)),(10,.slice (some ⟨H.n + 2,0,none⟩) n n),(20,.int .i64 n),(21,.int .i64 n),(22,.bool false)] ∧
   Own H H' 1 (.slice (some ⟨H.n + 2,0,none⟩) n n) encI ((cutRows r z n).map num) ∧ Ext H H')
  (e0:=[(3,.int .i64 z),(9,.pointer (some ⟨H.n + 1,0,none⟩)),(10,.slice (some ⟨H.n + 2,0,none⟩) n n),(20,.int .i64 n),(21,.int .i64 0)])
  (H0:=((H.push ⟨[v],1,false⟩).push ⟨[rv],1,false⟩).push ⟨repeatCells [Value.int .i64 0] n,1,false⟩)
  ⟨rfl,.inr ⟨H.n + 2,by simp,by omega,by rw [ζe _ _ _ (by simp),repeat_I]; simp⟩,hx2.push _,by rw [ζ1x _ _ _ (by simp),ζe _ _ _ (by simp)]⟩ (by omega)
  (fun j e H' hj ⟨he,ho,hx,hg⟩ => by
   subst he;have hlt:(j:Int) < n:=by omega
   have hnum:=ζjs k (hs.up hx) hrb ((z:Int) * j) z hz (by omega);rw [uS_cut hrl hj,orF_some] at hnum;have hz4:(z:Int) * j ≤ 4 * 2147483648:=Int.mul_le_mul (by omega) (by omega) (by omega) (by omega);have hz0:0 ≤ (z:Int) * j:=Int.mul_nonneg (by omega) (by omega);have hlen:((cutRows r z n).map num).length = n:=by simp
   have hy:((cutRows r z n).map num)[j]? = some (num ((r.drop (z * j)).take z)):=by rw [List.getElem?_map,ζ45 _ _ _ _ hj]; rfl
   obtain ⟨b,H2,e1,h1,h2,h3,h4,h5,h6⟩:=ho.set encI_len j 0 1 0 (num ((r.drop (z * j)).take z)) (.int .i64 (num ((r.drop (z * j)).take z))) (fill_get _ _ hlen hj) rfl rfl (by decide) rfl;rw [ζon _ _ hlen hj _ hy] at h4;simp at e1;obtain ⟨rfl,_⟩:=e1;generalize num ((r.drop (z * j)).take z) = y at hnum h3 h4;have hx':Ext H H2:=⟨by rw [h6]; exact hx.n,fun c hc hs => by rw [h5 c (by omega)]; exact hx.2 c hc hs⟩
   refine .inl ⟨_,H2,?_,rfl,h4,hx',by rw [h5 _ (by omega)]; exact hg⟩;simp only [Nat.add_zero,Nat.mul_one] at h3;rw [ζax];simp -implicitDefEqProofs (disch:=omega) [-stR_ptr,hlt,hg,hnum,ζis,h3])
  (fun e H' ⟨he,ho,hx,hg⟩ => by
   subst he;refine ⟨.exit 0,_,H',?_,by simp,rfl,rfl,by simpa [List.take_of_length_le] using ho,hx⟩;rw [ζax];simp -implicitDefEqProofs)
 obtain ⟨L,hf⟩:=ho.freeze encI_len (ζ6c _) 6;simp -implicitDefEqProofs (disch:=omega) [mkR_nat,hr',ζhg];exact .ok hx ⟨L,hf⟩
end Go.Sw
end
section
namespace Go.Sw
open Go.RowKit
abbrev encPt (p:Pt):List Value:=[.int .i64 p.first,.int .i64 p.last,lv encI p.vals]
theorem ζen (p:Pt):(encPt p).length = 3:=rfl
theorem ζpl (l:List Pt):∀ p,p ∈ l → Flats (encPt p):=fun _ _ => .cons (.int _ _) (.cons (.int _ _) (.cons (Flat.I _) .nil))
theorem Flat.Pts (l:List Pt):Flat (Go.Sw.lv encPt l):=.lv (ζpl l)
theorem ζl9 (l:List Pt):∀ p,p ∈ l → ∀ v,v ∈ encPt p → Still v:=fun p _ v hv => by
 simp [encPt] at hv;rcases hv with rfl | rfl | rfl <;> trivial
theorem rd_vw {H:Heap} {v:Value} {b:List Int} (hv:Sl H 1 v encB b):Go.Sw.veq v v = true:=hv.veq fun n _ u hu => by simp at hu; subst hu; simp
theorem ζlr (k:Nat) {H:Heap} {v:Value} {b:List Int} (hv:Sl H 1 v encB b) (hb:Byt b) (g z0:Value) (i z:Int) (hz:z = 1 ∨ z = 2 ∨ z = 4) (hl:b.length < 2 ^ 31) (hi:0 ≤ i ∧ i ≤ 4) :
  R (T k) F.ζ1l [.agg #[v,g,z0],.int .i64 i,.int .i64 z] H = orF (trimS b i z) (lv encPt) H:=by
 rw [ζb0];have hx:Ext H (H.push ⟨[v,g,z0],1,false⟩):=(Ext.refl H).push _;have hq:=rd_vw hv;have hqa:veq (.agg #[v]) (.agg #[v]) = true:=veq_agg (l:=[v]) fun u hu => by simp at hu; subst hu; exact hq
 refine fz_orF ?_ fun _ _ => (Flat.Pts _).alive;simp -implicitDefEqProofs [ζ1l];unfold trimS;refine Cp.callT (U16_run k (hv.up hx) hb i (by omega)) (fun _ => ⟨_,by simp -implicitDefEqProofs (disch:=omega) [hqa],hx⟩) fun f hf => ?_;have hf:=uS_two hb hf;simp -implicitDefEqProofs (disch:=omega);refine Cp.callT (U16_run k (hv.up hx) hb (i + 2) (by omega)) (fun _ => ⟨_,by simp -implicitDefEqProofs (disch:=omega) [hqa],hx⟩) fun n hn => ?_;have hn:=uS_two hb hn;simp -implicitDefEqProofs (disch:=omega) [hqa];refine Cp.need hx fun hfn => ?_;simp -implicitDefEqProofs (disch:=omega);refine Cp.callM (list_run k (hv.up hx) hb (i + 4) n z hz hl) hx fun vs hvs => ?_;by_cases h0:n = 0
 ·subst h0;simp -implicitDefEqProofs;exact .ok hx ⟨_,rfl⟩
 ·have h0':(n == 0) = false:=by simpa using h0
  simp -implicitDefEqProofs (disch:=omega) [h0,h0'];refine .ok (hx.push _) ?_;exact Own.freeze (l:=[⟨f,f + n - 1,vs⟩]) ζen (.inr ⟨H.n + 1,rfl,by omega,by rw [ζe _ _ _ (by simp)]; rfl⟩) (ζl9 _) 6
def encPR (x:Pt × Value):List Value:=[.int .i64 x.1.first,.int .i64 x.1.last,x.2]
theorem ζok (x:Pt × Value):(encPR x).length = 3:=rfl
def InnerOk (H0 H:Heap) (x:Pt × Value):Prop:=x.2 = lv encI x.1.vals ∨ ∃ b,x.2 = .slice (some ⟨b,0,none⟩) x.1.vals.length x.1.vals.length ∧ H0.n ≤ b ∧ H.get b = some ⟨rows encI x.1.vals,1,false⟩
def PtsOwn (H0 H:Heap) (s:Value) (ps:List Pt):Prop:=∃ l:List (Pt × Value),l.map Prod.fst = ps ∧ Own H0 H 3 s encPR l ∧ ∀ x,x ∈ l → InnerOk H0 H x
theorem InnerOk.keep {H0 H H':Heap} {x:Pt × Value} (h:InnerOk H0 H x) (hk:∀ c k,H.get c = some k → k.esz ≠ 3 → H'.get c = some k):InnerOk H0 H' x:=by
 rcases h with h | ⟨b,h1,h2,h3⟩
 ·exact .inl h
 ·exact .inr ⟨b,h1,h2,hk b _ h3 (by simp)⟩
theorem InnerOk.fz {H0 H:Heap} {x:Pt × Value} (h:InnerOk H0 H x) (d:Nat):∃ L,mapF (fzV H0.n H (d + 2)) (encPR x) = some (encPt x.1,L):=by
 have h2:∃ L,fzV H0.n H (d + 2) x.2 = some (lv encI x.1.vals,L):=by
  rcases h with h | ⟨b,h1,h2,h3⟩
  ·rw [h]; exact ⟨[],rfl⟩
  ·exact Own.freeze encI_len (.inr ⟨b,h1,h2,h3⟩) (ζ6c _) d
 obtain ⟨L,hL⟩:=h2;exact ⟨_,ζw (v:=.int .i64 x.1.first) (u:=.int .i64 x.1.first) (L1:=[]) rfl (ζw (v:=.int .i64 x.1.last) (u:=.int .i64 x.1.last) (L1:=[]) rfl (ζw hL (L2:=[]) rfl))⟩
theorem PtsOwn.nil (H0 H:Heap):PtsOwn H0 H (.slice none 0 0) []:=⟨[],rfl,Own.nil _ _ _,fun x h => by simp at h⟩
theorem PtsOwn.keep {H0 H H':Heap} {s:Value} {ps:List Pt} (h:PtsOwn H0 H s ps) (hx:Ext H H'):PtsOwn H0 H' s ps:=by
 obtain ⟨l,h1,h2,h3⟩:=h;exact ⟨l,h1,h2.up hx,fun x hm => (h3 x hm).keep fun c k hc _ => hx.get hc⟩
theorem PtsOwn.push {H0 H:Heap} {s:Value} {ps:List Pt} (h:PtsOwn H0 H s ps) (hx:Ext H0 H) (p:Pt) (u:Value) (hi:InnerOk H0 H (p,u)) (hl:ps.length < 2 ^ 31) :
  ∃ s' H',apR 3 40 s (.slice (some ⟨H.n,0,none⟩) 1 1) (H.push ⟨[.int .i64 p.first,.int .i64 p.last,u],3,false⟩) = .ok s' H' ∧ PtsOwn H0 H' s' (ps ++ [p]) ∧ Ext H0 H' ∧ ∀ c k,H.get c = some k → k.esz ≠ 3 → H'.get c = some k:=by
 obtain ⟨l,h1,h2,h3⟩:=h;subst h1;obtain ⟨s',H',e1,e2,e3,e4⟩:=apR_own (bytes:=40) ζok (b:=.slice (some ⟨H.n,0,none⟩) 1 1) (l2:=[(p,u)]) (h2.up ((Ext.refl H).push ⟨encPR (p,u),3,false⟩)) (hx.push _) rfl (by
  unfold firstV;dsimp only;rw [if_neg (by simp),ζ9d,ζe H ⟨encPR (p,u),3,false⟩ H.n rfl];rfl) (by simp at hl ⊢; omega) (by decide)
 have hk:∀ c k,H.get c = some k → k.esz ≠ 3 → H'.get c = some k:=fun c k hc hne => by
  have hlt:=Heap.get_lt hc;rw [e4 c (by simp; omega) fun o n m hs => ?_]
  ·rw [ζ1x _ _ _ hlt]; exact hc
  ·rcases h2 with ⟨_,h | h | h⟩ | ⟨b,h,_,hb⟩
   ·rw [h] at hs; simp at hs
   ·rw [h] at hs; simp [bareV] at hs
   ·rw [h] at hs; simp [emptyV] at hs
   ·rw [h] at hs;simp at hs;obtain ⟨⟨rfl,_⟩,_⟩:=hs;rw [hb] at hc;injection hc with hc;subst hc;exact hne rfl
 refine ⟨s',H',e1,⟨l ++ [(p,u)],by simp,e2,fun x hm => ?_⟩,e3,hk⟩;rcases List.mem_append.1 hm with hm | hm
 ·exact (h3 x hm).keep hk
 ·simp at hm;subst hm;exact hi.keep hk
theorem rows_fst (l:List (Pt × Value)):rows (fun x:Pt × Value => encPt x.1) l = rows encPt (l.map Prod.fst):=by
 induction l with
 | nil => rfl
 | cons x l ih => rw [List.map_cons,ζ4m,ζ4m,ih]
theorem PtsOwn.freeze {H0 H:Heap} {s:Value} {ps:List Pt} (h:PtsOwn H0 H s ps) (d:Nat):∃ L,fzV H0.n H (d + 3) s = some (lv encPt ps,L):=by
 obtain ⟨l,h1,h2,h3⟩:=h;subst h1;obtain ⟨L,hL⟩:=h2.freezeG (enc':=fun x:Pt × Value => encPt x.1) ζok (d + 1) fun x hm => (h3 x hm).fz d;refine ⟨L,hL.trans ?_⟩;unfold lv;rw [rows_fst];simp
theorem ζp9 {H:Heap} {v:Value} {b:List Int} (hv:Sl H 1 v encB b) {i need:Int} {keys:Nat} {rows:List (List Int)} (h:takeS b i need keys = some rows) {j:Nat} {row:List Int} (hj:rows[j]? = some row) :
  ∃ u,(cutV (rowsV v b i) (rowZ b i) rows.length)[j]? = some u ∧ Sl H 1 u encB row:=by
 have hlt:=(List.getElem?_eq_some_iff.1 hj).1;refine ⟨_,cutV_get _ _ _ _ hlt,?_⟩;unfold takeS at h;split at h
 ·rename_i z n h1 h2;split at h
  ·rename_i hc;obtain ⟨r,hr,rfl⟩:=Option.map_eq_some_iff.1 h;have hn:=rowsS_n hr;have hrl:(r.length:Int) = n * z:=ζ3l (ζ3c hr);have hsl:=ζ48 hv (ζ3c hr);obtain ⟨z,rfl⟩:=Int.eq_ofNat_of_zero_le hn.2.1;obtain ⟨n,rfl⟩:=Int.eq_ofNat_of_zero_le hn.1;have hrl:r.length = n * z:=by exact_mod_cast hrl
   have e1:rowsV v b i = subV 1 v (i + 10).toNat ((n:Int) * z).toNat:=by unfold rowsV; rw [h1,h2]; rfl
   have e2:rowZ b i = z:=by unfold rowZ; rw [h1]; simp
   rw [e1,e2];simp only [Int.toNat_natCast] at hj hlt;have hm:(cutRows r z n)[j]? = some row:=by
    unfold endRows at hj;split at hj
    ·have hlt2:=(List.getElem?_eq_some_iff.1 hj).1;simp at hlt2;rw [ζ45 _ _ _ _ hlt2] at hj;rw [ζ45 _ _ _ _ (by omega)];exact hj
    ·exact hj
   have hlt2:=(List.getElem?_eq_some_iff.1 hm).1;simp at hlt2;rw [ζ45 _ _ _ _ hlt2] at hm;injection hm with hm;subst hm;exact cutV_sl hsl z n j hrl hlt2
  ·cases h
 ·cases h
theorem ζrk (k:Nat) {H:Heap} {v:Value} {b:List Int} (hv:Sl H 1 v encB b) (hb:Byt b) (g:Value) (z:Int) (hz:z = 2 ∨ z = 4) (hl:b.length < 2 ^ 31) :
  R (T k) F.ζ18 [.agg #[v,g,.int .i64 z]] H = orF (oneS b z) (lv encPt) H:=by
 rw [ζbi];have hx:Ext H (H.push ⟨[v,g,.int .i64 z],1,false⟩):=(Ext.refl H).push _;refine fz_orF ?_ fun _ _ => (Flat.Pts _).alive;simp -implicitDefEqProofs (disch:=omega) [ζ18];unfold oneS;refine Cp.call (Take_run k (hv.up hx) hb 2 (2 + z) 1 hl (by omega) (by omega) (by omega)) hx fun rows hrows => ?_;obtain ⟨zr,nr,hz1,hn1,hneed,hlen,hrow⟩:=ζ5s hb hrows;have hnr:=uS_two hb hn1;have hzr:=uS_two hb hz1;have htk:=fun H' (hx':Ext H H') j row (hj:rows[j]? = some row) => ζp9 (hv.up hx') hrows hj;have hll:(cutV (rowsV v b 2) (rowZ b 2) rows.length).length = rows.length:=by simp
 generalize cutV (rowsV v b 2) (rowZ b 2) rows.length = us at htk hll;simp -implicitDefEqProofs (disch:=omega) [hll]
 refine Cp.bindL (Cp.mapLoop (oneP z) rows
  (fun i acc e H' => ∃ s,e = [(1,.pointer (some ⟨H.n,0,none⟩)),(3,s),(12,lv encW us),(13,.int .i64 rows.length),(14,.int .i64 i)] ∧ PtsOwn H H' s acc ∧ H'.get H.n = some ⟨[v,g,.int .i64 z],1,false⟩)
  (fun acc x e H' => x = .exit 0 ∧ ∃ s,e = [(1,.pointer (some ⟨H.n,0,none⟩)),(3,s),(12,lv encW us),(13,.int .i64 rows.length),(14,.int .i64 rows.length),(15,.bool false)] ∧ PtsOwn H H' s acc)
  (by omega) hx ⟨_,rfl,PtsOwn.nil _ _,ζe _ _ _ rfl⟩ ?_ ?_) ?_
 ·intro i row acc e H' hi ha hx' ⟨s,he,ho,hg⟩;subst he;have hilt:=(List.getElem?_eq_some_iff.1 hi).1;have hlt:(i:Int) < rows.length:=by omega
  obtain ⟨u,hu,hsu⟩:=htk H' hx' i row hi;have hrb:=hrow row (List.mem_of_getElem? hi);have hgn:H.n < H'.n:=Heap.get_lt hg;have hne:¬ H.n = H'.n:=by omega
  have hx1:Ext H' (H'.push ⟨[u],1,false⟩):=(Ext.refl H').push _;have hst:=hsu.storable;have hce:=hsu.cells;rw [ζ4i];simp -implicitDefEqProofs (disch:=omega) [hlt,ixS_lvN encW_len us .i64 i u hu];unfold oneP;refine Cp.call (U16_run k (hsu.up hx1) hrb.1 0 (by omega)) (hx'.trans hx1) fun id hid => ?_;simp -implicitDefEqProofs (disch:=omega) [hg,hne];refine Cp.callM (ζjs k (hsu.up hx1) hrb.1 2 z (by omega) (by omega)) (hx'.trans hx1) fun n hn => ?_;have hx2:Ext H' ((H'.push ⟨[u],1,false⟩).push ⟨[.int .i64 n],1,false⟩):=hx1.push _;obtain ⟨s',H2,e1,e2,e3,e4⟩:=(ho.keep hx2).push (hx'.trans hx2) ⟨id,id,[n]⟩ (.slice (some ⟨H'.n + 1,0,none⟩) 1 1) (.inr ⟨H'.n + 1,rfl,by omega,by rw [ζe _ _ _ (by simp)]; rfl⟩) (by omega);simp at e1;simp -implicitDefEqProofs (disch:=omega) [e1];exact .ok e3 ⟨rfl,s',rfl,e2,e4 _ _ (hx2.get hg) (by simp)⟩
 ·intro acc e H' ha hx' ⟨s,he,ho,_⟩;subst he;refine ⟨.exit 0,_,H',?_,by simp,hx',rfl,s,rfl,ho⟩;rw [ζ4i];simp -implicitDefEqProofs
 ·rintro acc ⟨x,e⟩ H' _ hx' ⟨rfl,s,rfl,ho⟩;simp only [ζ8q];exact .ok hx' (ho.freeze 5)
end Go.Sw
end
section
namespace Go.Sw
open Go.RowKit
set_option maxHeartbeats 1000000 in
theorem seg_step (k:Nat) {H H':Heap} {v:Value} {b:List Int} (hv:Sl H 1 v encB b) (hb:Byt b) (g:Value) (z:Int) (hz:z = 2 ∨ z = 4) (each:Bool) (hl:b.length < 2 ^ 31)
  (us:List Value) (n i:Nat) (row:List Int) (u:Value) (acc:List Pt) (s:Value) (hi:i < n) (hn31:n < 2 ^ 31) (hu:us[i]? = some u) (hn:acc.length < 2 ^ 31) (ho:PtsOwn H H' s acc) (hx':Ext H H') (hg:H'.get H.n = some ⟨[v,g,.int .i64 z],1,false⟩)
  (hsu:Sl H' 1 u encB row) (hrb:Byt row) (hrl:row.length < 65536) (hr4:each = false → 4 + z ≤ row.length) :
  Cp failV (Ext H) (ζ1y k (R (T k)) [(1,.bool each),(2,.pointer (some ⟨H.n,0,none⟩)),(6,s),(17,lv encW us),(18,.int .i64 n),(19,.int .i64 i)] H') (segP b z each row)
   fun y xe H' => xe.1 = .normal ∧ ∃ s,xe.2 = [(1,.bool each),(2,.pointer (some ⟨H.n,0,none⟩)),(6,s),(17,lv encW us),(18,.int .i64 n),(19,.int .i64 (i + 1:Nat))] ∧ PtsOwn H H' s (acc ++ [y]) ∧ H'.get H.n = some ⟨[v,g,.int .i64 z],1,false⟩:=by
 have hlt:(i:Int) < n:=by omega
 have hqv:=rd_vw hv;have hgn:H.n < H'.n:=Heap.get_lt hg;have hne:¬ H.n = H'.n:=by omega
 have hne1:¬ H.n = H'.n + 1:=by omega
 have hx1:Ext H' (H'.push ⟨[u],1,false⟩):=(Ext.refl H').push _;have hst:=hsu.storable;have hce:=hsu.cells;have hqu:=rd_vw hsu;have hqa:veq (.agg #[u]) (.agg #[u]) = true:=veq_agg (l:=[u]) fun w hw => by simp at hw; subst hw; exact hqu
 have hqb:veq (.agg #[v]) (.agg #[v]) = true:=veq_agg (l:=[v]) fun w hw => by simp at hw; subst hw; exact hqv
 rw [ζ3z];simp -implicitDefEqProofs (disch:=omega) [hlt,ixS_lvN encW_len us .i64 i u hu];unfold segP;refine Cp.callT (U16_run k (hsu.up hx1) hrb 2 (by omega)) (fun _ => ⟨_,by simp -implicitDefEqProofs (disch:=omega) [hqa],hx'.trans hx1⟩) fun f hf => ?_;have hf:=uS_two hrb hf;simp -implicitDefEqProofs (disch:=omega);refine Cp.callT (U16_run k (hsu.up hx1) hrb 0 (by omega)) (fun _ => ⟨_,by simp -implicitDefEqProofs (disch:=omega) [hqa],hx'.trans hx1⟩) fun l hl' => ?_;have hl':=uS_two hrb hl';simp -implicitDefEqProofs (disch:=omega) [hqa];have hx2:Ext H' ((H'.push ⟨[u],1,false⟩).push ⟨[.int .i64 f,.int .i64 l,.slice none 0 0],1,false⟩):=hx1.push _;refine Cp.need (hx'.trans hx2) fun hfl => ?_;cases each with
 | true =>
  simp -implicitDefEqProofs (disch:=omega) [hg,hne,hne1];refine Cp.callT (U16_run k (hsu.up hx2) hrb 4 (by omega)) (fun _ => ⟨_,by simp -implicitDefEqProofs (disch:=omega) [hg,hne,hne1],hx'.trans hx2⟩) fun at4 hat => ?_;have hat:=uS_two hrb hat;simp -implicitDefEqProofs (disch:=omega) [hg,hne,hne1];refine Cp.callTM (list_run k (hv.up (hx'.trans hx2)) hb at4 (l - f + 1) z (by omega) hl) (fun _ => ⟨_,by simp -implicitDefEqProofs (disch:=omega) [hqb,hg,hne,hne1],hx'.trans hx2⟩) fun vs hvs => ?_;have hx3:Ext H' ((H'.push ⟨[u],1,false⟩).push ⟨[.int .i64 f,.int .i64 l,lv encI vs],1,false⟩):=hx1.push _;obtain ⟨s',H2,e1,e2,e3,e4⟩:=(ho.keep hx3).push (hx'.trans hx3) ⟨f,l,vs⟩ (lv encI vs) (.inl rfl) (by omega);simp at e1;simp -implicitDefEqProofs (disch:=omega) [hqb,hg,hne,hne1,ζ3y,e1];exact .ok e3 ⟨rfl,s',rfl,e2,e4 _ _ (hx3.get hg) (by simp)⟩
 | false =>
  simp -implicitDefEqProofs (disch:=omega) [hg,hne,hne1];refine Cp.callM (ζjs k (hsu.up hx2) hrb 4 z (by omega) (by omega)) (hx'.trans hx2) fun n hn => ?_;have hx3:Ext H' (((H'.push ⟨[u],1,false⟩).push ⟨[.int .i64 f,.int .i64 l,.slice (some ⟨H'.n + 2,0,none⟩) 1 1],1,false⟩).push ⟨[.int .i64 n],1,false⟩):=(hx1.push _).push _;obtain ⟨s',H2,e1,e2,e3,e4⟩:=(ho.keep hx3).push (hx'.trans hx3) ⟨f,l,[n]⟩ (.slice (some ⟨H'.n + 2,0,none⟩) 1 1) (.inr ⟨H'.n + 2,rfl,by omega,by rw [ζe _ _ _ (by simp)]; rfl⟩) (by omega);simp at e1;simp -implicitDefEqProofs (disch:=omega) [ζ3y,e1];exact .ok e3 ⟨rfl,s',rfl,e2,e4 _ _ (hx3.get hg) (by simp)⟩
theorem ζk6 (k:Nat) {H:Heap} {v:Value} {b:List Int} (hv:Sl H 1 v encB b) (hb:Byt b) (g:Value) (z:Int) (hz:z = 2 ∨ z = 4) (each:Bool) (hl:b.length < 2 ^ 31) :
  R (T k) F.ζ4 [.agg #[v,g,.int .i64 z],.bool each] H = orF (segS b z each) (lv encPt) H:=by
 rw [ζai];have hx:Ext H (H.push ⟨[v,g,.int .i64 z],1,false⟩):=(Ext.refl H).push _;have hqv:=rd_vw hv;refine fz_orF ?_ fun _ _ => (Flat.Pts _).alive;unfold segS;obtain ⟨need,hneed⟩:∃ need:Int,need = if each then 6 else 4 + z:=⟨_,rfl⟩
 have hnd:6 ≤ need:=by rw [hneed]; split <;> omega
 have hnd2:each = false → need = 4 + z:=fun h => by rw [hneed,h]; rfl
 rw [← hneed]
 have main:∀ rows,takeS b 2 need 2 = some rows →
   Cp failV (Ext H) ((loopN (ζ1y k (R (T k))) loopFuel [(1,.bool each),(2,.pointer (some ⟨H.n,0,none⟩)),(6,.slice none 0 0),(17,lv encW (cutV (rowsV v b 2) (rowZ b 2) rows.length)),(18,.int .i64 rows.length),(19,.int .i64 0)] (H.push ⟨[v,g,.int .i64 z],1,false⟩)).bind fun r h => ζ27 k (R (T k)) r.1 r.2 h)
    (mapO (segP b z each) rows) fun b v H' => ∃ L,fzV H.n H' fzDepth v = some (lv encPt b,L):=by
  intro rows hrows;obtain ⟨zr,nr,hz1,hn1,hneed,hlen,hrow⟩:=ζ5s hb hrows;have hnr:=uS_two hb hn1;have hzr:=uS_two hb hz1;have htk:=fun H' (hx':Ext H H') j row (hj:rows[j]? = some row) => ζp9 (hv.up hx') hrows hj;have hll:(cutV (rowsV v b 2) (rowZ b 2) rows.length).length = rows.length:=by simp
  generalize cutV (rowsV v b 2) (rowZ b 2) rows.length = us at htk hll
  refine Cp.bindL (Cp.mapLoop (segP b z each) rows
   (fun i acc e H' => ∃ s,e = [(1,.bool each),(2,.pointer (some ⟨H.n,0,none⟩)),(6,s),(17,lv encW us),(18,.int .i64 rows.length),(19,.int .i64 i)] ∧ PtsOwn H H' s acc ∧ H'.get H.n = some ⟨[v,g,.int .i64 z],1,false⟩)
   (fun acc x e H' => x = .exit 0 ∧ ∃ s,e = [(1,.bool each),(2,.pointer (some ⟨H.n,0,none⟩)),(6,s),(17,lv encW us),(18,.int .i64 rows.length),(19,.int .i64 rows.length),(20,.bool false)] ∧ PtsOwn H H' s acc)
   (by omega) hx ⟨_,rfl,PtsOwn.nil _ _,ζe _ _ _ rfl⟩ ?_ ?_) ?_
  ·intro i row acc e H' hi ha hx' ⟨s,he,ho,hg⟩;subst he;have hilt:=(List.getElem?_eq_some_iff.1 hi).1;obtain ⟨u,hu,hsu⟩:=htk H' hx' i row hi;have hrb:=hrow row (List.mem_of_getElem? hi);exact seg_step k hv hb g z hz each hl us rows.length i row u acc s hilt (by omega) hu (by omega) ho hx' hg hsu hrb.1 (by omega) (fun h => by have:=hnd2 h; omega)
  ·intro acc e H' ha hx' ⟨s,he,ho,_⟩;subst he;refine ⟨.exit 0,_,H',?_,by simp,hx',rfl,s,rfl,ho⟩;rw [ζ3z];simp -implicitDefEqProofs
  ·rintro acc ⟨x,e⟩ H' _ hx' ⟨rfl,s,rfl,ho⟩;simp only [ζ7n];exact .ok hx' (ho.freeze 5)
 cases each with
 | true =>
  simp -implicitDefEqProofs (disch:=omega) [ζ4,ζ7w];have:need = 6:=hneed;subst this;refine Cp.call (Take_run k (hv.up hx) hb 2 6 2 hl (by omega) (by omega) (by omega)) hx fun rows hrows => ?_;have:=main rows hrows;simp -implicitDefEqProofs (disch:=omega);simpa using this
 | false =>
  simp -implicitDefEqProofs (disch:=omega) [ζ4,ζ7x];have:=hnd2 rfl;subst this;refine Cp.call (Take_run k (hv.up hx) hb 2 (4 + z) 2 hl (by omega) (by omega) (by omega)) hx fun rows hrows => ?_;have:=main rows hrows;simp -implicitDefEqProofs (disch:=omega);simpa using this
end Go.Sw
end
section
namespace Go.Sw
open Go.RowKit
theorem ζjy:∀ {ps:List Pt},risesS ps = true ↔ ∀ (i:Nat) (p q:Pt),ps[i]? = some p → ps[i + 1]? = some q → p.last < q.first
 | [] => by simp [risesS]
 | [a] => by simp [risesS]
 | a :: b :: l => by
  have ih:=ζjy (ps:=b :: l);simp only [risesS,Bool.and_eq_true,decide_eq_true_eq,ih];constructor
  ·intro ⟨h1,h2⟩ i p q hp hq;cases i with
   | zero => simp at hp hq; subst hp hq; exact h1
   | succ i => exact h2 i p q (by simpa using hp) (by simpa using hq)
  ·intro h;exact ⟨h 0 a b (by simp) (by simp),fun i p q hp hq => h (i + 1) p q (by simpa using hp) (by simpa using hq)⟩
abbrev tabV (x:Int × List Pt):Value:=boxV #[.int .i64 x.1,lv encPt x.2]
theorem Flat.tab (x:Int × List Pt):Flat (tabV x):=.boxV (l:=[.int .i64 x.1,Go.Sw.lv encPt x.2]) (.cons (.int _ _) (.cons (Flat.Pts _) .nil))
theorem take_j1 (k:Nat) {H0 H:Heap} (p:Nat) (fmt:Int) (s:Value) (ps:List Pt) (hp:H0.n ≤ p) (hx:Ext H0 H) (hg:H.get p = some ⟨[.int .i64 fmt,s],1,false⟩) (hlen:ps.length < 2 ^ 31)
  (hs:s = lv encPt ps ∨ ps.length = 1 ∧ ∃ a c,s = .slice a 1 c) (hf:∃ L,fzV H0.n H 7 s = some (lv encPt ps,L)) :
  Cp failV (Ext H0) (ζ26 k (R (T k)) (.pointer (some ⟨p,0,none⟩)) H) (if risesS ps then some (fmt,ps) else none) fun x v H' => ∃ L,fzV H0.n H' fzDepth v = some (tabV x,L):=by
 have hln:∀ H',lnS s H' = .ok (.int .i64 ps.length) H':=fun H' => by
  rcases hs with rfl | ⟨h,a,c,rfl⟩
  ·rfl
  ·rw [h]; rfl
 have hfp:∃ L,fzV H0.n H fzDepth (.pointer (some ⟨p,0,none⟩)) = some (tabV (fmt,ps),L):=by
  obtain ⟨L,hL⟩:=hf;have hlt:Nat.blt p H0.n = false:=by
   cases hb:Nat.blt p H0.n with
   | false => rfl
   | true => have:=Nat.le_of_ble_eq_true hb; omega
  refine ⟨p :: ([] ++ (L ++ [])),?_⟩;show fzV H0.n H 8 _ = _;unfold fzV;dsimp only;rw [hlt,cond_false,hg];show (bif false || !Nat.ble 0 2 then none else (mapF (fzV H0.n H 7) [.int .i64 fmt,s]).map fun r => (boxV r.1.toArray,p :: r.2)) = _;rw [show (false || !Nat.ble 0 2) = false from rfl,cond_false,ζw (u:=.int .i64 fmt) (L1:=[]) rfl (ζw hL (L2:=[]) rfl)];rfl
 rw [ζi5];obtain ⟨N,hN⟩:∃ N,N = max 1 ps.length:=⟨_,rfl⟩
 rcases loop_upP (body:=ζag k (R (T k))) N
  (fun j e H' => 1 ≤ j ∧ H' = H ∧ e = [(8,.pointer (some ⟨p,0,none⟩)),(10,.int .i64 j)] ∧ ∀ (i:Nat) (x y:Pt),i + 1 < j → ps[i]? = some x → ps[i + 1]? = some y → x.last < y.first)
  (fun x e H' => H' = H ∧ x = .exit 1 ∧ (∃ a,e = [(8,.pointer (some ⟨p,0,none⟩)),(10,a),(93,.bool false)]) ∧ risesS ps = true)
  (fun v H' => v = failV ∧ H' = H ∧ risesS ps = false)
  (fun j e H' hj ⟨h1,hH,he,hall⟩ => by
   subst hH he;have hjl:j < ps.length:=by omega
   obtain ⟨y,hy⟩:∃ y,ps[j]? = some y:=⟨_,List.getElem?_eq_getElem hjl⟩
   obtain ⟨x,hx'⟩:∃ x,ps[j - 1]? = some x:=⟨_,List.getElem?_eq_getElem (by omega)⟩
   rcases hs with rfl | ⟨h,_⟩
   rotate_left
   ·omega
   have hlt:(j:Int) < ps.length:=by omega
   have i1:=fun H' => ixS_lvN ζen ps .i64 j y hy H';have i2:=fun H' => ixS_lv ζen ps .i64 ((j:Int) - 1) x (by omega) (by rw [show ((j:Int) - 1).toNat = j - 1 by omega]; exact hx') H';rw [ζaw];by_cases hxy:x.last < y.first
   ·refine .inl ⟨_,H',by simp -implicitDefEqProofs (disch:=omega) [hg,hlt,i1,i2,hxy,ζio],by omega,rfl,rfl,fun i a b hi ha hb => ?_⟩;by_cases hij:i + 1 = j
    ·subst hij;simp only [Nat.add_sub_cancel] at hx';rw [hx'] at ha; rw [hy] at hb;injection ha with ha; injection hb with hb;subst ha hb;exact hxy
    ·exact hall i a b (by omega) ha hb
   ·refine .inr (.inr ⟨failV,H',by simp -implicitDefEqProofs (disch:=omega) [hg,hlt,i1,i2,hxy,ζgf],rfl,rfl,?_⟩);cases hr:risesS ps with
    | false => rfl
    | true => exact absurd (ζjy.1 hr (j - 1) x y hx' (by rw [show j - 1 + 1 = j by omega]; exact hy)) hxy)
  (fun e H' ⟨h1,hH,he,hall⟩ => by
   subst hH he;have hge:¬ (N:Int) < ps.length:=by omega
   rw [ζaw];refine .inl ⟨.exit 1,_,H',by simp -implicitDefEqProofs (disch:=omega) [hg,hln,hge],by simp,rfl,rfl,⟨.int .i64 N,rfl⟩,?_⟩;refine ζjy.2 fun i x y hx hy => hall i x y ?_ hx hy;have:=(List.getElem?_eq_some_iff.1 hy).1;omega)
  loopFuel 1 [(8,.pointer (some ⟨p,0,none⟩)),(10,.int .i64 1)] H (by omega) (by unfold loopFuel; omega) ⟨by omega,rfl,rfl,fun i x y h => by omega⟩ with ⟨x,e',H',hr,rfl,rfl,⟨a,rfl⟩,hri⟩ | ⟨v,H',hr,rfl,rfl,hri⟩
 ·rw [hr,hri];simp only [Res.bind_ok,ζhf,if_true];exact .ok hx hfp
 ·rw [hr,hri];exact .throw hx
theorem ζo3 (k:Nat) {H:Heap} {v:Value} {b:List Int} (hv:Sl H 1 v encB b) (hb:Byt b) (g z:Int) (hg1:1 ≤ g) (hg2:g ≤ 65535) (hz:z = 2 ∨ z = 4) (hl:b.length < 2 ^ 31) :
  R (T k) F.ζ39 [.agg #[v],.int .i64 g,.int .i64 z] H = orF (lookS b g z) tabV H:=by
 rw [ζn1];have hx0:Ext H (H.push ⟨[v],1,false⟩):=(Ext.refl H).push _;have hx1:Ext H ((H.push ⟨[v],1,false⟩).push ⟨[v,.int .i64 g,.int .i64 z],1,false⟩):=hx0.push _;have hst:=hv.storable;have hce:=hv.cells;refine fz_orF ?_ fun x _ => (Flat.tab x).alive;simp -implicitDefEqProofs (disch:=omega) [ζ39,hst,hce];unfold lookS;refine Cp.call (U16_run k (hv.up hx1) hb 0 (by omega)) hx1 fun fmt hfmt => ?_;have hfmt:=uS_two hb hfmt;have hx2:Ext H (((H.push ⟨[v],1,false⟩).push ⟨[v,.int .i64 g,.int .i64 z],1,false⟩).push ⟨[.int .i64 fmt,.slice none 0 0],1,false⟩):=hx1.push _;have fin:∀ ps:List Pt,ps.length < 2 ^ 31 → Cp failV (Ext H) (ζ26 k (R (T k)) (.pointer (some ⟨H.n + 2,0,none⟩)) (((H.push ⟨[v],1,false⟩).push ⟨[v,.int .i64 g,.int .i64 z],1,false⟩).push ⟨[.int .i64 fmt,lv encPt ps],1,false⟩)) (if risesS ps then some (fmt,ps) else none) fun x v H' => ∃ L,fzV H.n H' fzDepth v = some (tabV x,L):=fun ps hps =>
  take_j1 k _ fmt _ ps (by omega) (hx1.push _) (ζe _ _ _ (by simp)) hps (.inl rfl) ⟨_,rfl⟩
 by_cases h0:fmt = 0
 ·subst h0;simp -implicitDefEqProofs (disch:=omega);unfold partsS;rw [if_pos rfl,Option.bind_map];refine Cp.call (list_run k (hv.up hx2) hb 2 g z (by omega) hl) hx2 fun vs hvs => ?_;simp -implicitDefEqProofs (disch:=omega);have hx3:Ext H ((((H.push ⟨[v],1,false⟩).push ⟨[v,.int .i64 g,.int .i64 z],1,false⟩).push ⟨[.int .i64 0,.slice (some ⟨H.n + 3,0,none⟩) 1 1],1,false⟩).push ⟨[.int .i64 0,.int .i64 (g - 1),lv encI vs],3,false⟩):=(hx1.push _).push _;refine take_j1 k (H.n + 2) 0 (.slice (some ⟨H.n + 3,0,none⟩) 1 1) [⟨0,g - 1,vs⟩] (by omega) hx3 (by rw [ζ1x _ _ _ (by simp),ζe _ _ _ (by simp)]) (by simp) (.inr ⟨rfl,_,_,rfl⟩) ?_;exact Own.freeze (l:=[⟨0,g - 1,vs⟩]) ζen (.inr ⟨H.n + 3,rfl,by omega,by rw [ζe _ _ _ (by simp)]; rfl⟩) (ζl9 _) 5
 have h0':(fmt == 0) = false:=by simpa using h0
 have segl:∀ {each ps},segS b z each = some ps → ps.length < 2 ^ 31:=fun {each ps} h => by
  obtain ⟨rows,h1,h2⟩:=Option.bind_eq_some_iff.1 h;obtain ⟨_,n,_,hn,_,hlen,_⟩:=ζ5s hb h1;have:=uS_two hb hn;have:=mapO_len h2;omega
 by_cases h2:fmt = 2
 ·subst h2;simp -implicitDefEqProofs (disch:=omega);unfold partsS;rw [if_neg h0,if_pos rfl];refine Cp.call (ζk6 k (hv.up hx2) hb (.int .i64 g) z hz false hl) hx2 fun ps hps => ?_;simp -implicitDefEqProofs (disch:=omega);exact fin ps (segl hps)
 have h2':(fmt == 2) = false:=by simpa using h2
 by_cases h4:fmt = 4
 ·subst h4;simp -implicitDefEqProofs (disch:=omega);unfold partsS;rw [if_neg h0,if_neg h2,if_pos rfl];refine Cp.call (ζk6 k (hv.up hx2) hb (.int .i64 g) z hz true hl) hx2 fun ps hps => ?_;simp -implicitDefEqProofs (disch:=omega);exact fin ps (segl hps)
 have h4':(fmt == 4) = false:=by simpa using h4
 by_cases h6:fmt = 6
 ·subst h6;simp -implicitDefEqProofs (disch:=omega);unfold partsS;rw [if_neg h0,if_neg h2,if_neg h4,if_pos rfl];refine Cp.call (ζrk k (hv.up hx2) hb (.int .i64 g) z hz hl) hx2 fun ps hps => ?_;simp -implicitDefEqProofs (disch:=omega);refine fin ps ?_;obtain ⟨rows,h1,h2⟩:=Option.bind_eq_some_iff.1 hps;obtain ⟨_,n,_,hn,_,hlen,_⟩:=ζ5s hb h1;have:=uS_two hb hn;have:=mapO_len h2;omega
 have h6':(fmt == 6) = false:=by simpa using h6
 have triml:∀ {i z ps},trimS b i z = some ps → ps.length < 2 ^ 31:=fun {i z ps} h => by
  obtain ⟨f,_,h⟩:=Option.bind_eq_some_iff.1 h;obtain ⟨n,_,h⟩:=Option.bind_eq_some_iff.1 h;split at h
  ·obtain ⟨vs,_,rfl⟩:=Option.map_eq_some_iff.1 h;split <;> simp
  ·cases h
 by_cases h8:fmt = 8
 ·subst h8;simp -implicitDefEqProofs (disch:=omega);unfold partsS;rw [if_neg h0,if_neg h2,if_neg h4,if_neg h6,if_pos rfl];refine Cp.call (ζlr k (hv.up hx2) hb (.int .i64 g) (.int .i64 z) 2 z (by omega) hl (by omega)) hx2 fun ps hps => ?_;simp -implicitDefEqProofs (disch:=omega);exact fin ps (triml hps)
 have h8':(fmt == 8) = false:=by simpa using h8
 by_cases h10:fmt = 10
 ·subst h10;simp -implicitDefEqProofs (disch:=omega);unfold partsS;rw [if_neg h0,if_neg h2,if_neg h4,if_neg h6,if_neg h8,if_pos rfl,Option.bind_assoc];refine Cp.call (U16_run k (hv.up hx2) hb 2 (by omega)) hx2 fun u hu => ?_;by_cases hu4:u = 1 ∨ u = 2 ∨ u = 4
  ·rw [if_pos hu4];have hb4:(R (T k) F.ζ2x [.bool true] (((H.push ⟨[v],1,false⟩).push ⟨[v,.int .i64 g,.int .i64 z],1,false⟩).push ⟨[.int .i64 10,.slice none 0 0],1,false⟩)) = .ok (.tuple #[]) _:=ζio k _;have ht:=fun ps hps => triml (i:=4) (z:=u) (ps:=ps) hps;rcases hu4 with rfl | rfl | rfl <;>
   ·simp -implicitDefEqProofs (disch:=omega) [hb4];refine Cp.call (ζlr k (hv.up hx2) hb (.int .i64 g) (.int .i64 z) 4 _ (by omega) hl (by omega)) hx2 fun ps hps => ?_;simp -implicitDefEqProofs (disch:=omega);exact fin ps (ht ps hps)
  ·rw [if_neg hu4];have e1:(u == 1) = false:=by simp; omega
   have e2:(u == 2) = false:=by simp; omega
   have e3:(u == 4) = false:=by simp; omega
   simp -implicitDefEqProofs (disch:=omega) [e1,e2,e3,ζgf];exact .throw hx2
 have h10':(fmt == 10) = false:=by simpa using h10
 simp -implicitDefEqProofs (disch:=omega) [h0',h2',h4',h6',h8',h10'];unfold partsS;rw [if_neg h0,if_neg h2,if_neg h4,if_neg h6,if_neg h8,if_neg h10];exact .throw hx2
end Go.Sw
end
section
namespace Go.Sw
open Go.RowKit
theorem tryV_np {short:TypeId} {call:Caller} {args:List Value} {H:Heap} {v:Value} {H':Heap}:tryV short call args H ≠ .panic v H':=by
 unfold tryV;split
 ·rename_i g f c;cases call g (f.toList ++ c.toList) H with
  | stuck => simp [Res.bindP]
  | ok a H => simp [Res.bindP]
  | panic a H =>
   simp only [Res.bindP];split
   ·rename_i t xs;cases Nat.beq t short && Nat.beq xs.size 0 <;> simp
   ·simp
 ·simp
theorem Try_R (k:Nat) (f:Value) (H:Heap):R (T k) F.view_Try [f] H = tryV shortT (R (T k)) [f] H :=
 ((R_sp (t:=T k) (T_scott k) (s:=tryV shortT) (by kernel_rfl) [f] H).trans (by
  show nrm Mode.no H _ = _;cases h:tryV shortT (R (T k)) [f] H with
  | ok a H => rfl
  | stuck => rfl
  | panic a H => exact absurd h tryV_np))
theorem Try_ok (k:Nat) (g:FuncId) (cap:Array Value) {H H':Heap} {v:Value} (h:R (T k) g cap.toList H = .ok v H'):R (T k) F.view_Try [.func (.func g) #[] cap] H = .ok (.bool true) H':=by
 rw [Try_R];unfold tryV;simp [h,Res.bindP]
theorem Try_no (k:Nat) (g:FuncId) (cap:Array Value) {H H':Heap} (h:R (T k) g cap.toList H = .panic failV H'):R (T k) F.view_Try [.func (.func g) #[] cap] H = .ok (.bool false) H':=by
 rw [Try_R];unfold tryV;simp [h,Res.bindP]
end Go.Sw
end
section
namespace Go.Sw
open Go.RowKit
theorem at_run (k:Nat) (p:Pt) (hp:p.ok) (id:Int) (hf:p.first ≤ id) (hi:id ≤ p.last) (H:Heap):R (T k) F.ζ47 [.agg #[.int .i64 p.first,.int .i64 p.last,lv encI p.vals],.int .i64 id] H = .ok (.int .i64 ((p.num id).getD 0)) H:=by
 rw [ζjo];obtain ⟨x,hx,_⟩:=Pt.num_some hp hf;obtain ⟨h1,h2,h3,h4,h5,h6⟩:=hp;have hl:0 < p.vals.length:=List.length_pos_iff.2 h4;refine nrm_gc ⟨_,?_,(Ext.refl H).push ⟨[.int .i64 p.first,.int .i64 p.last,lv encI p.vals],1,false⟩⟩ (.int _ _);unfold Pt.num at hx ⊢;obtain ⟨m,hm⟩:∃ m:Int,m = (if (p.vals.length:Int) - 1 < id - p.first then (p.vals.length:Int) - 1 else id - p.first):=⟨_,rfl⟩
 have hm2:min (id - p.first) ((p.vals.length:Int) - 1) = m:=by rw [hm]; split <;> omega
 rw [hm2] at hx ⊢;have hm0:0 ≤ m:=by rw [hm]; split <;> omega
 have hix:=fun H' => ixS_lv encI_len p.vals .i64 m x hm0 hx H';simp only [hx,Option.getD_some];simp -implicitDefEqProofs (disch:=omega) [ζ47,← hm,hix]
theorem ζpe (k:Nat) {H:Heap} (x:Int × List Pt) (id:Int) (p1 p2:Nat) (h1:H.get p1 = some ⟨[tabV x],1,false⟩) (h2:H.get p2 = some ⟨[.int .i64 id],1,false⟩) (j:Nat) (p:Pt) (hj:x.2[j]? = some p) :
  R (T k) F.ζ1w [.int .i64 j,.pointer (some ⟨p1,0,none⟩),.pointer (some ⟨p2,0,none⟩)] H = .ok (.bool (decide (id ≤ p.last))) H:=by
 rw [ζbh];refine nrm_gc (Pure.of ?_) (.bool _);have i1:=fun H' => ixS_lvN ζen x.2 .i64 j p hj H';simp -implicitDefEqProofs (disch:=omega) [ζ1w,h1,h2,i1]
theorem Get_run (k:Nat) (x:Int × List Pt) (hok:∀ p,p ∈ x.2 → p.ok) (hr:risesS x.2 = true) (id:Int) (hl:x.2.length < 2 ^ 31) (H:Heap) :
  R (T k) F.ζ2b [tabV x,.int .i64 id] H = .ok (.tuple #[.int .i64 ((getS x.2 id).getD 0),.bool (getS x.2 id).isSome]) H:=by
 rw [ζhe];obtain ⟨fmt,ps⟩:=x;dsimp only at hok hr hl ⊢;have hx:Ext H ((H.push ⟨[tabV (fmt,ps)],1,false⟩).push ⟨[.int .i64 id],1,false⟩):=((Ext.refl H).push _).push _;have hmono:∀ i j:Nat,i ≤ j → j < ps.length → (ps[i]?).elim false (fun p => decide (id ≤ p.last)) = true → (ps[j]?).elim false (fun p => decide (id ≤ p.last)) = true:=by
  intro i j hij hj hi;by_cases he:i = j
  ·subst he; exact hi
  ·obtain ⟨p,hp⟩:∃ p,ps[i]? = some p:=⟨_,List.getElem?_eq_getElem (by omega)⟩
   obtain ⟨q,hq⟩:∃ q,ps[j]? = some q:=⟨_,List.getElem?_eq_getElem hj⟩
   have h1:=ζgv hr hok i j p q (by omega) hp hq;have h2:=(hok q (List.mem_of_getElem? hq)).2.1;rw [hp] at hi;rw [hq];simp at hi ⊢;omega
 obtain ⟨i,hfi⟩:=ζr1 ps.length (fun j => (ps[j]?).elim false fun p => decide (id ≤ p.last)) hmono
 have hfirst:=ζrw k ps.length (.func (.func F.ζ1w) #[] #[.pointer (some ⟨H.n,0,none⟩),.pointer (some ⟨H.n + 1,0,none⟩)]) (fun j => (ps[j]?).elim false fun p => decide (id ≤ p.last)) ((H.push ⟨[tabV (fmt,ps)],1,false⟩).push ⟨[.int .i64 id],1,false⟩) (by omega)
  (fun j hj => by
   obtain ⟨p,hp⟩:∃ p,ps[j]? = some p:=⟨_,List.getElem?_eq_getElem hj⟩
   have:=ζpe k (H:=(H.push ⟨[tabV (fmt,ps)],1,false⟩).push ⟨[.int .i64 id],1,false⟩) (fmt,ps) id H.n (H.n + 1) (by simp) (by simp) j p hp;simp only [callV,List.nil_append,List.cons_append];rw [hp];simpa using this)
  hmono i hfi
 rw [ζqy id i hfi];have hle:=hfi.1;by_cases hil:i < ps.length
 ·obtain ⟨p,hp⟩:∃ p,ps[i]? = some p:=⟨_,List.getElem?_eq_getElem hil⟩
  have hpok:=hok p (List.mem_of_getElem? hp);have hne:((i:Int) == (ps.length:Int)) = false:=by simp; omega
  have i1:=fun H' => ixS_lvN ζen ps .i64 i p hp H';have hlast:id ≤ p.last:=by
   have:=hfi.2.2 i (Nat.le_refl _) hil;simp only [hp] at this;simpa using this
  rw [hp];by_cases hf:p.first ≤ id
  ·have hgt:¬ p.first > id:=by omega
   obtain ⟨y,hy,_⟩:=Pt.num_some hpok hf;have hat:=at_run k p hpok id hf hlast ((H.push ⟨[tabV (fmt,ps)],1,false⟩).push ⟨[.int .i64 id],1,false⟩);refine nrm_gc ⟨_,?_,hx⟩ (Flat.tupleL (l:=[_,_]) (.cons (.int _ _) (.cons (.bool _) .nil))).alive;simp only [Option.bind_some,if_pos hf];rw [hy] at hat ⊢;simp -implicitDefEqProofs (disch:=omega) [ζ2b,hfirst,hne,i1,hgt,hat]
  ·have hgt:p.first > id:=by omega
   refine nrm_gc ⟨_,?_,hx⟩ (Flat.tupleL (l:=[_,_]) (.cons (.int _ _) (.cons (.bool _) .nil))).alive;simp only [Option.bind_some,if_neg hf];simp -implicitDefEqProofs (disch:=omega) [ζ2b,hfirst,hne,i1,hgt]
 ·have e:i = ps.length:=by omega
  subst e;refine nrm_gc ⟨_,?_,hx⟩ (Flat.tupleL (l:=[_,_]) (.cons (.int _ _) (.cons (.bool _) .nil))).alive;simp -implicitDefEqProofs (disch:=omega) [ζ2b,hfirst]
end Go.Sw
end
section
namespace Go.Sw
open Go.RowKit
theorem iv1_get {len:Nat} {cs:Array Value} {k:IntKind} {j:Nat} {v:Value} (hj:j < len) (h:cs[j]? = some v) (H:Heap):iv1 len 1 (.agg cs) (.int k (j:Nat)) H = .ok v H:=by
 unfold iv1;dsimp only;rw [if_pos ⟨by omega,by omega⟩,Int.toNat_natCast,Nat.mul_one,h];rfl
section
variable {α:Type} {enc:α → List Value}
theorem Star.stRow {H0 H:Heap} {L:List It} (h:Star H0 H L) (i:Nat) {b m:Nat} {s:Value} {l:List α} (hi:L[i]? = some (itRow (some b) m s enc l)) (he:∀ x,(enc x).length = m) {j c n:Nat} {x:α} (y:α) {v:Value} (hx:l[j]? = some x)
  (hn:v.cells.size = n) (hs:storable v = true) (hc:c + n ≤ m) (hy:enc y = splice (enc x) c v.cells.toList) :
  ∃ H',stR n (.pointer (some ⟨b,j * m + c,none⟩)) v H = .ok undef H' ∧ Star H0 H' (L.set i (itRow (some b) m s enc (l.set j y))) ∧ H'.n = H.n:=by
 rcases h.row i hi with ⟨h0,_⟩ | ⟨b',h0,h1,h2⟩
 ·cases h0
 ·injection h0 with h0;subst h0;obtain ⟨H',e1,e2,e3,e4⟩:=st_row he h2 y hx hn hs hc hy;exact ⟨H',e1,h.step i hi (by omega) (fun d _ hd => e3 d fun e => hd (show d ∈ [b] from List.mem_singleton.2 e)) _ (.inr ⟨b,rfl,by rw [List.length_set]; exact h1,e2⟩) fun b hb => .inl hb,e4⟩
theorem Star.stBox {H0 H:Heap} {L:List It} (h:Star H0 H L) (i:Nat) {p b m:Nat} {pre:List Value} {l:List α} (hi:L[i]? = some (itBox p pre (some b) m enc l)) (he:∀ x,(enc x).length = m) {j c n:Nat} {x:α} (y:α) {v:Value} (hx:l[j]? = some x)
  (hn:v.cells.size = n) (hs:storable v = true) (hc:c + n ≤ m) (hy:enc y = splice (enc x) c v.cells.toList) :
  ∃ H',stR n (.pointer (some ⟨b,j * m + c,none⟩)) v H = .ok undef H' ∧ Star H0 H' (L.set i (itBox p pre (some b) m enc (l.set j y))) ∧ H'.n = H.n:=by
 obtain ⟨hne,s,g1,g2⟩:=h.box i hi;rcases g2 with ⟨h0,_⟩ | ⟨b',h0,h1,h2⟩
 ·cases h0
 ·injection h0 with h0;subst h0;obtain ⟨H',e1,e2,e3,e4⟩:=st_row he h2 y hx hn hs hc hy;refine ⟨H',e1,h.step i hi (by omega) (fun d _ hd => e3 d fun e => hd (show d ∈ [p,b] from by rw [e]; simp)) _ ⟨hne,s,?_,.inr ⟨b,rfl,by rw [List.length_set]; exact h1,e2⟩⟩ (fun b hb => .inl hb),e4⟩;rw [e3 p fun e => hne (by rw [e])];exact g1
theorem Star.ix {H0 H:Heap} {L:List It} (h:Star H0 H L) (i:Nat) {o:Option Nat} {m:Nat} {s:Value} {l:List α} (hi:L[i]? = some (itRow o m s enc l)) (k:IntKind) (j:Nat) (hj:j < l.length) :
  ∃ b,o = some b ∧ H.get b = some ⟨rows enc l,m,false⟩ ∧ ∀ H',ixS m s (.int k j) H' = .ok (.pointer (some ⟨b,j * m,none⟩)) H':=by
 obtain ⟨b,h1,_,h3,h4⟩:=(h.row i hi).ix k j hj;exact ⟨b,h1,h3,h4⟩
end
section
variable {α:Type} {enc:α → List Value}
theorem Sl.lenL {H:Heap} {m:Nat} {v:Value} {l:List α} (h:Sl H m v enc l):Go.Sw.lenL v = some l.length:=by
 rcases h with rfl | ⟨rfl,rfl | rfl | rfl⟩ | ⟨b,off,cap,k,rfl,_⟩ <;> rfl
theorem Sl.first {H:Heap} {m:Nat} {v:Value} {l:List α} (he:∀ x,(enc x).length = m) (h:Sl H m v enc l):firstV m l.length v H = some (rows enc l):=by
 rcases h with rfl | ⟨rfl,rfl | rfl | rfl⟩ | ⟨b,off,cap,k,rfl,hc,hk,hr⟩
 ·exact lv_first he l H
 ·rfl
 ·rfl
 ·rfl
 ·unfold firstV;dsimp only;have hl:=ζk he l;split
  ·rename_i h0;rw [List.length_eq_zero_iff.1 (hl.trans h0)]
  ·rename_i h0;rw [ζ9d,hk,Option.bind_some,hr,if_pos];have:=congrArg List.length hr;rw [hl] at this;simp at this;omega
theorem Sl.rd {H:Heap} {m:Nat} (hm:0 < m) {v:Value} {l:List α} (he:∀ x,(enc x).length = m) (h:Sl H m v enc l):Rd H m v enc l:=by
 have hlen:=h.len;rcases h with rfl | ⟨rfl,_⟩ | ⟨b,off,cap,k,rfl,hc,hk,hr⟩
 ·exact Rd.lv he H l
 ·exact ⟨hlen,fun i x hx => by simp at hx⟩
 ·refine ⟨hlen,fun i x hx => ?_⟩;have hi:=(List.getElem?_eq_some_iff.1 hx).1;refine ⟨.pointer (some ⟨b,off + i * m,none⟩),fun k H' => ζis m b off l.length cap k i H' hi,?_⟩;have hl:=ζk he l;have hle:i * m + m ≤ l.length * m:=by rw [← Nat.succ_mul]; exact Nat.mul_le_mul_right _ hi
  have hkl:=congrArg List.length hr;rw [hl] at hkl;have hpos:0 < l.length * m:=Nat.mul_pos (by omega) hm;rw [List.length_take,List.length_drop] at hkl;have hfit:off + i * m + m ≤ k.cells.length:=by omega
  simp only [ldA_ptr,hk,Option.bind_some];rw [if_pos hfit];have:=rows_at he l i x hx;rw [← hr,List.drop_take,List.take_take,List.drop_drop] at this;rw [show min m (l.length * m - i * m) = m by omega] at this;rw [this];rfl
theorem clone_sl {m bytes:Nat} (he:∀ x,(enc x).length = m) {H:Heap} {v:Value} {l:List α} (h:Sl H m v enc l) (h31:l.length ≤ 2 ^ 31) (hby:bytes ≤ 2 ^ 10) :
  ∃ s' H',cloneV m bytes [v] H = .ok s' H' ∧ Own H H' m s' enc l ∧ Ext H H':=by
 unfold cloneV;dsimp only;rw [h.lenL];cases hl:l.length with
 | zero =>
  have:=List.length_eq_zero_iff.1 hl;subst this;exact ⟨_,_,rfl,.inl ⟨rfl,.inr (.inr rfl)⟩,Ext.refl H⟩
 | succ n =>
  obtain ⟨s',H',h1,h2,h3,_⟩:=apR_own (bytes:=bytes) he (Own.bare H H m) (Ext.refl H) (b:=v) (l2:=l) (ζit h.lenL) (h.first he) (by simp; omega) hby;exact ⟨s',H',h1,by simpa using h2,h3⟩
theorem Star.more_own {H0 H H':Heap} {L:List It} (h:Star H0 H L) {m:Nat} {s:Value} {l:List α} (ho:Own H H' m s enc l) (he:Ext H H'):∃ o,Star H0 H' (L ++ [itRow o m s enc l]):=by
 obtain ⟨o,h1,h2⟩:=ho.toO;exact ⟨o,h.more_row he h1 fun b hb => ⟨h2 b hb,h1.lt b hb⟩⟩
end
theorem at2_0 (L:List It) (a b:It):(L ++ [a,b])[L.length]? = some a:=by simp
theorem at2_1 (L:List It) (a b:It):(L ++ [a,b])[L.length + 1]? = some b:=by rw [List.getElem?_append_right (by omega)]; simp
theorem set2_0 (L:List It) (a b x:It):(L ++ [a,b]).set L.length x = L ++ [x,b]:=by rw [List.set_append_right _ _ (by omega)]; simp
theorem set2_1 (L:List It) (a b x:It):(L ++ [a,b]).set (L.length + 1) x = L ++ [a,x]:=by rw [List.set_append_right _ _ (by omega)]; simp
theorem ζ1v {α:Type} {l:List α} {j:Nat} {p:α} (h:l[j]? = some p):l.take (j + 1) = l.take j ++ [p]:=by
 rw [List.take_add_one,h]; rfl
theorem nrm_of {H H':Heap} {r:Res Value} {v:Value} (h:r = .ok v H'):nrm .no H r = .ok v H':=by rw [h]; rfl
theorem Star.join2 {α:Type} {enc:α → List Value} {H0 H:Heap} {L:List It} {o:Option Nat} {m c:Nat} {s:Value} {l:List α} (pre:List Value) (h:Star H0 H (L ++ [itRow o m s enc l,itBlk c ⟨pre ++ [s],1,false⟩])):Star H0 H (L ++ [itBox c pre o m enc l]):=by
 have g:=h.join L.length (L.length + 1) (L.length + 1) (by omega) (by omega) (at2_0 _ _ _) (at2_1 _ _ _);rw [show L ++ [itRow o m s enc l,itBlk c ⟨pre ++ [s],1,false⟩] = (L ++ [itRow o m s enc l]) ++ [itBlk c ⟨pre ++ [s],1,false⟩] by simp,List.take_left' (by simp),ζrj] at g;exact g
theorem fz_box {n0:Nat} {H:Heap} {d c e:Nat} {cells r:List Value} {L:List Nat} (hn:n0 ≤ c) (hc:H.get c = some ⟨cells,e,false⟩) (h:mapF (fzV n0 H d) cells = some (r,L)):fzV n0 H (d + 1) (.pointer (some ⟨c,0,none⟩)) = some (boxV r.toArray,c :: L):=by
 have h1:Nat.blt c n0 = false:=by
  cases hb:Nat.blt c n0 with
  | false => rfl
  | true => exact absurd (Nat.le_of_ble_eq_true hb) (by omega)
 simp only [fzV,h1,cond_false,hc,List.drop_zero,h];rfl
theorem mapF_one {f:Value → Option (Value × List Nat)} {v u:Value} {L:List Nat} (h:f v = some (u,L)):mapF f [v] = some ([u],L):=by
 have:=ζw (f:=f) h mapF_nil;simpa using this
end Go.Sw
end
