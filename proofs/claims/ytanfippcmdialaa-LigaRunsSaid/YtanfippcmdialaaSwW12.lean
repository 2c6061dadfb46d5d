/-
  Functions' forms, and what is proved of them, part 12.
-/
import Derived.Test.YtanfippcmdialaaSwCfg
set_option linter.unusedSimpArgs false
set_option linter.unusedVariables false
set_option linter.unusedSectionVars false
section
set_option maxRecDepth 100000
set_option linter.unusedVariables false
namespace Go.Sw
noncomputable section
def ζ49 (k:Nat) (call:Caller):Env → Heap → Res (AExit × Env):=loopB (C k) call F.ζ9 [1,1,1,1,0,1,0,0]
def ζ5o (k:Nat) (call:Caller):Kont Value:=kBlock 0 (kSeq (pieceK (C k) call F.ζ9 [1,1,1,1,1]) (kDone Prog (resOf Prog F.ζ9)))
def ζ2o (k:Nat) (call:Caller):Env → Heap → Res (AExit × Env):=loopB (C k) call F.ζ9 [1,1,1,1,1,1,1,1,1,0,1,0,0]
def ζ3x (k:Nat) (call:Caller):Kont Value:=kBlock 2 (kSeq (pieceK (C k) call F.ζ9 [1,1,1,1,1,1,1,1,1,1]) (kDone Prog (resOf Prog F.ζ9)))
def ζa6 (k:Nat) (call:Caller) (a4 a6 a8 a13 a14 a75:Value) (h:Heap):Res (AExit × Env) :=
 kSeq (pieceK (C k) call F.ζ9 [1,1,1,1,1,1,1,1,1,0,1,0,0,1,1]) (kRound (ownOf (C k) F.ζ9 [1,1,1,1,1,1,1,1,1,0,1,0,0])) .normal [(4,a4),(6,a6),(8,a8),(13,a13),(14,a14),(75,a75)] h
def ζ3f (k:Nat) (call:Caller):Env → Heap → Res (AExit × Env):=loopB (C k) call F.ζ9 [1,1,1,1,1,1,1,1,1,0,1,0,0,1,0,0,1,1,1,0,0]
def ζ5p (k:Nat) (call:Caller):Kont (AExit × Env):=kBlock 4 (kBlock 3 (kSeq (pieceK (C k) call F.ζ9 [1,1,1,1,1,1,1,1,1,0,1,0,0,1,1]) (kRound (ownOf (C k) F.ζ9 [1,1,1,1,1,1,1,1,1,0,1,0,0]))))
def ζa7 (k:Nat) (call:Caller) (a4 a6 a8 a13 a15 a84:Value) (h:Heap):Res (AExit × Env) :=
 kSeq (pieceK (C k) call F.ζ9 [1,1,1,1,1,1,1,1,1,0,1,0,0,1,1]) (kRound (ownOf (C k) F.ζ9 [1,1,1,1,1,1,1,1,1,0,1,0,0])) .normal [(4,a4),(6,a6),(8,a8),(13,a13),(15,a15),(84,a84)] h
def ζ9 (k:Nat) (call:Caller) (a0 a1:Value) (h:Heap):Res Value :=
 (allocR Prog 117 h).bind fun v1 h2 =>
 (call F.ζ5 [a0,a1,(.int .i64 1)] h2).bind fun v3 h4 =>
 (extractR v3 0 h4).bind fun v5 h6 =>
 (extractR v3 1 h6).bind fun v7 h8 =>
 (allocR Prog 115 h8).bind fun v9 h10 =>
 (storeR Prog 115 v9 v5 h10).bind fun _v11 h12 =>
 (loadR Prog 115 v9 h12).bind fun v13 h14 =>
 (buildR Prog 117 [(0,v13)] h14).bind fun v15 h16 =>
 (allocR Prog 117 h16).bind fun v17 h18 =>
 (storeR Prog 117 v17 v15 h18).bind fun _v19 h20 =>
 (buildSliceR Prog 101 0 [] h20).bind fun v21 h22 =>
 (loopN (ζ49 k call) loopFuel [(0,a0),(4,v1),(6,v9),(7,v7),(8,v17),(9,v21),(10,(.int .i64 0))] h22).bind fun r23 h24 =>
 ζ5o k call r23.1 r23.2 h24
theorem ζik (k:Nat) (a0 a1:Value) (b0 b1:Value) (h:Heap) (L:List Nat) (hf:mapF (fzV 0 h fzDepth) [a0,a1] = some ([b0,b1],L)) (hp:L.isEmpty = true):R (T k) F.ζ9 [a0,a1] h = nrm .fz (killAll h L) (ζ9 k (R (T k)) b0 b1 (killAll h L)) :=
 (R_bodyA (t:=T k) (T_scott k) (by kernel_rfl) (by kernel_rfl) hf (by rw [hp]; kernel_rfl)).trans (by kernel_rfl)
theorem ζij (k:Nat) (a0 a1:Value) (b0 b1:Value) (h:Heap) (L:List Nat) (hf:mapF (fzV 0 h fzDepth) [a0,a1] = some ([b0,b1],L)) (hp:L.isEmpty = false):R (T k) F.ζ9 [a0,a1] h = peekD h (nrm .fz (allDead h) (ζ9 k (R (T k)) b0 b1 (allDead h))) :=
 (R_bodyP (t:=T k) (T_scott k) (by kernel_rfl) (by kernel_rfl) hf (by rw [hp]; kernel_rfl)).trans (by kernel_rfl)
theorem ζ4g (k:Nat) (call:Caller) (a0 a4 a6 a7 a8 a9 a10:Value) (h:Heap):ζ49 k call [(0,a0),(4,a4),(6,a6),(7,a7),(8,a8),(9,a9),(10,a10)] h =
 (binR Prog .lss 3 a10 (.int .i64 3) h).bind fun v25 h26 =>
 ((bif wantVal v25 true then Res.ok a7 h26 else Res.ok undef h26)).bind fun v27 h28 =>
 (condV (some v25) (Res.ok v27 h28) (Res.ok (.bool false) h28)).bind fun v29 h30 =>
 condV (some v29) (
 (binR Prog .mul 3 (.int .i64 4) a10 h30).bind fun v31 h32 =>
 (binR Prog .add 3 (.int .i64 16) v31 h32).bind fun v33 h34 =>
 (call F.ζ2 [a0,v33,(.int .i64 4)] h34).bind fun v35 h36 =>
 (call F.ζ2k [a0,v35] h36).bind fun v37 h38 =>
 (extractR v37 0 h38).bind fun v39 h40 =>
 (extractR v37 1 h40).bind fun v41 h42 =>
 (buildSliceR Prog 101 1 [(0,v39)] h42).bind fun v43 h44 =>
 (builtinV Prog .append [101,101] [a9,v43] h44).bind fun v45 h46 =>
 (binR Prog .add 3 a10 (.int .i64 1) h46).bind fun v47 h48 =>
 .ok (.normal,[(0,a0),(4,a4),(6,a6),(7,v41),(8,a8),(9,v45),(10,v47)]) h48)
 (
 .ok ((.exit 0),[(0,a0),(4,a4),(6,a6),(7,a7),(8,a8),(9,a9),(10,a10),(29,v29)]) h30) :=
 (loopB_eq _ _).trans (by kernel_rfl)
theorem ζ71 (k:Nat) (call:Caller) (a0 a4 a6 a7 a8 a9 a10 a29:Value) (h:Heap):ζ5o k call (.exit 0) [(0,a0),(4,a4),(6,a6),(7,a7),(8,a8),(9,a9),(10,a10),(29,a29)] h =
 (unR .not a7 h).bind fun v49 h50 =>
 condV (some v49) (
 (buildR Prog 117 [] h50).bind fun v51 h52 =>
 (storeR Prog 117 a4 v51 h52).bind fun _v53 h54 =>
 (loadR Prog 117 a4 h54).bind fun v55 h56 =>
 .ok (.tuple #[v55,(.bool false)]) h56)
 (
 (indexAddrR Prog 101 a9 (.int .i64 0) h50).bind fun v57 h58 =>
 (loadR Prog 31 v57 h58).bind fun v59 h60 =>
 (fieldAddrR Prog 117 a8 1 h60).bind fun v61 h62 =>
 (storeR Prog 31 v61 v59 h62).bind fun _v63 h64 =>
 (indexAddrR Prog 101 a9 (.int .i64 1) h64).bind fun v65 h66 =>
 (loadR Prog 31 v65 h66).bind fun v67 h68 =>
 (fieldAddrR Prog 117 a8 2 h68).bind fun v69 h70 =>
 (storeR Prog 31 v69 v67 h70).bind fun _v71 h72 =>
 (indexAddrR Prog 101 a9 (.int .i64 2) h72).bind fun v73 h74 =>
 (loadR Prog 31 v73 h74).bind fun v75 h76 =>
 (fieldAddrR Prog 117 a8 3 h76).bind fun v77 h78 =>
 (storeR Prog 31 v77 v75 h78).bind fun _v79 h80 =>
 (loopN (ζ2o k call) loopFuel [(4,a4),(6,a6),(8,a8),(13,(.int .i64 0))] h80).bind fun r81 h82 =>
 ζ3x k call r81.1 r81.2 h82):=by kernel_rfl
theorem ζ34 (k:Nat) (call:Caller) (a4 a6 a8 a13:Value) (h:Heap):ζ2o k call [(4,a4),(6,a6),(8,a8),(13,a13)] h =
 (fieldAddrR Prog 115 a6 5 h).bind fun v83 h84 =>
 (loadR Prog 3 v83 h84).bind fun v85 h86 =>
 (binR Prog .lss 3 a13 v85 h86).bind fun v87 h88 =>
 condV (some v87) (
 (loadR Prog 115 a6 h88).bind fun v89 h90 =>
 (call F.ζi [v89,a13] h90).bind fun v91 h92 =>
 (allocR Prog 130 h92).bind fun v93 h94 =>
 (storeR Prog 130 v93 v91 h94).bind fun _v95 h96 =>
 (fieldAddrR Prog 130 v93 1 h96).bind fun v97 h98 =>
 (loadR Prog 3 v97 h98).bind fun v99 h100 =>
 (binR Prog .quo 3 v99 (.int .i64 8192) h100).bind fun v101 h102 =>
 (binR Prog .rem 3 v101 (.int .i64 2) h102).bind fun v103 h104 =>
 (binR Prog .eql 3 v103 (.int .i64 0) h104).bind fun v105 h106 =>
 condV (some v105) (
 ζa6 k call a4 a6 a8 a13 v93 v105 h106)
 (
 (fieldAddrR Prog 130 v93 2 h106).bind fun v107 h108 =>
 (loadR Prog 3 v107 h108).bind fun v109 h110 =>
 (loopN (ζ3f k call) loopFuel [(4,a4),(6,a6),(8,a8),(13,a13),(15,v109)] h110).bind fun r111 h112 =>
 ζ5p k call r111.1 r111.2 h112))
 (
 .ok ((.exit 2),[(4,a4),(6,a6),(8,a8),(13,a13),(65,v87)]) h88) :=
 (loopB_eq _ _).trans (by kernel_rfl)
theorem ζfd (k:Nat) (call:Caller) (a4 a6 a8 a13 a14 a75:Value) (h:Heap):ζa6 k call a4 a6 a8 a13 a14 a75 h =
 (binR Prog .add 3 a13 (.int .i64 1) h).bind fun v113 h114 =>
 .ok (.normal,[(4,a4),(6,a6),(8,a8),(13,v113)]) h114:=by kernel_rfl
theorem ζ35 (k:Nat) (call:Caller) (a4 a6 a8 a13 a15:Value) (h:Heap):ζ3f k call [(4,a4),(6,a6),(8,a8),(13,a13),(15,a15)] h =
 (fieldAddrR Prog 117 a8 1 h).bind fun v115 h116 =>
 (loadR Prog 31 v115 h116).bind fun v117 h118 =>
 (binR Prog .mul 3 (.int .i64 4) a15 h118).bind fun v119 h120 =>
 (call F.ζ2 [v117,v119,(.int .i64 4)] h120).bind fun v121 h122 =>
 (call F.ζ1h [v121] h122).bind fun v123 h124 =>
 (unR .not v123 h124).bind fun v125 h126 =>
 condV (some v125) (
 (fieldAddrR Prog 117 a8 1 h126).bind fun v127 h128 =>
 (loadR Prog 31 v127 h128).bind fun v129 h130 =>
 (binR Prog .mul 3 (.int .i64 4) a15 h130).bind fun v131 h132 =>
 (call F.ζ2 [v129,v131,(.int .i64 4)] h132).bind fun v133 h134 =>
 (binR Prog .lss 3 v133 (.int .i64 0) h134).bind fun v135 h136 =>
 condV (some v135) (
 (buildR Prog 117 [] h136).bind fun v137 h138 =>
 (storeR Prog 117 a4 v137 h138).bind fun _v139 h140 =>
 .ok (.ret,[(4,a4),(5,(.bool false))]) h140)
 (
 (binR Prog .add 3 a15 (.int .i64 1) h136).bind fun v141 h142 =>
 .ok (.normal,[(4,a4),(6,a6),(8,a8),(13,a13),(15,v141)]) h142))
 (
 .ok ((.exit 4),[(4,a4),(6,a6),(8,a8),(13,a13),(15,a15),(84,v125)]) h126) :=
 (loopB_eq _ _).trans (by kernel_rfl)
theorem ζbz (k:Nat) (call:Caller) (a4 a6 a8 a13 a65:Value) (h:Heap):ζ3x k call (.exit 2) [(4,a4),(6,a6),(8,a8),(13,a13),(65,a65)] h =
 (loadR Prog 117 a8 h).bind fun v143 h144 =>
 (storeR Prog 117 a4 v143 h144).bind fun _v145 h146 =>
 (loadR Prog 117 a4 h146).bind fun v147 h148 =>
 .ok (.tuple #[v147,(.bool true)]) h148:=by kernel_rfl
theorem ζfg (k:Nat) (call:Caller) (a4 a5:Value) (h:Heap):ζ5p k call .ret [(4,a4),(5,a5)] h =
 .ok (.ret,[(4,a4),(5,a5)]) h:=by kernel_rfl
theorem ζc0 (k:Nat) (call:Caller) (a4 a6 a8 a13 a15 a84:Value) (h:Heap):ζ5p k call (.exit 4) [(4,a4),(6,a6),(8,a8),(13,a13),(15,a15),(84,a84)] h =
 ζa7 k call a4 a6 a8 a13 a15 a84 h:=by kernel_rfl
theorem ζfe (k:Nat) (call:Caller) (a4 a6 a8 a13 a15 a84:Value) (h:Heap):ζa7 k call a4 a6 a8 a13 a15 a84 h =
 (binR Prog .add 3 a13 (.int .i64 1) h).bind fun v149 h150 =>
 .ok (.normal,[(4,a4),(6,a6),(8,a8),(13,v149)]) h150:=by kernel_rfl
theorem ζff (k:Nat) (call:Caller) (a4 a5:Value) (h:Heap):ζ3x k call .ret [(4,a4),(5,a5)] h =
 (loadR Prog 117 a4 h).bind fun v151 h152 =>
 .ok (.tuple #[v151,a5]) h152:=by kernel_rfl
def ζ7a (k:Nat) (call:Caller):Env → Heap → Res (AExit × Env):=loopB (C k) call F.ζs [1,1,1,0,0,0]
def ζa8 (k:Nat) (call:Caller):Kont Value:=kBlock 0 (kSeq (pieceK (C k) call F.ζs [1,1,1,1]) (kDone Prog (resOf Prog F.ζs)))
def ζ76 (k:Nat) (call:Caller) (a2 a6 a7 a8:Value) (h:Heap):Res (AExit × Env) :=
 kSeq (pieceK (C k) call F.ζs [1,1,1,0,0,0,1,0,1,1]) (kBlock 1 (kRound (ownOf (C k) F.ζs [1,1,1,0,0,0]))) .normal [(2,a2),(6,a6),(7,a7),(8,a8)] h
def ζ77 (k:Nat) (call:Caller) (a2 a6 a7 a8 a37:Value) (h:Heap):Res (AExit × Env) :=
 kSeq (pieceK (C k) call F.ζs [1,1,1,0,0,0,1,0,1,1]) (kBlock 1 (kRound (ownOf (C k) F.ζs [1,1,1,0,0,0]))) .normal [(2,a2),(6,a6),(7,a7),(8,a8),(37,a37)] h
def ζ78 (k:Nat) (call:Caller) (a2 a6 a7 a8:Value) (h:Heap):Res (AExit × Env) :=
 kSeq (pieceK (C k) call F.ζs [1,1,1,0,0,0,1,0,1,1,1]) (kBlock 1 (kRound (ownOf (C k) F.ζs [1,1,1,0,0,0]))) .normal [(2,a2),(6,a6),(7,a7),(8,a8)] h
def ζ79 (k:Nat) (call:Caller) (a2 a6 a7 a8 a46:Value) (h:Heap):Res (AExit × Env) :=
 kSeq (pieceK (C k) call F.ζs [1,1,1,0,0,0,1,0,1,1,1]) (kBlock 1 (kRound (ownOf (C k) F.ζs [1,1,1,0,0,0]))) .normal [(2,a2),(6,a6),(7,a7),(8,a8),(46,a46)] h
def ζs (k:Nat) (call:Caller) (a0 a1:Value) (h:Heap):Res Value :=
 (boxR a0 h).bind fun v1 h2 =>
 (builtinV Prog .len [22] [a1] h2).bind fun v3 h4 =>
 (call F.ζ3e [v3] h4).bind fun v5 h6 =>
 (allocR Prog 232 h6).bind fun v7 h8 =>
 (storeR Prog 232 v7 v5 h8).bind fun _v9 h10 =>
 (buildR Prog 235 [(0,a1)] h10).bind fun v11 h12 =>
 (allocR Prog 235 h12).bind fun v13 h14 =>
 (storeR Prog 235 v13 v11 h14).bind fun _v15 h16 =>
 (loopN (ζ7a k call) loopFuel [(2,v1),(6,v7),(7,v13)] h16).bind fun r17 h18 =>
 ζa8 k call r17.1 r17.2 h18
theorem ζke (k:Nat) (a0 a1:Value) (h:Heap):R (T k) F.ζs [a0,a1] h = nrm .fz h (ζs k (R (T k)) a0 a1 h) :=
 (R_body (t:=T k) (T_scott k) (by kernel_rfl) (by kernel_rfl) _ _).trans (by kernel_rfl)
theorem ζ4q (k:Nat) (call:Caller) (a2 a6 a7:Value) (h:Heap):ζ7a k call [(2,a2),(6,a6),(7,a7)] h =
 (fieldAddrR Prog 232 a6 5 h).bind fun v19 h20 =>
 (loadR Prog 4 v19 h20).bind fun v21 h22 =>
 (unR .not v21 h22).bind fun v23 h24 =>
 condV (some v23) (
 (fieldAddrR Prog 117 a2 0 h24).bind fun v25 h26 =>
 (loadR Prog 115 v25 h26).bind fun v27 h28 =>
 (loadR Prog 232 a6 h28).bind fun v29 h30 =>
 (fieldAddrR Prog 235 a7 0 h30).bind fun v31 h32 =>
 (loadR Prog 22 v31 h32).bind fun v33 h34 =>
 (call F.ζ1u [v27,v29,v33] h34).bind fun v35 h36 =>
 (extractR v35 0 h36).bind fun v37 h38 =>
 (extractR v35 1 h38).bind fun v39 h40 =>
 (allocR Prog 130 h40).bind fun v41 h42 =>
 (storeR Prog 130 v41 v37 h42).bind fun _v43 h44 =>
 (fieldAddrR Prog 130 v41 1 h44).bind fun v45 h46 =>
 (loadR Prog 3 v45 h46).bind fun v47 h48 =>
 (binR Prog .geq 3 v47 (.int .i64 32768) h48).bind fun v49 h50 =>
 ((bif wantVal v49 true then fieldAddrR Prog 232 a6 1 h50 else Res.ok undef h50)).bind fun v51 h52 =>
 ((bif wantVal v49 true then loadR Prog 3 v51 h52 else Res.ok undef h52)).bind fun v53 h54 =>
 ((bif wantVal v49 true then fieldAddrR Prog 235 a7 0 h54 else Res.ok undef h54)).bind fun v55 h56 =>
 ((bif wantVal v49 true then loadR Prog 22 v55 h56 else Res.ok undef h56)).bind fun v57 h58 =>
 ((bif wantVal v49 true then builtinV Prog .len [22] [v57] h58 else Res.ok undef h58)).bind fun v59 h60 =>
 ((bif wantVal v49 true then binR Prog .lss 3 v53 v59 h60 else Res.ok undef h60)).bind fun v61 h62 =>
 (condV (some v49) (Res.ok v61 h62) (Res.ok (.bool false) h62)).bind fun v63 h64 =>
 condV (some v63) (
 (loadR Prog 235 a7 h64).bind fun v65 h66 =>
 (fieldAddrR Prog 232 a6 1 h66).bind fun v67 h68 =>
 (loadR Prog 3 v67 h68).bind fun v69 h70 =>
 (call F.ζg [v65,v69] h70).bind fun v71 h72 =>
 (storeR Prog 235 a7 v71 h72).bind fun _v73 h74 =>
 ζ76 k call a2 a6 a7 v41 h74)
 (
 ζ77 k call a2 a6 a7 v41 v63 h64))
 (
 .ok ((.exit 0),[(2,a2),(6,a6),(7,a7),(17,v23)]) h24) :=
 (loopB_eq _ _).trans (by kernel_rfl)
theorem ζ8m (k:Nat) (call:Caller) (a2 a6 a7 a8:Value) (h:Heap):ζ76 k call a2 a6 a7 a8 h =
 (fieldAddrR Prog 130 a8 1 h).bind fun v75 h76 =>
 (loadR Prog 3 v75 h76).bind fun v77 h78 =>
 (binR Prog .quo 3 v77 (.int .i64 8192) h78).bind fun v79 h80 =>
 (binR Prog .rem 3 v79 (.int .i64 2) h80).bind fun v81 h82 =>
 (binR Prog .eql 3 v81 (.int .i64 1) h82).bind fun v83 h84 =>
 condV (some v83) (
 (loadR Prog 117 a2 h84).bind fun v85 h86 =>
 (loadR Prog 235 a7 h86).bind fun v87 h88 =>
 (fieldAddrR Prog 130 a8 2 h88).bind fun v89 h90 =>
 (loadR Prog 3 v89 h90).bind fun v91 h92 =>
 (call F.ζ0 [v85,v87,v91] h92).bind fun v93 h94 =>
 (storeR Prog 235 a7 v93 h94).bind fun _v95 h96 =>
 ζ78 k call a2 a6 a7 a8 h96)
 (
 ζ79 k call a2 a6 a7 a8 v83 h84):=by kernel_rfl
theorem ζ8n (k:Nat) (call:Caller) (a2 a6 a7 a8 a37:Value) (h:Heap):ζ77 k call a2 a6 a7 a8 a37 h =
 (fieldAddrR Prog 130 a8 1 h).bind fun v97 h98 =>
 (loadR Prog 3 v97 h98).bind fun v99 h100 =>
 (binR Prog .quo 3 v99 (.int .i64 8192) h100).bind fun v101 h102 =>
 (binR Prog .rem 3 v101 (.int .i64 2) h102).bind fun v103 h104 =>
 (binR Prog .eql 3 v103 (.int .i64 1) h104).bind fun v105 h106 =>
 condV (some v105) (
 (loadR Prog 117 a2 h106).bind fun v107 h108 =>
 (loadR Prog 235 a7 h108).bind fun v109 h110 =>
 (fieldAddrR Prog 130 a8 2 h110).bind fun v111 h112 =>
 (loadR Prog 3 v111 h112).bind fun v113 h114 =>
 (call F.ζ0 [v107,v109,v113] h114).bind fun v115 h116 =>
 (storeR Prog 235 a7 v115 h116).bind fun _v117 h118 =>
 ζ78 k call a2 a6 a7 a8 h118)
 (
 ζ79 k call a2 a6 a7 a8 v105 h106):=by kernel_rfl
theorem ζ8o (k:Nat) (call:Caller) (a2 a6 a7 a8:Value) (h:Heap):ζ78 k call a2 a6 a7 a8 h =
 (loadR Prog 232 a6 h).bind fun v119 h120 =>
 (loadR Prog 130 a8 h120).bind fun v121 h122 =>
 (fieldAddrR Prog 235 a7 0 h122).bind fun v123 h124 =>
 (loadR Prog 22 v123 h124).bind fun v125 h126 =>
 (builtinV Prog .len [22] [v125] h126).bind fun v127 h128 =>
 (fieldAddrR Prog 232 a6 1 h128).bind fun v129 h130 =>
 (loadR Prog 3 v129 h130).bind fun v131 h132 =>
 (fieldAddrR Prog 232 a6 1 h132).bind fun v133 h134 =>
 (loadR Prog 3 v133 h134).bind fun v135 h136 =>
 (binR Prog .add 3 v135 (.int .i64 1) h136).bind fun v137 h138 =>
 (call F.ζd [v119,v121,v127,v131,v137] h138).bind fun v139 h140 =>
 (storeR Prog 232 a6 v139 h140).bind fun _v141 h142 =>
 .ok (.normal,[(2,a2),(6,a6),(7,a7)]) h142:=by kernel_rfl
theorem ζ8p (k:Nat) (call:Caller) (a2 a6 a7 a8 a46:Value) (h:Heap):ζ79 k call a2 a6 a7 a8 a46 h =
 (loadR Prog 232 a6 h).bind fun v143 h144 =>
 (loadR Prog 130 a8 h144).bind fun v145 h146 =>
 (fieldAddrR Prog 235 a7 0 h146).bind fun v147 h148 =>
 (loadR Prog 22 v147 h148).bind fun v149 h150 =>
 (builtinV Prog .len [22] [v149] h150).bind fun v151 h152 =>
 (fieldAddrR Prog 232 a6 1 h152).bind fun v153 h154 =>
 (loadR Prog 3 v153 h154).bind fun v155 h156 =>
 (fieldAddrR Prog 232 a6 1 h156).bind fun v157 h158 =>
 (loadR Prog 3 v157 h158).bind fun v159 h160 =>
 (binR Prog .add 3 v159 (.int .i64 1) h160).bind fun v161 h162 =>
 (call F.ζd [v143,v145,v151,v155,v161] h162).bind fun v163 h164 =>
 (storeR Prog 232 a6 v163 h164).bind fun _v165 h166 =>
 .ok (.normal,[(2,a2),(6,a6),(7,a7)]) h166:=by kernel_rfl
theorem ζfh (k:Nat) (call:Caller) (a2 a6 a7 a17:Value) (h:Heap):ζa8 k call (.exit 0) [(2,a2),(6,a6),(7,a7),(17,a17)] h =
 (fieldAddrR Prog 235 a7 0 h).bindN fun v167 h168 =>
 (loadR Prog 22 v167 h168).bindN fun v169 h170 =>
 (fieldAddrR Prog 232 a6 6 h170).bindN fun v171 h172 =>
 (loadR Prog 3 v171 h172).bindN fun v173 h174 =>
 .ok (.tuple #[v169,v173]) h174:=by kernel_rfl
def ζ1h (k:Nat) (call:Caller) (a0:Value) (h:Heap):Res Value :=
 (binR Prog .geq 3 a0 (.int .i64 2147483648) h).bind fun v1 h2 =>
 .ok v1 h2
theorem ζil (k:Nat) (a0:Value) (h:Heap):R (T k) F.ζ1h [a0] h = nrm .gc h (ζ1h k (R (T k)) a0 h) :=
 (R_body (t:=T k) (T_scott k) (by kernel_rfl) (by kernel_rfl) _ _).trans (by kernel_rfl)
def ζaa (k:Nat) (call:Caller) (a2 a4:Value) (h:Heap):Res Value :=
 kSeq (pieceK (C k) call F.ζg [1,1,1,1,1]) (kDone Prog (resOf Prog F.ζg)) .normal [(2,a2),(4,a4)] h
def ζab (k:Nat) (call:Caller) (a2 a4 a33:Value) (h:Heap):Res Value :=
 kSeq (pieceK (C k) call F.ζg [1,1,1,1,1]) (kDone Prog (resOf Prog F.ζg)) .normal [(2,a2),(4,a4),(33,a33)] h
def ζg (k:Nat) (call:Caller) (a0 a1:Value) (h:Heap):Res Value :=
 (boxR a0 h).bind fun v1 h2 =>
 (allocR Prog 235 h2).bind fun v3 h4 =>
 (fieldAddrR Prog 235 v1 1 h4).bind fun v5 h6 =>
 (loadR Prog 23 v5 h6).bind fun v7 h8 =>
 (builtinV Prog .len [23] [v7] h8).bind fun v9 h10 =>
 (binR Prog .gtr 3 v9 (.int .i64 0) h10).bind fun v11 h12 =>
 ((bif wantVal v11 true then fieldAddrR Prog 235 v1 1 h12 else Res.ok undef h12)).bind fun v13 h14 =>
 ((bif wantVal v11 true then loadR Prog 23 v13 h14 else Res.ok undef h14)).bind fun v15 h16 =>
 ((bif wantVal v11 true then Res.ok v9 h16 else Res.ok undef h16)).bind fun v17 h18 =>
 ((bif wantVal v11 true then binR Prog .sub 3 v17 (.int .i64 1) h18 else Res.ok undef h18)).bind fun v19 h20 =>
 ((bif wantVal v11 true then indexAddrR Prog 23 v15 v19 h20 else Res.ok undef h20)).bind fun v21 h22 =>
 ((bif wantVal v11 true then loadR Prog 3 v21 h22 else Res.ok undef h22)).bind fun v23 h24 =>
 ((bif wantVal v11 true then Res.ok a1 h24 else Res.ok undef h24)).bind fun v25 h26 =>
 ((bif wantVal v11 true then binR Prog .eql 3 v23 v25 h26 else Res.ok undef h26)).bind fun v27 h28 =>
 (condV (some v11) (Res.ok v27 h28) (Res.ok (.bool false) h28)).bind fun v29 h30 =>
 condV (some v29) (
 (loadR Prog 235 v1 h30).bind fun v31 h32 =>
 (storeR Prog 235 v3 v31 h32).bind fun _v33 h34 =>
 (loadR Prog 235 v3 h34).bind fun v35 h36 =>
 .ok v35 h36)
 (
 (buildSliceR Prog 23 0 [] h30).bind fun v37 h38 =>
 (fieldAddrR Prog 235 v1 1 h38).bind fun v39 h40 =>
 (loadR Prog 23 v39 h40).bind fun v41 h42 =>
 (builtinV Prog .append [23,23] [v37,v41] h42).bind fun v43 h44 =>
 (buildSliceR Prog 23 1 [(0,a1)] h44).bind fun v45 h46 =>
 (builtinV Prog .append [23,23] [v43,v45] h46).bind fun v47 h48 =>
 (fieldAddrR Prog 235 v1 1 h48).bind fun v49 h50 =>
 (storeR Prog 23 v49 v47 h50).bind fun _v51 h52 =>
 (fieldAddrR Prog 235 v1 1 h52).bind fun v53 h54 =>
 (loadR Prog 23 v53 h54).bind fun v55 h56 =>
 (builtinV Prog .len [23] [v55] h56).bind fun v57 h58 =>
 (binR Prog .gtr 3 v57 (.int .i64 64) h58).bind fun v59 h60 =>
 condV (some v59) (
 (fieldAddrR Prog 235 v1 1 h60).bind fun v61 h62 =>
 (loadR Prog 23 v61 h62).bind fun v63 h64 =>
 (sliceR Prog 23 v63 (some (.int .i64 1)) none none h64).bind fun v65 h66 =>
 (fieldAddrR Prog 235 v1 1 h66).bind fun v67 h68 =>
 (storeR Prog 23 v67 v65 h68).bind fun _v69 h70 =>
 ζaa k call v1 v3 h70)
 (
 ζab k call v1 v3 v59 h60))
theorem ζay (k:Nat) (a0 a1:Value) (h:Heap):R (T k) F.ζg [a0,a1] h = nrm .fz h (ζg k (R (T k)) a0 a1 h) :=
 (R_body (t:=T k) (T_scott k) (by kernel_rfl) (by kernel_rfl) _ _).trans (by kernel_rfl)
theorem ζfs (k:Nat) (call:Caller) (a2 a4:Value) (h:Heap):ζaa k call a2 a4 h =
 (loadR Prog 235 a2 h).bind fun v71 h72 =>
 (storeR Prog 235 a4 v71 h72).bind fun _v73 h74 =>
 (loadR Prog 235 a4 h74).bind fun v75 h76 =>
 .ok v75 h76:=by kernel_rfl
theorem ζ4h (k:Nat) (call:Caller) (a2 a4 a33:Value) (h:Heap):ζab k call a2 a4 a33 h =
 (loadR Prog 235 a2 h).bind fun v77 h78 =>
 (storeR Prog 235 a4 v77 h78).bind fun _v79 h80 =>
 (loadR Prog 235 a4 h80).bind fun v81 h82 =>
 .ok v81 h82:=by kernel_rfl
def ζ37 (k:Nat) (call:Caller):Env → Heap → Res (AExit × Env):=loopB (C k) call F.ζ0 [1,1,1,0,0,0]
def ζl (k:Nat) (call:Caller):Kont Value:=kBlock 0 (kSeq (pieceK (C k) call F.ζ0 [1,1,1,1]) (kDone Prog (resOf Prog F.ζ0)))
def ζu (k:Nat) (call:Caller) (a2 a3 a4 a6 a7 a8 a10 a11 a69:Value) (h:Heap):Res (AExit × Env) :=
 kSeq (pieceK (C k) call F.ζ0 [1,1,1,0,0,0,1,0,1,1,1,1,1,1,1,1,1,1]) (kBlock 1 (kRound (ownOf (C k) F.ζ0 [1,1,1,0,0,0]))) .normal [(2,a2),(3,a3),(4,a4),(6,a6),(7,a7),(8,a8),(10,a10),(11,a11),(69,a69)] h
def ζ2h (k:Nat) (call:Caller):Env → Heap → Res (AExit × Env):=loopB (C k) call F.ζ0 [1,1,1,0,0,0,1,0,1,1,1,1,1,1,1,1,1,0,1,0,1,1,1,1,0,1,0,0]
def ζt (k:Nat) (call:Caller):Kont (AExit × Env):=kBlock 2 (kSeq (pieceK (C k) call F.ζ0 [1,1,1,0,0,0,1,0,1,1,1,1,1,1,1,1,1,0,1,0,1,1,1,1,1]) (kSeq (pieceK (C k) call F.ζ0 [1,1,1,0,0,0,1,0,1,1,1,1,1,1,1,1,1,1]) (kBlock 1 (kRound (ownOf (C k) F.ζ0 [1,1,1,0,0,0])))))
def ζ36 (k:Nat) (call:Caller) (a2 a3 a4 a6 a7 a8 a10 a11:Value) (h:Heap):Res (AExit × Env) :=
 kSeq (pieceK (C k) call F.ζ0 [1,1,1,0,0,0,1,0,1,1,1,1,1,1,1,1,1,1]) (kBlock 1 (kRound (ownOf (C k) F.ζ0 [1,1,1,0,0,0]))) .normal [(2,a2),(3,a3),(4,a4),(6,a6),(7,a7),(8,a8),(10,a10),(11,a11)] h
def ζ0 (k:Nat) (call:Caller) (a0 a1 a2:Value) (h:Heap):Res Value :=
 (boxR a0 h).bind fun v1 h2 =>
 (boxR a1 h2).bind fun v3 h4 =>
 (allocR Prog 235 h4).bind fun v5 h6 =>
 (buildSliceR Prog 23 0 [] h6).bind fun v7 h8 =>
 (loopN (ζ37 k call) loopFuel [(2,a2),(3,v1),(4,v3),(6,v5),(7,(.int .i64 0)),(8,v7)] h8).bind fun r9 h10 =>
 ζl k call r9.1 r9.2 h10
theorem ζ15 {β:Type} (f:Env → Heap → Kont β → Res β) (K:Kont β) (e:Env) (h:Heap):kSeq f K .normal e h = f e h K:=rfl
theorem ζ17 {β:Type} (f:Env → Heap → Kont β → Res β) (K:Kont β) (i:Nat) (e:Env) (h:Heap):kSeq f K (.exit i) e h = K (.exit i) e h:=rfl
theorem ζ16 {β:Type} (f:Env → Heap → Kont β → Res β) (K:Kont β) (e:Env) (h:Heap):kSeq f K .ret e h = K .ret e h:=rfl
theorem ζ10 {β:Type} (j:Nat) (K:Kont β) (e:Env) (h:Heap):kBlock j K .normal e h = K .normal e h:=rfl
theorem ζ12 {β:Type} (j:Nat) (K:Kont β) (i:Nat) (e:Env) (h:Heap):kBlock j K (.exit i) e h = bif i == j then K .normal e h else K (.exit i) e h:=rfl
theorem ζ11 {β:Type} (j:Nat) (K:Kont β) (e:Env) (h:Heap):kBlock j K .ret e h = K .ret e h:=rfl
theorem ζ14 (ks:List Nat) (i:Nat) (e:Env) (h:Heap):kRound ks (.exit i) e h = .ok (.exit i,e) h:=rfl
theorem ζ13 (ks:List Nat) (e:Env) (h:Heap):kRound ks .ret e h = .ok (.ret,e) h:=rfl
theorem ζfj {β:Type} (k:Nat) (call:Caller) (e:Env) (h:Heap) (K:Kont β):pieceK (C k) call F.ζ0 [] e h K = pieceK (C k) call F.ζ0 [0] e h (kSeq (pieceK (C k) call F.ζ0 [1]) K):=by kernel_rfl
theorem ζfk {β:Type} (k:Nat) (call:Caller) (a0 a1 a2:Value) (h:Heap) (K:Kont β):pieceK (C k) call F.ζ0 [0] [(0,a0),(1,a1),(2,a2)] h K =
 (  (boxR a0 h).bind fun v1 h2 =>
 (boxR a1 h2).bind fun v3 h4 =>
 (allocR Prog 235 h4).bind fun v5 h6 =>
 K .normal [(2,a2),(3,v1),(4,v3),(6,v5)] h6):=by kernel_rfl
theorem ζfl {β:Type} (k:Nat) (call:Caller) (e:Env) (h:Heap) (K:Kont β):pieceK (C k) call F.ζ0 [1] e h K = pieceK (C k) call F.ζ0 [1,0] e h (kSeq (pieceK (C k) call F.ζ0 [1,1]) K):=by kernel_rfl
theorem ζfm {β:Type} (k:Nat) (call:Caller) (a2 v1 v3 v5:Value) (h6:Heap) (K:Kont β):pieceK (C k) call F.ζ0 [1,0] [(2,a2),(3,v1),(4,v3),(6,v5)] h6 K =
 (  K .normal [(2,a2),(3,v1),(4,v3),(6,v5),(7,(.int .i64 0))] h6):=by kernel_rfl
theorem ζfn {β:Type} (k:Nat) (call:Caller) (e:Env) (h:Heap) (K:Kont β):pieceK (C k) call F.ζ0 [1,1] e h K = pieceK (C k) call F.ζ0 [1,1,0] e h (kSeq (pieceK (C k) call F.ζ0 [1,1,1]) K):=by kernel_rfl
theorem ζfo {β:Type} (k:Nat) (call:Caller) (a2 v1 v3 v5:Value) (h6:Heap) (K:Kont β):pieceK (C k) call F.ζ0 [1,1,0] [(2,a2),(3,v1),(4,v3),(6,v5),(7,(.int .i64 0))] h6 K =
 (  (buildSliceR Prog 23 0 [] h6).bind fun v7 h8 =>
 K .normal [(2,a2),(3,v1),(4,v3),(6,v5),(7,(.int .i64 0)),(8,v7)] h8):=by kernel_rfl
theorem ζfp {β:Type} (k:Nat) (call:Caller) (e:Env) (h:Heap) (K:Kont β):pieceK (C k) call F.ζ0 [1,1,1] e h K = pieceK (C k) call F.ζ0 [1,1,1,0] e h (kSeq (pieceK (C k) call F.ζ0 [1,1,1,1]) K):=by kernel_rfl
theorem ζfq {β:Type} (k:Nat) (call:Caller) (e:Env) (h:Heap) (K:Kont β):pieceK (C k) call F.ζ0 [1,1,1,0] e h K = pieceK (C k) call F.ζ0 [1,1,1,0,0] e h (kBlock 0 K):=by kernel_rfl
theorem ζfr {β:Type} (k:Nat) (call:Caller) (a2 v1 v3 v5 v7:Value) (h8:Heap) (K:Kont β):pieceK (C k) call F.ζ0 [1,1,1,0,0] [(2,a2),(3,v1),(4,v3),(6,v5),(7,(.int .i64 0)),(8,v7)] h8 K =
 ((loopN (ζ37 k call) loopFuel [(2,a2),(3,v1),(4,v3),(6,v5),(7,(.int .i64 0)),(8,v7)] h8).bind fun r9 h10 => K r9.1 r9.2 h10):=by kernel_rfl
theorem ζc1 {β:Type} (k:Nat) (call:Caller) (e:Env) (h:Heap) (K:Kont β):pieceK (C k) call F.ζ0 [1,1,1,0,0,0] e h K = pieceK (C k) call F.ζ0 [1,1,1,0,0,0,0] e h (kSeq (pieceK (C k) call F.ζ0 [1,1,1,0,0,0,1]) K):=by kernel_rfl
theorem ζc2 {β:Type} (k:Nat) (call:Caller) (e:Env) (h:Heap) (K:Kont β):pieceK (C k) call F.ζ0 [1,1,1,0,0,0,0] e h K = pieceK (C k) call F.ζ0 [1,1,1,0,0,0,0,0] e h (kSeq (pieceK (C k) call F.ζ0 [1,1,1,0,0,0,0,1]) K):=by kernel_rfl
theorem ζc3 {β:Type} (k:Nat) (call:Caller) (a2 a3 a4 a6 a7 a8:Value) (h:Heap) (K:Kont β):pieceK (C k) call F.ζ0 [1,1,1,0,0,0,0,0] [(2,a2),(3,a3),(4,a4),(6,a6),(7,a7),(8,a8)] h K =
 (  (fieldAddrR Prog 235 a4 1 h).bind fun v11 h12 =>
 (loadR Prog 23 v11 h12).bind fun v13 h14 =>
 (builtinV Prog .len [23] [v13] h14).bind fun v15 h16 =>
 (binR Prog .gtr 3 v15 (.int .i64 0) h16).bind fun v17 h18 =>
 K .normal [(2,a2),(3,a3),(4,a4),(6,a6),(7,a7),(8,a8),(20,v17)] h18):=by kernel_rfl
theorem ζc4 {β:Type} (k:Nat) (call:Caller) (a2 a3 a4 a6 a7 a8 v17:Value) (h18:Heap) (K:Kont β):pieceK (C k) call F.ζ0 [1,1,1,0,0,0,0,1] [(2,a2),(3,a3),(4,a4),(6,a6),(7,a7),(8,a8),(20,v17)] h18 K =
 (condV (some v17) (pieceK (C k) call F.ζ0 [1,1,1,0,0,0,0,1,0] [(2,a2),(3,a3),(4,a4),(6,a6),(7,a7),(8,a8),(20,v17)] h18 K) (pieceK (C k) call F.ζ0 [1,1,1,0,0,0,0,1,1] [(2,a2),(3,a3),(4,a4),(6,a6),(7,a7),(8,a8),(20,v17)] h18 K)):=by kernel_rfl
theorem ζc5 {β:Type} (k:Nat) (call:Caller) (e:Env) (h:Heap) (K:Kont β):pieceK (C k) call F.ζ0 [1,1,1,0,0,0,0,1,0] e h K = K .normal e h:=by kernel_rfl
theorem ζc6 {β:Type} (k:Nat) (call:Caller) (e:Env) (h:Heap) (K:Kont β):pieceK (C k) call F.ζ0 [1,1,1,0,0,0,1] e h K = pieceK (C k) call F.ζ0 [1,1,1,0,0,0,1,0] e h (kBlock 1 K):=by kernel_rfl
theorem ζc7 {β:Type} (k:Nat) (call:Caller) (e:Env) (h:Heap) (K:Kont β):pieceK (C k) call F.ζ0 [1,1,1,0,0,0,1,0] e h K = pieceK (C k) call F.ζ0 [1,1,1,0,0,0,1,0,0] e h (kSeq (pieceK (C k) call F.ζ0 [1,1,1,0,0,0,1,0,1]) K):=by kernel_rfl
theorem ζc8 {β:Type} (k:Nat) (call:Caller) (a2 a3 a4 a6 a7 a8 v17:Value) (h18:Heap) (K:Kont β):pieceK (C k) call F.ζ0 [1,1,1,0,0,0,1,0,0] [(2,a2),(3,a3),(4,a4),(6,a6),(7,a7),(8,a8),(20,v17)] h18 K =
 (    (fieldAddrR Prog 235 a4 1 h18).bind fun v19 h20 =>
 (loadR Prog 23 v19 h20).bind fun v21 h22 =>
 (builtinV Prog .len [23] [v21] h22).bind fun v23 h24 =>
 K .normal [(2,a2),(3,a3),(4,a4),(6,a6),(7,a7),(8,a8),(9,v23)] h24):=by kernel_rfl
theorem ζc9 {β:Type} (k:Nat) (call:Caller) (e:Env) (h:Heap) (K:Kont β):pieceK (C k) call F.ζ0 [1,1,1,0,0,0,1,0,1] e h K = pieceK (C k) call F.ζ0 [1,1,1,0,0,0,1,0,1,0] e h (kSeq (pieceK (C k) call F.ζ0 [1,1,1,0,0,0,1,0,1,1]) K):=by kernel_rfl
theorem ζca {β:Type} (k:Nat) (call:Caller) (a2 a3 a4 a6 a7 a8 v23:Value) (h24:Heap) (K:Kont β):pieceK (C k) call F.ζ0 [1,1,1,0,0,0,1,0,1,0] [(2,a2),(3,a3),(4,a4),(6,a6),(7,a7),(8,a8),(9,v23)] h24 K =
 (    (fieldAddrR Prog 235 a4 1 h24).bind fun v25 h26 =>
 (loadR Prog 23 v25 h26).bind fun v27 h28 =>
 (binR Prog .sub 3 v23 (.int .i64 1) h28).bind fun v29 h30 =>
 (indexAddrR Prog 23 v27 v29 h30).bind fun v31 h32 =>
 (loadR Prog 3 v31 h32).bind fun v33 h34 =>
 K .normal [(2,a2),(3,a3),(4,a4),(6,a6),(7,a7),(8,a8),(9,v23),(10,v33)] h34):=by kernel_rfl
theorem ζcb {β:Type} (k:Nat) (call:Caller) (e:Env) (h:Heap) (K:Kont β):pieceK (C k) call F.ζ0 [1,1,1,0,0,0,1,0,1,1] e h K = pieceK (C k) call F.ζ0 [1,1,1,0,0,0,1,0,1,1,0] e h (kSeq (pieceK (C k) call F.ζ0 [1,1,1,0,0,0,1,0,1,1,1]) K):=by kernel_rfl
theorem ζcc {β:Type} (k:Nat) (call:Caller) (a2 a3 a4 a6 a7 a8 v23 v33:Value) (h34:Heap) (K:Kont β):pieceK (C k) call F.ζ0 [1,1,1,0,0,0,1,0,1,1,0] [(2,a2),(3,a3),(4,a4),(6,a6),(7,a7),(8,a8),(9,v23),(10,v33)] h34 K =
 (    (fieldAddrR Prog 235 a4 1 h34).bind fun v35 h36 =>
 (loadR Prog 23 v35 h36).bind fun v37 h38 =>
 (binR Prog .sub 3 v23 (.int .i64 1) h38).bind fun v39 h40 =>
 (sliceR Prog 23 v37 none (some v39) none h40).bind fun v41 h42 =>
 (fieldAddrR Prog 235 a4 1 h42).bind fun v43 h44 =>
 (storeR Prog 23 v43 v41 h44).bind fun _v45 h46 =>
 K .normal [(2,a2),(3,a3),(4,a4),(6,a6),(7,a7),(8,a8),(10,v33)] h46):=by kernel_rfl
theorem ζcd {β:Type} (k:Nat) (call:Caller) (e:Env) (h:Heap) (K:Kont β):pieceK (C k) call F.ζ0 [1,1,1,0,0,0,1,0,1,1,1] e h K = pieceK (C k) call F.ζ0 [1,1,1,0,0,0,1,0,1,1,1,0] e h (kSeq (pieceK (C k) call F.ζ0 [1,1,1,0,0,0,1,0,1,1,1,1]) K):=by kernel_rfl
theorem ζce {β:Type} (k:Nat) (call:Caller) (a2 a3 a4 a6 a7 a8 v33:Value) (h46:Heap) (K:Kont β):pieceK (C k) call F.ζ0 [1,1,1,0,0,0,1,0,1,1,1,0] [(2,a2),(3,a3),(4,a4),(6,a6),(7,a7),(8,a8),(10,v33)] h46 K =
 (    (fieldAddrR Prog 117 a3 1 h46).bind fun v47 h48 =>
 (loadR Prog 31 v47 h48).bind fun v49 h50 =>
 (binR Prog .mul 3 (.int .i64 4) a2 h50).bind fun v51 h52 =>
 (call F.ζ2 [v49,v51,(.int .i64 4)] h52).bind fun v53 h54 =>
 K .normal [(2,a2),(3,a3),(4,a4),(6,a6),(7,a7),(8,a8),(10,v33),(11,v53)] h54):=by kernel_rfl
theorem ζcf {β:Type} (k:Nat) (call:Caller) (e:Env) (h:Heap) (K:Kont β):pieceK (C k) call F.ζ0 [1,1,1,0,0,0,1,0,1,1,1,1] e h K = pieceK (C k) call F.ζ0 [1,1,1,0,0,0,1,0,1,1,1,1,0] e h (kSeq (pieceK (C k) call F.ζ0 [1,1,1,0,0,0,1,0,1,1,1,1,1]) K):=by kernel_rfl
theorem ζcg {β:Type} (k:Nat) (call:Caller) (a2 a3 a4 a6 a7 a8 v33 v53:Value) (h54:Heap) (K:Kont β):pieceK (C k) call F.ζ0 [1,1,1,0,0,0,1,0,1,1,1,1,0] [(2,a2),(3,a3),(4,a4),(6,a6),(7,a7),(8,a8),(10,v33),(11,v53)] h54 K =
 (    (binR Prog .add 3 a2 (.int .i64 1) h54).bind fun v55 h56 =>
 K .normal [(2,v55),(3,a3),(4,a4),(6,a6),(7,a7),(8,a8),(10,v33),(11,v53)] h56):=by kernel_rfl
theorem ζch {β:Type} (k:Nat) (call:Caller) (e:Env) (h:Heap) (K:Kont β):pieceK (C k) call F.ζ0 [1,1,1,0,0,0,1,0,1,1,1,1,1] e h K = pieceK (C k) call F.ζ0 [1,1,1,0,0,0,1,0,1,1,1,1,1,0] e h (kSeq (pieceK (C k) call F.ζ0 [1,1,1,0,0,0,1,0,1,1,1,1,1,1]) K):=by kernel_rfl
theorem ζci {β:Type} (k:Nat) (call:Caller) (v55 a3 a4 a6 a7 a8 v33 v53:Value) (h56:Heap) (K:Kont β):pieceK (C k) call F.ζ0 [1,1,1,0,0,0,1,0,1,1,1,1,1,0] [(2,v55),(3,a3),(4,a4),(6,a6),(7,a7),(8,a8),(10,v33),(11,v53)] h56 K =
 (    (fieldAddrR Prog 117 a3 2 h56).bindN fun v57 h58 =>
 (loadR Prog 31 v57 h58).bindN fun v59 h60 =>
 (fieldAddrR Prog 235 a4 0 h60).bindN fun v61 h62 =>
 (loadR Prog 22 v61 h62).bindN fun v63 h64 =>
 (indexAddrR Prog 22 v63 v33 h64).bindN fun v65 h66 =>
 (fieldAddrR Prog 57 v65 0 h66).bindN fun v67 h68 =>
 (loadR Prog 3 v67 h68).bindN fun v69 h70 =>
 (call F.ζ23 [v53] h70).bindT (fun p73 h74 => .panic p73 h74) fun v71 h72 =>
 (binR Prog .add 3 v69 v71 h72).bindN fun v75 h76 =>
 (call F.ζ2c [v59,v75] h76).bindT (fun p79 h80 => chkR ((okVal (loadR Prog 31 v57 h72) v59 && true) && ((okVal (loadR Prog 22 v61 h72) v63 && true) && ((okVal (loadR Prog 3 v67 h72) v69 && true) && true))) (.panic p79 h80)) fun v77 h78 =>
 chkR ((okVal (loadR Prog 31 v57 h72) v59 && true) && ((okVal (loadR Prog 22 v61 h72) v63 && true) && ((okVal (loadR Prog 3 v67 h72) v69 && true) && true))) (
 K .normal [(2,v55),(3,a3),(4,a4),(6,a6),(7,a7),(8,a8),(10,v33),(11,v53),(12,v77)] h78)):=by kernel_rfl
theorem ζcj {β:Type} (k:Nat) (call:Caller) (e:Env) (h:Heap) (K:Kont β):pieceK (C k) call F.ζ0 [1,1,1,0,0,0,1,0,1,1,1,1,1,1] e h K = pieceK (C k) call F.ζ0 [1,1,1,0,0,0,1,0,1,1,1,1,1,1,0] e h (kSeq (pieceK (C k) call F.ζ0 [1,1,1,0,0,0,1,0,1,1,1,1,1,1,1]) K):=by kernel_rfl
theorem ζck {β:Type} (k:Nat) (call:Caller) (e:Env) (h:Heap) (K:Kont β):pieceK (C k) call F.ζ0 [1,1,1,0,0,0,1,0,1,1,1,1,1,1,0] e h K = pieceK (C k) call F.ζ0 [1,1,1,0,0,0,1,0,1,1,1,1,1,1,0,0] e h (kSeq (pieceK (C k) call F.ζ0 [1,1,1,0,0,0,1,0,1,1,1,1,1,1,0,1]) K):=by kernel_rfl
theorem ζcl {β:Type} (k:Nat) (call:Caller) (v55 a3 a4 a6 a7 a8 v33 v53 v77:Value) (h78:Heap) (K:Kont β):pieceK (C k) call F.ζ0 [1,1,1,0,0,0,1,0,1,1,1,1,1,1,0,0] [(2,v55),(3,a3),(4,a4),(6,a6),(7,a7),(8,a8),(10,v33),(11,v53),(12,v77)] h78 K =
 (    (binR Prog .lss 3 v77 (.int .i64 0) h78).bind fun v81 h82 =>
 K .normal [(2,v55),(3,a3),(4,a4),(6,a6),(7,a7),(8,a8),(10,v33),(11,v53),(12,v77),(56,v81)] h82):=by kernel_rfl
theorem ζcm {β:Type} (k:Nat) (call:Caller) (v55 a3 a4 a6 a7 a8 v33 v53 v77 v81:Value) (h82:Heap) (K:Kont β):pieceK (C k) call F.ζ0 [1,1,1,0,0,0,1,0,1,1,1,1,1,1,0,1] [(2,v55),(3,a3),(4,a4),(6,a6),(7,a7),(8,a8),(10,v33),(11,v53),(12,v77),(56,v81)] h82 K =
 (condV (some v81) (pieceK (C k) call F.ζ0 [1,1,1,0,0,0,1,0,1,1,1,1,1,1,0,1,0] [(2,v55),(3,a3),(4,a4),(6,a6),(7,a7),(8,a8),(10,v33),(11,v53),(12,v77),(56,v81)] h82 K) (pieceK (C k) call F.ζ0 [1,1,1,0,0,0,1,0,1,1,1,1,1,1,0,1,1] [(2,v55),(3,a3),(4,a4),(6,a6),(7,a7),(8,a8),(10,v33),(11,v53),(12,v77),(56,v81)] h82 K)):=by kernel_rfl
theorem ζcn {β:Type} (k:Nat) (call:Caller) (e:Env) (h:Heap) (K:Kont β):pieceK (C k) call F.ζ0 [1,1,1,0,0,0,1,0,1,1,1,1,1,1,0,1,0] e h K = pieceK (C k) call F.ζ0 [1,1,1,0,0,0,1,0,1,1,1,1,1,1,0,1,0,0] e h (kSeq (pieceK (C k) call F.ζ0 [1,1,1,0,0,0,1,0,1,1,1,1,1,1,0,1,0,1]) K):=by kernel_rfl
theorem ζco {β:Type} (k:Nat) (call:Caller) (v55 a3 a4 a6 a7 a8 v33 v53 v77 v81:Value) (h82:Heap) (K:Kont β):pieceK (C k) call F.ζ0 [1,1,1,0,0,0,1,0,1,1,1,1,1,1,0,1,0,0] [(2,v55),(3,a3),(4,a4),(6,a6),(7,a7),(8,a8),(10,v33),(11,v53),(12,v77),(56,v81)] h82 K =
 (      (loadR Prog 235 a4 h82).bind fun v83 h84 =>
 (storeR Prog 235 a6 v83 h84).bind fun _v85 h86 =>
 K .normal [(6,a6)] h86):=by kernel_rfl
theorem ζcp {β:Type} (k:Nat) (call:Caller) (e:Env) (h:Heap) (K:Kont β):pieceK (C k) call F.ζ0 [1,1,1,0,0,0,1,0,1,1,1,1,1,1,0,1,0,1] e h K = K .ret e h:=by kernel_rfl
theorem ζcq {β:Type} (k:Nat) (call:Caller) (e:Env) (h:Heap) (K:Kont β):pieceK (C k) call F.ζ0 [1,1,1,0,0,0,1,0,1,1,1,1,1,1,0,1,1] e h K = K .normal e h:=by kernel_rfl
theorem ζcr {β:Type} (k:Nat) (call:Caller) (e:Env) (h:Heap) (K:Kont β):pieceK (C k) call F.ζ0 [1,1,1,0,0,0,1,0,1,1,1,1,1,1,1] e h K = pieceK (C k) call F.ζ0 [1,1,1,0,0,0,1,0,1,1,1,1,1,1,1,0] e h (kSeq (pieceK (C k) call F.ζ0 [1,1,1,0,0,0,1,0,1,1,1,1,1,1,1,1]) K):=by kernel_rfl
theorem ζcs {β:Type} (k:Nat) (call:Caller) (v55 a3 a4 a6 a7 a8 v33 v53 v77 v81:Value) (h82:Heap) (K:Kont β):pieceK (C k) call F.ζ0 [1,1,1,0,0,0,1,0,1,1,1,1,1,1,1,0] [(2,v55),(3,a3),(4,a4),(6,a6),(7,a7),(8,a8),(10,v33),(11,v53),(12,v77),(56,v81)] h82 K =
 (      (binR Prog .add 3 a7 v77 h82).bind fun v87 h88 =>
 K .normal [(2,v55),(3,a3),(4,a4),(6,a6),(7,v87),(8,a8),(10,v33),(11,v53)] h88):=by kernel_rfl
theorem ζct {β:Type} (k:Nat) (call:Caller) (e:Env) (h:Heap) (K:Kont β):pieceK (C k) call F.ζ0 [1,1,1,0,0,0,1,0,1,1,1,1,1,1,1,1] e h K = pieceK (C k) call F.ζ0 [1,1,1,0,0,0,1,0,1,1,1,1,1,1,1,1,0] e h (kSeq (pieceK (C k) call F.ζ0 [1,1,1,0,0,0,1,0,1,1,1,1,1,1,1,1,1]) K):=by kernel_rfl
theorem ζcu {β:Type} (k:Nat) (call:Caller) (v55 a3 a4 a6 v87 a8 v33 v53:Value) (h88:Heap) (K:Kont β):pieceK (C k) call F.ζ0 [1,1,1,0,0,0,1,0,1,1,1,1,1,1,1,1,0] [(2,v55),(3,a3),(4,a4),(6,a6),(7,v87),(8,a8),(10,v33),(11,v53)] h88 K =
 (      (call F.ζ1h [v53] h88).bind fun v89 h90 =>
 ((bif wantVal v89 false then Res.ok v53 h90 else Res.ok undef h90)).bind fun v91 h92 =>
 ((bif wantVal v89 false then binR Prog .quo 3 v91 (.int .i64 1073741824) h92 else Res.ok undef h92)).bind fun v93 h94 =>
 ((bif wantVal v89 false then binR Prog .rem 3 v93 (.int .i64 2) h94 else Res.ok undef h94)).bind fun v95 h96 =>
 ((bif wantVal v89 false then binR Prog .eql 3 v95 (.int .i64 1) h96 else Res.ok undef h96)).bind fun v97 h98 =>
 (condV (some v89) (Res.ok (.bool true) h98) (Res.ok v97 h98)).bind fun v99 h100 =>
 K .normal [(2,v55),(3,a3),(4,a4),(6,a6),(7,v87),(8,a8),(10,v33),(11,v53),(13,v99)] h100):=by kernel_rfl
theorem ζcv {β:Type} (k:Nat) (call:Caller) (e:Env) (h:Heap) (K:Kont β):pieceK (C k) call F.ζ0 [1,1,1,0,0,0,1,0,1,1,1,1,1,1,1,1,1] e h K = pieceK (C k) call F.ζ0 [1,1,1,0,0,0,1,0,1,1,1,1,1,1,1,1,1,0] e h (kSeq (pieceK (C k) call F.ζ0 [1,1,1,0,0,0,1,0,1,1,1,1,1,1,1,1,1,1]) K):=by kernel_rfl
theorem ζcw {β:Type} (k:Nat) (call:Caller) (e:Env) (h:Heap) (K:Kont β):pieceK (C k) call F.ζ0 [1,1,1,0,0,0,1,0,1,1,1,1,1,1,1,1,1,0] e h K = pieceK (C k) call F.ζ0 [1,1,1,0,0,0,1,0,1,1,1,1,1,1,1,1,1,0,0] e h (kSeq (pieceK (C k) call F.ζ0 [1,1,1,0,0,0,1,0,1,1,1,1,1,1,1,1,1,0,1]) K):=by kernel_rfl
theorem ζcx {β:Type} (k:Nat) (call:Caller) (v55 a3 a4 a6 v87 a8 v33 v53 v99:Value) (h100:Heap) (K:Kont β):pieceK (C k) call F.ζ0 [1,1,1,0,0,0,1,0,1,1,1,1,1,1,1,1,1,0,0] [(2,v55),(3,a3),(4,a4),(6,a6),(7,v87),(8,a8),(10,v33),(11,v53),(13,v99)] h100 K =
 (      K .normal [(2,v55),(3,a3),(4,a4),(6,a6),(7,v87),(8,a8),(10,v33),(11,v53),(69,v99)] h100):=by kernel_rfl
theorem ζcy {β:Type} (k:Nat) (call:Caller) (v55 a3 a4 a6 v87 a8 v33 v53 v99:Value) (h100:Heap) (K:Kont β):pieceK (C k) call F.ζ0 [1,1,1,0,0,0,1,0,1,1,1,1,1,1,1,1,1,0,1] [(2,v55),(3,a3),(4,a4),(6,a6),(7,v87),(8,a8),(10,v33),(11,v53),(69,v99)] h100 K =
 (condV (some v99) (pieceK (C k) call F.ζ0 [1,1,1,0,0,0,1,0,1,1,1,1,1,1,1,1,1,0,1,0] [(2,v55),(3,a3),(4,a4),(6,a6),(7,v87),(8,a8),(10,v33),(11,v53),(69,v99)] h100 K) (pieceK (C k) call F.ζ0 [1,1,1,0,0,0,1,0,1,1,1,1,1,1,1,1,1,0,1,1] [(2,v55),(3,a3),(4,a4),(6,a6),(7,v87),(8,a8),(10,v33),(11,v53),(69,v99)] h100 K)):=by kernel_rfl
theorem ζcz {β:Type} (k:Nat) (call:Caller) (e:Env) (h:Heap) (K:Kont β):pieceK (C k) call F.ζ0 [1,1,1,0,0,0,1,0,1,1,1,1,1,1,1,1,1,0,1,0] e h K = pieceK (C k) call F.ζ0 [1,1,1,0,0,0,1,0,1,1,1,1,1,1,1,1,1,0,1,0,0] e h (kSeq (pieceK (C k) call F.ζ0 [1,1,1,0,0,0,1,0,1,1,1,1,1,1,1,1,1,0,1,0,1]) K):=by kernel_rfl
theorem ζd0 {β:Type} (k:Nat) (call:Caller) (v55 a3 a4 a6 v87 a8 v33 v53 v99:Value) (h100:Heap) (K:Kont β):pieceK (C k) call F.ζ0 [1,1,1,0,0,0,1,0,1,1,1,1,1,1,1,1,1,0,1,0,0] [(2,v55),(3,a3),(4,a4),(6,a6),(7,v87),(8,a8),(10,v33),(11,v53),(69,v99)] h100 K =
 (        (fieldAddrR Prog 117 a3 3 h100).bind fun v101 h102 =>
 (loadR Prog 31 v101 h102).bind fun v103 h104 =>
 (call F.ζ2c [v103,v87] h104).bind fun v105 h106 =>
 K .normal [(2,v55),(3,a3),(4,a4),(6,a6),(7,v87),(8,a8),(10,v33),(11,v53),(14,v105)] h106):=by kernel_rfl
theorem ζd1 {β:Type} (k:Nat) (call:Caller) (e:Env) (h:Heap) (K:Kont β):pieceK (C k) call F.ζ0 [1,1,1,0,0,0,1,0,1,1,1,1,1,1,1,1,1,0,1,0,1] e h K = pieceK (C k) call F.ζ0 [1,1,1,0,0,0,1,0,1,1,1,1,1,1,1,1,1,0,1,0,1,0] e h (kSeq (pieceK (C k) call F.ζ0 [1,1,1,0,0,0,1,0,1,1,1,1,1,1,1,1,1,0,1,0,1,1]) K):=by kernel_rfl
theorem ζd2 {β:Type} (k:Nat) (call:Caller) (e:Env) (h:Heap) (K:Kont β):pieceK (C k) call F.ζ0 [1,1,1,0,0,0,1,0,1,1,1,1,1,1,1,1,1,0,1,0,1,0] e h K = pieceK (C k) call F.ζ0 [1,1,1,0,0,0,1,0,1,1,1,1,1,1,1,1,1,0,1,0,1,0,0] e h (kSeq (pieceK (C k) call F.ζ0 [1,1,1,0,0,0,1,0,1,1,1,1,1,1,1,1,1,0,1,0,1,0,1]) K):=by kernel_rfl
theorem ζd3 {β:Type} (k:Nat) (call:Caller) (v55 a3 a4 a6 v87 a8 v33 v53 v105:Value) (h106:Heap) (K:Kont β):pieceK (C k) call F.ζ0 [1,1,1,0,0,0,1,0,1,1,1,1,1,1,1,1,1,0,1,0,1,0,0] [(2,v55),(3,a3),(4,a4),(6,a6),(7,v87),(8,a8),(10,v33),(11,v53),(14,v105)] h106 K =
 (        (binR Prog .lss 3 v105 (.int .i64 0) h106).bind fun v107 h108 =>
 K .normal [(2,v55),(3,a3),(4,a4),(6,a6),(7,v87),(8,a8),(10,v33),(11,v53),(14,v105),(75,v107)] h108):=by kernel_rfl
theorem ζd4 {β:Type} (k:Nat) (call:Caller) (v55 a3 a4 a6 v87 a8 v33 v53 v105 v107:Value) (h108:Heap) (K:Kont β):pieceK (C k) call F.ζ0 [1,1,1,0,0,0,1,0,1,1,1,1,1,1,1,1,1,0,1,0,1,0,1] [(2,v55),(3,a3),(4,a4),(6,a6),(7,v87),(8,a8),(10,v33),(11,v53),(14,v105),(75,v107)] h108 K =
 (condV (some v107) (pieceK (C k) call F.ζ0 [1,1,1,0,0,0,1,0,1,1,1,1,1,1,1,1,1,0,1,0,1,0,1,0] [(2,v55),(3,a3),(4,a4),(6,a6),(7,v87),(8,a8),(10,v33),(11,v53),(14,v105),(75,v107)] h108 K) (pieceK (C k) call F.ζ0 [1,1,1,0,0,0,1,0,1,1,1,1,1,1,1,1,1,0,1,0,1,0,1,1] [(2,v55),(3,a3),(4,a4),(6,a6),(7,v87),(8,a8),(10,v33),(11,v53),(14,v105),(75,v107)] h108 K)):=by kernel_rfl
theorem ζd5 {β:Type} (k:Nat) (call:Caller) (e:Env) (h:Heap) (K:Kont β):pieceK (C k) call F.ζ0 [1,1,1,0,0,0,1,0,1,1,1,1,1,1,1,1,1,0,1,0,1,0,1,0] e h K = pieceK (C k) call F.ζ0 [1,1,1,0,0,0,1,0,1,1,1,1,1,1,1,1,1,0,1,0,1,0,1,0,0] e h (kSeq (pieceK (C k) call F.ζ0 [1,1,1,0,0,0,1,0,1,1,1,1,1,1,1,1,1,0,1,0,1,0,1,0,1]) K):=by kernel_rfl
theorem ζd6 {β:Type} (k:Nat) (call:Caller) (v55 a3 a4 a6 v87 a8 v33 v53 v105 v107:Value) (h108:Heap) (K:Kont β):pieceK (C k) call F.ζ0 [1,1,1,0,0,0,1,0,1,1,1,1,1,1,1,1,1,0,1,0,1,0,1,0,0] [(2,v55),(3,a3),(4,a4),(6,a6),(7,v87),(8,a8),(10,v33),(11,v53),(14,v105),(75,v107)] h108 K =
 (          (loadR Prog 235 a4 h108).bind fun v109 h110 =>
 (storeR Prog 235 a6 v109 h110).bind fun _v111 h112 =>
 K .normal [(6,a6)] h112):=by kernel_rfl
theorem ζd7 {β:Type} (k:Nat) (call:Caller) (e:Env) (h:Heap) (K:Kont β):pieceK (C k) call F.ζ0 [1,1,1,0,0,0,1,0,1,1,1,1,1,1,1,1,1,0,1,0,1,0,1,0,1] e h K = K .ret e h:=by kernel_rfl
theorem ζd8 {β:Type} (k:Nat) (call:Caller) (e:Env) (h:Heap) (K:Kont β):pieceK (C k) call F.ζ0 [1,1,1,0,0,0,1,0,1,1,1,1,1,1,1,1,1,0,1,0,1,0,1,1] e h K = K .normal e h:=by kernel_rfl
theorem ζd9 {β:Type} (k:Nat) (call:Caller) (e:Env) (h:Heap) (K:Kont β):pieceK (C k) call F.ζ0 [1,1,1,0,0,0,1,0,1,1,1,1,1,1,1,1,1,0,1,0,1,1] e h K = pieceK (C k) call F.ζ0 [1,1,1,0,0,0,1,0,1,1,1,1,1,1,1,1,1,0,1,0,1,1,0] e h (kSeq (pieceK (C k) call F.ζ0 [1,1,1,0,0,0,1,0,1,1,1,1,1,1,1,1,1,0,1,0,1,1,1]) K):=by kernel_rfl
theorem ζda {β:Type} (k:Nat) (call:Caller) (v55 a3 a4 a6 v87 a8 v33 v53 v105 v107:Value) (h108:Heap) (K:Kont β):pieceK (C k) call F.ζ0 [1,1,1,0,0,0,1,0,1,1,1,1,1,1,1,1,1,0,1,0,1,1,0] [(2,v55),(3,a3),(4,a4),(6,a6),(7,v87),(8,a8),(10,v33),(11,v53),(14,v105),(75,v107)] h108 K =
 (          (fieldAddrR Prog 235 a4 0 h108).bind fun v113 h114 =>
 (loadR Prog 22 v113 h114).bind fun v115 h116 =>
 (call F.ζ21 [v115,v33,v105] h116).bind fun v117 h118 =>
 (extractR v117 0 h118).bind fun v119 h120 =>
 (extractR v117 1 h120).bind fun v121 h122 =>
 (fieldAddrR Prog 235 a4 0 h122).bind fun v123 h124 =>
 (storeR Prog 22 v123 v119 h124).bind fun _v125 h126 =>
 K .normal [(2,v55),(3,a3),(4,a4),(6,a6),(7,v87),(8,a8),(10,v33),(11,v53)] h126):=by kernel_rfl
theorem ζdb {β:Type} (k:Nat) (call:Caller) (e:Env) (h:Heap) (K:Kont β):pieceK (C k) call F.ζ0 [1,1,1,0,0,0,1,0,1,1,1,1,1,1,1,1,1,0,1,0,1,1,1] e h K = pieceK (C k) call F.ζ0 [1,1,1,0,0,0,1,0,1,1,1,1,1,1,1,1,1,0,1,0,1,1,1,0] e h (kSeq (pieceK (C k) call F.ζ0 [1,1,1,0,0,0,1,0,1,1,1,1,1,1,1,1,1,0,1,0,1,1,1,1]) K):=by kernel_rfl
theorem ζdc {β:Type} (k:Nat) (call:Caller) (v55 a3 a4 a6 v87 a8 v33 v53:Value) (h126:Heap) (K:Kont β):pieceK (C k) call F.ζ0 [1,1,1,0,0,0,1,0,1,1,1,1,1,1,1,1,1,0,1,0,1,1,1,0] [(2,v55),(3,a3),(4,a4),(6,a6),(7,v87),(8,a8),(10,v33),(11,v53)] h126 K =
 (          (fieldAddrR Prog 235 a4 0 h126).bind fun v127 h128 =>
 (loadR Prog 22 v127 h128).bind fun v129 h130 =>
 (call F.ζy [v129,v33,a8] h130).bind fun v131 h132 =>
 (fieldAddrR Prog 235 a4 0 h132).bind fun v133 h134 =>
 (storeR Prog 22 v133 v131 h134).bind fun _v135 h136 =>
 K .normal [(2,v55),(3,a3),(4,a4),(6,a6),(7,v87),(8,a8),(10,v33),(11,v53)] h136):=by kernel_rfl
theorem ζdd {β:Type} (k:Nat) (call:Caller) (e:Env) (h:Heap) (K:Kont β):pieceK (C k) call F.ζ0 [1,1,1,0,0,0,1,0,1,1,1,1,1,1,1,1,1,0,1,0,1,1,1,1] e h K = pieceK (C k) call F.ζ0 [1,1,1,0,0,0,1,0,1,1,1,1,1,1,1,1,1,0,1,0,1,1,1,1,0] e h (kSeq (pieceK (C k) call F.ζ0 [1,1,1,0,0,0,1,0,1,1,1,1,1,1,1,1,1,0,1,0,1,1,1,1,1]) K):=by kernel_rfl
theorem ζde {β:Type} (k:Nat) (call:Caller) (e:Env) (h:Heap) (K:Kont β):pieceK (C k) call F.ζ0 [1,1,1,0,0,0,1,0,1,1,1,1,1,1,1,1,1,0,1,0,1,1,1,1,0] e h K = pieceK (C k) call F.ζ0 [1,1,1,0,0,0,1,0,1,1,1,1,1,1,1,1,1,0,1,0,1,1,1,1,0,0] e h (kSeq (pieceK (C k) call F.ζ0 [1,1,1,0,0,0,1,0,1,1,1,1,1,1,1,1,1,0,1,0,1,1,1,1,0,1]) K):=by kernel_rfl
theorem ζdf {β:Type} (k:Nat) (call:Caller) (v55 a3 a4 a6 v87 a8 v33 v53:Value) (h136:Heap) (K:Kont β):pieceK (C k) call F.ζ0 [1,1,1,0,0,0,1,0,1,1,1,1,1,1,1,1,1,0,1,0,1,1,1,1,0,0] [(2,v55),(3,a3),(4,a4),(6,a6),(7,v87),(8,a8),(10,v33),(11,v53)] h136 K =
 (          K .normal [(2,v55),(3,a3),(4,a4),(6,a6),(7,v87),(8,a8),(10,v33),(11,v53),(15,(.int .i64 0))] h136):=by kernel_rfl
theorem ζdg {β:Type} (k:Nat) (call:Caller) (e:Env) (h:Heap) (K:Kont β):pieceK (C k) call F.ζ0 [1,1,1,0,0,0,1,0,1,1,1,1,1,1,1,1,1,0,1,0,1,1,1,1,0,1] e h K = pieceK (C k) call F.ζ0 [1,1,1,0,0,0,1,0,1,1,1,1,1,1,1,1,1,0,1,0,1,1,1,1,0,1,0] e h (kBlock 2 K):=by kernel_rfl
theorem ζdh {β:Type} (k:Nat) (call:Caller) (v55 a3 a4 a6 v87 a8 v33 v53:Value) (h136:Heap) (K:Kont β):pieceK (C k) call F.ζ0 [1,1,1,0,0,0,1,0,1,1,1,1,1,1,1,1,1,0,1,0,1,1,1,1,0,1,0] [(2,v55),(3,a3),(4,a4),(6,a6),(7,v87),(8,a8),(10,v33),(11,v53),(15,(.int .i64 0))] h136 K =
 ((loopN (ζ2h k call) loopFuel [(2,v55),(3,a3),(4,a4),(6,a6),(7,v87),(8,a8),(10,v33),(11,v53),(15,(.int .i64 0))] h136).bind fun r137 h138 => K r137.1 r137.2 h138):=by kernel_rfl
theorem ζdi {β:Type} (k:Nat) (call:Caller) (e:Env) (h:Heap) (K:Kont β):pieceK (C k) call F.ζ0 [1,1,1,0,0,0,1,0,1,1,1,1,1,1,1,1,1,0,1,1] e h K = K .normal e h:=by kernel_rfl
theorem ζdj {β:Type} (k:Nat) (call:Caller) (e:Env) (h:Heap) (K:Kont β):pieceK (C k) call F.ζ0 [1,1,1,0,0,0,0,1,1] e h K = K (.exit 0) e h:=by kernel_rfl
theorem ζdk {β:Type} (k:Nat) (call:Caller) (e:Env) (h:Heap) (K:Kont β):pieceK (C k) call F.ζ0 [1,1,1,0,0,0,1,0,1,1,1,1,1,1,1,1,1,1] e h K = pieceK (C k) call F.ζ0 [1,1,1,0,0,0,1,0,1,1,1,1,1,1,1,1,1,1,0] e h (kSeq (pieceK (C k) call F.ζ0 [1,1,1,0,0,0,1,0,1,1,1,1,1,1,1,1,1,1,1]) K):=by kernel_rfl
theorem ζdl {β:Type} (k:Nat) (call:Caller) (e:Env) (h:Heap) (K:Kont β):pieceK (C k) call F.ζ0 [1,1,1,0,0,0,1,0,1,1,1,1,1,1,1,1,1,1,0] e h K = pieceK (C k) call F.ζ0 [1,1,1,0,0,0,1,0,1,1,1,1,1,1,1,1,1,1,0,0] e h (kSeq (pieceK (C k) call F.ζ0 [1,1,1,0,0,0,1,0,1,1,1,1,1,1,1,1,1,1,0,1]) K):=by kernel_rfl
theorem ζdm {β:Type} (k:Nat) (call:Caller) (a2 a3 a4 a6 a7 a8 a10 a11 a69:Value) (h:Heap) (K:Kont β):pieceK (C k) call F.ζ0 [1,1,1,0,0,0,1,0,1,1,1,1,1,1,1,1,1,1,0,0] [(2,a2),(3,a3),(4,a4),(6,a6),(7,a7),(8,a8),(10,a10),(11,a11),(69,a69)] h K =
 (  (call F.ζ1h [a11] h).bind fun v139 h140 =>
 K .normal [(2,a2),(3,a3),(4,a4),(6,a6),(7,a7),(8,a8),(10,a10),(111,v139)] h140):=by kernel_rfl
theorem ζdn {β:Type} (k:Nat) (call:Caller) (a2 a3 a4 a6 a7 a8 a10 v139:Value) (h140:Heap) (K:Kont β):pieceK (C k) call F.ζ0 [1,1,1,0,0,0,1,0,1,1,1,1,1,1,1,1,1,1,0,1] [(2,a2),(3,a3),(4,a4),(6,a6),(7,a7),(8,a8),(10,a10),(111,v139)] h140 K =
 (condV (some v139) (pieceK (C k) call F.ζ0 [1,1,1,0,0,0,1,0,1,1,1,1,1,1,1,1,1,1,0,1,0] [(2,a2),(3,a3),(4,a4),(6,a6),(7,a7),(8,a8),(10,a10),(111,v139)] h140 K) (pieceK (C k) call F.ζ0 [1,1,1,0,0,0,1,0,1,1,1,1,1,1,1,1,1,1,0,1,1] [(2,a2),(3,a3),(4,a4),(6,a6),(7,a7),(8,a8),(10,a10),(111,v139)] h140 K)):=by kernel_rfl
theorem ζdo {β:Type} (k:Nat) (call:Caller) (e:Env) (h:Heap) (K:Kont β):pieceK (C k) call F.ζ0 [1,1,1,0,0,0,1,0,1,1,1,1,1,1,1,1,1,1,0,1,0] e h K = pieceK (C k) call F.ζ0 [1,1,1,0,0,0,1,0,1,1,1,1,1,1,1,1,1,1,0,1,0,0] e h (kSeq (pieceK (C k) call F.ζ0 [1,1,1,0,0,0,1,0,1,1,1,1,1,1,1,1,1,1,0,1,0,1]) K):=by kernel_rfl
theorem ζdp {β:Type} (k:Nat) (call:Caller) (a2 a3 a4 a6 a7 a8 a10 v139:Value) (h140:Heap) (K:Kont β):pieceK (C k) call F.ζ0 [1,1,1,0,0,0,1,0,1,1,1,1,1,1,1,1,1,1,0,1,0,0] [(2,a2),(3,a3),(4,a4),(6,a6),(7,a7),(8,a8),(10,a10),(111,v139)] h140 K =
 (    (loadR Prog 235 a4 h140).bind fun v141 h142 =>
 (call F.ζg [v141,a10] h142).bind fun v143 h144 =>
 (storeR Prog 235 a6 v143 h144).bind fun _v145 h146 =>
 K .normal [(6,a6)] h146):=by kernel_rfl
theorem ζdq {β:Type} (k:Nat) (call:Caller) (e:Env) (h:Heap) (K:Kont β):pieceK (C k) call F.ζ0 [1,1,1,0,0,0,1,0,1,1,1,1,1,1,1,1,1,1,0,1,0,1] e h K = K .ret e h:=by kernel_rfl
theorem ζdr {β:Type} (k:Nat) (call:Caller) (e:Env) (h:Heap) (K:Kont β):pieceK (C k) call F.ζ0 [1,1,1,0,0,0,1,0,1,1,1,1,1,1,1,1,1,1,0,1,1] e h K = K .normal e h:=by kernel_rfl
theorem ζds {β:Type} (k:Nat) (call:Caller) (a2 a3 a4 a6 a7 a8 a10 v139:Value) (h140:Heap) (K:Kont β):pieceK (C k) call F.ζ0 [1,1,1,0,0,0,1,0,1,1,1,1,1,1,1,1,1,1,1] [(2,a2),(3,a3),(4,a4),(6,a6),(7,a7),(8,a8),(10,a10),(111,v139)] h140 K =
 (    (buildSliceR Prog 23 1 [(0,a10)] h140).bind fun v147 h148 =>
 (builtinV Prog .append [23,23] [a8,v147] h148).bind fun v149 h150 =>
 K .normal [(2,a2),(3,a3),(4,a4),(6,a6),(7,a7),(8,v149)] h150):=by kernel_rfl
theorem ζdt (k:Nat) (a2 a3 a4 a6 a7 v149:Value) (h150:Heap):kRound (ownOf (C k) F.ζ0 [1,1,1,0,0,0]) .normal [(2,a2),(3,a3),(4,a4),(6,a6),(7,a7),(8,v149)] h150 =
 (.ok (.normal,[(2,a2),(3,a3),(4,a4),(6,a6),(7,a7),(8,v149)]) h150):=by kernel_rfl
theorem ζdu {β:Type} (k:Nat) (call:Caller) (e:Env) (h:Heap) (K:Kont β):pieceK (C k) call F.ζ0 [1,1,1,0,0,0,1,0,1,1,1,1,1,1,1,1,1,0,1,0,1,1,1,1,0,1,0,0] e h K = pieceK (C k) call F.ζ0 [1,1,1,0,0,0,1,0,1,1,1,1,1,1,1,1,1,0,1,0,1,1,1,1,0,1,0,0,0] e h (kSeq (pieceK (C k) call F.ζ0 [1,1,1,0,0,0,1,0,1,1,1,1,1,1,1,1,1,0,1,0,1,1,1,1,0,1,0,0,1]) K):=by kernel_rfl
theorem ζdv {β:Type} (k:Nat) (call:Caller) (e:Env) (h:Heap) (K:Kont β):pieceK (C k) call F.ζ0 [1,1,1,0,0,0,1,0,1,1,1,1,1,1,1,1,1,0,1,0,1,1,1,1,0,1,0,0,0] e h K = pieceK (C k) call F.ζ0 [1,1,1,0,0,0,1,0,1,1,1,1,1,1,1,1,1,0,1,0,1,1,1,1,0,1,0,0,0,0] e h (kSeq (pieceK (C k) call F.ζ0 [1,1,1,0,0,0,1,0,1,1,1,1,1,1,1,1,1,0,1,0,1,1,1,1,0,1,0,0,0,1]) K):=by kernel_rfl
theorem ζdw {β:Type} (k:Nat) (call:Caller) (a2 a3 a4 a6 a7 a8 a10 a11 a15:Value) (h:Heap) (K:Kont β):pieceK (C k) call F.ζ0 [1,1,1,0,0,0,1,0,1,1,1,1,1,1,1,1,1,0,1,0,1,1,1,1,0,1,0,0,0,0] [(2,a2),(3,a3),(4,a4),(6,a6),(7,a7),(8,a8),(10,a10),(11,a11),(15,a15)] h K =
 (  (builtinV Prog .len [23] [a8] h).bind fun v151 h152 =>
 (binR Prog .lss 3 a15 v151 h152).bind fun v153 h154 =>
 K .normal [(2,a2),(3,a3),(4,a4),(6,a6),(7,a7),(8,a8),(10,a10),(11,a11),(15,a15),(95,v153)] h154):=by kernel_rfl
theorem ζdx {β:Type} (k:Nat) (call:Caller) (a2 a3 a4 a6 a7 a8 a10 a11 a15 v153:Value) (h154:Heap) (K:Kont β):pieceK (C k) call F.ζ0 [1,1,1,0,0,0,1,0,1,1,1,1,1,1,1,1,1,0,1,0,1,1,1,1,0,1,0,0,0,1] [(2,a2),(3,a3),(4,a4),(6,a6),(7,a7),(8,a8),(10,a10),(11,a11),(15,a15),(95,v153)] h154 K =
 (condV (some v153) (pieceK (C k) call F.ζ0 [1,1,1,0,0,0,1,0,1,1,1,1,1,1,1,1,1,0,1,0,1,1,1,1,0,1,0,0,0,1,0] [(2,a2),(3,a3),(4,a4),(6,a6),(7,a7),(8,a8),(10,a10),(11,a11),(15,a15),(95,v153)] h154 K) (pieceK (C k) call F.ζ0 [1,1,1,0,0,0,1,0,1,1,1,1,1,1,1,1,1,0,1,0,1,1,1,1,0,1,0,0,0,1,1] [(2,a2),(3,a3),(4,a4),(6,a6),(7,a7),(8,a8),(10,a10),(11,a11),(15,a15),(95,v153)] h154 K)):=by kernel_rfl
theorem ζdy {β:Type} (k:Nat) (call:Caller) (e:Env) (h:Heap) (K:Kont β):pieceK (C k) call F.ζ0 [1,1,1,0,0,0,1,0,1,1,1,1,1,1,1,1,1,0,1,0,1,1,1,1,0,1,0,0,0,1,0] e h K = K .normal e h:=by kernel_rfl
theorem ζdz {β:Type} (k:Nat) (call:Caller) (e:Env) (h:Heap) (K:Kont β):pieceK (C k) call F.ζ0 [1,1,1,0,0,0,1,0,1,1,1,1,1,1,1,1,1,0,1,0,1,1,1,1,0,1,0,0,1] e h K = pieceK (C k) call F.ζ0 [1,1,1,0,0,0,1,0,1,1,1,1,1,1,1,1,1,0,1,0,1,1,1,1,0,1,0,0,1,0] e h (kSeq (pieceK (C k) call F.ζ0 [1,1,1,0,0,0,1,0,1,1,1,1,1,1,1,1,1,0,1,0,1,1,1,1,0,1,0,0,1,1]) K):=by kernel_rfl
theorem ζe0 {β:Type} (k:Nat) (call:Caller) (e:Env) (h:Heap) (K:Kont β):pieceK (C k) call F.ζ0 [1,1,1,0,0,0,1,0,1,1,1,1,1,1,1,1,1,0,1,0,1,1,1,1,0,1,0,0,1,0] e h K = pieceK (C k) call F.ζ0 [1,1,1,0,0,0,1,0,1,1,1,1,1,1,1,1,1,0,1,0,1,1,1,1,0,1,0,0,1,0,0] e h (kBlock 3 K):=by kernel_rfl
theorem ζe1 {β:Type} (k:Nat) (call:Caller) (a2 a3 a4 a6 a7 a8 a10 a11 a15 v153:Value) (h154:Heap) (K:Kont β):pieceK (C k) call F.ζ0 [1,1,1,0,0,0,1,0,1,1,1,1,1,1,1,1,1,0,1,0,1,1,1,1,0,1,0,0,1,0,0] [(2,a2),(3,a3),(4,a4),(6,a6),(7,a7),(8,a8),(10,a10),(11,a11),(15,a15),(95,v153)] h154 K =
 (    (fieldAddrR Prog 235 a4 0 h154).bindN fun v155 h156 =>
 (loadR Prog 22 v155 h156).bindN fun v157 h158 =>
 (indexAddrR Prog 23 a8 a15 h158).bindN fun v159 h160 =>
 (loadR Prog 3 v159 h160).bindN fun v161 h162 =>
 (call F.ζ21 [v157,v161,(.int .i64 65535)] h162).bindT (fun p165 h166 => .panic p165 h166) fun v163 h164 =>
 (extractR v163 0 h164).bindN fun v167 h168 =>
 (extractR v163 1 h168).bindN fun v169 h170 =>
 (fieldAddrR Prog 235 a4 0 h170).bindN fun v171 h172 =>
 (storeR Prog 22 v171 v167 h172).bindN fun _v173 h174 =>
 K .normal [(2,a2),(3,a3),(4,a4),(6,a6),(7,a7),(8,a8),(10,a10),(11,a11),(15,a15)] h174):=by kernel_rfl
theorem ζe2 {β:Type} (k:Nat) (call:Caller) (a2 a3 a4 a6 a7 a8 a10 a11 a15:Value) (h174:Heap) (K:Kont β):pieceK (C k) call F.ζ0 [1,1,1,0,0,0,1,0,1,1,1,1,1,1,1,1,1,0,1,0,1,1,1,1,0,1,0,0,1,1] [(2,a2),(3,a3),(4,a4),(6,a6),(7,a7),(8,a8),(10,a10),(11,a11),(15,a15)] h174 K =
 (    (binR Prog .add 3 a15 (.int .i64 1) h174).bind fun v175 h176 =>
 K .normal [(2,a2),(3,a3),(4,a4),(6,a6),(7,a7),(8,a8),(10,a10),(11,a11),(15,v175)] h176):=by kernel_rfl
theorem ζe3 (k:Nat) (a2 a3 a4 a6 a7 a8 a10 a11 v175:Value) (h176:Heap):kRound (ownOf (C k) F.ζ0 [1,1,1,0,0,0,1,0,1,1,1,1,1,1,1,1,1,0,1,0,1,1,1,1,0,1,0,0]) .normal [(2,a2),(3,a3),(4,a4),(6,a6),(7,a7),(8,a8),(10,a10),(11,a11),(15,v175)] h176 =
 (.ok (.normal,[(2,a2),(3,a3),(4,a4),(6,a6),(7,a7),(8,a8),(10,a10),(11,a11),(15,v175)]) h176):=by kernel_rfl
theorem ζe4 {β:Type} (k:Nat) (call:Caller) (e:Env) (h:Heap) (K:Kont β):pieceK (C k) call F.ζ0 [1,1,1,0,0,0,1,0,1,1,1,1,1,1,1,1,1,0,1,0,1,1,1,1,0,1,0,0,0,1,1] e h K = K (.exit 2) e h:=by kernel_rfl
theorem ζe5 (a6:Value) (h:Heap):kDone Prog (resOf Prog F.ζ0) .ret [(6,a6)] h =
 (  (loadR Prog 235 a6 h).bind fun v177 h178 =>
 .ok v177 h178):=by kernel_rfl
theorem ζe6 {β:Type} (k:Nat) (call:Caller) (e:Env) (h:Heap) (K:Kont β):pieceK (C k) call F.ζ0 [1,1,1,1] e h K = pieceK (C k) call F.ζ0 [1,1,1,1,0] e h (kSeq (pieceK (C k) call F.ζ0 [1,1,1,1,1]) K):=by kernel_rfl
theorem ζe7 {β:Type} (k:Nat) (call:Caller) (a2 a3 a4 a6 a7 a8 a20:Value) (h:Heap) (K:Kont β):pieceK (C k) call F.ζ0 [1,1,1,1,0] [(2,a2),(3,a3),(4,a4),(6,a6),(7,a7),(8,a8),(20,a20)] h K =
 (  (loadR Prog 235 a4 h).bind fun v179 h180 =>
 (storeR Prog 235 a6 v179 h180).bind fun _v181 h182 =>
 K .normal [(6,a6)] h182):=by kernel_rfl
theorem ζe8 {β:Type} (k:Nat) (call:Caller) (e:Env) (h:Heap) (K:Kont β):pieceK (C k) call F.ζ0 [1,1,1,1,1] e h K = K .ret e h:=by kernel_rfl
theorem ζe9 (a6:Value) (h182:Heap):kDone Prog (resOf Prog F.ζ0) .ret [(6,a6)] h182 =
 (  (loadR Prog 235 a6 h182).bind fun v183 h184 =>
 .ok v183 h184):=by kernel_rfl
theorem ζea {β:Type} (k:Nat) (call:Caller) (a2 a3 a4 a6 a7 a8 a10 a11 a15 a95:Value) (h:Heap) (K:Kont β):pieceK (C k) call F.ζ0 [1,1,1,0,0,0,1,0,1,1,1,1,1,1,1,1,1,0,1,0,1,1,1,1,1] [(2,a2),(3,a3),(4,a4),(6,a6),(7,a7),(8,a8),(10,a10),(11,a11),(15,a15),(95,a95)] h K =
 (  (buildSliceR Prog 23 0 [] h).bind fun v185 h186 =>
 K .normal [(2,a2),(3,a3),(4,a4),(6,a6),(7,a7),(8,v185),(10,a10),(11,a11)] h186):=by kernel_rfl
theorem ζeb {β:Type} (k:Nat) (call:Caller) (e:Env) (h:Heap) (K:Kont β):pieceK (C k) call F.ζ0 [1,1,1,0,0,0,1,0,1,1,1,1,1,1,1,1,1,1] e h K = pieceK (C k) call F.ζ0 [1,1,1,0,0,0,1,0,1,1,1,1,1,1,1,1,1,1,0] e h (kSeq (pieceK (C k) call F.ζ0 [1,1,1,0,0,0,1,0,1,1,1,1,1,1,1,1,1,1,1]) K):=by kernel_rfl
theorem ζec {β:Type} (k:Nat) (call:Caller) (e:Env) (h:Heap) (K:Kont β):pieceK (C k) call F.ζ0 [1,1,1,0,0,0,1,0,1,1,1,1,1,1,1,1,1,1,0] e h K = pieceK (C k) call F.ζ0 [1,1,1,0,0,0,1,0,1,1,1,1,1,1,1,1,1,1,0,0] e h (kSeq (pieceK (C k) call F.ζ0 [1,1,1,0,0,0,1,0,1,1,1,1,1,1,1,1,1,1,0,1]) K):=by kernel_rfl
theorem ζed {β:Type} (k:Nat) (call:Caller) (a2 a3 a4 a6 a7 a8 a10 a11:Value) (h:Heap) (K:Kont β):pieceK (C k) call F.ζ0 [1,1,1,0,0,0,1,0,1,1,1,1,1,1,1,1,1,1,0,0] [(2,a2),(3,a3),(4,a4),(6,a6),(7,a7),(8,a8),(10,a10),(11,a11)] h K =
 (  (call F.ζ1h [a11] h).bind fun v187 h188 =>
 K .normal [(2,a2),(3,a3),(4,a4),(6,a6),(7,a7),(8,a8),(10,a10),(111,v187)] h188):=by kernel_rfl
theorem ζee {β:Type} (k:Nat) (call:Caller) (a2 a3 a4 a6 a7 a8 a10 v187:Value) (h188:Heap) (K:Kont β):pieceK (C k) call F.ζ0 [1,1,1,0,0,0,1,0,1,1,1,1,1,1,1,1,1,1,0,1] [(2,a2),(3,a3),(4,a4),(6,a6),(7,a7),(8,a8),(10,a10),(111,v187)] h188 K =
 (condV (some v187) (pieceK (C k) call F.ζ0 [1,1,1,0,0,0,1,0,1,1,1,1,1,1,1,1,1,1,0,1,0] [(2,a2),(3,a3),(4,a4),(6,a6),(7,a7),(8,a8),(10,a10),(111,v187)] h188 K) (pieceK (C k) call F.ζ0 [1,1,1,0,0,0,1,0,1,1,1,1,1,1,1,1,1,1,0,1,1] [(2,a2),(3,a3),(4,a4),(6,a6),(7,a7),(8,a8),(10,a10),(111,v187)] h188 K)):=by kernel_rfl
theorem ζef {β:Type} (k:Nat) (call:Caller) (e:Env) (h:Heap) (K:Kont β):pieceK (C k) call F.ζ0 [1,1,1,0,0,0,1,0,1,1,1,1,1,1,1,1,1,1,0,1,0] e h K = pieceK (C k) call F.ζ0 [1,1,1,0,0,0,1,0,1,1,1,1,1,1,1,1,1,1,0,1,0,0] e h (kSeq (pieceK (C k) call F.ζ0 [1,1,1,0,0,0,1,0,1,1,1,1,1,1,1,1,1,1,0,1,0,1]) K):=by kernel_rfl
theorem ζeg {β:Type} (k:Nat) (call:Caller) (a2 a3 a4 a6 a7 a8 a10 v187:Value) (h188:Heap) (K:Kont β):pieceK (C k) call F.ζ0 [1,1,1,0,0,0,1,0,1,1,1,1,1,1,1,1,1,1,0,1,0,0] [(2,a2),(3,a3),(4,a4),(6,a6),(7,a7),(8,a8),(10,a10),(111,v187)] h188 K =
 (    (loadR Prog 235 a4 h188).bind fun v189 h190 =>
 (call F.ζg [v189,a10] h190).bind fun v191 h192 =>
 (storeR Prog 235 a6 v191 h192).bind fun _v193 h194 =>
 K .normal [(6,a6)] h194):=by kernel_rfl
theorem ζeh {β:Type} (k:Nat) (call:Caller) (e:Env) (h:Heap) (K:Kont β):pieceK (C k) call F.ζ0 [1,1,1,0,0,0,1,0,1,1,1,1,1,1,1,1,1,1,0,1,0,1] e h K = K .ret e h:=by kernel_rfl
theorem ζei {β:Type} (k:Nat) (call:Caller) (e:Env) (h:Heap) (K:Kont β):pieceK (C k) call F.ζ0 [1,1,1,0,0,0,1,0,1,1,1,1,1,1,1,1,1,1,0,1,1] e h K = K .normal e h:=by kernel_rfl
theorem ζbe {β:Type} (k:Nat) (call:Caller) (a2 a3 a4 a6 a7 a8 a10 v187:Value) (h188:Heap) (K:Kont β):pieceK (C k) call F.ζ0 [1,1,1,0,0,0,1,0,1,1,1,1,1,1,1,1,1,1,1] [(2,a2),(3,a3),(4,a4),(6,a6),(7,a7),(8,a8),(10,a10),(111,v187)] h188 K =
 (    (buildSliceR Prog 23 1 [(0,a10)] h188).bind fun v195 h196 =>
 (builtinV Prog .append [23,23] [a8,v195] h196).bind fun v197 h198 =>
 K .normal [(2,a2),(3,a3),(4,a4),(6,a6),(7,a7),(8,v197)] h198):=by kernel_rfl
theorem ζbf (k:Nat) (a2 a3 a4 a6 a7 v197:Value) (h198:Heap):kRound (ownOf (C k) F.ζ0 [1,1,1,0,0,0]) .normal [(2,a2),(3,a3),(4,a4),(6,a6),(7,a7),(8,v197)] h198 =
 (.ok (.normal,[(2,a2),(3,a3),(4,a4),(6,a6),(7,a7),(8,v197)]) h198):=by kernel_rfl
theorem ζbd (k:Nat) (call:Caller) (a0 a1 a2:Value) (h:Heap):bodyK (C k) call F.ζ0 [a0,a1,a2] h = pieceK (C k) call F.ζ0 [] [(0,a0),(1,a1),(2,a2)] h (kDone Prog (resOf Prog F.ζ0)):=by kernel_rfl
theorem ζfi (k:Nat) (call:Caller) (a0 a1 a2:Value) (h:Heap):bodyK (C k) call F.ζ0 [a0,a1,a2] h = ζ0 k call a0 a1 a2 h:=by
 rw [ζbd];simp only [ζl,ζfj,ζfk,ζfl,ζfm,ζfn,ζfo,ζfp,ζfq,ζfr,ζ0,ζ15,ζ17,ζ16,ζ10,ζ12,ζ11,ζ14,ζ13,Nat.reduceBEq,cond_true,cond_false]
theorem ζge (k:Nat) (a0 a1 a2:Value) (h:Heap):R (T k) F.ζ0 [a0,a1,a2] h = nrm .fz h (ζ0 k (R (T k)) a0 a1 a2 h) :=
 (R_body (t:=T k) (T_scott k) (by kernel_rfl) (by kernel_rfl) _ _).trans (congrArg (nrm .fz h) (ζfi k (R (T k)) a0 a1 a2 h))
theorem ζ1j (k:Nat) (call:Caller) (a2 a3 a4 a6 a7 a8:Value) (h:Heap):ζ37 k call [(2,a2),(3,a3),(4,a4),(6,a6),(7,a7),(8,a8)] h =
 (fieldAddrR Prog 235 a4 1 h).bind fun v11 h12 =>
 (loadR Prog 23 v11 h12).bind fun v13 h14 =>
 (builtinV Prog .len [23] [v13] h14).bind fun v15 h16 =>
 (binR Prog .gtr 3 v15 (.int .i64 0) h16).bind fun v17 h18 =>
 condV (some v17) (
 (fieldAddrR Prog 235 a4 1 h18).bind fun v19 h20 =>
 (loadR Prog 23 v19 h20).bind fun v21 h22 =>
 (builtinV Prog .len [23] [v21] h22).bind fun v23 h24 =>
 (fieldAddrR Prog 235 a4 1 h24).bind fun v25 h26 =>
 (loadR Prog 23 v25 h26).bind fun v27 h28 =>
 (binR Prog .sub 3 v23 (.int .i64 1) h28).bind fun v29 h30 =>
 (indexAddrR Prog 23 v27 v29 h30).bind fun v31 h32 =>
 (loadR Prog 3 v31 h32).bind fun v33 h34 =>
 (fieldAddrR Prog 235 a4 1 h34).bind fun v35 h36 =>
 (loadR Prog 23 v35 h36).bind fun v37 h38 =>
 (binR Prog .sub 3 v23 (.int .i64 1) h38).bind fun v39 h40 =>
 (sliceR Prog 23 v37 none (some v39) none h40).bind fun v41 h42 =>
 (fieldAddrR Prog 235 a4 1 h42).bind fun v43 h44 =>
 (storeR Prog 23 v43 v41 h44).bind fun _v45 h46 =>
 (fieldAddrR Prog 117 a3 1 h46).bind fun v47 h48 =>
 (loadR Prog 31 v47 h48).bind fun v49 h50 =>
 (binR Prog .mul 3 (.int .i64 4) a2 h50).bind fun v51 h52 =>
 (call F.ζ2 [v49,v51,(.int .i64 4)] h52).bind fun v53 h54 =>
 (binR Prog .add 3 a2 (.int .i64 1) h54).bind fun v55 h56 =>
 (fieldAddrR Prog 117 a3 2 h56).bindN fun v57 h58 =>
 (loadR Prog 31 v57 h58).bindN fun v59 h60 =>
 (fieldAddrR Prog 235 a4 0 h60).bindN fun v61 h62 =>
 (loadR Prog 22 v61 h62).bindN fun v63 h64 =>
 (indexAddrR Prog 22 v63 v33 h64).bindN fun v65 h66 =>
 (fieldAddrR Prog 57 v65 0 h66).bindN fun v67 h68 =>
 (loadR Prog 3 v67 h68).bindN fun v69 h70 =>
 (call F.ζ23 [v53] h70).bindT (fun p73 h74 => .panic p73 h74) fun v71 h72 =>
 (binR Prog .add 3 v69 v71 h72).bindN fun v75 h76 =>
 (call F.ζ2c [v59,v75] h76).bindT (fun p79 h80 => chkR ((okVal (loadR Prog 31 v57 h72) v59 && true) && ((okVal (loadR Prog 22 v61 h72) v63 && true) && ((okVal (loadR Prog 3 v67 h72) v69 && true) && true))) (.panic p79 h80)) fun v77 h78 =>
 chkR ((okVal (loadR Prog 31 v57 h72) v59 && true) && ((okVal (loadR Prog 22 v61 h72) v63 && true) && ((okVal (loadR Prog 3 v67 h72) v69 && true) && true))) (
 (binR Prog .lss 3 v77 (.int .i64 0) h78).bind fun v81 h82 =>
 condV (some v81) (
 (loadR Prog 235 a4 h82).bind fun v83 h84 =>
 (storeR Prog 235 a6 v83 h84).bind fun _v85 h86 =>
 .ok (.ret,[(6,a6)]) h86)
 (
 (binR Prog .add 3 a7 v77 h82).bind fun v87 h88 =>
 (call F.ζ1h [v53] h88).bind fun v89 h90 =>
 ((bif wantVal v89 false then Res.ok v53 h90 else Res.ok undef h90)).bind fun v91 h92 =>
 ((bif wantVal v89 false then binR Prog .quo 3 v91 (.int .i64 1073741824) h92 else Res.ok undef h92)).bind fun v93 h94 =>
 ((bif wantVal v89 false then binR Prog .rem 3 v93 (.int .i64 2) h94 else Res.ok undef h94)).bind fun v95 h96 =>
 ((bif wantVal v89 false then binR Prog .eql 3 v95 (.int .i64 1) h96 else Res.ok undef h96)).bind fun v97 h98 =>
 (condV (some v89) (Res.ok (.bool true) h98) (Res.ok v97 h98)).bind fun v99 h100 =>
 condV (some v99) (
 (fieldAddrR Prog 117 a3 3 h100).bind fun v101 h102 =>
 (loadR Prog 31 v101 h102).bind fun v103 h104 =>
 (call F.ζ2c [v103,v87] h104).bind fun v105 h106 =>
 (binR Prog .lss 3 v105 (.int .i64 0) h106).bind fun v107 h108 =>
 condV (some v107) (
 (loadR Prog 235 a4 h108).bind fun v109 h110 =>
 (storeR Prog 235 a6 v109 h110).bind fun _v111 h112 =>
 .ok (.ret,[(6,a6)]) h112)
 (
 (fieldAddrR Prog 235 a4 0 h108).bind fun v113 h114 =>
 (loadR Prog 22 v113 h114).bind fun v115 h116 =>
 (call F.ζ21 [v115,v33,v105] h116).bind fun v117 h118 =>
 (extractR v117 0 h118).bind fun v119 h120 =>
 (extractR v117 1 h120).bind fun v121 h122 =>
 (fieldAddrR Prog 235 a4 0 h122).bind fun v123 h124 =>
 (storeR Prog 22 v123 v119 h124).bind fun _v125 h126 =>
 (fieldAddrR Prog 235 a4 0 h126).bind fun v127 h128 =>
 (loadR Prog 22 v127 h128).bind fun v129 h130 =>
 (call F.ζy [v129,v33,a8] h130).bind fun v131 h132 =>
 (fieldAddrR Prog 235 a4 0 h132).bind fun v133 h134 =>
 (storeR Prog 22 v133 v131 h134).bind fun _v135 h136 =>
 (loopN (ζ2h k call) loopFuel [(2,v55),(3,a3),(4,a4),(6,a6),(7,v87),(8,a8),(10,v33),(11,v53),(15,(.int .i64 0))] h136).bind fun r137 h138 =>
 ζt k call r137.1 r137.2 h138))
 (
 ζu k call v55 a3 a4 a6 v87 a8 v33 v53 v99 h100))))
 (
 .ok ((.exit 0),[(2,a2),(3,a3),(4,a4),(6,a6),(7,a7),(8,a8),(20,v17)]) h18) :=
 (loopB_eq _ _).trans (by simp only [ζu,ζt,ζl,ζc1,ζc2,ζc3,ζc4,ζc5,ζc6,ζc7,ζc8,ζc9,ζca,ζcb,ζcc,ζcd,ζce,ζcf,ζcg,ζch,ζci,ζcj,ζck,ζcl,ζcm,ζcn,ζco,ζcp,ζcq,ζcr,ζcs,ζct,ζcu,ζcv,ζcw,ζcx,ζcy,ζcz,ζd0,ζd1,ζd2,ζd3,ζd4,ζd5,ζd6,ζd7,ζd8,ζd9,ζda,ζdb,ζdc,ζdd,ζde,ζdf,ζdg,ζdh,ζdi,ζdj,ζ0,ζ15,ζ17,ζ16,ζ10,ζ12,ζ11,ζ14,ζ13,Nat.reduceBEq,cond_true,cond_false])
theorem ζar (k:Nat) (call:Caller) (a2 a3 a4 a6 a7 a8 a10 a11 a69:Value) (h:Heap):ζu k call a2 a3 a4 a6 a7 a8 a10 a11 a69 h =
 (call F.ζ1h [a11] h).bind fun v139 h140 =>
 condV (some v139) (
 (loadR Prog 235 a4 h140).bind fun v141 h142 =>
 (call F.ζg [v141,a10] h142).bind fun v143 h144 =>
 (storeR Prog 235 a6 v143 h144).bind fun _v145 h146 =>
 .ok (.ret,[(6,a6)]) h146)
 (
 (buildSliceR Prog 23 1 [(0,a10)] h140).bind fun v147 h148 =>
 (builtinV Prog .append [23,23] [a8,v147] h148).bind fun v149 h150 =>
 .ok (.normal,[(2,a2),(3,a3),(4,a4),(6,a6),(7,a7),(8,v149)]) h150):=by simp only [ζu,ζt,ζl,ζdk,ζdl,ζdm,ζdn,ζdo,ζdp,ζdq,ζdr,ζds,ζdt,ζ0,ζ15,ζ17,ζ16,ζ10,ζ12,ζ11,ζ14,ζ13,Nat.reduceBEq,cond_true,cond_false]
theorem ζ5r (k:Nat) (call:Caller) (a2 a3 a4 a6 a7 a8 a10 a11 a15:Value) (h:Heap):ζ2h k call [(2,a2),(3,a3),(4,a4),(6,a6),(7,a7),(8,a8),(10,a10),(11,a11),(15,a15)] h =
 (builtinV Prog .len [23] [a8] h).bind fun v151 h152 =>
 (binR Prog .lss 3 a15 v151 h152).bind fun v153 h154 =>
 condV (some v153) (
 (fieldAddrR Prog 235 a4 0 h154).bindN fun v155 h156 =>
 (loadR Prog 22 v155 h156).bindN fun v157 h158 =>
 (indexAddrR Prog 23 a8 a15 h158).bindN fun v159 h160 =>
 (loadR Prog 3 v159 h160).bindN fun v161 h162 =>
 (call F.ζ21 [v157,v161,(.int .i64 65535)] h162).bindT (fun p165 h166 => .panic p165 h166) fun v163 h164 =>
 (extractR v163 0 h164).bindN fun v167 h168 =>
 (extractR v163 1 h168).bindN fun v169 h170 =>
 (fieldAddrR Prog 235 a4 0 h170).bindN fun v171 h172 =>
 (storeR Prog 22 v171 v167 h172).bindN fun _v173 h174 =>
 (binR Prog .add 3 a15 (.int .i64 1) h174).bind fun v175 h176 =>
 .ok (.normal,[(2,a2),(3,a3),(4,a4),(6,a6),(7,a7),(8,a8),(10,a10),(11,a11),(15,v175)]) h176)
 (
 .ok ((.exit 2),[(2,a2),(3,a3),(4,a4),(6,a6),(7,a7),(8,a8),(10,a10),(11,a11),(15,a15),(95,v153)]) h154) :=
 (loopB_eq _ _).trans (by simp only [ζu,ζt,ζl,ζdu,ζdv,ζdw,ζdx,ζdy,ζdz,ζe0,ζe1,ζe2,ζe3,ζe4,ζ0,ζ15,ζ17,ζ16,ζ10,ζ12,ζ11,ζ14,ζ13,Nat.reduceBEq,cond_true,cond_false])
theorem ζas (k:Nat) (call:Caller) (a6:Value) (h:Heap):ζl k call .ret [(6,a6)] h =
 (loadR Prog 235 a6 h).bind fun v177 h178 =>
 .ok v177 h178:=by simp only [ζu,ζt,ζl,ζe5,ζ0,ζ15,ζ17,ζ16,ζ10,ζ12,ζ11,ζ14,ζ13,Nat.reduceBEq,cond_true,cond_false]
theorem ζa9 (k:Nat) (call:Caller) (a2 a3 a4 a6 a7 a8 a20:Value) (h:Heap):ζl k call (.exit 0) [(2,a2),(3,a3),(4,a4),(6,a6),(7,a7),(8,a8),(20,a20)] h =
 (loadR Prog 235 a4 h).bind fun v179 h180 =>
 (storeR Prog 235 a6 v179 h180).bind fun _v181 h182 =>
 (loadR Prog 235 a6 h182).bind fun v183 h184 =>
 .ok v183 h184:=by simp only [ζu,ζt,ζl,ζe6,ζe7,ζe8,ζe9,ζ0,ζ15,ζ17,ζ16,ζ10,ζ12,ζ11,ζ14,ζ13,Nat.reduceBEq,cond_true,cond_false]
theorem ζ4z (k:Nat) (call:Caller) (a2 a3 a4 a6 a7 a8 a10 a11 a15 a95:Value) (h:Heap):ζt k call (.exit 2) [(2,a2),(3,a3),(4,a4),(6,a6),(7,a7),(8,a8),(10,a10),(11,a11),(15,a15),(95,a95)] h =
 (buildSliceR Prog 23 0 [] h).bind fun v185 h186 =>
 ζ36 k call a2 a3 a4 a6 a7 v185 a10 a11 h186:=by simp only [ζ36,ζu,ζt,ζl,ζea,ζ0,ζ15,ζ17,ζ16,ζ10,ζ12,ζ11,ζ14,ζ13,Nat.reduceBEq,cond_true,cond_false]
theorem ζ5q (k:Nat) (call:Caller) (a2 a3 a4 a6 a7 a8 a10 a11:Value) (h:Heap):ζ36 k call a2 a3 a4 a6 a7 a8 a10 a11 h =
 (call F.ζ1h [a11] h).bind fun v187 h188 =>
 condV (some v187) (
 (loadR Prog 235 a4 h188).bind fun v189 h190 =>
 (call F.ζg [v189,a10] h190).bind fun v191 h192 =>
 (storeR Prog 235 a6 v191 h192).bind fun _v193 h194 =>
 .ok (.ret,[(6,a6)]) h194)
 (
 (buildSliceR Prog 23 1 [(0,a10)] h188).bind fun v195 h196 =>
 (builtinV Prog .append [23,23] [a8,v195] h196).bind fun v197 h198 =>
 .ok (.normal,[(2,a2),(3,a3),(4,a4),(6,a6),(7,a7),(8,v197)]) h198):=by simp only [ζ36,ζu,ζt,ζl,ζeb,ζec,ζed,ζee,ζef,ζeg,ζeh,ζei,ζbe,ζbf,ζ0,ζ15,ζ17,ζ16,ζ10,ζ12,ζ11,ζ14,ζ13,Nat.reduceBEq,cond_true,cond_false]
def ζ2c (k:Nat) (call:Caller) (a0 a1:Value) (h:Heap):Res Value :=
 (binR Prog .lss 3 a1 (.int .i64 0) h).bind fun v1 h2 =>
 ((bif wantVal v1 false then Res.ok a1 h2 else Res.ok undef h2)).bind fun v3 h4 =>
 ((bif wantVal v1 false then Res.ok a0 h4 else Res.ok undef h4)).bind fun v5 h6 =>
 ((bif wantVal v1 false then builtinV Prog .len [31] [v5] h6 else Res.ok undef h6)).bind fun v7 h8 =>
 ((bif wantVal v1 false then binR Prog .gtr 3 v3 v7 h8 else Res.ok undef h8)).bind fun v9 h10 =>
 (condV (some v1) (Res.ok (.bool true) h10) (Res.ok v9 h10)).bind fun v11 h12 =>
 condV (some v11) (
 .ok (.int .i64 (-1)) h12)
 (
 (binR Prog .mul 3 (.int .i64 2) a1 h12).bind fun v13 h14 =>
 (call F.ζ2 [a0,v13,(.int .i64 2)] h14).bind fun v15 h16 =>
 .ok v15 h16)
theorem ζkz (k:Nat) (a0 a1:Value) (h:Heap):R (T k) F.ζ2c [a0,a1] h = nrm .gc h (ζ2c k (R (T k)) a0 a1 h) :=
 (R_body (t:=T k) (T_scott k) (by kernel_rfl) (by kernel_rfl) _ _).trans (by kernel_rfl)
def ζ23 (k:Nat) (call:Caller) (a0:Value) (h:Heap):Res Value :=
 (binR Prog .rem 3 a0 (.int .i64 1073741824) h).bind fun v1 h2 =>
 (binR Prog .geq 3 v1 (.int .i64 536870912) h2).bind fun v3 h4 =>
 condV (some v3) (
 (binR Prog .sub 3 v1 (.int .i64 1073741824) h4).bind fun v5 h6 =>
 .ok v5 h6)
 (
 .ok v1 h4)
theorem ζh7 (k:Nat) (a0:Value) (h:Heap):R (T k) F.ζ23 [a0] h = nrm .gc h (ζ23 k (R (T k)) a0 h) :=
 (R_body (t:=T k) (T_scott k) (by kernel_rfl) (by kernel_rfl) _ _).trans (by kernel_rfl)
end
end Go.Sw
end
