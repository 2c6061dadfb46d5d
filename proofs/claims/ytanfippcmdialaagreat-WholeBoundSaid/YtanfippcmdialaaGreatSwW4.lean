/-
  Functions' forms, and what is proved of them, part 4.
-/
import Derived.Test.YtanfippcmdialaaGreatSwCfg
import Derived.Test.YtanfippcmdialaaGreatSwW2
import Derived.Test.YtanfippcmdialaaGreatSwW3
set_option linter.unusedSimpArgs false
set_option linter.unusedVariables false
set_option linter.unusedSectionVars false
section
set_option maxRecDepth 100000
set_option linter.unusedVariables false
namespace Go.Sw
noncomputable section
def ζ3q (k:Nat) (call:Caller):Env → Heap → Res (AExit × Env):=loopB (C k) call F.ζ1x [1,1,1,1,1,1,0,0,0]
def ζa6 (k:Nat) (call:Caller):Kont Value:=kBlock 0 (kSeq (pieceK (C k) call F.ζ1x [1,1,1,1,1,1,1]) (kDone Prog (resOf Prog F.ζ1x)))
def ζ3r (k:Nat) (call:Caller):Env → Heap → Res (AExit × Env):=loopB (C k) call F.ζ1x [1,1,1,1,1,1,0,0,0,1,0,0,0,0]
def ζ76 (k:Nat) (call:Caller):Kont (AExit × Env):=kBlock 2 (kSeq (pieceK (C k) call F.ζ1x [1,1,1,1,1,1,0,0,0,1,0,1]) (kBlock 1 (kRound (ownOf (C k) F.ζ1x [1,1,1,1,1,1,0,0,0]))))
def ζ3s (k:Nat) (call:Caller):Env → Heap → Res (AExit × Env):=loopB (C k) call F.ζ1x [1,1,1,1,1,1,0,0,0,1,0,1,0,0]
def ζ77 (k:Nat) (call:Caller):Kont (AExit × Env):=kBlock 4 (kBlock 1 (kRound (ownOf (C k) F.ζ1x [1,1,1,1,1,1,0,0,0])))
def ζ1x (k:Nat) (call:Caller) (a0 a1 a2:Value) (h:Heap):Res Value :=
 (boxR a0 h).bind fun v1 h2 =>
 (loadR Prog 113 v1 h2).bind fun v3 h4 =>
 (call F.ζb [v3,(.int .i64 0)] h4).bind fun v5 h6 =>
 (binR Prog .geq 3 v5 (.int .i64 4) h6).bind fun v7 h8 =>
 ((bif wantVal v7 true then Res.ok v5 h8 else Res.ok undef h8)).bind fun v9 h10 =>
 ((bif wantVal v7 true then binR Prog .leq 3 v9 (.int .i64 65535) h10 else Res.ok undef h10)).bind fun v11 h12 =>
 (condV (some v7) (Res.ok v11 h12) (Res.ok (.bool false) h12)).bind fun v13 h14 =>
 (call F.ζ1n [v13] h14).bind fun v15 h16 =>
 (loadR Prog 113 v1 h16).bindN fun v17 h18 =>
 (loadR Prog 113 v1 h18).bindN fun v19 h20 =>
 (call F.ζb [v19,(.int .i64 4)] h20).bindT (fun p23 h24 => .panic p23 h24) fun v21 h22 =>
 (call F.ζg [v17,v21] h22).bindT (fun p27 h28 => chkR ((okVal (loadR Prog 113 v1 h22) v17 && true) && true) (.panic p27 h28)) fun v25 h26 =>
 (call F.ζ1g [v25,a1,(.int .i64 2)] h26).bindT (fun p31 h32 => chkR ((okVal (loadR Prog 113 v1 h22) v17 && true) && true) (.panic p31 h32)) fun v29 h30 =>
 (buildR Prog 259 [(0,v5),(1,v29)] h30).bindN fun v33 h34 =>
 (boxR v33 h34).bindN fun v35 h36 =>
 chkR ((okVal (loadR Prog 113 v1 h22) v17 && true) && true) (
 (loadR Prog 113 v1 h36).bindN fun v37 h38 =>
 (loadR Prog 113 v1 h38).bindN fun v39 h40 =>
 (call F.ζb [v39,(.int .i64 8)] h40).bindT (fun p43 h44 => (loadR Prog 113 v1 h40).bindN fun v45 h46 => (loadR Prog 113 v1 h46).bindN fun v47 h48 => (allocR Prog 261 h48).bindN fun v49 h50 => chkR ((okVal (loadR Prog 113 v1 h36) v45 && true) && ((okVal (loadR Prog 113 v1 h36) v47 && true) && true)) (.panic p43 h44)) fun v41 h42 =>
 (call F.ζg [v37,v41] h42).bindT (fun p53 h54 => (loadR Prog 113 v1 h42).bindN fun v55 h56 => (loadR Prog 113 v1 h56).bindN fun v57 h58 => (allocR Prog 261 h58).bindN fun v59 h60 => chkR ((okVal (loadR Prog 113 v1 h42) v37 && true) && ((okVal (loadR Prog 113 v1 h36) v55 && (okVal (loadR Prog 113 v1 h42) v55 && true)) && ((okVal (loadR Prog 113 v1 h36) v57 && (okVal (loadR Prog 113 v1 h42) v57 && true)) && true))) (.panic p53 h54)) fun v51 h52 =>
 (loadR Prog 113 v1 h52).bindN fun v61 h62 =>
 (loadR Prog 113 v1 h62).bindN fun v63 h64 =>
 (call F.ζb [v63,(.int .i64 12)] h64).bindT (fun p67 h68 => (allocR Prog 261 h64).bindN fun v69 h70 => chkR ((okVal (loadR Prog 113 v1 h42) v37 && true) && ((okVal (loadR Prog 113 v1 h36) v61 && (okVal (loadR Prog 113 v1 h42) v61 && true)) && ((okVal (loadR Prog 113 v1 h36) v63 && (okVal (loadR Prog 113 v1 h42) v63 && true)) && true))) (.panic p67 h68)) fun v65 h66 =>
 (call F.ζg [v61,v65] h66).bindT (fun p73 h74 => (allocR Prog 261 h66).bindN fun v75 h76 => chkR ((okVal (loadR Prog 113 v1 h42) v37 && true) && ((okVal (loadR Prog 113 v1 h36) v61 && (okVal (loadR Prog 113 v1 h42) v61 && (okVal (loadR Prog 113 v1 h66) v61 && true))) && ((okVal (loadR Prog 113 v1 h36) v63 && (okVal (loadR Prog 113 v1 h42) v63 && true)) && true))) (.panic p73 h74)) fun v71 h72 =>
 (buildR Prog 261 [(0,v35),(1,v51),(2,v71),(3,a2)] h72).bindN fun v77 h78 =>
 (allocR Prog 261 h78).bindN fun v79 h80 =>
 (storeR Prog 261 v79 v77 h80).bindN fun _v81 h82 =>
 chkR ((okVal (loadR Prog 113 v1 h42) v37 && true) && ((okVal (loadR Prog 113 v1 h36) v61 && (okVal (loadR Prog 113 v1 h42) v61 && (okVal (loadR Prog 113 v1 h66) v61 && true))) && ((okVal (loadR Prog 113 v1 h36) v63 && (okVal (loadR Prog 113 v1 h42) v63 && true)) && true))) (
 (loopN (ζ3q k call) loopFuel [(8,v35),(9,v79),(10,(.int .i64 2)),(11,(.int .i64 0))] h82).bind fun r83 h84 =>
 ζa6 k call r83.1 r83.2 h84))
theorem ζht (k:Nat) (a0 a1 a2:Value) (h:Heap):R (T k) F.ζ1x [a0,a1,a2] h = nrm .fz h (ζ1x k (R (T k)) a0 a1 a2 h) :=
 (R_body (t:=T k) (T_scott k) (by kernel_rfl) (by kernel_rfl) _ _).trans (by kernel_rfl)
theorem ζ85 (k:Nat) (call:Caller) (a8 a9 a10 a11:Value) (h:Heap):ζ3q k call [(8,a8),(9,a9),(10,a10),(11,a11)] h =
 (nilR a8 h).bind fun v85 h86 =>
 (fieldAddrR Prog 259 v85 2 h86).bind fun v87 h88 =>
 (loadR Prog 257 v87 h88).bind fun v89 h90 =>
 (builtinV Prog .len [257] [v89] h90).bind fun v91 h92 =>
 (binR Prog .lss 3 v91 a10 h92).bind fun v93 h94 =>
 ((bif wantVal v93 false then Res.ok a8 h94 else Res.ok undef h94)).bind fun v95 h96 =>
 ((bif wantVal v93 false then nilR v95 h96 else Res.ok undef h96)).bind fun v97 h98 =>
 ((bif wantVal v93 false then fieldAddrR Prog 259 v97 3 h98 else Res.ok undef h98)).bind fun v99 h100 =>
 ((bif wantVal v93 false then loadR Prog 24 v99 h100 else Res.ok undef h100)).bind fun v101 h102 =>
 ((bif wantVal v93 false then builtinV Prog .len [24] [v101] h102 else Res.ok undef h102)).bind fun v103 h104 =>
 ((bif wantVal v93 false then Res.ok a11 h104 else Res.ok undef h104)).bind fun v105 h106 =>
 ((bif wantVal v93 false then binR Prog .lss 3 v103 v105 h106 else Res.ok undef h106)).bind fun v107 h108 =>
 (condV (some v93) (Res.ok (.bool true) h108) (Res.ok v107 h108)).bind fun v109 h110 =>
 condV (some v109) (
 (loopN (ζ3r k call) loopFuel [(8,a8),(9,a9),(10,a10),(11,a11)] h110).bind fun r111 h112 =>
 ζ76 k call r111.1 r111.2 h112)
 (
 .ok ((.exit 0),[(8,a8),(9,a9),(10,a10),(11,a11),(56,v109)]) h110) :=
 (loopB_eq _ _).trans (by kernel_rfl)
theorem ζ5t (k:Nat) (call:Caller) (a8 a9 a10 a11:Value) (h:Heap):ζ3r k call [(8,a8),(9,a9),(10,a10),(11,a11)] h =
 (nilR a8 h).bind fun v113 h114 =>
 (fieldAddrR Prog 259 v113 2 h114).bind fun v115 h116 =>
 (loadR Prog 257 v115 h116).bind fun v117 h118 =>
 (builtinV Prog .len [257] [v117] h118).bind fun v119 h120 =>
 (binR Prog .lss 3 v119 a10 h120).bind fun v121 h122 =>
 condV (some v121) (
 (loadR Prog 261 a9 h122).bind fun v123 h124 =>
 (call F.ζw [v123] h124).bind fun v125 h126 =>
 (builtinV Prog .max [3,3] [a11,v125] h126).bind fun v127 h128 =>
 .ok (.normal,[(8,a8),(9,a9),(10,a10),(11,v127)]) h128)
 (
 .ok ((.exit 2),[(8,a8),(9,a9),(10,a10),(11,a11),(63,v121)]) h122) :=
 (loopB_eq _ _).trans (by kernel_rfl)
theorem ζb8 (k:Nat) (call:Caller) (a8 a9 a10 a11 a56:Value) (h:Heap):ζa6 k call (.exit 0) [(8,a8),(9,a9),(10,a10),(11,a11),(56,a56)] h =
 .ok a8 h:=by kernel_rfl
theorem ζb9 (k:Nat) (call:Caller) (a8 a9 a10 a11 a63:Value) (h:Heap):ζ76 k call (.exit 2) [(8,a8),(9,a9),(10,a10),(11,a11),(63,a63)] h =
 (loopN (ζ3s k call) loopFuel [(8,a8),(9,a9),(10,a10),(11,a11)] h).bind fun r129 h130 =>
 ζ77 k call r129.1 r129.2 h130:=by kernel_rfl
theorem ζ5u (k:Nat) (call:Caller) (a8 a9 a10 a11:Value) (h:Heap):ζ3s k call [(8,a8),(9,a9),(10,a10),(11,a11)] h =
 (nilR a8 h).bind fun v131 h132 =>
 (fieldAddrR Prog 259 v131 3 h132).bind fun v133 h134 =>
 (loadR Prog 24 v133 h134).bind fun v135 h136 =>
 (builtinV Prog .len [24] [v135] h136).bind fun v137 h138 =>
 (binR Prog .lss 3 v137 a11 h138).bind fun v139 h140 =>
 condV (some v139) (
 (loadR Prog 261 a9 h140).bind fun v141 h142 =>
 (call F.ζa [v141] h142).bind fun v143 h144 =>
 (builtinV Prog .max [3,3] [a10,v143] h144).bind fun v145 h146 =>
 .ok (.normal,[(8,a8),(9,a9),(10,v145),(11,a11)]) h146)
 (
 .ok ((.exit 4),[(8,a8),(9,a9),(10,a10),(11,a11),(74,v139)]) h140) :=
 (loopB_eq _ _).trans (by kernel_rfl)
theorem ζba (k:Nat) (call:Caller) (a8 a9 a10 a11 a74:Value) (h:Heap):ζ77 k call (.exit 4) [(8,a8),(9,a9),(10,a10),(11,a11),(74,a74)] h =
 .ok (.normal,[(8,a8),(9,a9),(10,a10),(11,a11)]) h:=by kernel_rfl
def ζ11 (k:Nat) (call:Caller) (a0:Value) (h:Heap):Res Value :=
 (buildSliceR Prog 24 0 [] h).bind fun v1 h2 =>
 (nilR a0 h2).bind fun v3 h4 =>
 (fieldAddrR Prog 259 v3 3 h4).bind fun v5 h6 =>
 (loadR Prog 24 v5 h6).bind fun v7 h8 =>
 (builtinV Prog .append [24,24] [v1,v7] h8).bind fun v9 h10 =>
 .ok v9 h10
theorem ζ7i (k:Nat) (a0:Value) (h:Heap):R (T k) F.ζ11 [a0] h = nrm (own k) h (ζ11 k (R (T k)) a0 h) :=
 (R_body (t:=T k) (T_scott k) (by kernel_rfl) (by kernel_rfl) _ _).trans (by kernel_rfl)
def ζ41 (k:Nat) (call:Caller):Env → Heap → Res (AExit × Env):=loopB (C k) call F.ζw [1,1,1,1,1,0,1,0,0]
def ζ5v (k:Nat) (call:Caller):Kont Value:=kBlock 0 (kSeq (pieceK (C k) call F.ζw [1,1,1,1,1,1]) (kDone Prog (resOf Prog F.ζw)))
def ζw (k:Nat) (call:Caller) (a0:Value) (h:Heap):Res Value :=
 (boxR a0 h).bind fun v1 h2 =>
 (fieldAddrR Prog 261 v1 0 h2).bind fun v3 h4 =>
 (loadR Prog 159 v3 h4).bind fun v5 h6 =>
 (nilR v5 h6).bind fun v7 h8 =>
 (fieldAddrR Prog 259 v7 0 h8).bind fun v9 h10 =>
 (loadR Prog 3 v9 h10).bind fun v11 h12 =>
 (fieldAddrR Prog 261 v1 1 h12).bindN fun v13 h14 =>
 (loadR Prog 113 v13 h14).bindN fun v15 h16 =>
 (binR Prog .mul 3 (.int .i64 2) v11 h16).bindN fun v17 h18 =>
 (fieldAddrR Prog 261 v1 0 h18).bindN fun v19 h20 =>
 (loadR Prog 159 v19 h20).bindN fun v21 h22 =>
 (nilR v21 h22).bindN fun v23 h24 =>
 (fieldAddrR Prog 259 v23 2 h24).bindN fun v25 h26 =>
 (loadR Prog 257 v25 h26).bindN fun v27 h28 =>
 (builtinV Prog .len [257] [v27] h28).bindN fun v29 h30 =>
 (binR Prog .mul 3 v17 v29 h30).bindN fun v31 h32 =>
 (call F.ζl [v15,v31,v11,(.int .i64 2)] h32).bindT (fun p35 h36 => (allocR Prog 113 h32).bindN fun v37 h38 => .panic p35 h36) fun v33 h34 =>
 (allocR Prog 113 h34).bindN fun v39 h40 =>
 (storeR Prog 113 v39 v33 h40).bindN fun _v41 h42 =>
 (makeSliceV Prog 30 v11 v11 h42).bind fun v43 h44 =>
 (builtinV Prog .len [30] [v43] h44).bind fun v45 h46 =>
 (loopN (ζ41 k call) loopFuel [(1,v1),(4,v39),(5,v43),(6,(.int .i64 0)),(29,v45),(30,(.int .i64 0))] h46).bind fun r47 h48 =>
 ζ5v k call r47.1 r47.2 h48
theorem ζaj (k:Nat) (a0:Value) (h:Heap):R (T k) F.ζw [a0] h = nrm .no h (ζw k (R (T k)) a0 h) :=
 (R_body (t:=T k) (T_scott k) (by kernel_rfl) (by kernel_rfl) _ _).trans (by kernel_rfl)
theorem ζ4p (k:Nat) (call:Caller) (a1 a4 a5 a6 a29 a30:Value) (h:Heap):ζ41 k call [(1,a1),(4,a4),(5,a5),(6,a6),(29,a29),(30,a30)] h =
 (binR Prog .lss 3 a30 a29 h).bind fun v49 h50 =>
 condV (some v49) (
 (loadR Prog 113 a4 h50).bind fun v51 h52 =>
 (binR Prog .mul 3 (.int .i64 2) a30 h52).bind fun v53 h54 =>
 (call F.ζ8 [v51,v53] h54).bind fun v55 h56 =>
 (indexAddrR Prog 30 a5 a30 h56).bind fun v57 h58 =>
 (storeR Prog 3 v57 v55 h58).bind fun _v59 h60 =>
 (indexAddrR Prog 30 a5 a30 h60).bind fun v61 h62 =>
 (loadR Prog 3 v61 h62).bind fun v63 h64 =>
 (binR Prog .add 3 v63 (.int .i64 1) h64).bind fun v65 h66 =>
 (builtinV Prog .max [3,3] [a6,v65] h66).bind fun v67 h68 =>
 (binR Prog .add 3 a30 (.int .i64 1) h68).bind fun v69 h70 =>
 .ok (.normal,[(1,a1),(4,a4),(5,a5),(6,v67),(29,a29),(30,v69)]) h70)
 (
 .ok ((.exit 0),[(1,a1),(4,a4),(5,a5),(6,a6),(29,a29),(30,a30),(31,v49)]) h50) :=
 (loopB_eq _ _).trans (by kernel_rfl)
theorem ζ7j (k:Nat) (call:Caller) (a1 a4 a5 a6 a29 a30 a31:Value) (h:Heap):ζ5v k call (.exit 0) [(1,a1),(4,a4),(5,a5),(6,a6),(29,a29),(30,a30),(31,a31)] h =
 (fieldAddrR Prog 261 a1 0 h).bindN fun v71 h72 =>
 (loadR Prog 159 v71 h72).bindN fun v73 h74 =>
 (fieldAddrR Prog 261 a1 0 h74).bindN fun v75 h76 =>
 (loadR Prog 159 v75 h76).bindN fun v77 h78 =>
 (nilR v77 h78).bindN fun v79 h80 =>
 (fieldAddrR Prog 259 v79 2 h80).bindN fun v81 h82 =>
 (loadR Prog 257 v81 h82).bindN fun v83 h84 =>
 (buildSliceR Prog 257 1 [(0,a5)] h84).bindN fun v85 h86 =>
 (builtinV Prog .append [257,257] [v83,v85] h86).bindN fun v87 h88 =>
 (nilR v73 h88).bindN fun v89 h90 =>
 (fieldAddrR Prog 259 v89 2 h90).bindN fun v91 h92 =>
 (storeR Prog 257 v91 v87 h92).bindN fun _v93 h94 =>
 chkR ((okVal (loadR Prog 159 v71 h86) v73 && (okVal (loadR Prog 159 v71 h88) v73 && true)) && ((okVal (loadR Prog 159 v75 h86) v77 && true) && ((okVal (loadR Prog 257 v81 h86) v83 && true) && true))) (
 .ok a6 h94):=by kernel_rfl
def ζ55 (k:Nat) (call:Caller) (a1 a4 a5:Value) (h:Heap):Res Value :=
 kSeq (pieceK (C k) call F.ζa [1,1,1,1,1]) (kDone Prog (resOf Prog F.ζa)) .normal [(1,a1),(4,a4),(5,a5)] h
def ζ56 (k:Nat) (call:Caller) (a1 a4 a5 a29:Value) (h:Heap):Res Value :=
 kSeq (pieceK (C k) call F.ζa [1,1,1,1,1]) (kDone Prog (resOf Prog F.ζa)) .normal [(1,a1),(4,a4),(5,a5),(29,a29)] h
def ζ29 (k:Nat) (call:Caller) (a1 a5:Value) (h:Heap):Res Value :=
 kSeq (pieceK (C k) call F.ζa [1,1,1,1,1,1]) (kDone Prog (resOf Prog F.ζa)) .normal [(1,a1),(5,a5)] h
def ζ2a (k:Nat) (call:Caller) (a1 a4 a5 a35:Value) (h:Heap):Res Value :=
 kSeq (pieceK (C k) call F.ζa [1,1,1,1,1,1]) (kDone Prog (resOf Prog F.ζa)) .normal [(1,a1),(4,a4),(5,a5),(35,a35)] h
def ζa (k:Nat) (call:Caller) (a0:Value) (h:Heap):Res Value :=
 (boxR a0 h).bind fun v1 h2 =>
 (fieldAddrR Prog 261 v1 3 h2).bind fun v3 h4 =>
 (loadR Prog 3 v3 h4).bind fun v5 h6 =>
 (binR Prog .mul 3 (.int .i64 2) v5 h6).bind fun v7 h8 =>
 (binR Prog .add 3 (.int .i64 4) v7 h8).bind fun v9 h10 =>
 (fieldAddrR Prog 261 v1 2 h10).bindN fun v11 h12 =>
 (loadR Prog 113 v11 h12).bindN fun v13 h14 =>
 (fieldAddrR Prog 261 v1 0 h14).bindN fun v15 h16 =>
 (loadR Prog 159 v15 h16).bindN fun v17 h18 =>
 (nilR v17 h18).bindN fun v19 h20 =>
 (fieldAddrR Prog 259 v19 3 h20).bindN fun v21 h22 =>
 (loadR Prog 24 v21 h22).bindN fun v23 h24 =>
 (builtinV Prog .len [24] [v23] h24).bindN fun v25 h26 =>
 (binR Prog .mul 3 v9 v25 h26).bindN fun v27 h28 =>
 (call F.ζy [v13,v27,v9] h28).bindT (fun p31 h32 => (allocR Prog 113 h28).bindN fun v33 h34 => .panic p31 h32) fun v29 h30 =>
 (allocR Prog 113 h30).bindN fun v35 h36 =>
 (storeR Prog 113 v35 v29 h36).bindN fun _v37 h38 =>
 (loadR Prog 113 v35 h38).bindN fun v39 h40 =>
 (call F.ζ8 [v39,(.int .i64 0)] h40).bindT (fun p43 h44 => (loadR Prog 113 v35 h40).bindN fun v45 h46 => (allocR Prog 129 h46).bindN fun v47 h48 => chkR ((okVal (loadR Prog 113 v35 h38) v45 && true) && true) (.panic p43 h44)) fun v41 h42 =>
 (loadR Prog 113 v35 h42).bindN fun v49 h50 =>
 (call F.ζ8 [v49,(.int .i64 2)] h50).bindT (fun p53 h54 => (allocR Prog 129 h50).bindN fun v55 h56 => chkR ((okVal (loadR Prog 113 v35 h38) v49 && true) && true) (.panic p53 h54)) fun v51 h52 =>
 (buildR Prog 129 [(0,v41),(1,v51)] h52).bindN fun v57 h58 =>
 (allocR Prog 129 h58).bindN fun v59 h60 =>
 (storeR Prog 129 v59 v57 h60).bindN fun _v61 h62 =>
 chkR ((okVal (loadR Prog 113 v35 h38) v49 && true) && true) (
 (fieldAddrR Prog 261 v1 3 h62).bind fun v63 h64 =>
 (loadR Prog 3 v63 h64).bind fun v65 h66 =>
 (binR Prog .gtr 3 v65 (.int .i64 0) h66).bind fun v67 h68 =>
 condV (some v67) (
 (loadR Prog 113 v35 h68).bind fun v69 h70 =>
 (call F.ζ8 [v69,(.int .i64 4)] h70).bind fun v71 h72 =>
 (fieldAddrR Prog 129 v59 2 h72).bind fun v73 h74 =>
 (storeR Prog 3 v73 v71 h74).bind fun _v75 h76 =>
 ζ55 k call v1 v35 v59 h76)
 (
 ζ56 k call v1 v35 v59 v67 h68))
theorem ζ9g (k:Nat) (a0:Value) (h:Heap):R (T k) F.ζa [a0] h = nrm .no h (ζa k (R (T k)) a0 h) :=
 (R_body (t:=T k) (T_scott k) (by kernel_rfl) (by kernel_rfl) _ _).trans (by kernel_rfl)
theorem ζ40 (k:Nat) (call:Caller) (a1 a4 a5:Value) (h:Heap):ζ55 k call a1 a4 a5 h =
 (fieldAddrR Prog 261 a1 3 h).bind fun v77 h78 =>
 (loadR Prog 3 v77 h78).bind fun v79 h80 =>
 (binR Prog .gtr 3 v79 (.int .i64 1) h80).bind fun v81 h82 =>
 condV (some v81) (
 (loadR Prog 113 a4 h82).bind fun v83 h84 =>
 (call F.ζ8 [v83,(.int .i64 6)] h84).bind fun v85 h86 =>
 (fieldAddrR Prog 129 a5 3 h86).bind fun v87 h88 =>
 (storeR Prog 3 v87 v85 h88).bind fun _v89 h90 =>
 ζ29 k call a1 a5 h90)
 (
 ζ2a k call a1 a4 a5 v81 h82):=by kernel_rfl
theorem ζ78 (k:Nat) (call:Caller) (a1 a4 a5 a29:Value) (h:Heap):ζ56 k call a1 a4 a5 a29 h =
 (fieldAddrR Prog 261 a1 3 h).bind fun v91 h92 =>
 (loadR Prog 3 v91 h92).bind fun v93 h94 =>
 (binR Prog .gtr 3 v93 (.int .i64 1) h94).bind fun v95 h96 =>
 condV (some v95) (
 (loadR Prog 113 a4 h96).bind fun v97 h98 =>
 (call F.ζ8 [v97,(.int .i64 6)] h98).bind fun v99 h100 =>
 (fieldAddrR Prog 129 a5 3 h100).bind fun v101 h102 =>
 (storeR Prog 3 v101 v99 h102).bind fun _v103 h104 =>
 ζ29 k call a1 a5 h104)
 (
 ζ2a k call a1 a4 a5 v95 h96):=by kernel_rfl
theorem ζ79 (k:Nat) (call:Caller) (a1 a5:Value) (h:Heap):ζ29 k call a1 a5 h =
 (fieldAddrR Prog 261 a1 0 h).bindN fun v105 h106 =>
 (loadR Prog 159 v105 h106).bindN fun v107 h108 =>
 (fieldAddrR Prog 261 a1 0 h108).bindN fun v109 h110 =>
 (loadR Prog 159 v109 h110).bindN fun v111 h112 =>
 (nilR v111 h112).bindN fun v113 h114 =>
 (fieldAddrR Prog 259 v113 3 h114).bindN fun v115 h116 =>
 (loadR Prog 24 v115 h116).bindN fun v117 h118 =>
 (loadR Prog 129 a5 h118).bindN fun v119 h120 =>
 (buildSliceR Prog 24 1 [(0,v119)] h120).bindN fun v121 h122 =>
 (builtinV Prog .append [24,24] [v117,v121] h122).bindN fun v123 h124 =>
 (nilR v107 h124).bindN fun v125 h126 =>
 (fieldAddrR Prog 259 v125 3 h126).bindN fun v127 h128 =>
 (storeR Prog 24 v127 v123 h128).bindN fun _v129 h130 =>
 chkR ((okVal (loadR Prog 159 v105 h122) v107 && (okVal (loadR Prog 159 v105 h124) v107 && true)) && ((okVal (loadR Prog 159 v109 h122) v111 && true) && ((okVal (loadR Prog 24 v115 h122) v117 && true) && true))) (
 (fieldAddrR Prog 129 a5 0 h130).bind fun v131 h132 =>
 (loadR Prog 3 v131 h132).bind fun v133 h134 =>
 (binR Prog .add 3 v133 (.int .i64 1) h134).bind fun v135 h136 =>
 .ok v135 h136):=by kernel_rfl
theorem ζ7a (k:Nat) (call:Caller) (a1 a4 a5 a35:Value) (h:Heap):ζ2a k call a1 a4 a5 a35 h =
 (fieldAddrR Prog 261 a1 0 h).bindN fun v137 h138 =>
 (loadR Prog 159 v137 h138).bindN fun v139 h140 =>
 (fieldAddrR Prog 261 a1 0 h140).bindN fun v141 h142 =>
 (loadR Prog 159 v141 h142).bindN fun v143 h144 =>
 (nilR v143 h144).bindN fun v145 h146 =>
 (fieldAddrR Prog 259 v145 3 h146).bindN fun v147 h148 =>
 (loadR Prog 24 v147 h148).bindN fun v149 h150 =>
 (loadR Prog 129 a5 h150).bindN fun v151 h152 =>
 (buildSliceR Prog 24 1 [(0,v151)] h152).bindN fun v153 h154 =>
 (builtinV Prog .append [24,24] [v149,v153] h154).bindN fun v155 h156 =>
 (nilR v139 h156).bindN fun v157 h158 =>
 (fieldAddrR Prog 259 v157 3 h158).bindN fun v159 h160 =>
 (storeR Prog 24 v159 v155 h160).bindN fun _v161 h162 =>
 chkR ((okVal (loadR Prog 159 v137 h154) v139 && (okVal (loadR Prog 159 v137 h156) v139 && true)) && ((okVal (loadR Prog 159 v141 h154) v143 && true) && ((okVal (loadR Prog 24 v147 h154) v149 && true) && true))) (
 (fieldAddrR Prog 129 a5 0 h162).bind fun v163 h164 =>
 (loadR Prog 3 v163 h164).bind fun v165 h166 =>
 (binR Prog .add 3 v165 (.int .i64 1) h166).bind fun v167 h168 =>
 .ok v167 h168):=by kernel_rfl
def ζs (k:Nat) (call:Caller) (a0 a1 a2:Value) (h:Heap):Res Value :=
 (allocR Prog 129 h).bind fun v1 h2 =>
 (binR Prog .lss 3 a1 (.int .i64 0) h2).bind fun v3 h4 =>
 ((bif wantVal v3 false then Res.ok a1 h4 else Res.ok undef h4)).bind fun v5 h6 =>
 ((bif wantVal v3 false then Res.ok a0 h6 else Res.ok undef h6)).bind fun v7 h8 =>
 ((bif wantVal v3 false then nilR v7 h8 else Res.ok undef h8)).bind fun v9 h10 =>
 ((bif wantVal v3 false then fieldAddrR Prog 259 v9 2 h10 else Res.ok undef h10)).bind fun v11 h12 =>
 ((bif wantVal v3 false then loadR Prog 257 v11 h12 else Res.ok undef h12)).bind fun v13 h14 =>
 ((bif wantVal v3 false then builtinV Prog .len [257] [v13] h14 else Res.ok undef h14)).bind fun v15 h16 =>
 ((bif wantVal v3 false then binR Prog .geq 3 v5 v15 h16 else Res.ok undef h16)).bind fun v17 h18 =>
 (condV (some v3) (Res.ok (.bool true) h18) (Res.ok v17 h18)).bind fun v19 h20 =>
 ((bif wantVal v19 false then Res.ok a2 h20 else Res.ok undef h20)).bind fun v21 h22 =>
 ((bif wantVal v19 false then binR Prog .lss 3 v21 (.int .i64 0) h22 else Res.ok undef h22)).bind fun v23 h24 =>
 (condV (some v19) (Res.ok (.bool true) h24) (Res.ok v23 h24)).bind fun v25 h26 =>
 ((bif wantVal v25 false then Res.ok a2 h26 else Res.ok undef h26)).bind fun v27 h28 =>
 ((bif wantVal v25 false then Res.ok a0 h28 else Res.ok undef h28)).bind fun v29 h30 =>
 ((bif wantVal v25 false then nilR v29 h30 else Res.ok undef h30)).bind fun v31 h32 =>
 ((bif wantVal v25 false then fieldAddrR Prog 259 v31 0 h32 else Res.ok undef h32)).bind fun v33 h34 =>
 ((bif wantVal v25 false then loadR Prog 3 v33 h34 else Res.ok undef h34)).bind fun v35 h36 =>
 ((bif wantVal v25 false then binR Prog .geq 3 v27 v35 h36 else Res.ok undef h36)).bind fun v37 h38 =>
 (condV (some v25) (Res.ok (.bool true) h38) (Res.ok v37 h38)).bind fun v39 h40 =>
 condV (some v39) (
 (buildR Prog 129 [] h40).bind fun v41 h42 =>
 (storeR Prog 129 v1 v41 h42).bind fun _v43 h44 =>
 (loadR Prog 129 v1 h44).bind fun v45 h46 =>
 .ok (.tuple #[v45,(.bool false)]) h46)
 (
 (nilR a0 h40).bindN fun v47 h48 =>
 (fieldAddrR Prog 259 v47 3 h48).bindN fun v49 h50 =>
 (loadR Prog 24 v49 h50).bindN fun v51 h52 =>
 (nilR a0 h52).bindN fun v53 h54 =>
 (fieldAddrR Prog 259 v53 2 h54).bindN fun v55 h56 =>
 (loadR Prog 257 v55 h56).bindN fun v57 h58 =>
 (indexAddrR Prog 257 v57 a1 h58).bindN fun v59 h60 =>
 (loadR Prog 30 v59 h60).bindN fun v61 h62 =>
 (indexAddrR Prog 30 v61 a2 h62).bindN fun v63 h64 =>
 (loadR Prog 3 v63 h64).bindN fun v65 h66 =>
 (indexAddrR Prog 24 v51 v65 h66).bindN fun v67 h68 =>
 (loadR Prog 129 v67 h68).bindN fun v69 h70 =>
 (storeR Prog 129 v1 v69 h70).bindN fun _v71 h72 =>
 (loadR Prog 129 v1 h72).bind fun v73 h74 =>
 .ok (.tuple #[v73,(.bool true)]) h74)
theorem ζ9f (k:Nat) (a0 a1 a2:Value) (h:Heap):R (T k) F.ζs [a0,a1,a2] h = nrm .gc h (ζs k (R (T k)) a0 a1 a2 h) :=
 (R_body (t:=T k) (T_scott k) (by kernel_rfl) (by kernel_rfl) _ _).trans (by kernel_rfl)
def ζu (k:Nat) (call:Caller) (a0 a1:Value) (h:Heap):Res Value :=
 (binR Prog .eql 3 a1 (.int .i64 65535) h).bind fun v1 h2 =>
 condV (some v1) (
 .ok (.int .i64 2) h2)
 (
 (nilR a0 h2).bind fun v3 h4 =>
 (fieldAddrR Prog 259 v3 1 h4).bind fun v5 h6 =>
 (loadR Prog 111 v5 h6).bind fun v7 h8 =>
 (call F.ζ14 [v7,a1] h8).bind fun v9 h10 =>
 (extractR v9 0 h10).bind fun v11 h12 =>
 (extractR v9 1 h12).bind fun v13 h14 =>
 ((bif wantVal v13 true then Res.ok v11 h14 else Res.ok undef h14)).bind fun v15 h16 =>
 ((bif wantVal v13 true then Res.ok a0 h16 else Res.ok undef h16)).bind fun v17 h18 =>
 ((bif wantVal v13 true then nilR v17 h18 else Res.ok undef h18)).bind fun v19 h20 =>
 ((bif wantVal v13 true then fieldAddrR Prog 259 v19 0 h20 else Res.ok undef h20)).bind fun v21 h22 =>
 ((bif wantVal v13 true then loadR Prog 3 v21 h22 else Res.ok undef h22)).bind fun v23 h24 =>
 ((bif wantVal v13 true then binR Prog .lss 3 v15 v23 h24 else Res.ok undef h24)).bind fun v25 h26 =>
 (condV (some v13) (Res.ok v25 h26) (Res.ok (.bool false) h26)).bind fun v27 h28 =>
 condV (some v27) (
 .ok v11 h28)
 (
 .ok (.int .i64 1) h28))
theorem ζ8o (k:Nat) (a0 a1:Value) (h:Heap):R (T k) F.ζu [a0,a1] h = nrm .gc h (ζu k (R (T k)) a0 a1 h) :=
 (R_body (t:=T k) (T_scott k) (by kernel_rfl) (by kernel_rfl) _ _).trans (by kernel_rfl)
end
end Go.Sw
end
section
namespace Go.Sw
open Go.RowKit
theorem Star.memP {H0 H:Heap} {L:List It} (h:Star H0 H L) {x:It} (hx:x ∈ L):x.P H:=by
 obtain ⟨i,hi⟩:=List.getElem?_of_mem hx;exact h.at i hi
theorem Star.memBlk {H0 H:Heap} {L:List It} (h:Star H0 H L) {c:Nat} {k:Blk} (hx:itBlk c k ∈ L):H.get c = some k:=h.memP hx
theorem Star.memOwn {α:Type} {enc:α → List Value} {H0 H:Heap} {L:List It} (h:Star H0 H L) {o:Option Nat} {m:Nat} {s:Value} {l:List α} (hx:itRow o m s enc l ∈ L):Own H0 H m s enc l:=by
 obtain ⟨i,hi⟩:=List.getElem?_of_mem hx;exact h.own i hi
theorem Star.stCell {H0 H:Heap} {L:List It} (h:Star H0 H L) (i:Nat) {c:Nat} {cells:List Value} {e:Nat} (hi:L[i]? = some (itBlk c ⟨cells,e,false⟩)) (off:Nat) {v:Value} (hs:storable v = true) (hc:v.cells = #[v]) (ho:off < cells.length) :
  ∃ H',stR 1 (.pointer (some ⟨c,off,none⟩)) v H = .ok undef H' ∧ Star H0 H' (L.set i (itBlk c ⟨cells.set off v,e,false⟩)) ∧ H'.n = H.n:=by
 have hg:=h.get i hi;have hsp:splice cells off [v] = cells.set off v:=by
  unfold splice;rw [List.set_eq_take_append_cons_drop,if_pos ho];rfl
 refine ⟨H.set c (some ⟨cells.set off v,e,false⟩),?_,h.step i hi (by simp) (fun d _ hd => ?_) _ ?_ fun b hb => .inl hb,by simp⟩
 ·simp [hs,hc,hg,hsp];rw [if_pos (show off + 1 ≤ cells.length by omega)];rfl
 ·rw [ζ2k];exact fun e => hd (show d ∈ [c] by simp [e])
 ·exact ζ7u _ _ _ (by rw [hg]; rfl)
theorem ζij {body:Env → Heap → Res (AExit × Env)} (Inv:Nat → Env → Heap → Prop) (Q:AExit → Env → Heap → Prop) (Qp:Value → Heap → Prop)
  (step:∀ m e H,Inv m e H → (∃ m' e' H',body e H = .ok (.normal,e') H' ∧ m' < m ∧ Inv m' e' H') ∨ (∃ x e' H',body e H = .ok (x,e') H' ∧ x ≠ .normal ∧ Q x e' H') ∨ (∃ v H',body e H = .panic v H' ∧ Qp v H')) :
  ∀ (fuel m:Nat) (e:Env) (H:Heap),m < fuel → Inv m e H → (∃ x e' H',loopN body fuel e H = .ok (x,e') H' ∧ Q x e' H') ∨ (∃ v H',loopN body fuel e H = .panic v H' ∧ Qp v H')
 | 0,m,e,H,hm,_ => by omega
 | fuel + 1,m,e,H,hm,hi => by
  rcases step m e H hi with ⟨m',e',H',h1,h2,h3⟩ | ⟨x,e',H',h1,h2,h3⟩ | ⟨v,H',h1,h2⟩
  ·simp only [loopN,h1,Res.bind];exact ζij Inv Q Qp step fuel m' e' H' (by omega) h3
  ·refine .inl ⟨x,e',H',?_,h3⟩;cases x with
   | normal => exact absurd rfl h2
   | exit j => simp only [loopN,h1,Res.bind]
   | ret => simp only [loopN,h1,Res.bind]
  ·exact .inr ⟨v,H',by simp only [loopN,h1,Res.bind],h2⟩
theorem loopDecP {body:Env → Heap → Res (AExit × Env)} (Inv:Nat → Env → Heap → Prop) (Q:AExit → Env → Heap → Prop) (Qp:Value → Heap → Prop) {e0:Env} {H0:Heap} (m:Nat) (h0:Inv m e0 H0) (hm:m < 2 ^ 64)
  (step:∀ m e H,Inv m e H → (∃ m' e' H',body e H = .ok (.normal,e') H' ∧ m' < m ∧ Inv m' e' H') ∨ (∃ x e' H',body e H = .ok (x,e') H' ∧ x ≠ .normal ∧ Q x e' H') ∨ (∃ v H',body e H = .panic v H' ∧ Qp v H')) :
  (∃ x e' H',loopN body loopFuel e0 H0 = .ok (x,e') H' ∧ Q x e' H') ∨ (∃ v H',loopN body loopFuel e0 H0 = .panic v H' ∧ Qp v H'):=ζij Inv Q Qp step loopFuel m e0 H0 (fuel_big hm) h0
abbrev encEn (e:En):List Value:=[.int .i64 e.next,.int .i64 e.flags,.int .i64 e.a,.int .i64 e.b]
theorem ζ58 (e:En):(encEn e).length = 4:=rfl
theorem ζdq (l:List En):∀ p,p ∈ l → ∀ v,v ∈ encEn p → Still v:=fun p _ v hv => by
 simp [encEn] at hv;rcases hv with rfl | rfl | rfl | rfl <;> trivial
theorem Flat.ofEn (e:En):Flat (.agg (encEn e).toArray):=.aggL (.cons (.int _ _) (.cons (.int _ _) (.cons (.int _ _) (.cons (.int _ _) .nil))))
theorem Flat.Ens (l:List En):Flat (Go.Sw.lv encEn l):=.lv fun p _ => .cons (.int _ _) (.cons (.int _ _) (.cons (.int _ _) (.cons (.int _ _) .nil)))
abbrev encU (x:List Int × Value):List Value:=[x.2]
theorem encU_len (x:List Int × Value):(encU x).length = 1:=rfl
abbrev encRow (r:List Int):List Value:=[lv encI r]
theorem ζkq (r:List Int):(encRow r).length = 1:=rfl
def MS (H0 H:Heap) (X:List It) (c:Nat) (n:Int) (tab:Value) (rs:List (List Int)) (es:List En):Prop :=
 ∃ (l:List (List Int × Value)) (s1:Value) (o1:Option Nat) (s2:Value) (o2:Option Nat) (bs:List It),l.map Prod.fst = rs ∧
  Star H0 H (itBlk c ⟨[.int .i64 n,tab,s1,s2],1,false⟩ :: itRow o1 1 s1 encU l :: itRow o2 4 s2 encEn es :: (X ++ bs)) ∧ ∀ x,x ∈ l → ∃ o,itRow o 1 x.2 encI x.1 ∈ bs
theorem MS.rest {H0 H H':Heap} {X:List It} {c:Nat} {n:Int} {tab:Value} {rs:List (List Int)} {es:List En} (h:MS H0 H X c n tab rs es) (he:Ext H H'):MS H0 H' X c n tab rs es:=by
 obtain ⟨l,s1,o1,s2,o2,bs,h1,h2,h3⟩:=h;exact ⟨l,s1,o1,s2,o2,bs,h1,h2.rest he,h3⟩
theorem MS.ext {H0 H:Heap} {X:List It} {c:Nat} {n:Int} {tab:Value} {rs:List (List Int)} {es:List En} (h:MS H0 H X c n tab rs es):Ext H0 H:=by
 obtain ⟨l,s1,o1,s2,o2,bs,h1,h2,h3⟩:=h;exact h2.ext
theorem MS.here {H0 H:Heap} {X:List It} {c:Nat} {n:Int} {tab:Value} {rs:List (List Int)} {es:List En} (h:MS H0 H X c n tab rs es) :
  ∃ s1 s2,H.get c = some ⟨[.int .i64 n,tab,s1,s2],1,false⟩ ∧ (∀ H',lnS s1 H' = .ok (.int .i64 rs.length) H') ∧ ∀ H',lnS s2 H' = .ok (.int .i64 es.length) H':=by
 obtain ⟨l,s1,o1,s2,o2,bs,h1,h2,h3⟩:=h;refine ⟨s1,s2,h2.get 0 rfl,fun H' => ?_,(h2.row 2 rfl).len⟩;rw [(h2.row 1 rfl).len,← h1,List.length_map]
theorem MS.memX {H0 H:Heap} {X:List It} {c:Nat} {n:Int} {tab:Value} {rs:List (List Int)} {es:List En} (h:MS H0 H X c n tab rs es) {b:Nat} {k:Blk} (hb:itBlk b k ∈ X):H.get b = some k:=by
 obtain ⟨l,s1,o1,s2,o2,bs,h1,h2,h3⟩:=h;exact h2.memBlk (by simp [hb])
theorem row_take {rv:List Int} {n:Int} {k:Nat} {r:List Int} (h:rowsS rv (2 * n * k) n 2 = some r) (hn:0 ≤ n):r.length = n.toNat * 2 ∧ rowK rv n k = some ((cutRows r 2 n.toNat).map num):=by
 refine ⟨?_,by unfold rowK listS; rw [h]; rfl⟩;have:=ζ2x (ζ20 h);omega
theorem row_run (k:Nat) {H0 H:Heap} {X:List It} {c:Nat} {n:Int} {tab:Value} {rs:List (List Int)} {es:List En} (h:MS H0 H X c n tab rs es) (hn:0 ≤ n ∧ n ≤ 65535) (hrl:rs.length < 65536) {vR vE:Value} {rv:List Int} (w:Int) (hv:Sl H 1 vR encB rv) (hE:Go.Sw.veq vE vE = true) (hb:Byt rv) (hl:rv.length < 2 ^ 31) :
  match rowK rv n rs.length with
  | some r => ∃ H',R (T k) F.ζw [.agg #[ptrV c,vR,vE,.int .i64 w]] H = .ok (.int .i64 (needL r)) H' ∧ MS H0 H' X c n tab (rs ++ [r]) es
  | none => R (T k) F.ζw [.agg #[ptrV c,vR,vE,.int .i64 w]] H = .panic failV H:=by
 obtain ⟨l,s1,o1,s2,o2,bs,h1,g,h3⟩:=h;have hM:=g.get 0 rfl;have hlen1:=(g.row 1 rfl).len;have hll:l.length = rs.length:=by rw [← h1,List.length_map]
 rw [hll] at hlen1;have hcn:¬ c = H.n:=by have:=Heap.get_lt hM; omega
 have hx1:Ext H (H.push ⟨[ptrV c,vR,vE,.int .i64 w],1,false⟩):=(Ext.refl H).push _;have hm0:0 ≤ 2 * n * (rs.length:Int):=Int.mul_nonneg (by omega) (by omega);have hm1:2 * n * (rs.length:Int) ≤ 131070 * 65536:=Int.mul_le_mul (by omega) (by omega) (by omega) (by omega);have hRows:=Rows_run k (hv.up hx1) (2 * n * rs.length) n 2 (by omega);rw [ζaj];cases hr:rowsS rv (2 * n * rs.length) n 2 with
 | none =>
  have:rowK rv n rs.length = none:=by unfold rowK listS; rw [hr]; rfl
  rw [this];rw [hr] at hRows;refine ζv ⟨_,?_,hx1⟩ Flat.fail.alive;simp -implicitDefEqProofs (disch:=omega) [ζw,hcn,hM,hlen1,hRows]
 | some r =>
  obtain ⟨hrlen,hK⟩:=row_take hr hn.1;rw [hK];dsimp only;rw [hr] at hRows;have hs:=ζ34 (hv.up hx1) (ζ20 hr);have hrb:=(hb.piece (ζ20 hr)).1;obtain ⟨n,rfl⟩:=Int.eq_ofNat_of_zero_le hn.1;simp only [Int.toNat_natCast] at hrlen ⊢;generalize subV 1 vR (2 * (n:Int) * rs.length).toNat ((n:Int) * 2).toNat = q at hs hRows;obtain ⟨B1,hB1⟩:∃ B1:Blk,B1 = ⟨[ptrV c,vR,vE,.int .i64 w],1,false⟩:=⟨_,rfl⟩
  obtain ⟨B2,hB2⟩:∃ B2:Blk,B2 = ⟨[q],1,false⟩:=⟨_,rfl⟩
  rw [← hB1] at hs;have g:=(g.push B1).push B2;have hx2:Ext (H.push B1) ((H.push B1).push B2):=(Ext.refl _).push _;obtain ⟨vals,hvals⟩:∃ vals,vals = (cutRows r 2 n).map num:=⟨_,rfl⟩
  rw [← hvals];have hvl:vals.length = n:=by rw [hvals]; simp
  obtain ⟨x,e',H1,hr',rfl,rfl,ho,hx⟩:=loop_up (body:=ζ41 k (R (T k))) n
   (fun j e H' => e = [(1,ptrV H.n),(4,ptrV (H.n + 1)),(5,.slice (some ⟨H.n + 2,0,none⟩) n n),(6,.int .i64 (needL (vals.take j))),(29,.int .i64 n),(30,.int .i64 j)] ∧
    Own ((H.push B1).push B2) H' 1 (.slice (some ⟨H.n + 2,0,none⟩) n n) encI (vals.take j ++ List.replicate (n - j) 0) ∧ Ext ((H.push B1).push B2) H')
   (fun x e H' => x = .exit 0 ∧ e = [(1,ptrV H.n),(4,ptrV (H.n + 1)),(5,.slice (some ⟨H.n + 2,0,none⟩) n n),(6,.int .i64 (needL vals)),(29,.int .i64 n),(30,.int .i64 n),(31,.bool false)] ∧
    Own ((H.push B1).push B2) H' 1 (.slice (some ⟨H.n + 2,0,none⟩) n n) encI vals ∧ Ext ((H.push B1).push B2) H')
   (e0:=[(1,ptrV H.n),(4,ptrV (H.n + 1)),(5,.slice (some ⟨H.n + 2,0,none⟩) n n),(6,.int .i64 0),(29,.int .i64 n),(30,.int .i64 0)]) (H0:=((H.push B1).push B2).push ⟨repeatCells [Value.int .i64 0] n,1,false⟩)
   ⟨rfl,.inr ⟨H.n + 2,by simp,by simp,by rw [ζd _ _ _ (by simp),repeat_I]; simp⟩,(Ext.refl _).push _⟩ (by omega)
   (fun j e H' hj ⟨he,ho,hx⟩ => by
    subst he;have hlt:(j:Int) < n:=by omega
    have hg2:H'.get (H.n + 1) = some ⟨[q],1,false⟩:=hx.get (by rw [ζd _ _ _ (by simp),hB2]);have hu:=U16_run k ((hs.up hx2).up hx) hrb (2 * (j:Int)) (by omega);have hcut:uS r (2 * (j:Int)) 2 = some (num ((r.drop (2 * j)).take 2)):=uS_cut (z:=2) hrlen hj;have hy:vals[j]? = some (num ((r.drop (2 * j)).take 2)):=by rw [hvals,List.getElem?_map,ζ5d _ _ _ _ hj]; rfl
    rw [hcut,orF_some] at hu;have hyb:=uS_two hrb hcut;obtain ⟨b,H2,e1,h1,h2,h3,h4,h5,h6⟩:=ho.set encI_len j 0 1 0 (num ((r.drop (2 * j)).take 2)) (.int .i64 (num ((r.drop (2 * j)).take 2))) (fill_get _ _ hvl hj) rfl rfl (by decide) rfl;rw [ζid _ _ hvl hj _ hy] at h4;have hnl:needL (vals.take (j + 1)) = max (needL (vals.take j)) (num ((r.drop (2 * j)).take 2) + 1):=by rw [ζ2j hy,ζgi]
    rw [hnl];have hn0:=ζ5p (vals.take j);generalize num ((r.drop (2 * j)).take 2) = y at *;generalize needL (vals.take j) = m at *;simp at e1;obtain ⟨rfl,_⟩:=e1;have hx':Ext ((H.push B1).push B2) H2:=⟨by rw [h6]; exact hx.n,fun d hd hs => by rw [h5 d (by intro e; rw [e] at hd; simp at hd)]; exact hx.2 d hd hs⟩
    have hgv:H2.get (H.n + 2) = some ⟨rows encI (vals.take (j + 1) ++ List.replicate (n - (j + 1)) 0),1,false⟩:=by
     rcases h4 with ⟨h,_⟩ | ⟨b',h,_,h'⟩
     ·have:=congrArg List.length h; simp only [List.length_append,List.length_replicate,List.length_take,hvl,List.length_nil] at this; omega
     ·simp at h; obtain ⟨rfl,_⟩:=h; exact h'
    have hld:=ld1_row encI_len hgv (i:=j) (c:=0) (x:=y) (by rw [List.getElem?_append_left (by simp; omega),List.getElem?_take,if_pos (by omega),hy]) (by decide) rfl;simp only [Nat.add_zero,Nat.mul_one] at h3 hld;have hmax:(if y + 1 > m then y + 1 else m) = max m (y + 1):=by split <;> omega
    refine .inl ⟨_,H2,?_,rfl,h4,hx'⟩;rw [ζ4p,← hmax];simp -implicitDefEqProofs (disch:=omega) [-stR_ptr,-ld1_ptr,hlt,ld1_ptr H.n.succ 0,hg2,hu,ζev,h3,hld]
    )
   (fun e H' ⟨he,ho,hx⟩ => by
    subst he;refine ⟨.exit 0,_,H',?_,by simp,rfl,rfl,?_,hx⟩
    ·rw [ζ4p,List.take_of_length_le (by omega)];simp -implicitDefEqProofs
    ·rw [List.take_of_length_le (by omega)] at ho;simpa using ho)
  obtain ⟨o3,g⟩:=g.more_own ho hx;obtain ⟨sl,hsl⟩:∃ sl:Value,sl = .slice (some ⟨H.n + 2,0,none⟩) n n:=⟨_,rfl⟩
  rw [← hsl] at g ho hr';obtain ⟨bs',hbs⟩:∃ bs',bs' = bs ++ [itBlk H.n B1,itBlk (H.n + 1) B2,itRow o3 1 sl encI vals]:=⟨_,rfl⟩
  have g:Star H0 H1 (itBlk c ⟨[.int .i64 n,tab,s1,s2],1,false⟩ :: itRow o1 1 s1 encU l :: itRow o2 4 s2 encEn es :: (X ++ bs')):=by
   rw [hbs];simpa using g
  have hM1:=g.get 0 rfl;have hB1g:H1.get H.n = some B1:=g.memBlk (by simp [hbs]);have hn1:¬ H.n = H1.n:=by have:=Heap.get_lt hB1g; omega
  have hc1:¬ c = H1.n:=by have:=Heap.get_lt hM1; omega
  have hvq:=(g.row 1 rfl).veq;obtain ⟨s1',o1',H2,e2,g⟩:=g.append1 (bytes:=24) 1 encU_len rfl (vals,sl) (by rw [hll]; omega) (by decide);simp only [List.set_cons_zero,List.set_cons_succ] at g;have hB1g2:H2.get H.n = some B1:=g.memBlk (by simp [hbs]);obtain ⟨H3,e3,g,_⟩:=g.stCell 0 rfl 2 (g.row 1 rfl).storable (g.row 1 rfl).cells (by simp);simp only [List.set_cons_zero,List.set_cons_succ] at g;refine ⟨H3,nrm_of ?_,l ++ [(vals,sl)],s1',o1',s2,o2,bs',by simp [h1],g,fun x hx => ?_⟩
  ·have hsls:storable sl = true:=by rw [hsl]; rfl
   have hslc:sl.cells = #[sl]:=by rw [hsl]; rfl
   have hsln:∀ H',lnS sl H' = .ok (.int .i64 n) H':=fun H' => by rw [hsl]; rfl
   rw [hB1] at hB1g hB1g2 hr';rw [hB2] at hr';simp only [encU] at e2;simp -implicitDefEqProofs (disch:=omega) [-stR_ptr,ζw,hcn,hM,hlen1,hRows,mkR_nat,stR_ptr 1 (H.n + 1) 0,← hsl,hr',ζ7j,hB1g,hB1g2,hn1,hc1,hM1,hvq,hE,hsls,hslc,hsln,e2,e3]
  ·rcases List.mem_append.1 hx with hx | hx
   ·obtain ⟨o,ho⟩:=h3 x hx;exact ⟨o,by rw [hbs]; simp [ho]⟩
   ·simp at hx;subst hx;exact ⟨o3,by rw [hbs]; simp⟩
end Go.Sw
end
section
namespace Go.Sw
open Go.RowKit
theorem ζmf (k:Nat) {H0 H:Heap} {X:List It} {c:Nat} {n:Int} {tab:Value} {rs:List (List Int)} {es:List En} (h:MS H0 H X c n tab rs es) (hel:es.length < 65536) {vR vE:Value} {ev:List Int} (w:Int) (hw:w = 0 ∨ w = 1 ∨ w = 2) (hv:Sl H 1 vE encB ev) (hR:Go.Sw.veq vR vR = true) (hb:Byt ev) (hl:ev.length < 2 ^ 31) :
  match entK ev w es.length with
  | some e => ∃ H',R (T k) F.ζa [.agg #[ptrV c,vR,vE,.int .i64 w]] H = .ok (.int .i64 (e.next + 1)) H' ∧ MS H0 H' X c n tab rs (es ++ [e])
  | none => R (T k) F.ζa [.agg #[ptrV c,vR,vE,.int .i64 w]] H = .panic failV H:=by
 obtain ⟨l,s1,o1,s2,o2,bs,h1,g,h3⟩:=h;have hM:=g.get 0 rfl;have hlen2:=(g.row 2 rfl).len;have hcn:¬ c = H.n:=by have:=Heap.get_lt hM; omega
 have hx1:Ext H (H.push ⟨[ptrV c,vR,vE,.int .i64 w],1,false⟩):=(Ext.refl H).push _;have hm0:0 ≤ (4 + 2 * w) * (es.length:Int):=Int.mul_nonneg (by omega) (by omega);have hm1:(4 + 2 * w) * (es.length:Int) ≤ 8 * 65536:=Int.mul_le_mul (by omega) (by omega) (by omega) (by omega);have hCut:=Cut_run k (hv.up hx1) ((4 + 2 * w) * es.length) (4 + 2 * w) (by omega);rw [ζ9g];cases hr:pieceS ev ((4 + 2 * w) * es.length) (4 + 2 * w) with
 | none =>
  have:entK ev w es.length = none:=by unfold entK; rw [hr]; rfl
  rw [this];rw [hr] at hCut;refine ζv ⟨_,?_,hx1⟩ Flat.fail.alive;simp -implicitDefEqProofs (disch:=omega) [ζa,hcn,hM,hlen2,hCut]
 | some r =>
  have hK:entK ev w es.length = some (entOf w r):=by unfold entK; rw [hr]; rfl
  rw [hK];dsimp only;rw [hr] at hCut;have hs:=ζ34 (hv.up hx1) hr;have hrb:=(hb.piece hr).1;have hrl:=ζ2x hr;generalize subV 1 vE ((4 + 2 * w) * (es.length:Int)).toNat (4 + 2 * w).toNat = q at hs hCut;have hq:=rd_vw hs;obtain ⟨B1,hB1⟩:∃ B1:Blk,B1 = ⟨[ptrV c,vR,vE,.int .i64 w],1,false⟩:=⟨_,rfl⟩
  obtain ⟨B2,hB2⟩:∃ B2:Blk,B2 = ⟨[q],1,false⟩:=⟨_,rfl⟩
  obtain ⟨e,he⟩:∃ e,e = entOf w r:=⟨_,rfl⟩
  rw [← he];have hu:∀ i,0 ≤ i → i + 2 ≤ 4 + 2 * w → ∀ H',Ext (H.push B1) H' → R (T k) F.ζ8 [.agg #[q],.int .i64 i] H' = .ok (.int .i64 (gU r i 2)) H':=fun i hi0 hi1 H' hx => by
   rw [← hB1] at hs;have:=U16_run k (hs.up hx) hrb i (by omega);rw [(piece_gU hb hr hi0 hi1).1,orF_some] at this;exact this
  have hx2:Ext (H.push B1) ((H.push B1).push B2):=(Ext.refl _).push _;have u0:=hu 0 (by omega) (by omega) _ hx2;have u2:=hu 2 (by omega) (by omega) _ hx2;have g0:=(piece_gU hb hr (i:=0) (by omega) (by omega)).2;have g2:=(piece_gU hb hr (i:=2) (by omega) (by omega)).2;have hn:e.next = gU r 0 2:=by rw [he]; rfl
  have hf:e.flags = gU r 2 2:=by rw [he]; rfl
  have g:=((g.push B1).push B2).push ⟨encEn e,1,false⟩;obtain ⟨P,hP⟩:∃ P,P = ((H.push B1).push B2).push ⟨encEn e,1,false⟩:=⟨_,rfl⟩
  rw [← hP] at g;obtain ⟨bs',hbs⟩:∃ bs',bs' = bs ++ [itBlk H.n B1,itBlk (H.n + 1) B2,itBlk (H.n + 2) ⟨encEn e,1,false⟩]:=⟨_,rfl⟩
  have g:Star H0 P (itBlk c ⟨[.int .i64 n,tab,s1,s2],1,false⟩ :: itRow o1 1 s1 encU l :: itRow o2 4 s2 encEn es :: (X ++ bs')):=by
   rw [hbs];simpa using g
  have hM1:=g.get 0 rfl;have hB1g:P.get H.n = some B1:=g.memBlk (by simp [hbs]);have hPn:P.n = H.n + 3:=by rw [hP]; simp
  have hn1:¬ H.n = P.n:=by omega
  have hc1:¬ c = P.n:=by have:=Heap.get_lt hM1; omega
  have hvq:=(g.row 2 rfl).veq;obtain ⟨s2',o2',H2,e2,g⟩:=g.append1 (bytes:=32) 2 ζ58 rfl e (by omega) (by decide);simp only [List.set_cons_zero,List.set_cons_succ] at g;have hB1g2:H2.get H.n = some B1:=g.memBlk (by simp [hbs]);obtain ⟨H3,e3,g,_⟩:=g.stCell 0 rfl 3 (g.row 2 rfl).storable (g.row 2 rfl).cells (by simp);simp only [List.set_cons_zero,List.set_cons_succ] at g;have hB3g:H3.get (H.n + 2) = some ⟨encEn e,1,false⟩:=g.memBlk (by simp [hbs]);refine ⟨H3,nrm_of ?_,l,s1,o1,s2',o2',bs',h1,g,fun x hx => ?_⟩;rotate_left
  ·obtain ⟨o,ho⟩:=h3 x hx;exact ⟨o,by rw [hbs]; simp [ho]⟩
  rw [hB1] at hB1g hB1g2;have hPe:=hP;rw [hB1,hB2] at hPe;have hP2:P.get (H.n + 2) = some ⟨encEn e,1,false⟩:=by rw [hP]; simp
  have hP1:P.get (H.n + 1) = some B2:=by rw [hP]; simp
  rw [hB2] at hP1;rw [hB1,hB2] at u0 u2;have hq2:Go.Sw.veq (.agg #[q]) (.agg #[q]) = true:=veq_agg (l:=[q]) fun u hu => by simp at hu; subst hu; exact hq
  have hn2:¬ H.n + 2 = P.n:=by omega
  have e2':=e2;unfold encEn at e2';have hj4:ζ2a k (R (T k)) (ptrV H.n) (ptrV (H.n + 1)) (ptrV (H.n + 2)) (.bool false) P = .ok (.int .i64 (e.next + 1)) H3:=by
   rw [ζ7a];simp -implicitDefEqProofs (disch:=omega) [-stR_ptr,hB1g,hM1,hP2,hn1,hc1,hB1g2,hvq,e2',e3,hB3g]
  have hj3:ζ29 k (R (T k)) (ptrV H.n) (ptrV (H.n + 2)) P = .ok (.int .i64 (e.next + 1)) H3:=by
   rw [ζ79];simp -implicitDefEqProofs (disch:=omega) [-stR_ptr,hB1g,hM1,hP2,hn1,hc1,hB1g2,hvq,e2',e3,hB3g]
  rcases hw with rfl | rfl | rfl
  ·have hall:encEn e = [.int .i64 (gU r 0 2),.int .i64 (gU r 2 2),.int .i64 0,.int .i64 0]:=by rw [he]; rfl
   rw [hall] at hPe;simp -implicitDefEqProofs (disch:=omega) at hCut;simp -implicitDefEqProofs (disch:=omega) [ζa,hcn,hM,hlen2,hCut,u0,u2,hq2,← hPe,ζ78,hB1g,hj4]
  ·have hall:encEn e = [.int .i64 (gU r 0 2),.int .i64 (gU r 2 2),.int .i64 (gU r 4 2),.int .i64 0]:=by rw [he]; rfl
   rw [hall] at hPe;have u4:=hu 4 (by omega) (by omega) _ (hx2.push ⟨[.int .i64 (gU r 0 2),.int .i64 (gU r 2 2),.int .i64 0,.int .i64 0],1,false⟩);rw [hB1,hB2] at u4;simp -implicitDefEqProofs (disch:=omega) at hCut;simp -implicitDefEqProofs (disch:=omega) [ζa,hcn,hM,hlen2,hCut,u0,u2,u4,hq2,← hPe,ζ40,hB1g,hj4]
  ·have hall:encEn e = [.int .i64 (gU r 0 2),.int .i64 (gU r 2 2),.int .i64 (gU r 4 2),.int .i64 (gU r 6 2)]:=by rw [he]; rfl
   rw [hall] at hPe;have u4:=hu 4 (by omega) (by omega) _ (hx2.push ⟨[.int .i64 (gU r 0 2),.int .i64 (gU r 2 2),.int .i64 0,.int .i64 0],1,false⟩);have u6:=hu 6 (by omega) (by omega) _ (hx2.push ⟨[.int .i64 (gU r 0 2),.int .i64 (gU r 2 2),.int .i64 (gU r 4 2),.int .i64 0],1,false⟩);rw [hB1,hB2] at u4 u6;simp -implicitDefEqProofs (disch:=omega) at hCut;simp -implicitDefEqProofs (disch:=omega) [ζa,hcn,hM,hlen2,hCut,u0,u2,u4,u6,hq2,← hPe,ζ40,hj3]
theorem ζl6 (rs:List (List Int)) (r:List Int):needR (rs ++ [r]) = max (needR rs) (needL r):=by
 unfold needR;rw [List.flatten_append,ζ5o];simp
theorem ζ9a (rs:List (List Int)):0 ≤ needR rs:=ζ5p _
theorem rowK_lt {rv:List Int} (hb:Byt rv) {n:Int} {k:Nat} {r:List Int} (h:rowK rv n k = some r):∀ y,y ∈ r → 0 ≤ y ∧ y < 65536:=by
 unfold rowK listS at h;obtain ⟨q,hq,rfl⟩:=Option.map_eq_some_iff.1 h;have hqb:=(hb.piece (ζ20 hq)).1;intro y hy;obtain ⟨c,hc,rfl⟩:=List.mem_map.1 hy;obtain ⟨h5,h6⟩:=ζ8d hqb _ _ hc;have:=ζf2 c h5;have hp:(256:Int) ^ c.length ≤ 256 ^ 2:=by
  have:c.length ≤ 2:=h6
  match hcl:c.length,this with
  | 0,_ => decide
  | 1,_ => decide
  | 2,_ => decide
 omega
theorem ζe6 {rv:List Int} (hb:Byt rv) {n:Int} {m:Nat} {rs:List (List Int)} (h:rowsTo rv n m = some rs):needR rs ≤ 65536:=needL_lt (by omega) fun y hy => by
 obtain ⟨r,hrm,hy⟩:=List.mem_flatten.1 hy;obtain ⟨i,hi⟩:=List.getElem?_of_mem hrm;obtain ⟨k,_,hk⟩:=mapO_get h hi;exact (rowK_lt hb hk y hy).2
theorem ζcg {β:Type} {f:Nat → Option β} {n m:Nat} (h:n ≤ m) (hn:mapO f (List.range n) = none):mapO f (List.range m) = none:=by
 cases hm:mapO f (List.range m) with
 | none => rfl
 | some r => rw [ζdz h hm] at hn; cases hn
section
variable (k:Nat) {H0:Heap} {X:List It} {c r:Nat} {n:Int} {tab vR vE:Value} {rv ev:List Int} {w:Int}
 (hn:0 ≤ n ∧ n ≤ 65535) (hw:w = 0 ∨ w = 1 ∨ w = 2) (hvR:Sl H0 1 vR encB rv) (hvE:Sl H0 1 vE encB ev) (hbR:Byt rv) (hbE:Byt ev) (hlR:rv.length < 2 ^ 31) (hlE:ev.length < 2 ^ 31)
 (hX:itBlk r ⟨[ptrV c,vR,vE,.int .i64 w],1,false⟩ ∈ X)
include hn hvR hvE hbR hlR hX
theorem ζna {H:Heap} (s:Nat) (hs:s ≤ 65536) {rs:List (List Int)} {es:List En} (h:MS H0 H X c n tab rs es) (hrs:rs.length ≤ s) (ht:rowsTo rv n rs.length = some rs) :
  (∃ rs' H',loopN (ζ3r k (R (T k))) loopFuel [(8,ptrV c),(9,ptrV r),(10,.int .i64 s),(11,.int .i64 (needR rs))] H = .ok (.exit 2,[(8,ptrV c),(9,ptrV r),(10,.int .i64 s),(11,.int .i64 (needR rs')),(63,.bool false)]) H' ∧ rowsTo rv n s = some rs' ∧ MS H0 H' X c n tab rs' es) ∨
  (∃ H',loopN (ζ3r k (R (T k))) loopFuel [(8,ptrV c),(9,ptrV r),(10,.int .i64 s),(11,.int .i64 (needR rs))] H = .panic failV H' ∧ Ext H0 H' ∧ rowsTo rv n s = none):=by
 rcases loopDecP (body:=ζ3r k (R (T k)))
  (fun m e H' => ∃ rs,m = s - rs.length ∧ rs.length ≤ s ∧ e = [(8,ptrV c),(9,ptrV r),(10,.int .i64 s),(11,.int .i64 (needR rs))] ∧ rowsTo rv n rs.length = some rs ∧ MS H0 H' X c n tab rs es)
  (fun x e H' => ∃ rs',x = .exit 2 ∧ e = [(8,ptrV c),(9,ptrV r),(10,.int .i64 s),(11,.int .i64 (needR rs')),(63,.bool false)] ∧ rowsTo rv n s = some rs' ∧ MS H0 H' X c n tab rs' es)
  (fun v H' => v = failV ∧ Ext H0 H' ∧ rowsTo rv n s = none)
  (s - rs.length) (e0:=[(8,ptrV c),(9,ptrV r),(10,.int .i64 s),(11,.int .i64 (needR rs))]) (H0:=H) ⟨rs,rfl,hrs,rfl,ht,h⟩ (by omega)
  (fun m e H' ⟨rs,hm,hle,he,ht,h⟩ => by
   subst he;obtain ⟨s1,s2,hM,hl1,hl2⟩:=h.here;have hr:=h.memX hX;have h0:=ζ9a rs;have h6:=ζe6 hbR ht;by_cases hlt:rs.length < s
   ·have hlt':(rs.length:Int) < s:=by omega
    have hrow:=row_run k h hn (by omega) (vE:=vE) w (hvR.up h.ext) (rd_vw hvE) hbR hlR;cases hK:rowK rv n rs.length with
    | none =>
     rw [hK] at hrow;refine .inr (.inr ⟨failV,H',?_,rfl,h.ext,ζcg (n:=rs.length + 1) hlt ?_⟩)
     ·rw [ζ5t];simp -implicitDefEqProofs (disch:=omega) [hM,hl1,hlt',hr,hrow]
     ·rw [ζ9t,show mapO (rowK rv n) (List.range rs.length) = some rs from ht,Option.bind_some,hK];rfl
    | some row =>
     rw [hK] at hrow;obtain ⟨H2,e2,h2⟩:=hrow;have hmax:(if needL row > needR rs then needL row else needR rs) = needR (rs ++ [row]):=by rw [ζl6]; split <;> omega
     refine .inl ⟨s - (rs ++ [row]).length,_,H2,?_,by simp; omega,rs ++ [row],rfl,by simp; omega,rfl,?_,h2⟩
     ·rw [ζ5t,← hmax];simp -implicitDefEqProofs (disch:=omega) [hM,hl1,hlt',hr,e2]
     ·rw [List.length_append,List.length_singleton];unfold rowsTo at ht ⊢;rw [ζ9t,ht,Option.bind_some,hK];rfl
   ·have hlt':¬ (rs.length:Int) < s:=by omega
    refine .inr (.inl ⟨.exit 2,_,H',?_,by simp,rs,rfl,rfl,by rw [show s = rs.length by omega]; exact ht,h⟩);rw [ζ5t];simp -implicitDefEqProofs (disch:=omega) [hM,hl1,hlt']) with ⟨x,e',H',h1,rs',rfl,rfl,h2,h3⟩ | ⟨v,H',h1,rfl,h2,h3⟩
 ·exact .inl ⟨rs',H',h1,h2,h3⟩
 ·exact .inr ⟨H',h1,h2,h3⟩
end
section
variable (k:Nat) {H0:Heap} {X:List It} {c r:Nat} {n:Int} {tab vR vE:Value} {rv ev:List Int} {w:Int}
 (hn:0 ≤ n ∧ n ≤ 65535) (hw:w = 0 ∨ w = 1 ∨ w = 2) (hvR:Sl H0 1 vR encB rv) (hvE:Sl H0 1 vE encB ev) (hbR:Byt rv) (hbE:Byt ev) (hlR:rv.length < 2 ^ 31) (hlE:ev.length < 2 ^ 31)
 (hX:itBlk r ⟨[ptrV c,vR,vE,.int .i64 w],1,false⟩ ∈ X)
include hw hvR hvE hbE hlE hX
theorem ζmg {H:Heap} (s:Int) (hs:2 ≤ s ∧ s ≤ 65536) (N:Nat) (hN:N ≤ 65536) {rs:List (List Int)} {es:List En} (h:MS H0 H X c n tab rs es) (hes:es.length ≤ N) (ht:entsTo ev w es.length = some es) (hsn:needE es ≤ s) :
  (∃ es' H',loopN (ζ3s k (R (T k))) loopFuel [(8,ptrV c),(9,ptrV r),(10,.int .i64 s),(11,.int .i64 N)] H = .ok (.exit 4,[(8,ptrV c),(9,ptrV r),(10,.int .i64 (max s (needE es'))),(11,.int .i64 N),(74,.bool false)]) H' ∧ entsTo ev w N = some es' ∧ MS H0 H' X c n tab rs es') ∨
  (∃ H',loopN (ζ3s k (R (T k))) loopFuel [(8,ptrV c),(9,ptrV r),(10,.int .i64 s),(11,.int .i64 N)] H = .panic failV H' ∧ Ext H0 H' ∧ entsTo ev w N = none):=by
 rcases loopDecP (body:=ζ3s k (R (T k)))
  (fun m e H' => ∃ es,m = N - es.length ∧ es.length ≤ N ∧ e = [(8,ptrV c),(9,ptrV r),(10,.int .i64 (max s (needE es))),(11,.int .i64 N)] ∧ entsTo ev w es.length = some es ∧ MS H0 H' X c n tab rs es)
  (fun x e H' => ∃ es',x = .exit 4 ∧ e = [(8,ptrV c),(9,ptrV r),(10,.int .i64 (max s (needE es'))),(11,.int .i64 N),(74,.bool false)] ∧ entsTo ev w N = some es' ∧ MS H0 H' X c n tab rs es')
  (fun v H' => v = failV ∧ Ext H0 H' ∧ entsTo ev w N = none)
  (N - es.length) (e0:=[(8,ptrV c),(9,ptrV r),(10,.int .i64 s),(11,.int .i64 N)]) (H0:=H) ⟨es,rfl,hes,by rw [show max s (needE es) = s by omega],ht,h⟩ (by omega)
  (fun m e H' ⟨es,hm,hle,he,ht,h⟩ => by
   subst he;obtain ⟨s1,s2,hM,hl1,hl2⟩:=h.here;have hr:=h.memX hX;have h6:=needE_le hbE ht;by_cases hlt:es.length < N
   ·have hlt':(es.length:Int) < N:=by omega
    have hent:=ζmf k h (by omega) (vR:=vR) w hw (hvE.up h.ext) (rd_vw hvR) hbE hlE;cases hK:entK ev w es.length with
    | none =>
     rw [hK] at hent;refine .inr (.inr ⟨failV,H',?_,rfl,h.ext,ζcg (n:=es.length + 1) hlt ?_⟩)
     ·rw [ζ5u];simp -implicitDefEqProofs (disch:=omega) [hM,hl2,hlt',hr,hent]
     ·rw [ζ9t,show mapO (entK ev w) (List.range es.length) = some es from ht,Option.bind_some,hK];rfl
    | some en =>
     rw [hK] at hent;obtain ⟨H2,e2,h2⟩:=hent;have hen:needE (es ++ [en]) = max (needE es) (en.next + 1):=by
      unfold needE;rw [List.map_append,List.map_singleton,ζgi];omega
     have hmax:(if en.next + 1 > max s (needE es) then en.next + 1 else max s (needE es)) = max s (needE (es ++ [en])):=by rw [hen]; split <;> omega
     refine .inl ⟨N - (es ++ [en]).length,_,H2,?_,by simp; omega,es ++ [en],rfl,by simp; omega,rfl,?_,h2⟩
     ·rw [ζ5u,← hmax];simp -implicitDefEqProofs (disch:=omega) [hM,hl2,hlt',hr,e2]
     ·rw [List.length_append,List.length_singleton];unfold entsTo at ht ⊢;rw [ζ9t,ht,Option.bind_some,hK];rfl
   ·have hlt':¬ (es.length:Int) < N:=by omega
    refine .inr (.inl ⟨.exit 4,_,H',?_,by simp,es,rfl,rfl,by rw [show N = es.length by omega]; exact ht,h⟩);rw [ζ5u];simp -implicitDefEqProofs (disch:=omega) [hM,hl2,hlt']) with ⟨x,e',H',h1,es',rfl,rfl,h2,h3⟩ | ⟨v,H',h1,rfl,h2,h3⟩
 ·exact .inl ⟨es',H',h1,h2,h3⟩
 ·exact .inr ⟨H',h1,h2,h3⟩
end
section
variable (k:Nat) {H0:Heap} {X:List It} {c r:Nat} {n:Int} {tab vR vE:Value} {rv ev:List Int} {w:Int}
 (hn:0 ≤ n ∧ n ≤ 65535) (hw:w = 0 ∨ w = 1 ∨ w = 2) (hvR:Sl H0 1 vR encB rv) (hvE:Sl H0 1 vE encB ev) (hbR:Byt rv) (hbE:Byt ev) (hlR:rv.length < 2 ^ 31) (hlE:ev.length < 2 ^ 31)
 (hX:itBlk r ⟨[ptrV c,vR,vE,.int .i64 w],1,false⟩ ∈ X)
include hn hw hvR hvE hbR hbE hlR hlE hX
theorem all_loop {H:Heap} (h:MS H0 H X c n tab [] []) :
  Cp failV (Ext H0) (loopN (ζ3q k (R (T k))) loopFuel [(8,ptrV c),(9,ptrV r),(10,.int .i64 2),(11,.int .i64 0)] H) (closeA rv ev n w 2)
   fun x xe H' => (∃ a b,xe = (.exit 0,[(8,ptrV c),(9,ptrV r),(10,a),(11,b),(56,.bool false)])) ∧ MS H0 H' X c n tab x.1 x.2:=by
 rcases loopDecP (body:=ζ3q k (R (T k)))
  (fun m e H' => ∃ (s:Nat) (rs:List (List Int)) (es:List En),m = 2 * (65537 - s) + (if rs.length < s then 1 else 0) ∧ e = [(8,ptrV c),(9,ptrV r),(10,.int .i64 s),(11,.int .i64 (needR rs))] ∧ 2 ≤ s ∧ s ≤ 65536 ∧ rs.length ≤ s ∧
   rowsTo rv n rs.length = some rs ∧ es.length = (needR rs).toNat ∧ entsTo ev w es.length = some es ∧ needE es ≤ s ∧ MS H0 H' X c n tab rs es ∧ closeA rv ev n w 2 = if rs.length < s then closeA rv ev n w s else some (rs,es))
  (fun x e H' => x = .exit 0 ∧ ∃ rs es a b,e = [(8,ptrV c),(9,ptrV r),(10,a),(11,b),(56,.bool false)] ∧ closeA rv ev n w 2 = some (rs,es) ∧ MS H0 H' X c n tab rs es)
  (fun v H' => v = failV ∧ Ext H0 H' ∧ closeA rv ev n w 2 = none)
  (2 * 65535 + 1) (e0:=[(8,ptrV c),(9,ptrV r),(10,.int .i64 2),(11,.int .i64 0)]) (H0:=H) ⟨2,[],[],rfl,rfl,by omega,by omega,by simp,rfl,rfl,rfl,(by decide),h,rfl⟩ (by omega)
  (fun m e H' ⟨s,rs,es,hm,he,hs2,hs6,hrs,ht,hel,hte,hne,h,hspec⟩ => by
   subst he;obtain ⟨s1,s2,hM,hl1,hl2⟩:=h.here;have h0:=ζ9a rs;by_cases hlt:rs.length < s
   ·have hlt':(rs.length:Int) < s:=by omega
    rw [if_pos hlt] at hspec;have hce:=ζm9 (rv:=rv) hbE (n:=n) (w:=w) hs6;have hgo:∀ x,(loopN (ζ3r k (R (T k))) loopFuel [(8,ptrV c),(9,ptrV r),(10,.int .i64 s),(11,.int .i64 (needR rs))] H').bind (fun r111 h112 => ζ76 k (R (T k)) r111.1 r111.2 h112) = x → ζ3q k (R (T k)) [(8,ptrV c),(9,ptrV r),(10,.int .i64 s),(11,.int .i64 (needR rs))] H' = x:=fun x hx => by
     rw [← hx,ζ85];simp -implicitDefEqProofs (disch:=omega) [hM,hl1,hlt']
    rcases ζna k hn hvR hvE hbR hlR hX s hs6 h hrs ht with ⟨rs',H2,e2,ht2,h2⟩ | ⟨H2,e2,hx2,ht2⟩
    rotate_left
    ·refine .inr (.inr ⟨failV,H2,hgo _ ?_,rfl,hx2,by rw [hspec,hce,ht2]; rfl⟩);rw [e2]; rfl
    have hrl:rs'.length = s:=by have:=mapO_len ht2; simpa using this
    have hn2:=ζ9a rs';have hn6:=ζe6 hbR ht2;have hpre:rs = rs'.take rs.length:=by
     have:=ζdz hrs ht2;have ht':mapO (rowK rv n) (List.range rs.length) = some rs:=ht;rw [ht'] at this;injection this
    have hmono:needR rs ≤ needR rs':=by
     conv => lhs; rw [hpre]
     have:=List.take_append_drop rs.length rs';conv => rhs; rw [← this]
     unfold needR;rw [List.flatten_append,ζ5o];omega
    have hNN:((needR rs').toNat:Int) = needR rs':=by omega
    rw [hspec] at *;rw [ht2,Option.bind_some] at hce;have hgo2:∀ x,(loopN (ζ3s k (R (T k))) loopFuel [(8,ptrV c),(9,ptrV r),(10,.int .i64 s),(11,.int .i64 (((needR rs').toNat:Nat):Int))] H2).bind (fun r111 h112 => ζ77 k (R (T k)) r111.1 r111.2 h112) = x → ζ3q k (R (T k)) [(8,ptrV c),(9,ptrV r),(10,.int .i64 s),(11,.int .i64 (needR rs))] H' = x:=fun x hx => by
     refine hgo x ?_;rw [e2,← hx,Res.bind_ok,ζb9,hNN]
    rcases ζmg k hw hvR hvE hbE hlE hX s (by omega) (needR rs').toNat (by omega) h2 (by omega) hte hne with ⟨es',H3,e3,ht3,h3⟩ | ⟨H3,e3,hx3,ht3⟩
    rotate_left
    ·refine .inr (.inr ⟨failV,H3,hgo2 _ ?_,rfl,hx3,by rw [hce,ht3]; rfl⟩);rw [e3]; rfl
    have hE:=needE_le hbE ht3;have hel':es'.length = (needR rs').toNat:=by have:=mapO_len ht3; simpa using this
    rw [ht3,Option.bind_some] at hce;have hmx:((max s (needE es').toNat:Nat):Int) = max (s:Int) (needE es'):=by omega
    refine .inl ⟨2 * (65537 - max s (needE es').toNat) + (if rs'.length < max s (needE es').toNat then 1 else 0),_,H3,hgo2 _ ?_,?_,max s (needE es').toNat,rs',es',rfl,rfl,by omega,by omega,by omega,by rw [hrl]; exact ht2,hel',by rw [hel']; exact ht3,by omega,h3,?_⟩
    ·rw [e3,Res.bind_ok,ζba,hmx,hNN]
    ·rw [hm,if_pos hlt,hrl];split <;> omega
    ·rw [hce,hrl];by_cases hcl:(needE es').toNat ≤ s
     ·rw [if_pos hcl,if_neg (by omega)]
     ·rw [if_neg hcl,if_pos (by omega),show max s (needE es').toNat = (needE es').toNat by omega]
   ·have hlt':¬ (rs.length:Int) < s:=by omega
    have hlt2:¬ (es.length:Int) < needR rs:=by omega
    rw [if_neg hlt] at hspec;refine .inr (.inl ⟨.exit 0,[(8,ptrV c),(9,ptrV r),(10,.int .i64 s),(11,.int .i64 (needR rs)),(56,.bool false)],H',?_,by simp,rfl,rs,es,_,_,rfl,hspec,h⟩);rw [ζ85];simp -implicitDefEqProofs (disch:=omega) [hM,hl1,hl2,hlt',hlt2]) with ⟨x,e',H',h1,rfl,rs',es',a,b,rfl,h2,h3⟩ | ⟨v,H',h1,rfl,h2,h3⟩
 ·rw [h2];exact ⟨_,H',h1,h3.ext,⟨a,b,rfl⟩,h3⟩
 ·rw [h3];exact ⟨H',h1,h2⟩
end
end Go.Sw
end
section
namespace Go.Sw
open Go.RowKit
abbrev machV (m:Mach):Value:=boxV #[.int .i64 m.classes,tabV m.tab,lv encRow m.rows,lv encEn m.ents]
theorem Flat.rowsL (l:List (List Int)):Flat (Go.Sw.lv encRow l):=.lv fun p _ => .cons (Flat.I _) .nil
theorem Flat.mach (m:Mach):Flat (machV m):=.boxV (l:=[.int .i64 m.classes,tabV m.tab,Go.Sw.lv encRow m.rows,Go.Sw.lv encEn m.ents]) (.cons (.int _ _) (.cons (Flat.tab _) (.cons (Flat.rowsL _) (.cons (Flat.Ens _) .nil))))
theorem ζn9 (l:List (List Int × Value)):rows (fun x:List Int × Value => encRow x.1) l = rows encRow (l.map Prod.fst):=by
 induction l with
 | nil => rfl
 | cons x l ih => rw [List.map_cons,ζ35,ζ35,ih]
theorem MS.freeze {H0 H:Heap} {X:List It} {c:Nat} {n:Int} {t:Int × List Pt} {rs:List (List Int)} {es:List En} (h:MS H0 H X c n (tabV t) rs es):∃ L,fzV H0.n H fzDepth (ptrV c) = some (machV ⟨n,t,rs,es⟩,L):=by
 obtain ⟨l,s1,o1,s2,o2,bs,h1,g,h3⟩:=h;have hc:=(g.lt 0 rfl c (by simp [itBlk])).1;obtain ⟨L1,f1⟩:=(g.own 1 rfl).freezeG (enc':=fun x:List Int × Value => encRow x.1) encU_len 5 fun x hx => by
  obtain ⟨o,ho⟩:=h3 x hx;obtain ⟨L,hL⟩:=(g.memOwn (o:=o) (m:=1) (s:=x.2) (enc:=encI) (l:=x.1) (by simp [ho])).freeze encI_len (ζbv _) 4;exact ⟨_,mapF_one hL⟩
 obtain ⟨L2,f2⟩:=(g.own 2 rfl).freeze ζ58 (ζdq _) 5;have e1:lv (fun x:List Int × Value => encRow x.1) l = lv encRow rs:=by
  unfold lv;rw [ζn9,h1,← h1,List.length_map]
 rw [e1] at f1;exact ⟨_,fz_box hc (g.get 0 rfl) (ζ1s (v:=.int .i64 n) (u:=.int .i64 n) (L1:=[]) rfl (ζ1s (v:=tabV t) (u:=tabV t) (L1:=[]) rfl (ζ1s f1 (mapF_one f2))))⟩
theorem restS_sl {H:Heap} {v:Value} {b r:List Int} (hv:Sl H 1 v encB b) {i:Int} (hl:b.length < 2 ^ 62) (hi:i ≤ 9223372036854775807) (h:restS b i = some r):Sl H 1 (subV 1 v i.toNat (behind b i).toNat) encB r :=
 ζ34 hv (by rw [ζ91 b i hl hi]; exact h)
theorem ζ4l {b r:List Int} {i:Int} (h:restS b i = some r):r.length ≤ b.length:=by
 unfold restS at h;split at h
 ·injection h with h;subst h;simp
 ·cases h
theorem ζgz (k:Nat) {H:Heap} {v:Value} {b:List Int} (hv:Sl H 1 v encB b) (hb:Byt b) (g w:Int) (hg1:1 ≤ g) (hg2:g ≤ 65535) (hw:w = 0 ∨ w = 1 ∨ w = 2) (hl:b.length < 2 ^ 31) :
  R (T k) F.ζ1x [.agg #[v],.int .i64 g,.int .i64 w] H = orF (machS b g w) machV H:=by
 rw [ζht];have hx:Ext H (H.push ⟨[v],1,false⟩):=(Ext.refl H).push _;have hq:=rd_vw hv;have hqa:veq (.agg #[v]) (.agg #[v]) = true:=veq_agg (l:=[v]) fun u hu => by simp at hu; subst hu; exact hq
 refine fz_orF ?_ fun _ _ => (Flat.mach _).alive;simp -implicitDefEqProofs [ζ1x];unfold machS;refine Cp.call (U32_run k (hv.up hx) hb 0 (by omega)) hx fun n hn => ?_;have hn:=uS_four hb hn;by_cases h4:4 ≤ n;rotate_left
 ·have h4':¬ n ≥ 4:=by omega
  rw [if_neg (fun h => h4 h.1)];simp -implicitDefEqProofs (disch:=omega) [h4'];exact .throw hx
 have h4':n ≥ 4:=h4;by_cases h5:n ≤ 65535;rotate_left
 ·rw [if_neg (fun h => h5 h.2)];simp -implicitDefEqProofs (disch:=omega) [h4',h5];exact .throw hx
 rw [if_pos ⟨h4,h5⟩];simp -implicitDefEqProofs (disch:=omega) [h4',h5];refine Cp.callT (U32_run k (hv.up hx) hb 4 (by omega)) (fun _ => ⟨_,rfl,hx⟩) fun i hi => ?_;have hi:=uS_four hb hi;refine Cp.callT (Rest_run k (hv.up hx) i (by omega) (by omega)) (fun _ => ⟨_,by simp -implicitDefEqProofs (disch:=omega) [hqa],hx⟩) fun tb htb => ?_;refine Cp.callT (ζce k (restS_sl (hv.up hx) (by omega) (by omega) htb) (hb.rest htb) g 2 hg1 hg2 (.inl rfl) (by have:=ζ4l htb; omega)) (fun _ => ⟨_,by simp -implicitDefEqProofs (disch:=omega) [hqa],hx⟩) fun tab htab => ?_;have hx2:Ext H ((H.push ⟨[v],1,false⟩).push ⟨[.int .i64 n,tabV tab,.slice none 0 0,.slice none 0 0],1,false⟩):=hx.push _;simp -implicitDefEqProofs (disch:=omega) [hqa];refine Cp.callT (U32_run k (hv.up hx2) hb 8 (by omega)) (fun _ => ⟨_,by simp -implicitDefEqProofs (disch:=omega) [hqa],hx2⟩) fun j hj => ?_;have hj:=uS_four hb hj;refine Cp.callT (Rest_run k (hv.up hx2) j (by omega) (by omega)) (fun _ => ⟨_,by simp -implicitDefEqProofs (disch:=omega) [hqa],hx2⟩) fun rv hrv => ?_;simp -implicitDefEqProofs (disch:=omega) [hqa];refine Cp.callT (U32_run k (hv.up hx2) hb 12 (by omega)) (fun _ => ⟨_,by simp -implicitDefEqProofs (disch:=omega) [hqa],hx2⟩) fun q hq => ?_;have hq:=uS_four hb hq;refine Cp.callT (Rest_run k (hv.up hx2) q (by omega) (by omega)) (fun _ => ⟨_,by simp -implicitDefEqProofs (disch:=omega) [hqa],hx2⟩) fun ev hev => ?_;have sR:=restS_sl hv (by omega) (by omega) hrv;have sE:=restS_sl hv (by omega) (by omega) hev;have lR:=ζ4l hrv;have lE:=ζ4l hev;generalize subV 1 v j.toNat (behind b j).toNat = vR at sR;generalize subV 1 v q.toNat (behind b q).toNat = vE at sE;have qR:=rd_vw sR;have qE:=rd_vw sE;have qaR:veq (.agg #[vR]) (.agg #[vR]) = true:=veq_agg (l:=[vR]) fun u hu => by simp at hu; subst hu; exact qR
 have qaE:veq (.agg #[vE]) (.agg #[vE]) = true:=veq_agg (l:=[vE]) fun u hu => by simp at hu; subst hu; exact qE
 have stR:=sR.storable;have stE:=sE.storable;have ceR:=sR.cells;have ceE:=sE.cells;have hms:MS H (((H.push ⟨[v],1,false⟩).push ⟨[.int .i64 n,tabV tab,.slice none 0 0,.slice none 0 0],1,false⟩).push ⟨[ptrV (H.n + 1),vR,vE,.int .i64 w],1,false⟩) [itBlk (H.n + 2) ⟨[ptrV (H.n + 1),vR,vE,.int .i64 w],1,false⟩] (H.n + 1) n (tabV tab) [] []:=by
  have g:=((Star.nil H).rest hx).push ⟨[.int .i64 n,tabV tab,.slice none 0 0,.slice none 0 0],1,false⟩;have g:=g.more_row (Ext.refl _) (OwnO.nil encU _ 1) (fun b hb => by cases hb);have g:=g.more_row (Ext.refl _) (OwnO.nil encEn _ 4) (fun b hb => by cases hb);have g:=g.push ⟨[ptrV (H.n + 1),vR,vE,.int .i64 w],1,false⟩;exact ⟨[],_,none,_,none,[],rfl,by simpa using g,fun x hx => by cases hx⟩
 simp -implicitDefEqProofs (disch:=omega) [hqa,qaR,qaE,stR,stE,ceR,ceE];refine Cp.bindM (all_loop k (X:=[itBlk (H.n + 2) ⟨[ptrV (H.n + 1),vR,vE,.int .i64 w],1,false⟩]) (by omega) hw sR sE (hb.rest hrv) (hb.rest hev) (by omega) (by omega) (by simp) hms) ?_;rintro ⟨rs,es⟩ ⟨x,e⟩ H' _ hx' ⟨⟨a,b,he⟩,hm⟩;injection he with e1 e2;subst e1 e2;simp only [ζb8];exact .ok hx' hm.freeze
end Go.Sw
end
section
set_option maxRecDepth 100000
set_option linter.unusedVariables false
namespace Go.Sw
noncomputable section
def ζio (k:Nat) (call:Caller) (a0 a1 a2:Value) (h:Heap):Res Value :=
 (boxR a1 h).bind fun v1 h2 =>
 (binR Prog .eql 3 a0 (.int .i64 0) h2).bind fun v3 h4 =>
 condV (some v3) (
 (loadR Prog 113 v1 h4).bind fun v5 h6 =>
 (call F.ζ9w [v5] h6).bind fun v7 h8 =>
 .ok v7 h8)
 (
 (binR Prog .eql 3 a0 (.int .i64 2) h4).bind fun v9 h10 =>
 condV (some v9) (
 (loadR Prog 113 v1 h10).bind fun v11 h12 =>
 (call F.ζ9x [v11,(.int .i64 4),a2,(.int .i64 2),(.int .i64 1)] h12).bind fun v13 h14 =>
 .ok v13 h14)
 (
 (binR Prog .eql 3 a0 (.int .i64 6) h10).bind fun v15 h16 =>
 condV (some v15) (
 (loadR Prog 113 v1 h16).bind fun v17 h18 =>
 (call F.ζb [v17,(.int .i64 0)] h18).bind fun v19 h20 =>
 (binR Prog .and 3 v19 (.int .i64 1) h20).bind fun v21 h22 =>
 (binR Prog .eql 3 v21 (.int .i64 1) h22).bind fun v23 h24 =>
 condV (some v23) (
 (loadR Prog 113 v1 h24).bind fun v25 h26 =>
 (call F.ζ9x [v25,(.int .i64 8),a2,(.int .i64 4),(.int .i64 4)] h26).bind fun v27 h28 =>
 .ok v27 h28)
 (
 (loadR Prog 113 v1 h24).bind fun v29 h30 =>
 (call F.ζ9x [v29,(.int .i64 8),a2,(.int .i64 2),(.int .i64 2)] h30).bind fun v31 h32 =>
 .ok v31 h32))
 (
 (call F.ζ6e [] h16).bind fun v33 h34 =>
 .ok (.pointer none) h34)))
def ζhl (k:Nat) (call:Caller):Env → Heap → Res (AExit × Env):=loopB (C k) call F.ζ9w [1,1,1,1,0,1,0,0]
def ζgp (k:Nat) (call:Caller):Kont Value:=kBlock 0 (kSeq (pieceK (C k) call F.ζ9w [1,1,1,1,1]) (kDone Prog (resOf Prog F.ζ9w)))
def ζ9w (k:Nat) (call:Caller) (a0:Value) (h:Heap):Res Value :=
 (boxR a0 h).bind fun v1 h2 =>
 (loadR Prog 113 v1 h2).bind fun v3 h4 =>
 (call F.ζb [v3,(.int .i64 0)] h4).bind fun v5 h6 =>
 (loadR Prog 113 v1 h6).bind fun v7 h8 =>
 (call F.ζy [v7,(.int .i64 0),(.int .i64 16)] h8).bind fun v9 h10 =>
 (loadR Prog 113 v1 h10).bind fun v11 h12 =>
 (call F.ζl [v11,(.int .i64 16),v5,(.int .i64 6)] h12).bind fun v13 h14 =>
 (buildR Prog 291 [(1,v13),(5,(.int .i64 2))] h14).bind fun v15 h16 =>
 (boxR v15 h16).bind fun v17 h18 =>
 (loopN (ζhl k call) loopFuel [(4,v17),(15,v5),(16,(.int .i64 0))] h18).bind fun r19 h20 =>
 ζgp k call r19.1 r19.2 h20
def ζ9x (k:Nat) (call:Caller) (a0 a1 a2 a3 a4:Value) (h:Heap):Res Value :=
 (boxR a0 h).bind fun v1 h2 =>
 (buildR Prog 291 [(4,a4),(5,a3)] h2).bind fun v3 h4 =>
 (boxR v3 h4).bind fun v5 h6 =>
 (loadR Prog 113 v1 h6).bindN fun v7 h8 =>
 (loadR Prog 113 v1 h8).bindN fun v9 h10 =>
 (call F.ζb [v9,a1] h10).bindT (fun p13 h14 => .panic p13 h14) fun v11 h12 =>
 (call F.ζg [v7,v11] h12).bindT (fun p17 h18 => chkR ((okVal (loadR Prog 113 v1 h12) v7 && true) && true) (.panic p17 h18)) fun v15 h16 =>
 (call F.ζ1g [v15,a2,a3] h16).bindT (fun p21 h22 => chkR ((okVal (loadR Prog 113 v1 h12) v7 && true) && true) (.panic p21 h22)) fun v19 h20 =>
 (nilR v5 h20).bindN fun v23 h24 =>
 (fieldAddrR Prog 291 v23 2 h24).bindN fun v25 h26 =>
 (storeR Prog 111 v25 v19 h26).bindN fun _v27 h28 =>
 chkR ((okVal (loadR Prog 113 v1 h12) v7 && true) && true) (
 (loadR Prog 113 v1 h28).bindN fun v29 h30 =>
 (loadR Prog 113 v1 h30).bindN fun v31 h32 =>
 (binR Prog .add 3 a1 (.int .i64 4) h32).bindN fun v33 h34 =>
 (call F.ζb [v31,v33] h34).bindT (fun p37 h38 => .panic p37 h38) fun v35 h36 =>
 (call F.ζg [v29,v35] h36).bindT (fun p41 h42 => chkR ((okVal (loadR Prog 113 v1 h36) v29 && true) && true) (.panic p41 h42)) fun v39 h40 =>
 (call F.ζ1g [v39,a2,a3] h40).bindT (fun p45 h46 => chkR ((okVal (loadR Prog 113 v1 h36) v29 && true) && true) (.panic p45 h46)) fun v43 h44 =>
 (nilR v5 h44).bindN fun v47 h48 =>
 (fieldAddrR Prog 291 v47 3 h48).bindN fun v49 h50 =>
 (storeR Prog 111 v49 v43 h50).bindN fun _v51 h52 =>
 chkR ((okVal (loadR Prog 113 v1 h36) v29 && true) && true) (
 (loadR Prog 113 v1 h52).bindN fun v53 h54 =>
 (loadR Prog 113 v1 h54).bindN fun v55 h56 =>
 (binR Prog .add 3 a1 (.int .i64 8) h56).bindN fun v57 h58 =>
 (call F.ζb [v55,v57] h58).bindT (fun p61 h62 => .panic p61 h62) fun v59 h60 =>
 (call F.ζg [v53,v59] h60).bindT (fun p65 h66 => chkR ((okVal (loadR Prog 113 v1 h60) v53 && true) && true) (.panic p65 h66)) fun v63 h64 =>
 (nilR v5 h64).bindN fun v67 h68 =>
 (fieldAddrR Prog 291 v67 1 h68).bindN fun v69 h70 =>
 (storeR Prog 113 v69 v63 h70).bindN fun _v71 h72 =>
 chkR ((okVal (loadR Prog 113 v1 h60) v53 && true) && true) (
 (nilR v5 h72).bindN fun v73 h74 =>
 (fieldAddrR Prog 291 v73 2 h74).bindN fun v75 h76 =>
 (loadR Prog 111 v75 h76).bindN fun v77 h78 =>
 (call F.ζ1z [v77] h78).bindT (fun p81 h82 => (nilR v5 h78).bindN fun v83 h84 => (fieldAddrR Prog 291 v83 3 h84).bindN fun v85 h86 => (loadR Prog 111 v85 h86).bindN fun v87 h88 => chkR ((okVal (loadR Prog 111 v85 h72) v87 && true) && true) (.panic p81 h82)) fun v79 h80 =>
 (builtinV Prog .max [3,3] [v79,(.int .i64 0)] h80).bindN fun v89 h90 =>
 (nilR v5 h90).bindN fun v91 h92 =>
 (fieldAddrR Prog 291 v91 3 h92).bindN fun v93 h94 =>
 (loadR Prog 111 v93 h94).bindN fun v95 h96 =>
 (call F.ζ1z [v95] h96).bindT (fun p99 h100 => chkR ((okVal (loadR Prog 111 v93 h72) v95 && true) && true) (.panic p99 h100)) fun v97 h98 =>
 (builtinV Prog .max [3,3] [v97,(.int .i64 0)] h98).bindN fun v101 h102 =>
 (binR Prog .add 3 v89 v101 h102).bindN fun v103 h104 =>
 chkR ((okVal (loadR Prog 111 v93 h72) v95 && true) && true) (
 (nilR v5 h104).bind fun v105 h106 =>
 (fieldAddrR Prog 291 v105 1 h106).bind fun v107 h108 =>
 (loadR Prog 113 v107 h108).bind fun v109 h110 =>
 (binR Prog .mul 3 a4 v103 h110).bind fun v111 h112 =>
 (call F.ζy [v109,v111,a3] h112).bind fun v113 h114 =>
 .ok v5 h114))))
end
end Go.Sw
end
section
namespace Go.Sw
open Go.RowKit
theorem subV_lv (b:List Int) (a n:Nat) (h:a + n ≤ b.length):subV 1 (lv encB b) a n = lv encB ((b.drop a).take n):=by
 have h2:=((Sl.lv Heap.empty 1 b).sub encB_len .i64 .i64 .i64 a n h).1 Heap.empty (Ext.refl _);rw [slS_lv encB_len b _ _ _ a (a + n) (a + n) (by simp [boundOf]) (by unfold boundOf; dsimp only; rw [if_pos (by omega),Int.toNat_natCast]) (by unfold boundOf; dsimp only; rw [if_pos (by omega),Int.toNat_natCast]) (fun _ => rfl) (by omega) (Nat.le_refl _) h] at h2;injection h2 with h2;rw [← h2,List.drop_take,show a + n - a = n by omega]
theorem piece_lv {b r:List Int} {i n:Int} (h:pieceS b i n = some r):subV 1 (lv encB b) i.toNat n.toNat = lv encB r:=by
 obtain ⟨h1,rfl⟩:=ζ2w.1 h;exact subV_lv b _ _ (by omega)
theorem ζf4 {α:Type} {o:Option α} {f g:α → Value} (h:∀ a,o = some a → f a = g a) (H:Heap):orF o f H = orF o g H:=by
 cases o with
 | none => rfl
 | some a => show Res.ok (f a) H = Res.ok (g a) H; rw [h a rfl]
abbrev vwB (b:List Int):Value:=.agg #[lv encB b]
theorem Cut_lv (k:Nat) (b:List Int) (i n:Int) (hl:b.length < 2 ^ 62) (H:Heap):R (T k) F.ζy [vwB b,.int .i64 i,.int .i64 n] H = orF (pieceS b i n) vwB H :=
 (Cut_run k (Sl.lv H 1 b) i n hl).trans (ζf4 (fun r hr => by rw [piece_lv hr]) H)
theorem Rest_lv (k:Nat) (b:List Int) (i:Int) (hl:b.length < 2 ^ 62) (hi:i ≤ 9223372036854775807) (H:Heap):R (T k) F.ζg [vwB b,.int .i64 i] H = orF (restS b i) vwB H :=
 (Rest_run k (Sl.lv H 1 b) i hl hi).trans (ζf4 (fun r hr => by rw [piece_lv (by rw [ζ91 b i hl hi]; exact hr)]) H)
theorem Rows_lv (k:Nat) (b:List Int) (i n s:Int) (hl:b.length < 2 ^ 62) (H:Heap):R (T k) F.ζl [vwB b,.int .i64 i,.int .i64 n,.int .i64 s] H = orF (rowsS b i n s) vwB H :=
 (Rows_run k (Sl.lv H 1 b) i n s hl).trans (ζf4 (fun r hr => by rw [piece_lv (ζ20 hr)]) H)
theorem Of_lv (k:Nat) (b:List Int) (H:Heap):R (T k) F.view_Of [lv encB b] H = .ok (vwB b) H:=Of_run k (Sl.lv H 1 b)
theorem ζhx (k:Nat) {H:Heap} {v:Value} {b:List Int} (hv:Sl H 1 v encB b) (hl:b.length ≤ 2 ^ 30):R (T k) F.ζ28 [.agg #[v]] H = .ok (lv encB b) H:=by
 rw [ζbb];have g:=(Star.nil H).push ⟨[v],1,false⟩;have g:=g.more_row (Ext.refl _) (OwnO.bare encB _ 1) (fun b hb => by cases hb);obtain ⟨s,o,H1,e1,g⟩:=g.append (bytes:=1) 1 encB_len rfl (b:=v) (l2:=b) (ζii hv.lenL) ((hv.up g.ext).first encB_len) (by simp; omega) (by decide);simp only [List.nil_append,List.cons_append,List.set_cons_zero,List.set_cons_succ] at g;obtain ⟨L,hf⟩:=(g.own 1 rfl).freeze encB_len (fun n _ v hv => by simp at hv; subst hv; trivial) 6;refine nrm_fz (v:=s) (H':=H1) ?_ hf g.ext (Flat.B b).alive;simp -implicitDefEqProofs [ζ28,e1]
structure PTab where
 pairs:List Int
 vb:List Int
 rows:Option (Int × List Pt)
 cols:Option (Int × List Pt)
 step:Int
 size:Int
abbrev ptabC (t:PTab):List Value:=[lv encI t.pairs,lv encB t.vb,lookV t.rows,lookV t.cols,.int .i64 t.step,.int .i64 t.size]
abbrev ptabV (t:PTab):Value:=boxV (ptabC t).toArray
theorem Flat.ptab (t:PTab):Flat (ptabV t):=.boxV (.cons (Flat.I _) (.cons (Flat.B _) (.cons (ζgc _) (.cons (ζgc _) (.cons (.int _ _) (.cons (.int _ _) .nil))))))
def upS:List Int → Bool
 | [] => true
 | [_] => true
 | a :: b :: l => decide (a < b) && upS (b :: l)
def keysS (r:List Int) (n:Int):List Int:=(cutRows r 6 n.toNat).map fun q => num (q.take 4)
def pListS (b:List Int):Option PTab :=
 (uS b 0 4).bind fun n => (pieceS b 0 16).bind fun _ => (rowsS b 16 n 6).bind fun r => if upS (keysS r n) then some ⟨keysS r n,r,none,none,0,2⟩ else none
def pTabS (b:List Int) (i g z step:Int):Option PTab :=
 (uS b i 4).bind fun p => (restS b p).bind fun rb => (lookS rb g z).bind fun rows => (uS b (i + 4) 4).bind fun q => (restS b q).bind fun cb => (lookS cb g z).bind fun cols =>
 (uS b (i + 8) 4).bind fun o => (restS b o).bind fun vb => (pieceS vb (step * (max (mostS rows.2) 0 + max (mostS cols.2) 0)) z).map fun _ => ⟨[],vb,some rows,some cols,step,z⟩
def pTakeS (kind:Int) (b:List Int) (g:Int):Option PTab :=
 if kind = 0 then pListS b else if kind = 2 then pTabS b 4 g 2 1 else if kind = 6 then (uS b 0 4).bind fun f => if f % 2 = 1 then pTabS b 8 g 4 4 else pTabS b 8 g 2 2 else none
theorem veq_Pt (l:List Pt):veq (lv encPt l) (lv encPt l) = true:=veq_lv fun p _ v hv => by
 simp [encPt] at hv;rcases hv with rfl | rfl | rfl <;> simp
theorem veq_tab (x:Int × List Pt):veq (boxV #[.int .i64 x.1,lv encPt x.2]) (boxV #[.int .i64 x.1,lv encPt x.2]) = true:=veq_boxV (l:=[.int .i64 x.1,lv encPt x.2]) fun v hv => by
 simp at hv;rcases hv with rfl | rfl
 ·simp
 ·exact veq_Pt _
end Go.Sw
end
section
set_option maxRecDepth 100000
set_option linter.unusedVariables false
namespace Go.Sw
noncomputable section
end
end Go.Sw
end
section
namespace Go.Sw
open Go.RowKit
theorem ζmm {b:List Int} {i n:Int}:(pieceS b i n).isSome = inS b.length i n:=by
 unfold pieceS inS;split
 ·rename_i h; rw [decide_eq_true h]; rfl
 ·rename_i h; rw [decide_eq_false h]; rfl
theorem uS_of_in {b:List Int} {i n:Int} (h:inS b.length i n = true):∃ x,uS b i n = some x:=by
 rw [← ζmm,Option.isSome_iff_exists] at h;obtain ⟨r,hr⟩:=h;exact ⟨num r,by unfold uS; rw [hr]; rfl⟩
end Go.Sw
end
section
set_option maxRecDepth 100000
set_option linter.unusedVariables false
namespace Go.Sw
noncomputable section
end
end Go.Sw
end
