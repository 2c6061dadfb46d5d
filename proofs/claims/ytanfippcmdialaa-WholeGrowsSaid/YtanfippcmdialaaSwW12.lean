/-
  Functions' forms, and what is proved of them, part 12.
-/
import Derived.Test.YtanfippcmdialaaSwCfg
import Derived.Test.YtanfippcmdialaaSwW9
import Derived.Test.YtanfippcmdialaaSwW6
import Derived.Test.YtanfippcmdialaaSwW5
import Derived.Test.YtanfippcmdialaaSwW3
import Derived.Test.YtanfippcmdialaaSwW4
set_option linter.unusedSimpArgs false
set_option linter.unusedVariables false
set_option linter.unusedSectionVars false
section
set_option maxRecDepth 100000
set_option linter.unusedVariables false
namespace Go.Sw
noncomputable section
def ζ5t (k:Nat) (call:Caller) (a0 a1:Value) (h:Heap):Res Value :=
 (boxR a1 h).bind fun v1 h2 =>
 (allocR Prog 111 h2).bind fun v3 h4 =>
 (loadR Prog 3 v1 h4).bind fun v5 h6 =>
 (binR Prog .lss 3 v5 (.int .i64 1) h6).bind fun v7 h8 =>
 ((bif wantVal v7 false then loadR Prog 3 v1 h8 else Res.ok undef h8)).bind fun v9 h10 =>
 ((bif wantVal v7 false then binR Prog .gtr 3 v9 (.int .i64 65535) h10 else Res.ok undef h10)).bind fun v11 h12 =>
 (condV (some v7) (Res.ok (.bool true) h12) (Res.ok v11 h12)).bind fun v13 h14 =>
 condV (some v13) (
 (storeR Prog 111 v3 (.pointer none) h14).bind fun _v15 h16 =>
 (loadR Prog 111 v3 h16).bind fun v17 h18 =>
 .ok (.tuple #[v17,(.int .i64 1)]) h18)
 (
 (call F.view_Of [a0] h14).bind fun v19 h20 =>
 (call F.ζ39 [v19] h20).bind fun v21 h22 =>
 (call F.view_Of [v21] h22).bind fun v23 h24 =>
 (allocR Prog 75 h24).bind fun v25 h26 =>
 (storeR Prog 75 v25 v23 h26).bind fun _v27 h28 =>
 (call F.view_Try [(.func (.func F.ζ31) #[] #[v25,v1,v3])] h28).bind fun v29 h30 =>
 (unR .not v29 h30).bind fun v31 h32 =>
 condV (some v31) (
 (storeR Prog 111 v3 (.pointer none) h32).bind fun _v33 h34 =>
 (loadR Prog 111 v3 h34).bind fun v35 h36 =>
 .ok (.tuple #[v35,(.int .i64 2)]) h36)
 (
 (loadR Prog 111 v3 h32).bind fun v37 h38 =>
 (storeR Prog 111 v3 v37 h38).bind fun _v39 h40 =>
 (loadR Prog 111 v3 h40).bind fun v41 h42 =>
 .ok (.tuple #[v41,(.int .i64 0)]) h42))
theorem ζs3 (k:Nat) (a0 a1:Value) (h:Heap):R (T k) F.ζ5t [a0,a1] h = nrm .fz h (ζ5t k (R (T k)) a0 a1 h) :=
 (R_body (t:=T k) (T_scott k) (by kernel_rfl) (by kernel_rfl) _ _).trans (by kernel_rfl)
def ζ3n (k:Nat) (call:Caller) (a0 a1:Value) (h:Heap):Res Value :=
 (boxR a0 h).bind fun v1 h2 =>
 (boxR a1 h2).bind fun v3 h4 =>
 (allocR Prog 225 h4).bind fun v5 h6 =>
 (loadR Prog 111 v1 h6).bindN fun v7 h8 =>
 (nilR v7 h8).bindN fun v9 h10 =>
 (fieldAddrR Prog 227 v9 0 h10).bindN fun v11 h12 =>
 (loadR Prog 196 v11 h12).bindN fun v13 h14 =>
 (loadR Prog 25 v3 h14).bindN fun v15 h16 =>
 (call F.ζ5k [(.func (.func F.ζe) #[] #[v3,v5,v1])] h16).bindT (fun p19 h20 => .panic p19 h20) fun v17 h18 =>
 (call F.ζ4j [v13,v15,v17] h18).bindT (fun p23 h24 => chkR ((okVal (loadR Prog 111 v1 h18) v7 && true) && ((okVal (loadR Prog 196 v11 h18) v13 && true) && ((okVal (loadR Prog 25 v3 h18) v15 && true) && true))) (.panic p23 h24)) fun v21 h22 =>
 (extractR v21 0 h22).bindN fun v25 h26 =>
 (extractR v21 1 h26).bindN fun v27 h28 =>
 chkR ((okVal (loadR Prog 111 v1 h18) v7 && true) && ((okVal (loadR Prog 196 v11 h18) v13 && true) && ((okVal (loadR Prog 25 v3 h18) v15 && true) && true))) (
 .ok v27 h28)
theorem ζj4 (k:Nat) (a0 a1:Value) (h:Heap):R (T k) F.ζ3n [a0,a1] h = nrm .no h (ζ3n k (R (T k)) a0 a1 h) :=
 (R_body (t:=T k) (T_scott k) (by kernel_rfl) (by kernel_rfl) _ _).trans (by kernel_rfl)
def ζ31 (k:Nat) (call:Caller) (a0 a1 a2:Value) (h:Heap):Res Value :=
 (loadR Prog 75 a0 h).bind fun v1 h2 =>
 (loadR Prog 3 a1 h2).bind fun v3 h4 =>
 (call F.ζ2w [v1,v3] h4).bind fun v5 h6 =>
 (storeR Prog 111 a2 v5 h6).bind fun _v7 h8 =>
 .ok (.tuple #[]) h8
theorem ζmu (k:Nat) (a0 a1 a2:Value) (h:Heap):R (T k) F.ζ31 [a0,a1,a2] h = nrm .no h (ζ31 k (R (T k)) a0 a1 a2 h) :=
 (R_body (t:=T k) (T_scott k) (by kernel_rfl) (by kernel_rfl) _ _).trans (by kernel_rfl)
def ζ6x (k:Nat) (call:Caller):Env → Heap → Res (AExit × Env):=loopB (C k) call F.ζ2w [1,1,0,1,0,0]
def ζg3 (k:Nat) (call:Caller):Kont Value:=kBlock 0 (kSeq (pieceK (C k) call F.ζ2w [1,1,1]) (kDone Prog (resOf Prog F.ζ2w)))
def ζj5 (k:Nat) (call:Caller) (a5 a7 a30 a31 a32 a39:Value) (h:Heap):Res (AExit × Env) :=
 kSeq (pieceK (C k) call F.ζ2w [1,1,0,1,0,0,1,1,1]) (kRound (ownOf (C k) F.ζ2w [1,1,0,1,0,0])) .normal [(5,a5),(7,a7),(30,a30),(31,a31),(32,a32),(39,a39)] h
def ζ6y (k:Nat) (call:Caller):Env → Heap → Res (AExit × Env):=loopB (C k) call F.ζ2w [1,1,0,1,0,0,1,1,0,0,1,1,0,1,0,0]
def ζg4 (k:Nat) (call:Caller):Kont (AExit × Env):=kBlock 2 (kBlock 1 (kSeq (pieceK (C k) call F.ζ2w [1,1,0,1,0,0,1,1,1]) (kRound (ownOf (C k) F.ζ2w [1,1,0,1,0,0]))))
def ζj6 (k:Nat) (call:Caller) (a5 a8 a30 a31 a32 a50:Value) (h:Heap):Res (AExit × Env) :=
 kSeq (pieceK (C k) call F.ζ2w [1,1,0,1,0,0,1,1,1]) (kRound (ownOf (C k) F.ζ2w [1,1,0,1,0,0])) .normal [(5,a5),(8,a8),(30,a30),(31,a31),(32,a32),(50,a50)] h
def ζ2w (k:Nat) (call:Caller) (a0 a1:Value) (h:Heap):Res Value :=
 (boxR a0 h).bind fun v1 h2 =>
 (loadR Prog 75 v1 h2).bindN fun v3 h4 =>
 (call F.ζ2v [v3,a1,(.int .i64 1)] h4).bindT (fun p7 h8 => (loadR Prog 75 v1 h4).bindN fun v9 h10 => (loadR Prog 75 v1 h10).bindN fun v11 h12 => (loadR Prog 75 v1 h12).bindN fun v13 h14 => (loadR Prog 75 v1 h14).bindN fun v15 h16 => (loadR Prog 75 v1 h16).bindN fun v17 h18 => (loadR Prog 75 v1 h18).bindN fun v19 h20 => chkR ((okVal (loadR Prog 75 v1 h2) v9 && true) && ((okVal (loadR Prog 75 v1 h2) v11 && true) && ((okVal (loadR Prog 75 v1 h2) v13 && true) && ((okVal (loadR Prog 75 v1 h2) v15 && true) && ((okVal (loadR Prog 75 v1 h2) v17 && true) && ((okVal (loadR Prog 75 v1 h2) v19 && true) && true)))))) (.panic p7 h8)) fun v5 h6 =>
 (loadR Prog 75 v1 h6).bindN fun v21 h22 =>
 (loadR Prog 75 v1 h22).bindN fun v23 h24 =>
 (call F.ζ17 [v23,(.int .i64 16)] h24).bindT (fun p27 h28 => (loadR Prog 75 v1 h24).bindN fun v29 h30 => (loadR Prog 75 v1 h30).bindN fun v31 h32 => (loadR Prog 75 v1 h32).bindN fun v33 h34 => (loadR Prog 75 v1 h34).bindN fun v35 h36 => chkR ((okVal (loadR Prog 75 v1 h2) v21 && true) && ((okVal (loadR Prog 75 v1 h2) v23 && true) && ((okVal (loadR Prog 75 v1 h2) v29 && (okVal (loadR Prog 75 v1 h6) v29 && true)) && ((okVal (loadR Prog 75 v1 h2) v31 && (okVal (loadR Prog 75 v1 h6) v31 && true)) && ((okVal (loadR Prog 75 v1 h2) v33 && (okVal (loadR Prog 75 v1 h6) v33 && true)) && ((okVal (loadR Prog 75 v1 h2) v35 && (okVal (loadR Prog 75 v1 h6) v35 && true)) && true)))))) (.panic p27 h28)) fun v25 h26 =>
 (call F.ζ1s [v21,v25] h26).bindT (fun p39 h40 => (loadR Prog 75 v1 h26).bindN fun v41 h42 => (loadR Prog 75 v1 h42).bindN fun v43 h44 => (loadR Prog 75 v1 h44).bindN fun v45 h46 => (loadR Prog 75 v1 h46).bindN fun v47 h48 => chkR ((okVal (loadR Prog 75 v1 h2) v21 && (okVal (loadR Prog 75 v1 h26) v21 && true)) && ((okVal (loadR Prog 75 v1 h2) v23 && true) && ((okVal (loadR Prog 75 v1 h2) v41 && (okVal (loadR Prog 75 v1 h6) v41 && (okVal (loadR Prog 75 v1 h26) v41 && true))) && ((okVal (loadR Prog 75 v1 h2) v43 && (okVal (loadR Prog 75 v1 h6) v43 && (okVal (loadR Prog 75 v1 h26) v43 && true))) && ((okVal (loadR Prog 75 v1 h2) v45 && (okVal (loadR Prog 75 v1 h6) v45 && (okVal (loadR Prog 75 v1 h26) v45 && true))) && ((okVal (loadR Prog 75 v1 h2) v47 && (okVal (loadR Prog 75 v1 h6) v47 && (okVal (loadR Prog 75 v1 h26) v47 && true))) && true)))))) (.panic p39 h40)) fun v37 h38 =>
 (loadR Prog 75 v1 h38).bindN fun v49 h50 =>
 (loadR Prog 75 v1 h50).bindN fun v51 h52 =>
 (call F.ζ17 [v51,(.int .i64 20)] h52).bindT (fun p55 h56 => (loadR Prog 75 v1 h52).bindN fun v57 h58 => (loadR Prog 75 v1 h58).bindN fun v59 h60 => chkR ((okVal (loadR Prog 75 v1 h2) v21 && (okVal (loadR Prog 75 v1 h26) v21 && true)) && ((okVal (loadR Prog 75 v1 h2) v23 && true) && ((okVal (loadR Prog 75 v1 h2) v49 && (okVal (loadR Prog 75 v1 h6) v49 && (okVal (loadR Prog 75 v1 h26) v49 && true))) && ((okVal (loadR Prog 75 v1 h2) v51 && (okVal (loadR Prog 75 v1 h6) v51 && (okVal (loadR Prog 75 v1 h26) v51 && true))) && ((okVal (loadR Prog 75 v1 h2) v57 && (okVal (loadR Prog 75 v1 h6) v57 && (okVal (loadR Prog 75 v1 h26) v57 && (okVal (loadR Prog 75 v1 h38) v57 && true)))) && ((okVal (loadR Prog 75 v1 h2) v59 && (okVal (loadR Prog 75 v1 h6) v59 && (okVal (loadR Prog 75 v1 h26) v59 && (okVal (loadR Prog 75 v1 h38) v59 && true)))) && true)))))) (.panic p55 h56)) fun v53 h54 =>
 (call F.ζ1s [v49,v53] h54).bindT (fun p63 h64 => (loadR Prog 75 v1 h54).bindN fun v65 h66 => (loadR Prog 75 v1 h66).bindN fun v67 h68 => chkR ((okVal (loadR Prog 75 v1 h2) v21 && (okVal (loadR Prog 75 v1 h26) v21 && true)) && ((okVal (loadR Prog 75 v1 h2) v23 && true) && ((okVal (loadR Prog 75 v1 h2) v49 && (okVal (loadR Prog 75 v1 h6) v49 && (okVal (loadR Prog 75 v1 h26) v49 && (okVal (loadR Prog 75 v1 h54) v49 && true)))) && ((okVal (loadR Prog 75 v1 h2) v51 && (okVal (loadR Prog 75 v1 h6) v51 && (okVal (loadR Prog 75 v1 h26) v51 && true))) && ((okVal (loadR Prog 75 v1 h2) v65 && (okVal (loadR Prog 75 v1 h6) v65 && (okVal (loadR Prog 75 v1 h26) v65 && (okVal (loadR Prog 75 v1 h38) v65 && (okVal (loadR Prog 75 v1 h54) v65 && true))))) && ((okVal (loadR Prog 75 v1 h2) v67 && (okVal (loadR Prog 75 v1 h6) v67 && (okVal (loadR Prog 75 v1 h26) v67 && (okVal (loadR Prog 75 v1 h38) v67 && (okVal (loadR Prog 75 v1 h54) v67 && true))))) && true)))))) (.panic p63 h64)) fun v61 h62 =>
 (loadR Prog 75 v1 h62).bindN fun v69 h70 =>
 (loadR Prog 75 v1 h70).bindN fun v71 h72 =>
 (call F.ζ17 [v71,(.int .i64 24)] h72).bindT (fun p75 h76 => chkR ((okVal (loadR Prog 75 v1 h2) v21 && (okVal (loadR Prog 75 v1 h26) v21 && true)) && ((okVal (loadR Prog 75 v1 h2) v23 && true) && ((okVal (loadR Prog 75 v1 h2) v49 && (okVal (loadR Prog 75 v1 h6) v49 && (okVal (loadR Prog 75 v1 h26) v49 && (okVal (loadR Prog 75 v1 h54) v49 && true)))) && ((okVal (loadR Prog 75 v1 h2) v51 && (okVal (loadR Prog 75 v1 h6) v51 && (okVal (loadR Prog 75 v1 h26) v51 && true))) && ((okVal (loadR Prog 75 v1 h2) v69 && (okVal (loadR Prog 75 v1 h6) v69 && (okVal (loadR Prog 75 v1 h26) v69 && (okVal (loadR Prog 75 v1 h38) v69 && (okVal (loadR Prog 75 v1 h54) v69 && true))))) && ((okVal (loadR Prog 75 v1 h2) v71 && (okVal (loadR Prog 75 v1 h6) v71 && (okVal (loadR Prog 75 v1 h26) v71 && (okVal (loadR Prog 75 v1 h38) v71 && (okVal (loadR Prog 75 v1 h54) v71 && true))))) && true)))))) (.panic p75 h76)) fun v73 h74 =>
 (call F.ζ1s [v69,v73] h74).bindT (fun p79 h80 => chkR ((okVal (loadR Prog 75 v1 h2) v21 && (okVal (loadR Prog 75 v1 h26) v21 && true)) && ((okVal (loadR Prog 75 v1 h2) v23 && true) && ((okVal (loadR Prog 75 v1 h2) v49 && (okVal (loadR Prog 75 v1 h6) v49 && (okVal (loadR Prog 75 v1 h26) v49 && (okVal (loadR Prog 75 v1 h54) v49 && true)))) && ((okVal (loadR Prog 75 v1 h2) v51 && (okVal (loadR Prog 75 v1 h6) v51 && (okVal (loadR Prog 75 v1 h26) v51 && true))) && ((okVal (loadR Prog 75 v1 h2) v69 && (okVal (loadR Prog 75 v1 h6) v69 && (okVal (loadR Prog 75 v1 h26) v69 && (okVal (loadR Prog 75 v1 h38) v69 && (okVal (loadR Prog 75 v1 h54) v69 && (okVal (loadR Prog 75 v1 h74) v69 && true)))))) && ((okVal (loadR Prog 75 v1 h2) v71 && (okVal (loadR Prog 75 v1 h6) v71 && (okVal (loadR Prog 75 v1 h26) v71 && (okVal (loadR Prog 75 v1 h38) v71 && (okVal (loadR Prog 75 v1 h54) v71 && true))))) && true)))))) (.panic p79 h80)) fun v77 h78 =>
 (buildR Prog 227 [(0,v5),(1,v37),(2,v61),(3,v77)] h78).bindN fun v81 h82 =>
 (boxR v81 h82).bindN fun v83 h84 =>
 chkR ((okVal (loadR Prog 75 v1 h2) v21 && (okVal (loadR Prog 75 v1 h26) v21 && true)) && ((okVal (loadR Prog 75 v1 h2) v23 && true) && ((okVal (loadR Prog 75 v1 h2) v49 && (okVal (loadR Prog 75 v1 h6) v49 && (okVal (loadR Prog 75 v1 h26) v49 && (okVal (loadR Prog 75 v1 h54) v49 && true)))) && ((okVal (loadR Prog 75 v1 h2) v51 && (okVal (loadR Prog 75 v1 h6) v51 && (okVal (loadR Prog 75 v1 h26) v51 && true))) && ((okVal (loadR Prog 75 v1 h2) v69 && (okVal (loadR Prog 75 v1 h6) v69 && (okVal (loadR Prog 75 v1 h26) v69 && (okVal (loadR Prog 75 v1 h38) v69 && (okVal (loadR Prog 75 v1 h54) v69 && (okVal (loadR Prog 75 v1 h74) v69 && true)))))) && ((okVal (loadR Prog 75 v1 h2) v71 && (okVal (loadR Prog 75 v1 h6) v71 && (okVal (loadR Prog 75 v1 h26) v71 && (okVal (loadR Prog 75 v1 h38) v71 && (okVal (loadR Prog 75 v1 h54) v71 && true))))) && true)))))) (
 (nilR v83 h84).bind fun v85 h86 =>
 (fieldAddrR Prog 227 v85 0 h86).bind fun v87 h88 =>
 (loadR Prog 196 v87 h88).bind fun v89 h90 =>
 (call F.ζ1z [v89] h90).bind fun v91 h92 =>
 (builtinV Prog .len [102] [v91] h92).bind fun v93 h94 =>
 (loopN (ζ6x k call) loopFuel [(5,v83),(30,v91),(31,v93),(32,(.int .i64 0))] h94).bind fun r95 h96 =>
 ζg3 k call r95.1 r95.2 h96)
theorem ζs4 (k:Nat) (a0 a1:Value) (h:Heap):R (T k) F.ζ2w [a0,a1] h = nrm .fz h (ζ2w k (R (T k)) a0 a1 h) :=
 (R_body (t:=T k) (T_scott k) (by kernel_rfl) (by kernel_rfl) _ _).trans (by kernel_rfl)
theorem ζ5u (k:Nat) (call:Caller) (a5 a30 a31 a32:Value) (h:Heap):ζ6x k call [(5,a5),(30,a30),(31,a31),(32,a32)] h =
 (binR Prog .lss 3 a32 a31 h).bind fun v97 h98 =>
 condV (some v97) (
 (indexAddrR Prog 102 a30 a32 h98).bind fun v99 h100 =>
 (loadR Prog 130 v99 h100).bind fun v101 h102 =>
 (allocR Prog 130 h102).bind fun v103 h104 =>
 (storeR Prog 130 v103 v101 h104).bind fun _v105 h106 =>
 (fieldAddrR Prog 130 v103 1 h106).bind fun v107 h108 =>
 (loadR Prog 3 v107 h108).bind fun v109 h110 =>
 (binR Prog .and 3 v109 (.int .i64 8192) h110).bind fun v111 h112 =>
 (binR Prog .neq 3 v111 (.int .i64 0) h112).bind fun v113 h114 =>
 condV (some v113) (
 (fieldAddrR Prog 130 v103 2 h114).bind fun v115 h116 =>
 (loadR Prog 3 v115 h116).bind fun v117 h118 =>
 (loopN (ζ6y k call) loopFuel [(5,a5),(8,v117),(30,a30),(31,a31),(32,a32)] h118).bind fun r119 h120 =>
 ζg4 k call r119.1 r119.2 h120)
 (
 ζj5 k call a5 v103 a30 a31 a32 v113 h114))
 (
 .ok ((.exit 0),[(5,a5),(30,a30),(31,a31),(32,a32),(33,v97)]) h98) :=
 (loopB_eq _ _).trans (by kernel_rfl)
theorem ζmv (k:Nat) (call:Caller) (a5 a7 a30 a31 a32 a39:Value) (h:Heap):ζj5 k call a5 a7 a30 a31 a32 a39 h =
 (binR Prog .add 3 a32 (.int .i64 1) h).bind fun v121 h122 =>
 .ok (.normal,[(5,a5),(30,a30),(31,a31),(32,v121)]) h122:=by kernel_rfl
theorem ζ5v (k:Nat) (call:Caller) (a5 a8 a30 a31 a32:Value) (h:Heap):ζ6y k call [(5,a5),(8,a8),(30,a30),(31,a31),(32,a32)] h =
 (nilR a5 h).bind fun v123 h124 =>
 (fieldAddrR Prog 227 v123 1 h124).bind fun v125 h126 =>
 (loadR Prog 75 v125 h126).bind fun v127 h128 =>
 (binR Prog .mul 3 (.int .i64 4) a8 h128).bind fun v129 h130 =>
 (call F.ζ17 [v127,v129] h130).bind fun v131 h132 =>
 (binR Prog .and 3 v131 (.int .i64 2147483648) h132).bind fun v133 h134 =>
 (binR Prog .eql 3 v133 (.int .i64 0) h134).bind fun v135 h136 =>
 condV (some v135) (
 (binR Prog .add 3 a8 (.int .i64 1) h136).bind fun v137 h138 =>
 .ok (.normal,[(5,a5),(8,v137),(30,a30),(31,a31),(32,a32)]) h138)
 (
 .ok ((.exit 2),[(5,a5),(8,a8),(30,a30),(31,a31),(32,a32),(50,v135)]) h136) :=
 (loopB_eq _ _).trans (by kernel_rfl)
theorem ζj7 (k:Nat) (call:Caller) (a5 a30 a31 a32 a33:Value) (h:Heap):ζg3 k call (.exit 0) [(5,a5),(30,a30),(31,a31),(32,a32),(33,a33)] h =
 .ok a5 h:=by kernel_rfl
theorem ζj8 (k:Nat) (call:Caller) (a5 a8 a30 a31 a32 a50:Value) (h:Heap):ζg4 k call (.exit 2) [(5,a5),(8,a8),(30,a30),(31,a31),(32,a32),(50,a50)] h =
 ζj6 k call a5 a8 a30 a31 a32 a50 h:=by kernel_rfl
theorem ζmw (k:Nat) (call:Caller) (a5 a8 a30 a31 a32 a50:Value) (h:Heap):ζj6 k call a5 a8 a30 a31 a32 a50 h =
 (binR Prog .add 3 a32 (.int .i64 1) h).bind fun v139 h140 =>
 .ok (.normal,[(5,a5),(30,a30),(31,a31),(32,v139)]) h140:=by kernel_rfl
def ζ4c (k:Nat) (call:Caller) (a2 a3 a4 a6:Value) (h:Heap):Res Value :=
 kSeq (pieceK (C k) call F.ζe [1,1]) (kDone Prog (resOf Prog F.ζe)) .normal [(2,a2),(3,a3),(4,a4),(6,a6)] h
def ζ4d (k:Nat) (call:Caller) (a0 a2 a3 a4 a6 a16:Value) (h:Heap):Res Value :=
 kSeq (pieceK (C k) call F.ζe [1,1]) (kDone Prog (resOf Prog F.ζe)) .normal [(0,a0),(2,a2),(3,a3),(4,a4),(6,a6),(16,a16)] h
def ζe (k:Nat) (call:Caller) (a0 a1 a2 a3 a4:Value) (h:Heap):Res Value :=
 (boxR a1 h).bind fun v1 h2 =>
 (fieldAddrR Prog 130 v1 1 h2).bind fun v3 h4 =>
 (loadR Prog 3 v3 h4).bind fun v5 h6 =>
 (binR Prog .and 3 v5 (.int .i64 32768) h6).bind fun v7 h8 =>
 (binR Prog .neq 3 v7 (.int .i64 0) h8).bind fun v9 h10 =>
 ((bif wantVal v9 true then Res.ok a0 h10 else Res.ok undef h10)).bind fun v11 h12 =>
 ((bif wantVal v9 true then loadR Prog 25 a2 h12 else Res.ok undef h12)).bind fun v13 h14 =>
 ((bif wantVal v9 true then call F.ζd [v13] h14 else Res.ok undef h14)).bind fun v15 h16 =>
 ((bif wantVal v9 true then binR Prog .lss 3 v11 v15 h16 else Res.ok undef h16)).bind fun v17 h18 =>
 (condV (some v9) (Res.ok v17 h18) (Res.ok (.bool false) h18)).bind fun v19 h20 =>
 condV (some v19) (
 (call F.ζ1t [a3,a0] h20).bind fun v21 h22 =>
 ζ4c k call a2 a3 a4 v1 h22)
 (
 ζ4d k call a0 a2 a3 a4 v1 v19 h20)
theorem ζ4o (k:Nat) (a0 a1 a2 a3 a4:Value) (h:Heap):R (T k) F.ζe [a0,a1,a2,a3,a4] h = nrm .no h (ζe k (R (T k)) a0 a1 a2 a3 a4 h) :=
 (R_body (t:=T k) (T_scott k) (by kernel_rfl) (by kernel_rfl) _ _).trans (by kernel_rfl)
theorem ζ54 (k:Nat) (call:Caller) (a2 a3 a4 a6:Value) (h:Heap):ζ4c k call a2 a3 a4 a6 h =
 (fieldAddrR Prog 130 a6 1 h).bind fun v23 h24 =>
 (loadR Prog 3 v23 h24).bind fun v25 h26 =>
 (binR Prog .and 3 v25 (.int .i64 8192) h26).bind fun v27 h28 =>
 (binR Prog .neq 3 v27 (.int .i64 0) h28).bind fun v29 h30 =>
 condV (some v29) (
 (loadR Prog 111 a4 h30).bind fun v31 h32 =>
 (loadR Prog 25 a2 h32).bind fun v33 h34 =>
 (fieldAddrR Prog 130 a6 2 h34).bind fun v35 h36 =>
 (loadR Prog 3 v35 h36).bind fun v37 h38 =>
 (call F.ζ8 [v31,v33,a3,v37] h38).bind fun v39 h40 =>
 .ok (.tuple #[]) h40)
 (
 .ok (.tuple #[]) h30):=by kernel_rfl
theorem ζ55 (k:Nat) (call:Caller) (a0 a2 a3 a4 a6 a16:Value) (h:Heap):ζ4d k call a0 a2 a3 a4 a6 a16 h =
 (fieldAddrR Prog 130 a6 1 h).bind fun v41 h42 =>
 (loadR Prog 3 v41 h42).bind fun v43 h44 =>
 (binR Prog .and 3 v43 (.int .i64 8192) h44).bind fun v45 h46 =>
 (binR Prog .neq 3 v45 (.int .i64 0) h46).bind fun v47 h48 =>
 condV (some v47) (
 (loadR Prog 111 a4 h48).bind fun v49 h50 =>
 (loadR Prog 25 a2 h50).bind fun v51 h52 =>
 (fieldAddrR Prog 130 a6 2 h52).bind fun v53 h54 =>
 (loadR Prog 3 v53 h54).bind fun v55 h56 =>
 (call F.ζ8 [v49,v51,a3,v55] h56).bind fun v57 h58 =>
 .ok (.tuple #[]) h58)
 (
 .ok (.tuple #[]) h48):=by kernel_rfl
def ζ1t (k:Nat) (call:Caller) (a0 a1:Value) (h:Heap):Res Value :=
 (nilR a0 h).bind fun v1 h2 =>
 (loadR Prog 225 v1 h2).bind fun v3 h4 =>
 (builtinV Prog .len [225] [v3] h4).bind fun v5 h6 =>
 (binR Prog .gtr 3 v5 (.int .i64 0) h6).bind fun v7 h8 =>
 ((bif wantVal v7 true then Res.ok a0 h8 else Res.ok undef h8)).bind fun v9 h10 =>
 ((bif wantVal v7 true then nilR v9 h10 else Res.ok undef h10)).bind fun v11 h12 =>
 ((bif wantVal v7 true then loadR Prog 225 v11 h12 else Res.ok undef h12)).bind fun v13 h14 =>
 ((bif wantVal v7 true then Res.ok v5 h14 else Res.ok undef h14)).bind fun v15 h16 =>
 ((bif wantVal v7 true then binR Prog .sub 3 v15 (.int .i64 1) h16 else Res.ok undef h16)).bind fun v17 h18 =>
 ((bif wantVal v7 true then indexAddrR Prog 225 v13 v17 h18 else Res.ok undef h18)).bind fun v19 h20 =>
 ((bif wantVal v7 true then loadR Prog 3 v19 h20 else Res.ok undef h20)).bind fun v21 h22 =>
 ((bif wantVal v7 true then Res.ok a1 h22 else Res.ok undef h22)).bind fun v23 h24 =>
 ((bif wantVal v7 true then binR Prog .eql 3 v21 v23 h24 else Res.ok undef h24)).bind fun v25 h26 =>
 (condV (some v7) (Res.ok v25 h26) (Res.ok (.bool false) h26)).bind fun v27 h28 =>
 condV (some v27) (
 .ok (.tuple #[]) h28)
 (
 (nilR a0 h28).bind fun v29 h30 =>
 (loadR Prog 225 v29 h30).bind fun v31 h32 =>
 (buildSliceR Prog 225 1 [(0,a1)] h32).bind fun v33 h34 =>
 (builtinV Prog .append [225,225] [v31,v33] h34).bind fun v35 h36 =>
 (nilR a0 h36).bind fun v37 h38 =>
 (storeR Prog 225 v37 v35 h38).bind fun _v39 h40 =>
 (nilR a0 h40).bind fun v41 h42 =>
 (loadR Prog 225 v41 h42).bind fun v43 h44 =>
 (builtinV Prog .len [225] [v43] h44).bind fun v45 h46 =>
 (binR Prog .gtr 3 v45 (.int .i64 64) h46).bind fun v47 h48 =>
 condV (some v47) (
 (nilR a0 h48).bind fun v49 h50 =>
 (loadR Prog 225 v49 h50).bind fun v51 h52 =>
 (sliceR Prog 225 v51 (some (.int .i64 1)) none none h52).bind fun v53 h54 =>
 (nilR a0 h54).bind fun v55 h56 =>
 (storeR Prog 225 v55 v53 h56).bind fun _v57 h58 =>
 .ok (.tuple #[]) h58)
 (
 .ok (.tuple #[]) h48))
theorem ζfm (k:Nat) (a0 a1:Value) (h:Heap):R (T k) F.ζ1t [a0,a1] h = nrm .no h (ζ1t k (R (T k)) a0 a1 h) :=
 (R_body (t:=T k) (T_scott k) (by kernel_rfl) (by kernel_rfl) _ _).trans (by kernel_rfl)
def ζ4e (k:Nat) (call:Caller):Env → Heap → Res (AExit × Env):=loopB (C k) call F.ζ8 [1,1,0,0]
def ζ2j (k:Nat) (call:Caller):Kont Value:=kBlock 0 (kDone Prog (resOf Prog F.ζ8))
def ζ6j (k:Nat) (call:Caller) (a0 a1 a2 a3 a8 a9 a10 a12:Value) (h:Heap):Res (AExit × Env) :=
 kSeq (pieceK (C k) call F.ζ8 [1,1,0,0,0,0,1,1,1,1,1,1,1,1]) (kBlock 1 (kSeq (pieceK (C k) call F.ζ8 [1,1,0,0,1]) (kRound (ownOf (C k) F.ζ8 [1,1,0,0])))) .normal [(0,a0),(1,a1),(2,a2),(3,a3),(8,a8),(9,a9),(10,a10),(12,a12)] h
def ζ6k (k:Nat) (call:Caller) (a0 a1 a2 a3 a8 a9 a10 a12 a58:Value) (h:Heap):Res (AExit × Env) :=
 kSeq (pieceK (C k) call F.ζ8 [1,1,0,0,0,0,1,1,1,1,1,1,1,1]) (kBlock 1 (kSeq (pieceK (C k) call F.ζ8 [1,1,0,0,1]) (kRound (ownOf (C k) F.ζ8 [1,1,0,0])))) .normal [(0,a0),(1,a1),(2,a2),(3,a3),(8,a8),(9,a9),(10,a10),(12,a12),(58,a58)] h
def ζ8 (k:Nat) (call:Caller) (a0 a1 a2 a3:Value) (h:Heap):Res Value :=
 (loopN (ζ4e k call) loopFuel [(0,a0),(1,a1),(2,a2),(3,a3),(8,(.int .i64 0)),(9,(.slice none 0 0))] h).bind fun r1 h2 =>
 ζ2j k call r1.1 r1.2 h2
theorem ζee (k:Nat) (a0 a1 a2 a3:Value) (h:Heap):R (T k) F.ζ8 [a0,a1,a2,a3] h = nrm .no h (ζ8 k (R (T k)) a0 a1 a2 a3 h) :=
 (R_body (t:=T k) (T_scott k) (by kernel_rfl) (by kernel_rfl) _ _).trans (by kernel_rfl)
theorem ζ1v (k:Nat) (call:Caller) (a0 a1 a2 a3 a8 a9:Value) (h:Heap):ζ4e k call [(0,a0),(1,a1),(2,a2),(3,a3),(8,a8),(9,a9)] h =
 (call F.ζ36 [a2] h).bind fun v3 h4 =>
 (extractR v3 0 h4).bind fun v5 h6 =>
 (extractR v3 1 h6).bind fun v7 h8 =>
 (unR .not v7 h8).bind fun v9 h10 =>
 condV (some v9) (
 .ok (.ret,[(0,a0),(1,a1),(2,a2),(3,a3),(8,a8),(9,a9),(10,v5),(24,v9)]) h10)
 (
 (nilR a0 h10).bind fun v11 h12 =>
 (fieldAddrR Prog 227 v11 1 h12).bind fun v13 h14 =>
 (loadR Prog 75 v13 h14).bind fun v15 h16 =>
 (binR Prog .mul 3 (.int .i64 4) a3 h16).bind fun v17 h18 =>
 (call F.ζ17 [v15,v17] h18).bind fun v19 h20 =>
 (call F.ζ2t [a1,v5] h20).bind fun v21 h22 =>
 (extractR v21 0 h22).bind fun v23 h24 =>
 (extractR v21 1 h24).bind fun v25 h26 =>
 (allocR Prog 57 h26).bind fun v27 h28 =>
 (storeR Prog 57 v27 v23 h28).bind fun _v29 h30 =>
 (nilR a0 h30).bindN fun v31 h32 =>
 (fieldAddrR Prog 227 v31 2 h32).bindN fun v33 h34 =>
 (loadR Prog 75 v33 h34).bindN fun v35 h36 =>
 (fieldAddrR Prog 57 v27 0 h36).bindN fun v37 h38 =>
 (loadR Prog 3 v37 h38).bindN fun v39 h40 =>
 (call F.ζ6s [v19] h40).bindT (fun p43 h44 => .panic p43 h44) fun v41 h42 =>
 (binR Prog .add 3 v39 v41 h42).bindN fun v45 h46 =>
 (call F.ζ58 [v35,v45] h46).bindT (fun p49 h50 => chkR ((okVal (loadR Prog 75 v33 h42) v35 && true) && ((okVal (loadR Prog 3 v37 h42) v39 && true) && true)) (.panic p49 h50)) fun v47 h48 =>
 (extractR v47 0 h48).bindN fun v51 h52 =>
 (extractR v47 1 h52).bindN fun v53 h54 =>
 chkR ((okVal (loadR Prog 75 v33 h42) v35 && true) && ((okVal (loadR Prog 3 v37 h42) v39 && true) && true)) (
 (unR .not v53 h54).bind fun v55 h56 =>
 condV (some v55) (
 .ok (.ret,[(0,a0),(1,a1),(2,a2),(3,a3),(8,a8),(9,a9),(10,v5),(12,v19),(15,v51),(52,v55)]) h56)
 (
 (binR Prog .add 3 a8 v51 h56).bind fun v57 h58 =>
 (binR Prog .and 3 v19 (.int .i64 3221225472) h58).bind fun v59 h60 =>
 (binR Prog .neq 3 v59 (.int .i64 0) h60).bind fun v61 h62 =>
 condV (some v61) (
 (call F.ζ22 [a0,a1,v5,v57,a9] h62).bind fun v63 h64 =>
 (unR .not v63 h64).bind fun v65 h66 =>
 condV (some v65) (
 .ok (.ret,[(0,a0),(1,a1),(2,a2),(3,a3),(8,v57),(10,v5),(12,v19),(65,v65)]) h66)
 (
 ζ6j k call a0 a1 a2 a3 v57 (.slice none 0 0) v5 v19 h66))
 (
 ζ6k k call a0 a1 a2 a3 v57 a9 v5 v19 v61 h62)))) :=
 (loopB_eq _ _).trans (by kernel_rfl)
theorem ζ56 (k:Nat) (call:Caller) (a0 a1 a2 a3 a8 a9 a10 a12:Value) (h:Heap):ζ6j k call a0 a1 a2 a3 a8 a9 a10 a12 h =
 (binR Prog .and 3 a12 (.int .i64 2147483648) h).bind fun v67 h68 =>
 (binR Prog .neq 3 v67 (.int .i64 0) h68).bind fun v69 h70 =>
 condV (some v69) (
 (call F.ζ1t [a2,a10] h70).bind fun v71 h72 =>
 .ok (.ret,[]) h72)
 (
 (buildSliceR Prog 23 1 [(0,a10)] h70).bind fun v73 h74 =>
 (builtinV Prog .append [23,23] [a9,v73] h74).bind fun v75 h76 =>
 (binR Prog .add 3 a3 (.int .i64 1) h76).bind fun v77 h78 =>
 .ok (.normal,[(0,a0),(1,a1),(2,a2),(3,v77),(8,a8),(9,v75)]) h78):=by kernel_rfl
theorem ζ8k (k:Nat) (call:Caller) (a0 a1 a2 a3 a8 a9 a10 a12 a58:Value) (h:Heap):ζ6k k call a0 a1 a2 a3 a8 a9 a10 a12 a58 h =
 (binR Prog .and 3 a12 (.int .i64 2147483648) h).bind fun v79 h80 =>
 (binR Prog .neq 3 v79 (.int .i64 0) h80).bind fun v81 h82 =>
 condV (some v81) (
 (call F.ζ1t [a2,a10] h82).bind fun v83 h84 =>
 .ok (.ret,[]) h84)
 (
 (buildSliceR Prog 23 1 [(0,a10)] h82).bind fun v85 h86 =>
 (builtinV Prog .append [23,23] [a9,v85] h86).bind fun v87 h88 =>
 (binR Prog .add 3 a3 (.int .i64 1) h88).bind fun v89 h90 =>
 .ok (.normal,[(0,a0),(1,a1),(2,a2),(3,v89),(8,a8),(9,v87)]) h90):=by kernel_rfl
theorem ζ8l (k:Nat) (call:Caller) (a0 a1 a2 a3 a8 a9 a10 a24:Value) (h:Heap):ζ2j k call .ret [(0,a0),(1,a1),(2,a2),(3,a3),(8,a8),(9,a9),(10,a10),(24,a24)] h =
 .ok (.tuple #[]) h:=by kernel_rfl
theorem ζ7y (k:Nat) (call:Caller) (a0 a1 a2 a3 a8 a9 a10 a12 a15 a52:Value) (h:Heap):ζ2j k call .ret [(0,a0),(1,a1),(2,a2),(3,a3),(8,a8),(9,a9),(10,a10),(12,a12),(15,a15),(52,a52)] h =
 .ok (.tuple #[]) h:=by kernel_rfl
theorem ζ7z (k:Nat) (call:Caller) (a0 a1 a2 a3 a8 a10 a12 a65:Value) (h:Heap):ζ2j k call .ret [(0,a0),(1,a1),(2,a2),(3,a3),(8,a8),(10,a10),(12,a12),(65,a65)] h =
 .ok (.tuple #[]) h:=by kernel_rfl
theorem ζ80 (k:Nat) (call:Caller) (h:Heap):ζ2j k call .ret [] h =
 .ok (.tuple #[]) h:=by kernel_rfl
def ζ36 (k:Nat) (call:Caller) (a0:Value) (h:Heap):Res Value :=
 (nilR a0 h).bind fun v1 h2 =>
 (loadR Prog 225 v1 h2).bind fun v3 h4 =>
 (builtinV Prog .len [225] [v3] h4).bind fun v5 h6 =>
 (binR Prog .eql 3 v5 (.int .i64 0) h6).bind fun v7 h8 =>
 condV (some v7) (
 .ok (.tuple #[(.int .i64 0),(.bool false)]) h8)
 (
 (nilR a0 h8).bind fun v9 h10 =>
 (loadR Prog 225 v9 h10).bind fun v11 h12 =>
 (binR Prog .sub 3 v5 (.int .i64 1) h12).bind fun v13 h14 =>
 (indexAddrR Prog 225 v11 v13 h14).bind fun v15 h16 =>
 (loadR Prog 3 v15 h16).bind fun v17 h18 =>
 (nilR a0 h18).bind fun v19 h20 =>
 (loadR Prog 225 v19 h20).bind fun v21 h22 =>
 (binR Prog .sub 3 v5 (.int .i64 1) h22).bind fun v23 h24 =>
 (sliceR Prog 225 v21 none (some v23) none h24).bind fun v25 h26 =>
 (nilR a0 h26).bind fun v27 h28 =>
 (storeR Prog 225 v27 v25 h28).bind fun _v29 h30 =>
 .ok (.tuple #[v17,(.bool true)]) h30)
theorem ζga (k:Nat) (a0:Value) (h:Heap):R (T k) F.ζ36 [a0] h = nrm .no h (ζ36 k (R (T k)) a0 h) :=
 (R_body (t:=T k) (T_scott k) (by kernel_rfl) (by kernel_rfl) _ _).trans (by kernel_rfl)
def ζ58 (k:Nat) (call:Caller) (a0 a1:Value) (h:Heap):Res Value :=
 (boxR a0 h).bind fun v1 h2 =>
 (binR Prog .lss 3 a1 (.int .i64 0) h2).bind fun v3 h4 =>
 ((bif wantVal v3 false then Res.ok a1 h4 else Res.ok undef h4)).bind fun v5 h6 =>
 ((bif wantVal v3 false then loadR Prog 75 v1 h6 else Res.ok undef h6)).bind fun v7 h8 =>
 ((bif wantVal v3 false then call F.ζ51 [v7] h8 else Res.ok undef h8)).bind fun v9 h10 =>
 ((bif wantVal v3 false then binR Prog .quo 3 v9 (.int .i64 2) h10 else Res.ok undef h10)).bind fun v11 h12 =>
 ((bif wantVal v3 false then binR Prog .geq 3 v5 v11 h12 else Res.ok undef h12)).bind fun v13 h14 =>
 (condV (some v3) (Res.ok (.bool true) h14) (Res.ok v13 h14)).bind fun v15 h16 =>
 condV (some v15) (
 .ok (.tuple #[(.int .i64 0),(.bool false)]) h16)
 (
 (loadR Prog 75 v1 h16).bind fun v17 h18 =>
 (binR Prog .mul 3 (.int .i64 2) a1 h18).bind fun v19 h20 =>
 (call F.ζb [v17,v19] h20).bind fun v21 h22 =>
 .ok (.tuple #[v21,(.bool true)]) h22)
theorem ζqe (k:Nat) (a0 a1:Value) (h:Heap):R (T k) F.ζ58 [a0,a1] h = nrm .gc h (ζ58 k (R (T k)) a0 a1 h) :=
 (R_body (t:=T k) (T_scott k) (by kernel_rfl) (by kernel_rfl) _ _).trans (by kernel_rfl)
def ζ6s (k:Nat) (call:Caller) (a0:Value) (h:Heap):Res Value :=
 (convR Prog 3 159 a0 h).bind fun v1 h2 =>
 (binR Prog .shl 159 v1 (.int .u64 2) h2).bind fun v3 h4 =>
 (convR Prog 159 21 v3 h4).bind fun v5 h6 =>
 (convR Prog 21 3 v5 h6).bind fun v7 h8 =>
 (binR Prog .shr 3 v7 (.int .u64 2) h8).bind fun v9 h10 =>
 .ok v9 h10
theorem ζph (k:Nat) (a0:Value) (h:Heap):R (T k) F.ζ6s [a0] h = nrm .gc h (ζ6s k (R (T k)) a0 h) :=
 (R_body (t:=T k) (T_scott k) (by kernel_rfl) (by kernel_rfl) _ _).trans (by kernel_rfl)
def ζ57 (k:Nat) (call:Caller):Env → Heap → Res (AExit × Env):=loopB (C k) call F.ζ22 [1,1,1,1,1,0,1,0,0]
def ζ6w (k:Nat) (call:Caller):Kont Value:=kBlock 0 (kSeq (pieceK (C k) call F.ζ22 [1,1,1,1,1,1]) (kDone Prog (resOf Prog F.ζ22)))
def ζ22 (k:Nat) (call:Caller) (a0 a1 a2 a3 a4:Value) (h:Heap):Res Value :=
 (nilR a0 h).bind fun v1 h2 =>
 (fieldAddrR Prog 227 v1 3 h2).bind fun v3 h4 =>
 (loadR Prog 75 v3 h4).bind fun v5 h6 =>
 (call F.ζ58 [v5,a3] h6).bind fun v7 h8 =>
 (extractR v7 0 h8).bind fun v9 h10 =>
 (extractR v7 1 h10).bind fun v11 h12 =>
 (unR .not v11 h12).bind fun v13 h14 =>
 condV (some v13) (
 .ok (.bool false) h14)
 (
 (call F.ζ3l [a1,a2,v9] h14).bind fun v15 h16 =>
 (call F.ζ1q [a1,a2,a4] h16).bind fun v17 h18 =>
 (builtinV Prog .len [23] [a4] h18).bind fun v19 h20 =>
 (loopN (ζ57 k call) loopFuel [(1,a1),(34,a4),(35,v19),(36,(.int .i64 0))] h20).bind fun r21 h22 =>
 ζ6w k call r21.1 r21.2 h22)
theorem ζfl (k:Nat) (a0 a1 a2 a3 a4:Value) (h:Heap):R (T k) F.ζ22 [a0,a1,a2,a3,a4] h = nrm .no h (ζ22 k (R (T k)) a0 a1 a2 a3 a4 h) :=
 (R_body (t:=T k) (T_scott k) (by kernel_rfl) (by kernel_rfl) _ _).trans (by kernel_rfl)
theorem ζ5y (k:Nat) (call:Caller) (a1 a34 a35 a36:Value) (h:Heap):ζ57 k call [(1,a1),(34,a34),(35,a35),(36,a36)] h =
 (binR Prog .lss 3 a36 a35 h).bind fun v23 h24 =>
 condV (some v23) (
 (indexAddrR Prog 23 a34 a36 h24).bind fun v25 h26 =>
 (loadR Prog 3 v25 h26).bind fun v27 h28 =>
 (call F.ζ3l [a1,v27,(.int .i64 65535)] h28).bind fun v29 h30 =>
 (binR Prog .add 3 a36 (.int .i64 1) h30).bind fun v31 h32 =>
 .ok (.normal,[(1,a1),(34,a34),(35,a35),(36,v31)]) h32)
 (
 .ok ((.exit 0),[(1,a1),(34,a34),(35,a35),(36,a36),(37,v23)]) h24) :=
 (loopB_eq _ _).trans (by kernel_rfl)
theorem ζ9x (k:Nat) (call:Caller) (a1 a34 a35 a36 a37:Value) (h:Heap):ζ6w k call (.exit 0) [(1,a1),(34,a34),(35,a35),(36,a36),(37,a37)] h =
 .ok (.bool true) h:=by kernel_rfl
end
end Go.Sw
end
section
namespace Go.Sw
open Go.RowKit
abbrev ligaC (t:LTab):List Value:=[machV t.m,lv encB t.acts,lv encB t.comps,lv encB t.ligs]
abbrev ligaV (t:LTab):Value:=boxV (ligaC t).toArray
theorem Flat.liga (t:LTab):Flat (ligaV t):=.boxV (.cons (Flat.mach t.m) (.cons (Flat.B _) (.cons (Flat.B _) (.cons (Flat.B _) .nil))))
theorem ζs2 (k:Nat) {vs:List Int} (hb:Byt vs) (hl:vs.length < 2 ^ 31) {p:Nat} (a:Int) (ha:0 ≤ a ∧ a < 65536) {m c2 c3:Value} (a30 a31 a32:Value) {H:Heap} (hp:H.get p = some ⟨[m,lv encB vs,c2,c3],1,false⟩) :
  (∃ z,loopN (ζ6y k (R (T k))) loopFuel [(5,ptrV p),(8,.int .i64 a),(30,a30),(31,a31),(32,a32)] H = .ok (.exit 2,[(5,ptrV p),(8,z),(30,a30),(31,a31),(32,a32),(50,.bool false)]) H ∧ lastB vs a = true) ∨
  (loopN (ζ6y k (R (T k))) loopFuel [(5,ptrV p),(8,.int .i64 a),(30,a30),(31,a31),(32,a32)] H = .panic failV H ∧ lastB vs a = false):=by
 have hU:=fun i H' => U32_run k (H:=H') (Sl.lv H' 1 vs) hb i (by omega)
 rcases loop_upP (body:=ζ6y k (R (T k))) vs.length
  (fun j e' H' => e' = [(5,ptrV p),(8,.int .i64 (a + j)),(30,a30),(31,a31),(32,a32)] ∧ H' = H ∧ ∀ i:Nat,a ≤ i → (i:Int) < a + j → ¬ gU vs (4 * (i:Int)) 4 ≥ 2147483648)
  (fun xx e' H' => xx = .exit 2 ∧ (∃ z,e' = [(5,ptrV p),(8,z),(30,a30),(31,a31),(32,a32),(50,.bool false)]) ∧ H' = H ∧ lastB vs a = true)
  (fun v H' => v = failV ∧ H' = H ∧ lastB vs a = false)
  (fun j e' H' hj ⟨he',hH,hno⟩ => by
   subst he' hH;cases hu:uS vs (4 * (a + j)) 4 with
   | none =>
    have h32:=hU (4 * (a + j)) H';rw [hu] at h32;refine .inr (.inr ⟨failV,H',?_,rfl,rfl,?_⟩)
    ·rw [ζ5v];simp -implicitDefEqProofs (disch:=omega) [hp,h32,orF]
    ·rw [Bool.eq_false_iff];intro ho;obtain ⟨i,i1,i2,i3⟩:=ζez.1 ho;by_cases hij:(i:Int) < a + j
     ·exact hno i i1 hij i3
     ·unfold uS pieceS at hu;rw [if_pos ⟨by omega,by omega,by omega,by omega⟩] at hu;simp at hu
   | some x =>
    have h32:=hU (4 * (a + j)) H';rw [hu] at h32;have hg:=gU_some hu;have hxb:=uS_four hb hu;have an:=fun H => and31 Prog 3 H hxb.1 hxb.2;by_cases d:x ≥ 2147483648
    ·rw [if_pos d] at an;refine .inr (.inl ⟨.exit 2,_,H',?_,by simp,rfl,⟨.int .i64 (a + j),rfl⟩,rfl,?_⟩)
     ·rw [ζ5v];simp -implicitDefEqProofs (disch:=omega) [hp,h32,orF,an]
     ·refine ζez.2 ⟨(a + j).toNat,by omega,?_,?_⟩
      ·have:=uS_fits hu;omega
      ·rw [show (((a + j).toNat:Nat):Int) = a + j by omega,hg];exact d
    ·rw [if_neg d] at an;have hj1:a + ((j + 1:Nat):Int) = a + j + 1:=by omega
     refine .inl ⟨_,H',?_,rfl,rfl,fun i i1 i2 => ?_⟩
     ·rw [ζ5v,hj1];simp -implicitDefEqProofs (disch:=omega) [hp,h32,orF,an]
     ·by_cases hij:(i:Int) < a + j
      ·exact hno i i1 hij
      ·rw [show (i:Int) = a + j by omega,hg];exact d)
  (fun e' H' ⟨he',hH,hno⟩ => by
   subst he' hH;have hu:uS vs (4 * (a + vs.length)) 4 = none:=by
    cases h:uS vs (4 * (a + vs.length)) 4 with
    | none => rfl
    | some x =>
     have:=uS_fits h;omega
   have h32:=hU (4 * (a + vs.length)) H';rw [hu] at h32;refine .inr ⟨failV,H',?_,rfl,rfl,?_⟩
   ·rw [ζ5v];simp -implicitDefEqProofs (disch:=omega) [hp,h32,orF]
   ·rw [Bool.eq_false_iff];intro ho;obtain ⟨i,i1,i2,i3⟩:=ζez.1 ho;exact hno i i1 (by omega) i3) loopFuel 0 [(5,ptrV p),(8,.int .i64 a),(30,a30),(31,a31),(32,a32)] H (Nat.zero_le _) (by unfold loopFuel; omega) ⟨by simp,rfl,fun i i1 i2 => by omega⟩ with ⟨xx,e',H1,hr,rfl,⟨z,rfl⟩,rfl,hE⟩ | ⟨v,H1,hr,rfl,rfl,hE⟩
 ·exact .inl ⟨z,hr,hE⟩
 ·exact .inr ⟨hr,hE⟩
theorem ζs1 (k:Nat) {vs:List Int} (hb:Byt vs) (hl:vs.length < 2 ^ 31) {p:Nat} {es:List En} (hes:∀ e,e ∈ es → (0 ≤ e.a ∧ e.a < 65536) ∧ 0 ≤ e.flags ∧ e.flags < 65536) (hel:es.length < 2 ^ 40) {m c2 c3:Value} {H:Heap} (hp:H.get p = some ⟨[m,lv encB vs,c2,c3],1,false⟩) :
  (∃ z H',loopN (ζ6x k (R (T k))) loopFuel [(5,ptrV p),(30,lv encEn es),(31,.int .i64 es.length),(32,.int .i64 0)] H = .ok (.exit 0,[(5,ptrV p),(30,lv encEn es),(31,.int .i64 es.length),(32,z),(33,.bool false)]) H' ∧ Ext H H' ∧ es.all (entLast vs) = true) ∨
  (∃ H',loopN (ζ6x k (R (T k))) loopFuel [(5,ptrV p),(30,lv encEn es),(31,.int .i64 es.length),(32,.int .i64 0)] H = .panic failV H' ∧ Ext H H' ∧ es.all (entLast vs) = false):=by
 rcases loop_upP (body:=ζ6x k (R (T k))) es.length
  (fun j e' H' => e' = [(5,ptrV p),(30,lv encEn es),(31,.int .i64 es.length),(32,.int .i64 j)] ∧ Ext H H' ∧ (es.take j).all (entLast vs) = true)
  (fun xx e' H' => xx = .exit 0 ∧ (∃ z,e' = [(5,ptrV p),(30,lv encEn es),(31,.int .i64 es.length),(32,z),(33,.bool false)]) ∧ Ext H H' ∧ es.all (entLast vs) = true)
  (fun v H' => v = failV ∧ Ext H H' ∧ es.all (entLast vs) = false)
  (fun j e' H' hj ⟨he',hx,hall⟩ => by
   subst he';have hjl:(j:Int) < es.length:=by omega
   obtain ⟨en,hen⟩:∃ en,es[j]? = some en:=⟨_,List.getElem?_eq_getElem hj⟩
   have hmem:=List.mem_of_getElem? hen;obtain ⟨hea,hf0,hf1⟩:=hes en hmem;have i1:=fun H' => ixS_lvN ζ52 es .i64 j en hen H';have hx2:Ext H (H'.push ⟨encEn en,1,false⟩):=hx.push _;have an:=fun H => and13 Prog 3 H hf0 hf1;by_cases c:en.flags / 8192 % 2 = 1
   ·rw [if_pos c] at an;have hEv:entLast vs en = lastB vs en.a:=by unfold entLast; rw [decide_eq_false (fun hh => hh c)]; rfl
    rcases ζs2 k hb hl en.a hea (p:=p) (m:=m) (c2:=c2) (c3:=c3) (lv encEn es) (.int .i64 es.length) (.int .i64 j) (hx2.get hp) with ⟨z,e2,hE⟩ | ⟨e2,hE⟩
    ·refine .inl ⟨_,_,?_,rfl,hx2,?_⟩
     ·rw [ζ5u];simp -implicitDefEqProofs (disch:=omega) [hjl,i1,an,e2,ζj8,ζmw]
     ·rw [ζ1x hen,List.all_append,hall];simp [hEv,hE]
    ·refine .inr (.inr ⟨failV,_,?_,rfl,hx2,?_⟩)
     ·rw [ζ5u];simp -implicitDefEqProofs (disch:=omega) [hjl,i1,an,e2]
     ·rw [Bool.eq_false_iff];intro h;have:=List.all_eq_true.1 h en hmem;rw [hEv,hE] at this;cases this
   ·rw [if_neg c] at an;have hEv:entLast vs en = true:=by unfold entLast; rw [decide_eq_true c]; rfl
    refine .inl ⟨_,_,?_,rfl,hx2,?_⟩
    ·rw [ζ5u];simp -implicitDefEqProofs (disch:=omega) [hjl,i1,an,ζmv]
    ·rw [ζ1x hen,List.all_append,hall];simp [hEv])
  (fun e' H' ⟨he',hx,hall⟩ => by
   subst he';rw [List.take_length] at hall;refine .inl ⟨.exit 0,_,H',?_,by simp,rfl,⟨.int .i64 es.length,rfl⟩,hx,hall⟩;rw [ζ5u];simp -implicitDefEqProofs) loopFuel 0 [(5,ptrV p),(30,lv encEn es),(31,.int .i64 es.length),(32,.int .i64 0)] H (Nat.zero_le _) (by unfold loopFuel; omega) ⟨rfl,Ext.refl _,rfl⟩ with ⟨xx,e',H1,hr,rfl,⟨z,rfl⟩,hx,hE⟩ | ⟨v,H1,hr,rfl,hx,hE⟩
 ·exact .inl ⟨z,H1,hr,hx,hE⟩
 ·exact .inr ⟨H1,hr,hx,hE⟩
theorem ζqd (k:Nat) (hk:k < 1000000) (b:List Int) (hb:Byt b) (g:Int) (hg:1 ≤ g ∧ g ≤ 65535) (hl:b.length < 2 ^ 31) (H:Heap):R (T k) F.ζ2w [vwB b,.int .i64 g] H = orF (ligaS b g) ligaV H:=by
 rw [ζs4];have hx:Ext H (H.push ⟨[lv encB b],1,false⟩):=(Ext.refl H).push _;have hvb:veq (vwB b) (vwB b) = true:=veq_agg (l:=[lv encB b]) fun u hu => by simp at hu; subst hu; exact veq_B b
 refine fz_orF ?_ fun _ _ => (Flat.liga _).alive;unfold ligaS listAt;simp only [Option.bind_assoc];simp -implicitDefEqProofs (disch:=omega) [ζ2w];refine Cp.callT (ζg7 k (Sl.lv _ 1 b) hb g 1 hg.1 hg.2 (.inr (.inl rfl)) hl) (fun _ => ⟨_,by simp -implicitDefEqProofs (disch:=omega) [hvb],hx⟩) fun m hm => ?_;have hok:=machS_ok hb hg.1 hg.2 (by omega) hm;simp -implicitDefEqProofs (disch:=omega) [hvb];refine Cp.callT (U32_run k (Sl.lv _ 1 b) hb 16 (by omega)) (fun _ => ⟨_,by simp -implicitDefEqProofs (disch:=omega) [hvb],hx⟩) fun p hp => ?_;have hp:=uS_four hb hp;simp -implicitDefEqProofs (disch:=omega) [hvb];refine Cp.callT (Rest_lv k b p (by omega) (by omega) _) (fun _ => ⟨_,by simp -implicitDefEqProofs (disch:=omega) [hvb],hx⟩) fun sa hsa => ?_;have lsa:=ζ6o hsa;simp -implicitDefEqProofs (disch:=omega) [hvb];refine Cp.callT (U32_run k (Sl.lv _ 1 b) hb 20 (by omega)) (fun _ => ⟨_,by simp -implicitDefEqProofs (disch:=omega) [hvb],hx⟩) fun p2 hp2 => ?_;have hp2:=uS_four hb hp2;simp -implicitDefEqProofs (disch:=omega) [hvb];refine Cp.callT (Rest_lv k b p2 (by omega) (by omega) _) (fun _ => ⟨_,by simp -implicitDefEqProofs (disch:=omega) [hvb],hx⟩) fun sc hsc => ?_;have lsc:=ζ6o hsc;simp -implicitDefEqProofs (disch:=omega) [hvb];refine Cp.callT (U32_run k (Sl.lv _ 1 b) hb 24 (by omega)) (fun _ => ⟨_,by simp -implicitDefEqProofs (disch:=omega) [hvb],hx⟩) fun p3 hp3 => ?_;have hp3:=uS_four hb hp3;simp -implicitDefEqProofs (disch:=omega) [hvb];refine Cp.callT (Rest_lv k b p3 (by omega) (by omega) _) (fun _ => ⟨_,by simp -implicitDefEqProofs (disch:=omega) [hvb],hx⟩) fun sl hsl => ?_;have lsl:=ζ6o hsl;have hent:=fun H' => ζn7 k hk m hok.elen H';have hes:∀ e,e ∈ m.ents → (0 ≤ e.a ∧ e.a < 65536) ∧ 0 ≤ e.flags ∧ e.flags < 65536:=fun e he => by have:=hok.ent e he; omega
 have hx2:Ext H ((H.push ⟨[lv encB b],1,false⟩).push ⟨[machV m,lv encB sa,lv encB sc,lv encB sl],1,false⟩):=hx.push _;have hpg:((H.push ⟨[lv encB b],1,false⟩).push ⟨[machV m,lv encB sa,lv encB sc,lv encB sl],1,false⟩).get (H.n + 1) = some ⟨[machV m,lv encB sa,lv encB sc,lv encB sl],1,false⟩:=ζc _ _ _ (by simp);simp -implicitDefEqProofs (disch:=omega) [hvb,hent];rcases ζs1 k (hb.rest hsa) (by omega) hes (by have:=hok.elen; omega) hpg with ⟨z,H2,e2,hx3,hall⟩ | ⟨H2,e2,hx3,hall⟩
 ·rw [if_pos (List.all_eq_true.1 hall)];simp -implicitDefEqProofs (disch:=omega) [e2,ζj7];refine .ok (hx2.trans hx3) ?_;exact ⟨_,fz_box (by omega) (hx3.get hpg) (ζ4a (v:=machV m) (u:=machV m) (L1:=[]) rfl (ζ4a (v:=lv encB sa) (u:=lv encB sa) (L1:=[]) rfl (ζ4a (v:=lv encB sc) (u:=lv encB sc) (L1:=[]) rfl (mapF_one (v:=lv encB sl) (u:=lv encB sl) (L:=[]) rfl))))⟩
 ·rw [if_neg (fun hc => by rw [List.all_eq_true.2 hc] at hall; cases hall)];simp -implicitDefEqProofs (disch:=omega) [e2];exact ⟨H2,rfl,hx2.trans hx3⟩
end Go.Sw
end
section
namespace Go.Sw
open Go.RowKit
end Go.Sw
end
section
namespace Go.Sw
open Go.RowKit
end Go.Sw
end
section
set_option maxRecDepth 100000
set_option linter.unusedVariables false
namespace Go.Sw
noncomputable section
end
end Go.Sw
end
section
namespace Go.Sw
open Go.RowKit
end Go.Sw
end
section
namespace Go.Sw
open Go.RowKit
end Go.Sw
end
section
namespace Go.Sw
open Go.RowKit
end Go.Sw
end
section
namespace Go.Sw
open Go.RowKit
variable {σ:Type}
end Go.Sw
end
section
namespace Go.Sw
open Go.RowKit
end Go.Sw
end
section
namespace Go.Sw
open Go.RowKit
end Go.Sw
end
section
namespace Go.Sw
open Go.RowKit
end Go.Sw
end
section
namespace Go.Sw
open Go.RowKit
end Go.Sw
end
section
namespace Go.Sw
open Go.RowKit
theorem ζ7o:∀ l:List Int,rows encI l = l.map (Value.int .i64)
 | [] => rfl
 | a :: l => by rw [List.map_cons,← ζ7o l]; rfl
end Go.Sw
end
section
namespace Go.Sw
open Go.RowKit
end Go.Sw
end
section
namespace Go.Sw
open Go.RowKit
end Go.Sw
end
section
namespace Go.Sw
open Go.RowKit
end Go.Sw
end
section
namespace Go.Sw
open Go.RowKit
end Go.Sw
end
section
namespace Go.Sw
open Go.RowKit
structure CPlan where
 m:Plan
 subs:List (List Int)
def CPlan.ok (p:CPlan):Prop:=(p.m.ok ∧ p.subs.length < 2 ^ 63) ∧ ∀ s,s ∈ p.subs → ∀ n,n ∈ s → 0 ≤ n ∧ n < 65536
def CSmall (p:CPlan) (n:Nat):Prop:=(∀ s,s ∈ p.subs → s.length ≤ 60) ∧ p.m.cls.length ≤ 40 ∧ p.m.rows.length ≤ 20 ∧ p.m.ents.length ≤ 40 ∧ p.subs.length ≤ 20 ∧ n ≤ 60
instance (p:CPlan) (n:Nat):Decidable (CSmall p n):=by unfold CSmall; infer_instance
end Go.Sw
end
section
namespace Go.Sw
open Go.RowKit
end Go.Sw
end
section
namespace Go.Sw
open Go.RowKit
theorem Sl.blk {α:Type} {enc:α → List Value} {H:Heap} {m b:Nat} {k:Blk} (l:List α) (hg:H.get b = some k) (hk:k.cells = rows enc l) (he:∀ x,(enc x).length = m):Sl H m (.slice (some ⟨b,0,none⟩) l.length l.length) enc l :=
 .inr (.inr ⟨b,0,_,_,rfl,Nat.le_refl _,hg,by rw [List.drop_zero,hk,List.take_of_length_le (by rw [ζf he]; exact Nat.le_refl _)]⟩)
end Go.Sw
end
section
namespace Go.Sw
open Go.RowKit
def LPv (H:Heap) (c:Nat) (ob:Option Nat) (v:Value) (ps:List Int):Prop :=
 (ob = none ∧ ps = [] ∧ v = .slice none 0 0) ∨ ∃ b off cap k,ob = some b ∧ b ≠ c ∧ v = .slice (some ⟨b,off,none⟩) ps.length cap ∧ ps.length ≤ cap ∧ H.get b = some k ∧ k.esz = 1 ∧ k.ro = false ∧ off + cap ≤ k.cells.length ∧ (k.cells.drop off).take ps.length = rows encI ps.reverse
theorem LPv.up {H H':Heap} {c:Nat} {ob:Option Nat} {v:Value} {ps:List Int} (h:LPv H c ob v ps) (hk:∀ b,ob = some b → H'.get b = H.get b):LPv H' c ob v ps:=by
 rcases h with h | ⟨b,off,cap,k,h0,h1,h2,h3,h4,h5⟩
 ·exact .inl h
 ·exact .inr ⟨b,off,cap,k,h0,h1,h2,h3,by rw [hk b h0]; exact h4,h5⟩
def itLP (c:Nat) (ob:Option Nat) (ps:List Int):It :=
 ⟨c :: ob.toList,fun H => ∃ v,H.get c = some ⟨[v],1,false⟩ ∧ LPv H c ob v ps,fun H H' ⟨v,h1,h2⟩ hk =>
  ⟨v,by rw [hk c (by simp)]; exact h1,h2.up fun b hb => hk b (by simp [hb])⟩⟩
theorem LPv.len {H:Heap} {c:Nat} {ob:Option Nat} {v:Value} {ps:List Int} (h:LPv H c ob v ps) (H':Heap):lnS v H' = .ok (.int .i64 ps.length) H':=by
 rcases h with ⟨_,rfl,rfl⟩ | ⟨b,off,cap,k,_,_,rfl,_⟩ <;> rfl
theorem LPv.sl {H:Heap} {c:Nat} {ob:Option Nat} {v:Value} {ps:List Int} (h:LPv H c ob v ps):Sl H 1 v encI ps.reverse:=by
 rcases h with ⟨_,rfl,rfl⟩ | ⟨b,off,cap,k,_,_,rfl,h3,h4,_,_,_,h5⟩
 ·exact Sl.nil _ _
 ·exact .inr (.inr ⟨b,off,cap,k,by rw [List.length_reverse],by rw [List.length_reverse]; exact h3,h4,by rw [List.length_reverse,Nat.mul_one]; exact h5⟩)
theorem LPv.pop {H:Heap} {c:Nat} {ob:Option Nat} {v:Value} {i:Int} {ps:List Int} (h:LPv H c ob v (i :: ps)):∃ b off cap,ob = some b ∧ v = .slice (some ⟨b,off,none⟩) (ps.length + 1) cap ∧ (∀ H',(H'.get b).map (fun k => k.esz) = some 1 → slS 1 v none (some (.int .i64 ps.length)) none H' = .ok (.slice (some ⟨b,off,none⟩) ps.length cap) H') ∧ LPv H c ob (.slice (some ⟨b,off,none⟩) ps.length cap) ps:=by
 rcases h with ⟨_,h,_⟩ | ⟨b,off,cap,k,h0,h1,rfl,h3,h4,h5,h6,h7,h8⟩
 ·cases h
 ·rw [List.length_cons] at h3 h8 ⊢;refine ⟨b,off,cap,h0,rfl,fun H' hg => ?_,.inr ⟨b,off,cap,k,h0,h1,rfl,by omega,h4,h5,h6,h7,?_⟩⟩
  ·have hb:boundOf (some (.int .i64 (ps.length:Int))) (ps.length + 1) = some ps.length:=by simp [boundOf]
   unfold slS;dsimp only;rw [hb];simp only [boundOf];have ho:openOk H' b 1 none = true:=by
    unfold openOk;cases hh:H'.get b with
    | none => rw [hh] at hg; cases hg
    | some k' =>
     rw [hh] at hg;have:k'.esz = 1:=by simpa using hg
     simp [this]
   rw [if_pos ⟨by omega,by omega,by omega,by simp⟩,if_pos ho];simp
  ·have:=congrArg (List.take ps.length) h8;rw [ζ7o,List.reverse_cons,List.map_append,List.take_take,List.take_left' (by simp),Nat.min_eq_left (by omega)] at this;rw [ζ7o];exact this
theorem ζj3 (k:Nat) {H0 H:Heap} {L:List It} (g:Star H0 H L) (n:Nat) {c:Nat} {ob:Option Nat} {ps:List Int} (hps:ps.length ≤ 1000) (hi:L[n]? = some (itLP c ob ps)) :
  ∃ H',R (T k) F.ζ36 [ptrV c] H = .ok (.tuple #[.int .i64 (ps.head?.getD 0),.bool (!ps.isEmpty)]) H' ∧ Star H0 H' (L.set n (itLP c ob ps.tail)):=by
 obtain ⟨v,h1,h2⟩:=g.at n hi;rw [ζga];cases ps with
 | nil =>
  refine ⟨H,nrm_of ?_,?_⟩
  ·have hl:=h2.len;have hl:∀ H',lnS v H' = .ok (.int .i64 0) H':=hl;simp -implicitDefEqProofs (disch:=omega) [ζ36,h1,hl]
  ·exact g.step n hi (Nat.le_refl _) (fun _ _ _ => rfl) _ ⟨v,h1,h2⟩ fun b hb => .inl hb
 | cons i ps =>
  have hl:=h2.len;have hl:∀ H',lnS v H' = .ok (.int .i64 ((ps.length:Int) + 1)) H':=hl;obtain ⟨p,i1,i2⟩:=h2.sl.ix1 encI_len ps.length i (by rw [List.reverse_cons,List.getElem?_append_right (by simp)]; simp) _ rfl;have i2:=i2 H (Ext.refl _);obtain ⟨b,off,cap,hob,rfl,hs,h3⟩:=h2.pop;have hbk:∃ k',H.get b = some k' ∧ k'.esz = 1 ∧ b ≠ c:=by
   rcases h3 with ⟨_,_,hh⟩ | ⟨b',off',cap',k',e0,e1,e2,e3,e4,e5,_⟩
   ·cases hh
   ·rw [hob] at e0;injection e0 with e0;subst e0;exact ⟨k',e4,e5,e1⟩
  obtain ⟨k',hk',hk1,hbc⟩:=hbk;have hs:=hs H (by rw [hk']; simp [hk1]);have hw:IntKind.i64.wrap (ps.length:Int) = ps.length:=by
   rw [List.length_cons] at hps;exact wrap_i64 (by omega) (by omega)
  refine ⟨H.set c (some ⟨[.slice (some ⟨b,off,none⟩) ps.length cap],1,false⟩),nrm_of ?_,?_⟩
  ·rw [List.length_cons] at hps;have hne:((ps.length:Int) + 1 == 0) = false:=by rw [beq_eq_false_iff_ne]; omega
   simp -implicitDefEqProofs (disch:=omega) [ζ36,h1,hl,hne,hw,i1,i2,hs]
  ·have hP:(itLP c ob ps).P (H.set c (some ⟨[.slice (some ⟨b,off,none⟩) ps.length cap],1,false⟩)):=⟨_,by rw [Heap.get_set h1,if_pos rfl],h3.up fun b' hb' => by
     rw [hob] at hb';injection hb' with hb';subst hb';rw [Heap.get_set h1,if_neg hbc]⟩
   exact g.step (H':=H.set c (some ⟨[.slice (some ⟨b,off,none⟩) ps.length cap],1,false⟩)) n hi (by simp) (fun d _ hd => by
    rw [Heap.get_set h1,if_neg (fun h => hd (by subst h; simp [itLP]))]) (itLP c ob ps) hP fun d hd => .inl hd
theorem LPv.append {H:Heap} {c:Nat} {ob:Option Nat} {v:Value} {ps:List Int} (h:LPv H c ob v ps) (hl:ps.length ≤ 1000) (hc:c < H.n) (hob:∀ b,ob = some b → b < H.n) (i:Int) :
  ∃ H',apR 1 8 v (.slice (some ⟨H.n,0,none⟩) 1 1) (H.push ⟨[.int .i64 i],1,false⟩) = .ok (.slice (some ⟨H.n + 1,0,none⟩) (ps.length + 1) (ps.length + 1)) H' ∧ H'.n = H.n + 2 ∧ (∀ d,d < H.n → ob ≠ some d → H'.get d = H.get d) ∧
   LPv H' c (some (H.n + 1)) (.slice (some ⟨H.n + 1,0,none⟩) (ps.length + 1) (ps.length + 1)) (i :: ps):=by
 have hf:firstV 1 1 (.slice (some ⟨H.n,0,none⟩) 1 1) (H.push ⟨[.int .i64 i],1,false⟩) = some [.int .i64 i]:=by
  have:=(Sl.first (enc:=encI) (m:=1) encI_len (Sl.blk (enc:=encI) (m:=1) [i] (ζc _ _ _ rfl:(H.push ⟨[.int .i64 i],1,false⟩).get H.n = _) rfl encI_len))
  exact this
 have hlv:lenV (.slice (some ⟨H.n,0,none⟩) 1 1) = some 1:=rfl;rcases h with ⟨rfl,rfl,rfl⟩ | ⟨b,off,cap,k,rfl,h1,rfl,h3,h4,h5,h6,h7,h8⟩
 ·refine ⟨(H.push ⟨[.int .i64 i],1,false⟩).push ⟨[.int .i64 i],1,false⟩,?_,by simp,fun d hd _ => by rw [ζ13 _ _ _ (by simp; omega),ζ13 _ _ _ hd],.inr ⟨H.n + 1,0,1,⟨[.int .i64 i],1,false⟩,rfl,by omega,rfl,by simp,ζc _ _ _ (by simp),rfl,rfl,by simp,rfl⟩⟩;unfold apR;simp only [hlv];unfold appendK;rw [if_neg (by decide),if_pos ⟨by decide,by decide,rfl⟩,hf];rfl
 ·have hb:b < H.n:=hob b rfl;have hg:(H.push ⟨[.int .i64 i],1,false⟩).get b = some k:=by rw [ζ13 _ _ _ hb]; exact h4
  refine ⟨((H.push ⟨[.int .i64 i],1,false⟩).set b none).push ⟨((k.cells.drop off).take (ps.length * 1)) ++ [.int .i64 i],1,false⟩,?_,by simp,fun d hd hne => ?_,.inr ⟨H.n + 1,0,ps.length + 1,⟨((k.cells.drop off).take (ps.length * 1)) ++ [.int .i64 i],1,false⟩,rfl,by omega,rfl,by simp,ζc _ _ _ (by simp),rfl,rfl,?_,?_⟩⟩
  ·unfold apR;simp only [hlv];unfold appendK;rw [if_neg (by decide),if_pos ⟨by omega,by decide,rfl⟩,hf];simp only [hg];rw [if_pos (by simp [h5,h6]; omega)];simp
  ·rw [ζ13 _ _ _ (by simp; omega),ζ24 _ _ _ _ (fun e => hne (by rw [e])),ζ13 _ _ _ hd]
  ·simp;omega
  ·rw [Nat.mul_one,h8,List.drop_zero,List.take_of_length_le (by rw [ζ7o]; simp),List.reverse_cons,ζ7o,ζ7o,List.map_append];rfl
theorem LPv.tail {H:Heap} {c b off m cap:Nat} {l:List Int} (h:LPv H c (some b) (.slice (some ⟨b,off,none⟩) (m + 1) cap) l) (hl:l.length = m + 1) :
  slS 1 (.slice (some ⟨b,off,none⟩) (m + 1) cap) (some (.int .i64 1)) none none H = .ok (.slice (some ⟨b,off + 1,none⟩) m (cap - 1)) H ∧ LPv H c (some b) (.slice (some ⟨b,off + 1,none⟩) m (cap - 1)) (l.take m):=by
 rcases h with ⟨h,_⟩ | ⟨b',off',cap',k,h0,h1,h2,h3,h4,h5,h6,h7,h8⟩
 ·cases h
 ·injection h0 with h0;subst h0;injection h2 with e1 e2 e3;injection e1 with e1;injection e1 with _ e4;subst e3 e4;have hb:boundOf (some (.int .i64 1)) 0 = some 1:=by simp [boundOf]
  refine ⟨?_,.inr ⟨b,off + 1,cap - 1,k,rfl,h1,by rw [List.length_take,Nat.min_eq_left (by omega)],by rw [List.length_take]; omega,h4,h5,h6,by omega,?_⟩⟩
  ·unfold slS;dsimp only;rw [hb];simp only [boundOf];rw [if_pos ⟨by omega,by omega,by omega,by simp⟩,if_pos (by unfold openOk; rw [h4]; simp [h5])];simp
  ·rw [hl] at h8;have:=congrArg (List.drop 1) h8;rw [List.drop_take,List.drop_drop,show m + 1 - 1 = m by omega] at this;rw [List.length_take,Nat.min_eq_left (by omega),this,ζ7o,ζ7o,List.drop_one];have hne:l ≠ []:=fun h => by rw [h] at hl; simp at hl
   have:l.take m = l.dropLast:=by rw [List.dropLast_eq_take,hl]; rfl
   rw [this,List.map_reverse,List.map_reverse,List.tail_reverse,List.map_dropLast]
set_option maxHeartbeats 1000000 in
theorem ζg2 (k:Nat) {H0 H:Heap} {L:List It} (g:Star H0 H L) (n:Nat) {c:Nat} {ob:Option Nat} {ps:List Int} (hps:ps.length ≤ 64) (hi:L[n]? = some (itLP c ob ps)) (i:Int) :
  ∃ ob' H',R (T k) F.ζ1t [ptrV c,.int .i64 i] H = .ok (.tuple #[]) H' ∧ Star H0 H' (L.set n (itLP c ob' (pushP i ps))):=by
 obtain ⟨v,h1,h2⟩:=g.at n hi;have hown:=g.lt n hi;have hcn:=Heap.get_lt h1;have hl:=h2.len;rw [ζfm];have hlast:∀ j,ps.head? = some j → ∃ p,(∀ H',ixS 1 v (.int .i64 ((ps.length:Int) - 1)) H' = .ok p H') ∧ ld1 p H = .ok (.int .i64 j) H:=by
  intro j hj;cases ps with
  | nil => cases hj
  | cons a ps =>
   injection hj with hj;subst hj;obtain ⟨p,i1,i2⟩:=h2.sl.ix1 encI_len ps.length a (by rw [List.reverse_cons,List.getElem?_append_right (by simp)]; simp) _ rfl;exact ⟨p,fun H' => by rw [show (((a :: ps).length:Nat):Int) - 1 = (ps.length:Int) by rw [List.length_cons]; omega]; exact i1 _ _,i2 H (Ext.refl _)⟩
 by_cases hhead:ps.head? = some i
 ·refine ⟨ob,H,nrm_of ?_,?_⟩
  ·obtain ⟨p,i1,i2⟩:=hlast i hhead;have hpos:0 < ps.length:=by
    cases ps with
    | nil => cases hhead
    | cons a ps => rw [List.length_cons]; omega
   simp -implicitDefEqProofs (disch:=omega) [ζ1t,h1,hl,hpos,i1,i2]
  ·have:pushP i ps = ps:=by unfold pushP; rw [if_pos hhead]
   rw [this];exact g.step n hi (Nat.le_refl _) (fun _ _ _ => rfl) _ ⟨v,h1,h2⟩ fun b hb => .inl hb
 ·have hpp:pushP i ps = (i :: ps).take 64:=by unfold pushP; rw [if_neg hhead]
  obtain ⟨H1,e1,hn1,hk1,h3⟩:=h2.append (by omega) hcn (fun b hb => (hown b (by subst hb; simp [itLP])).2) i;have hoc:ob ≠ some c:=by
   rcases h2 with ⟨rfl,_⟩ | ⟨b,_,_,_,rfl,hbc,_⟩
   ·simp
   ·exact fun h => hbc (by injection h)
  have h1':H1.get c = some ⟨[v],1,false⟩:=by rw [hk1 c hcn hoc]; exact h1
  have hs1:(H1.get c).isSome = true:=by rw [h1']; rfl
  have hcne:¬ H.n + 1 = c:=by omega
  have h3':LPv (H1.set c (some ⟨[.slice (some ⟨H.n + 1,0,none⟩) (ps.length + 1) (ps.length + 1)],1,false⟩)) c (some (H.n + 1)) (.slice (some ⟨H.n + 1,0,none⟩) (ps.length + 1) (ps.length + 1)) (i :: ps):=h3.up fun b hb => by
   injection hb with hb;subst hb;exact ζ24 _ _ _ _ hcne
  have hhd:(0 < ps.length) → ∃ j p,(∀ H',ixS 1 v (.int .i64 ((ps.length:Int) - 1)) H' = .ok p H') ∧ ld1 p H = .ok (.int .i64 j) H ∧ (j == i) = false:=fun hp => by
   cases hps':ps with
   | nil => rw [hps'] at hp; simp at hp
   | cons a qs =>
    rw [hps'] at hhead hlast;obtain ⟨p,i1,i2⟩:=hlast a rfl;exact ⟨a,p,i1,i2,by rw [beq_eq_false_iff_ne]; intro h; exact hhead (by rw [h]; rfl)⟩
  have fin:∀ (X:Heap) (w:Value),X.n = H1.n → (∀ d,d < H.n → d ≠ c → X.get d = H1.get d) → (∃ k',X.get c = some ⟨[w],1,false⟩ ∧ k' = w) → LPv X c (some (H.n + 1)) w ((i :: ps).take 64) → Star H0 X (L.set n (itLP c (some (H.n + 1)) (pushP i ps))):=fun X w hXn hX ⟨_,hXc,_⟩ hL => by
   rw [hpp];have hP:(itLP c (some (H.n + 1)) ((i :: ps).take 64)).P X:=⟨w,hXc,hL⟩
   exact g.step (H':=X) n hi (by omega) (fun d hd hdx => by
    have hdc:d ≠ c:=fun h => hdx (by subst h; simp [itLP]);rw [hX d hd hdc,hk1 d hd (fun h => hdx (by rw [h]; simp [itLP]))]) _ hP fun b hb => by
     have hb:b = c ∨ b = H.n + 1:=by simpa [itLP] using hb
     rcases hb with rfl | rfl
     ·exact .inl (by simp [itLP])
     ·exact .inr ⟨by omega,by omega⟩
  have hw1:(i :: ps).length = ps.length + 1:=rfl;by_cases h64:ps.length = 64
  ·rw [h64] at h3' e1;obtain ⟨t1,t2⟩:=h3'.tail (by rw [hw1,h64]);refine ⟨some (H.n + 1),(H1.set c (some ⟨[.slice (some ⟨H.n + 1,0 + 1,none⟩) 64 (64 + 1 - 1)],1,false⟩)),nrm_of ?_,?_⟩
   ·have hp:0 < ps.length:=by omega
    obtain ⟨j,p,i1,i2,hji⟩:=hhd hp;rw [h64] at hl i1;have hl:∀ H',lnS v H' = .ok (.int .i64 64) H':=hl;have i1:∀ H',ixS 1 v (.int .i64 63) H' = .ok p H':=i1;simp -implicitDefEqProofs (disch:=omega) [ζ1t,h1,hl,i1,i2,hji,e1,h1',hs1,t1]
   ·exact fin _ _ (by simp) (fun d hd hdc => ζ24 _ _ _ _ hdc) ⟨_,by rw [ζ8a _ _ _ (by rw [h1']; rfl)],rfl⟩ (t2.up fun b hb => by
     injection hb with hb;subst hb;rw [ζ24 _ _ _ _ hcne,ζ24 _ _ _ _ hcne])
  ·have h65:¬ (ps.length:Int) + 1 > 64:=by omega
   have ht:(i :: ps).take 64 = i :: ps:=List.take_of_length_le (by rw [hw1]; omega);refine ⟨some (H.n + 1),(H1.set c (some ⟨[.slice (some ⟨H.n + 1,0,none⟩) (ps.length + 1) (ps.length + 1)],1,false⟩)),nrm_of ?_,?_⟩
   ·by_cases hp:0 < ps.length
    ·obtain ⟨j,p,i1,i2,hji⟩:=hhd hp;simp -implicitDefEqProofs (disch:=omega) [ζ1t,h1,hl,hp,i1,i2,hji,e1,h1',hs1,h65]
    ·simp -implicitDefEqProofs (disch:=omega) [ζ1t,h1,hl,hp,e1,h1',hs1,h65]
   ·exact fin _ _ (by simp) (fun d hd hdc => ζ24 _ _ _ _ hdc) ⟨_,by rw [ζ8a _ _ _ (by rw [h1']; rfl)],rfl⟩ (by rw [ht]; exact h3')
end Go.Sw
end
section
namespace Go.Sw
open Go.RowKit
theorem ζsg (k:Nat) (b:List Int) (H:Heap):R (T k) F.ζ51 [vwB b] H = .ok (.int .i64 b.length) H:=by
 rw [ζn4];have hx:Ext H (H.push ⟨[lv encB b],1,false⟩):=(Ext.refl H).push _;refine nrm_gc ⟨_,?_,hx⟩ (.int _ _);simp -implicitDefEqProofs (disch:=omega) [ζ51]
theorem ζg1 (k:Nat) (b:List Int) (hb:Byt b) (hl:b.length < 2 ^ 31) (i:Int) (H:Heap) :
  R (T k) F.ζ58 [vwB b,.int .i64 i] H = .ok (.tuple #[.int .i64 ((entryS b i).getD 0),.bool (entryS b i).isSome]) H:=by
 rw [ζqe];have hx:Ext H (H.push ⟨[lv encB b],1,false⟩):=(Ext.refl H).push _;have hlen:=fun H' => ζsg k b H';have q1:=fun H => bin_quo Prog 3 H .i64 b.length 2 (by decide);rw [Int.tdiv_eq_ediv_of_nonneg (by omega)] at q1;have fl:∀ n x,Flat (.tuple #[.int .i64 n,.bool x]):=fun n x => Flat.tupleL (l:=[.int .i64 n,.bool x]) (.cons (.int _ _) (.cons (.bool _) .nil));unfold entryS;by_cases c1:i < 0
 ·rw [if_neg (by omega)];refine nrm_gc ⟨_,?_,hx⟩ (fl _ _).alive;simp -implicitDefEqProofs (disch:=omega) [ζ58,c1]
 by_cases c2:i ≥ (b.length:Int) / 2
 ·rw [if_neg (by omega)];refine nrm_gc ⟨_,?_,hx⟩ (fl _ _).alive;simp -implicitDefEqProofs (disch:=omega) [ζ58,c1,hlen,q1,c2]
 rw [if_pos (by omega)];have hu:=fun H' => U16_run k (H:=H') (Sl.lv H' 1 b) hb (2 * i) (by omega);obtain ⟨x,hx2⟩:∃ x,uS b (2 * i) 2 = some x:=uS_of_in (by unfold inS; rw [decide_eq_true_eq]; omega);rw [hx2] at hu;have hg:=gU_some hx2;refine nrm_gc ⟨_,?_,hx⟩ (fl _ _).alive;simp -implicitDefEqProofs (disch:=omega) [ζ58,c1,hlen,q1,c2,hu,orF,hg]
theorem off_shl (P:Program) (t:TypeId) (H:Heap) (a:Int):binR P .shl t (.int .u32 a) (.int .u64 2) H = .ok (.int .u32 (IntKind.u32.wrap (a * 4))) H:=by
 rfl
theorem off_shr (P:Program) (t:TypeId) (H:Heap) (a:Int):binR P .shr t (.int .i64 a) (.int .u64 2) H = .ok (.int .i64 (a / 4)) H:=by
 have h:a / 4 = a.fdiv 4:=(Int.fdiv_eq_ediv_of_nonneg a (by decide)).symm;rw [h];rfl
theorem ζom (k:Nat) (a:Int) (h0:0 ≤ a) (h1:a < 4294967296) (H:Heap):R (T k) F.ζ6s [.int .i64 a] H = .ok (.int .i64 (offS a)) H:=by
 rw [ζph];refine nrm_gc ⟨_,?_,Ext.refl H⟩ (.int _ _);simp -implicitDefEqProofs (disch:=omega) [ζ6s,off_shl,off_shr];unfold offS IntKind.wrap;simp [IntKind.signed,IntKind.bits];split <;> omega
end Go.Sw
end
section
namespace Go.Sw
open Go.RowKit
theorem and_high (n:Nat) (h:n < 2 ^ 32):n &&& 3221225472 = n / 1073741824 * 1073741824:=by
 have e:n / 1073741824 * 1073741824 = (n >>> 30) <<< 30:=by rw [Nat.shiftLeft_eq,Nat.shiftRight_eq_div_pow]
 rw [e];apply Nat.eq_of_testBit_eq;intro j;rw [Nat.testBit_and,Nat.testBit_shiftLeft,Nat.testBit_shiftRight,show (3221225472:Nat) = 3 <<< 30 by rfl,Nat.testBit_shiftLeft];by_cases h1:j ≥ 30
 ·rw [show 30 + (j - 30) = j by omega];by_cases h2:j < 32
  ·have:j = 30 ∨ j = 31:=by omega
   have e1:Nat.testBit 3 1 = true:=by decide
   rcases this with rfl | rfl
   ·simp
   ·simp [e1]
  ·rw [Nat.testBit_lt_two_pow (Nat.lt_of_lt_of_le h (Nat.pow_le_pow_right (by decide) (by omega)))];simp
 ·simp [h1]
theorem and3031 (P:Program) (t:TypeId) (H:Heap) {a:Int} (h0:0 ≤ a) (h1:a < 4294967296):binR P .and t (.int .i64 a) (.int .i64 3221225472) H = .ok (.int .i64 (a / 1073741824 * 1073741824)) H:=by
 obtain ⟨n,rfl⟩:=Int.eq_ofNat_of_zero_le h0;have e:(BitVec.ofInt 64 (n:Int) &&& BitVec.ofInt 64 3221225472).toNat = n / 1073741824 * 1073741824:=by
  rw [BitVec.toNat_and,BitVec.toNat_ofInt,BitVec.toNat_ofInt];rw [show (((n:Int)) % ((2 ^ 64:Nat):Int)).toNat = n by omega,show ((3221225472:Int) % ((2 ^ 64:Nat):Int)).toNat = 3221225472 from by decide,and_high n (by omega)]
 have e1:binV P .and t (.int .i64 (n:Int)) (.int .i64 3221225472) = some (.int .i64 (IntKind.i64.wrap (BitVec.ofInt 64 (n:Int) &&& BitVec.ofInt 64 3221225472).toNat)):=rfl;unfold binR;rw [e1,e,wrap_i64 (by omega) (by omega)];rfl
theorem ζuy {vs:List Int} (hb:Byt vs) {a:Int} (h0:0 ≤ a) (h:lastB vs a = true):∃ x,uS vs (4 * a) 4 = some x ∧ gU vs (4 * a) 4 = x ∧ 0 ≤ x ∧ x < 4294967296 ∧ 4 * a + 4 ≤ vs.length ∧ (¬ x ≥ 2147483648 → lastB vs (a + 1) = true):=by
 obtain ⟨i,i1,i2,i3⟩:=ζez.1 h;obtain ⟨x,hx⟩:∃ x,uS vs (4 * a) 4 = some x:=uS_of_in (by unfold inS; rw [decide_eq_true_eq]; omega);have hxb:=uS_four hb hx;refine ⟨x,hx,gU_some hx,hxb.1,hxb.2,by omega,fun hlt => ζez.2 ⟨i,?_,i2,i3⟩⟩;by_cases hia:(i:Int) = a
 ·rw [hia,gU_some hx] at i3;exact absurd i3 hlt
 ·omega
theorem ζr1 {l:List Gl} {i:Int} (h:¬ (0 ≤ i ∧ i < l.length)):∀ ks:List Int,joinG l i ks = l
 | [] => rfl
 | k :: ks => by
  have:join1 i l k = l:=by
   unfold join1;split
   ·rw [if_neg h]
   ·rfl
  show joinG (join1 i l k) i ks = l;rw [this];exact ζr1 h ks
theorem ζtb (l:List Gl) (i:Int) (ks:List Int) (k:Int):joinG l i (ks ++ [k]) = join1 i (joinG l i ks) k:=by unfold joinG; rw [List.foldl_append]; rfl
theorem ζug (l:List Gl) (ks:List Int) (k:Int):delG l (ks ++ [k]) = setG (delG l ks) k 65535:=by unfold delG; rw [List.foldl_append]; rfl
set_option maxHeartbeats 1000000 in
theorem ζoq (k:Nat) {H0 H:Heap} {L:List It} (h:Star H0 H L) (il:Nat) {c:Nat} {o:Option Nat} {l:List Gl} (hil:L[il]? = some (itLine c o l)) {s:Value} {ks:List Int} (hv:∀ H' l',Star H0 H' (L.set il (itLine c o l')) → Sl H' 1 s encI ks) (hks:ks.length < 2 ^ 31) (i:Int) :
  ∃ H',R (T k) F.ζ1q [ptrV c,.int .i64 i,s] H = .ok (.tuple #[]) H' ∧ Star H0 H' (L.set il (itLine c o (joinG l i ks))):=by
 have hin:=ζj9 k h il hil (Ext.refl H) i;rw [ζjc];by_cases hj:0 ≤ i ∧ i < l.length;rotate_left
 ·rw [ζr1 hj,set_same hil];rw [decide_eq_false hj] at hin;refine ⟨H,nrm_of ?_,h⟩;simp -implicitDefEqProofs [ζ1q,hin]
 rw [decide_eq_true hj] at hin;obtain ⟨n,rfl⟩:=Int.eq_ofNat_of_zero_le hj.1;have hlt:=(List.getElem?_eq_some_iff.1 hil).1;have hlen:=(hv H l (by rw [set_same hil]; exact h)).len
 obtain ⟨xx,e',H1,hr,rfl,rfl,g⟩:=loop_up (body:=ζ6h k (R (T k))) ks.length
  (fun j e H' => e = [(0,ptrV c),(1,.int .i64 n),(14,s),(15,.int .i64 ks.length),(16,.int .i64 j)] ∧ Star H0 H' (L.set il (itLine c o (joinG l n (ks.take j)))))
  (fun xx e H' => xx = .exit 0 ∧ e = [(0,ptrV c),(1,.int .i64 n),(14,s),(15,.int .i64 ks.length),(16,.int .i64 ks.length),(17,.bool false)] ∧ Star H0 H' (L.set il (itLine c o (joinG l n ks))))
  (e0:=[(0,ptrV c),(1,.int .i64 n),(14,s),(15,.int .i64 ks.length),(16,.int .i64 0)]) (H0:=H) ⟨rfl,by rw [List.take_zero]; show Star H0 H (L.set il (itLine c o l)); rw [set_same hil]; exact h⟩ (by omega)
  (fun j e H' hj2 ⟨he,g⟩ => by
   subst he;have hjl:(j:Int) < ks.length:=by omega
   obtain ⟨x,hx⟩:∃ x,ks[j]? = some x:=⟨_,List.getElem?_eq_getElem hj2⟩
   have hil2:(L.set il (itLine c o (joinG l n (ks.take j))))[il]? = some (itLine c o (joinG l n (ks.take j))):=List.getElem?_set_self hlt;obtain ⟨p,i1,i2⟩:=(hv H' _ g).ix1 encI_len j x hx _ rfl;have i2:=i2 H' (Ext.refl _);have hat:=ζd1 k g il hil2 x;have hjn:=ζol (n:Int) (ks.take j) l;rw [ζ1x hx];have e2:=ζtb l n (ks.take j) x;cases hq:atG (joinG l n (ks.take j)) x with
   | none =>
    rw [hq] at hat;have:joinG l n (ks.take j ++ [x]) = joinG l n (ks.take j):=by rw [e2]; unfold join1; rw [hq]
    rw [this];refine .inl ⟨_,H'.push ⟨[.int .i64 0,.int .i64 0],1,false⟩,?_,rfl,g.rest ((Ext.refl _).push _)⟩;rw [ζ4p];simp -implicitDefEqProofs (disch:=omega) [hjl,i1,i2,hat,encA,ζeg]
   | some q =>
    rw [hq] at hat;have gp:=g.push ⟨encG q,1,false⟩;have hil3:(L.set il (itLine c o (joinG l n (ks.take j))) ++ [itBlk H'.n ⟨encG q,1,false⟩])[il]? = some (itLine c o (joinG l n (ks.take j))):=by rw [List.getElem?_append_left (by simpa using hlt)]; exact hil2
    obtain ⟨y,hy⟩:∃ y,(joinG l n (ks.take j))[n]? = some y:=⟨_,List.getElem?_eq_getElem (by omega)⟩
    obtain ⟨_,s3,h1,h2⟩:=gp.box il hil3;simp at h1;obtain ⟨b,rfl,hs,hb,ix⟩:=h2.ix .i64 n (by omega);have l1:=ld1_row encG_len hb (i:=n) (c:=1) hy (by decide) rfl;obtain ⟨H3,e3,g3,_⟩:=gp.stBox il hil3 encG_len (c:=1) (n:=1) (⟨y.id,min y.cl q.cl⟩:Gl) (v:=.int .i64 (min y.cl q.cl)) hy rfl rfl (by decide) rfl;have hcn:¬ c = H'.n:=by
     have:=(g.lt il hil2 c (by simp [itLine,itBox])).2;omega
    have hfin:joinG l n (ks.take j ++ [x]) = (joinG l n (ks.take j)).set n ⟨y.id,min y.cl q.cl⟩:=by
     rw [e2];unfold join1;rw [hq];dsimp only;rw [if_pos ⟨by omega,by omega⟩,Int.toNat_natCast,ζjh _ _ _ _ hy]
    have hmin:(if q.cl < y.cl then q.cl else y.cl) = min y.cl q.cl:=by rw [Int.min_def]; split <;> split <;> omega
    refine .inl ⟨_,H3,?_,rfl,?_⟩
    ·rw [ζ4p];have gq:(H'.push ⟨encG q,1,false⟩).get H'.n = some ⟨encG q,1,false⟩:=ζc _ _ _ rfl;rw [if_neg hcn] at h1;simp -implicitDefEqProofs (disch:=omega) [-stR_ptr,stR_ptr 2 H'.n 0,-ld1_ptr,ld1_ptr H'.n 1,ld1_ptr c 0,hjl,i1,i2,hat,encA,h1,ix,l1,hmin,e3,gq,ζef,hcn]
    ·rw [hfin];rw [List.set_append_left _ _ (by simpa using hlt),List.set_set] at g3;exact g3.ζdr)
  (fun e H' ⟨he,g⟩ => by
   subst he;rw [List.take_length] at g;refine ⟨.exit 0,_,H',?_,by simp,rfl,rfl,g⟩;rw [ζ4p];simp -implicitDefEqProofs)
 refine ⟨H1,nrm_of ?_,g⟩;simp -implicitDefEqProofs [ζ1q,hin,hlen,hr,ζdy]
theorem ζpi (k:Nat) {H0 H:Heap} {L:List It} (h:Star H0 H L) (il ir:Nat) (hne:il ≠ ir) {c:Nat} {o:Option Nat} {l:List Gl} (hil:L[il]? = some (itLine c o l)) {og:Option Nat} {s:Value} {ks:List Int} (hir:L[ir]? = some (itRow og 1 s encI ks)) (hks:ks.length < 2 ^ 31) (i:Int) :
  ∃ H',R (T k) F.ζ1q [ptrV c,.int .i64 i,s] H = .ok (.tuple #[]) H' ∧ Star H0 H' (L.set il (itLine c o (joinG l i ks))) :=
 ζoq k h il hil (fun _ _ g => (g.row ir (by rw [List.getElem?_set_ne hne]; exact hir)).sl encI_len) hks i
set_option maxHeartbeats 1000000 in
theorem ζon (k:Nat) (t:LTab) (ht:t.ok) {H0 H:Heap} {L:List It} (h:Star H0 H L) (il ir:Nat) (hne:il ≠ ir) {c:Nat} {o:Option Nat} {l:List Gl} (hil:L[il]? = some (itLine c o l)) {og:Option Nat} {s:Value} {ks:List Int} (hir:L[ir]? = some (itRow og 1 s encI ks)) (hks:ks.length < 2 ^ 31) (i sum:Int) :
  ∃ H',R (T k) F.ζ22 [ligaV t,ptrV c,.int .i64 i,.int .i64 sum,s] H = .ok (.bool (entryS t.ligs sum).isSome) H' ∧ Star H0 H' (L.set il (itLine c o (match entryS t.ligs sum with | some id => storeG l i id ks | none => l))):=by
 have hen:=fun H' => ζg1 k t.ligs ht.byt.2.2 ht.len.2.2 sum H';have hlt:=(List.getElem?_eq_some_iff.1 hil).1;rw [ζfl];cases he:entryS t.ligs sum with
 | none =>
  rw [he] at hen;refine ⟨H,nrm_of ?_,by dsimp only; rw [set_same hil]; exact h⟩;simp -implicitDefEqProofs (disch:=omega) [ζ22,hen]
 | some id =>
  rw [he] at hen;obtain ⟨H1,e1,g⟩:=ζjb k h il hil i id;have hir2:(L.set il (itLine c o (setG l i id)))[ir]? = some (itRow og 1 s encI ks):=by rw [List.getElem?_set_ne hne]; exact hir
  obtain ⟨H2,e2,g⟩:=ζpi k g il ir hne (List.getElem?_set_self hlt) hir2 hks i;rw [List.set_set] at g;have hlen:=(h.row ir hir).len
  obtain ⟨xx,e',H3,hr,rfl,rfl,g⟩:=loop_up (body:=ζ57 k (R (T k))) ks.length
   (fun j e H' => e = [(1,ptrV c),(34,s),(35,.int .i64 ks.length),(36,.int .i64 j)] ∧ Star H0 H' (L.set il (itLine c o (delG (joinG (setG l i id) i ks) (ks.take j)))))
   (fun xx e H' => xx = .exit 0 ∧ e = [(1,ptrV c),(34,s),(35,.int .i64 ks.length),(36,.int .i64 ks.length),(37,.bool false)] ∧ Star H0 H' (L.set il (itLine c o (delG (joinG (setG l i id) i ks) ks))))
   (e0:=[(1,ptrV c),(34,s),(35,.int .i64 ks.length),(36,.int .i64 0)]) (H0:=H2) ⟨rfl,g⟩ (by omega)
   (fun j e H' hj2 ⟨he,g⟩ => by
    subst he;have hjl:(j:Int) < ks.length:=by omega
    obtain ⟨x,hx⟩:∃ x,ks[j]? = some x:=⟨_,List.getElem?_eq_getElem hj2⟩
    have hir2:(L.set il (itLine c o (delG (joinG (setG l i id) i ks) (ks.take j))))[ir]? = some (itRow og 1 s encI ks):=by rw [List.getElem?_set_ne hne]; exact hir
    obtain ⟨p,i1,i2⟩:=((g.row ir hir2).sl encI_len).ix1 encI_len j x hx _ rfl;have i2:=i2 H' (Ext.refl _);obtain ⟨H4,e4,g4⟩:=ζjb k g il (List.getElem?_set_self hlt) x 65535;rw [List.set_set,← ζug,← ζ1x hx] at g4;refine .inl ⟨_,H4,?_,rfl,g4⟩;rw [ζ5y];simp -implicitDefEqProofs (disch:=omega) [hjl,i1,i2,e4])
   (fun e H' ⟨he,g⟩ => by
    subst he;rw [List.take_length] at g;refine ⟨.exit 0,_,H',?_,by simp,rfl,rfl,g⟩;rw [ζ5y];simp -implicitDefEqProofs)
  refine ⟨H3,nrm_of ?_,g⟩;simp -implicitDefEqProofs (disch:=omega) [ζ22,hen,e1,e2,hlen,hr,ζ9x]
end Go.Sw
end
