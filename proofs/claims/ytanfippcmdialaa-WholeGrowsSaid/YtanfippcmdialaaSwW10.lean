/-
  Functions' forms, and what is proved of them, part 10.
-/
import Derived.Test.YtanfippcmdialaaSwCfg
set_option linter.unusedSimpArgs false
set_option linter.unusedVariables false
set_option linter.unusedSectionVars false
section
set_option maxRecDepth 100000
set_option linter.unusedVariables false
namespace Go.Sw
noncomputable section
def ins_Read (k:Nat) (call:Caller) (a0 a1:Value) (h:Heap):Res Value :=
 (boxR a1 h).bind fun v1 h2 =>
 (allocR Prog 155 h2).bind fun v3 h4 =>
 (loadR Prog 3 v1 h4).bind fun v5 h6 =>
 (binR Prog .lss 3 v5 (.int .i64 1) h6).bind fun v7 h8 =>
 ((bif wantVal v7 false then loadR Prog 3 v1 h8 else Res.ok undef h8)).bind fun v9 h10 =>
 ((bif wantVal v7 false then binR Prog .gtr 3 v9 (.int .i64 65535) h10 else Res.ok undef h10)).bind fun v11 h12 =>
 (condV (some v7) (Res.ok (.bool true) h12) (Res.ok v11 h12)).bind fun v13 h14 =>
 condV (some v13) (
 (storeR Prog 155 v3 (.pointer none) h14).bind fun _v15 h16 =>
 (loadR Prog 155 v3 h16).bind fun v17 h18 =>
 .ok (.tuple #[v17,(.int .i64 1)]) h18)
 (
 (call F.view_Of [a0] h14).bind fun v19 h20 =>
 (call F.ζ39 [v19] h20).bind fun v21 h22 =>
 (call F.view_Of [v21] h22).bind fun v23 h24 =>
 (allocR Prog 75 h24).bind fun v25 h26 =>
 (storeR Prog 75 v25 v23 h26).bind fun _v27 h28 =>
 (call F.view_Try [(.func (.func F.ζ3m) #[] #[v25,v1,v3])] h28).bind fun v29 h30 =>
 (unR .not v29 h30).bind fun v31 h32 =>
 condV (some v31) (
 (storeR Prog 155 v3 (.pointer none) h32).bind fun _v33 h34 =>
 (loadR Prog 155 v3 h34).bind fun v35 h36 =>
 .ok (.tuple #[v35,(.int .i64 2)]) h36)
 (
 (loadR Prog 155 v3 h32).bind fun v37 h38 =>
 (storeR Prog 155 v3 v37 h38).bind fun _v39 h40 =>
 (loadR Prog 155 v3 h40).bind fun v41 h42 =>
 .ok (.tuple #[v41,(.int .i64 0)]) h42))
theorem ζt4 (k:Nat) (a0 a1:Value) (h:Heap):R (T k) F.ins_Read [a0,a1] h = nrm .fz h (ins_Read k (R (T k)) a0 a1 h) :=
 (R_body (t:=T k) (T_scott k) (by kernel_rfl) (by kernel_rfl) _ _).trans (by kernel_rfl)
def ζct (k:Nat) (call:Caller) (a8 a10:Value) (h:Heap):Res Value :=
 kSeq (pieceK (C k) call F.ζ2b [1,1,1,1]) (kDone Prog (resOf Prog F.ζ2b)) .normal [(8,a8),(10,a10)] h
def ζcu (k:Nat) (call:Caller) (a8 a10 a30:Value) (h:Heap):Res Value :=
 kSeq (pieceK (C k) call F.ζ2b [1,1,1,1]) (kDone Prog (resOf Prog F.ζ2b)) .normal [(8,a8),(10,a10),(30,a30)] h
def ζ2b (k:Nat) (call:Caller) (a0 a1 a2:Value) (h:Heap):Res Value :=
 (buildR Prog 257 [(0,a0),(1,a1),(2,(.int .i64 (-1))),(3,a2)] h).bind fun v1 h2 =>
 (boxR v1 h2).bind fun v3 h4 =>
 (nilR a0 h4).bind fun v5 h6 =>
 (fieldAddrR Prog 259 v5 0 h6).bind fun v7 h8 =>
 (loadR Prog 196 v7 h8).bind fun v9 h10 =>
 (call F.ζ4j [v9,a1,(.func (.func F.ζ1) #[v3] #[])] h10).bind fun v11 h12 =>
 (extractR v11 0 h12).bind fun v13 h14 =>
 (extractR v11 1 h14).bind fun v15 h16 =>
 (nilR v3 h16).bind fun v17 h18 =>
 (fieldAddrR Prog 257 v17 5 h18).bind fun v19 h20 =>
 (loadR Prog 4 v19 h20).bind fun v21 h22 =>
 condV (some v21) (
 ζct k call v3 (.int .i64 4) h22)
 (
 ζcu k call v3 v15 v21 h22)
theorem ζka (k:Nat) (a0 a1 a2:Value) (h:Heap):R (T k) F.ζ2b [a0,a1,a2] h = nrm .no h (ζ2b k (R (T k)) a0 a1 a2 h) :=
 (R_body (t:=T k) (T_scott k) (by kernel_rfl) (by kernel_rfl) _ _).trans (by kernel_rfl)
theorem ζev (k:Nat) (call:Caller) (a8 a10:Value) (h:Heap):ζct k call a8 a10 h =
 (nilR a8 h).bind fun v23 h24 =>
 (fieldAddrR Prog 257 v23 4 h24).bind fun v25 h26 =>
 (loadR Prog 3 v25 h26).bind fun v27 h28 =>
 .ok (.tuple #[v27,a10]) h28:=by kernel_rfl
theorem ζew (k:Nat) (call:Caller) (a8 a10 a30:Value) (h:Heap):ζcu k call a8 a10 a30 h =
 (nilR a8 h).bind fun v29 h30 =>
 (fieldAddrR Prog 257 v29 4 h30).bind fun v31 h32 =>
 (loadR Prog 3 v31 h32).bind fun v33 h34 =>
 .ok (.tuple #[v33,a10]) h34:=by kernel_rfl
def ζ3m (k:Nat) (call:Caller) (a0 a1 a2:Value) (h:Heap):Res Value :=
 (loadR Prog 75 a0 h).bind fun v1 h2 =>
 (loadR Prog 3 a1 h2).bind fun v3 h4 =>
 (call F.ins_Take [v1,v3] h4).bind fun v5 h6 =>
 (storeR Prog 155 a2 v5 h6).bind fun _v7 h8 =>
 .ok (.tuple #[]) h8
theorem ζo9 (k:Nat) (a0 a1 a2:Value) (h:Heap):R (T k) F.ζ3m [a0,a1,a2] h = nrm .no h (ζ3m k (R (T k)) a0 a1 a2 h) :=
 (R_body (t:=T k) (T_scott k) (by kernel_rfl) (by kernel_rfl) _ _).trans (by kernel_rfl)
def ζ8b (k:Nat) (call:Caller):Env → Heap → Res (AExit × Env):=loopB (C k) call F.ins_Take [1,1,0,1,0,0]
def ζh6 (k:Nat) (call:Caller):Kont Value:=kBlock 0 (kSeq (pieceK (C k) call F.ins_Take [1,1,1]) (kDone Prog (resOf Prog F.ins_Take)))
def ζnk (k:Nat) (call:Caller) (a5 a7 a9 a23 a24 a25:Value) (h:Heap):Res (AExit × Env) :=
 kSeq (pieceK (C k) call F.ins_Take [1,1,0,1,0,0,1,1,0,0,1,1,1]) (kBlock 1 (kSeq (pieceK (C k) call F.ins_Take [1,1,0,1,0,0,1,1,1]) (kRound (ownOf (C k) F.ins_Take [1,1,0,1,0,0])))) .normal [(5,a5),(7,a7),(9,a9),(23,a23),(24,a24),(25,a25)] h
def ζnl (k:Nat) (call:Caller) (a5 a7 a8 a9 a23 a24 a25 a35:Value) (h:Heap):Res (AExit × Env) :=
 kSeq (pieceK (C k) call F.ins_Take [1,1,0,1,0,0,1,1,0,0,1,1,1]) (kBlock 1 (kSeq (pieceK (C k) call F.ins_Take [1,1,0,1,0,0,1,1,1]) (kRound (ownOf (C k) F.ins_Take [1,1,0,1,0,0])))) .normal [(5,a5),(7,a7),(8,a8),(9,a9),(23,a23),(24,a24),(25,a25),(35,a35)] h
def ζfj (k:Nat) (call:Caller) (a5 a23 a24 a25:Value) (h:Heap):Res (AExit × Env) :=
 kSeq (pieceK (C k) call F.ins_Take [1,1,0,1,0,0,1,1,1]) (kRound (ownOf (C k) F.ins_Take [1,1,0,1,0,0])) .normal [(5,a5),(23,a23),(24,a24),(25,a25)] h
def ζfk (k:Nat) (call:Caller) (a5 a7 a9 a23 a24 a25 a46:Value) (h:Heap):Res (AExit × Env) :=
 kSeq (pieceK (C k) call F.ins_Take [1,1,0,1,0,0,1,1,1]) (kRound (ownOf (C k) F.ins_Take [1,1,0,1,0,0])) .normal [(5,a5),(7,a7),(9,a9),(23,a23),(24,a24),(25,a25),(46,a46)] h
def ins_Take (k:Nat) (call:Caller) (a0 a1:Value) (h:Heap):Res Value :=
 (boxR a0 h).bind fun v1 h2 =>
 (loadR Prog 75 v1 h2).bindN fun v3 h4 =>
 (call F.ζ2v [v3,a1,(.int .i64 2)] h4).bindT (fun p7 h8 => (loadR Prog 75 v1 h4).bindN fun v9 h10 => (loadR Prog 75 v1 h10).bindN fun v11 h12 => chkR ((okVal (loadR Prog 75 v1 h2) v9 && true) && ((okVal (loadR Prog 75 v1 h2) v11 && true) && true)) (.panic p7 h8)) fun v5 h6 =>
 (loadR Prog 75 v1 h6).bindN fun v13 h14 =>
 (loadR Prog 75 v1 h14).bindN fun v15 h16 =>
 (call F.ζ17 [v15,(.int .i64 16)] h16).bindT (fun p19 h20 => chkR ((okVal (loadR Prog 75 v1 h2) v13 && true) && ((okVal (loadR Prog 75 v1 h2) v15 && true) && true)) (.panic p19 h20)) fun v17 h18 =>
 (call F.ζ1s [v13,v17] h18).bindT (fun p23 h24 => chkR ((okVal (loadR Prog 75 v1 h2) v13 && (okVal (loadR Prog 75 v1 h18) v13 && true)) && ((okVal (loadR Prog 75 v1 h2) v15 && true) && true)) (.panic p23 h24)) fun v21 h22 =>
 (buildR Prog 259 [(0,v5),(1,v21)] h22).bindN fun v25 h26 =>
 (boxR v25 h26).bindN fun v27 h28 =>
 chkR ((okVal (loadR Prog 75 v1 h2) v13 && (okVal (loadR Prog 75 v1 h18) v13 && true)) && ((okVal (loadR Prog 75 v1 h2) v15 && true) && true)) (
 (nilR v27 h28).bind fun v29 h30 =>
 (fieldAddrR Prog 259 v29 0 h30).bind fun v31 h32 =>
 (loadR Prog 196 v31 h32).bind fun v33 h34 =>
 (call F.ζ1z [v33] h34).bind fun v35 h36 =>
 (builtinV Prog .len [102] [v35] h36).bind fun v37 h38 =>
 (loopN (ζ8b k call) loopFuel [(5,v27),(23,v35),(24,v37),(25,(.int .i64 0))] h38).bind fun r39 h40 =>
 ζh6 k call r39.1 r39.2 h40)
theorem ζt5 (k:Nat) (a0 a1:Value) (h:Heap):R (T k) F.ins_Take [a0,a1] h = nrm .fz h (ins_Take k (R (T k)) a0 a1 h) :=
 (R_body (t:=T k) (T_scott k) (by kernel_rfl) (by kernel_rfl) _ _).trans (by kernel_rfl)
theorem ζ30 (k:Nat) (call:Caller) (a5 a23 a24 a25:Value) (h:Heap):ζ8b k call [(5,a5),(23,a23),(24,a24),(25,a25)] h =
 (binR Prog .lss 3 a25 a24 h).bind fun v41 h42 =>
 condV (some v41) (
 (indexAddrR Prog 102 a23 a25 h42).bind fun v43 h44 =>
 (loadR Prog 130 v43 h44).bind fun v45 h46 =>
 (allocR Prog 130 h46).bind fun v47 h48 =>
 (storeR Prog 130 v47 v45 h48).bind fun _v49 h50 =>
 (loadR Prog 130 v47 h50).bind fun v51 h52 =>
 (call F.ζ28 [v51] h52).bind fun v53 h54 =>
 (extractR v53 0 h54).bind fun v55 h56 =>
 (extractR v53 1 h56).bind fun v57 h58 =>
 (binR Prog .gtr 3 v55 (.int .i64 0) h58).bind fun v59 h60 =>
 condV (some v59) (
 (nilR a5 h60).bindN fun v61 h62 =>
 (fieldAddrR Prog 259 v61 1 h62).bindN fun v63 h64 =>
 (loadR Prog 75 v63 h64).bindN fun v65 h66 =>
 (fieldAddrR Prog 130 v47 2 h66).bindN fun v67 h68 =>
 (loadR Prog 3 v67 h68).bindN fun v69 h70 =>
 (binR Prog .mul 3 (.int .i64 2) v69 h70).bindN fun v71 h72 =>
 (call F.ζm [v65,v71,v55,(.int .i64 2)] h72).bindT (fun p75 h76 => .panic p75 h76) fun v73 h74 =>
 ζnk k call a5 v47 v57 a23 a24 a25 h74)
 (
 ζnl k call a5 v47 v55 v57 a23 a24 a25 v59 h60))
 (
 .ok ((.exit 0),[(5,a5),(23,a23),(24,a24),(25,a25),(26,v41)]) h42) :=
 (loopB_eq _ _).trans (by kernel_rfl)
theorem ζ8i (k:Nat) (call:Caller) (a5 a7 a9 a23 a24 a25:Value) (h:Heap):ζnk k call a5 a7 a9 a23 a24 a25 h =
 (binR Prog .gtr 3 a9 (.int .i64 0) h).bind fun v77 h78 =>
 condV (some v77) (
 (nilR a5 h78).bindN fun v79 h80 =>
 (fieldAddrR Prog 259 v79 1 h80).bindN fun v81 h82 =>
 (loadR Prog 75 v81 h82).bindN fun v83 h84 =>
 (fieldAddrR Prog 130 a7 3 h84).bindN fun v85 h86 =>
 (loadR Prog 3 v85 h86).bindN fun v87 h88 =>
 (binR Prog .mul 3 (.int .i64 2) v87 h88).bindN fun v89 h90 =>
 (call F.ζm [v83,v89,a9,(.int .i64 2)] h90).bindT (fun p93 h94 => .panic p93 h94) fun v91 h92 =>
 ζfj k call a5 a23 a24 a25 h92)
 (
 ζfk k call a5 a7 a9 a23 a24 a25 v77 h78):=by kernel_rfl
theorem ζ8j (k:Nat) (call:Caller) (a5 a7 a8 a9 a23 a24 a25 a35:Value) (h:Heap):ζnl k call a5 a7 a8 a9 a23 a24 a25 a35 h =
 (binR Prog .gtr 3 a9 (.int .i64 0) h).bind fun v95 h96 =>
 condV (some v95) (
 (nilR a5 h96).bindN fun v97 h98 =>
 (fieldAddrR Prog 259 v97 1 h98).bindN fun v99 h100 =>
 (loadR Prog 75 v99 h100).bindN fun v101 h102 =>
 (fieldAddrR Prog 130 a7 3 h102).bindN fun v103 h104 =>
 (loadR Prog 3 v103 h104).bindN fun v105 h106 =>
 (binR Prog .mul 3 (.int .i64 2) v105 h106).bindN fun v107 h108 =>
 (call F.ζm [v101,v107,a9,(.int .i64 2)] h108).bindT (fun p111 h112 => .panic p111 h112) fun v109 h110 =>
 ζfj k call a5 a23 a24 a25 h110)
 (
 ζfk k call a5 a7 a9 a23 a24 a25 v95 h96):=by kernel_rfl
theorem ζex (k:Nat) (call:Caller) (a5 a23 a24 a25:Value) (h:Heap):ζfj k call a5 a23 a24 a25 h =
 (binR Prog .add 3 a25 (.int .i64 1) h).bind fun v113 h114 =>
 .ok (.normal,[(5,a5),(23,a23),(24,a24),(25,v113)]) h114:=by kernel_rfl
theorem ζey (k:Nat) (call:Caller) (a5 a7 a9 a23 a24 a25 a46:Value) (h:Heap):ζfk k call a5 a7 a9 a23 a24 a25 a46 h =
 (binR Prog .add 3 a25 (.int .i64 1) h).bind fun v115 h116 =>
 .ok (.normal,[(5,a5),(23,a23),(24,a24),(25,v115)]) h116:=by kernel_rfl
theorem ζkb (k:Nat) (call:Caller) (a5 a23 a24 a25 a26:Value) (h:Heap):ζh6 k call (.exit 0) [(5,a5),(23,a23),(24,a24),(25,a25),(26,a26)] h =
 .ok a5 h:=by kernel_rfl
def ζi (k:Nat) (call:Caller) (a0 a1 a5 a8 a9 a10:Value) (h:Heap):Res Value :=
 kSeq (pieceK (C k) call F.ζ1 [1,1,1,0,1,0,1,1]) (kSeq (pieceK (C k) call F.ζ1 [1,1,1,1]) (kDone Prog (resOf Prog F.ζ1))) .normal [(0,a0),(1,a1),(5,a5),(8,a8),(9,a9),(10,a10)] h
def ζj (k:Nat) (call:Caller) (a0 a1 a5 a8 a9 a10 a43:Value) (h:Heap):Res Value :=
 kSeq (pieceK (C k) call F.ζ1 [1,1,1,0,1,0,1,1]) (kSeq (pieceK (C k) call F.ζ1 [1,1,1,1]) (kDone Prog (resOf Prog F.ζ1))) .normal [(0,a0),(1,a1),(5,a5),(8,a8),(9,a9),(10,a10),(43,a43)] h
def ζk (k:Nat) (call:Caller) (a0 a1 a5 a8 a9 a34:Value) (h:Heap):Res Value :=
 kSeq (pieceK (C k) call F.ζ1 [1,1,1,1]) (kDone Prog (resOf Prog F.ζ1)) .normal [(0,a0),(1,a1),(5,a5),(8,a8),(9,a9),(34,a34)] h
def ζp (k:Nat) (call:Caller) (a0 a1 a5 a8 a9 a10:Value) (h:Heap):Res Value :=
 kSeq (pieceK (C k) call F.ζ1 [1,1,1,0,1,0,1,1,1,1]) (kSeq (pieceK (C k) call F.ζ1 [1,1,1,1]) (kDone Prog (resOf Prog F.ζ1))) .normal [(0,a0),(1,a1),(5,a5),(8,a8),(9,a9),(10,a10)] h
def ζq (k:Nat) (call:Caller) (a0 a1 a5 a8 a9 a10 a63:Value) (h:Heap):Res Value :=
 kSeq (pieceK (C k) call F.ζ1 [1,1,1,0,1,0,1,1,1,1]) (kSeq (pieceK (C k) call F.ζ1 [1,1,1,1]) (kDone Prog (resOf Prog F.ζ1))) .normal [(0,a0),(1,a1),(5,a5),(8,a8),(9,a9),(10,a10),(63,a63)] h
def ζr (k:Nat) (call:Caller) (a0 a1 a5 a8 a11 a12 a13:Value) (h:Heap):Res Value :=
 kSeq (pieceK (C k) call F.ζ1 [1,1,1,1,1,0,1,0,1,1]) (kSeq (pieceK (C k) call F.ζ1 [1,1,1,1,1,1]) (kDone Prog (resOf Prog F.ζ1))) .normal [(0,a0),(1,a1),(5,a5),(8,a8),(11,a11),(12,a12),(13,a13)] h
def ζs (k:Nat) (call:Caller) (a0 a1 a5 a8 a11 a12 a13 a99:Value) (h:Heap):Res Value :=
 kSeq (pieceK (C k) call F.ζ1 [1,1,1,1,1,0,1,0,1,1]) (kSeq (pieceK (C k) call F.ζ1 [1,1,1,1,1,1]) (kDone Prog (resOf Prog F.ζ1))) .normal [(0,a0),(1,a1),(5,a5),(8,a8),(11,a11),(12,a12),(13,a13),(99,a99)] h
def ζt (k:Nat) (call:Caller) (a0 a1 a5 a8 a11 a12 a87:Value) (h:Heap):Res Value :=
 kSeq (pieceK (C k) call F.ζ1 [1,1,1,1,1,1]) (kDone Prog (resOf Prog F.ζ1)) .normal [(0,a0),(1,a1),(5,a5),(8,a8),(11,a11),(12,a12),(87,a87)] h
def ζ18 (k:Nat) (call:Caller) (a0 a1 a5 a8:Value) (h:Heap):Res Value :=
 kSeq (pieceK (C k) call F.ζ1 [1,1,1,1]) (kDone Prog (resOf Prog F.ζ1)) .normal [(0,a0),(1,a1),(5,a5),(8,a8)] h
def ζu (k:Nat) (call:Caller) (a0 a1 a5 a8 a9 a74:Value) (h:Heap):Res Value :=
 kSeq (pieceK (C k) call F.ζ1 [1,1,1,1]) (kDone Prog (resOf Prog F.ζ1)) .normal [(0,a0),(1,a1),(5,a5),(8,a8),(9,a9),(74,a74)] h
def ζ1d (k:Nat) (call:Caller) (a0 a1 a5 a8 a11 a12:Value) (h:Heap):Res Value :=
 kSeq (pieceK (C k) call F.ζ1 [1,1,1,1,1,1]) (kDone Prog (resOf Prog F.ζ1)) .normal [(0,a0),(1,a1),(5,a5),(8,a8),(11,a11),(12,a12)] h
def ζ1e (k:Nat) (call:Caller) (a0 a1 a5 a8 a11 a12 a119:Value) (h:Heap):Res Value :=
 kSeq (pieceK (C k) call F.ζ1 [1,1,1,1,1,1]) (kDone Prog (resOf Prog F.ζ1)) .normal [(0,a0),(1,a1),(5,a5),(8,a8),(11,a11),(12,a12),(119,a119)] h
def ζ20 (k:Nat) (call:Caller) (a1 a8:Value) (h:Heap):Res Value :=
 kSeq (pieceK (C k) call F.ζ1 [1,1,1,1,1,1,1]) (kDone Prog (resOf Prog F.ζ1)) .normal [(1,a1),(8,a8)] h
def ζ21 (k:Nat) (call:Caller) (a0 a1 a8 a12 a135:Value) (h:Heap):Res Value :=
 kSeq (pieceK (C k) call F.ζ1 [1,1,1,1,1,1,1]) (kDone Prog (resOf Prog F.ζ1)) .normal [(0,a0),(1,a1),(8,a8),(12,a12),(135,a135)] h
def ζ1 (k:Nat) (call:Caller) (a0 a1 a2:Value) (h:Heap):Res Value :=
 (boxR a2 h).bind fun v1 h2 =>
 (loadR Prog 130 v1 h2).bind fun v3 h4 =>
 (call F.ζ28 [v3] h4).bind fun v5 h6 =>
 (extractR v5 0 h6).bind fun v7 h8 =>
 (extractR v5 1 h8).bind fun v9 h10 =>
 (nilR a0 h10).bind fun v11 h12 =>
 (fieldAddrR Prog 257 v11 5 h12).bind fun v13 h14 =>
 (loadR Prog 4 v13 h14).bind fun v15 h16 =>
 condV (some v15) (
 (binR Prog .add 3 a1 (.int .i64 1) h16).bind fun v17 h18 =>
 .ok (.tuple #[a1,v17]) h18)
 (
 (binR Prog .gtr 3 v9 (.int .i64 0) h16).bind fun v19 h20 =>
 ((bif wantVal v19 true then Res.ok a0 h20 else Res.ok undef h20)).bind fun v21 h22 =>
 ((bif wantVal v19 true then nilR v21 h22 else Res.ok undef h22)).bind fun v23 h24 =>
 ((bif wantVal v19 true then fieldAddrR Prog 257 v23 2 h24 else Res.ok undef h24)).bind fun v25 h26 =>
 ((bif wantVal v19 true then loadR Prog 3 v25 h26 else Res.ok undef h26)).bind fun v27 h28 =>
 ((bif wantVal v19 true then binR Prog .geq 3 v27 (.int .i64 0) h28 else Res.ok undef h28)).bind fun v29 h30 =>
 (condV (some v19) (Res.ok v29 h30) (Res.ok (.bool false) h30)).bind fun v31 h32 =>
 condV (some v31) (
 (nilR a0 h32).bind fun v33 h34 =>
 (fieldAddrR Prog 257 v33 2 h34).bind fun v35 h36 =>
 (loadR Prog 3 v35 h36).bind fun v37 h38 =>
 (binR Prog .add 3 v37 (.int .i64 1) h38).bind fun v39 h40 =>
 (fieldAddrR Prog 130 v1 1 h40).bind fun v41 h42 =>
 (loadR Prog 3 v41 h42).bind fun v43 h44 =>
 (binR Prog .and 3 v43 (.int .i64 1024) h44).bind fun v45 h46 =>
 (binR Prog .neq 3 v45 (.int .i64 0) h46).bind fun v47 h48 =>
 condV (some v47) (
 (nilR a0 h48).bind fun v49 h50 =>
 (fieldAddrR Prog 257 v49 2 h50).bind fun v51 h52 =>
 (loadR Prog 3 v51 h52).bind fun v53 h54 =>
 ζi k call a0 a1 v1 v7 v9 v53 h54)
 (
 ζj k call a0 a1 v1 v7 v9 v39 v47 h48))
 (
 ζk k call a0 a1 v1 v7 v9 v31 h32))
theorem ζ10 {β:Type} (f:Env → Heap → Kont β → Res β) (K:Kont β) (e:Env) (h:Heap):kSeq f K .normal e h = f e h K:=rfl
theorem ζ12 {β:Type} (f:Env → Heap → Kont β → Res β) (K:Kont β) (i:Nat) (e:Env) (h:Heap):kSeq f K (.exit i) e h = K (.exit i) e h:=rfl
theorem ζ11 {β:Type} (f:Env → Heap → Kont β → Res β) (K:Kont β) (e:Env) (h:Heap):kSeq f K .ret e h = K .ret e h:=rfl
theorem ζv {β:Type} (j:Nat) (K:Kont β) (e:Env) (h:Heap):kBlock j K .normal e h = K .normal e h:=rfl
theorem ζx {β:Type} (j:Nat) (K:Kont β) (i:Nat) (e:Env) (h:Heap):kBlock j K (.exit i) e h = bif i == j then K .normal e h else K (.exit i) e h:=rfl
theorem ζw {β:Type} (j:Nat) (K:Kont β) (e:Env) (h:Heap):kBlock j K .ret e h = K .ret e h:=rfl
theorem ζz (ks:List Nat) (i:Nat) (e:Env) (h:Heap):kRound ks (.exit i) e h = .ok (.exit i,e) h:=rfl
theorem ζy (ks:List Nat) (e:Env) (h:Heap):kRound ks .ret e h = .ok (.ret,e) h:=rfl
theorem ζob {β:Type} (k:Nat) (call:Caller) (e:Env) (h:Heap) (K:Kont β):pieceK (C k) call F.ζ1 [] e h K = pieceK (C k) call F.ζ1 [0] e h (kSeq (pieceK (C k) call F.ζ1 [1]) K):=by kernel_rfl
theorem ζoc {β:Type} (k:Nat) (call:Caller) (a0 a1 a2:Value) (h:Heap) (K:Kont β):pieceK (C k) call F.ζ1 [0] [(0,a0),(1,a1),(2,a2)] h K =
 (  (boxR a2 h).bind fun v1 h2 =>
 K .normal [(0,a0),(1,a1),(5,v1)] h2):=by kernel_rfl
theorem ζod {β:Type} (k:Nat) (call:Caller) (e:Env) (h:Heap) (K:Kont β):pieceK (C k) call F.ζ1 [1] e h K = pieceK (C k) call F.ζ1 [1,0] e h (kSeq (pieceK (C k) call F.ζ1 [1,1]) K):=by kernel_rfl
theorem ζoe {β:Type} (k:Nat) (call:Caller) (a0 a1 v1:Value) (h2:Heap) (K:Kont β):pieceK (C k) call F.ζ1 [1,0] [(0,a0),(1,a1),(5,v1)] h2 K =
 (  (loadR Prog 130 v1 h2).bind fun v3 h4 =>
 (call F.ζ28 [v3] h4).bind fun v5 h6 =>
 (extractR v5 0 h6).bind fun v7 h8 =>
 (extractR v5 1 h8).bind fun v9 h10 =>
 K .normal [(0,a0),(1,a1),(5,v1),(8,v7),(9,v9)] h10):=by kernel_rfl
theorem ζof {β:Type} (k:Nat) (call:Caller) (e:Env) (h:Heap) (K:Kont β):pieceK (C k) call F.ζ1 [1,1] e h K = pieceK (C k) call F.ζ1 [1,1,0] e h (kSeq (pieceK (C k) call F.ζ1 [1,1,1]) K):=by kernel_rfl
theorem ζog {β:Type} (k:Nat) (call:Caller) (e:Env) (h:Heap) (K:Kont β):pieceK (C k) call F.ζ1 [1,1,0] e h K = pieceK (C k) call F.ζ1 [1,1,0,0] e h (kSeq (pieceK (C k) call F.ζ1 [1,1,0,1]) K):=by kernel_rfl
theorem ζoh {β:Type} (k:Nat) (call:Caller) (a0 a1 v1 v7 v9:Value) (h10:Heap) (K:Kont β):pieceK (C k) call F.ζ1 [1,1,0,0] [(0,a0),(1,a1),(5,v1),(8,v7),(9,v9)] h10 K =
 (  (nilR a0 h10).bind fun v11 h12 =>
 (fieldAddrR Prog 257 v11 5 h12).bind fun v13 h14 =>
 (loadR Prog 4 v13 h14).bind fun v15 h16 =>
 K .normal [(0,a0),(1,a1),(5,v1),(8,v7),(9,v9),(22,v15)] h16):=by kernel_rfl
theorem ζoi {β:Type} (k:Nat) (call:Caller) (a0 a1 v1 v7 v9 v15:Value) (h16:Heap) (K:Kont β):pieceK (C k) call F.ζ1 [1,1,0,1] [(0,a0),(1,a1),(5,v1),(8,v7),(9,v9),(22,v15)] h16 K =
 (condV (some v15) (pieceK (C k) call F.ζ1 [1,1,0,1,0] [(0,a0),(1,a1),(5,v1),(8,v7),(9,v9),(22,v15)] h16 K) (pieceK (C k) call F.ζ1 [1,1,0,1,1] [(0,a0),(1,a1),(5,v1),(8,v7),(9,v9),(22,v15)] h16 K)):=by kernel_rfl
theorem ζoj {β:Type} (k:Nat) (call:Caller) (e:Env) (h:Heap) (K:Kont β):pieceK (C k) call F.ζ1 [1,1,0,1,0] e h K = pieceK (C k) call F.ζ1 [1,1,0,1,0,0] e h (kSeq (pieceK (C k) call F.ζ1 [1,1,0,1,0,1]) K):=by kernel_rfl
theorem ζkc {β:Type} (k:Nat) (call:Caller) (a0 a1 v1 v7 v9 v15:Value) (h16:Heap) (K:Kont β):pieceK (C k) call F.ζ1 [1,1,0,1,0,0] [(0,a0),(1,a1),(5,v1),(8,v7),(9,v9),(22,v15)] h16 K =
 (    (binR Prog .add 3 a1 (.int .i64 1) h16).bind fun v17 h18 =>
 K .normal [(6,a1),(7,v17)] h18):=by kernel_rfl
theorem ζkd {β:Type} (k:Nat) (call:Caller) (e:Env) (h:Heap) (K:Kont β):pieceK (C k) call F.ζ1 [1,1,0,1,0,1] e h K = K .ret e h:=by kernel_rfl
theorem ζke (a1 v17:Value) (h18:Heap):kDone Prog (resOf Prog F.ζ1) .ret [(6,a1),(7,v17)] h18 =
 (    .ok (.tuple #[a1,v17]) h18):=by kernel_rfl
theorem ζkf {β:Type} (k:Nat) (call:Caller) (e:Env) (h:Heap) (K:Kont β):pieceK (C k) call F.ζ1 [1,1,0,1,1] e h K = K .normal e h:=by kernel_rfl
theorem ζkg {β:Type} (k:Nat) (call:Caller) (e:Env) (h:Heap) (K:Kont β):pieceK (C k) call F.ζ1 [1,1,1] e h K = pieceK (C k) call F.ζ1 [1,1,1,0] e h (kSeq (pieceK (C k) call F.ζ1 [1,1,1,1]) K):=by kernel_rfl
theorem ζkh {β:Type} (k:Nat) (call:Caller) (e:Env) (h:Heap) (K:Kont β):pieceK (C k) call F.ζ1 [1,1,1,0] e h K = pieceK (C k) call F.ζ1 [1,1,1,0,0] e h (kSeq (pieceK (C k) call F.ζ1 [1,1,1,0,1]) K):=by kernel_rfl
theorem ζki {β:Type} (k:Nat) (call:Caller) (a0 a1 v1 v7 v9 v15:Value) (h16:Heap) (K:Kont β):pieceK (C k) call F.ζ1 [1,1,1,0,0] [(0,a0),(1,a1),(5,v1),(8,v7),(9,v9),(22,v15)] h16 K =
 (    (binR Prog .gtr 3 v9 (.int .i64 0) h16).bind fun v19 h20 =>
 ((bif wantVal v19 true then Res.ok a0 h20 else Res.ok undef h20)).bind fun v21 h22 =>
 ((bif wantVal v19 true then nilR v21 h22 else Res.ok undef h22)).bind fun v23 h24 =>
 ((bif wantVal v19 true then fieldAddrR Prog 257 v23 2 h24 else Res.ok undef h24)).bind fun v25 h26 =>
 ((bif wantVal v19 true then loadR Prog 3 v25 h26 else Res.ok undef h26)).bind fun v27 h28 =>
 ((bif wantVal v19 true then binR Prog .geq 3 v27 (.int .i64 0) h28 else Res.ok undef h28)).bind fun v29 h30 =>
 (condV (some v19) (Res.ok v29 h30) (Res.ok (.bool false) h30)).bind fun v31 h32 =>
 K .normal [(0,a0),(1,a1),(5,v1),(8,v7),(9,v9),(34,v31)] h32):=by kernel_rfl
theorem ζkj {β:Type} (k:Nat) (call:Caller) (a0 a1 v1 v7 v9 v31:Value) (h32:Heap) (K:Kont β):pieceK (C k) call F.ζ1 [1,1,1,0,1] [(0,a0),(1,a1),(5,v1),(8,v7),(9,v9),(34,v31)] h32 K =
 (condV (some v31) (pieceK (C k) call F.ζ1 [1,1,1,0,1,0] [(0,a0),(1,a1),(5,v1),(8,v7),(9,v9),(34,v31)] h32 K) (pieceK (C k) call F.ζ1 [1,1,1,0,1,1] [(0,a0),(1,a1),(5,v1),(8,v7),(9,v9),(34,v31)] h32 K)):=by kernel_rfl
theorem ζkk {β:Type} (k:Nat) (call:Caller) (e:Env) (h:Heap) (K:Kont β):pieceK (C k) call F.ζ1 [1,1,1,0,1,0] e h K = pieceK (C k) call F.ζ1 [1,1,1,0,1,0,0] e h (kSeq (pieceK (C k) call F.ζ1 [1,1,1,0,1,0,1]) K):=by kernel_rfl
theorem ζkl {β:Type} (k:Nat) (call:Caller) (a0 a1 v1 v7 v9 v31:Value) (h32:Heap) (K:Kont β):pieceK (C k) call F.ζ1 [1,1,1,0,1,0,0] [(0,a0),(1,a1),(5,v1),(8,v7),(9,v9),(34,v31)] h32 K =
 (      (nilR a0 h32).bind fun v33 h34 =>
 (fieldAddrR Prog 257 v33 2 h34).bind fun v35 h36 =>
 (loadR Prog 3 v35 h36).bind fun v37 h38 =>
 (binR Prog .add 3 v37 (.int .i64 1) h38).bind fun v39 h40 =>
 K .normal [(0,a0),(1,a1),(5,v1),(8,v7),(9,v9),(10,v39)] h40):=by kernel_rfl
theorem ζkm {β:Type} (k:Nat) (call:Caller) (e:Env) (h:Heap) (K:Kont β):pieceK (C k) call F.ζ1 [1,1,1,0,1,0,1] e h K = pieceK (C k) call F.ζ1 [1,1,1,0,1,0,1,0] e h (kSeq (pieceK (C k) call F.ζ1 [1,1,1,0,1,0,1,1]) K):=by kernel_rfl
theorem ζkn {β:Type} (k:Nat) (call:Caller) (e:Env) (h:Heap) (K:Kont β):pieceK (C k) call F.ζ1 [1,1,1,0,1,0,1,0] e h K = pieceK (C k) call F.ζ1 [1,1,1,0,1,0,1,0,0] e h (kSeq (pieceK (C k) call F.ζ1 [1,1,1,0,1,0,1,0,1]) K):=by kernel_rfl
theorem ζko {β:Type} (k:Nat) (call:Caller) (a0 a1 v1 v7 v9 v39:Value) (h40:Heap) (K:Kont β):pieceK (C k) call F.ζ1 [1,1,1,0,1,0,1,0,0] [(0,a0),(1,a1),(5,v1),(8,v7),(9,v9),(10,v39)] h40 K =
 (      (fieldAddrR Prog 130 v1 1 h40).bind fun v41 h42 =>
 (loadR Prog 3 v41 h42).bind fun v43 h44 =>
 (binR Prog .and 3 v43 (.int .i64 1024) h44).bind fun v45 h46 =>
 (binR Prog .neq 3 v45 (.int .i64 0) h46).bind fun v47 h48 =>
 K .normal [(0,a0),(1,a1),(5,v1),(8,v7),(9,v9),(10,v39),(43,v47)] h48):=by kernel_rfl
theorem ζkp {β:Type} (k:Nat) (call:Caller) (a0 a1 v1 v7 v9 v39 v47:Value) (h48:Heap) (K:Kont β):pieceK (C k) call F.ζ1 [1,1,1,0,1,0,1,0,1] [(0,a0),(1,a1),(5,v1),(8,v7),(9,v9),(10,v39),(43,v47)] h48 K =
 (condV (some v47) (pieceK (C k) call F.ζ1 [1,1,1,0,1,0,1,0,1,0] [(0,a0),(1,a1),(5,v1),(8,v7),(9,v9),(10,v39),(43,v47)] h48 K) (pieceK (C k) call F.ζ1 [1,1,1,0,1,0,1,0,1,1] [(0,a0),(1,a1),(5,v1),(8,v7),(9,v9),(10,v39),(43,v47)] h48 K)):=by kernel_rfl
theorem ζkq {β:Type} (k:Nat) (call:Caller) (a0 a1 v1 v7 v9 v39 v47:Value) (h48:Heap) (K:Kont β):pieceK (C k) call F.ζ1 [1,1,1,0,1,0,1,0,1,0] [(0,a0),(1,a1),(5,v1),(8,v7),(9,v9),(10,v39),(43,v47)] h48 K =
 (        (nilR a0 h48).bind fun v49 h50 =>
 (fieldAddrR Prog 257 v49 2 h50).bind fun v51 h52 =>
 (loadR Prog 3 v51 h52).bind fun v53 h54 =>
 K .normal [(0,a0),(1,a1),(5,v1),(8,v7),(9,v9),(10,v53)] h54):=by kernel_rfl
theorem ζkr {β:Type} (k:Nat) (call:Caller) (e:Env) (h:Heap) (K:Kont β):pieceK (C k) call F.ζ1 [1,1,1,0,1,0,1,0,1,1] e h K = K .normal e h:=by kernel_rfl
theorem ζks {β:Type} (k:Nat) (call:Caller) (e:Env) (h:Heap) (K:Kont β):pieceK (C k) call F.ζ1 [1,1,1,0,1,1] e h K = K .normal e h:=by kernel_rfl
theorem ζkt {β:Type} (k:Nat) (call:Caller) (e:Env) (h:Heap) (K:Kont β):pieceK (C k) call F.ζ1 [1,1,1,0,1,0,1,1] e h K = pieceK (C k) call F.ζ1 [1,1,1,0,1,0,1,1,0] e h (kSeq (pieceK (C k) call F.ζ1 [1,1,1,0,1,0,1,1,1]) K):=by kernel_rfl
theorem ζku {β:Type} (k:Nat) (call:Caller) (e:Env) (h:Heap) (K:Kont β):pieceK (C k) call F.ζ1 [1,1,1,0,1,0,1,1,0] e h K = pieceK (C k) call F.ζ1 [1,1,1,0,1,0,1,1,0,0] e h (kSeq (pieceK (C k) call F.ζ1 [1,1,1,0,1,0,1,1,0,1]) K):=by kernel_rfl
theorem ζkv {β:Type} (k:Nat) (call:Caller) (a0 a1 a5 a8 a9 a10:Value) (h:Heap) (K:Kont β):pieceK (C k) call F.ζ1 [1,1,1,0,1,0,1,1,0,0] [(0,a0),(1,a1),(5,a5),(8,a8),(9,a9),(10,a10)] h K =
 (  (fieldAddrR Prog 130 a5 3 h).bind fun v55 h56 =>
 (loadR Prog 3 v55 h56).bind fun v57 h58 =>
 (call F.ζ2o [a0,a10,v57,a9] h58).bind fun v59 h60 =>
 (unR .not v59 h60).bind fun v61 h62 =>
 K .normal [(0,a0),(1,a1),(5,a5),(8,a8),(9,a9),(10,a10),(54,v61)] h62):=by kernel_rfl
theorem ζkw {β:Type} (k:Nat) (call:Caller) (a0 a1 a5 a8 a9 a10 v61:Value) (h62:Heap) (K:Kont β):pieceK (C k) call F.ζ1 [1,1,1,0,1,0,1,1,0,1] [(0,a0),(1,a1),(5,a5),(8,a8),(9,a9),(10,a10),(54,v61)] h62 K =
 (condV (some v61) (pieceK (C k) call F.ζ1 [1,1,1,0,1,0,1,1,0,1,0] [(0,a0),(1,a1),(5,a5),(8,a8),(9,a9),(10,a10),(54,v61)] h62 K) (pieceK (C k) call F.ζ1 [1,1,1,0,1,0,1,1,0,1,1] [(0,a0),(1,a1),(5,a5),(8,a8),(9,a9),(10,a10),(54,v61)] h62 K)):=by kernel_rfl
theorem ζkx {β:Type} (k:Nat) (call:Caller) (e:Env) (h:Heap) (K:Kont β):pieceK (C k) call F.ζ1 [1,1,1,0,1,0,1,1,0,1,0] e h K = pieceK (C k) call F.ζ1 [1,1,1,0,1,0,1,1,0,1,0,0] e h (kSeq (pieceK (C k) call F.ζ1 [1,1,1,0,1,0,1,1,0,1,0,1]) K):=by kernel_rfl
theorem ζky {β:Type} (k:Nat) (call:Caller) (a0 a1 a5 a8 a9 a10 v61:Value) (h62:Heap) (K:Kont β):pieceK (C k) call F.ζ1 [1,1,1,0,1,0,1,1,0,1,0,0] [(0,a0),(1,a1),(5,a5),(8,a8),(9,a9),(10,a10),(54,v61)] h62 K =
 (    (binR Prog .add 3 a1 (.int .i64 1) h62).bind fun v63 h64 =>
 K .normal [(6,a1),(7,v63)] h64):=by kernel_rfl
theorem ζkz {β:Type} (k:Nat) (call:Caller) (e:Env) (h:Heap) (K:Kont β):pieceK (C k) call F.ζ1 [1,1,1,0,1,0,1,1,0,1,0,1] e h K = K .ret e h:=by kernel_rfl
theorem ζl0 (a1 v63:Value) (h64:Heap):kDone Prog (resOf Prog F.ζ1) .ret [(6,a1),(7,v63)] h64 =
 (    .ok (.tuple #[a1,v63]) h64):=by kernel_rfl
theorem ζl1 {β:Type} (k:Nat) (call:Caller) (e:Env) (h:Heap) (K:Kont β):pieceK (C k) call F.ζ1 [1,1,1,0,1,0,1,1,0,1,1] e h K = K .normal e h:=by kernel_rfl
theorem ζl2 {β:Type} (k:Nat) (call:Caller) (e:Env) (h:Heap) (K:Kont β):pieceK (C k) call F.ζ1 [1,1,1,0,1,0,1,1,1] e h K = pieceK (C k) call F.ζ1 [1,1,1,0,1,0,1,1,1,0] e h (kSeq (pieceK (C k) call F.ζ1 [1,1,1,0,1,0,1,1,1,1]) K):=by kernel_rfl
theorem ζl3 {β:Type} (k:Nat) (call:Caller) (e:Env) (h:Heap) (K:Kont β):pieceK (C k) call F.ζ1 [1,1,1,0,1,0,1,1,1,0] e h K = pieceK (C k) call F.ζ1 [1,1,1,0,1,0,1,1,1,0,0] e h (kSeq (pieceK (C k) call F.ζ1 [1,1,1,0,1,0,1,1,1,0,1]) K):=by kernel_rfl
theorem ζl4 {β:Type} (k:Nat) (call:Caller) (a0 a1 a5 a8 a9 a10 v61:Value) (h62:Heap) (K:Kont β):pieceK (C k) call F.ζ1 [1,1,1,0,1,0,1,1,1,0,0] [(0,a0),(1,a1),(5,a5),(8,a8),(9,a9),(10,a10),(54,v61)] h62 K =
 (    (nilR a0 h62).bind fun v65 h66 =>
 (fieldAddrR Prog 257 v65 2 h66).bind fun v67 h68 =>
 (loadR Prog 3 v67 h68).bind fun v69 h70 =>
 (binR Prog .leq 3 a10 v69 h70).bind fun v71 h72 =>
 K .normal [(0,a0),(1,a1),(5,a5),(8,a8),(9,a9),(10,a10),(63,v71)] h72):=by kernel_rfl
theorem ζl5 {β:Type} (k:Nat) (call:Caller) (a0 a1 a5 a8 a9 a10 v71:Value) (h72:Heap) (K:Kont β):pieceK (C k) call F.ζ1 [1,1,1,0,1,0,1,1,1,0,1] [(0,a0),(1,a1),(5,a5),(8,a8),(9,a9),(10,a10),(63,v71)] h72 K =
 (condV (some v71) (pieceK (C k) call F.ζ1 [1,1,1,0,1,0,1,1,1,0,1,0] [(0,a0),(1,a1),(5,a5),(8,a8),(9,a9),(10,a10),(63,v71)] h72 K) (pieceK (C k) call F.ζ1 [1,1,1,0,1,0,1,1,1,0,1,1] [(0,a0),(1,a1),(5,a5),(8,a8),(9,a9),(10,a10),(63,v71)] h72 K)):=by kernel_rfl
theorem ζl6 {β:Type} (k:Nat) (call:Caller) (a0 a1 a5 a8 a9 a10 v71:Value) (h72:Heap) (K:Kont β):pieceK (C k) call F.ζ1 [1,1,1,0,1,0,1,1,1,0,1,0] [(0,a0),(1,a1),(5,a5),(8,a8),(9,a9),(10,a10),(63,v71)] h72 K =
 (      (nilR a0 h72).bind fun v73 h74 =>
 (fieldAddrR Prog 257 v73 2 h74).bind fun v75 h76 =>
 (loadR Prog 3 v75 h76).bind fun v77 h78 =>
 (binR Prog .add 3 v77 a9 h78).bind fun v79 h80 =>
 (nilR a0 h80).bind fun v81 h82 =>
 (fieldAddrR Prog 257 v81 2 h82).bind fun v83 h84 =>
 (storeR Prog 3 v83 v79 h84).bind fun _v85 h86 =>
 K .normal [(0,a0),(1,a1),(5,a5),(8,a8),(9,a9),(10,a10)] h86):=by kernel_rfl
theorem ζl7 {β:Type} (k:Nat) (call:Caller) (e:Env) (h:Heap) (K:Kont β):pieceK (C k) call F.ζ1 [1,1,1,0,1,0,1,1,1,0,1,1] e h K = K .normal e h:=by kernel_rfl
theorem ζl8 {β:Type} (k:Nat) (call:Caller) (e:Env) (h:Heap) (K:Kont β):pieceK (C k) call F.ζ1 [1,1,1,0,1,0,1,1] e h K = pieceK (C k) call F.ζ1 [1,1,1,0,1,0,1,1,0] e h (kSeq (pieceK (C k) call F.ζ1 [1,1,1,0,1,0,1,1,1]) K):=by kernel_rfl
theorem ζl9 {β:Type} (k:Nat) (call:Caller) (e:Env) (h:Heap) (K:Kont β):pieceK (C k) call F.ζ1 [1,1,1,0,1,0,1,1,0] e h K = pieceK (C k) call F.ζ1 [1,1,1,0,1,0,1,1,0,0] e h (kSeq (pieceK (C k) call F.ζ1 [1,1,1,0,1,0,1,1,0,1]) K):=by kernel_rfl
theorem ζla {β:Type} (k:Nat) (call:Caller) (a0 a1 a5 a8 a9 a10 a43:Value) (h:Heap) (K:Kont β):pieceK (C k) call F.ζ1 [1,1,1,0,1,0,1,1,0,0] [(0,a0),(1,a1),(5,a5),(8,a8),(9,a9),(10,a10),(43,a43)] h K =
 (  (fieldAddrR Prog 130 a5 3 h).bind fun v87 h88 =>
 (loadR Prog 3 v87 h88).bind fun v89 h90 =>
 (call F.ζ2o [a0,a10,v89,a9] h90).bind fun v91 h92 =>
 (unR .not v91 h92).bind fun v93 h94 =>
 K .normal [(0,a0),(1,a1),(5,a5),(8,a8),(9,a9),(10,a10),(54,v93)] h94):=by kernel_rfl
theorem ζlb {β:Type} (k:Nat) (call:Caller) (a0 a1 a5 a8 a9 a10 v93:Value) (h94:Heap) (K:Kont β):pieceK (C k) call F.ζ1 [1,1,1,0,1,0,1,1,0,1] [(0,a0),(1,a1),(5,a5),(8,a8),(9,a9),(10,a10),(54,v93)] h94 K =
 (condV (some v93) (pieceK (C k) call F.ζ1 [1,1,1,0,1,0,1,1,0,1,0] [(0,a0),(1,a1),(5,a5),(8,a8),(9,a9),(10,a10),(54,v93)] h94 K) (pieceK (C k) call F.ζ1 [1,1,1,0,1,0,1,1,0,1,1] [(0,a0),(1,a1),(5,a5),(8,a8),(9,a9),(10,a10),(54,v93)] h94 K)):=by kernel_rfl
theorem ζlc {β:Type} (k:Nat) (call:Caller) (e:Env) (h:Heap) (K:Kont β):pieceK (C k) call F.ζ1 [1,1,1,0,1,0,1,1,0,1,0] e h K = pieceK (C k) call F.ζ1 [1,1,1,0,1,0,1,1,0,1,0,0] e h (kSeq (pieceK (C k) call F.ζ1 [1,1,1,0,1,0,1,1,0,1,0,1]) K):=by kernel_rfl
theorem ζld {β:Type} (k:Nat) (call:Caller) (a0 a1 a5 a8 a9 a10 v93:Value) (h94:Heap) (K:Kont β):pieceK (C k) call F.ζ1 [1,1,1,0,1,0,1,1,0,1,0,0] [(0,a0),(1,a1),(5,a5),(8,a8),(9,a9),(10,a10),(54,v93)] h94 K =
 (    (binR Prog .add 3 a1 (.int .i64 1) h94).bind fun v95 h96 =>
 K .normal [(6,a1),(7,v95)] h96):=by kernel_rfl
theorem ζle {β:Type} (k:Nat) (call:Caller) (e:Env) (h:Heap) (K:Kont β):pieceK (C k) call F.ζ1 [1,1,1,0,1,0,1,1,0,1,0,1] e h K = K .ret e h:=by kernel_rfl
theorem ζlf (a1 v95:Value) (h96:Heap):kDone Prog (resOf Prog F.ζ1) .ret [(6,a1),(7,v95)] h96 =
 (    .ok (.tuple #[a1,v95]) h96):=by kernel_rfl
theorem ζlg {β:Type} (k:Nat) (call:Caller) (e:Env) (h:Heap) (K:Kont β):pieceK (C k) call F.ζ1 [1,1,1,0,1,0,1,1,0,1,1] e h K = K .normal e h:=by kernel_rfl
theorem ζlh {β:Type} (k:Nat) (call:Caller) (e:Env) (h:Heap) (K:Kont β):pieceK (C k) call F.ζ1 [1,1,1,0,1,0,1,1,1] e h K = pieceK (C k) call F.ζ1 [1,1,1,0,1,0,1,1,1,0] e h (kSeq (pieceK (C k) call F.ζ1 [1,1,1,0,1,0,1,1,1,1]) K):=by kernel_rfl
theorem ζli {β:Type} (k:Nat) (call:Caller) (e:Env) (h:Heap) (K:Kont β):pieceK (C k) call F.ζ1 [1,1,1,0,1,0,1,1,1,0] e h K = pieceK (C k) call F.ζ1 [1,1,1,0,1,0,1,1,1,0,0] e h (kSeq (pieceK (C k) call F.ζ1 [1,1,1,0,1,0,1,1,1,0,1]) K):=by kernel_rfl
theorem ζlj {β:Type} (k:Nat) (call:Caller) (a0 a1 a5 a8 a9 a10 v93:Value) (h94:Heap) (K:Kont β):pieceK (C k) call F.ζ1 [1,1,1,0,1,0,1,1,1,0,0] [(0,a0),(1,a1),(5,a5),(8,a8),(9,a9),(10,a10),(54,v93)] h94 K =
 (    (nilR a0 h94).bind fun v97 h98 =>
 (fieldAddrR Prog 257 v97 2 h98).bind fun v99 h100 =>
 (loadR Prog 3 v99 h100).bind fun v101 h102 =>
 (binR Prog .leq 3 a10 v101 h102).bind fun v103 h104 =>
 K .normal [(0,a0),(1,a1),(5,a5),(8,a8),(9,a9),(10,a10),(63,v103)] h104):=by kernel_rfl
theorem ζlk {β:Type} (k:Nat) (call:Caller) (a0 a1 a5 a8 a9 a10 v103:Value) (h104:Heap) (K:Kont β):pieceK (C k) call F.ζ1 [1,1,1,0,1,0,1,1,1,0,1] [(0,a0),(1,a1),(5,a5),(8,a8),(9,a9),(10,a10),(63,v103)] h104 K =
 (condV (some v103) (pieceK (C k) call F.ζ1 [1,1,1,0,1,0,1,1,1,0,1,0] [(0,a0),(1,a1),(5,a5),(8,a8),(9,a9),(10,a10),(63,v103)] h104 K) (pieceK (C k) call F.ζ1 [1,1,1,0,1,0,1,1,1,0,1,1] [(0,a0),(1,a1),(5,a5),(8,a8),(9,a9),(10,a10),(63,v103)] h104 K)):=by kernel_rfl
theorem ζll {β:Type} (k:Nat) (call:Caller) (a0 a1 a5 a8 a9 a10 v103:Value) (h104:Heap) (K:Kont β):pieceK (C k) call F.ζ1 [1,1,1,0,1,0,1,1,1,0,1,0] [(0,a0),(1,a1),(5,a5),(8,a8),(9,a9),(10,a10),(63,v103)] h104 K =
 (      (nilR a0 h104).bind fun v105 h106 =>
 (fieldAddrR Prog 257 v105 2 h106).bind fun v107 h108 =>
 (loadR Prog 3 v107 h108).bind fun v109 h110 =>
 (binR Prog .add 3 v109 a9 h110).bind fun v111 h112 =>
 (nilR a0 h112).bind fun v113 h114 =>
 (fieldAddrR Prog 257 v113 2 h114).bind fun v115 h116 =>
 (storeR Prog 3 v115 v111 h116).bind fun _v117 h118 =>
 K .normal [(0,a0),(1,a1),(5,a5),(8,a8),(9,a9),(10,a10)] h118):=by kernel_rfl
theorem ζlm {β:Type} (k:Nat) (call:Caller) (e:Env) (h:Heap) (K:Kont β):pieceK (C k) call F.ζ1 [1,1,1,0,1,0,1,1,1,0,1,1] e h K = K .normal e h:=by kernel_rfl
theorem ζln {β:Type} (k:Nat) (call:Caller) (e:Env) (h:Heap) (K:Kont β):pieceK (C k) call F.ζ1 [1,1,1,1] e h K = pieceK (C k) call F.ζ1 [1,1,1,1,0] e h (kSeq (pieceK (C k) call F.ζ1 [1,1,1,1,1]) K):=by kernel_rfl
theorem ζlo {β:Type} (k:Nat) (call:Caller) (a0 a1 a5 a8 a9 a34:Value) (h:Heap) (K:Kont β):pieceK (C k) call F.ζ1 [1,1,1,1,0] [(0,a0),(1,a1),(5,a5),(8,a8),(9,a9),(34,a34)] h K =
 (  (nilR a0 h).bind fun v119 h120 =>
 (fieldAddrR Prog 257 v119 1 h120).bind fun v121 h122 =>
 (loadR Prog 25 v121 h122).bind fun v123 h124 =>
 (call F.ζd [v123] h124).bind fun v125 h126 =>
 (binR Prog .geq 3 a1 v125 h126).bind fun v127 h128 =>
 K .normal [(0,a0),(1,a1),(5,a5),(8,a8),(11,v127),(12,a1)] h128):=by kernel_rfl
theorem ζlp {β:Type} (k:Nat) (call:Caller) (e:Env) (h:Heap) (K:Kont β):pieceK (C k) call F.ζ1 [1,1,1,1,1] e h K = pieceK (C k) call F.ζ1 [1,1,1,1,1,0] e h (kSeq (pieceK (C k) call F.ζ1 [1,1,1,1,1,1]) K):=by kernel_rfl
theorem ζlq {β:Type} (k:Nat) (call:Caller) (e:Env) (h:Heap) (K:Kont β):pieceK (C k) call F.ζ1 [1,1,1,1,1,0] e h K = pieceK (C k) call F.ζ1 [1,1,1,1,1,0,0] e h (kSeq (pieceK (C k) call F.ζ1 [1,1,1,1,1,0,1]) K):=by kernel_rfl
theorem ζlr {β:Type} (k:Nat) (call:Caller) (a0 a1 a5 a8 v127:Value) (h128:Heap) (K:Kont β):pieceK (C k) call F.ζ1 [1,1,1,1,1,0,0] [(0,a0),(1,a1),(5,a5),(8,a8),(11,v127),(12,a1)] h128 K =
 (  (binR Prog .gtr 3 a8 (.int .i64 0) h128).bind fun v129 h130 =>
 K .normal [(0,a0),(1,a1),(5,a5),(8,a8),(11,v127),(12,a1),(87,v129)] h130):=by kernel_rfl
theorem ζls {β:Type} (k:Nat) (call:Caller) (a0 a1 a5 a8 v127 v129:Value) (h130:Heap) (K:Kont β):pieceK (C k) call F.ζ1 [1,1,1,1,1,0,1] [(0,a0),(1,a1),(5,a5),(8,a8),(11,v127),(12,a1),(87,v129)] h130 K =
 (condV (some v129) (pieceK (C k) call F.ζ1 [1,1,1,1,1,0,1,0] [(0,a0),(1,a1),(5,a5),(8,a8),(11,v127),(12,a1),(87,v129)] h130 K) (pieceK (C k) call F.ζ1 [1,1,1,1,1,0,1,1] [(0,a0),(1,a1),(5,a5),(8,a8),(11,v127),(12,a1),(87,v129)] h130 K)):=by kernel_rfl
theorem ζlt {β:Type} (k:Nat) (call:Caller) (e:Env) (h:Heap) (K:Kont β):pieceK (C k) call F.ζ1 [1,1,1,1,1,0,1,0] e h K = pieceK (C k) call F.ζ1 [1,1,1,1,1,0,1,0,0] e h (kSeq (pieceK (C k) call F.ζ1 [1,1,1,1,1,0,1,0,1]) K):=by kernel_rfl
theorem ζlu {β:Type} (k:Nat) (call:Caller) (a0 a1 a5 a8 v127 v129:Value) (h130:Heap) (K:Kont β):pieceK (C k) call F.ζ1 [1,1,1,1,1,0,1,0,0] [(0,a0),(1,a1),(5,a5),(8,a8),(11,v127),(12,a1),(87,v129)] h130 K =
 (    (binR Prog .add 3 a1 (.int .i64 1) h130).bind fun v131 h132 =>
 (nilR a0 h132).bind fun v133 h134 =>
 (fieldAddrR Prog 257 v133 1 h134).bind fun v135 h136 =>
 (loadR Prog 25 v135 h136).bind fun v137 h138 =>
 (call F.ζd [v137] h138).bind fun v139 h140 =>
 (builtinV Prog .min [3,3] [v131,v139] h140).bind fun v141 h142 =>
 K .normal [(0,a0),(1,a1),(5,a5),(8,a8),(11,v127),(12,a1),(13,v141)] h142):=by kernel_rfl
theorem ζlv {β:Type} (k:Nat) (call:Caller) (e:Env) (h:Heap) (K:Kont β):pieceK (C k) call F.ζ1 [1,1,1,1,1,0,1,0,1] e h K = pieceK (C k) call F.ζ1 [1,1,1,1,1,0,1,0,1,0] e h (kSeq (pieceK (C k) call F.ζ1 [1,1,1,1,1,0,1,0,1,1]) K):=by kernel_rfl
theorem ζlw {β:Type} (k:Nat) (call:Caller) (e:Env) (h:Heap) (K:Kont β):pieceK (C k) call F.ζ1 [1,1,1,1,1,0,1,0,1,0] e h K = pieceK (C k) call F.ζ1 [1,1,1,1,1,0,1,0,1,0,0] e h (kSeq (pieceK (C k) call F.ζ1 [1,1,1,1,1,0,1,0,1,0,1]) K):=by kernel_rfl
theorem ζlx {β:Type} (k:Nat) (call:Caller) (a0 a1 a5 a8 v127 v141:Value) (h142:Heap) (K:Kont β):pieceK (C k) call F.ζ1 [1,1,1,1,1,0,1,0,1,0,0] [(0,a0),(1,a1),(5,a5),(8,a8),(11,v127),(12,a1),(13,v141)] h142 K =
 (    (fieldAddrR Prog 130 a5 1 h142).bind fun v143 h144 =>
 (loadR Prog 3 v143 h144).bind fun v145 h146 =>
 (binR Prog .and 3 v145 (.int .i64 2048) h146).bind fun v147 h148 =>
 (binR Prog .neq 3 v147 (.int .i64 0) h148).bind fun v149 h150 =>
 K .normal [(0,a0),(1,a1),(5,a5),(8,a8),(11,v127),(12,a1),(13,v141),(99,v149)] h150):=by kernel_rfl
theorem ζly {β:Type} (k:Nat) (call:Caller) (a0 a1 a5 a8 v127 v141 v149:Value) (h150:Heap) (K:Kont β):pieceK (C k) call F.ζ1 [1,1,1,1,1,0,1,0,1,0,1] [(0,a0),(1,a1),(5,a5),(8,a8),(11,v127),(12,a1),(13,v141),(99,v149)] h150 K =
 (condV (some v149) (pieceK (C k) call F.ζ1 [1,1,1,1,1,0,1,0,1,0,1,0] [(0,a0),(1,a1),(5,a5),(8,a8),(11,v127),(12,a1),(13,v141),(99,v149)] h150 K) (pieceK (C k) call F.ζ1 [1,1,1,1,1,0,1,0,1,0,1,1] [(0,a0),(1,a1),(5,a5),(8,a8),(11,v127),(12,a1),(13,v141),(99,v149)] h150 K)):=by kernel_rfl
theorem ζlz {β:Type} (k:Nat) (call:Caller) (a0 a1 a5 a8 v127 v141 v149:Value) (h150:Heap) (K:Kont β):pieceK (C k) call F.ζ1 [1,1,1,1,1,0,1,0,1,0,1,0] [(0,a0),(1,a1),(5,a5),(8,a8),(11,v127),(12,a1),(13,v141),(99,v149)] h150 K =
 (      (binR Prog .add 3 a1 a8 h150).bind fun v151 h152 =>
 K .normal [(0,a0),(1,a1),(5,a5),(8,a8),(11,v127),(12,v151),(13,a1)] h152):=by kernel_rfl
theorem ζm0 {β:Type} (k:Nat) (call:Caller) (e:Env) (h:Heap) (K:Kont β):pieceK (C k) call F.ζ1 [1,1,1,1,1,0,1,0,1,0,1,1] e h K = K .normal e h:=by kernel_rfl
theorem ζm1 {β:Type} (k:Nat) (call:Caller) (e:Env) (h:Heap) (K:Kont β):pieceK (C k) call F.ζ1 [1,1,1,1,1,0,1,1] e h K = K .normal e h:=by kernel_rfl
theorem ζm2 {β:Type} (k:Nat) (call:Caller) (e:Env) (h:Heap) (K:Kont β):pieceK (C k) call F.ζ1 [1,1,1,0,1,0,1,1,1,1] e h K = pieceK (C k) call F.ζ1 [1,1,1,0,1,0,1,1,1,1,0] e h (kSeq (pieceK (C k) call F.ζ1 [1,1,1,0,1,0,1,1,1,1,1]) K):=by kernel_rfl
theorem ζm3 {β:Type} (k:Nat) (call:Caller) (a0 a1 a5 a8 a9 a10:Value) (h:Heap) (K:Kont β):pieceK (C k) call F.ζ1 [1,1,1,0,1,0,1,1,1,1,0] [(0,a0),(1,a1),(5,a5),(8,a8),(9,a9),(10,a10)] h K =
 (  (binR Prog .leq 3 a10 a1 h).bind fun v153 h154 =>
 K .normal [(0,a0),(1,a1),(5,a5),(8,a8),(9,a9),(74,v153)] h154):=by kernel_rfl
theorem ζm4 {β:Type} (k:Nat) (call:Caller) (a0 a1 a5 a8 a9 v153:Value) (h154:Heap) (K:Kont β):pieceK (C k) call F.ζ1 [1,1,1,0,1,0,1,1,1,1,1] [(0,a0),(1,a1),(5,a5),(8,a8),(9,a9),(74,v153)] h154 K =
 (condV (some v153) (pieceK (C k) call F.ζ1 [1,1,1,0,1,0,1,1,1,1,1,0] [(0,a0),(1,a1),(5,a5),(8,a8),(9,a9),(74,v153)] h154 K) (pieceK (C k) call F.ζ1 [1,1,1,0,1,0,1,1,1,1,1,1] [(0,a0),(1,a1),(5,a5),(8,a8),(9,a9),(74,v153)] h154 K)):=by kernel_rfl
theorem ζm5 {β:Type} (k:Nat) (call:Caller) (a0 a1 a5 a8 a9 v153:Value) (h154:Heap) (K:Kont β):pieceK (C k) call F.ζ1 [1,1,1,0,1,0,1,1,1,1,1,0] [(0,a0),(1,a1),(5,a5),(8,a8),(9,a9),(74,v153)] h154 K =
 (    (binR Prog .add 3 a1 a9 h154).bind fun v155 h156 =>
 K .normal [(0,a0),(1,v155),(5,a5),(8,a8)] h156):=by kernel_rfl
theorem ζm6 {β:Type} (k:Nat) (call:Caller) (e:Env) (h:Heap) (K:Kont β):pieceK (C k) call F.ζ1 [1,1,1,0,1,0,1,1,1,1,1,1] e h K = K .normal e h:=by kernel_rfl
theorem ζm7 {β:Type} (k:Nat) (call:Caller) (e:Env) (h:Heap) (K:Kont β):pieceK (C k) call F.ζ1 [1,1,1,0,1,0,1,1,1,1] e h K = pieceK (C k) call F.ζ1 [1,1,1,0,1,0,1,1,1,1,0] e h (kSeq (pieceK (C k) call F.ζ1 [1,1,1,0,1,0,1,1,1,1,1]) K):=by kernel_rfl
theorem ζm8 {β:Type} (k:Nat) (call:Caller) (a0 a1 a5 a8 a9 a10 a63:Value) (h:Heap) (K:Kont β):pieceK (C k) call F.ζ1 [1,1,1,0,1,0,1,1,1,1,0] [(0,a0),(1,a1),(5,a5),(8,a8),(9,a9),(10,a10),(63,a63)] h K =
 (  (binR Prog .leq 3 a10 a1 h).bind fun v157 h158 =>
 K .normal [(0,a0),(1,a1),(5,a5),(8,a8),(9,a9),(74,v157)] h158):=by kernel_rfl
theorem ζm9 {β:Type} (k:Nat) (call:Caller) (a0 a1 a5 a8 a9 v157:Value) (h158:Heap) (K:Kont β):pieceK (C k) call F.ζ1 [1,1,1,0,1,0,1,1,1,1,1] [(0,a0),(1,a1),(5,a5),(8,a8),(9,a9),(74,v157)] h158 K =
 (condV (some v157) (pieceK (C k) call F.ζ1 [1,1,1,0,1,0,1,1,1,1,1,0] [(0,a0),(1,a1),(5,a5),(8,a8),(9,a9),(74,v157)] h158 K) (pieceK (C k) call F.ζ1 [1,1,1,0,1,0,1,1,1,1,1,1] [(0,a0),(1,a1),(5,a5),(8,a8),(9,a9),(74,v157)] h158 K)):=by kernel_rfl
theorem ζma {β:Type} (k:Nat) (call:Caller) (a0 a1 a5 a8 a9 v157:Value) (h158:Heap) (K:Kont β):pieceK (C k) call F.ζ1 [1,1,1,0,1,0,1,1,1,1,1,0] [(0,a0),(1,a1),(5,a5),(8,a8),(9,a9),(74,v157)] h158 K =
 (    (binR Prog .add 3 a1 a9 h158).bind fun v159 h160 =>
 K .normal [(0,a0),(1,v159),(5,a5),(8,a8)] h160):=by kernel_rfl
theorem ζmb {β:Type} (k:Nat) (call:Caller) (e:Env) (h:Heap) (K:Kont β):pieceK (C k) call F.ζ1 [1,1,1,0,1,0,1,1,1,1,1,1] e h K = K .normal e h:=by kernel_rfl
theorem ζmc {β:Type} (k:Nat) (call:Caller) (e:Env) (h:Heap) (K:Kont β):pieceK (C k) call F.ζ1 [1,1,1,1,1,0,1,0,1,1] e h K = pieceK (C k) call F.ζ1 [1,1,1,1,1,0,1,0,1,1,0] e h (kSeq (pieceK (C k) call F.ζ1 [1,1,1,1,1,0,1,0,1,1,1]) K):=by kernel_rfl
theorem ζmd {β:Type} (k:Nat) (call:Caller) (e:Env) (h:Heap) (K:Kont β):pieceK (C k) call F.ζ1 [1,1,1,1,1,0,1,0,1,1,0] e h K = pieceK (C k) call F.ζ1 [1,1,1,1,1,0,1,0,1,1,0,0] e h (kSeq (pieceK (C k) call F.ζ1 [1,1,1,1,1,0,1,0,1,1,0,1]) K):=by kernel_rfl
theorem ζme {β:Type} (k:Nat) (call:Caller) (a0 a1 a5 a8 a11 a12 a13:Value) (h:Heap) (K:Kont β):pieceK (C k) call F.ζ1 [1,1,1,1,1,0,1,0,1,1,0,0] [(0,a0),(1,a1),(5,a5),(8,a8),(11,a11),(12,a12),(13,a13)] h K =
 (  (fieldAddrR Prog 130 a5 2 h).bind fun v161 h162 =>
 (loadR Prog 3 v161 h162).bind fun v163 h164 =>
 (call F.ζ2o [a0,a13,v163,a8] h164).bind fun v165 h166 =>
 (unR .not v165 h166).bind fun v167 h168 =>
 K .normal [(0,a0),(1,a1),(5,a5),(8,a8),(11,a11),(12,a12),(13,a13),(110,v167)] h168):=by kernel_rfl
theorem ζmf {β:Type} (k:Nat) (call:Caller) (a0 a1 a5 a8 a11 a12 a13 v167:Value) (h168:Heap) (K:Kont β):pieceK (C k) call F.ζ1 [1,1,1,1,1,0,1,0,1,1,0,1] [(0,a0),(1,a1),(5,a5),(8,a8),(11,a11),(12,a12),(13,a13),(110,v167)] h168 K =
 (condV (some v167) (pieceK (C k) call F.ζ1 [1,1,1,1,1,0,1,0,1,1,0,1,0] [(0,a0),(1,a1),(5,a5),(8,a8),(11,a11),(12,a12),(13,a13),(110,v167)] h168 K) (pieceK (C k) call F.ζ1 [1,1,1,1,1,0,1,0,1,1,0,1,1] [(0,a0),(1,a1),(5,a5),(8,a8),(11,a11),(12,a12),(13,a13),(110,v167)] h168 K)):=by kernel_rfl
theorem ζmg {β:Type} (k:Nat) (call:Caller) (e:Env) (h:Heap) (K:Kont β):pieceK (C k) call F.ζ1 [1,1,1,1,1,0,1,0,1,1,0,1,0] e h K = pieceK (C k) call F.ζ1 [1,1,1,1,1,0,1,0,1,1,0,1,0,0] e h (kSeq (pieceK (C k) call F.ζ1 [1,1,1,1,1,0,1,0,1,1,0,1,0,1]) K):=by kernel_rfl
theorem ζmh {β:Type} (k:Nat) (call:Caller) (a0 a1 a5 a8 a11 a12 a13 v167:Value) (h168:Heap) (K:Kont β):pieceK (C k) call F.ζ1 [1,1,1,1,1,0,1,0,1,1,0,1,0,0] [(0,a0),(1,a1),(5,a5),(8,a8),(11,a11),(12,a12),(13,a13),(110,v167)] h168 K =
 (    (binR Prog .add 3 a1 (.int .i64 1) h168).bind fun v169 h170 =>
 K .normal [(6,a1),(7,v169)] h170):=by kernel_rfl
theorem ζmi {β:Type} (k:Nat) (call:Caller) (e:Env) (h:Heap) (K:Kont β):pieceK (C k) call F.ζ1 [1,1,1,1,1,0,1,0,1,1,0,1,0,1] e h K = K .ret e h:=by kernel_rfl
theorem ζmj (a1 v169:Value) (h170:Heap):kDone Prog (resOf Prog F.ζ1) .ret [(6,a1),(7,v169)] h170 =
 (    .ok (.tuple #[a1,v169]) h170):=by kernel_rfl
theorem ζmk {β:Type} (k:Nat) (call:Caller) (e:Env) (h:Heap) (K:Kont β):pieceK (C k) call F.ζ1 [1,1,1,1,1,0,1,0,1,1,0,1,1] e h K = K .normal e h:=by kernel_rfl
theorem ζml {β:Type} (k:Nat) (call:Caller) (e:Env) (h:Heap) (K:Kont β):pieceK (C k) call F.ζ1 [1,1,1,1,1,0,1,0,1,1,1] e h K = pieceK (C k) call F.ζ1 [1,1,1,1,1,0,1,0,1,1,1,0] e h (kSeq (pieceK (C k) call F.ζ1 [1,1,1,1,1,0,1,0,1,1,1,1]) K):=by kernel_rfl
theorem ζmm {β:Type} (k:Nat) (call:Caller) (a0 a1 a5 a8 a11 a12 a13 v167:Value) (h168:Heap) (K:Kont β):pieceK (C k) call F.ζ1 [1,1,1,1,1,0,1,0,1,1,1,0] [(0,a0),(1,a1),(5,a5),(8,a8),(11,a11),(12,a12),(13,a13),(110,v167)] h168 K =
 (    (nilR a0 h168).bind fun v171 h172 =>
 (fieldAddrR Prog 257 v171 2 h172).bind fun v173 h174 =>
 (loadR Prog 3 v173 h174).bind fun v175 h176 =>
 (binR Prog .leq 3 a13 v175 h176).bind fun v177 h178 =>
 K .normal [(0,a0),(1,a1),(5,a5),(8,a8),(11,a11),(12,a12),(119,v177)] h178):=by kernel_rfl
theorem ζmn {β:Type} (k:Nat) (call:Caller) (a0 a1 a5 a8 a11 a12 v177:Value) (h178:Heap) (K:Kont β):pieceK (C k) call F.ζ1 [1,1,1,1,1,0,1,0,1,1,1,1] [(0,a0),(1,a1),(5,a5),(8,a8),(11,a11),(12,a12),(119,v177)] h178 K =
 (condV (some v177) (pieceK (C k) call F.ζ1 [1,1,1,1,1,0,1,0,1,1,1,1,0] [(0,a0),(1,a1),(5,a5),(8,a8),(11,a11),(12,a12),(119,v177)] h178 K) (pieceK (C k) call F.ζ1 [1,1,1,1,1,0,1,0,1,1,1,1,1] [(0,a0),(1,a1),(5,a5),(8,a8),(11,a11),(12,a12),(119,v177)] h178 K)):=by kernel_rfl
theorem ζmo {β:Type} (k:Nat) (call:Caller) (a0 a1 a5 a8 a11 a12 v177:Value) (h178:Heap) (K:Kont β):pieceK (C k) call F.ζ1 [1,1,1,1,1,0,1,0,1,1,1,1,0] [(0,a0),(1,a1),(5,a5),(8,a8),(11,a11),(12,a12),(119,v177)] h178 K =
 (      (nilR a0 h178).bind fun v179 h180 =>
 (fieldAddrR Prog 257 v179 2 h180).bind fun v181 h182 =>
 (loadR Prog 3 v181 h182).bind fun v183 h184 =>
 (binR Prog .add 3 v183 a8 h184).bind fun v185 h186 =>
 (nilR a0 h186).bind fun v187 h188 =>
 (fieldAddrR Prog 257 v187 2 h188).bind fun v189 h190 =>
 (storeR Prog 3 v189 v185 h190).bind fun _v191 h192 =>
 K .normal [(0,a0),(1,a1),(5,a5),(8,a8),(11,a11),(12,a12)] h192):=by kernel_rfl
theorem ζmp {β:Type} (k:Nat) (call:Caller) (e:Env) (h:Heap) (K:Kont β):pieceK (C k) call F.ζ1 [1,1,1,1,1,0,1,0,1,1,1,1,1] e h K = K .normal e h:=by kernel_rfl
theorem ζmq {β:Type} (k:Nat) (call:Caller) (e:Env) (h:Heap) (K:Kont β):pieceK (C k) call F.ζ1 [1,1,1,1,1,0,1,0,1,1] e h K = pieceK (C k) call F.ζ1 [1,1,1,1,1,0,1,0,1,1,0] e h (kSeq (pieceK (C k) call F.ζ1 [1,1,1,1,1,0,1,0,1,1,1]) K):=by kernel_rfl
theorem ζmr {β:Type} (k:Nat) (call:Caller) (e:Env) (h:Heap) (K:Kont β):pieceK (C k) call F.ζ1 [1,1,1,1,1,0,1,0,1,1,0] e h K = pieceK (C k) call F.ζ1 [1,1,1,1,1,0,1,0,1,1,0,0] e h (kSeq (pieceK (C k) call F.ζ1 [1,1,1,1,1,0,1,0,1,1,0,1]) K):=by kernel_rfl
theorem ζms {β:Type} (k:Nat) (call:Caller) (a0 a1 a5 a8 a11 a12 a13 a99:Value) (h:Heap) (K:Kont β):pieceK (C k) call F.ζ1 [1,1,1,1,1,0,1,0,1,1,0,0] [(0,a0),(1,a1),(5,a5),(8,a8),(11,a11),(12,a12),(13,a13),(99,a99)] h K =
 (  (fieldAddrR Prog 130 a5 2 h).bind fun v193 h194 =>
 (loadR Prog 3 v193 h194).bind fun v195 h196 =>
 (call F.ζ2o [a0,a13,v195,a8] h196).bind fun v197 h198 =>
 (unR .not v197 h198).bind fun v199 h200 =>
 K .normal [(0,a0),(1,a1),(5,a5),(8,a8),(11,a11),(12,a12),(13,a13),(110,v199)] h200):=by kernel_rfl
theorem ζmt {β:Type} (k:Nat) (call:Caller) (a0 a1 a5 a8 a11 a12 a13 v199:Value) (h200:Heap) (K:Kont β):pieceK (C k) call F.ζ1 [1,1,1,1,1,0,1,0,1,1,0,1] [(0,a0),(1,a1),(5,a5),(8,a8),(11,a11),(12,a12),(13,a13),(110,v199)] h200 K =
 (condV (some v199) (pieceK (C k) call F.ζ1 [1,1,1,1,1,0,1,0,1,1,0,1,0] [(0,a0),(1,a1),(5,a5),(8,a8),(11,a11),(12,a12),(13,a13),(110,v199)] h200 K) (pieceK (C k) call F.ζ1 [1,1,1,1,1,0,1,0,1,1,0,1,1] [(0,a0),(1,a1),(5,a5),(8,a8),(11,a11),(12,a12),(13,a13),(110,v199)] h200 K)):=by kernel_rfl
theorem ζh8 {β:Type} (k:Nat) (call:Caller) (e:Env) (h:Heap) (K:Kont β):pieceK (C k) call F.ζ1 [1,1,1,1,1,0,1,0,1,1,0,1,0] e h K = pieceK (C k) call F.ζ1 [1,1,1,1,1,0,1,0,1,1,0,1,0,0] e h (kSeq (pieceK (C k) call F.ζ1 [1,1,1,1,1,0,1,0,1,1,0,1,0,1]) K):=by kernel_rfl
theorem ζh9 {β:Type} (k:Nat) (call:Caller) (a0 a1 a5 a8 a11 a12 a13 v199:Value) (h200:Heap) (K:Kont β):pieceK (C k) call F.ζ1 [1,1,1,1,1,0,1,0,1,1,0,1,0,0] [(0,a0),(1,a1),(5,a5),(8,a8),(11,a11),(12,a12),(13,a13),(110,v199)] h200 K =
 (    (binR Prog .add 3 a1 (.int .i64 1) h200).bind fun v201 h202 =>
 K .normal [(6,a1),(7,v201)] h202):=by kernel_rfl
theorem ζha {β:Type} (k:Nat) (call:Caller) (e:Env) (h:Heap) (K:Kont β):pieceK (C k) call F.ζ1 [1,1,1,1,1,0,1,0,1,1,0,1,0,1] e h K = K .ret e h:=by kernel_rfl
theorem ζhb (a1 v201:Value) (h202:Heap):kDone Prog (resOf Prog F.ζ1) .ret [(6,a1),(7,v201)] h202 =
 (    .ok (.tuple #[a1,v201]) h202):=by kernel_rfl
theorem ζhc {β:Type} (k:Nat) (call:Caller) (e:Env) (h:Heap) (K:Kont β):pieceK (C k) call F.ζ1 [1,1,1,1,1,0,1,0,1,1,0,1,1] e h K = K .normal e h:=by kernel_rfl
theorem ζhd {β:Type} (k:Nat) (call:Caller) (e:Env) (h:Heap) (K:Kont β):pieceK (C k) call F.ζ1 [1,1,1,1,1,0,1,0,1,1,1] e h K = pieceK (C k) call F.ζ1 [1,1,1,1,1,0,1,0,1,1,1,0] e h (kSeq (pieceK (C k) call F.ζ1 [1,1,1,1,1,0,1,0,1,1,1,1]) K):=by kernel_rfl
theorem ζhe {β:Type} (k:Nat) (call:Caller) (a0 a1 a5 a8 a11 a12 a13 v199:Value) (h200:Heap) (K:Kont β):pieceK (C k) call F.ζ1 [1,1,1,1,1,0,1,0,1,1,1,0] [(0,a0),(1,a1),(5,a5),(8,a8),(11,a11),(12,a12),(13,a13),(110,v199)] h200 K =
 (    (nilR a0 h200).bind fun v203 h204 =>
 (fieldAddrR Prog 257 v203 2 h204).bind fun v205 h206 =>
 (loadR Prog 3 v205 h206).bind fun v207 h208 =>
 (binR Prog .leq 3 a13 v207 h208).bind fun v209 h210 =>
 K .normal [(0,a0),(1,a1),(5,a5),(8,a8),(11,a11),(12,a12),(119,v209)] h210):=by kernel_rfl
theorem ζhf {β:Type} (k:Nat) (call:Caller) (a0 a1 a5 a8 a11 a12 v209:Value) (h210:Heap) (K:Kont β):pieceK (C k) call F.ζ1 [1,1,1,1,1,0,1,0,1,1,1,1] [(0,a0),(1,a1),(5,a5),(8,a8),(11,a11),(12,a12),(119,v209)] h210 K =
 (condV (some v209) (pieceK (C k) call F.ζ1 [1,1,1,1,1,0,1,0,1,1,1,1,0] [(0,a0),(1,a1),(5,a5),(8,a8),(11,a11),(12,a12),(119,v209)] h210 K) (pieceK (C k) call F.ζ1 [1,1,1,1,1,0,1,0,1,1,1,1,1] [(0,a0),(1,a1),(5,a5),(8,a8),(11,a11),(12,a12),(119,v209)] h210 K)):=by kernel_rfl
theorem ζhg {β:Type} (k:Nat) (call:Caller) (a0 a1 a5 a8 a11 a12 v209:Value) (h210:Heap) (K:Kont β):pieceK (C k) call F.ζ1 [1,1,1,1,1,0,1,0,1,1,1,1,0] [(0,a0),(1,a1),(5,a5),(8,a8),(11,a11),(12,a12),(119,v209)] h210 K =
 (      (nilR a0 h210).bind fun v211 h212 =>
 (fieldAddrR Prog 257 v211 2 h212).bind fun v213 h214 =>
 (loadR Prog 3 v213 h214).bind fun v215 h216 =>
 (binR Prog .add 3 v215 a8 h216).bind fun v217 h218 =>
 (nilR a0 h218).bind fun v219 h220 =>
 (fieldAddrR Prog 257 v219 2 h220).bind fun v221 h222 =>
 (storeR Prog 3 v221 v217 h222).bind fun _v223 h224 =>
 K .normal [(0,a0),(1,a1),(5,a5),(8,a8),(11,a11),(12,a12)] h224):=by kernel_rfl
theorem ζhh {β:Type} (k:Nat) (call:Caller) (e:Env) (h:Heap) (K:Kont β):pieceK (C k) call F.ζ1 [1,1,1,1,1,0,1,0,1,1,1,1,1] e h K = K .normal e h:=by kernel_rfl
theorem ζhi {β:Type} (k:Nat) (call:Caller) (e:Env) (h:Heap) (K:Kont β):pieceK (C k) call F.ζ1 [1,1,1,1,1,1] e h K = pieceK (C k) call F.ζ1 [1,1,1,1,1,1,0] e h (kSeq (pieceK (C k) call F.ζ1 [1,1,1,1,1,1,1]) K):=by kernel_rfl
theorem ζhj {β:Type} (k:Nat) (call:Caller) (e:Env) (h:Heap) (K:Kont β):pieceK (C k) call F.ζ1 [1,1,1,1,1,1,0] e h K = pieceK (C k) call F.ζ1 [1,1,1,1,1,1,0,0] e h (kSeq (pieceK (C k) call F.ζ1 [1,1,1,1,1,1,0,1]) K):=by kernel_rfl
theorem ζhk {β:Type} (k:Nat) (call:Caller) (a0 a1 a5 a8 a11 a12 a87:Value) (h:Heap) (K:Kont β):pieceK (C k) call F.ζ1 [1,1,1,1,1,1,0,0] [(0,a0),(1,a1),(5,a5),(8,a8),(11,a11),(12,a12),(87,a87)] h K =
 (  (fieldAddrR Prog 130 a5 1 h).bind fun v225 h226 =>
 (loadR Prog 3 v225 h226).bind fun v227 h228 =>
 (binR Prog .and 3 v227 (.int .i64 32768) h228).bind fun v229 h230 =>
 (binR Prog .neq 3 v229 (.int .i64 0) h230).bind fun v231 h232 =>
 ((bif wantVal v231 true then Res.ok a11 h232 else Res.ok undef h232)).bind fun v233 h234 =>
 ((bif wantVal v231 true then unR .not v233 h234 else Res.ok undef h234)).bind fun v235 h236 =>
 (condV (some v231) (Res.ok v235 h236) (Res.ok (.bool false) h236)).bind fun v237 h238 =>
 K .normal [(0,a0),(1,a1),(8,a8),(12,a12),(135,v237)] h238):=by kernel_rfl
theorem ζhl {β:Type} (k:Nat) (call:Caller) (a0 a1 a8 a12 v237:Value) (h238:Heap) (K:Kont β):pieceK (C k) call F.ζ1 [1,1,1,1,1,1,0,1] [(0,a0),(1,a1),(8,a8),(12,a12),(135,v237)] h238 K =
 (condV (some v237) (pieceK (C k) call F.ζ1 [1,1,1,1,1,1,0,1,0] [(0,a0),(1,a1),(8,a8),(12,a12),(135,v237)] h238 K) (pieceK (C k) call F.ζ1 [1,1,1,1,1,1,0,1,1] [(0,a0),(1,a1),(8,a8),(12,a12),(135,v237)] h238 K)):=by kernel_rfl
theorem ζhm {β:Type} (k:Nat) (call:Caller) (a0 a1 a8 a12 v237:Value) (h238:Heap) (K:Kont β):pieceK (C k) call F.ζ1 [1,1,1,1,1,1,0,1,0] [(0,a0),(1,a1),(8,a8),(12,a12),(135,v237)] h238 K =
 (    (nilR a0 h238).bind fun v239 h240 =>
 (fieldAddrR Prog 257 v239 2 h240).bind fun v241 h242 =>
 (storeR Prog 3 v241 a12 h242).bind fun _v243 h244 =>
 K .normal [(1,a1),(8,a8)] h244):=by kernel_rfl
theorem ζhn {β:Type} (k:Nat) (call:Caller) (e:Env) (h:Heap) (K:Kont β):pieceK (C k) call F.ζ1 [1,1,1,1,1,1,0,1,1] e h K = K .normal e h:=by kernel_rfl
theorem ζho {β:Type} (k:Nat) (call:Caller) (e:Env) (h:Heap) (K:Kont β):pieceK (C k) call F.ζ1 [1,1,1,1] e h K = pieceK (C k) call F.ζ1 [1,1,1,1,0] e h (kSeq (pieceK (C k) call F.ζ1 [1,1,1,1,1]) K):=by kernel_rfl
theorem ζhp {β:Type} (k:Nat) (call:Caller) (a0 a1 a5 a8:Value) (h:Heap) (K:Kont β):pieceK (C k) call F.ζ1 [1,1,1,1,0] [(0,a0),(1,a1),(5,a5),(8,a8)] h K =
 (  (nilR a0 h).bind fun v245 h246 =>
 (fieldAddrR Prog 257 v245 1 h246).bind fun v247 h248 =>
 (loadR Prog 25 v247 h248).bind fun v249 h250 =>
 (call F.ζd [v249] h250).bind fun v251 h252 =>
 (binR Prog .geq 3 a1 v251 h252).bind fun v253 h254 =>
 K .normal [(0,a0),(1,a1),(5,a5),(8,a8),(11,v253),(12,a1)] h254):=by kernel_rfl
theorem ζhq {β:Type} (k:Nat) (call:Caller) (e:Env) (h:Heap) (K:Kont β):pieceK (C k) call F.ζ1 [1,1,1,1,1] e h K = pieceK (C k) call F.ζ1 [1,1,1,1,1,0] e h (kSeq (pieceK (C k) call F.ζ1 [1,1,1,1,1,1]) K):=by kernel_rfl
theorem ζhr {β:Type} (k:Nat) (call:Caller) (e:Env) (h:Heap) (K:Kont β):pieceK (C k) call F.ζ1 [1,1,1,1,1,0] e h K = pieceK (C k) call F.ζ1 [1,1,1,1,1,0,0] e h (kSeq (pieceK (C k) call F.ζ1 [1,1,1,1,1,0,1]) K):=by kernel_rfl
theorem ζhs {β:Type} (k:Nat) (call:Caller) (a0 a1 a5 a8 v253:Value) (h254:Heap) (K:Kont β):pieceK (C k) call F.ζ1 [1,1,1,1,1,0,0] [(0,a0),(1,a1),(5,a5),(8,a8),(11,v253),(12,a1)] h254 K =
 (  (binR Prog .gtr 3 a8 (.int .i64 0) h254).bind fun v255 h256 =>
 K .normal [(0,a0),(1,a1),(5,a5),(8,a8),(11,v253),(12,a1),(87,v255)] h256):=by kernel_rfl
theorem ζht {β:Type} (k:Nat) (call:Caller) (a0 a1 a5 a8 v253 v255:Value) (h256:Heap) (K:Kont β):pieceK (C k) call F.ζ1 [1,1,1,1,1,0,1] [(0,a0),(1,a1),(5,a5),(8,a8),(11,v253),(12,a1),(87,v255)] h256 K =
 (condV (some v255) (pieceK (C k) call F.ζ1 [1,1,1,1,1,0,1,0] [(0,a0),(1,a1),(5,a5),(8,a8),(11,v253),(12,a1),(87,v255)] h256 K) (pieceK (C k) call F.ζ1 [1,1,1,1,1,0,1,1] [(0,a0),(1,a1),(5,a5),(8,a8),(11,v253),(12,a1),(87,v255)] h256 K)):=by kernel_rfl
theorem ζhu {β:Type} (k:Nat) (call:Caller) (e:Env) (h:Heap) (K:Kont β):pieceK (C k) call F.ζ1 [1,1,1,1,1,0,1,0] e h K = pieceK (C k) call F.ζ1 [1,1,1,1,1,0,1,0,0] e h (kSeq (pieceK (C k) call F.ζ1 [1,1,1,1,1,0,1,0,1]) K):=by kernel_rfl
theorem ζhv {β:Type} (k:Nat) (call:Caller) (a0 a1 a5 a8 v253 v255:Value) (h256:Heap) (K:Kont β):pieceK (C k) call F.ζ1 [1,1,1,1,1,0,1,0,0] [(0,a0),(1,a1),(5,a5),(8,a8),(11,v253),(12,a1),(87,v255)] h256 K =
 (    (binR Prog .add 3 a1 (.int .i64 1) h256).bind fun v257 h258 =>
 (nilR a0 h258).bind fun v259 h260 =>
 (fieldAddrR Prog 257 v259 1 h260).bind fun v261 h262 =>
 (loadR Prog 25 v261 h262).bind fun v263 h264 =>
 (call F.ζd [v263] h264).bind fun v265 h266 =>
 (builtinV Prog .min [3,3] [v257,v265] h266).bind fun v267 h268 =>
 K .normal [(0,a0),(1,a1),(5,a5),(8,a8),(11,v253),(12,a1),(13,v267)] h268):=by kernel_rfl
theorem ζhw {β:Type} (k:Nat) (call:Caller) (e:Env) (h:Heap) (K:Kont β):pieceK (C k) call F.ζ1 [1,1,1,1,1,0,1,0,1] e h K = pieceK (C k) call F.ζ1 [1,1,1,1,1,0,1,0,1,0] e h (kSeq (pieceK (C k) call F.ζ1 [1,1,1,1,1,0,1,0,1,1]) K):=by kernel_rfl
theorem ζhx {β:Type} (k:Nat) (call:Caller) (e:Env) (h:Heap) (K:Kont β):pieceK (C k) call F.ζ1 [1,1,1,1,1,0,1,0,1,0] e h K = pieceK (C k) call F.ζ1 [1,1,1,1,1,0,1,0,1,0,0] e h (kSeq (pieceK (C k) call F.ζ1 [1,1,1,1,1,0,1,0,1,0,1]) K):=by kernel_rfl
theorem ζhy {β:Type} (k:Nat) (call:Caller) (a0 a1 a5 a8 v253 v267:Value) (h268:Heap) (K:Kont β):pieceK (C k) call F.ζ1 [1,1,1,1,1,0,1,0,1,0,0] [(0,a0),(1,a1),(5,a5),(8,a8),(11,v253),(12,a1),(13,v267)] h268 K =
 (    (fieldAddrR Prog 130 a5 1 h268).bind fun v269 h270 =>
 (loadR Prog 3 v269 h270).bind fun v271 h272 =>
 (binR Prog .and 3 v271 (.int .i64 2048) h272).bind fun v273 h274 =>
 (binR Prog .neq 3 v273 (.int .i64 0) h274).bind fun v275 h276 =>
 K .normal [(0,a0),(1,a1),(5,a5),(8,a8),(11,v253),(12,a1),(13,v267),(99,v275)] h276):=by kernel_rfl
theorem ζhz {β:Type} (k:Nat) (call:Caller) (a0 a1 a5 a8 v253 v267 v275:Value) (h276:Heap) (K:Kont β):pieceK (C k) call F.ζ1 [1,1,1,1,1,0,1,0,1,0,1] [(0,a0),(1,a1),(5,a5),(8,a8),(11,v253),(12,a1),(13,v267),(99,v275)] h276 K =
 (condV (some v275) (pieceK (C k) call F.ζ1 [1,1,1,1,1,0,1,0,1,0,1,0] [(0,a0),(1,a1),(5,a5),(8,a8),(11,v253),(12,a1),(13,v267),(99,v275)] h276 K) (pieceK (C k) call F.ζ1 [1,1,1,1,1,0,1,0,1,0,1,1] [(0,a0),(1,a1),(5,a5),(8,a8),(11,v253),(12,a1),(13,v267),(99,v275)] h276 K)):=by kernel_rfl
theorem ζi0 {β:Type} (k:Nat) (call:Caller) (a0 a1 a5 a8 v253 v267 v275:Value) (h276:Heap) (K:Kont β):pieceK (C k) call F.ζ1 [1,1,1,1,1,0,1,0,1,0,1,0] [(0,a0),(1,a1),(5,a5),(8,a8),(11,v253),(12,a1),(13,v267),(99,v275)] h276 K =
 (      (binR Prog .add 3 a1 a8 h276).bind fun v277 h278 =>
 K .normal [(0,a0),(1,a1),(5,a5),(8,a8),(11,v253),(12,v277),(13,a1)] h278):=by kernel_rfl
theorem ζi1 {β:Type} (k:Nat) (call:Caller) (e:Env) (h:Heap) (K:Kont β):pieceK (C k) call F.ζ1 [1,1,1,1,1,0,1,0,1,0,1,1] e h K = K .normal e h:=by kernel_rfl
theorem ζi2 {β:Type} (k:Nat) (call:Caller) (e:Env) (h:Heap) (K:Kont β):pieceK (C k) call F.ζ1 [1,1,1,1,1,0,1,1] e h K = K .normal e h:=by kernel_rfl
theorem ζi3 {β:Type} (k:Nat) (call:Caller) (e:Env) (h:Heap) (K:Kont β):pieceK (C k) call F.ζ1 [1,1,1,1] e h K = pieceK (C k) call F.ζ1 [1,1,1,1,0] e h (kSeq (pieceK (C k) call F.ζ1 [1,1,1,1,1]) K):=by kernel_rfl
theorem ζi4 {β:Type} (k:Nat) (call:Caller) (a0 a1 a5 a8 a9 a74:Value) (h:Heap) (K:Kont β):pieceK (C k) call F.ζ1 [1,1,1,1,0] [(0,a0),(1,a1),(5,a5),(8,a8),(9,a9),(74,a74)] h K =
 (  (nilR a0 h).bind fun v279 h280 =>
 (fieldAddrR Prog 257 v279 1 h280).bind fun v281 h282 =>
 (loadR Prog 25 v281 h282).bind fun v283 h284 =>
 (call F.ζd [v283] h284).bind fun v285 h286 =>
 (binR Prog .geq 3 a1 v285 h286).bind fun v287 h288 =>
 K .normal [(0,a0),(1,a1),(5,a5),(8,a8),(11,v287),(12,a1)] h288):=by kernel_rfl
theorem ζi5 {β:Type} (k:Nat) (call:Caller) (e:Env) (h:Heap) (K:Kont β):pieceK (C k) call F.ζ1 [1,1,1,1,1] e h K = pieceK (C k) call F.ζ1 [1,1,1,1,1,0] e h (kSeq (pieceK (C k) call F.ζ1 [1,1,1,1,1,1]) K):=by kernel_rfl
theorem ζi6 {β:Type} (k:Nat) (call:Caller) (e:Env) (h:Heap) (K:Kont β):pieceK (C k) call F.ζ1 [1,1,1,1,1,0] e h K = pieceK (C k) call F.ζ1 [1,1,1,1,1,0,0] e h (kSeq (pieceK (C k) call F.ζ1 [1,1,1,1,1,0,1]) K):=by kernel_rfl
theorem ζi7 {β:Type} (k:Nat) (call:Caller) (a0 a1 a5 a8 v287:Value) (h288:Heap) (K:Kont β):pieceK (C k) call F.ζ1 [1,1,1,1,1,0,0] [(0,a0),(1,a1),(5,a5),(8,a8),(11,v287),(12,a1)] h288 K =
 (  (binR Prog .gtr 3 a8 (.int .i64 0) h288).bind fun v289 h290 =>
 K .normal [(0,a0),(1,a1),(5,a5),(8,a8),(11,v287),(12,a1),(87,v289)] h290):=by kernel_rfl
theorem ζi8 {β:Type} (k:Nat) (call:Caller) (a0 a1 a5 a8 v287 v289:Value) (h290:Heap) (K:Kont β):pieceK (C k) call F.ζ1 [1,1,1,1,1,0,1] [(0,a0),(1,a1),(5,a5),(8,a8),(11,v287),(12,a1),(87,v289)] h290 K =
 (condV (some v289) (pieceK (C k) call F.ζ1 [1,1,1,1,1,0,1,0] [(0,a0),(1,a1),(5,a5),(8,a8),(11,v287),(12,a1),(87,v289)] h290 K) (pieceK (C k) call F.ζ1 [1,1,1,1,1,0,1,1] [(0,a0),(1,a1),(5,a5),(8,a8),(11,v287),(12,a1),(87,v289)] h290 K)):=by kernel_rfl
theorem ζi9 {β:Type} (k:Nat) (call:Caller) (e:Env) (h:Heap) (K:Kont β):pieceK (C k) call F.ζ1 [1,1,1,1,1,0,1,0] e h K = pieceK (C k) call F.ζ1 [1,1,1,1,1,0,1,0,0] e h (kSeq (pieceK (C k) call F.ζ1 [1,1,1,1,1,0,1,0,1]) K):=by kernel_rfl
theorem ζia {β:Type} (k:Nat) (call:Caller) (a0 a1 a5 a8 v287 v289:Value) (h290:Heap) (K:Kont β):pieceK (C k) call F.ζ1 [1,1,1,1,1,0,1,0,0] [(0,a0),(1,a1),(5,a5),(8,a8),(11,v287),(12,a1),(87,v289)] h290 K =
 (    (binR Prog .add 3 a1 (.int .i64 1) h290).bind fun v291 h292 =>
 (nilR a0 h292).bind fun v293 h294 =>
 (fieldAddrR Prog 257 v293 1 h294).bind fun v295 h296 =>
 (loadR Prog 25 v295 h296).bind fun v297 h298 =>
 (call F.ζd [v297] h298).bind fun v299 h300 =>
 (builtinV Prog .min [3,3] [v291,v299] h300).bind fun v301 h302 =>
 K .normal [(0,a0),(1,a1),(5,a5),(8,a8),(11,v287),(12,a1),(13,v301)] h302):=by kernel_rfl
theorem ζib {β:Type} (k:Nat) (call:Caller) (e:Env) (h:Heap) (K:Kont β):pieceK (C k) call F.ζ1 [1,1,1,1,1,0,1,0,1] e h K = pieceK (C k) call F.ζ1 [1,1,1,1,1,0,1,0,1,0] e h (kSeq (pieceK (C k) call F.ζ1 [1,1,1,1,1,0,1,0,1,1]) K):=by kernel_rfl
theorem ζic {β:Type} (k:Nat) (call:Caller) (e:Env) (h:Heap) (K:Kont β):pieceK (C k) call F.ζ1 [1,1,1,1,1,0,1,0,1,0] e h K = pieceK (C k) call F.ζ1 [1,1,1,1,1,0,1,0,1,0,0] e h (kSeq (pieceK (C k) call F.ζ1 [1,1,1,1,1,0,1,0,1,0,1]) K):=by kernel_rfl
theorem ζid {β:Type} (k:Nat) (call:Caller) (a0 a1 a5 a8 v287 v301:Value) (h302:Heap) (K:Kont β):pieceK (C k) call F.ζ1 [1,1,1,1,1,0,1,0,1,0,0] [(0,a0),(1,a1),(5,a5),(8,a8),(11,v287),(12,a1),(13,v301)] h302 K =
 (    (fieldAddrR Prog 130 a5 1 h302).bind fun v303 h304 =>
 (loadR Prog 3 v303 h304).bind fun v305 h306 =>
 (binR Prog .and 3 v305 (.int .i64 2048) h306).bind fun v307 h308 =>
 (binR Prog .neq 3 v307 (.int .i64 0) h308).bind fun v309 h310 =>
 K .normal [(0,a0),(1,a1),(5,a5),(8,a8),(11,v287),(12,a1),(13,v301),(99,v309)] h310):=by kernel_rfl
theorem ζie {β:Type} (k:Nat) (call:Caller) (a0 a1 a5 a8 v287 v301 v309:Value) (h310:Heap) (K:Kont β):pieceK (C k) call F.ζ1 [1,1,1,1,1,0,1,0,1,0,1] [(0,a0),(1,a1),(5,a5),(8,a8),(11,v287),(12,a1),(13,v301),(99,v309)] h310 K =
 (condV (some v309) (pieceK (C k) call F.ζ1 [1,1,1,1,1,0,1,0,1,0,1,0] [(0,a0),(1,a1),(5,a5),(8,a8),(11,v287),(12,a1),(13,v301),(99,v309)] h310 K) (pieceK (C k) call F.ζ1 [1,1,1,1,1,0,1,0,1,0,1,1] [(0,a0),(1,a1),(5,a5),(8,a8),(11,v287),(12,a1),(13,v301),(99,v309)] h310 K)):=by kernel_rfl
theorem ζif {β:Type} (k:Nat) (call:Caller) (a0 a1 a5 a8 v287 v301 v309:Value) (h310:Heap) (K:Kont β):pieceK (C k) call F.ζ1 [1,1,1,1,1,0,1,0,1,0,1,0] [(0,a0),(1,a1),(5,a5),(8,a8),(11,v287),(12,a1),(13,v301),(99,v309)] h310 K =
 (      (binR Prog .add 3 a1 a8 h310).bind fun v311 h312 =>
 K .normal [(0,a0),(1,a1),(5,a5),(8,a8),(11,v287),(12,v311),(13,a1)] h312):=by kernel_rfl
theorem ζig {β:Type} (k:Nat) (call:Caller) (e:Env) (h:Heap) (K:Kont β):pieceK (C k) call F.ζ1 [1,1,1,1,1,0,1,0,1,0,1,1] e h K = K .normal e h:=by kernel_rfl
theorem ζih {β:Type} (k:Nat) (call:Caller) (e:Env) (h:Heap) (K:Kont β):pieceK (C k) call F.ζ1 [1,1,1,1,1,0,1,1] e h K = K .normal e h:=by kernel_rfl
theorem ζii {β:Type} (k:Nat) (call:Caller) (e:Env) (h:Heap) (K:Kont β):pieceK (C k) call F.ζ1 [1,1,1,1,1,1] e h K = pieceK (C k) call F.ζ1 [1,1,1,1,1,1,0] e h (kSeq (pieceK (C k) call F.ζ1 [1,1,1,1,1,1,1]) K):=by kernel_rfl
theorem ζij {β:Type} (k:Nat) (call:Caller) (e:Env) (h:Heap) (K:Kont β):pieceK (C k) call F.ζ1 [1,1,1,1,1,1,0] e h K = pieceK (C k) call F.ζ1 [1,1,1,1,1,1,0,0] e h (kSeq (pieceK (C k) call F.ζ1 [1,1,1,1,1,1,0,1]) K):=by kernel_rfl
theorem ζik {β:Type} (k:Nat) (call:Caller) (a0 a1 a5 a8 a11 a12:Value) (h:Heap) (K:Kont β):pieceK (C k) call F.ζ1 [1,1,1,1,1,1,0,0] [(0,a0),(1,a1),(5,a5),(8,a8),(11,a11),(12,a12)] h K =
 (  (fieldAddrR Prog 130 a5 1 h).bind fun v313 h314 =>
 (loadR Prog 3 v313 h314).bind fun v315 h316 =>
 (binR Prog .and 3 v315 (.int .i64 32768) h316).bind fun v317 h318 =>
 (binR Prog .neq 3 v317 (.int .i64 0) h318).bind fun v319 h320 =>
 ((bif wantVal v319 true then Res.ok a11 h320 else Res.ok undef h320)).bind fun v321 h322 =>
 ((bif wantVal v319 true then unR .not v321 h322 else Res.ok undef h322)).bind fun v323 h324 =>
 (condV (some v319) (Res.ok v323 h324) (Res.ok (.bool false) h324)).bind fun v325 h326 =>
 K .normal [(0,a0),(1,a1),(8,a8),(12,a12),(135,v325)] h326):=by kernel_rfl
theorem ζil {β:Type} (k:Nat) (call:Caller) (a0 a1 a8 a12 v325:Value) (h326:Heap) (K:Kont β):pieceK (C k) call F.ζ1 [1,1,1,1,1,1,0,1] [(0,a0),(1,a1),(8,a8),(12,a12),(135,v325)] h326 K =
 (condV (some v325) (pieceK (C k) call F.ζ1 [1,1,1,1,1,1,0,1,0] [(0,a0),(1,a1),(8,a8),(12,a12),(135,v325)] h326 K) (pieceK (C k) call F.ζ1 [1,1,1,1,1,1,0,1,1] [(0,a0),(1,a1),(8,a8),(12,a12),(135,v325)] h326 K)):=by kernel_rfl
theorem ζim {β:Type} (k:Nat) (call:Caller) (a0 a1 a8 a12 v325:Value) (h326:Heap) (K:Kont β):pieceK (C k) call F.ζ1 [1,1,1,1,1,1,0,1,0] [(0,a0),(1,a1),(8,a8),(12,a12),(135,v325)] h326 K =
 (    (nilR a0 h326).bind fun v327 h328 =>
 (fieldAddrR Prog 257 v327 2 h328).bind fun v329 h330 =>
 (storeR Prog 3 v329 a12 h330).bind fun _v331 h332 =>
 K .normal [(1,a1),(8,a8)] h332):=by kernel_rfl
theorem ζin {β:Type} (k:Nat) (call:Caller) (e:Env) (h:Heap) (K:Kont β):pieceK (C k) call F.ζ1 [1,1,1,1,1,1,0,1,1] e h K = K .normal e h:=by kernel_rfl
theorem ζio {β:Type} (k:Nat) (call:Caller) (e:Env) (h:Heap) (K:Kont β):pieceK (C k) call F.ζ1 [1,1,1,1,1,1] e h K = pieceK (C k) call F.ζ1 [1,1,1,1,1,1,0] e h (kSeq (pieceK (C k) call F.ζ1 [1,1,1,1,1,1,1]) K):=by kernel_rfl
theorem ζip {β:Type} (k:Nat) (call:Caller) (e:Env) (h:Heap) (K:Kont β):pieceK (C k) call F.ζ1 [1,1,1,1,1,1,0] e h K = pieceK (C k) call F.ζ1 [1,1,1,1,1,1,0,0] e h (kSeq (pieceK (C k) call F.ζ1 [1,1,1,1,1,1,0,1]) K):=by kernel_rfl
theorem ζiq {β:Type} (k:Nat) (call:Caller) (a0 a1 a5 a8 a11 a12 a119:Value) (h:Heap) (K:Kont β):pieceK (C k) call F.ζ1 [1,1,1,1,1,1,0,0] [(0,a0),(1,a1),(5,a5),(8,a8),(11,a11),(12,a12),(119,a119)] h K =
 (  (fieldAddrR Prog 130 a5 1 h).bind fun v333 h334 =>
 (loadR Prog 3 v333 h334).bind fun v335 h336 =>
 (binR Prog .and 3 v335 (.int .i64 32768) h336).bind fun v337 h338 =>
 (binR Prog .neq 3 v337 (.int .i64 0) h338).bind fun v339 h340 =>
 ((bif wantVal v339 true then Res.ok a11 h340 else Res.ok undef h340)).bind fun v341 h342 =>
 ((bif wantVal v339 true then unR .not v341 h342 else Res.ok undef h342)).bind fun v343 h344 =>
 (condV (some v339) (Res.ok v343 h344) (Res.ok (.bool false) h344)).bind fun v345 h346 =>
 K .normal [(0,a0),(1,a1),(8,a8),(12,a12),(135,v345)] h346):=by kernel_rfl
theorem ζir {β:Type} (k:Nat) (call:Caller) (a0 a1 a8 a12 v345:Value) (h346:Heap) (K:Kont β):pieceK (C k) call F.ζ1 [1,1,1,1,1,1,0,1] [(0,a0),(1,a1),(8,a8),(12,a12),(135,v345)] h346 K =
 (condV (some v345) (pieceK (C k) call F.ζ1 [1,1,1,1,1,1,0,1,0] [(0,a0),(1,a1),(8,a8),(12,a12),(135,v345)] h346 K) (pieceK (C k) call F.ζ1 [1,1,1,1,1,1,0,1,1] [(0,a0),(1,a1),(8,a8),(12,a12),(135,v345)] h346 K)):=by kernel_rfl
theorem ζis {β:Type} (k:Nat) (call:Caller) (a0 a1 a8 a12 v345:Value) (h346:Heap) (K:Kont β):pieceK (C k) call F.ζ1 [1,1,1,1,1,1,0,1,0] [(0,a0),(1,a1),(8,a8),(12,a12),(135,v345)] h346 K =
 (    (nilR a0 h346).bind fun v347 h348 =>
 (fieldAddrR Prog 257 v347 2 h348).bind fun v349 h350 =>
 (storeR Prog 3 v349 a12 h350).bind fun _v351 h352 =>
 K .normal [(1,a1),(8,a8)] h352):=by kernel_rfl
theorem ζit {β:Type} (k:Nat) (call:Caller) (e:Env) (h:Heap) (K:Kont β):pieceK (C k) call F.ζ1 [1,1,1,1,1,1,0,1,1] e h K = K .normal e h:=by kernel_rfl
theorem ζiu {β:Type} (k:Nat) (call:Caller) (e:Env) (h:Heap) (K:Kont β):pieceK (C k) call F.ζ1 [1,1,1,1,1,1,1] e h K = pieceK (C k) call F.ζ1 [1,1,1,1,1,1,1,0] e h (kSeq (pieceK (C k) call F.ζ1 [1,1,1,1,1,1,1,1]) K):=by kernel_rfl
theorem ζiv {β:Type} (k:Nat) (call:Caller) (a1 a8:Value) (h:Heap) (K:Kont β):pieceK (C k) call F.ζ1 [1,1,1,1,1,1,1,0] [(1,a1),(8,a8)] h K =
 (  (binR Prog .add 3 a1 a8 h).bind fun v353 h354 =>
 (binR Prog .add 3 v353 (.int .i64 1) h354).bind fun v355 h356 =>
 K .normal [(6,a1),(7,v355)] h356):=by kernel_rfl
theorem ζiw {β:Type} (k:Nat) (call:Caller) (e:Env) (h:Heap) (K:Kont β):pieceK (C k) call F.ζ1 [1,1,1,1,1,1,1,1] e h K = K .ret e h:=by kernel_rfl
theorem ζix (a1 v355:Value) (h356:Heap):kDone Prog (resOf Prog F.ζ1) .ret [(6,a1),(7,v355)] h356 =
 (  .ok (.tuple #[a1,v355]) h356):=by kernel_rfl
theorem ζiy {β:Type} (k:Nat) (call:Caller) (e:Env) (h:Heap) (K:Kont β):pieceK (C k) call F.ζ1 [1,1,1,1,1,1,1] e h K = pieceK (C k) call F.ζ1 [1,1,1,1,1,1,1,0] e h (kSeq (pieceK (C k) call F.ζ1 [1,1,1,1,1,1,1,1]) K):=by kernel_rfl
theorem ζiz {β:Type} (k:Nat) (call:Caller) (a0 a1 a8 a12 a135:Value) (h:Heap) (K:Kont β):pieceK (C k) call F.ζ1 [1,1,1,1,1,1,1,0] [(0,a0),(1,a1),(8,a8),(12,a12),(135,a135)] h K =
 (  (binR Prog .add 3 a1 a8 h).bind fun v357 h358 =>
 (binR Prog .add 3 v357 (.int .i64 1) h358).bind fun v359 h360 =>
 K .normal [(6,a1),(7,v359)] h360):=by kernel_rfl
theorem ζj0 {β:Type} (k:Nat) (call:Caller) (e:Env) (h:Heap) (K:Kont β):pieceK (C k) call F.ζ1 [1,1,1,1,1,1,1,1] e h K = K .ret e h:=by kernel_rfl
theorem ζj1 (a1 v359:Value) (h360:Heap):kDone Prog (resOf Prog F.ζ1) .ret [(6,a1),(7,v359)] h360 =
 (  .ok (.tuple #[a1,v359]) h360):=by kernel_rfl
theorem ζh7 (k:Nat) (call:Caller) (a0 a1 a2:Value) (h:Heap):bodyK (C k) call F.ζ1 [a0,a1,a2] h = pieceK (C k) call F.ζ1 [] [(0,a0),(1,a1),(2,a2)] h (kDone Prog (resOf Prog F.ζ1)):=by kernel_rfl
theorem ζoa (k:Nat) (call:Caller) (a0 a1 a2:Value) (h:Heap):bodyK (C k) call F.ζ1 [a0,a1,a2] h = ζ1 k call a0 a1 a2 h:=by
 rw [ζh7];simp only [ζk,ζj,ζi,ζob,ζoc,ζod,ζoe,ζof,ζog,ζoh,ζoi,ζoj,ζkc,ζkd,ζke,ζkf,ζkg,ζkh,ζki,ζkj,ζkk,ζkl,ζkm,ζkn,ζko,ζkp,ζkq,ζkr,ζks,ζ1,ζ10,ζ12,ζ11,ζv,ζx,ζw,ζz,ζy,Nat.reduceBEq,cond_true,cond_false]
theorem ζ7p (k:Nat) (a0 a1 a2:Value) (h:Heap):R (T k) F.ζ1 [a0,a1,a2] h = nrm .no h (ζ1 k (R (T k)) a0 a1 a2 h) :=
 (R_body (t:=T k) (T_scott k) (by kernel_rfl) (by kernel_rfl) _ _).trans (congrArg (nrm .no h) (ζoa k (R (T k)) a0 a1 a2 h))
theorem ζ3q (k:Nat) (call:Caller) (a0 a1 a5 a8 a9 a10:Value) (h:Heap):ζi k call a0 a1 a5 a8 a9 a10 h =
 (fieldAddrR Prog 130 a5 3 h).bind fun v55 h56 =>
 (loadR Prog 3 v55 h56).bind fun v57 h58 =>
 (call F.ζ2o [a0,a10,v57,a9] h58).bind fun v59 h60 =>
 (unR .not v59 h60).bind fun v61 h62 =>
 condV (some v61) (
 (binR Prog .add 3 a1 (.int .i64 1) h62).bind fun v63 h64 =>
 .ok (.tuple #[a1,v63]) h64)
 (
 (nilR a0 h62).bind fun v65 h66 =>
 (fieldAddrR Prog 257 v65 2 h66).bind fun v67 h68 =>
 (loadR Prog 3 v67 h68).bind fun v69 h70 =>
 (binR Prog .leq 3 a10 v69 h70).bind fun v71 h72 =>
 condV (some v71) (
 (nilR a0 h72).bind fun v73 h74 =>
 (fieldAddrR Prog 257 v73 2 h74).bind fun v75 h76 =>
 (loadR Prog 3 v75 h76).bind fun v77 h78 =>
 (binR Prog .add 3 v77 a9 h78).bind fun v79 h80 =>
 (nilR a0 h80).bind fun v81 h82 =>
 (fieldAddrR Prog 257 v81 2 h82).bind fun v83 h84 =>
 (storeR Prog 3 v83 v79 h84).bind fun _v85 h86 =>
 ζp k call a0 a1 a5 a8 a9 a10 h86)
 (
 ζq k call a0 a1 a5 a8 a9 a10 v71 h72)):=by simp only [ζq,ζp,ζk,ζj,ζi,ζkt,ζku,ζkv,ζkw,ζkx,ζky,ζkz,ζl0,ζl1,ζl2,ζl3,ζl4,ζl5,ζl6,ζl7,ζ1,ζ10,ζ12,ζ11,ζv,ζx,ζw,ζz,ζy,Nat.reduceBEq,cond_true,cond_false]
theorem ζ3r (k:Nat) (call:Caller) (a0 a1 a5 a8 a9 a10 a43:Value) (h:Heap):ζj k call a0 a1 a5 a8 a9 a10 a43 h =
 (fieldAddrR Prog 130 a5 3 h).bind fun v87 h88 =>
 (loadR Prog 3 v87 h88).bind fun v89 h90 =>
 (call F.ζ2o [a0,a10,v89,a9] h90).bind fun v91 h92 =>
 (unR .not v91 h92).bind fun v93 h94 =>
 condV (some v93) (
 (binR Prog .add 3 a1 (.int .i64 1) h94).bind fun v95 h96 =>
 .ok (.tuple #[a1,v95]) h96)
 (
 (nilR a0 h94).bind fun v97 h98 =>
 (fieldAddrR Prog 257 v97 2 h98).bind fun v99 h100 =>
 (loadR Prog 3 v99 h100).bind fun v101 h102 =>
 (binR Prog .leq 3 a10 v101 h102).bind fun v103 h104 =>
 condV (some v103) (
 (nilR a0 h104).bind fun v105 h106 =>
 (fieldAddrR Prog 257 v105 2 h106).bind fun v107 h108 =>
 (loadR Prog 3 v107 h108).bind fun v109 h110 =>
 (binR Prog .add 3 v109 a9 h110).bind fun v111 h112 =>
 (nilR a0 h112).bind fun v113 h114 =>
 (fieldAddrR Prog 257 v113 2 h114).bind fun v115 h116 =>
 (storeR Prog 3 v115 v111 h116).bind fun _v117 h118 =>
 ζp k call a0 a1 a5 a8 a9 a10 h118)
 (
 ζq k call a0 a1 a5 a8 a9 a10 v103 h104)):=by simp only [ζq,ζp,ζk,ζj,ζi,ζl8,ζl9,ζla,ζlb,ζlc,ζld,ζle,ζlf,ζlg,ζlh,ζli,ζlj,ζlk,ζll,ζlm,ζ1,ζ10,ζ12,ζ11,ζv,ζx,ζw,ζz,ζy,Nat.reduceBEq,cond_true,cond_false]
theorem ζ6c (k:Nat) (call:Caller) (a0 a1 a5 a8 a9 a34:Value) (h:Heap):ζk k call a0 a1 a5 a8 a9 a34 h =
 (nilR a0 h).bind fun v119 h120 =>
 (fieldAddrR Prog 257 v119 1 h120).bind fun v121 h122 =>
 (loadR Prog 25 v121 h122).bind fun v123 h124 =>
 (call F.ζd [v123] h124).bind fun v125 h126 =>
 (binR Prog .geq 3 a1 v125 h126).bind fun v127 h128 =>
 (binR Prog .gtr 3 a8 (.int .i64 0) h128).bind fun v129 h130 =>
 condV (some v129) (
 (binR Prog .add 3 a1 (.int .i64 1) h130).bind fun v131 h132 =>
 (nilR a0 h132).bind fun v133 h134 =>
 (fieldAddrR Prog 257 v133 1 h134).bind fun v135 h136 =>
 (loadR Prog 25 v135 h136).bind fun v137 h138 =>
 (call F.ζd [v137] h138).bind fun v139 h140 =>
 (builtinV Prog .min [3,3] [v131,v139] h140).bind fun v141 h142 =>
 (fieldAddrR Prog 130 a5 1 h142).bind fun v143 h144 =>
 (loadR Prog 3 v143 h144).bind fun v145 h146 =>
 (binR Prog .and 3 v145 (.int .i64 2048) h146).bind fun v147 h148 =>
 (binR Prog .neq 3 v147 (.int .i64 0) h148).bind fun v149 h150 =>
 condV (some v149) (
 (binR Prog .add 3 a1 a8 h150).bind fun v151 h152 =>
 ζr k call a0 a1 a5 a8 v127 v151 a1 h152)
 (
 ζs k call a0 a1 a5 a8 v127 a1 v141 v149 h150))
 (
 ζt k call a0 a1 a5 a8 v127 a1 v129 h130):=by simp only [ζt,ζs,ζr,ζq,ζp,ζk,ζj,ζi,ζln,ζlo,ζlp,ζlq,ζlr,ζls,ζlt,ζlu,ζlv,ζlw,ζlx,ζly,ζlz,ζm0,ζm1,ζ1,ζ10,ζ12,ζ11,ζv,ζx,ζw,ζz,ζy,Nat.reduceBEq,cond_true,cond_false]
theorem ζ4k (k:Nat) (call:Caller) (a0 a1 a5 a8 a9 a10:Value) (h:Heap):ζp k call a0 a1 a5 a8 a9 a10 h =
 (binR Prog .leq 3 a10 a1 h).bind fun v153 h154 =>
 condV (some v153) (
 (binR Prog .add 3 a1 a9 h154).bind fun v155 h156 =>
 ζ18 k call a0 v155 a5 a8 h156)
 (
 ζu k call a0 a1 a5 a8 a9 v153 h154):=by simp only [ζu,ζ18,ζt,ζs,ζr,ζq,ζp,ζk,ζj,ζi,ζm2,ζm3,ζm4,ζm5,ζm6,ζ1,ζ10,ζ12,ζ11,ζv,ζx,ζw,ζz,ζy,Nat.reduceBEq,cond_true,cond_false]
theorem ζ4l (k:Nat) (call:Caller) (a0 a1 a5 a8 a9 a10 a63:Value) (h:Heap):ζq k call a0 a1 a5 a8 a9 a10 a63 h =
 (binR Prog .leq 3 a10 a1 h).bind fun v157 h158 =>
 condV (some v157) (
 (binR Prog .add 3 a1 a9 h158).bind fun v159 h160 =>
 ζ18 k call a0 v159 a5 a8 h160)
 (
 ζu k call a0 a1 a5 a8 a9 v157 h158):=by simp only [ζu,ζ18,ζt,ζs,ζr,ζq,ζp,ζk,ζj,ζi,ζm7,ζm8,ζm9,ζma,ζmb,ζ1,ζ10,ζ12,ζ11,ζv,ζx,ζw,ζz,ζy,Nat.reduceBEq,cond_true,cond_false]
theorem ζ6d (k:Nat) (call:Caller) (a0 a1 a5 a8 a11 a12 a13:Value) (h:Heap):ζr k call a0 a1 a5 a8 a11 a12 a13 h =
 (fieldAddrR Prog 130 a5 2 h).bind fun v161 h162 =>
 (loadR Prog 3 v161 h162).bind fun v163 h164 =>
 (call F.ζ2o [a0,a13,v163,a8] h164).bind fun v165 h166 =>
 (unR .not v165 h166).bind fun v167 h168 =>
 condV (some v167) (
 (binR Prog .add 3 a1 (.int .i64 1) h168).bind fun v169 h170 =>
 .ok (.tuple #[a1,v169]) h170)
 (
 (nilR a0 h168).bind fun v171 h172 =>
 (fieldAddrR Prog 257 v171 2 h172).bind fun v173 h174 =>
 (loadR Prog 3 v173 h174).bind fun v175 h176 =>
 (binR Prog .leq 3 a13 v175 h176).bind fun v177 h178 =>
 condV (some v177) (
 (nilR a0 h178).bind fun v179 h180 =>
 (fieldAddrR Prog 257 v179 2 h180).bind fun v181 h182 =>
 (loadR Prog 3 v181 h182).bind fun v183 h184 =>
 (binR Prog .add 3 v183 a8 h184).bind fun v185 h186 =>
 (nilR a0 h186).bind fun v187 h188 =>
 (fieldAddrR Prog 257 v187 2 h188).bind fun v189 h190 =>
 (storeR Prog 3 v189 v185 h190).bind fun _v191 h192 =>
 ζ1d k call a0 a1 a5 a8 a11 a12 h192)
 (
 ζ1e k call a0 a1 a5 a8 a11 a12 v177 h178)):=by simp only [ζ1e,ζ1d,ζu,ζ18,ζt,ζs,ζr,ζq,ζp,ζk,ζj,ζi,ζmc,ζmd,ζme,ζmf,ζmg,ζmh,ζmi,ζmj,ζmk,ζml,ζmm,ζmn,ζmo,ζmp,ζ1,ζ10,ζ12,ζ11,ζv,ζx,ζw,ζz,ζy,Nat.reduceBEq,cond_true,cond_false]
theorem ζ6e (k:Nat) (call:Caller) (a0 a1 a5 a8 a11 a12 a13 a99:Value) (h:Heap):ζs k call a0 a1 a5 a8 a11 a12 a13 a99 h =
 (fieldAddrR Prog 130 a5 2 h).bind fun v193 h194 =>
 (loadR Prog 3 v193 h194).bind fun v195 h196 =>
 (call F.ζ2o [a0,a13,v195,a8] h196).bind fun v197 h198 =>
 (unR .not v197 h198).bind fun v199 h200 =>
 condV (some v199) (
 (binR Prog .add 3 a1 (.int .i64 1) h200).bind fun v201 h202 =>
 .ok (.tuple #[a1,v201]) h202)
 (
 (nilR a0 h200).bind fun v203 h204 =>
 (fieldAddrR Prog 257 v203 2 h204).bind fun v205 h206 =>
 (loadR Prog 3 v205 h206).bind fun v207 h208 =>
 (binR Prog .leq 3 a13 v207 h208).bind fun v209 h210 =>
 condV (some v209) (
 (nilR a0 h210).bind fun v211 h212 =>
 (fieldAddrR Prog 257 v211 2 h212).bind fun v213 h214 =>
 (loadR Prog 3 v213 h214).bind fun v215 h216 =>
 (binR Prog .add 3 v215 a8 h216).bind fun v217 h218 =>
 (nilR a0 h218).bind fun v219 h220 =>
 (fieldAddrR Prog 257 v219 2 h220).bind fun v221 h222 =>
 (storeR Prog 3 v221 v217 h222).bind fun _v223 h224 =>
 ζ1d k call a0 a1 a5 a8 a11 a12 h224)
 (
 ζ1e k call a0 a1 a5 a8 a11 a12 v209 h210)):=by simp only [ζ1e,ζ1d,ζu,ζ18,ζt,ζs,ζr,ζq,ζp,ζk,ζj,ζi,ζmq,ζmr,ζms,ζmt,ζh8,ζh9,ζha,ζhb,ζhc,ζhd,ζhe,ζhf,ζhg,ζhh,ζ1,ζ10,ζ12,ζ11,ζv,ζx,ζw,ζz,ζy,Nat.reduceBEq,cond_true,cond_false]
theorem ζ6f (k:Nat) (call:Caller) (a0 a1 a5 a8 a11 a12 a87:Value) (h:Heap):ζt k call a0 a1 a5 a8 a11 a12 a87 h =
 (fieldAddrR Prog 130 a5 1 h).bind fun v225 h226 =>
 (loadR Prog 3 v225 h226).bind fun v227 h228 =>
 (binR Prog .and 3 v227 (.int .i64 32768) h228).bind fun v229 h230 =>
 (binR Prog .neq 3 v229 (.int .i64 0) h230).bind fun v231 h232 =>
 ((bif wantVal v231 true then Res.ok a11 h232 else Res.ok undef h232)).bind fun v233 h234 =>
 ((bif wantVal v231 true then unR .not v233 h234 else Res.ok undef h234)).bind fun v235 h236 =>
 (condV (some v231) (Res.ok v235 h236) (Res.ok (.bool false) h236)).bind fun v237 h238 =>
 condV (some v237) (
 (nilR a0 h238).bind fun v239 h240 =>
 (fieldAddrR Prog 257 v239 2 h240).bind fun v241 h242 =>
 (storeR Prog 3 v241 a12 h242).bind fun _v243 h244 =>
 ζ20 k call a1 a8 h244)
 (
 ζ21 k call a0 a1 a8 a12 v237 h238):=by simp only [ζ21,ζ20,ζ1e,ζ1d,ζu,ζ18,ζt,ζs,ζr,ζq,ζp,ζk,ζj,ζi,ζhi,ζhj,ζhk,ζhl,ζhm,ζhn,ζ1,ζ10,ζ12,ζ11,ζv,ζx,ζw,ζz,ζy,Nat.reduceBEq,cond_true,cond_false]
theorem ζ6g (k:Nat) (call:Caller) (a0 a1 a5 a8:Value) (h:Heap):ζ18 k call a0 a1 a5 a8 h =
 (nilR a0 h).bind fun v245 h246 =>
 (fieldAddrR Prog 257 v245 1 h246).bind fun v247 h248 =>
 (loadR Prog 25 v247 h248).bind fun v249 h250 =>
 (call F.ζd [v249] h250).bind fun v251 h252 =>
 (binR Prog .geq 3 a1 v251 h252).bind fun v253 h254 =>
 (binR Prog .gtr 3 a8 (.int .i64 0) h254).bind fun v255 h256 =>
 condV (some v255) (
 (binR Prog .add 3 a1 (.int .i64 1) h256).bind fun v257 h258 =>
 (nilR a0 h258).bind fun v259 h260 =>
 (fieldAddrR Prog 257 v259 1 h260).bind fun v261 h262 =>
 (loadR Prog 25 v261 h262).bind fun v263 h264 =>
 (call F.ζd [v263] h264).bind fun v265 h266 =>
 (builtinV Prog .min [3,3] [v257,v265] h266).bind fun v267 h268 =>
 (fieldAddrR Prog 130 a5 1 h268).bind fun v269 h270 =>
 (loadR Prog 3 v269 h270).bind fun v271 h272 =>
 (binR Prog .and 3 v271 (.int .i64 2048) h272).bind fun v273 h274 =>
 (binR Prog .neq 3 v273 (.int .i64 0) h274).bind fun v275 h276 =>
 condV (some v275) (
 (binR Prog .add 3 a1 a8 h276).bind fun v277 h278 =>
 ζr k call a0 a1 a5 a8 v253 v277 a1 h278)
 (
 ζs k call a0 a1 a5 a8 v253 a1 v267 v275 h276))
 (
 ζt k call a0 a1 a5 a8 v253 a1 v255 h256):=by simp only [ζ21,ζ20,ζ1e,ζ1d,ζu,ζ18,ζt,ζs,ζr,ζq,ζp,ζk,ζj,ζi,ζho,ζhp,ζhq,ζhr,ζhs,ζht,ζhu,ζhv,ζhw,ζhx,ζhy,ζhz,ζi0,ζi1,ζi2,ζ1,ζ10,ζ12,ζ11,ζv,ζx,ζw,ζz,ζy,Nat.reduceBEq,cond_true,cond_false]
theorem ζ5n (k:Nat) (call:Caller) (a0 a1 a5 a8 a9 a74:Value) (h:Heap):ζu k call a0 a1 a5 a8 a9 a74 h =
 (nilR a0 h).bind fun v279 h280 =>
 (fieldAddrR Prog 257 v279 1 h280).bind fun v281 h282 =>
 (loadR Prog 25 v281 h282).bind fun v283 h284 =>
 (call F.ζd [v283] h284).bind fun v285 h286 =>
 (binR Prog .geq 3 a1 v285 h286).bind fun v287 h288 =>
 (binR Prog .gtr 3 a8 (.int .i64 0) h288).bind fun v289 h290 =>
 condV (some v289) (
 (binR Prog .add 3 a1 (.int .i64 1) h290).bind fun v291 h292 =>
 (nilR a0 h292).bind fun v293 h294 =>
 (fieldAddrR Prog 257 v293 1 h294).bind fun v295 h296 =>
 (loadR Prog 25 v295 h296).bind fun v297 h298 =>
 (call F.ζd [v297] h298).bind fun v299 h300 =>
 (builtinV Prog .min [3,3] [v291,v299] h300).bind fun v301 h302 =>
 (fieldAddrR Prog 130 a5 1 h302).bind fun v303 h304 =>
 (loadR Prog 3 v303 h304).bind fun v305 h306 =>
 (binR Prog .and 3 v305 (.int .i64 2048) h306).bind fun v307 h308 =>
 (binR Prog .neq 3 v307 (.int .i64 0) h308).bind fun v309 h310 =>
 condV (some v309) (
 (binR Prog .add 3 a1 a8 h310).bind fun v311 h312 =>
 ζr k call a0 a1 a5 a8 v287 v311 a1 h312)
 (
 ζs k call a0 a1 a5 a8 v287 a1 v301 v309 h310))
 (
 ζt k call a0 a1 a5 a8 v287 a1 v289 h290):=by simp only [ζ21,ζ20,ζ1e,ζ1d,ζu,ζ18,ζt,ζs,ζr,ζq,ζp,ζk,ζj,ζi,ζi3,ζi4,ζi5,ζi6,ζi7,ζi8,ζi9,ζia,ζib,ζic,ζid,ζie,ζif,ζig,ζih,ζ1,ζ10,ζ12,ζ11,ζv,ζx,ζw,ζz,ζy,Nat.reduceBEq,cond_true,cond_false]
theorem ζ5o (k:Nat) (call:Caller) (a0 a1 a5 a8 a11 a12:Value) (h:Heap):ζ1d k call a0 a1 a5 a8 a11 a12 h =
 (fieldAddrR Prog 130 a5 1 h).bind fun v313 h314 =>
 (loadR Prog 3 v313 h314).bind fun v315 h316 =>
 (binR Prog .and 3 v315 (.int .i64 32768) h316).bind fun v317 h318 =>
 (binR Prog .neq 3 v317 (.int .i64 0) h318).bind fun v319 h320 =>
 ((bif wantVal v319 true then Res.ok a11 h320 else Res.ok undef h320)).bind fun v321 h322 =>
 ((bif wantVal v319 true then unR .not v321 h322 else Res.ok undef h322)).bind fun v323 h324 =>
 (condV (some v319) (Res.ok v323 h324) (Res.ok (.bool false) h324)).bind fun v325 h326 =>
 condV (some v325) (
 (nilR a0 h326).bind fun v327 h328 =>
 (fieldAddrR Prog 257 v327 2 h328).bind fun v329 h330 =>
 (storeR Prog 3 v329 a12 h330).bind fun _v331 h332 =>
 ζ20 k call a1 a8 h332)
 (
 ζ21 k call a0 a1 a8 a12 v325 h326):=by simp only [ζ21,ζ20,ζ1e,ζ1d,ζu,ζ18,ζt,ζs,ζr,ζq,ζp,ζk,ζj,ζi,ζii,ζij,ζik,ζil,ζim,ζin,ζ1,ζ10,ζ12,ζ11,ζv,ζx,ζw,ζz,ζy,Nat.reduceBEq,cond_true,cond_false]
theorem ζ5p (k:Nat) (call:Caller) (a0 a1 a5 a8 a11 a12 a119:Value) (h:Heap):ζ1e k call a0 a1 a5 a8 a11 a12 a119 h =
 (fieldAddrR Prog 130 a5 1 h).bind fun v333 h334 =>
 (loadR Prog 3 v333 h334).bind fun v335 h336 =>
 (binR Prog .and 3 v335 (.int .i64 32768) h336).bind fun v337 h338 =>
 (binR Prog .neq 3 v337 (.int .i64 0) h338).bind fun v339 h340 =>
 ((bif wantVal v339 true then Res.ok a11 h340 else Res.ok undef h340)).bind fun v341 h342 =>
 ((bif wantVal v339 true then unR .not v341 h342 else Res.ok undef h342)).bind fun v343 h344 =>
 (condV (some v339) (Res.ok v343 h344) (Res.ok (.bool false) h344)).bind fun v345 h346 =>
 condV (some v345) (
 (nilR a0 h346).bind fun v347 h348 =>
 (fieldAddrR Prog 257 v347 2 h348).bind fun v349 h350 =>
 (storeR Prog 3 v349 a12 h350).bind fun _v351 h352 =>
 ζ20 k call a1 a8 h352)
 (
 ζ21 k call a0 a1 a8 a12 v345 h346):=by simp only [ζ21,ζ20,ζ1e,ζ1d,ζu,ζ18,ζt,ζs,ζr,ζq,ζp,ζk,ζj,ζi,ζio,ζip,ζiq,ζir,ζis,ζit,ζ1,ζ10,ζ12,ζ11,ζv,ζx,ζw,ζz,ζy,Nat.reduceBEq,cond_true,cond_false]
theorem ζ5q (k:Nat) (call:Caller) (a1 a8:Value) (h:Heap):ζ20 k call a1 a8 h =
 (binR Prog .add 3 a1 a8 h).bind fun v353 h354 =>
 (binR Prog .add 3 v353 (.int .i64 1) h354).bind fun v355 h356 =>
 .ok (.tuple #[a1,v355]) h356:=by simp only [ζ21,ζ20,ζ1e,ζ1d,ζu,ζ18,ζt,ζs,ζr,ζq,ζp,ζk,ζj,ζi,ζiu,ζiv,ζiw,ζix,ζ1,ζ10,ζ12,ζ11,ζv,ζx,ζw,ζz,ζy,Nat.reduceBEq,cond_true,cond_false]
theorem ζ2s (k:Nat) (call:Caller) (a0 a1 a8 a12 a135:Value) (h:Heap):ζ21 k call a0 a1 a8 a12 a135 h =
 (binR Prog .add 3 a1 a8 h).bind fun v357 h358 =>
 (binR Prog .add 3 v357 (.int .i64 1) h358).bind fun v359 h360 =>
 .ok (.tuple #[a1,v359]) h360:=by simp only [ζ21,ζ20,ζ1e,ζ1d,ζu,ζ18,ζt,ζs,ζr,ζq,ζp,ζk,ζj,ζi,ζiy,ζiz,ζj0,ζj1,ζ1,ζ10,ζ12,ζ11,ζv,ζx,ζw,ζz,ζy,Nat.reduceBEq,cond_true,cond_false]
def ζfz (k:Nat) (call:Caller) (a1 a2 a3:Value) (h:Heap):Res Value :=
 kSeq (pieceK (C k) call F.ζ28 [1,1]) (kDone Prog (resOf Prog F.ζ28)) .normal [(1,a1),(2,a2),(3,a3)] h
def ζg0 (k:Nat) (call:Caller) (a1 a2 a3 a6:Value) (h:Heap):Res Value :=
 kSeq (pieceK (C k) call F.ζ28 [1,1]) (kDone Prog (resOf Prog F.ζ28)) .normal [(1,a1),(2,a2),(3,a3),(6,a6)] h
def ζcx (k:Nat) (call:Caller) (a2 a3:Value) (h:Heap):Res Value :=
 kSeq (pieceK (C k) call F.ζ28 [1,1,1]) (kDone Prog (resOf Prog F.ζ28)) .normal [(2,a2),(3,a3)] h
def ζcz (k:Nat) (call:Caller) (a1 a2 a3 a13:Value) (h:Heap):Res Value :=
 kSeq (pieceK (C k) call F.ζ28 [1,1,1]) (kDone Prog (resOf Prog F.ζ28)) .normal [(1,a1),(2,a2),(3,a3),(13,a13)] h
def ζ28 (k:Nat) (call:Caller) (a0:Value) (h:Heap):Res Value :=
 (boxR a0 h).bind fun v1 h2 =>
 (fieldAddrR Prog 130 v1 2 h2).bind fun v3 h4 =>
 (loadR Prog 3 v3 h4).bind fun v5 h6 =>
 (binR Prog .neq 3 v5 (.int .i64 65535) h6).bind fun v7 h8 =>
 condV (some v7) (
 (fieldAddrR Prog 130 v1 1 h8).bind fun v9 h10 =>
 (loadR Prog 3 v9 h10).bind fun v11 h12 =>
 (binR Prog .shr 3 v11 (.int .u64 5) h12).bind fun v13 h14 =>
 (binR Prog .and 3 v13 (.int .i64 31) h14).bind fun v15 h16 =>
 ζfz k call v1 v15 (.int .i64 0) h16)
 (
 ζg0 k call v1 (.int .i64 0) (.int .i64 0) v7 h8)
theorem ζqa (k:Nat) (a0:Value) (h:Heap):R (T k) F.ζ28 [a0] h = nrm .gc h (ζ28 k (R (T k)) a0 h) :=
 (R_body (t:=T k) (T_scott k) (by kernel_rfl) (by kernel_rfl) _ _).trans (by kernel_rfl)
theorem ζcv (k:Nat) (call:Caller) (a1 a2 a3:Value) (h:Heap):ζfz k call a1 a2 a3 h =
 (fieldAddrR Prog 130 a1 3 h).bind fun v17 h18 =>
 (loadR Prog 3 v17 h18).bind fun v19 h20 =>
 (binR Prog .neq 3 v19 (.int .i64 65535) h20).bind fun v21 h22 =>
 condV (some v21) (
 (fieldAddrR Prog 130 a1 1 h22).bind fun v23 h24 =>
 (loadR Prog 3 v23 h24).bind fun v25 h26 =>
 (binR Prog .and 3 v25 (.int .i64 31) h26).bind fun v27 h28 =>
 ζcx k call a2 v27 h28)
 (
 ζcz k call a1 a2 a3 v21 h22):=by kernel_rfl
theorem ζcw (k:Nat) (call:Caller) (a1 a2 a3 a6:Value) (h:Heap):ζg0 k call a1 a2 a3 a6 h =
 (fieldAddrR Prog 130 a1 3 h).bind fun v29 h30 =>
 (loadR Prog 3 v29 h30).bind fun v31 h32 =>
 (binR Prog .neq 3 v31 (.int .i64 65535) h32).bind fun v33 h34 =>
 condV (some v33) (
 (fieldAddrR Prog 130 a1 1 h34).bind fun v35 h36 =>
 (loadR Prog 3 v35 h36).bind fun v37 h38 =>
 (binR Prog .and 3 v37 (.int .i64 31) h38).bind fun v39 h40 =>
 ζcx k call a2 v39 h40)
 (
 ζcz k call a1 a2 a3 v33 h34):=by kernel_rfl
theorem ζcy (k:Nat) (call:Caller) (a2 a3:Value) (h:Heap):ζcx k call a2 a3 h =
 .ok (.tuple #[a2,a3]) h:=by kernel_rfl
theorem ζd0 (k:Nat) (call:Caller) (a1 a2 a3 a13:Value) (h:Heap):ζcz k call a1 a2 a3 a13 h =
 .ok (.tuple #[a2,a3]) h:=by kernel_rfl
def ζ2o (k:Nat) (call:Caller) (a0 a1 a2 a3:Value) (h:Heap):Res Value :=
 (nilR a0 h).bind fun v1 h2 =>
 (fieldAddrR Prog 257 v1 3 h2).bind fun v3 h4 =>
 (loadR Prog 3 v3 h4).bind fun v5 h6 =>
 (binR Prog .gtr 3 a3 v5 h6).bind fun v7 h8 =>
 condV (some v7) (
 (nilR a0 h8).bind fun v9 h10 =>
 (fieldAddrR Prog 257 v9 5 h10).bind fun v11 h12 =>
 (storeR Prog 4 v11 (.bool true) h12).bind fun _v13 h14 =>
 .ok (.bool false) h14)
 (
 (nilR a0 h8).bind fun v15 h16 =>
 (fieldAddrR Prog 257 v15 3 h16).bind fun v17 h18 =>
 (loadR Prog 3 v17 h18).bind fun v19 h20 =>
 (binR Prog .sub 3 v19 a3 h20).bind fun v21 h22 =>
 (nilR a0 h22).bind fun v23 h24 =>
 (fieldAddrR Prog 257 v23 3 h24).bind fun v25 h26 =>
 (storeR Prog 3 v25 v21 h26).bind fun _v27 h28 =>
 (nilR a0 h28).bind fun v29 h30 =>
 (fieldAddrR Prog 257 v29 4 h30).bind fun v31 h32 =>
 (loadR Prog 3 v31 h32).bind fun v33 h34 =>
 (binR Prog .add 3 v33 a3 h34).bind fun v35 h36 =>
 (nilR a0 h36).bind fun v37 h38 =>
 (fieldAddrR Prog 257 v37 4 h38).bind fun v39 h40 =>
 (storeR Prog 3 v39 v35 h40).bind fun _v41 h42 =>
 (nilR a0 h42).bindN fun v43 h44 =>
 (fieldAddrR Prog 257 v43 1 h44).bindN fun v45 h46 =>
 (loadR Prog 25 v45 h46).bindN fun v47 h48 =>
 (nilR a0 h48).bindN fun v49 h50 =>
 (fieldAddrR Prog 257 v49 0 h50).bindN fun v51 h52 =>
 (loadR Prog 155 v51 h52).bindN fun v53 h54 =>
 (call F.ζ27 [v53,a2,a3] h54).bindT (fun p57 h58 => .panic p57 h58) fun v55 h56 =>
 (call F.ζg [v47,a1,v55] h56).bindT (fun p61 h62 => chkR ((okVal (loadR Prog 25 v45 h56) v47 && true) && true) (.panic p61 h62)) fun v59 h60 =>
 chkR ((okVal (loadR Prog 25 v45 h56) v47 && true) && true) (
 .ok v59 h60))
theorem ζpf (k:Nat) (a0 a1 a2 a3:Value) (h:Heap):R (T k) F.ζ2o [a0,a1,a2,a3] h = nrm .no h (ζ2o k (R (T k)) a0 a1 a2 a3 h) :=
 (R_body (t:=T k) (T_scott k) (by kernel_rfl) (by kernel_rfl) _ _).trans (by kernel_rfl)
def ζ53 (k:Nat) (call:Caller):Env → Heap → Res (AExit × Env):=loopB (C k) call F.ζ27 [1,1,0,1,0,0]
def ζ6v (k:Nat) (call:Caller):Kont Value:=kBlock 0 (kSeq (pieceK (C k) call F.ζ27 [1,1,1]) (kDone Prog (resOf Prog F.ζ27)))
def ζ27 (k:Nat) (call:Caller) (a0 a1 a2:Value) (h:Heap):Res Value :=
 (loopN (ζ53 k call) loopFuel [(0,a0),(1,a1),(7,(.slice none 0 0)),(9,a2),(10,(.int .i64 0))] h).bind fun r1 h2 =>
 ζ6v k call r1.1 r1.2 h2
theorem ζfi (k:Nat) (a0 a1 a2:Value) (h:Heap):R (T k) F.ζ27 [a0,a1,a2] h = nrm .fz h (ζ27 k (R (T k)) a0 a1 a2 h) :=
 (R_body (t:=T k) (T_scott k) (by kernel_rfl) (by kernel_rfl) _ _).trans (by kernel_rfl)
theorem ζ5x (k:Nat) (call:Caller) (a0 a1 a7 a9 a10:Value) (h:Heap):ζ53 k call [(0,a0),(1,a1),(7,a7),(9,a9),(10,a10)] h =
 (binR Prog .lss 3 a10 a9 h).bind fun v3 h4 =>
 condV (some v3) (
 (nilR a0 h4).bind fun v5 h6 =>
 (fieldAddrR Prog 259 v5 1 h6).bind fun v7 h8 =>
 (loadR Prog 75 v7 h8).bind fun v9 h10 =>
 (binR Prog .add 3 a1 a10 h10).bind fun v11 h12 =>
 (binR Prog .mul 3 (.int .i64 2) v11 h12).bind fun v13 h14 =>
 (call F.ζb [v9,v13] h14).bind fun v15 h16 =>
 (buildSliceR Prog 23 1 [(0,v15)] h16).bind fun v17 h18 =>
 (builtinV Prog .append [23,23] [a7,v17] h18).bind fun v19 h20 =>
 (binR Prog .add 3 a10 (.int .i64 1) h20).bind fun v21 h22 =>
 .ok (.normal,[(0,a0),(1,a1),(7,v19),(9,a9),(10,v21)]) h22)
 (
 .ok ((.exit 0),[(0,a0),(1,a1),(7,a7),(9,a9),(10,a10),(11,v3)]) h4) :=
 (loopB_eq _ _).trans (by kernel_rfl)
theorem ζ9w (k:Nat) (call:Caller) (a0 a1 a7 a9 a10 a11:Value) (h:Heap):ζ6v k call (.exit 0) [(0,a0),(1,a1),(7,a7),(9,a9),(10,a10),(11,a11)] h =
 .ok a7 h:=by kernel_rfl
end
end Go.Sw
end
