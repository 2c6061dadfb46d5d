/-
  The functions of the package seek. Printed by SwGenMain.
-/
import Derived.Test.YtnaodjnimkndbaaSwCfg
set_option maxRecDepth 100000
set_option linter.unusedVariables false
namespace Go.Sw
noncomputable section
def seek_First_l1 (k : Nat) (call : Caller) : Env → Heap → Res (AExit × Env) := loopB (C k) call F.seek_First [1, 1, 0, 0, 0]
def seek_First_l1k (k : Nat) (call : Caller) : Kont Value := kBlock 0 (kSeq (pieceK (C k) call F.seek_First [1, 1, 1]) (kDone Prog (resOf Prog F.seek_First)))
def seek_First (k : Nat) (call : Caller) (a0 a1 : Value) (h : Heap) : Res Value :=
  (loopN (seek_First_l1 k call) loopFuel [(1, a1), (5, (.int .i64 0)), (6, a0)] h).bind fun r1 h2 =>
  seek_First_l1k k call r1.1 r1.2 h2
theorem seek_First_R (k : Nat) (a0 a1 : Value) (h : Heap) : R (T k) F.seek_First [a0, a1] h = nrm .gc h (seek_First k (R (T k)) a0 a1 h) :=
  (R_body (t := T k) (T_scott k) (by kernel_rfl) _ _).trans (by kernel_rfl)
theorem seek_First_l1_eq (k : Nat) (call : Caller) (a1 a5 a6 : Value) (h : Heap) : seek_First_l1 k call [(1, a1), (5, a5), (6, a6)] h =
  (binR Prog .lss 3 a5 a6 h).bind fun v3 h4 =>
  condV (some v3) (
    (binR Prog .sub 3 a6 a5 h4).bind fun v5 h6 =>
    (binR Prog .quo 3 v5 (.int .i64 2) h6).bind fun v7 h8 =>
    (binR Prog .add 3 a5 v7 h8).bind fun v9 h10 =>
    (callV call a1 [v9] h10).bind fun v11 h12 =>
    condV (some v11) (
      .ok (.normal, [(1, a1), (5, a5), (6, v9)]) h12)
    (
      (binR Prog .add 3 v9 (.int .i64 1) h12).bind fun v13 h14 =>
      .ok (.normal, [(1, a1), (5, v13), (6, a6)]) h14))
  (
    .ok ((.exit 0), [(1, a1), (5, a5), (6, a6), (11, v3)]) h4) :=
  (loopB_eq _ _).trans (by kernel_rfl)
theorem seek_First_l1k_x0 (k : Nat) (call : Caller) (a1 a5 a6 a11 : Value) (h : Heap) : seek_First_l1k k call (.exit 0) [(1, a1), (5, a5), (6, a6), (11, a11)] h =
  .ok a5 h := by kernel_rfl
def seek_Place (k : Nat) (call : Caller) (a0 a1 : Value) (h : Heap) : Res Value :=
  (boxR a0 h).bind fun v1 h2 =>
  (boxR a1 h2).bind fun v3 h4 =>
  (loadR Prog 28 v1 h4).bind fun v5 h6 =>
  (builtinV Prog .len [28] [v5] h6).bind fun v7 h8 =>
  (call F.seek_First [v7, (.func (.func F.seek_Place_in1) #[] #[v1, v3])] h8).bind fun v9 h10 =>
  (loadR Prog 28 v1 h10).bindN fun v11 h12 =>
  (builtinV Prog .len [28] [v11] h12).bindN fun v13 h14 =>
  (binR Prog .eql 3 v9 v13 h14).bindN fun v15 h16 =>
  ((bif wantVal v15 false then loadR Prog 28 v1 h16 else Res.ok undef h16)).bindN fun v17 h18 =>
  ((bif wantVal v15 false then Res.ok v9 h18 else Res.ok undef h18)).bindN fun v19 h20 =>
  ((bif wantVal v15 false then indexAddrR Prog 28 v17 v19 h20 else Res.ok undef h20)).bindN fun v21 h22 =>
  ((bif wantVal v15 false then loadR Prog 3 v21 h22 else Res.ok undef h22)).bindN fun v23 h24 =>
  ((bif wantVal v15 false then loadR Prog 3 v3 h24 else Res.ok undef h24)).bindN fun v25 h26 =>
  ((bif wantVal v15 false then binR Prog .neq 3 v23 v25 h26 else Res.ok undef h26)).bindN fun v27 h28 =>
  (condV (some v15) (Res.ok (.bool true) h28) (Res.ok v27 h28)).bindN fun v29 h30 =>
  condV (some v29) (
    .ok (.tuple #[(.int .i64 0), (.bool false)]) h30)
  (
    .ok (.tuple #[v9, (.bool true)]) h30)
theorem seek_Place_R (k : Nat) (a0 a1 : Value) (h : Heap) : R (T k) F.seek_Place [a0, a1] h = nrm .gc h (seek_Place k (R (T k)) a0 a1 h) :=
  (R_body (t := T k) (T_scott k) (by kernel_rfl) _ _).trans (by kernel_rfl)
def seek_Take_l1 (k : Nat) (call : Caller) : Env → Heap → Res (AExit × Env) := loopB (C k) call F.seek_Take [1, 1, 1, 1, 1, 1, 0, 1, 0, 0]
def seek_Take_l1k (k : Nat) (call : Caller) : Kont Value := kBlock 0 (kSeq (pieceK (C k) call F.seek_Take [1, 1, 1, 1, 1, 1, 1]) (kDone Prog (resOf Prog F.seek_Take)))
def seek_Take (k : Nat) (call : Caller) (a0 a1 a2 a3 : Value) (h : Heap) : Res Value :=
  (boxR a0 h).bind fun v1 h2 =>
  (loadR Prog 83 v1 h2).bindN fun v3 h4 =>
  (call F.view_View_U16 [v3, a1] h4).bindT (fun p7 h8 => (loadR Prog 83 v1 h4).bindN fun v9 h10 => (binR Prog .add 3 a1 (.int .i64 2) h10).bindN fun v11 h12 => chkR ((okVal (loadR Prog 83 v1 h2) v9 && true) && true) (.panic p7 h8)) fun v5 h6 =>
  (loadR Prog 83 v1 h6).bindN fun v13 h14 =>
  (binR Prog .add 3 a1 (.int .i64 2) h14).bindN fun v15 h16 =>
  (call F.view_View_U16 [v13, v15] h16).bindT (fun p19 h20 => chkR ((okVal (loadR Prog 83 v1 h2) v13 && true) && true) (.panic p19 h20)) fun v17 h18 =>
  chkR ((okVal (loadR Prog 83 v1 h2) v13 && true) && true) (
  (loadR Prog 83 v1 h18).bind fun v21 h22 =>
  (call F.view_View_Cut [v21, a1, (.int .i64 10)] h22).bind fun v23 h24 =>
  (binR Prog .geq 3 v5 a2 h24).bind fun v25 h26 =>
  (call F.view_Need [v25] h26).bind fun v27 h28 =>
  (loadR Prog 83 v1 h28).bind fun v29 h30 =>
  (binR Prog .add 3 a1 (.int .i64 10) h30).bind fun v31 h32 =>
  (call F.view_View_Rows [v29, v31, v17, v5] h32).bind fun v33 h34 =>
  (allocR Prog 83 h34).bind fun v35 h36 =>
  (storeR Prog 83 v35 v33 h36).bind fun _v37 h38 =>
  (loopN (seek_Take_l1 k call) loopFuel [(3, a3), (9, v5), (10, v17), (11, v35), (12, (.slice none 0 0)), (34, v17), (35, (.int .i64 0))] h38).bind fun r39 h40 =>
  seek_Take_l1k k call r39.1 r39.2 h40)
theorem seek_Take_R (k : Nat) (a0 a1 a2 a3 : Value) (h : Heap) : R (T k) F.seek_Take [a0, a1, a2, a3] h = nrm .fz h (seek_Take k (R (T k)) a0 a1 a2 a3 h) :=
  (R_body (t := T k) (T_scott k) (by kernel_rfl) _ _).trans (by kernel_rfl)
theorem seek_Take_l1_eq (k : Nat) (call : Caller) (a3 a9 a10 a11 a12 a34 a35 : Value) (h : Heap) : seek_Take_l1 k call [(3, a3), (9, a9), (10, a10), (11, a11), (12, a12), (34, a34), (35, a35)] h =
  (binR Prog .lss 3 a35 a34 h).bind fun v41 h42 =>
  condV (some v41) (
    (loadR Prog 83 a11 h42).bind fun v43 h44 =>
    (binR Prog .mul 3 a9 a35 h44).bind fun v45 h46 =>
    (call F.view_View_Cut [v43, v45, a9] h46).bind fun v47 h48 =>
    (buildSliceR Prog 301 1 [(0, v47)] h48).bind fun v49 h50 =>
    (builtinV Prog .append [301, 301] [a12, v49] h50).bind fun v51 h52 =>
    (binR Prog .add 3 a35 (.int .i64 1) h52).bind fun v53 h54 =>
    .ok (.normal, [(3, a3), (9, a9), (10, a10), (11, a11), (12, v51), (34, a34), (35, v53)]) h54)
  (
    .ok ((.exit 0), [(3, a3), (9, a9), (10, a10), (11, a11), (12, a12), (34, a34), (35, a35), (36, v41)]) h42) :=
  (loopB_eq _ _).trans (by kernel_rfl)
theorem seek_Take_l1k_x0 (k : Nat) (call : Caller) (a3 a9 a10 a11 a12 a34 a35 a36 : Value) (h : Heap) : seek_Take_l1k k call (.exit 0) [(3, a3), (9, a9), (10, a10), (11, a11), (12, a12), (34, a34), (35, a35), (36, a36)] h =
  (binR Prog .gtr 3 a10 (.int .i64 0) h).bind fun v55 h56 =>
  ((bif wantVal v55 true then Res.ok a12 h56 else Res.ok undef h56)).bind fun v57 h58 =>
  ((bif wantVal v55 true then Res.ok a10 h58 else Res.ok undef h58)).bind fun v59 h60 =>
  ((bif wantVal v55 true then binR Prog .sub 3 v59 (.int .i64 1) h60 else Res.ok undef h60)).bind fun v61 h62 =>
  ((bif wantVal v55 true then indexAddrR Prog 301 v57 v61 h62 else Res.ok undef h62)).bind fun v63 h64 =>
  ((bif wantVal v55 true then loadR Prog 83 v63 h64 else Res.ok undef h64)).bind fun v65 h66 =>
  ((bif wantVal v55 true then Res.ok a3 h66 else Res.ok undef h66)).bind fun v67 h68 =>
  ((bif wantVal v55 true then call F.seek_none [v65, v67] h68 else Res.ok undef h68)).bind fun v69 h70 =>
  (condV (some v55) (Res.ok v69 h70) (Res.ok (.bool false) h70)).bind fun v71 h72 =>
  condV (some v71) (
    (binR Prog .sub 3 a10 (.int .i64 1) h72).bind fun v73 h74 =>
    (sliceR Prog 301 a12 none (some v73) none h74).bind fun v75 h76 =>
    .ok v75 h76)
  (
    .ok a12 h72) := by kernel_rfl
def seek_Place_in1 (k : Nat) (call : Caller) (a0 a1 a2 : Value) (h : Heap) : Res Value :=
  (loadR Prog 28 a1 h).bindN fun v1 h2 =>
  (indexAddrR Prog 28 v1 a0 h2).bindN fun v3 h4 =>
  (loadR Prog 3 v3 h4).bindN fun v5 h6 =>
  (loadR Prog 3 a2 h6).bindN fun v7 h8 =>
  (binR Prog .geq 3 v5 v7 h8).bindN fun v9 h10 =>
  .ok v9 h10
theorem seek_Place_in1_R (k : Nat) (a0 a1 a2 : Value) (h : Heap) : R (T k) F.seek_Place_in1 [a0, a1, a2] h = nrm .gc h (seek_Place_in1 k (R (T k)) a0 a1 a2 h) :=
  (R_body (t := T k) (T_scott k) (by kernel_rfl) _ _).trans (by kernel_rfl)
def seek_none_l1 (k : Nat) (call : Caller) : Env → Heap → Res (AExit × Env) := loopB (C k) call F.seek_none [1, 0, 1, 0, 0]
def seek_none_l1k (k : Nat) (call : Caller) : Kont Value := kBlock 0 (kSeq (pieceK (C k) call F.seek_none [1, 1]) (kDone Prog (resOf Prog F.seek_none)))
def seek_none (k : Nat) (call : Caller) (a0 a1 : Value) (h : Heap) : Res Value :=
  (boxR a0 h).bind fun v1 h2 =>
  (loopN (seek_none_l1 k call) loopFuel [(2, v1), (6, a1), (7, (.int .i64 0))] h2).bind fun r3 h4 =>
  seek_none_l1k k call r3.1 r3.2 h4
theorem seek_none_R (k : Nat) (a0 a1 : Value) (h : Heap) : R (T k) F.seek_none [a0, a1] h = nrm .gc h (seek_none k (R (T k)) a0 a1 h) :=
  (R_body (t := T k) (T_scott k) (by kernel_rfl) _ _).trans (by kernel_rfl)
theorem seek_none_l1_eq (k : Nat) (call : Caller) (a2 a6 a7 : Value) (h : Heap) : seek_none_l1 k call [(2, a2), (6, a6), (7, a7)] h =
  (binR Prog .lss 3 a7 a6 h).bind fun v5 h6 =>
  condV (some v5) (
    (loadR Prog 83 a2 h6).bind fun v7 h8 =>
    (binR Prog .mul 3 (.int .i64 2) a7 h8).bind fun v9 h10 =>
    (call F.view_View_U16 [v7, v9] h10).bind fun v11 h12 =>
    (binR Prog .neq 3 v11 (.int .i64 65535) h12).bind fun v13 h14 =>
    condV (some v13) (
      .ok (.ret, [(4, (.bool false))]) h14)
    (
      (binR Prog .add 3 a7 (.int .i64 1) h14).bind fun v15 h16 =>
      .ok (.normal, [(2, a2), (6, a6), (7, v15)]) h16))
  (
    .ok ((.exit 0), [(2, a2), (6, a6), (7, a7), (8, v5)]) h6) :=
  (loopB_eq _ _).trans (by kernel_rfl)
theorem seek_none_l1k_r (k : Nat) (call : Caller) (a4 : Value) (h : Heap) : seek_none_l1k k call .ret [(4, a4)] h =
  .ok a4 h := by kernel_rfl
theorem seek_none_l1k_x0 (k : Nat) (call : Caller) (a2 a6 a7 a8 : Value) (h : Heap) : seek_none_l1k k call (.exit 0) [(2, a2), (6, a6), (7, a7), (8, a8)] h =
  .ok (.bool true) h := by kernel_rfl
end
end Go.Sw
