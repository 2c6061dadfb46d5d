/-
  The functions of the package swashref21. Printed by SwGenMain.
-/
import Derived.Test.YtnaodjnimkndbaaSwCfg
set_option maxRecDepth 100000
set_option linter.unusedVariables false
namespace Go.Sw
noncomputable section
def swashref21_Clamp (k : Nat) (call : Caller) (a0 : Value) (h : Heap) : Res Value :=
  (binR Prog .gtr 3 a0 (.int .i64 2147483647) h).bind fun v1 h2 =>
  condV (some v1) (
    .ok (.int .i64 2147483647) h2)
  (
    (binR Prog .lss 3 a0 (.int .i64 (-2147483648)) h2).bind fun v3 h4 =>
    condV (some v3) (
      .ok (.int .i64 (-2147483648)) h4)
    (
      .ok a0 h4))
theorem swashref21_Clamp_R (k : Nat) (a0 : Value) (h : Heap) : R (T k) F.swashref21_Clamp [a0] h = nrm .gc h (swashref21_Clamp k (R (T k)) a0 h) :=
  (R_body (t := T k) (T_scott k) (by kernel_rfl) _ _).trans (by kernel_rfl)
def swashref21_Add (k : Nat) (call : Caller) (a0 a1 : Value) (h : Heap) : Res Value :=
  (convR Prog 21 3 a0 h).bind fun v1 h2 =>
  (call F.swashref21_Clamp [a1] h2).bind fun v3 h4 =>
  (binR Prog .add 3 v1 v3 h4).bind fun v5 h6 =>
  (call F.swashref21_Clamp [v5] h6).bind fun v7 h8 =>
  (convR Prog 3 21 v7 h8).bind fun v9 h10 =>
  .ok v9 h10
theorem swashref21_Add_R (k : Nat) (a0 a1 : Value) (h : Heap) : R (T k) F.swashref21_Add [a0, a1] h = nrm .gc h (swashref21_Add k (R (T k)) a0 a1 h) :=
  (R_body (t := T k) (T_scott k) (by kernel_rfl) _ _).trans (by kernel_rfl)
def swashref21_Same_l1 (k : Nat) (call : Caller) : Env → Heap → Res (AExit × Env) := loopB (C k) call F.swashref21_Same [1, 1, 0, 1, 0, 0]
def swashref21_Same_l1k (k : Nat) (call : Caller) : Kont Value := kBlock 0 (kSeq (pieceK (C k) call F.swashref21_Same [1, 1, 1]) (kDone Prog (resOf Prog F.swashref21_Same)))
def swashref21_Same (k : Nat) (call : Caller) (a0 a1 : Value) (h : Heap) : Res Value :=
  (builtinV Prog .len [31] [a0] h).bind fun v1 h2 =>
  (builtinV Prog .len [31] [a1] h2).bind fun v3 h4 =>
  (binR Prog .neq 3 v1 v3 h4).bind fun v5 h6 =>
  condV (some v5) (
    .ok (.bool false) h6)
  (
    (loopN (swashref21_Same_l1 k call) loopFuel [(0, a0), (1, a1), (5, (.int .i64 0))] h6).bind fun r7 h8 =>
    swashref21_Same_l1k k call r7.1 r7.2 h8)
theorem swashref21_Same_R (k : Nat) (a0 a1 : Value) (h : Heap) : R (T k) F.swashref21_Same [a0, a1] h = nrm .gc h (swashref21_Same k (R (T k)) a0 a1 h) :=
  (R_body (t := T k) (T_scott k) (by kernel_rfl) _ _).trans (by kernel_rfl)
theorem swashref21_Same_l1_eq (k : Nat) (call : Caller) (a0 a1 a5 : Value) (h : Heap) : swashref21_Same_l1 k call [(0, a0), (1, a1), (5, a5)] h =
  (builtinV Prog .len [31] [a0] h).bind fun v9 h10 =>
  (binR Prog .lss 3 a5 v9 h10).bind fun v11 h12 =>
  condV (some v11) (
    (indexAddrR Prog 31 a0 a5 h12).bindN fun v13 h14 =>
    (loadR Prog 34 v13 h14).bindN fun v15 h16 =>
    (indexAddrR Prog 31 a1 a5 h16).bindN fun v17 h18 =>
    (loadR Prog 34 v17 h18).bindN fun v19 h20 =>
    (binR Prog .neq 34 v15 v19 h20).bindN fun v21 h22 =>
    condV (some v21) (
      .ok (.ret, [(4, (.bool false))]) h22)
    (
      (binR Prog .add 3 a5 (.int .i64 1) h22).bind fun v23 h24 =>
      .ok (.normal, [(0, a0), (1, a1), (5, v23)]) h24))
  (
    .ok ((.exit 0), [(0, a0), (1, a1), (5, a5), (14, v11)]) h12) :=
  (loopB_eq _ _).trans (by kernel_rfl)
theorem swashref21_Same_l1k_r (k : Nat) (call : Caller) (a4 : Value) (h : Heap) : swashref21_Same_l1k k call .ret [(4, a4)] h =
  .ok a4 h := by kernel_rfl
theorem swashref21_Same_l1k_x0 (k : Nat) (call : Caller) (a0 a1 a5 a14 : Value) (h : Heap) : swashref21_Same_l1k k call (.exit 0) [(0, a0), (1, a1), (5, a5), (14, a14)] h =
  .ok (.bool true) h := by kernel_rfl
def swashref21_New_l1 (k : Nat) (call : Caller) : Env → Heap → Res (AExit × Env) := loopB (C k) call F.swashref21_New [1, 1, 0, 1, 0, 0]
def swashref21_New_l1k (k : Nat) (call : Caller) : Kont Value := kBlock 0 (kSeq (pieceK (C k) call F.swashref21_New [1, 1, 1]) (kDone Prog (resOf Prog F.swashref21_New)))
def swashref21_New (k : Nat) (call : Caller) (a0 : Value) (h : Heap) : Res Value :=
  (buildSliceR Prog 31 0 [] h).bind fun v1 h2 =>
  (loopN (swashref21_New_l1 k call) loopFuel [(0, a0), (3, v1), (4, (.int .i64 0))] h2).bind fun r3 h4 =>
  swashref21_New_l1k k call r3.1 r3.2 h4
theorem swashref21_New_R (k : Nat) (a0 : Value) (h : Heap) : R (T k) F.swashref21_New [a0] h = nrm .fz h (swashref21_New k (R (T k)) a0 h) :=
  (R_body (t := T k) (T_scott k) (by kernel_rfl) _ _).trans (by kernel_rfl)
theorem swashref21_New_l1_eq (k : Nat) (call : Caller) (a0 a3 a4 : Value) (h : Heap) : swashref21_New_l1 k call [(0, a0), (3, a3), (4, a4)] h =
  (builtinV Prog .len [28] [a0] h).bind fun v5 h6 =>
  (binR Prog .lss 3 a4 v5 h6).bind fun v7 h8 =>
  condV (some v7) (
    (indexAddrR Prog 28 a0 a4 h8).bind fun v9 h10 =>
    (loadR Prog 3 v9 h10).bind fun v11 h12 =>
    (call F.swashref21_Clamp [v11] h12).bind fun v13 h14 =>
    (convR Prog 3 21 v13 h14).bind fun v15 h16 =>
    (buildR Prog 34 [(0, v15)] h16).bind fun v17 h18 =>
    (buildSliceR Prog 31 1 [(0, v17)] h18).bind fun v19 h20 =>
    (builtinV Prog .append [31, 31] [a3, v19] h20).bind fun v21 h22 =>
    (binR Prog .add 3 a4 (.int .i64 1) h22).bind fun v23 h24 =>
    .ok (.normal, [(0, a0), (3, v21), (4, v23)]) h24)
  (
    .ok ((.exit 0), [(0, a0), (3, a3), (4, a4), (9, v7)]) h8) :=
  (loopB_eq _ _).trans (by kernel_rfl)
theorem swashref21_New_l1k_x0 (k : Nat) (call : Caller) (a0 a3 a4 a9 : Value) (h : Heap) : swashref21_New_l1k k call (.exit 0) [(0, a0), (3, a3), (4, a4), (9, a9)] h =
  .ok a3 h := by kernel_rfl
def swashref21_More_j1 (k : Nat) (call : Caller) (a11 : Value) (h : Heap) : Res Value :=
  kSeq (pieceK (C k) call F.swashref21_More [1, 1, 1]) (kDone Prog (resOf Prog F.swashref21_More)) .normal [(11, a11)] h
def swashref21_More_j2 (k : Nat) (call : Caller) (a1 a2 a3 a4 a11 a22 : Value) (h : Heap) : Res Value :=
  kSeq (pieceK (C k) call F.swashref21_More [1, 1, 1]) (kDone Prog (resOf Prog F.swashref21_More)) .normal [(1, a1), (2, a2), (3, a3), (4, a4), (11, a11), (22, a22)] h
def swashref21_More (k : Nat) (call : Caller) (a0 a1 a2 a3 a4 : Value) (h : Heap) : Res Value :=
  (buildSliceR Prog 31 0 [] h).bind fun v1 h2 =>
  (builtinV Prog .append [31, 31] [v1, a0] h2).bind fun v3 h4 =>
  (binR Prog .geq 3 a1 (.int .i64 0) h4).bind fun v5 h6 =>
  ((bif wantVal v5 true then Res.ok a1 h6 else Res.ok undef h6)).bind fun v7 h8 =>
  ((bif wantVal v5 true then Res.ok v3 h8 else Res.ok undef h8)).bind fun v9 h10 =>
  ((bif wantVal v5 true then builtinV Prog .len [31] [v9] h10 else Res.ok undef h10)).bind fun v11 h12 =>
  ((bif wantVal v5 true then binR Prog .lss 3 v7 v11 h12 else Res.ok undef h12)).bind fun v13 h14 =>
  (condV (some v5) (Res.ok v13 h14) (Res.ok (.bool false) h14)).bind fun v15 h16 =>
  condV (some v15) (
    (indexAddrR Prog 31 v3 a1 h16).bind fun v17 h18 =>
    (fieldAddrR Prog 34 v17 0 h18).bind fun v19 h20 =>
    (loadR Prog 21 v19 h20).bind fun v21 h22 =>
    (call F.swashref21_Add [v21, a2] h22).bind fun v23 h24 =>
    (indexAddrR Prog 31 v3 a1 h24).bind fun v25 h26 =>
    (fieldAddrR Prog 34 v25 0 h26).bind fun v27 h28 =>
    (storeR Prog 21 v27 v23 h28).bind fun _v29 h30 =>
    (indexAddrR Prog 31 v3 a1 h30).bind fun v31 h32 =>
    (fieldAddrR Prog 34 v31 1 h32).bind fun v33 h34 =>
    (loadR Prog 21 v33 h34).bind fun v35 h36 =>
    (call F.swashref21_Add [v35, a3] h36).bind fun v37 h38 =>
    (indexAddrR Prog 31 v3 a1 h38).bind fun v39 h40 =>
    (fieldAddrR Prog 34 v39 1 h40).bind fun v41 h42 =>
    (storeR Prog 21 v41 v37 h42).bind fun _v43 h44 =>
    (indexAddrR Prog 31 v3 a1 h44).bind fun v45 h46 =>
    (fieldAddrR Prog 34 v45 2 h46).bind fun v47 h48 =>
    (loadR Prog 21 v47 h48).bind fun v49 h50 =>
    (call F.swashref21_Add [v49, a4] h50).bind fun v51 h52 =>
    (indexAddrR Prog 31 v3 a1 h52).bind fun v53 h54 =>
    (fieldAddrR Prog 34 v53 2 h54).bind fun v55 h56 =>
    (storeR Prog 21 v55 v51 h56).bind fun _v57 h58 =>
    swashref21_More_j1 k call v3 h58)
  (
    swashref21_More_j2 k call a1 a2 a3 a4 v3 v15 h16)
theorem swashref21_More_R (k : Nat) (a0 a1 a2 a3 a4 : Value) (h : Heap) : R (T k) F.swashref21_More [a0, a1, a2, a3, a4] h = nrm .fz h (swashref21_More k (R (T k)) a0 a1 a2 a3 a4 h) :=
  (R_body (t := T k) (T_scott k) (by kernel_rfl) _ _).trans (by kernel_rfl)
theorem swashref21_More_j1_eq (k : Nat) (call : Caller) (a11 : Value) (h : Heap) : swashref21_More_j1 k call a11 h =
  .ok a11 h := by kernel_rfl
theorem swashref21_More_j2_eq (k : Nat) (call : Caller) (a1 a2 a3 a4 a11 a22 : Value) (h : Heap) : swashref21_More_j2 k call a1 a2 a3 a4 a11 a22 h =
  .ok a11 h := by kernel_rfl
def swashref21_Across (k : Nat) (call : Caller) (a0 a1 a2 a3 : Value) (h : Heap) : Res Value :=
  condV (some a1) (
    (call F.swashref21_More [a0, a2, (.int .i64 0), a3, (.int .i64 0)] h).bind fun v1 h2 =>
    .ok v1 h2)
  (
    (call F.swashref21_More [a0, a2, (.int .i64 0), (.int .i64 0), a3] h).bind fun v3 h4 =>
    .ok v3 h4)
theorem swashref21_Across_R (k : Nat) (a0 a1 a2 a3 : Value) (h : Heap) : R (T k) F.swashref21_Across [a0, a1, a2, a3] h = nrm .fz h (swashref21_Across k (R (T k)) a0 a1 a2 a3 h) :=
  (R_body (t := T k) (T_scott k) (by kernel_rfl) _ _).trans (by kernel_rfl)
def swashref21_Level_j1 (k : Nat) (call : Caller) (a7 : Value) (h : Heap) : Res Value :=
  kSeq (pieceK (C k) call F.swashref21_Level [1, 1, 1]) (kDone Prog (resOf Prog F.swashref21_Level)) .normal [(7, a7)] h
def swashref21_Level_j2 (k : Nat) (call : Caller) (a2 a7 a33 : Value) (h : Heap) : Res Value :=
  kSeq (pieceK (C k) call F.swashref21_Level [1, 1, 1]) (kDone Prog (resOf Prog F.swashref21_Level)) .normal [(2, a2), (7, a7), (33, a33)] h
def swashref21_Level (k : Nat) (call : Caller) (a0 a1 a2 : Value) (h : Heap) : Res Value :=
  (buildSliceR Prog 31 0 [] h).bind fun v1 h2 =>
  (builtinV Prog .append [31, 31] [v1, a0] h2).bind fun v3 h4 =>
  (binR Prog .geq 3 a2 (.int .i64 0) h4).bind fun v5 h6 =>
  ((bif wantVal v5 true then Res.ok a2 h6 else Res.ok undef h6)).bind fun v7 h8 =>
  ((bif wantVal v5 true then Res.ok v3 h8 else Res.ok undef h8)).bind fun v9 h10 =>
  ((bif wantVal v5 true then builtinV Prog .len [31] [v9] h10 else Res.ok undef h10)).bind fun v11 h12 =>
  ((bif wantVal v5 true then binR Prog .lss 3 v7 v11 h12 else Res.ok undef h12)).bind fun v13 h14 =>
  (condV (some v5) (Res.ok v13 h14) (Res.ok (.bool false) h14)).bind fun v15 h16 =>
  ((bif wantVal v15 true then Res.ok a1 h16 else Res.ok undef h16)).bind fun v17 h18 =>
  (condV (some v15) (Res.ok v17 h18) (Res.ok (.bool false) h18)).bind fun v19 h20 =>
  condV (some v19) (
    (indexAddrR Prog 31 v3 a2 h20).bind fun v21 h22 =>
    (fieldAddrR Prog 34 v21 1 h22).bind fun v23 h24 =>
    (storeR Prog 21 v23 (.int .i32 0) h24).bind fun _v25 h26 =>
    swashref21_Level_j1 k call v3 h26)
  (
    (binR Prog .geq 3 a2 (.int .i64 0) h20).bind fun v27 h28 =>
    ((bif wantVal v27 true then Res.ok a2 h28 else Res.ok undef h28)).bind fun v29 h30 =>
    ((bif wantVal v27 true then Res.ok v3 h30 else Res.ok undef h30)).bind fun v31 h32 =>
    ((bif wantVal v27 true then builtinV Prog .len [31] [v31] h32 else Res.ok undef h32)).bind fun v33 h34 =>
    ((bif wantVal v27 true then binR Prog .lss 3 v29 v33 h34 else Res.ok undef h34)).bind fun v35 h36 =>
    (condV (some v27) (Res.ok v35 h36) (Res.ok (.bool false) h36)).bind fun v37 h38 =>
    condV (some v37) (
      (indexAddrR Prog 31 v3 a2 h38).bind fun v39 h40 =>
      (fieldAddrR Prog 34 v39 2 h40).bind fun v41 h42 =>
      (storeR Prog 21 v41 (.int .i32 0) h42).bind fun _v43 h44 =>
      swashref21_Level_j1 k call v3 h44)
    (
      swashref21_Level_j2 k call a2 v3 v37 h38))
theorem swashref21_Level_R (k : Nat) (a0 a1 a2 : Value) (h : Heap) : R (T k) F.swashref21_Level [a0, a1, a2] h = nrm .fz h (swashref21_Level k (R (T k)) a0 a1 a2 h) :=
  (R_body (t := T k) (T_scott k) (by kernel_rfl) _ _).trans (by kernel_rfl)
theorem swashref21_Level_j1_eq (k : Nat) (call : Caller) (a7 : Value) (h : Heap) : swashref21_Level_j1 k call a7 h =
  .ok a7 h := by kernel_rfl
theorem swashref21_Level_j2_eq (k : Nat) (call : Caller) (a2 a7 a33 : Value) (h : Heap) : swashref21_Level_j2 k call a2 a7 a33 h =
  .ok a7 h := by kernel_rfl
def swashref21_Turn_l1 (k : Nat) (call : Caller) : Env → Heap → Res (AExit × Env) := loopB (C k) call F.swashref21_Turn [1, 1, 0, 1, 0, 0]
def swashref21_Turn_l1k (k : Nat) (call : Caller) : Kont Value := kBlock 0 (kSeq (pieceK (C k) call F.swashref21_Turn [1, 1, 1]) (kDone Prog (resOf Prog F.swashref21_Turn)))
def swashref21_Turn (k : Nat) (call : Caller) (a0 : Value) (h : Heap) : Res Value :=
  (buildSliceR Prog 31 0 [] h).bind fun v1 h2 =>
  (builtinV Prog .len [31] [a0] h2).bind fun v3 h4 =>
  (binR Prog .sub 3 v3 (.int .i64 1) h4).bind fun v5 h6 =>
  (loopN (swashref21_Turn_l1 k call) loopFuel [(0, a0), (3, v1), (4, v5)] h6).bind fun r7 h8 =>
  swashref21_Turn_l1k k call r7.1 r7.2 h8
theorem swashref21_Turn_R (k : Nat) (a0 : Value) (h : Heap) : R (T k) F.swashref21_Turn [a0] h = nrm .fz h (swashref21_Turn k (R (T k)) a0 h) :=
  (R_body (t := T k) (T_scott k) (by kernel_rfl) _ _).trans (by kernel_rfl)
theorem swashref21_Turn_l1_eq (k : Nat) (call : Caller) (a0 a3 a4 : Value) (h : Heap) : swashref21_Turn_l1 k call [(0, a0), (3, a3), (4, a4)] h =
  (binR Prog .geq 3 a4 (.int .i64 0) h).bind fun v9 h10 =>
  condV (some v9) (
    (indexAddrR Prog 31 a0 a4 h10).bind fun v11 h12 =>
    (loadR Prog 34 v11 h12).bind fun v13 h14 =>
    (buildSliceR Prog 31 1 [(0, v13)] h14).bind fun v15 h16 =>
    (builtinV Prog .append [31, 31] [a3, v15] h16).bind fun v17 h18 =>
    (binR Prog .sub 3 a4 (.int .i64 1) h18).bind fun v19 h20 =>
    .ok (.normal, [(0, a0), (3, v17), (4, v19)]) h20)
  (
    .ok ((.exit 0), [(0, a0), (3, a3), (4, a4), (10, v9)]) h10) :=
  (loopB_eq _ _).trans (by kernel_rfl)
theorem swashref21_Turn_l1k_x0 (k : Nat) (call : Caller) (a0 a3 a4 a10 : Value) (h : Heap) : swashref21_Turn_l1k k call (.exit 0) [(0, a0), (3, a3), (4, a4), (10, a10)] h =
  .ok a3 h := by kernel_rfl
end
end Go.Sw
