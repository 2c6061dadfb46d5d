/-
  The functions of the package swashref11. Printed by SwGenMain.
-/
import Derived.Test.YtnaodjnimkndbaaSwCfg
set_option maxRecDepth 100000
set_option linter.unusedVariables false
namespace Go.Sw
noncomputable section
def swashref11_Same_l1 (k : Nat) (call : Caller) : Env → Heap → Res (AExit × Env) := loopB (C k) call F.swashref11_Same [1, 1, 0, 1, 0, 0]
def swashref11_Same_l1k (k : Nat) (call : Caller) : Kont Value := kBlock 0 (kSeq (pieceK (C k) call F.swashref11_Same [1, 1, 1]) (kDone Prog (resOf Prog F.swashref11_Same)))
def swashref11_Same (k : Nat) (call : Caller) (a0 a1 : Value) (h : Heap) : Res Value :=
  (builtinV Prog .len [50] [a0] h).bind fun v1 h2 =>
  (builtinV Prog .len [50] [a1] h2).bind fun v3 h4 =>
  (binR Prog .neq 3 v1 v3 h4).bind fun v5 h6 =>
  condV (some v5) (
    .ok (.bool false) h6)
  (
    (loopN (swashref11_Same_l1 k call) loopFuel [(0, a0), (1, a1), (5, (.int .i64 0))] h6).bind fun r7 h8 =>
    swashref11_Same_l1k k call r7.1 r7.2 h8)
theorem swashref11_Same_R (k : Nat) (a0 a1 : Value) (h : Heap) : R (T k) F.swashref11_Same [a0, a1] h = nrm .fz h (swashref11_Same k (R (T k)) a0 a1 h) :=
  (R_body (t := T k) (T_scott k) (by kernel_rfl) _ _).trans (by kernel_rfl)
theorem swashref11_Same_l1_eq (k : Nat) (call : Caller) (a0 a1 a5 : Value) (h : Heap) : swashref11_Same_l1 k call [(0, a0), (1, a1), (5, a5)] h =
  (builtinV Prog .len [50] [a0] h).bind fun v9 h10 =>
  (binR Prog .lss 3 a5 v9 h10).bind fun v11 h12 =>
  condV (some v11) (
    (indexAddrR Prog 50 a0 a5 h12).bindN fun v13 h14 =>
    (loadR Prog 55 v13 h14).bindN fun v15 h16 =>
    (indexAddrR Prog 50 a1 a5 h16).bindN fun v17 h18 =>
    (loadR Prog 55 v17 h18).bindN fun v19 h20 =>
    (binR Prog .neq 55 v15 v19 h20).bindN fun v21 h22 =>
    condV (some v21) (
      .ok (.ret, [(4, (.bool false))]) h22)
    (
      (binR Prog .add 3 a5 (.int .i64 1) h22).bind fun v23 h24 =>
      .ok (.normal, [(0, a0), (1, a1), (5, v23)]) h24))
  (
    .ok ((.exit 0), [(0, a0), (1, a1), (5, a5), (14, v11)]) h12) :=
  (loopB_eq _ _).trans (by kernel_rfl)
theorem swashref11_Same_l1k_r (k : Nat) (call : Caller) (a4 : Value) (h : Heap) : swashref11_Same_l1k k call .ret [(4, a4)] h =
  .ok a4 h := by kernel_rfl
theorem swashref11_Same_l1k_x0 (k : Nat) (call : Caller) (a0 a1 a5 a14 : Value) (h : Heap) : swashref11_Same_l1k k call (.exit 0) [(0, a0), (1, a1), (5, a5), (14, a14)] h =
  .ok (.bool true) h := by kernel_rfl
def swashref11_New_l1 (k : Nat) (call : Caller) : Env → Heap → Res (AExit × Env) := loopB (C k) call F.swashref11_New [1, 1, 0, 1, 0, 0]
def swashref11_New_l1k (k : Nat) (call : Caller) : Kont Value := kBlock 0 (kSeq (pieceK (C k) call F.swashref11_New [1, 1, 1]) (kDone Prog (resOf Prog F.swashref11_New)))
def swashref11_New (k : Nat) (call : Caller) (a0 : Value) (h : Heap) : Res Value :=
  (buildSliceR Prog 50 0 [] h).bind fun v1 h2 =>
  (loopN (swashref11_New_l1 k call) loopFuel [(0, a0), (3, v1), (4, (.int .i64 0))] h2).bind fun r3 h4 =>
  swashref11_New_l1k k call r3.1 r3.2 h4
theorem swashref11_New_R (k : Nat) (a0 : Value) (h : Heap) : R (T k) F.swashref11_New [a0] h = nrm .fz h (swashref11_New k (R (T k)) a0 h) :=
  (R_body (t := T k) (T_scott k) (by kernel_rfl) _ _).trans (by kernel_rfl)
theorem swashref11_New_l1_eq (k : Nat) (call : Caller) (a0 a3 a4 : Value) (h : Heap) : swashref11_New_l1 k call [(0, a0), (3, a3), (4, a4)] h =
  (builtinV Prog .len [28] [a0] h).bind fun v5 h6 =>
  (binR Prog .lss 3 a4 v5 h6).bind fun v7 h8 =>
  condV (some v7) (
    (indexAddrR Prog 28 a0 a4 h8).bind fun v9 h10 =>
    (loadR Prog 3 v9 h10).bind fun v11 h12 =>
    (buildR Prog 55 [(0, v11), (1, a4)] h12).bind fun v13 h14 =>
    (buildSliceR Prog 50 1 [(0, v13)] h14).bind fun v15 h16 =>
    (builtinV Prog .append [50, 50] [a3, v15] h16).bind fun v17 h18 =>
    (binR Prog .add 3 a4 (.int .i64 1) h18).bind fun v19 h20 =>
    .ok (.normal, [(0, a0), (3, v17), (4, v19)]) h20)
  (
    .ok ((.exit 0), [(0, a0), (3, a3), (4, a4), (9, v7)]) h8) :=
  (loopB_eq _ _).trans (by kernel_rfl)
theorem swashref11_New_l1k_x0 (k : Nat) (call : Caller) (a0 a3 a4 a9 : Value) (h : Heap) : swashref11_New_l1k k call (.exit 0) [(0, a0), (3, a3), (4, a4), (9, a9)] h =
  .ok a3 h := by kernel_rfl
def swashref11_Set (k : Nat) (call : Caller) (a0 a1 a2 : Value) (h : Heap) : Res Value :=
  (binR Prog .lss 3 a1 (.int .i64 0) h).bind fun v1 h2 =>
  ((bif wantVal v1 false then Res.ok a1 h2 else Res.ok undef h2)).bind fun v3 h4 =>
  ((bif wantVal v1 false then Res.ok a0 h4 else Res.ok undef h4)).bind fun v5 h6 =>
  ((bif wantVal v1 false then builtinV Prog .len [50] [v5] h6 else Res.ok undef h6)).bind fun v7 h8 =>
  ((bif wantVal v1 false then binR Prog .geq 3 v3 v7 h8 else Res.ok undef h8)).bind fun v9 h10 =>
  (condV (some v1) (Res.ok (.bool true) h10) (Res.ok v9 h10)).bind fun v11 h12 =>
  condV (some v11) (
    .ok (.tuple #[a0, (.bool false)]) h12)
  (
    (buildSliceR Prog 50 0 [] h12).bind fun v13 h14 =>
    (builtinV Prog .append [50, 50] [v13, a0] h14).bind fun v15 h16 =>
    (indexAddrR Prog 50 v15 a1 h16).bind fun v17 h18 =>
    (fieldAddrR Prog 55 v17 0 h18).bind fun v19 h20 =>
    (storeR Prog 3 v19 a2 h20).bind fun _v21 h22 =>
    .ok (.tuple #[v15, (.bool true)]) h22)
theorem swashref11_Set_R (k : Nat) (a0 a1 a2 : Value) (h : Heap) : R (T k) F.swashref11_Set [a0, a1, a2] h = nrm .fz h (swashref11_Set k (R (T k)) a0 a1 a2 h) :=
  (R_body (t := T k) (T_scott k) (by kernel_rfl) _ _).trans (by kernel_rfl)
def swashref11_Insert_j1 (k : Nat) (call : Caller) (a0 a1 a2 a8 : Value) (h : Heap) : Res Value :=
  kSeq (pieceK (C k) call F.swashref11_Insert [1, 1, 1, 1]) (kDone Prog (resOf Prog F.swashref11_Insert)) .normal [(0, a0), (1, a1), (2, a2), (8, a8)] h
def swashref11_Insert_j2 (k : Nat) (call : Caller) (a0 a1 a2 a8 a30 : Value) (h : Heap) : Res Value :=
  kSeq (pieceK (C k) call F.swashref11_Insert [1, 1, 1, 1]) (kDone Prog (resOf Prog F.swashref11_Insert)) .normal [(0, a0), (1, a1), (2, a2), (8, a8), (30, a30)] h
def swashref11_Insert_l1 (k : Nat) (call : Caller) : Env → Heap → Res (AExit × Env) := loopB (C k) call F.swashref11_Insert [1, 1, 1, 1, 1, 0, 1, 0, 0]
def swashref11_Insert_l1k (k : Nat) (call : Caller) : Kont Value := kBlock 0 (kSeq (pieceK (C k) call F.swashref11_Insert [1, 1, 1, 1, 1, 1]) (kDone Prog (resOf Prog F.swashref11_Insert)))
def swashref11_Insert (k : Nat) (call : Caller) (a0 a1 a2 : Value) (h : Heap) : Res Value :=
  (binR Prog .lss 3 a1 (.int .i64 0) h).bind fun v1 h2 =>
  ((bif wantVal v1 false then Res.ok a1 h2 else Res.ok undef h2)).bind fun v3 h4 =>
  ((bif wantVal v1 false then Res.ok a0 h4 else Res.ok undef h4)).bind fun v5 h6 =>
  ((bif wantVal v1 false then builtinV Prog .len [50] [v5] h6 else Res.ok undef h6)).bind fun v7 h8 =>
  ((bif wantVal v1 false then binR Prog .gtr 3 v3 v7 h8 else Res.ok undef h8)).bind fun v9 h10 =>
  (condV (some v1) (Res.ok (.bool true) h10) (Res.ok v9 h10)).bind fun v11 h12 =>
  condV (some v11) (
    .ok (.tuple #[a0, (.bool false)]) h12)
  (
    (builtinV Prog .len [50] [a0] h12).bind fun v13 h14 =>
    (binR Prog .lss 3 a1 v13 h14).bind fun v15 h16 =>
    condV (some v15) (
      (indexAddrR Prog 50 a0 a1 h16).bind fun v17 h18 =>
      (fieldAddrR Prog 55 v17 1 h18).bind fun v19 h20 =>
      (loadR Prog 3 v19 h20).bind fun v21 h22 =>
      swashref11_Insert_j1 k call a0 a1 a2 v21 h22)
    (
      (binR Prog .gtr 3 a1 (.int .i64 0) h16).bind fun v23 h24 =>
      condV (some v23) (
        (binR Prog .sub 3 a1 (.int .i64 1) h24).bind fun v25 h26 =>
        (indexAddrR Prog 50 a0 v25 h26).bind fun v27 h28 =>
        (fieldAddrR Prog 55 v27 1 h28).bind fun v29 h30 =>
        (loadR Prog 3 v29 h30).bind fun v31 h32 =>
        swashref11_Insert_j1 k call a0 a1 a2 v31 h32)
      (
        swashref11_Insert_j2 k call a0 a1 a2 (.int .i64 0) v23 h24)))
theorem swashref11_Insert_R (k : Nat) (a0 a1 a2 : Value) (h : Heap) : R (T k) F.swashref11_Insert [a0, a1, a2] h = nrm .fz h (swashref11_Insert k (R (T k)) a0 a1 a2 h) :=
  (R_body (t := T k) (T_scott k) (by kernel_rfl) _ _).trans (by kernel_rfl)
theorem swashref11_Insert_j1_eq (k : Nat) (call : Caller) (a0 a1 a2 a8 : Value) (h : Heap) : swashref11_Insert_j1 k call a0 a1 a2 a8 h =
  (buildSliceR Prog 50 0 [] h).bind fun v33 h34 =>
  (sliceR Prog 50 a0 none (some a1) none h34).bind fun v35 h36 =>
  (builtinV Prog .append [50, 50] [v33, v35] h36).bind fun v37 h38 =>
  (loopN (swashref11_Insert_l1 k call) loopFuel [(0, a0), (1, a1), (2, a2), (8, a8), (9, v37), (10, (.int .i64 0))] h38).bind fun r39 h40 =>
  swashref11_Insert_l1k k call r39.1 r39.2 h40 := by kernel_rfl
theorem swashref11_Insert_j2_eq (k : Nat) (call : Caller) (a0 a1 a2 a8 a30 : Value) (h : Heap) : swashref11_Insert_j2 k call a0 a1 a2 a8 a30 h =
  (buildSliceR Prog 50 0 [] h).bind fun v41 h42 =>
  (sliceR Prog 50 a0 none (some a1) none h42).bind fun v43 h44 =>
  (builtinV Prog .append [50, 50] [v41, v43] h44).bind fun v45 h46 =>
  (loopN (swashref11_Insert_l1 k call) loopFuel [(0, a0), (1, a1), (2, a2), (8, a8), (9, v45), (10, (.int .i64 0))] h46).bind fun r47 h48 =>
  swashref11_Insert_l1k k call r47.1 r47.2 h48 := by kernel_rfl
theorem swashref11_Insert_l1_eq (k : Nat) (call : Caller) (a0 a1 a2 a8 a9 a10 : Value) (h : Heap) : swashref11_Insert_l1 k call [(0, a0), (1, a1), (2, a2), (8, a8), (9, a9), (10, a10)] h =
  (builtinV Prog .len [28] [a2] h).bind fun v49 h50 =>
  (binR Prog .lss 3 a10 v49 h50).bind fun v51 h52 =>
  condV (some v51) (
    (indexAddrR Prog 28 a2 a10 h52).bind fun v53 h54 =>
    (loadR Prog 3 v53 h54).bind fun v55 h56 =>
    (buildR Prog 55 [(0, v55), (1, a8)] h56).bind fun v57 h58 =>
    (buildSliceR Prog 50 1 [(0, v57)] h58).bind fun v59 h60 =>
    (builtinV Prog .append [50, 50] [a9, v59] h60).bind fun v61 h62 =>
    (binR Prog .add 3 a10 (.int .i64 1) h62).bind fun v63 h64 =>
    .ok (.normal, [(0, a0), (1, a1), (2, a2), (8, a8), (9, v61), (10, v63)]) h64)
  (
    .ok ((.exit 0), [(0, a0), (1, a1), (2, a2), (8, a8), (9, a9), (10, a10), (45, v51)]) h52) :=
  (loopB_eq _ _).trans (by kernel_rfl)
theorem swashref11_Insert_l1k_x0 (k : Nat) (call : Caller) (a0 a1 a2 a8 a9 a10 a45 : Value) (h : Heap) : swashref11_Insert_l1k k call (.exit 0) [(0, a0), (1, a1), (2, a2), (8, a8), (9, a9), (10, a10), (45, a45)] h =
  (sliceR Prog 50 a0 (some a1) none none h).bind fun v65 h66 =>
  (builtinV Prog .append [50, 50] [a9, v65] h66).bind fun v67 h68 =>
  .ok (.tuple #[v67, (.bool true)]) h68 := by kernel_rfl
def swashref11_Order_l1 (k : Nat) (call : Caller) : Env → Heap → Res (AExit × Env) := loopB (C k) call F.swashref11_Order [1, 1, 1, 1, 0, 1, 0, 0]
def swashref11_Order_l1k (k : Nat) (call : Caller) : Kont Value := kBlock 0 (kSeq (pieceK (C k) call F.swashref11_Order [1, 1, 1, 1, 1]) (kDone Prog (resOf Prog F.swashref11_Order)))
def swashref11_Order_l2 (k : Nat) (call : Caller) : Env → Heap → Res (AExit × Env) := loopB (C k) call F.swashref11_Order [1, 1, 1, 1, 0, 1, 0, 0, 1, 0, 0, 1, 0, 1, 0, 0]
def swashref11_Order_l2k (k : Nat) (call : Caller) : Kont (AExit × Env) := kBlock 2 (kSeq (pieceK (C k) call F.swashref11_Order [1, 1, 1, 1, 0, 1, 0, 0, 1, 0, 0, 1, 1]) (kBlock 1 (kSeq (pieceK (C k) call F.swashref11_Order [1, 1, 1, 1, 0, 1, 0, 0, 1, 1]) (kRound (ownOf (C k) F.swashref11_Order [1, 1, 1, 1, 0, 1, 0, 0])))))
def swashref11_Order (k : Nat) (call : Caller) (a0 a1 a2 : Value) (h : Heap) : Res Value :=
  (builtinV Prog .len [28] [a2] h).bind fun v1 h2 =>
  (binR Prog .lss 3 a1 (.int .i64 0) h2).bind fun v3 h4 =>
  ((bif wantVal v3 false then Res.ok a1 h4 else Res.ok undef h4)).bind fun v5 h6 =>
  ((bif wantVal v3 false then Res.ok a0 h6 else Res.ok undef h6)).bind fun v7 h8 =>
  ((bif wantVal v3 false then builtinV Prog .len [50] [v7] h8 else Res.ok undef h8)).bind fun v9 h10 =>
  ((bif wantVal v3 false then binR Prog .gtr 3 v5 v9 h10 else Res.ok undef h10)).bind fun v11 h12 =>
  (condV (some v3) (Res.ok (.bool true) h12) (Res.ok v11 h12)).bind fun v13 h14 =>
  ((bif wantVal v13 false then Res.ok v1 h14 else Res.ok undef h14)).bind fun v15 h16 =>
  ((bif wantVal v13 false then Res.ok a0 h16 else Res.ok undef h16)).bind fun v17 h18 =>
  ((bif wantVal v13 false then builtinV Prog .len [50] [v17] h18 else Res.ok undef h18)).bind fun v19 h20 =>
  ((bif wantVal v13 false then Res.ok a1 h20 else Res.ok undef h20)).bind fun v21 h22 =>
  ((bif wantVal v13 false then binR Prog .sub 3 v19 v21 h22 else Res.ok undef h22)).bind fun v23 h24 =>
  ((bif wantVal v13 false then binR Prog .gtr 3 v15 v23 h24 else Res.ok undef h24)).bind fun v25 h26 =>
  (condV (some v13) (Res.ok (.bool true) h26) (Res.ok v25 h26)).bind fun v27 h28 =>
  condV (some v27) (
    .ok (.tuple #[a0, (.bool false)]) h28)
  (
    (buildSliceR Prog 50 0 [] h28).bind fun v29 h30 =>
    (builtinV Prog .append [50, 50] [v29, a0] h30).bind fun v31 h32 =>
    (loopN (swashref11_Order_l1 k call) loopFuel [(0, a0), (1, a1), (2, a2), (8, v1), (9, v31), (10, (.int .i64 0))] h32).bind fun r33 h34 =>
    swashref11_Order_l1k k call r33.1 r33.2 h34)
theorem swashref11_Order_R (k : Nat) (a0 a1 a2 : Value) (h : Heap) : R (T k) F.swashref11_Order [a0, a1, a2] h = nrm .fz h (swashref11_Order k (R (T k)) a0 a1 a2 h) :=
  (R_body (t := T k) (T_scott k) (by kernel_rfl) _ _).trans (by kernel_rfl)
theorem swashref11_Order_l1_eq (k : Nat) (call : Caller) (a0 a1 a2 a8 a9 a10 : Value) (h : Heap) : swashref11_Order_l1 k call [(0, a0), (1, a1), (2, a2), (8, a8), (9, a9), (10, a10)] h =
  (binR Prog .lss 3 a10 a8 h).bind fun v35 h36 =>
  condV (some v35) (
    (indexAddrR Prog 28 a2 a10 h36).bind fun v37 h38 =>
    (loadR Prog 3 v37 h38).bind fun v39 h40 =>
    (binR Prog .lss 3 v39 (.int .i64 0) h40).bind fun v41 h42 =>
    ((bif wantVal v41 false then Res.ok a2 h42 else Res.ok undef h42)).bind fun v43 h44 =>
    ((bif wantVal v41 false then Res.ok a10 h44 else Res.ok undef h44)).bind fun v45 h46 =>
    ((bif wantVal v41 false then indexAddrR Prog 28 v43 v45 h46 else Res.ok undef h46)).bind fun v47 h48 =>
    ((bif wantVal v41 false then loadR Prog 3 v47 h48 else Res.ok undef h48)).bind fun v49 h50 =>
    ((bif wantVal v41 false then Res.ok a8 h50 else Res.ok undef h50)).bind fun v51 h52 =>
    ((bif wantVal v41 false then binR Prog .geq 3 v49 v51 h52 else Res.ok undef h52)).bind fun v53 h54 =>
    (condV (some v41) (Res.ok (.bool true) h54) (Res.ok v53 h54)).bind fun v55 h56 =>
    condV (some v55) (
      .ok (.ret, [(6, a0), (7, (.bool false))]) h56)
    (
      (loopN (swashref11_Order_l2 k call) loopFuel [(0, a0), (1, a1), (2, a2), (8, a8), (9, a9), (10, a10), (11, (.int .i64 0))] h56).bind fun r57 h58 =>
      swashref11_Order_l2k k call r57.1 r57.2 h58))
  (
    .ok ((.exit 0), [(0, a0), (1, a1), (2, a2), (8, a8), (9, a9), (10, a10), (36, v35)]) h36) :=
  (loopB_eq _ _).trans (by kernel_rfl)
theorem swashref11_Order_l2_eq (k : Nat) (call : Caller) (a0 a1 a2 a8 a9 a10 a11 : Value) (h : Heap) : swashref11_Order_l2 k call [(0, a0), (1, a1), (2, a2), (8, a8), (9, a9), (10, a10), (11, a11)] h =
  (binR Prog .lss 3 a11 a10 h).bind fun v59 h60 =>
  condV (some v59) (
    (indexAddrR Prog 28 a2 a11 h60).bindN fun v61 h62 =>
    (loadR Prog 3 v61 h62).bindN fun v63 h64 =>
    (indexAddrR Prog 28 a2 a10 h64).bindN fun v65 h66 =>
    (loadR Prog 3 v65 h66).bindN fun v67 h68 =>
    (binR Prog .eql 3 v63 v67 h68).bindN fun v69 h70 =>
    condV (some v69) (
      .ok (.ret, [(6, a0), (7, (.bool false))]) h70)
    (
      (binR Prog .add 3 a11 (.int .i64 1) h70).bind fun v71 h72 =>
      .ok (.normal, [(0, a0), (1, a1), (2, a2), (8, a8), (9, a9), (10, a10), (11, v71)]) h72))
  (
    .ok ((.exit 2), [(0, a0), (1, a1), (2, a2), (8, a8), (9, a9), (10, a10), (11, a11), (55, v59)]) h60) :=
  (loopB_eq _ _).trans (by kernel_rfl)
theorem swashref11_Order_l1k_r (k : Nat) (call : Caller) (a6 a7 : Value) (h : Heap) : swashref11_Order_l1k k call .ret [(6, a6), (7, a7)] h =
  .ok (.tuple #[a6, a7]) h := by kernel_rfl
theorem swashref11_Order_l1k_x0 (k : Nat) (call : Caller) (a0 a1 a2 a8 a9 a10 a36 : Value) (h : Heap) : swashref11_Order_l1k k call (.exit 0) [(0, a0), (1, a1), (2, a2), (8, a8), (9, a9), (10, a10), (36, a36)] h =
  .ok (.tuple #[a9, (.bool true)]) h := by kernel_rfl
theorem swashref11_Order_l2k_r (k : Nat) (call : Caller) (a6 a7 : Value) (h : Heap) : swashref11_Order_l2k k call .ret [(6, a6), (7, a7)] h =
  .ok (.ret, [(6, a6), (7, a7)]) h := by kernel_rfl
theorem swashref11_Order_l2k_x2 (k : Nat) (call : Caller) (a0 a1 a2 a8 a9 a10 a11 a55 : Value) (h : Heap) : swashref11_Order_l2k k call (.exit 2) [(0, a0), (1, a1), (2, a2), (8, a8), (9, a9), (10, a10), (11, a11), (55, a55)] h =
  (binR Prog .add 3 a1 a10 h).bind fun v73 h74 =>
  (indexAddrR Prog 28 a2 a10 h74).bind fun v75 h76 =>
  (loadR Prog 3 v75 h76).bind fun v77 h78 =>
  (binR Prog .add 3 a1 v77 h78).bind fun v79 h80 =>
  (indexAddrR Prog 50 a0 v79 h80).bind fun v81 h82 =>
  (loadR Prog 55 v81 h82).bind fun v83 h84 =>
  (indexAddrR Prog 50 a9 v73 h84).bind fun v85 h86 =>
  (storeR Prog 55 v85 v83 h86).bind fun _v87 h88 =>
  (binR Prog .add 3 a10 (.int .i64 1) h88).bind fun v89 h90 =>
  .ok (.normal, [(0, a0), (1, a1), (2, a2), (8, a8), (9, a9), (10, v89)]) h90 := by kernel_rfl
def swashref11_Join_l1 (k : Nat) (call : Caller) : Env → Heap → Res (AExit × Env) := loopB (C k) call F.swashref11_Join [1, 1, 0, 1, 0, 0]
def swashref11_Join_l1k (k : Nat) (call : Caller) : Kont Value := kBlock 0 (kSeq (pieceK (C k) call F.swashref11_Join [1, 1, 1]) (kDone Prog (resOf Prog F.swashref11_Join)))
def swashref11_Join_j1 (k : Nat) (call : Caller) (a0 a1 a2 a7 a8 : Value) (h : Heap) : Res (AExit × Env) :=
  kSeq (pieceK (C k) call F.swashref11_Join [1, 1, 0, 1, 0, 0, 1, 1]) (kRound (ownOf (C k) F.swashref11_Join [1, 1, 0, 1, 0, 0])) .normal [(0, a0), (1, a1), (2, a2), (7, a7), (8, a8)] h
def swashref11_Join_j2 (k : Nat) (call : Caller) (a0 a1 a2 a7 a8 a9 a53 : Value) (h : Heap) : Res (AExit × Env) :=
  kSeq (pieceK (C k) call F.swashref11_Join [1, 1, 0, 1, 0, 0, 1, 1]) (kRound (ownOf (C k) F.swashref11_Join [1, 1, 0, 1, 0, 0])) .normal [(0, a0), (1, a1), (2, a2), (7, a7), (8, a8), (9, a9), (53, a53)] h
def swashref11_Join (k : Nat) (call : Caller) (a0 a1 a2 : Value) (h : Heap) : Res Value :=
  (buildSliceR Prog 50 0 [] h).bind fun v1 h2 =>
  (builtinV Prog .append [50, 50] [v1, a0] h2).bind fun v3 h4 =>
  (loopN (swashref11_Join_l1 k call) loopFuel [(0, a0), (1, a1), (2, a2), (7, v3), (8, (.int .i64 0))] h4).bind fun r5 h6 =>
  swashref11_Join_l1k k call r5.1 r5.2 h6
theorem swashref11_Join_R (k : Nat) (a0 a1 a2 : Value) (h : Heap) : R (T k) F.swashref11_Join [a0, a1, a2] h = nrm .fz h (swashref11_Join k (R (T k)) a0 a1 a2 h) :=
  (R_body (t := T k) (T_scott k) (by kernel_rfl) _ _).trans (by kernel_rfl)
theorem swashref11_Join_l1_eq (k : Nat) (call : Caller) (a0 a1 a2 a7 a8 : Value) (h : Heap) : swashref11_Join_l1 k call [(0, a0), (1, a1), (2, a2), (7, a7), (8, a8)] h =
  (builtinV Prog .len [28] [a2] h).bind fun v7 h8 =>
  (binR Prog .lss 3 a8 v7 h8).bind fun v9 h10 =>
  ((bif wantVal v9 true then Res.ok a1 h10 else Res.ok undef h10)).bind fun v11 h12 =>
  ((bif wantVal v9 true then binR Prog .geq 3 v11 (.int .i64 0) h12 else Res.ok undef h12)).bind fun v13 h14 =>
  (condV (some v9) (Res.ok v13 h14) (Res.ok (.bool false) h14)).bind fun v15 h16 =>
  ((bif wantVal v15 true then Res.ok a1 h16 else Res.ok undef h16)).bind fun v17 h18 =>
  ((bif wantVal v15 true then Res.ok a0 h18 else Res.ok undef h18)).bind fun v19 h20 =>
  ((bif wantVal v15 true then builtinV Prog .len [50] [v19] h20 else Res.ok undef h20)).bind fun v21 h22 =>
  ((bif wantVal v15 true then binR Prog .lss 3 v17 v21 h22 else Res.ok undef h22)).bind fun v23 h24 =>
  (condV (some v15) (Res.ok v23 h24) (Res.ok (.bool false) h24)).bind fun v25 h26 =>
  condV (some v25) (
    (indexAddrR Prog 28 a2 a8 h26).bind fun v27 h28 =>
    (loadR Prog 3 v27 h28).bind fun v29 h30 =>
    (binR Prog .geq 3 v29 (.int .i64 0) h30).bindN fun v31 h32 =>
    ((bif wantVal v31 true then Res.ok v29 h32 else Res.ok undef h32)).bindN fun v33 h34 =>
    ((bif wantVal v31 true then Res.ok a0 h34 else Res.ok undef h34)).bindN fun v35 h36 =>
    ((bif wantVal v31 true then builtinV Prog .len [50] [v35] h36 else Res.ok undef h36)).bindN fun v37 h38 =>
    ((bif wantVal v31 true then binR Prog .lss 3 v33 v37 h38 else Res.ok undef h38)).bindN fun v39 h40 =>
    (condV (some v31) (Res.ok v39 h40) (Res.ok (.bool false) h40)).bindN fun v41 h42 =>
    ((bif wantVal v41 true then Res.ok a0 h42 else Res.ok undef h42)).bindN fun v43 h44 =>
    ((bif wantVal v41 true then Res.ok v29 h44 else Res.ok undef h44)).bindN fun v45 h46 =>
    ((bif wantVal v41 true then indexAddrR Prog 50 v43 v45 h46 else Res.ok undef h46)).bindN fun v47 h48 =>
    ((bif wantVal v41 true then fieldAddrR Prog 55 v47 1 h48 else Res.ok undef h48)).bindN fun v49 h50 =>
    ((bif wantVal v41 true then loadR Prog 3 v49 h50 else Res.ok undef h50)).bindN fun v51 h52 =>
    ((bif wantVal v41 true then Res.ok a7 h52 else Res.ok undef h52)).bindN fun v53 h54 =>
    ((bif wantVal v41 true then Res.ok a1 h54 else Res.ok undef h54)).bindN fun v55 h56 =>
    ((bif wantVal v41 true then indexAddrR Prog 50 v53 v55 h56 else Res.ok undef h56)).bindN fun v57 h58 =>
    ((bif wantVal v41 true then fieldAddrR Prog 55 v57 1 h58 else Res.ok undef h58)).bindN fun v59 h60 =>
    ((bif wantVal v41 true then loadR Prog 3 v59 h60 else Res.ok undef h60)).bindN fun v61 h62 =>
    ((bif wantVal v41 true then binR Prog .lss 3 v51 v61 h62 else Res.ok undef h62)).bindN fun v63 h64 =>
    (condV (some v41) (Res.ok v63 h64) (Res.ok (.bool false) h64)).bindN fun v65 h66 =>
    condV (some v65) (
      (indexAddrR Prog 50 a0 v29 h66).bind fun v67 h68 =>
      (fieldAddrR Prog 55 v67 1 h68).bind fun v69 h70 =>
      (loadR Prog 3 v69 h70).bind fun v71 h72 =>
      (indexAddrR Prog 50 a7 a1 h72).bind fun v73 h74 =>
      (fieldAddrR Prog 55 v73 1 h74).bind fun v75 h76 =>
      (storeR Prog 3 v75 v71 h76).bind fun _v77 h78 =>
      swashref11_Join_j1 k call a0 a1 a2 a7 a8 h78)
    (
      swashref11_Join_j2 k call a0 a1 a2 a7 a8 v29 v65 h66))
  (
    .ok ((.exit 0), [(0, a0), (1, a1), (2, a2), (7, a7), (8, a8), (26, v25)]) h26) :=
  (loopB_eq _ _).trans (by kernel_rfl)
theorem swashref11_Join_j1_eq (k : Nat) (call : Caller) (a0 a1 a2 a7 a8 : Value) (h : Heap) : swashref11_Join_j1 k call a0 a1 a2 a7 a8 h =
  (binR Prog .add 3 a8 (.int .i64 1) h).bind fun v79 h80 =>
  .ok (.normal, [(0, a0), (1, a1), (2, a2), (7, a7), (8, v79)]) h80 := by kernel_rfl
theorem swashref11_Join_j2_eq (k : Nat) (call : Caller) (a0 a1 a2 a7 a8 a9 a53 : Value) (h : Heap) : swashref11_Join_j2 k call a0 a1 a2 a7 a8 a9 a53 h =
  (binR Prog .add 3 a8 (.int .i64 1) h).bind fun v81 h82 =>
  .ok (.normal, [(0, a0), (1, a1), (2, a2), (7, a7), (8, v81)]) h82 := by kernel_rfl
theorem swashref11_Join_l1k_x0 (k : Nat) (call : Caller) (a0 a1 a2 a7 a8 a26 : Value) (h : Heap) : swashref11_Join_l1k k call (.exit 0) [(0, a0), (1, a1), (2, a2), (7, a7), (8, a8), (26, a26)] h =
  .ok a7 h := by kernel_rfl
def swashref11_Turn_l1 (k : Nat) (call : Caller) : Env → Heap → Res (AExit × Env) := loopB (C k) call F.swashref11_Turn [1, 1, 0, 1, 0, 0]
def swashref11_Turn_l1k (k : Nat) (call : Caller) : Kont Value := kBlock 0 (kSeq (pieceK (C k) call F.swashref11_Turn [1, 1, 1]) (kDone Prog (resOf Prog F.swashref11_Turn)))
def swashref11_Turn (k : Nat) (call : Caller) (a0 : Value) (h : Heap) : Res Value :=
  (buildSliceR Prog 50 0 [] h).bind fun v1 h2 =>
  (builtinV Prog .len [50] [a0] h2).bind fun v3 h4 =>
  (binR Prog .sub 3 v3 (.int .i64 1) h4).bind fun v5 h6 =>
  (loopN (swashref11_Turn_l1 k call) loopFuel [(0, a0), (3, v1), (4, v5)] h6).bind fun r7 h8 =>
  swashref11_Turn_l1k k call r7.1 r7.2 h8
theorem swashref11_Turn_R (k : Nat) (a0 : Value) (h : Heap) : R (T k) F.swashref11_Turn [a0] h = nrm .fz h (swashref11_Turn k (R (T k)) a0 h) :=
  (R_body (t := T k) (T_scott k) (by kernel_rfl) _ _).trans (by kernel_rfl)
theorem swashref11_Turn_l1_eq (k : Nat) (call : Caller) (a0 a3 a4 : Value) (h : Heap) : swashref11_Turn_l1 k call [(0, a0), (3, a3), (4, a4)] h =
  (binR Prog .geq 3 a4 (.int .i64 0) h).bind fun v9 h10 =>
  condV (some v9) (
    (indexAddrR Prog 50 a0 a4 h10).bind fun v11 h12 =>
    (loadR Prog 55 v11 h12).bind fun v13 h14 =>
    (buildSliceR Prog 50 1 [(0, v13)] h14).bind fun v15 h16 =>
    (builtinV Prog .append [50, 50] [a3, v15] h16).bind fun v17 h18 =>
    (binR Prog .sub 3 a4 (.int .i64 1) h18).bind fun v19 h20 =>
    .ok (.normal, [(0, a0), (3, v17), (4, v19)]) h20)
  (
    .ok ((.exit 0), [(0, a0), (3, a3), (4, a4), (10, v9)]) h10) :=
  (loopB_eq _ _).trans (by kernel_rfl)
theorem swashref11_Turn_l1k_x0 (k : Nat) (call : Caller) (a0 a3 a4 a10 : Value) (h : Heap) : swashref11_Turn_l1k k call (.exit 0) [(0, a0), (3, a3), (4, a4), (10, a10)] h =
  .ok a3 h := by kernel_rfl
def swashref11_Clean_l1 (k : Nat) (call : Caller) : Env → Heap → Res (AExit × Env) := loopB (C k) call F.swashref11_Clean [1, 1, 0, 1, 0, 0]
def swashref11_Clean_l1k (k : Nat) (call : Caller) : Kont Value := kBlock 0 (kSeq (pieceK (C k) call F.swashref11_Clean [1, 1, 1]) (kDone Prog (resOf Prog F.swashref11_Clean)))
def swashref11_Clean_j1 (k : Nat) (call : Caller) (a0 a3 a4 : Value) (h : Heap) : Res (AExit × Env) :=
  kSeq (pieceK (C k) call F.swashref11_Clean [1, 1, 0, 1, 0, 0, 1, 1]) (kRound (ownOf (C k) F.swashref11_Clean [1, 1, 0, 1, 0, 0])) .normal [(0, a0), (3, a3), (4, a4)] h
def swashref11_Clean_j2 (k : Nat) (call : Caller) (a0 a3 a4 a17 : Value) (h : Heap) : Res (AExit × Env) :=
  kSeq (pieceK (C k) call F.swashref11_Clean [1, 1, 0, 1, 0, 0, 1, 1]) (kRound (ownOf (C k) F.swashref11_Clean [1, 1, 0, 1, 0, 0])) .normal [(0, a0), (3, a3), (4, a4), (17, a17)] h
def swashref11_Clean (k : Nat) (call : Caller) (a0 : Value) (h : Heap) : Res Value :=
  (buildSliceR Prog 50 0 [] h).bind fun v1 h2 =>
  (loopN (swashref11_Clean_l1 k call) loopFuel [(0, a0), (3, v1), (4, (.int .i64 0))] h2).bind fun r3 h4 =>
  swashref11_Clean_l1k k call r3.1 r3.2 h4
theorem swashref11_Clean_R (k : Nat) (a0 : Value) (h : Heap) : R (T k) F.swashref11_Clean [a0] h = nrm .fz h (swashref11_Clean k (R (T k)) a0 h) :=
  (R_body (t := T k) (T_scott k) (by kernel_rfl) _ _).trans (by kernel_rfl)
theorem swashref11_Clean_l1_eq (k : Nat) (call : Caller) (a0 a3 a4 : Value) (h : Heap) : swashref11_Clean_l1 k call [(0, a0), (3, a3), (4, a4)] h =
  (builtinV Prog .len [50] [a0] h).bind fun v5 h6 =>
  (binR Prog .lss 3 a4 v5 h6).bind fun v7 h8 =>
  condV (some v7) (
    (indexAddrR Prog 50 a0 a4 h8).bind fun v9 h10 =>
    (fieldAddrR Prog 55 v9 0 h10).bind fun v11 h12 =>
    (loadR Prog 3 v11 h12).bind fun v13 h14 =>
    (binR Prog .neq 3 v13 (.int .i64 65535) h14).bind fun v15 h16 =>
    condV (some v15) (
      (indexAddrR Prog 50 a0 a4 h16).bind fun v17 h18 =>
      (loadR Prog 55 v17 h18).bind fun v19 h20 =>
      (buildSliceR Prog 50 1 [(0, v19)] h20).bind fun v21 h22 =>
      (builtinV Prog .append [50, 50] [a3, v21] h22).bind fun v23 h24 =>
      swashref11_Clean_j1 k call a0 v23 a4 h24)
    (
      swashref11_Clean_j2 k call a0 a3 a4 v15 h16))
  (
    .ok ((.exit 0), [(0, a0), (3, a3), (4, a4), (9, v7)]) h8) :=
  (loopB_eq _ _).trans (by kernel_rfl)
theorem swashref11_Clean_j1_eq (k : Nat) (call : Caller) (a0 a3 a4 : Value) (h : Heap) : swashref11_Clean_j1 k call a0 a3 a4 h =
  (binR Prog .add 3 a4 (.int .i64 1) h).bind fun v25 h26 =>
  .ok (.normal, [(0, a0), (3, a3), (4, v25)]) h26 := by kernel_rfl
theorem swashref11_Clean_j2_eq (k : Nat) (call : Caller) (a0 a3 a4 a17 : Value) (h : Heap) : swashref11_Clean_j2 k call a0 a3 a4 a17 h =
  (binR Prog .add 3 a4 (.int .i64 1) h).bind fun v27 h28 =>
  .ok (.normal, [(0, a0), (3, a3), (4, v27)]) h28 := by kernel_rfl
theorem swashref11_Clean_l1k_x0 (k : Nat) (call : Caller) (a0 a3 a4 a9 : Value) (h : Heap) : swashref11_Clean_l1k k call (.exit 0) [(0, a0), (3, a3), (4, a4), (9, a9)] h =
  .ok a3 h := by kernel_rfl
end
end Go.Sw
