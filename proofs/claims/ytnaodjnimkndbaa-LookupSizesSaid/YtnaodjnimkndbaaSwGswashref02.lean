/-
  The functions of the package swashref02. Printed by SwGenMain.
-/
import Derived.Test.YtnaodjnimkndbaaSwCfg
set_option maxRecDepth 100000
set_option linter.unusedVariables false
namespace Go.Sw
noncomputable section
def swashref02_Put_l1 (k : Nat) (call : Caller) : Env → Heap → Res (AExit × Env) := loopB (C k) call F.swashref02_Put [1, 0, 1, 0, 0]
def swashref02_Put_l1k (k : Nat) (call : Caller) : Kont Value := kBlock 0 (kSeq (pieceK (C k) call F.swashref02_Put [1, 1]) (kDone Prog (resOf Prog F.swashref02_Put)))
def swashref02_Put_l2 (k : Nat) (call : Caller) : Env → Heap → Res (AExit × Env) := loopB (C k) call F.swashref02_Put [1, 0, 1, 0, 0, 1, 0, 0, 1, 0, 1, 0, 0]
def swashref02_Put_l2k (k : Nat) (call : Caller) : Kont (AExit × Env) := kBlock 2 (kSeq (pieceK (C k) call F.swashref02_Put [1, 0, 1, 0, 0, 1, 0, 0, 1, 1]) (kBlock 1 (kSeq (pieceK (C k) call F.swashref02_Put [1, 0, 1, 0, 0, 1, 1]) (kRound (ownOf (C k) F.swashref02_Put [1, 0, 1, 0, 0])))))
def swashref02_Put (k : Nat) (call : Caller) (a0 a1 a2 : Value) (h : Heap) : Res Value :=
  (binR Prog .sub 3 a2 (.int .i64 1) h).bind fun v1 h2 =>
  (loopN (swashref02_Put_l1 k call) loopFuel [(0, a0), (1, a1), (7, v1)] h2).bind fun r3 h4 =>
  swashref02_Put_l1k k call r3.1 r3.2 h4
theorem swashref02_Put_R (k : Nat) (a0 a1 a2 : Value) (h : Heap) : R (T k) F.swashref02_Put [a0, a1, a2] h = nrm .no h (swashref02_Put k (R (T k)) a0 a1 a2 h) :=
  (R_body (t := T k) (T_scott k) (by kernel_rfl) _ _).trans (by kernel_rfl)
theorem swashref02_Put_l1_eq (k : Nat) (call : Caller) (a0 a1 a7 : Value) (h : Heap) : swashref02_Put_l1 k call [(0, a0), (1, a1), (7, a7)] h =
  (binR Prog .geq 3 a7 (.int .i64 0) h).bind fun v5 h6 =>
  condV (some v5) (
    (loopN (swashref02_Put_l2 k call) loopFuel [(0, a0), (1, a1), (7, a7), (8, a1), (9, (.int .i64 0))] h6).bind fun r7 h8 =>
    swashref02_Put_l2k k call r7.1 r7.2 h8)
  (
    .ok ((.exit 0), [(0, a0), (1, a1), (7, a7), (13, v5)]) h6) :=
  (loopB_eq _ _).trans (by kernel_rfl)
theorem swashref02_Put_l2_eq (k : Nat) (call : Caller) (a0 a1 a7 a8 a9 : Value) (h : Heap) : swashref02_Put_l2 k call [(0, a0), (1, a1), (7, a7), (8, a8), (9, a9)] h =
  (binR Prog .lss 3 a9 a7 h).bind fun v9 h10 =>
  condV (some v9) (
    (binR Prog .quo 3 a8 (.int .i64 256) h10).bind fun v11 h12 =>
    (binR Prog .add 3 a9 (.int .i64 1) h12).bind fun v13 h14 =>
    .ok (.normal, [(0, a0), (1, a1), (7, a7), (8, v11), (9, v13)]) h14)
  (
    .ok ((.exit 2), [(0, a0), (1, a1), (7, a7), (8, a8), (9, a9), (19, v9)]) h10) :=
  (loopB_eq _ _).trans (by kernel_rfl)
theorem swashref02_Put_l1k_x0 (k : Nat) (call : Caller) (a0 a1 a7 a13 : Value) (h : Heap) : swashref02_Put_l1k k call (.exit 0) [(0, a0), (1, a1), (7, a7), (13, a13)] h =
  .ok a0 h := by kernel_rfl
theorem swashref02_Put_l2k_x2 (k : Nat) (call : Caller) (a0 a1 a7 a8 a9 a19 : Value) (h : Heap) : swashref02_Put_l2k k call (.exit 2) [(0, a0), (1, a1), (7, a7), (8, a8), (9, a9), (19, a19)] h =
  (binR Prog .rem 3 a8 (.int .i64 256) h).bind fun v15 h16 =>
  (convR Prog 3 5 v15 h16).bind fun v17 h18 =>
  (buildSliceR Prog 65 1 [(0, v17)] h18).bind fun v19 h20 =>
  (builtinV Prog .append [65, 65] [a0, v19] h20).bind fun v21 h22 =>
  (binR Prog .sub 3 a7 (.int .i64 1) h22).bind fun v23 h24 =>
  .ok (.normal, [(0, v21), (1, a1), (7, v23)]) h24 := by kernel_rfl
end
end Go.Sw
