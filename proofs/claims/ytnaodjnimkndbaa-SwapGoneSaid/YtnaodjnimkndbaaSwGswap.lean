/-
  The functions of the package swap. Printed by SwGenMain.
-/
import Derived.Test.YtnaodjnimkndbaaSwCfg
set_option maxRecDepth 100000
set_option linter.unusedVariables false
namespace Go.Sw
noncomputable section
def swap_Read (k : Nat) (call : Caller) (a0 a1 : Value) (h : Heap) : Res Value :=
  (call F.lookup_Read [a0, a1, (.int .i64 2)] h).bind fun v1 h2 =>
  (extractR v1 0 h2).bind fun v3 h4 =>
  (extractR v1 1 h4).bind fun v5 h6 =>
  (binR Prog .neq 69 v5 (.int .i64 0) h6).bind fun v7 h8 =>
  condV (some v7) (
    .ok (.tuple #[(.pointer none), v5]) h8)
  (
    (buildR Prog 252 [(0, v3)] h8).bind fun v9 h10 =>
    (boxR v9 h10).bind fun v11 h12 =>
    .ok (.tuple #[v11, (.int .i64 0)]) h12)
theorem swap_Read_R (k : Nat) (a0 a1 : Value) (h : Heap) : R (T k) F.swap_Read [a0, a1] h = nrm .fz h (swap_Read k (R (T k)) a0 a1 h) :=
  (R_body (t := T k) (T_scott k) (by kernel_rfl) _ _).trans (by kernel_rfl)
def swap_Table_Run_l1 (k : Nat) (call : Caller) : Env → Heap → Res (AExit × Env) := loopB (C k) call F.swap_Table_Run [1, 0, 1, 0, 0]
def swap_Table_Run_l1k (k : Nat) (call : Caller) : Kont Value := kBlock 0 (kSeq (pieceK (C k) call F.swap_Table_Run [1, 1]) (kDone Prog (resOf Prog F.swap_Table_Run)))
def swap_Table_Run_j1 (k : Nat) (call : Caller) (a0 a1 a5 a6 a10 a11 a12 a19 : Value) (h : Heap) : Res (AExit × Env) :=
  kSeq (pieceK (C k) call F.swap_Table_Run [1, 0, 1, 0, 0, 1, 1, 1]) (kRound (ownOf (C k) F.swap_Table_Run [1, 0, 1, 0, 0])) .normal [(0, a0), (1, a1), (5, a5), (6, a6), (10, a10), (11, a11), (12, a12), (19, a19)] h
def swap_Table_Run_j2 (k : Nat) (call : Caller) (a0 a1 a10 a11 a12 : Value) (h : Heap) : Res (AExit × Env) :=
  kSeq (pieceK (C k) call F.swap_Table_Run [1, 0, 1, 0, 0, 1, 1, 1]) (kRound (ownOf (C k) F.swap_Table_Run [1, 0, 1, 0, 0])) .normal [(0, a0), (1, a1), (10, a10), (11, a11), (12, a12)] h
def swap_Table_Run_j3 (k : Nat) (call : Caller) (a0 a1 a5 a7 a10 a11 a12 a30 : Value) (h : Heap) : Res (AExit × Env) :=
  kSeq (pieceK (C k) call F.swap_Table_Run [1, 0, 1, 0, 0, 1, 1, 1]) (kRound (ownOf (C k) F.swap_Table_Run [1, 0, 1, 0, 0])) .normal [(0, a0), (1, a1), (5, a5), (7, a7), (10, a10), (11, a11), (12, a12), (30, a30)] h
def swap_Table_Run (k : Nat) (call : Caller) (a0 a1 : Value) (h : Heap) : Res Value :=
  (call F.line_Line_Glyphs [a1] h).bind fun v1 h2 =>
  (builtinV Prog .len [50] [v1] h2).bind fun v3 h4 =>
  (loopN (swap_Table_Run_l1 k call) loopFuel [(0, a0), (1, a1), (10, v1), (11, v3), (12, (.int .i64 0))] h4).bind fun r5 h6 =>
  swap_Table_Run_l1k k call r5.1 r5.2 h6
theorem swap_Table_Run_R (k : Nat) (a0 a1 : Value) (h : Heap) : R (T k) F.swap_Table_Run [a0, a1] h = nrm .no h (swap_Table_Run k (R (T k)) a0 a1 h) :=
  (R_body (t := T k) (T_scott k) (by kernel_rfl) _ _).trans (by kernel_rfl)
theorem swap_Table_Run_l1_eq (k : Nat) (call : Caller) (a0 a1 a10 a11 a12 : Value) (h : Heap) : swap_Table_Run_l1 k call [(0, a0), (1, a1), (10, a10), (11, a11), (12, a12)] h =
  (binR Prog .lss 3 a12 a11 h).bind fun v7 h8 =>
  condV (some v7) (
    (indexAddrR Prog 50 a10 a12 h8).bind fun v9 h10 =>
    (loadR Prog 55 v9 h10).bind fun v11 h12 =>
    (allocR Prog 55 h12).bind fun v13 h14 =>
    (storeR Prog 55 v13 v11 h14).bind fun _v15 h16 =>
    (fieldAddrR Prog 55 v13 0 h16).bind fun v17 h18 =>
    (loadR Prog 3 v17 h18).bind fun v19 h20 =>
    (binR Prog .eql 3 v19 (.int .i64 65535) h20).bind fun v21 h22 =>
    condV (some v21) (
      swap_Table_Run_j1 k call a0 a1 a12 v13 a10 a11 a12 v21 h22)
    (
      (nilR a0 h22).bindN fun v23 h24 =>
      (fieldAddrR Prog 252 v23 0 h24).bindN fun v25 h26 =>
      (loadR Prog 68 v25 h26).bindN fun v27 h28 =>
      (fieldAddrR Prog 55 v13 0 h28).bindN fun v29 h30 =>
      (loadR Prog 3 v29 h30).bindN fun v31 h32 =>
      (call F.lookup_Table_Get [v27, v31] h32).bindT (fun p35 h36 => .panic p35 h36) fun v33 h34 =>
      (extractR v33 0 h34).bindN fun v37 h38 =>
      (extractR v33 1 h38).bindN fun v39 h40 =>
      condV (some v39) (
        (call F.line_Line_Set [a1, a12, v37] h40).bind fun v41 h42 =>
        swap_Table_Run_j2 k call a0 a1 a10 a11 a12 h42)
      (
        swap_Table_Run_j3 k call a0 a1 a12 v37 a10 a11 a12 v39 h40)))
  (
    .ok ((.exit 0), [(0, a0), (1, a1), (10, a10), (11, a11), (12, a12), (13, v7)]) h8) :=
  (loopB_eq _ _).trans (by kernel_rfl)
theorem swap_Table_Run_j1_eq (k : Nat) (call : Caller) (a0 a1 a5 a6 a10 a11 a12 a19 : Value) (h : Heap) : swap_Table_Run_j1 k call a0 a1 a5 a6 a10 a11 a12 a19 h =
  (binR Prog .add 3 a12 (.int .i64 1) h).bind fun v43 h44 =>
  .ok (.normal, [(0, a0), (1, a1), (10, a10), (11, a11), (12, v43)]) h44 := by kernel_rfl
theorem swap_Table_Run_j2_eq (k : Nat) (call : Caller) (a0 a1 a10 a11 a12 : Value) (h : Heap) : swap_Table_Run_j2 k call a0 a1 a10 a11 a12 h =
  (binR Prog .add 3 a12 (.int .i64 1) h).bind fun v45 h46 =>
  .ok (.normal, [(0, a0), (1, a1), (10, a10), (11, a11), (12, v45)]) h46 := by kernel_rfl
theorem swap_Table_Run_j3_eq (k : Nat) (call : Caller) (a0 a1 a5 a7 a10 a11 a12 a30 : Value) (h : Heap) : swap_Table_Run_j3 k call a0 a1 a5 a7 a10 a11 a12 a30 h =
  (binR Prog .add 3 a12 (.int .i64 1) h).bind fun v47 h48 =>
  .ok (.normal, [(0, a0), (1, a1), (10, a10), (11, a11), (12, v47)]) h48 := by kernel_rfl
theorem swap_Table_Run_l1k_x0 (k : Nat) (call : Caller) (a0 a1 a10 a11 a12 a13 : Value) (h : Heap) : swap_Table_Run_l1k k call (.exit 0) [(0, a0), (1, a1), (10, a10), (11, a11), (12, a12), (13, a13)] h =
  .ok (.int .i64 0) h := by kernel_rfl
def swap_Take (k : Nat) (call : Caller) (a0 a1 : Value) (h : Heap) : Res Value :=
  (boxR a0 h).bind fun v1 h2 =>
  (loadR Prog 83 v1 h2).bind fun v3 h4 =>
  (call F.lookup_Take [v3, a1, (.int .i64 2)] h4).bind fun v5 h6 =>
  (buildR Prog 252 [(0, v5)] h6).bind fun v7 h8 =>
  (boxR v7 h8).bind fun v9 h10 =>
  .ok v9 h10
theorem swap_Take_R (k : Nat) (a0 a1 : Value) (h : Heap) : R (T k) F.swap_Take [a0, a1] h = nrm .fz h (swap_Take k (R (T k)) a0 a1 h) :=
  (R_body (t := T k) (T_scott k) (by kernel_rfl) _ _).trans (by kernel_rfl)
end
end Go.Sw
