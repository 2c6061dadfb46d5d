/-
  The functions of the package slices. Printed by SwGenMain.
-/
import Derived.Test.YtnaodjnimkndbaaSwCfg
set_option maxRecDepth 100000
set_option linter.unusedVariables false
namespace Go.Sw
noncomputable section
def slices_Clone_of_api_Place_api_Place (k : Nat) (call : Caller) (a0 : Value) (h : Heap) : Res Value :=
  (binR Prog .eql 31 a0 (.slice none 0 0) h).bind fun v1 h2 =>
  condV (some v1) (
    .ok (.slice none 0 0) h2)
  (
    (buildSliceR Prog 31 0 [] h2).bind fun v3 h4 =>
    (builtinV Prog .append [31, 31] [v3, a0] h4).bind fun v5 h6 =>
    .ok v5 h6)
theorem slices_Clone_of_api_Place_api_Place_body (k : Nat) (sp : FuncId → Option Sp) (call : Caller) (a0 : Value) (h : Heap) : bodyK { P := Prog, kp := kpS, sp := sp } call F.slices_Clone_of_api_Place_api_Place [a0] h = slices_Clone_of_api_Place_api_Place k call a0 h := by kernel_rfl
def slices_Reverse_of_api_Place_api_Place_l1 (k : Nat) (call : Caller) : Env → Heap → Res (AExit × Env) := loopB (C k) call F.slices_Reverse_of_api_Place_api_Place [1, 0, 0]
def slices_Reverse_of_api_Place_api_Place_l1k (k : Nat) (call : Caller) : Kont Value := kBlock 0 (kDone Prog (resOf Prog F.slices_Reverse_of_api_Place_api_Place))
def slices_Reverse_of_api_Place_api_Place (k : Nat) (call : Caller) (a0 : Value) (h : Heap) : Res Value :=
  (builtinV Prog .len [31] [a0] h).bind fun v1 h2 =>
  (binR Prog .sub 3 v1 (.int .i64 1) h2).bind fun v3 h4 =>
  (loopN (slices_Reverse_of_api_Place_api_Place_l1 k call) loopFuel [(0, a0), (2, (.int .i64 0)), (3, v3)] h4).bind fun r5 h6 =>
  slices_Reverse_of_api_Place_api_Place_l1k k call r5.1 r5.2 h6
theorem slices_Reverse_of_api_Place_api_Place_R (k : Nat) (a0 : Value) (h : Heap) : R (T k) F.slices_Reverse_of_api_Place_api_Place [a0] h = nrm .no h (slices_Reverse_of_api_Place_api_Place k (R (T k)) a0 h) :=
  (R_body (t := T k) (T_scott k) (by kernel_rfl) _ _).trans (by kernel_rfl)
theorem slices_Reverse_of_api_Place_api_Place_l1_eq (k : Nat) (call : Caller) (a0 a2 a3 : Value) (h : Heap) : slices_Reverse_of_api_Place_api_Place_l1 k call [(0, a0), (2, a2), (3, a3)] h =
  (binR Prog .lss 3 a2 a3 h).bind fun v7 h8 =>
  condV (some v7) (
    (indexAddrR Prog 31 a0 a3 h8).bindN fun v9 h10 =>
    (loadR Prog 34 v9 h10).bindN fun v11 h12 =>
    (indexAddrR Prog 31 a0 a2 h12).bindN fun v13 h14 =>
    (loadR Prog 34 v13 h14).bindN fun v15 h16 =>
    (indexAddrR Prog 31 a0 a2 h16).bindN fun v17 h18 =>
    (storeR Prog 34 v17 v11 h18).bindN fun _v19 h20 =>
    (indexAddrR Prog 31 a0 a3 h20).bindN fun v21 h22 =>
    (storeR Prog 34 v21 v15 h22).bindN fun _v23 h24 =>
    (binR Prog .add 3 a2 (.int .i64 1) h24).bind fun v25 h26 =>
    (binR Prog .sub 3 a3 (.int .i64 1) h26).bind fun v27 h28 =>
    .ok (.normal, [(0, a0), (2, v25), (3, v27)]) h28)
  (
    .ok ((.exit 0), [(0, a0), (2, a2), (3, a3), (9, v7)]) h8) :=
  (loopB_eq _ _).trans (by kernel_rfl)
theorem slices_Reverse_of_api_Place_api_Place_l1k_x0 (k : Nat) (call : Caller) (a0 a2 a3 a9 : Value) (h : Heap) : slices_Reverse_of_api_Place_api_Place_l1k k call (.exit 0) [(0, a0), (2, a2), (3, a3), (9, a9)] h =
  .ok (.tuple #[]) h := by kernel_rfl
def slices_Clone_of_api_Glyph_api_Glyph (k : Nat) (call : Caller) (a0 : Value) (h : Heap) : Res Value :=
  (binR Prog .eql 50 a0 (.slice none 0 0) h).bind fun v1 h2 =>
  condV (some v1) (
    .ok (.slice none 0 0) h2)
  (
    (buildSliceR Prog 50 0 [] h2).bind fun v3 h4 =>
    (builtinV Prog .append [50, 50] [v3, a0] h4).bind fun v5 h6 =>
    .ok v5 h6)
theorem slices_Clone_of_api_Glyph_api_Glyph_body (k : Nat) (sp : FuncId → Option Sp) (call : Caller) (a0 : Value) (h : Heap) : bodyK { P := Prog, kp := kpS, sp := sp } call F.slices_Clone_of_api_Glyph_api_Glyph [a0] h = slices_Clone_of_api_Glyph_api_Glyph k call a0 h := by kernel_rfl
def slices_Reverse_of_api_Glyph_api_Glyph_l1 (k : Nat) (call : Caller) : Env → Heap → Res (AExit × Env) := loopB (C k) call F.slices_Reverse_of_api_Glyph_api_Glyph [1, 0, 0]
def slices_Reverse_of_api_Glyph_api_Glyph_l1k (k : Nat) (call : Caller) : Kont Value := kBlock 0 (kDone Prog (resOf Prog F.slices_Reverse_of_api_Glyph_api_Glyph))
def slices_Reverse_of_api_Glyph_api_Glyph (k : Nat) (call : Caller) (a0 : Value) (h : Heap) : Res Value :=
  (builtinV Prog .len [50] [a0] h).bind fun v1 h2 =>
  (binR Prog .sub 3 v1 (.int .i64 1) h2).bind fun v3 h4 =>
  (loopN (slices_Reverse_of_api_Glyph_api_Glyph_l1 k call) loopFuel [(0, a0), (2, (.int .i64 0)), (3, v3)] h4).bind fun r5 h6 =>
  slices_Reverse_of_api_Glyph_api_Glyph_l1k k call r5.1 r5.2 h6
theorem slices_Reverse_of_api_Glyph_api_Glyph_R (k : Nat) (a0 : Value) (h : Heap) : R (T k) F.slices_Reverse_of_api_Glyph_api_Glyph [a0] h = nrm .no h (slices_Reverse_of_api_Glyph_api_Glyph k (R (T k)) a0 h) :=
  (R_body (t := T k) (T_scott k) (by kernel_rfl) _ _).trans (by kernel_rfl)
theorem slices_Reverse_of_api_Glyph_api_Glyph_l1_eq (k : Nat) (call : Caller) (a0 a2 a3 : Value) (h : Heap) : slices_Reverse_of_api_Glyph_api_Glyph_l1 k call [(0, a0), (2, a2), (3, a3)] h =
  (binR Prog .lss 3 a2 a3 h).bind fun v7 h8 =>
  condV (some v7) (
    (indexAddrR Prog 50 a0 a3 h8).bindN fun v9 h10 =>
    (loadR Prog 55 v9 h10).bindN fun v11 h12 =>
    (indexAddrR Prog 50 a0 a2 h12).bindN fun v13 h14 =>
    (loadR Prog 55 v13 h14).bindN fun v15 h16 =>
    (indexAddrR Prog 50 a0 a2 h16).bindN fun v17 h18 =>
    (storeR Prog 55 v17 v11 h18).bindN fun _v19 h20 =>
    (indexAddrR Prog 50 a0 a3 h20).bindN fun v21 h22 =>
    (storeR Prog 55 v21 v15 h22).bindN fun _v23 h24 =>
    (binR Prog .add 3 a2 (.int .i64 1) h24).bind fun v25 h26 =>
    (binR Prog .sub 3 a3 (.int .i64 1) h26).bind fun v27 h28 =>
    .ok (.normal, [(0, a0), (2, v25), (3, v27)]) h28)
  (
    .ok ((.exit 0), [(0, a0), (2, a2), (3, a3), (9, v7)]) h8) :=
  (loopB_eq _ _).trans (by kernel_rfl)
theorem slices_Reverse_of_api_Glyph_api_Glyph_l1k_x0 (k : Nat) (call : Caller) (a0 a2 a3 a9 : Value) (h : Heap) : slices_Reverse_of_api_Glyph_api_Glyph_l1k k call (.exit 0) [(0, a0), (2, a2), (3, a3), (9, a9)] h =
  .ok (.tuple #[]) h := by kernel_rfl
def slices_DeleteFunc_of_api_Glyph_api_Glyph_l1 (k : Nat) (call : Caller) : Env → Heap → Res (AExit × Env) := loopB (C k) call F.slices_DeleteFunc_of_api_Glyph_api_Glyph [1, 1, 1, 0, 1, 0, 0]
def slices_DeleteFunc_of_api_Glyph_api_Glyph_l1k (k : Nat) (call : Caller) : Kont Value := kBlock 0 (kSeq (pieceK (C k) call F.slices_DeleteFunc_of_api_Glyph_api_Glyph [1, 1, 1, 1]) (kDone Prog (resOf Prog F.slices_DeleteFunc_of_api_Glyph_api_Glyph)))
def slices_DeleteFunc_of_api_Glyph_api_Glyph_j1 (k : Nat) (call : Caller) (a0 a1 a5 a6 : Value) (h : Heap) : Res (AExit × Env) :=
  kSeq (pieceK (C k) call F.slices_DeleteFunc_of_api_Glyph_api_Glyph [1, 1, 1, 0, 1, 0, 0, 1, 1]) (kRound (ownOf (C k) F.slices_DeleteFunc_of_api_Glyph_api_Glyph [1, 1, 1, 0, 1, 0, 0])) .normal [(0, a0), (1, a1), (5, a5), (6, a6)] h
def slices_DeleteFunc_of_api_Glyph_api_Glyph_j2 (k : Nat) (call : Caller) (a0 a1 a5 a6 a7 a29 : Value) (h : Heap) : Res (AExit × Env) :=
  kSeq (pieceK (C k) call F.slices_DeleteFunc_of_api_Glyph_api_Glyph [1, 1, 1, 0, 1, 0, 0, 1, 1]) (kRound (ownOf (C k) F.slices_DeleteFunc_of_api_Glyph_api_Glyph [1, 1, 1, 0, 1, 0, 0])) .normal [(0, a0), (1, a1), (5, a5), (6, a6), (7, a7), (29, a29)] h
def slices_DeleteFunc_of_api_Glyph_api_Glyph (k : Nat) (call : Caller) (a0 a1 : Value) (h : Heap) : Res Value :=
  (call F.slices_IndexFunc_of_api_Glyph_api_Glyph [a0, a1] h).bind fun v1 h2 =>
  (binR Prog .eql 3 v1 (.int .i64 (-1)) h2).bind fun v3 h4 =>
  condV (some v3) (
    .ok a0 h4)
  (
    (binR Prog .add 3 v1 (.int .i64 1) h4).bind fun v5 h6 =>
    (loopN (slices_DeleteFunc_of_api_Glyph_api_Glyph_l1 k call) loopFuel [(0, a0), (1, a1), (5, v1), (6, v5)] h6).bind fun r7 h8 =>
    slices_DeleteFunc_of_api_Glyph_api_Glyph_l1k k call r7.1 r7.2 h8)
theorem slices_DeleteFunc_of_api_Glyph_api_Glyph_R (k : Nat) (a0 a1 : Value) (h : Heap) : R (T k) F.slices_DeleteFunc_of_api_Glyph_api_Glyph [a0, a1] h = nrm .no h (slices_DeleteFunc_of_api_Glyph_api_Glyph k (R (T k)) a0 a1 h) :=
  (R_body (t := T k) (T_scott k) (by kernel_rfl) _ _).trans (by kernel_rfl)
theorem slices_DeleteFunc_of_api_Glyph_api_Glyph_l1_eq (k : Nat) (call : Caller) (a0 a1 a5 a6 : Value) (h : Heap) : slices_DeleteFunc_of_api_Glyph_api_Glyph_l1 k call [(0, a0), (1, a1), (5, a5), (6, a6)] h =
  (builtinV Prog .len [50] [a0] h).bind fun v9 h10 =>
  (binR Prog .lss 3 a6 v9 h10).bind fun v11 h12 =>
  condV (some v11) (
    (indexAddrR Prog 50 a0 a6 h12).bind fun v13 h14 =>
    (loadR Prog 55 v13 h14).bind fun v15 h16 =>
    (allocR Prog 55 h16).bind fun v17 h18 =>
    (storeR Prog 55 v17 v15 h18).bind fun _v19 h20 =>
    (loadR Prog 55 v17 h20).bind fun v21 h22 =>
    (callV call a1 [v21] h22).bind fun v23 h24 =>
    (unR .not v23 h24).bind fun v25 h26 =>
    condV (some v25) (
      (loadR Prog 55 v17 h26).bind fun v27 h28 =>
      (indexAddrR Prog 50 a0 a5 h28).bind fun v29 h30 =>
      (storeR Prog 55 v29 v27 h30).bind fun _v31 h32 =>
      (binR Prog .add 3 a5 (.int .i64 1) h32).bind fun v33 h34 =>
      slices_DeleteFunc_of_api_Glyph_api_Glyph_j1 k call a0 a1 v33 a6 h34)
    (
      slices_DeleteFunc_of_api_Glyph_api_Glyph_j2 k call a0 a1 a5 a6 v17 v25 h26))
  (
    .ok ((.exit 0), [(0, a0), (1, a1), (5, a5), (6, a6), (19, v11)]) h12) :=
  (loopB_eq _ _).trans (by kernel_rfl)
theorem slices_DeleteFunc_of_api_Glyph_api_Glyph_j1_eq (k : Nat) (call : Caller) (a0 a1 a5 a6 : Value) (h : Heap) : slices_DeleteFunc_of_api_Glyph_api_Glyph_j1 k call a0 a1 a5 a6 h =
  (binR Prog .add 3 a6 (.int .i64 1) h).bind fun v35 h36 =>
  .ok (.normal, [(0, a0), (1, a1), (5, a5), (6, v35)]) h36 := by kernel_rfl
theorem slices_DeleteFunc_of_api_Glyph_api_Glyph_j2_eq (k : Nat) (call : Caller) (a0 a1 a5 a6 a7 a29 : Value) (h : Heap) : slices_DeleteFunc_of_api_Glyph_api_Glyph_j2 k call a0 a1 a5 a6 a7 a29 h =
  (binR Prog .add 3 a6 (.int .i64 1) h).bind fun v37 h38 =>
  .ok (.normal, [(0, a0), (1, a1), (5, a5), (6, v37)]) h38 := by kernel_rfl
theorem slices_DeleteFunc_of_api_Glyph_api_Glyph_l1k_x0 (k : Nat) (call : Caller) (a0 a1 a5 a6 a19 : Value) (h : Heap) : slices_DeleteFunc_of_api_Glyph_api_Glyph_l1k k call (.exit 0) [(0, a0), (1, a1), (5, a5), (6, a6), (19, a19)] h =
  (sliceR Prog 50 a0 (some a5) none none h).bind fun v39 h40 =>
  (builtinV Prog .clear [50] [v39] h40).bind fun _v41 h42 =>
  (sliceR Prog 50 a0 none (some a5) none h42).bind fun v43 h44 =>
  .ok v43 h44 := by kernel_rfl
def slices_IndexFunc_of_api_Glyph_api_Glyph_l1 (k : Nat) (call : Caller) : Env → Heap → Res (AExit × Env) := loopB (C k) call F.slices_IndexFunc_of_api_Glyph_api_Glyph [1, 0, 1, 0, 0]
def slices_IndexFunc_of_api_Glyph_api_Glyph_l1k (k : Nat) (call : Caller) : Kont Value := kBlock 0 (kSeq (pieceK (C k) call F.slices_IndexFunc_of_api_Glyph_api_Glyph [1, 1]) (kDone Prog (resOf Prog F.slices_IndexFunc_of_api_Glyph_api_Glyph)))
def slices_IndexFunc_of_api_Glyph_api_Glyph (k : Nat) (call : Caller) (a0 a1 : Value) (h : Heap) : Res Value :=
  (builtinV Prog .len [50] [a0] h).bind fun v1 h2 =>
  (loopN (slices_IndexFunc_of_api_Glyph_api_Glyph_l1 k call) loopFuel [(0, a0), (1, a1), (7, v1), (8, (.int .i64 0))] h2).bind fun r3 h4 =>
  slices_IndexFunc_of_api_Glyph_api_Glyph_l1k k call r3.1 r3.2 h4
theorem slices_IndexFunc_of_api_Glyph_api_Glyph_R (k : Nat) (a0 a1 : Value) (h : Heap) : R (T k) F.slices_IndexFunc_of_api_Glyph_api_Glyph [a0, a1] h = nrm .no h (slices_IndexFunc_of_api_Glyph_api_Glyph k (R (T k)) a0 a1 h) :=
  (R_body (t := T k) (T_scott k) (by kernel_rfl) _ _).trans (by kernel_rfl)
theorem slices_IndexFunc_of_api_Glyph_api_Glyph_l1_eq (k : Nat) (call : Caller) (a0 a1 a7 a8 : Value) (h : Heap) : slices_IndexFunc_of_api_Glyph_api_Glyph_l1 k call [(0, a0), (1, a1), (7, a7), (8, a8)] h =
  (binR Prog .lss 3 a8 a7 h).bind fun v5 h6 =>
  condV (some v5) (
    (indexAddrR Prog 50 a0 a8 h6).bind fun v7 h8 =>
    (loadR Prog 55 v7 h8).bind fun v9 h10 =>
    (callV call a1 [v9] h10).bind fun v11 h12 =>
    condV (some v11) (
      .ok (.ret, [(4, a8)]) h12)
    (
      (binR Prog .add 3 a8 (.int .i64 1) h12).bind fun v13 h14 =>
      .ok (.normal, [(0, a0), (1, a1), (7, a7), (8, v13)]) h14))
  (
    .ok ((.exit 0), [(0, a0), (1, a1), (7, a7), (8, a8), (9, v5)]) h6) :=
  (loopB_eq _ _).trans (by kernel_rfl)
theorem slices_IndexFunc_of_api_Glyph_api_Glyph_l1k_r (k : Nat) (call : Caller) (a4 : Value) (h : Heap) : slices_IndexFunc_of_api_Glyph_api_Glyph_l1k k call .ret [(4, a4)] h =
  .ok a4 h := by kernel_rfl
theorem slices_IndexFunc_of_api_Glyph_api_Glyph_l1k_x0 (k : Nat) (call : Caller) (a0 a1 a7 a8 a9 : Value) (h : Heap) : slices_IndexFunc_of_api_Glyph_api_Glyph_l1k k call (.exit 0) [(0, a0), (1, a1), (7, a7), (8, a8), (9, a9)] h =
  .ok (.int .i64 (-1)) h := by kernel_rfl
end
end Go.Sw
