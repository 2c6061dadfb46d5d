/-
  The functions of the package swashref01. Printed by SwGenMain.
-/
import Derived.Test.YtnaodjnimkndbaaSwCfg
set_option maxRecDepth 100000
set_option linter.unusedVariables false
namespace Go.Sw
noncomputable section
def swashref01_U_l1 (k : Nat) (call : Caller) : Env → Heap → Res (AExit × Env) := loopB (C k) call F.swashref01_U [1, 1, 1, 0, 1, 0, 0]
def swashref01_U_l1k (k : Nat) (call : Caller) : Kont Value := kBlock 0 (kSeq (pieceK (C k) call F.swashref01_U [1, 1, 1, 1]) (kDone Prog (resOf Prog F.swashref01_U)))
def swashref01_U (k : Nat) (call : Caller) (a0 a1 a2 : Value) (h : Heap) : Res Value :=
  (builtinV Prog .len [65] [a0] h).bind fun v1 h2 =>
  (call F.swashref01_In [v1, a1, a2] h2).bind fun v3 h4 =>
  (unR .not v3 h4).bind fun v5 h6 =>
  condV (some v5) (
    .ok (.int .i64 (-1)) h6)
  (
    (loopN (swashref01_U_l1 k call) loopFuel [(0, a0), (1, a1), (2, a2), (7, (.int .i64 0)), (8, (.int .i64 0))] h6).bind fun r7 h8 =>
    swashref01_U_l1k k call r7.1 r7.2 h8)
theorem swashref01_U_R (k : Nat) (a0 a1 a2 : Value) (h : Heap) : R (T k) F.swashref01_U [a0, a1, a2] h = nrm .gc h (swashref01_U k (R (T k)) a0 a1 a2 h) :=
  (R_body (t := T k) (T_scott k) (by kernel_rfl) _ _).trans (by kernel_rfl)
theorem swashref01_U_l1_eq (k : Nat) (call : Caller) (a0 a1 a2 a7 a8 : Value) (h : Heap) : swashref01_U_l1 k call [(0, a0), (1, a1), (2, a2), (7, a7), (8, a8)] h =
  (binR Prog .lss 3 a8 a2 h).bind fun v9 h10 =>
  condV (some v9) (
    (binR Prog .mul 3 (.int .i64 256) a7 h10).bind fun v11 h12 =>
    (binR Prog .add 3 a1 a8 h12).bind fun v13 h14 =>
    (indexAddrR Prog 65 a0 v13 h14).bind fun v15 h16 =>
    (loadR Prog 5 v15 h16).bind fun v17 h18 =>
    (convR Prog 5 3 v17 h18).bind fun v19 h20 =>
    (binR Prog .add 3 v11 v19 h20).bind fun v21 h22 =>
    (binR Prog .add 3 a8 (.int .i64 1) h22).bind fun v23 h24 =>
    .ok (.normal, [(0, a0), (1, a1), (2, a2), (7, v21), (8, v23)]) h24)
  (
    .ok ((.exit 0), [(0, a0), (1, a1), (2, a2), (7, a7), (8, a8), (17, v9)]) h10) :=
  (loopB_eq _ _).trans (by kernel_rfl)
theorem swashref01_U_l1k_x0 (k : Nat) (call : Caller) (a0 a1 a2 a7 a8 a17 : Value) (h : Heap) : swashref01_U_l1k k call (.exit 0) [(0, a0), (1, a1), (2, a2), (7, a7), (8, a8), (17, a17)] h =
  .ok a7 h := by kernel_rfl
def swashref01_Rows (k : Nat) (call : Caller) (a0 a1 a2 a3 : Value) (h : Heap) : Res Value :=
  (binR Prog .lss 3 a1 (.int .i64 0) h).bind fun v1 h2 =>
  ((bif wantVal v1 false then Res.ok a2 h2 else Res.ok undef h2)).bind fun v3 h4 =>
  ((bif wantVal v1 false then binR Prog .lss 3 v3 (.int .i64 0) h4 else Res.ok undef h4)).bind fun v5 h6 =>
  (condV (some v1) (Res.ok (.bool true) h6) (Res.ok v5 h6)).bind fun v7 h8 =>
  ((bif wantVal v7 false then Res.ok a3 h8 else Res.ok undef h8)).bind fun v9 h10 =>
  ((bif wantVal v7 false then binR Prog .lss 3 v9 (.int .i64 0) h10 else Res.ok undef h10)).bind fun v11 h12 =>
  (condV (some v7) (Res.ok (.bool true) h12) (Res.ok v11 h12)).bind fun v13 h14 =>
  ((bif wantVal v13 false then Res.ok a1 h14 else Res.ok undef h14)).bind fun v15 h16 =>
  ((bif wantVal v13 false then Res.ok a0 h16 else Res.ok undef h16)).bind fun v17 h18 =>
  ((bif wantVal v13 false then binR Prog .gtr 3 v15 v17 h18 else Res.ok undef h18)).bind fun v19 h20 =>
  (condV (some v13) (Res.ok (.bool true) h20) (Res.ok v19 h20)).bind fun v21 h22 =>
  condV (some v21) (
    .ok (.bool false) h22)
  (
    (binR Prog .eql 3 a3 (.int .i64 0) h22).bind fun v23 h24 =>
    ((bif wantVal v23 false then Res.ok a2 h24 else Res.ok undef h24)).bind fun v25 h26 =>
    ((bif wantVal v23 false then Res.ok a0 h26 else Res.ok undef h26)).bind fun v27 h28 =>
    ((bif wantVal v23 false then Res.ok a1 h28 else Res.ok undef h28)).bind fun v29 h30 =>
    ((bif wantVal v23 false then binR Prog .sub 3 v27 v29 h30 else Res.ok undef h30)).bind fun v31 h32 =>
    ((bif wantVal v23 false then Res.ok a3 h32 else Res.ok undef h32)).bind fun v33 h34 =>
    ((bif wantVal v23 false then binR Prog .quo 3 v31 v33 h34 else Res.ok undef h34)).bind fun v35 h36 =>
    ((bif wantVal v23 false then binR Prog .leq 3 v25 v35 h36 else Res.ok undef h36)).bind fun v37 h38 =>
    (condV (some v23) (Res.ok (.bool true) h38) (Res.ok v37 h38)).bind fun v39 h40 =>
    .ok v39 h40)
theorem swashref01_Rows_R (k : Nat) (a0 a1 a2 a3 : Value) (h : Heap) : R (T k) F.swashref01_Rows [a0, a1, a2, a3] h = nrm .gc h (swashref01_Rows k (R (T k)) a0 a1 a2 a3 h) :=
  (R_body (t := T k) (T_scott k) (by kernel_rfl) _ _).trans (by kernel_rfl)
def swashref01_From (k : Nat) (call : Caller) (a0 a1 : Value) (h : Heap) : Res Value :=
  (binR Prog .lss 3 a1 (.int .i64 0) h).bind fun v1 h2 =>
  ((bif wantVal v1 false then Res.ok a1 h2 else Res.ok undef h2)).bind fun v3 h4 =>
  ((bif wantVal v1 false then Res.ok a0 h4 else Res.ok undef h4)).bind fun v5 h6 =>
  ((bif wantVal v1 false then builtinV Prog .len [65] [v5] h6 else Res.ok undef h6)).bind fun v7 h8 =>
  ((bif wantVal v1 false then binR Prog .gtr 3 v3 v7 h8 else Res.ok undef h8)).bind fun v9 h10 =>
  (condV (some v1) (Res.ok (.bool true) h10) (Res.ok v9 h10)).bind fun v11 h12 =>
  condV (some v11) (
    .ok (.tuple #[(.slice none 0 0), (.bool false)]) h12)
  (
    (sliceR Prog 65 a0 (some a1) none none h12).bind fun v13 h14 =>
    .ok (.tuple #[v13, (.bool true)]) h14)
theorem swashref01_From_R (k : Nat) (a0 a1 : Value) (h : Heap) : R (T k) F.swashref01_From [a0, a1] h = nrm .fz h (swashref01_From k (R (T k)) a0 a1 h) :=
  (R_body (t := T k) (T_scott k) (by kernel_rfl) _ _).trans (by kernel_rfl)
def swashref01_In (k : Nat) (call : Caller) (a0 a1 a2 : Value) (h : Heap) : Res Value :=
  (binR Prog .geq 3 a1 (.int .i64 0) h).bind fun v1 h2 =>
  ((bif wantVal v1 true then Res.ok a2 h2 else Res.ok undef h2)).bind fun v3 h4 =>
  ((bif wantVal v1 true then binR Prog .geq 3 v3 (.int .i64 0) h4 else Res.ok undef h4)).bind fun v5 h6 =>
  (condV (some v1) (Res.ok v5 h6) (Res.ok (.bool false) h6)).bind fun v7 h8 =>
  ((bif wantVal v7 true then Res.ok a1 h8 else Res.ok undef h8)).bind fun v9 h10 =>
  ((bif wantVal v7 true then Res.ok a0 h10 else Res.ok undef h10)).bind fun v11 h12 =>
  ((bif wantVal v7 true then binR Prog .leq 3 v9 v11 h12 else Res.ok undef h12)).bind fun v13 h14 =>
  (condV (some v7) (Res.ok v13 h14) (Res.ok (.bool false) h14)).bind fun v15 h16 =>
  ((bif wantVal v15 true then Res.ok a2 h16 else Res.ok undef h16)).bind fun v17 h18 =>
  ((bif wantVal v15 true then Res.ok a0 h18 else Res.ok undef h18)).bind fun v19 h20 =>
  ((bif wantVal v15 true then Res.ok a1 h20 else Res.ok undef h20)).bind fun v21 h22 =>
  ((bif wantVal v15 true then binR Prog .sub 3 v19 v21 h22 else Res.ok undef h22)).bind fun v23 h24 =>
  ((bif wantVal v15 true then binR Prog .leq 3 v17 v23 h24 else Res.ok undef h24)).bind fun v25 h26 =>
  (condV (some v15) (Res.ok v25 h26) (Res.ok (.bool false) h26)).bind fun v27 h28 =>
  .ok v27 h28
theorem swashref01_In_R (k : Nat) (a0 a1 a2 : Value) (h : Heap) : R (T k) F.swashref01_In [a0, a1, a2] h = nrm .gc h (swashref01_In k (R (T k)) a0 a1 a2 h) :=
  (R_body (t := T k) (T_scott k) (by kernel_rfl) _ _).trans (by kernel_rfl)
def swashref01_S32 (k : Nat) (call : Caller) (a0 : Value) (h : Heap) : Res Value :=
  (binR Prog .geq 3 a0 (.int .i64 2147483648) h).bind fun v1 h2 =>
  condV (some v1) (
    (binR Prog .sub 3 a0 (.int .i64 4294967296) h2).bind fun v3 h4 =>
    .ok v3 h4)
  (
    .ok a0 h2)
theorem swashref01_S32_R (k : Nat) (a0 : Value) (h : Heap) : R (T k) F.swashref01_S32 [a0] h = nrm .gc h (swashref01_S32 k (R (T k)) a0 h) :=
  (R_body (t := T k) (T_scott k) (by kernel_rfl) _ _).trans (by kernel_rfl)
def swashref01_S16 (k : Nat) (call : Caller) (a0 : Value) (h : Heap) : Res Value :=
  (binR Prog .geq 3 a0 (.int .i64 32768) h).bind fun v1 h2 =>
  condV (some v1) (
    (binR Prog .sub 3 a0 (.int .i64 65536) h2).bind fun v3 h4 =>
    .ok v3 h4)
  (
    .ok a0 h2)
theorem swashref01_S16_R (k : Nat) (a0 : Value) (h : Heap) : R (T k) F.swashref01_S16 [a0] h = nrm .gc h (swashref01_S16 k (R (T k)) a0 h) :=
  (R_body (t := T k) (T_scott k) (by kernel_rfl) _ _).trans (by kernel_rfl)
end
end Go.Sw
