/-
  The functions of the package swashref05. Printed by SwGenMain.
-/
import Derived.Test.YtnaodjnimkndbaaSwCfg
set_option maxRecDepth 100000
set_option linter.unusedVariables false
namespace Go.Sw
noncomputable section
def swashref05_Rows_l1 (k : Nat) (call : Caller) : Env → Heap → Res (AExit × Env) := loopB (C k) call F.swashref05_Rows [1, 1, 1, 1, 0, 1, 0, 0]
def swashref05_Rows_l1k (k : Nat) (call : Caller) : Kont Value := kBlock 0 (kSeq (pieceK (C k) call F.swashref05_Rows [1, 1, 1, 1, 1]) (kDone Prog (resOf Prog F.swashref05_Rows)))
def swashref05_Rows_j1 (k : Nat) (call : Caller) (a0 a3 a11 a12 a13 a60 : Value) (h : Heap) : Res Value :=
  kSeq (pieceK (C k) call F.swashref05_Rows [1, 1, 1, 1, 1, 1]) (kDone Prog (resOf Prog F.swashref05_Rows)) .normal [(0, a0), (3, a3), (11, a11), (12, a12), (13, a13), (60, a60)] h
def swashref05_Rows_l2 (k : Nat) (call : Caller) : Env → Heap → Res (AExit × Env) := loopB (C k) call F.swashref05_Rows [1, 1, 1, 1, 1, 0, 1, 0, 1, 0, 1, 0, 0]
def swashref05_Rows_l2k (k : Nat) (call : Caller) : Kont Value := kBlock 2 (kSeq (pieceK (C k) call F.swashref05_Rows [1, 1, 1, 1, 1, 0, 1, 0, 1, 1]) (kSeq (pieceK (C k) call F.swashref05_Rows [1, 1, 1, 1, 1, 1]) (kDone Prog (resOf Prog F.swashref05_Rows))))
def swashref05_Rows_j2 (k : Nat) (call : Caller) (a11 a13 : Value) (h : Heap) : Res Value :=
  kSeq (pieceK (C k) call F.swashref05_Rows [1, 1, 1, 1, 1, 1]) (kDone Prog (resOf Prog F.swashref05_Rows)) .normal [(11, a11), (13, a13)] h
def swashref05_Rows_j3 (k : Nat) (call : Caller) (a11 a12 a13 a80 : Value) (h : Heap) : Res Value :=
  kSeq (pieceK (C k) call F.swashref05_Rows [1, 1, 1, 1, 1, 1]) (kDone Prog (resOf Prog F.swashref05_Rows)) .normal [(11, a11), (12, a12), (13, a13), (80, a80)] h
def swashref05_Rows (k : Nat) (call : Caller) (a0 a1 a2 a3 : Value) (h : Heap) : Res Value :=
  (call F.swashref01_U [a0, a1, (.int .i64 2)] h).bind fun v1 h2 =>
  (binR Prog .add 3 a1 (.int .i64 2) h2).bind fun v3 h4 =>
  (call F.swashref01_U [a0, v3, (.int .i64 2)] h4).bind fun v5 h6 =>
  (builtinV Prog .len [65] [a0] h6).bind fun v7 h8 =>
  (call F.swashref01_In [v7, a1, (.int .i64 10)] h8).bind fun v9 h10 =>
  (unR .not v9 h10).bind fun v11 h12 =>
  ((bif wantVal v11 false then Res.ok v1 h12 else Res.ok undef h12)).bind fun v13 h14 =>
  ((bif wantVal v11 false then Res.ok a2 h14 else Res.ok undef h14)).bind fun v15 h16 =>
  ((bif wantVal v11 false then binR Prog .lss 3 v13 v15 h16 else Res.ok undef h16)).bind fun v17 h18 =>
  (condV (some v11) (Res.ok (.bool true) h18) (Res.ok v17 h18)).bind fun v19 h20 =>
  ((bif wantVal v19 false then Res.ok a0 h20 else Res.ok undef h20)).bind fun v21 h22 =>
  ((bif wantVal v19 false then builtinV Prog .len [65] [v21] h22 else Res.ok undef h22)).bind fun v23 h24 =>
  ((bif wantVal v19 false then Res.ok a1 h24 else Res.ok undef h24)).bind fun v25 h26 =>
  ((bif wantVal v19 false then binR Prog .add 3 v25 (.int .i64 10) h26 else Res.ok undef h26)).bind fun v27 h28 =>
  ((bif wantVal v19 false then Res.ok v5 h28 else Res.ok undef h28)).bind fun v29 h30 =>
  ((bif wantVal v19 false then Res.ok v1 h30 else Res.ok undef h30)).bind fun v31 h32 =>
  ((bif wantVal v19 false then call F.swashref01_Rows [v23, v27, v29, v31] h32 else Res.ok undef h32)).bind fun v33 h34 =>
  ((bif wantVal v19 false then unR .not v33 h34 else Res.ok undef h34)).bind fun v35 h36 =>
  (condV (some v19) (Res.ok (.bool true) h36) (Res.ok v35 h36)).bind fun v37 h38 =>
  condV (some v37) (
    .ok (.tuple #[(.slice none 0 0), (.int .i64 0), (.bool false)]) h38)
  (
    (buildSliceR Prog 28 0 [] h38).bind fun v39 h40 =>
    (loopN (swashref05_Rows_l1 k call) loopFuel [(0, a0), (1, a1), (3, a3), (11, v1), (12, v5), (13, v39), (14, (.int .i64 0))] h40).bind fun r41 h42 =>
    swashref05_Rows_l1k k call r41.1 r41.2 h42)
theorem swashref05_Rows_R (k : Nat) (a0 a1 a2 a3 : Value) (h : Heap) : R (T k) F.swashref05_Rows [a0, a1, a2, a3] h = nrm .fz h (swashref05_Rows k (R (T k)) a0 a1 a2 a3 h) :=
  (R_body (t := T k) (T_scott k) (by kernel_rfl) _ _).trans (by kernel_rfl)
theorem swashref05_Rows_l1_eq (k : Nat) (call : Caller) (a0 a1 a3 a11 a12 a13 a14 : Value) (h : Heap) : swashref05_Rows_l1 k call [(0, a0), (1, a1), (3, a3), (11, a11), (12, a12), (13, a13), (14, a14)] h =
  (binR Prog .lss 3 a14 a12 h).bind fun v43 h44 =>
  condV (some v43) (
    (binR Prog .add 3 a1 (.int .i64 10) h44).bind fun v45 h46 =>
    (binR Prog .mul 3 a14 a11 h46).bind fun v47 h48 =>
    (binR Prog .add 3 v45 v47 h48).bind fun v49 h50 =>
    (buildSliceR Prog 28 1 [(0, v49)] h50).bind fun v51 h52 =>
    (builtinV Prog .append [28, 28] [a13, v51] h52).bind fun v53 h54 =>
    (binR Prog .add 3 a14 (.int .i64 1) h54).bind fun v55 h56 =>
    .ok (.normal, [(0, a0), (1, a1), (3, a3), (11, a11), (12, a12), (13, v53), (14, v55)]) h56)
  (
    .ok ((.exit 0), [(0, a0), (1, a1), (3, a3), (11, a11), (12, a12), (13, a13), (14, a14), (47, v43)]) h44) :=
  (loopB_eq _ _).trans (by kernel_rfl)
theorem swashref05_Rows_l1k_x0 (k : Nat) (call : Caller) (a0 a1 a3 a11 a12 a13 a14 a47 : Value) (h : Heap) : swashref05_Rows_l1k k call (.exit 0) [(0, a0), (1, a1), (3, a3), (11, a11), (12, a12), (13, a13), (14, a14), (47, a47)] h =
  (binR Prog .gtr 3 a12 (.int .i64 0) h).bind fun v57 h58 =>
  condV (some v57) (
    (loopN (swashref05_Rows_l2 k call) loopFuel [(0, a0), (3, a3), (11, a11), (12, a12), (13, a13), (15, (.bool true)), (16, (.int .i64 0))] h58).bind fun r59 h60 =>
    swashref05_Rows_l2k k call r59.1 r59.2 h60)
  (
    swashref05_Rows_j1 k call a0 a3 a11 a12 a13 v57 h58) := by kernel_rfl
theorem swashref05_Rows_j1_eq (k : Nat) (call : Caller) (a0 a3 a11 a12 a13 a60 : Value) (h : Heap) : swashref05_Rows_j1 k call a0 a3 a11 a12 a13 a60 h =
  .ok (.tuple #[a13, a11, (.bool true)]) h := by kernel_rfl
theorem swashref05_Rows_l2_eq (k : Nat) (call : Caller) (a0 a3 a11 a12 a13 a15 a16 : Value) (h : Heap) : swashref05_Rows_l2 k call [(0, a0), (3, a3), (11, a11), (12, a12), (13, a13), (15, a15), (16, a16)] h =
  (binR Prog .lss 3 a16 a3 h).bind fun v61 h62 =>
  condV (some v61) (
    ((bif wantVal a15 true then Res.ok a0 h62 else Res.ok undef h62)).bind fun v63 h64 =>
    ((bif wantVal a15 true then Res.ok a13 h64 else Res.ok undef h64)).bind fun v65 h66 =>
    ((bif wantVal a15 true then Res.ok a12 h66 else Res.ok undef h66)).bind fun v67 h68 =>
    ((bif wantVal a15 true then binR Prog .sub 3 v67 (.int .i64 1) h68 else Res.ok undef h68)).bind fun v69 h70 =>
    ((bif wantVal a15 true then indexAddrR Prog 28 v65 v69 h70 else Res.ok undef h70)).bind fun v71 h72 =>
    ((bif wantVal a15 true then loadR Prog 3 v71 h72 else Res.ok undef h72)).bind fun v73 h74 =>
    ((bif wantVal a15 true then Res.ok a16 h74 else Res.ok undef h74)).bind fun v75 h76 =>
    ((bif wantVal a15 true then binR Prog .mul 3 (.int .i64 2) v75 h76 else Res.ok undef h76)).bind fun v77 h78 =>
    ((bif wantVal a15 true then binR Prog .add 3 v73 v77 h78 else Res.ok undef h78)).bind fun v79 h80 =>
    ((bif wantVal a15 true then call F.swashref01_U [v63, v79, (.int .i64 2)] h80 else Res.ok undef h80)).bind fun v81 h82 =>
    ((bif wantVal a15 true then binR Prog .eql 3 v81 (.int .i64 65535) h82 else Res.ok undef h82)).bind fun v83 h84 =>
    (condV (some a15) (Res.ok v83 h84) (Res.ok (.bool false) h84)).bind fun v85 h86 =>
    (binR Prog .add 3 a16 (.int .i64 1) h86).bind fun v87 h88 =>
    .ok (.normal, [(0, a0), (3, a3), (11, a11), (12, a12), (13, a13), (15, v85), (16, v87)]) h88)
  (
    .ok ((.exit 2), [(0, a0), (3, a3), (11, a11), (12, a12), (13, a13), (15, a15), (16, a16), (63, v61)]) h62) :=
  (loopB_eq _ _).trans (by kernel_rfl)
theorem swashref05_Rows_l2k_x2 (k : Nat) (call : Caller) (a0 a3 a11 a12 a13 a15 a16 a63 : Value) (h : Heap) : swashref05_Rows_l2k k call (.exit 2) [(0, a0), (3, a3), (11, a11), (12, a12), (13, a13), (15, a15), (16, a16), (63, a63)] h =
  condV (some a15) (
    (binR Prog .sub 3 a12 (.int .i64 1) h).bind fun v89 h90 =>
    (sliceR Prog 28 a13 none (some v89) none h90).bind fun v91 h92 =>
    swashref05_Rows_j2 k call a11 v91 h92)
  (
    swashref05_Rows_j3 k call a11 a12 a13 a15 h) := by kernel_rfl
theorem swashref05_Rows_j2_eq (k : Nat) (call : Caller) (a11 a13 : Value) (h : Heap) : swashref05_Rows_j2 k call a11 a13 h =
  .ok (.tuple #[a13, a11, (.bool true)]) h := by kernel_rfl
theorem swashref05_Rows_j3_eq (k : Nat) (call : Caller) (a11 a12 a13 a80 : Value) (h : Heap) : swashref05_Rows_j3 k call a11 a12 a13 a80 h =
  .ok (.tuple #[a13, a11, (.bool true)]) h := by kernel_rfl
end
end Go.Sw
