/-
  The functions of the package swashlaw06. Printed by SwGenMain.
-/
import Derived.Test.YtnaodjnimkndbaaSwCfg
set_option maxRecDepth 100000
set_option linter.unusedVariables false
namespace Go.Sw
noncomputable section
def swashlaw06_LookupForms_l1 (k : Nat) (call : Caller) : Env → Heap → Res (AExit × Env) := loopB (C k) call F.swashlaw06_LookupForms [1, 1, 1, 1, 1, 0, 1, 0, 0]
def swashlaw06_LookupForms_l1k (k : Nat) (call : Caller) : Kont Value := kBlock 0 (kSeq (pieceK (C k) call F.swashlaw06_LookupForms [1, 1, 1, 1, 1, 1]) (kDone Prog (resOf Prog F.swashlaw06_LookupForms)))
def swashlaw06_LookupForms_j1 (k : Nat) (call : Caller) (a0 a1 a5 a6 a26 a27 a28 : Value) (h : Heap) : Res (AExit × Env) :=
  kSeq (pieceK (C k) call F.swashlaw06_LookupForms [1, 1, 1, 1, 1, 0, 1, 0, 0, 1, 1, 1]) (kRound (ownOf (C k) F.swashlaw06_LookupForms [1, 1, 1, 1, 1, 0, 1, 0, 0])) .normal [(0, a0), (1, a1), (5, a5), (6, a6), (26, a26), (27, a27), (28, a28)] h
def swashlaw06_LookupForms_j2 (k : Nat) (call : Caller) (a0 a1 a5 a6 a8 a26 a27 a28 a36 : Value) (h : Heap) : Res (AExit × Env) :=
  kSeq (pieceK (C k) call F.swashlaw06_LookupForms [1, 1, 1, 1, 1, 0, 1, 0, 0, 1, 1, 1]) (kRound (ownOf (C k) F.swashlaw06_LookupForms [1, 1, 1, 1, 1, 0, 1, 0, 0])) .normal [(0, a0), (1, a1), (5, a5), (6, a6), (8, a8), (26, a26), (27, a27), (28, a28), (36, a36)] h
def swashlaw06_LookupForms_l2 (k : Nat) (call : Caller) : Env → Heap → Res (AExit × Env) := loopB (C k) call F.swashlaw06_LookupForms [1, 1, 1, 1, 1, 1, 0, 1, 0, 0]
def swashlaw06_LookupForms_l2k (k : Nat) (call : Caller) : Kont Value := kBlock 2 (kSeq (pieceK (C k) call F.swashlaw06_LookupForms [1, 1, 1, 1, 1, 1, 1]) (kDone Prog (resOf Prog F.swashlaw06_LookupForms)))
def swashlaw06_LookupForms_j3 (k : Nat) (call : Caller) (a0 a1 a5 a6 a10 a42 a43 a53 : Value) (h : Heap) : Res (AExit × Env) :=
  kSeq (pieceK (C k) call F.swashlaw06_LookupForms [1, 1, 1, 1, 1, 1, 0, 1, 0, 0, 1, 1, 1]) (kRound (ownOf (C k) F.swashlaw06_LookupForms [1, 1, 1, 1, 1, 1, 0, 1, 0, 0])) .normal [(0, a0), (1, a1), (5, a5), (6, a6), (10, a10), (42, a42), (43, a43), (53, a53)] h
def swashlaw06_LookupForms_l3 (k : Nat) (call : Caller) : Env → Heap → Res (AExit × Env) := loopB (C k) call F.swashlaw06_LookupForms [1, 1, 1, 1, 1, 1, 0, 1, 0, 0, 1, 1, 0, 0, 1, 1, 1, 1, 1, 1, 1, 0, 0]
def swashlaw06_LookupForms_l3k (k : Nat) (call : Caller) : Kont (AExit × Env) := kBlock 4 (kBlock 3 (kSeq (pieceK (C k) call F.swashlaw06_LookupForms [1, 1, 1, 1, 1, 1, 0, 1, 0, 0, 1, 1, 1]) (kRound (ownOf (C k) F.swashlaw06_LookupForms [1, 1, 1, 1, 1, 1, 0, 1, 0, 0]))))
def swashlaw06_LookupForms_j4 (k : Nat) (call : Caller) (a0 a1 a5 a6 a11 a42 a43 a79 a80 a81 a82 : Value) (h : Heap) : Res (AExit × Env) :=
  kSeq (pieceK (C k) call F.swashlaw06_LookupForms [1, 1, 1, 1, 1, 1, 0, 1, 0, 0, 1, 1, 1]) (kRound (ownOf (C k) F.swashlaw06_LookupForms [1, 1, 1, 1, 1, 1, 0, 1, 0, 0])) .normal [(0, a0), (1, a1), (5, a5), (6, a6), (11, a11), (42, a42), (43, a43), (79, a79), (80, a80), (81, a81), (82, a82)] h
def swashlaw06_LookupForms (k : Nat) (call : Caller) (a0 a1 : Value) (h : Heap) : Res Value :=
  (call F.swashlaw06_speaks [] h).bind fun v1 h2 =>
  (unR .not v1 h2).bind fun v3 h4 =>
  condV (some v3) (
    .ok (.bool false) h4)
  (
    (builtinV Prog .len [60] [a0] h4).bind fun v5 h6 =>
    (binR Prog .gtr 3 v5 (.int .i64 30) h6).bind fun v7 h8 =>
    condV (some v7) (
      .ok (.bool true) h8)
    (
      (call F.swashlaw06_rising [a0] h8).bind fun v9 h10 =>
      (builtinV Prog .len [60] [v9] h10).bind fun v11 h12 =>
      (loopN (swashlaw06_LookupForms_l1 k call) loopFuel [(0, v9), (1, a1), (5, (.int .i64 0)), (6, (.bool false)), (26, v9), (27, v11), (28, (.int .i64 0))] h12).bind fun r13 h14 =>
      swashlaw06_LookupForms_l1k k call r13.1 r13.2 h14))
theorem swashlaw06_LookupForms_R (k : Nat) (a0 a1 : Value) (h : Heap) : R (T k) F.swashlaw06_LookupForms [a0, a1] h = nrm .gc h (swashlaw06_LookupForms k (R (T k)) a0 a1 h) :=
  (R_body (t := T k) (T_scott k) (by kernel_rfl) _ _).trans (by kernel_rfl)
theorem swashlaw06_LookupForms_l1_eq (k : Nat) (call : Caller) (a0 a1 a5 a6 a26 a27 a28 : Value) (h : Heap) : swashlaw06_LookupForms_l1 k call [(0, a0), (1, a1), (5, a5), (6, a6), (26, a26), (27, a27), (28, a28)] h =
  (binR Prog .lss 3 a28 a27 h).bind fun v15 h16 =>
  condV (some v15) (
    (indexAddrR Prog 60 a26 a28 h16).bind fun v17 h18 =>
    (loadR Prog 64 v17 h18).bind fun v19 h20 =>
    (allocR Prog 64 h20).bind fun v21 h22 =>
    (storeR Prog 64 v21 v19 h22).bind fun _v23 h24 =>
    (fieldAddrR Prog 64 v21 0 h24).bind fun v25 h26 =>
    (loadR Prog 62 v25 h26).bind fun v27 h28 =>
    (convR Prog 62 3 v27 h28).bind fun v29 h30 =>
    (binR Prog .eql 3 v29 a1 h30).bind fun v31 h32 =>
    condV (some v31) (
      (fieldAddrR Prog 64 v21 1 h32).bind fun v33 h34 =>
      (loadR Prog 62 v33 h34).bind fun v35 h36 =>
      (convR Prog 62 3 v35 h36).bind fun v37 h38 =>
      swashlaw06_LookupForms_j1 k call a0 a1 v37 (.bool true) a26 a27 a28 h38)
    (
      swashlaw06_LookupForms_j2 k call a0 a1 a5 a6 v21 a26 a27 a28 v31 h32))
  (
    .ok ((.exit 0), [(0, a0), (1, a1), (5, a5), (6, a6), (26, a26), (27, a27), (28, a28), (29, v15)]) h16) :=
  (loopB_eq _ _).trans (by kernel_rfl)
theorem swashlaw06_LookupForms_j1_eq (k : Nat) (call : Caller) (a0 a1 a5 a6 a26 a27 a28 : Value) (h : Heap) : swashlaw06_LookupForms_j1 k call a0 a1 a5 a6 a26 a27 a28 h =
  (binR Prog .add 3 a28 (.int .i64 1) h).bind fun v39 h40 =>
  .ok (.normal, [(0, a0), (1, a1), (5, a5), (6, a6), (26, a26), (27, a27), (28, v39)]) h40 := by kernel_rfl
theorem swashlaw06_LookupForms_j2_eq (k : Nat) (call : Caller) (a0 a1 a5 a6 a8 a26 a27 a28 a36 : Value) (h : Heap) : swashlaw06_LookupForms_j2 k call a0 a1 a5 a6 a8 a26 a27 a28 a36 h =
  (binR Prog .add 3 a28 (.int .i64 1) h).bind fun v41 h42 =>
  .ok (.normal, [(0, a0), (1, a1), (5, a5), (6, a6), (26, a26), (27, a27), (28, v41)]) h42 := by kernel_rfl
theorem swashlaw06_LookupForms_l1k_x0 (k : Nat) (call : Caller) (a0 a1 a5 a6 a26 a27 a28 a29 : Value) (h : Heap) : swashlaw06_LookupForms_l1k k call (.exit 0) [(0, a0), (1, a1), (5, a5), (6, a6), (26, a26), (27, a27), (28, a28), (29, a29)] h =
  (call F.swashlaw06_Forms [a0] h).bind fun v43 h44 =>
  (loopN (swashlaw06_LookupForms_l2 k call) loopFuel [(0, a0), (1, a1), (5, a5), (6, a6), (42, v43), (43, (.int .i64 0))] h44).bind fun r45 h46 =>
  swashlaw06_LookupForms_l2k k call r45.1 r45.2 h46 := by kernel_rfl
theorem swashlaw06_LookupForms_l2_eq (k : Nat) (call : Caller) (a0 a1 a5 a6 a42 a43 : Value) (h : Heap) : swashlaw06_LookupForms_l2 k call [(0, a0), (1, a1), (5, a5), (6, a6), (42, a42), (43, a43)] h =
  (binR Prog .lss 3 a43 (.int .i64 4) h).bind fun v47 h48 =>
  condV (some v47) (
    (indexR Prog 66 a42 a43 h48).bind fun v49 h50 =>
    (binR Prog .eql 3 a43 (.int .i64 3) h50).bind fun v51 h52 =>
    ((bif wantVal v51 true then Res.ok a0 h52 else Res.ok undef h52)).bind fun v53 h54 =>
    ((bif wantVal v51 true then builtinV Prog .len [60] [v53] h54 else Res.ok undef h54)).bind fun v55 h56 =>
    ((bif wantVal v51 true then binR Prog .gtr 3 v55 (.int .i64 1) h56 else Res.ok undef h56)).bind fun v57 h58 =>
    (condV (some v51) (Res.ok v57 h58) (Res.ok (.bool false) h58)).bind fun v59 h60 =>
    condV (some v59) (
      swashlaw06_LookupForms_j3 k call a0 a1 a5 a6 v49 a42 a43 v59 h60)
    (
      (call F.lookup_Read [v49, (.int .i64 65535), (.int .i64 2)] h60).bind fun v61 h62 =>
      (extractR v61 0 h62).bind fun v63 h64 =>
      (extractR v61 1 h64).bind fun v65 h66 =>
      (binR Prog .neq 69 v65 (.int .i64 0) h66).bind fun v67 h68 =>
      ((bif wantVal v67 false then Res.ok v63 h68 else Res.ok undef h68)).bind fun v69 h70 =>
      ((bif wantVal v67 false then binR Prog .eql 68 v69 (.pointer none) h70 else Res.ok undef h70)).bind fun v71 h72 =>
      (condV (some v67) (Res.ok (.bool true) h72) (Res.ok v71 h72)).bind fun v73 h74 =>
      condV (some v73) (
        .ok (.ret, [(4, (.bool false))]) h74)
      (
        (call F.lookup_Table_Get [v63, a1] h74).bind fun v75 h76 =>
        (extractR v75 0 h76).bind fun v77 h78 =>
        (extractR v75 1 h78).bind fun v79 h80 =>
        (binR Prog .neq 3 v77 a5 h80).bind fun v81 h82 =>
        ((bif wantVal v81 false then Res.ok v79 h82 else Res.ok undef h82)).bind fun v83 h84 =>
        ((bif wantVal v81 false then Res.ok a6 h84 else Res.ok undef h84)).bind fun v85 h86 =>
        ((bif wantVal v81 false then binR Prog .neq 4 v83 v85 h86 else Res.ok undef h86)).bind fun v87 h88 =>
        (condV (some v81) (Res.ok (.bool true) h88) (Res.ok v87 h88)).bind fun v89 h90 =>
        condV (some v89) (
          .ok (.ret, [(4, (.bool false))]) h90)
        (
          (builtinV Prog .len [60] [a0] h90).bind fun v91 h92 =>
          (loopN (swashlaw06_LookupForms_l3 k call) loopFuel [(0, a0), (1, a1), (5, a5), (6, a6), (11, v63), (42, a42), (43, a43), (79, a0), (80, v91), (81, (.int .i64 0))] h92).bind fun r93 h94 =>
          swashlaw06_LookupForms_l3k k call r93.1 r93.2 h94))))
  (
    .ok ((.exit 2), [(0, a0), (1, a1), (5, a5), (6, a6), (42, a42), (43, a43), (44, v47)]) h48) :=
  (loopB_eq _ _).trans (by kernel_rfl)
theorem swashlaw06_LookupForms_j3_eq (k : Nat) (call : Caller) (a0 a1 a5 a6 a10 a42 a43 a53 : Value) (h : Heap) : swashlaw06_LookupForms_j3 k call a0 a1 a5 a6 a10 a42 a43 a53 h =
  (binR Prog .add 3 a43 (.int .i64 1) h).bind fun v95 h96 =>
  .ok (.normal, [(0, a0), (1, a1), (5, a5), (6, a6), (42, a42), (43, v95)]) h96 := by kernel_rfl
theorem swashlaw06_LookupForms_l3_eq (k : Nat) (call : Caller) (a0 a1 a5 a6 a11 a42 a43 a79 a80 a81 : Value) (h : Heap) : swashlaw06_LookupForms_l3 k call [(0, a0), (1, a1), (5, a5), (6, a6), (11, a11), (42, a42), (43, a43), (79, a79), (80, a80), (81, a81)] h =
  (binR Prog .lss 3 a81 a80 h).bind fun v97 h98 =>
  condV (some v97) (
    (indexAddrR Prog 60 a79 a81 h98).bind fun v99 h100 =>
    (loadR Prog 64 v99 h100).bind fun v101 h102 =>
    (allocR Prog 64 h102).bind fun v103 h104 =>
    (storeR Prog 64 v103 v101 h104).bind fun _v105 h106 =>
    (fieldAddrR Prog 64 v103 0 h106).bind fun v107 h108 =>
    (loadR Prog 62 v107 h108).bind fun v109 h110 =>
    (convR Prog 62 3 v109 h110).bind fun v111 h112 =>
    (call F.lookup_Table_Get [a11, v111] h112).bind fun v113 h114 =>
    (extractR v113 0 h114).bind fun v115 h116 =>
    (extractR v113 1 h116).bind fun v117 h118 =>
    (unR .not v117 h118).bind fun v119 h120 =>
    ((bif wantVal v119 false then Res.ok v115 h120 else Res.ok undef h120)).bind fun v121 h122 =>
    ((bif wantVal v119 false then fieldAddrR Prog 64 v103 1 h122 else Res.ok undef h122)).bind fun v123 h124 =>
    ((bif wantVal v119 false then loadR Prog 62 v123 h124 else Res.ok undef h124)).bind fun v125 h126 =>
    ((bif wantVal v119 false then convR Prog 62 3 v125 h126 else Res.ok undef h126)).bind fun v127 h128 =>
    ((bif wantVal v119 false then binR Prog .neq 3 v121 v127 h128 else Res.ok undef h128)).bind fun v129 h130 =>
    (condV (some v119) (Res.ok (.bool true) h130) (Res.ok v129 h130)).bind fun v131 h132 =>
    condV (some v131) (
      .ok (.ret, [(4, (.bool false))]) h132)
    (
      (binR Prog .add 3 a81 (.int .i64 1) h132).bind fun v133 h134 =>
      .ok (.normal, [(0, a0), (1, a1), (5, a5), (6, a6), (11, a11), (42, a42), (43, a43), (79, a79), (80, a80), (81, v133)]) h134))
  (
    .ok ((.exit 4), [(0, a0), (1, a1), (5, a5), (6, a6), (11, a11), (42, a42), (43, a43), (79, a79), (80, a80), (81, a81), (82, v97)]) h98) :=
  (loopB_eq _ _).trans (by kernel_rfl)
theorem swashlaw06_LookupForms_l2k_r (k : Nat) (call : Caller) (a4 : Value) (h : Heap) : swashlaw06_LookupForms_l2k k call .ret [(4, a4)] h =
  .ok a4 h := by kernel_rfl
theorem swashlaw06_LookupForms_l2k_x2 (k : Nat) (call : Caller) (a0 a1 a5 a6 a42 a43 a44 : Value) (h : Heap) : swashlaw06_LookupForms_l2k k call (.exit 2) [(0, a0), (1, a1), (5, a5), (6, a6), (42, a42), (43, a43), (44, a44)] h =
  .ok (.bool true) h := by kernel_rfl
theorem swashlaw06_LookupForms_l3k_r (k : Nat) (call : Caller) (a4 : Value) (h : Heap) : swashlaw06_LookupForms_l3k k call .ret [(4, a4)] h =
  .ok (.ret, [(4, a4)]) h := by kernel_rfl
theorem swashlaw06_LookupForms_l3k_x4 (k : Nat) (call : Caller) (a0 a1 a5 a6 a11 a42 a43 a79 a80 a81 a82 : Value) (h : Heap) : swashlaw06_LookupForms_l3k k call (.exit 4) [(0, a0), (1, a1), (5, a5), (6, a6), (11, a11), (42, a42), (43, a43), (79, a79), (80, a80), (81, a81), (82, a82)] h =
  swashlaw06_LookupForms_j4 k call a0 a1 a5 a6 a11 a42 a43 a79 a80 a81 a82 h := by kernel_rfl
theorem swashlaw06_LookupForms_j4_eq (k : Nat) (call : Caller) (a0 a1 a5 a6 a11 a42 a43 a79 a80 a81 a82 : Value) (h : Heap) : swashlaw06_LookupForms_j4 k call a0 a1 a5 a6 a11 a42 a43 a79 a80 a81 a82 h =
  (binR Prog .add 3 a43 (.int .i64 1) h).bind fun v135 h136 =>
  .ok (.normal, [(0, a0), (1, a1), (5, a5), (6, a6), (42, a42), (43, v135)]) h136 := by kernel_rfl
def swashlaw06_LookupKeeps_l1 (k : Nat) (call : Caller) : Env → Heap → Res (AExit × Env) := loopB (C k) call F.swashlaw06_LookupKeeps [1, 1, 1, 1, 1, 1, 1, 0, 1, 0, 0]
def swashlaw06_LookupKeeps_l1k (k : Nat) (call : Caller) : Kont Value := kBlock 0 (kSeq (pieceK (C k) call F.swashlaw06_LookupKeeps [1, 1, 1, 1, 1, 1, 1, 1]) (kDone Prog (resOf Prog F.swashlaw06_LookupKeeps)))
def swashlaw06_LookupKeeps_l2 (k : Nat) (call : Caller) : Env → Heap → Res (AExit × Env) := loopB (C k) call F.swashlaw06_LookupKeeps [1, 1, 1, 1, 1, 1, 1, 1, 0, 1, 0, 0]
def swashlaw06_LookupKeeps_l2k (k : Nat) (call : Caller) : Kont Value := kBlock 2 (kSeq (pieceK (C k) call F.swashlaw06_LookupKeeps [1, 1, 1, 1, 1, 1, 1, 1, 1]) (kDone Prog (resOf Prog F.swashlaw06_LookupKeeps)))
def swashlaw06_LookupKeeps_l3 (k : Nat) (call : Caller) : Env → Heap → Res (AExit × Env) := loopB (C k) call F.swashlaw06_LookupKeeps [1, 1, 1, 1, 1, 1, 1, 1, 1, 0, 1, 0, 0]
def swashlaw06_LookupKeeps_l3k (k : Nat) (call : Caller) : Kont Value := kBlock 4 (kSeq (pieceK (C k) call F.swashlaw06_LookupKeeps [1, 1, 1, 1, 1, 1, 1, 1, 1, 1]) (kDone Prog (resOf Prog F.swashlaw06_LookupKeeps)))
def swashlaw06_LookupKeeps (k : Nat) (call : Caller) (a0 a1 : Value) (h : Heap) : Res Value :=
  (call F.swashlaw06_speaks [] h).bind fun v1 h2 =>
  (unR .not v1 h2).bind fun v3 h4 =>
  condV (some v3) (
    .ok (.bool false) h4)
  (
    (builtinV Prog .len [65] [a0] h4).bind fun v5 h6 =>
    (binR Prog .gtr 3 v5 (.int .i64 400) h6).bind fun v7 h8 =>
    condV (some v7) (
      .ok (.bool true) h8)
    (
      (buildSliceR Prog 65 0 [] h8).bind fun v9 h10 =>
      (builtinV Prog .append [65, 65] [v9, a0] h10).bind fun v11 h12 =>
      (call F.lookup_Read [v11, (.int .i64 40), (.int .i64 2)] h12).bind fun v13 h14 =>
      (extractR v13 0 h14).bind fun v15 h16 =>
      (extractR v13 1 h16).bind fun v17 h18 =>
      (binR Prog .eql 68 v15 (.pointer none) h18).bind fun v19 h20 =>
      condV (some v19) (
        .ok (.bool true) h20)
      (
        (buildR Prog 75 [] h20).bind fun v21 h22 =>
        (allocR Prog 75 h22).bind fun v23 h24 =>
        (storeR Prog 75 v23 v21 h24).bind fun _v25 h26 =>
        (loopN (swashlaw06_LookupKeeps_l1 k call) loopFuel [(1, a1), (5, v11), (6, v15), (8, v23), (31, (.int .i64 0))] h26).bind fun r27 h28 =>
        swashlaw06_LookupKeeps_l1k k call r27.1 r27.2 h28)))
theorem swashlaw06_LookupKeeps_R (k : Nat) (a0 a1 : Value) (h : Heap) : R (T k) F.swashlaw06_LookupKeeps [a0, a1] h = nrm .gc h (swashlaw06_LookupKeeps k (R (T k)) a0 a1 h) :=
  (R_body (t := T k) (T_scott k) (by kernel_rfl) _ _).trans (by kernel_rfl)
theorem swashlaw06_LookupKeeps_l1_eq (k : Nat) (call : Caller) (a1 a5 a6 a8 a31 : Value) (h : Heap) : swashlaw06_LookupKeeps_l1 k call [(1, a1), (5, a5), (6, a6), (8, a8), (31, a31)] h =
  (binR Prog .lss 3 a31 (.int .i64 60) h).bind fun v29 h30 =>
  condV (some v29) (
    (call F.lookup_Table_Get [a6, a31] h30).bind fun v31 h32 =>
    (extractR v31 0 h32).bind fun v33 h34 =>
    (extractR v31 1 h34).bind fun v35 h36 =>
    (indexAddrR Prog 75 a8 a31 h36).bind fun v37 h38 =>
    (storeR Prog 3 v37 v33 h38).bind fun _v39 h40 =>
    (binR Prog .add 3 a31 (.int .i64 1) h40).bind fun v41 h42 =>
    .ok (.normal, [(1, a1), (5, a5), (6, a6), (8, a8), (31, v41)]) h42)
  (
    .ok ((.exit 0), [(1, a1), (5, a5), (6, a6), (8, a8), (31, a31), (32, v29)]) h30) :=
  (loopB_eq _ _).trans (by kernel_rfl)
theorem swashlaw06_LookupKeeps_l1k_x0 (k : Nat) (call : Caller) (a1 a5 a6 a8 a31 a32 : Value) (h : Heap) : swashlaw06_LookupKeeps_l1k k call (.exit 0) [(1, a1), (5, a5), (6, a6), (8, a8), (31, a31), (32, a32)] h =
  (builtinV Prog .len [65] [a5] h).bind fun v43 h44 =>
  (loopN (swashlaw06_LookupKeeps_l2 k call) loopFuel [(1, a1), (5, a5), (6, a6), (8, a8), (44, v43), (45, (.int .i64 0))] h44).bind fun r45 h46 =>
  swashlaw06_LookupKeeps_l2k k call r45.1 r45.2 h46 := by kernel_rfl
theorem swashlaw06_LookupKeeps_l2_eq (k : Nat) (call : Caller) (a1 a5 a6 a8 a44 a45 : Value) (h : Heap) : swashlaw06_LookupKeeps_l2 k call [(1, a1), (5, a5), (6, a6), (8, a8), (44, a44), (45, a45)] h =
  (binR Prog .lss 3 a45 a44 h).bind fun v47 h48 =>
  condV (some v47) (
    (indexAddrR Prog 65 a5 a45 h48).bind fun v49 h50 =>
    (storeR Prog 5 v49 a1 h50).bind fun _v51 h52 =>
    (binR Prog .add 3 a45 (.int .i64 1) h52).bind fun v53 h54 =>
    .ok (.normal, [(1, a1), (5, a5), (6, a6), (8, a8), (44, a44), (45, v53)]) h54)
  (
    .ok ((.exit 2), [(1, a1), (5, a5), (6, a6), (8, a8), (44, a44), (45, a45), (46, v47)]) h48) :=
  (loopB_eq _ _).trans (by kernel_rfl)
theorem swashlaw06_LookupKeeps_l2k_x2 (k : Nat) (call : Caller) (a1 a5 a6 a8 a44 a45 a46 : Value) (h : Heap) : swashlaw06_LookupKeeps_l2k k call (.exit 2) [(1, a1), (5, a5), (6, a6), (8, a8), (44, a44), (45, a45), (46, a46)] h =
  (loadR Prog 75 a8 h).bind fun v55 h56 =>
  (loopN (swashlaw06_LookupKeeps_l3 k call) loopFuel [(6, a6), (53, v55), (54, (.int .i64 0))] h56).bind fun r57 h58 =>
  swashlaw06_LookupKeeps_l3k k call r57.1 r57.2 h58 := by kernel_rfl
theorem swashlaw06_LookupKeeps_l3_eq (k : Nat) (call : Caller) (a6 a53 a54 : Value) (h : Heap) : swashlaw06_LookupKeeps_l3 k call [(6, a6), (53, a53), (54, a54)] h =
  (binR Prog .lss 3 a54 (.int .i64 60) h).bind fun v59 h60 =>
  condV (some v59) (
    (indexR Prog 75 a53 a54 h60).bind fun v61 h62 =>
    (call F.lookup_Table_Get [a6, a54] h62).bind fun v63 h64 =>
    (extractR v63 0 h64).bind fun v65 h66 =>
    (extractR v63 1 h66).bind fun v67 h68 =>
    (binR Prog .neq 3 v61 v65 h68).bind fun v69 h70 =>
    condV (some v69) (
      .ok (.ret, [(4, (.bool false))]) h70)
    (
      (binR Prog .add 3 a54 (.int .i64 1) h70).bind fun v71 h72 =>
      .ok (.normal, [(6, a6), (53, a53), (54, v71)]) h72))
  (
    .ok ((.exit 4), [(6, a6), (53, a53), (54, a54), (55, v59)]) h60) :=
  (loopB_eq _ _).trans (by kernel_rfl)
theorem swashlaw06_LookupKeeps_l3k_r (k : Nat) (call : Caller) (a4 : Value) (h : Heap) : swashlaw06_LookupKeeps_l3k k call .ret [(4, a4)] h =
  .ok a4 h := by kernel_rfl
theorem swashlaw06_LookupKeeps_l3k_x4 (k : Nat) (call : Caller) (a6 a53 a54 a55 : Value) (h : Heap) : swashlaw06_LookupKeeps_l3k k call (.exit 4) [(6, a6), (53, a53), (54, a54), (55, a55)] h =
  .ok (.bool true) h := by kernel_rfl
def swashlaw06_LookupSizes_l1 (k : Nat) (call : Caller) : Env → Heap → Res (AExit × Env) := loopB (C k) call F.swashlaw06_LookupSizes [1, 1, 1, 1, 1, 0, 1, 0, 0]
def swashlaw06_LookupSizes_l1k (k : Nat) (call : Caller) : Kont Value := kBlock 0 (kSeq (pieceK (C k) call F.swashlaw06_LookupSizes [1, 1, 1, 1, 1, 1]) (kDone Prog (resOf Prog F.swashlaw06_LookupSizes)))
def swashlaw06_LookupSizes (k : Nat) (call : Caller) (a0 a1 : Value) (h : Heap) : Res Value :=
  (call F.swashlaw06_speaks [] h).bind fun v1 h2 =>
  (unR .not v1 h2).bind fun v3 h4 =>
  condV (some v3) (
    .ok (.bool false) h4)
  (
    (builtinV Prog .len [60] [a0] h4).bind fun v5 h6 =>
    (binR Prog .gtr 3 v5 (.int .i64 30) h6).bind fun v7 h8 =>
    condV (some v7) (
      .ok (.bool true) h8)
    (
      (call F.swashlaw06_rising [a0] h8).bind fun v9 h10 =>
      (builtinV Prog .len [60] [v9] h10).bind fun v11 h12 =>
      (call F.swashlaw06_head [(.int .i64 6), (.int .i64 4), v11] h12).bind fun v13 h14 =>
      (builtinV Prog .len [60] [v9] h14).bind fun v15 h16 =>
      (call F.swashlaw06_head [(.int .i64 6), (.int .i64 6), v15] h16).bind fun v17 h18 =>
      (builtinV Prog .len [60] [v9] h18).bind fun v19 h20 =>
      (loopN (swashlaw06_LookupSizes_l1 k call) loopFuel [(1, a1), (5, v13), (6, v17), (30, v9), (31, v19), (32, (.int .i64 0))] h20).bind fun r21 h22 =>
      swashlaw06_LookupSizes_l1k k call r21.1 r21.2 h22))
theorem swashlaw06_LookupSizes_R (k : Nat) (a0 a1 : Value) (h : Heap) : R (T k) F.swashlaw06_LookupSizes [a0, a1] h = nrm .gc h (swashlaw06_LookupSizes k (R (T k)) a0 a1 h) :=
  (R_body (t := T k) (T_scott k) (by kernel_rfl) _ _).trans (by kernel_rfl)
theorem swashlaw06_LookupSizes_l1_eq (k : Nat) (call : Caller) (a1 a5 a6 a30 a31 a32 : Value) (h : Heap) : swashlaw06_LookupSizes_l1 k call [(1, a1), (5, a5), (6, a6), (30, a30), (31, a31), (32, a32)] h =
  (binR Prog .lss 3 a32 a31 h).bind fun v23 h24 =>
  condV (some v23) (
    (indexAddrR Prog 60 a30 a32 h24).bind fun v25 h26 =>
    (loadR Prog 64 v25 h26).bind fun v27 h28 =>
    (allocR Prog 64 h28).bind fun v29 h30 =>
    (storeR Prog 64 v29 v27 h30).bind fun _v31 h32 =>
    (fieldAddrR Prog 64 v29 0 h32).bindN fun v33 h34 =>
    (loadR Prog 62 v33 h34).bindN fun v35 h36 =>
    (convR Prog 62 3 v35 h36).bindN fun v37 h38 =>
    (call F.swashref02_Put [a5, v37, (.int .i64 2)] h38).bindT (fun p41 h42 => (fieldAddrR Prog 64 v29 1 h38).bindN fun v43 h44 => (loadR Prog 62 v43 h44).bindN fun v45 h46 => (convR Prog 62 3 v45 h46).bindN fun v47 h48 => chkR ((okVal (loadR Prog 62 v43 h32) v45 && true) && true) (.panic p41 h42)) fun v39 h40 =>
    (fieldAddrR Prog 64 v29 1 h40).bindN fun v49 h50 =>
    (loadR Prog 62 v49 h50).bindN fun v51 h52 =>
    (convR Prog 62 3 v51 h52).bindN fun v53 h54 =>
    (call F.swashref02_Put [v39, v53, (.int .i64 2)] h54).bindT (fun p57 h58 => chkR ((okVal (loadR Prog 62 v49 h32) v51 && true) && true) (.panic p57 h58)) fun v55 h56 =>
    chkR ((okVal (loadR Prog 62 v49 h32) v51 && true) && true) (
    (fieldAddrR Prog 64 v29 0 h56).bindN fun v59 h60 =>
    (loadR Prog 62 v59 h60).bindN fun v61 h62 =>
    (convR Prog 62 3 v61 h62).bindN fun v63 h64 =>
    (call F.swashref02_Put [a6, v63, (.int .i64 2)] h64).bindT (fun p67 h68 => (fieldAddrR Prog 64 v29 1 h64).bindN fun v69 h70 => (loadR Prog 62 v69 h70).bindN fun v71 h72 => (convR Prog 62 3 v71 h72).bindN fun v73 h74 => chkR ((okVal (loadR Prog 62 v69 h56) v71 && true) && true) (.panic p67 h68)) fun v65 h66 =>
    (fieldAddrR Prog 64 v29 1 h66).bindN fun v75 h76 =>
    (loadR Prog 62 v75 h76).bindN fun v77 h78 =>
    (convR Prog 62 3 v77 h78).bindN fun v79 h80 =>
    (call F.swashref02_Put [v65, v79, (.int .i64 4)] h80).bindT (fun p83 h84 => chkR ((okVal (loadR Prog 62 v75 h56) v77 && true) && true) (.panic p83 h84)) fun v81 h82 =>
    chkR ((okVal (loadR Prog 62 v75 h56) v77 && true) && true) (
    (binR Prog .add 3 a32 (.int .i64 1) h82).bind fun v85 h86 =>
    .ok (.normal, [(1, a1), (5, v55), (6, v81), (30, a30), (31, a31), (32, v85)]) h86)))
  (
    .ok ((.exit 0), [(1, a1), (5, a5), (6, a6), (30, a30), (31, a31), (32, a32), (33, v23)]) h24) :=
  (loopB_eq _ _).trans (by kernel_rfl)
theorem swashlaw06_LookupSizes_l1k_x0 (k : Nat) (call : Caller) (a1 a5 a6 a30 a31 a32 a33 : Value) (h : Heap) : swashlaw06_LookupSizes_l1k k call (.exit 0) [(1, a1), (5, a5), (6, a6), (30, a30), (31, a31), (32, a32), (33, a33)] h =
  (call F.lookup_Read [a5, (.int .i64 100), (.int .i64 2)] h).bind fun v87 h88 =>
  (extractR v87 0 h88).bind fun v89 h90 =>
  (extractR v87 1 h90).bind fun v91 h92 =>
  (call F.lookup_Read [a6, (.int .i64 100), (.int .i64 4)] h92).bind fun v93 h94 =>
  (extractR v93 0 h94).bind fun v95 h96 =>
  (extractR v93 1 h96).bind fun v97 h98 =>
  (binR Prog .neq 69 v91 (.int .i64 0) h98).bind fun v99 h100 =>
  ((bif wantVal v99 false then Res.ok v97 h100 else Res.ok undef h100)).bind fun v101 h102 =>
  ((bif wantVal v99 false then binR Prog .neq 69 v101 (.int .i64 0) h102 else Res.ok undef h102)).bind fun v103 h104 =>
  (condV (some v99) (Res.ok (.bool true) h104) (Res.ok v103 h104)).bind fun v105 h106 =>
  ((bif wantVal v105 false then Res.ok v89 h106 else Res.ok undef h106)).bind fun v107 h108 =>
  ((bif wantVal v105 false then binR Prog .eql 68 v107 (.pointer none) h108 else Res.ok undef h108)).bind fun v109 h110 =>
  (condV (some v105) (Res.ok (.bool true) h110) (Res.ok v109 h110)).bind fun v111 h112 =>
  ((bif wantVal v111 false then Res.ok v95 h112 else Res.ok undef h112)).bind fun v113 h114 =>
  ((bif wantVal v111 false then binR Prog .eql 68 v113 (.pointer none) h114 else Res.ok undef h114)).bind fun v115 h116 =>
  (condV (some v111) (Res.ok (.bool true) h116) (Res.ok v115 h116)).bind fun v117 h118 =>
  condV (some v117) (
    .ok (.bool false) h118)
  (
    (call F.lookup_Table_Get [v89, a1] h118).bind fun v119 h120 =>
    (extractR v119 0 h120).bind fun v121 h122 =>
    (extractR v119 1 h122).bind fun v123 h124 =>
    (call F.lookup_Table_Get [v95, a1] h124).bind fun v125 h126 =>
    (extractR v125 0 h126).bind fun v127 h128 =>
    (extractR v125 1 h128).bind fun v129 h130 =>
    (binR Prog .eql 3 v121 v127 h130).bind fun v131 h132 =>
    ((bif wantVal v131 true then Res.ok v123 h132 else Res.ok undef h132)).bind fun v133 h134 =>
    ((bif wantVal v131 true then Res.ok v129 h134 else Res.ok undef h134)).bind fun v135 h136 =>
    ((bif wantVal v131 true then binR Prog .eql 4 v133 v135 h136 else Res.ok undef h136)).bind fun v137 h138 =>
    (condV (some v131) (Res.ok v137 h138) (Res.ok (.bool false) h138)).bind fun v139 h140 =>
    ((bif wantVal v139 true then Res.ok v89 h140 else Res.ok undef h140)).bind fun v141 h142 =>
    ((bif wantVal v139 true then call F.lookup_Table_Most [v141] h142 else Res.ok undef h142)).bind fun v143 h144 =>
    ((bif wantVal v139 true then Res.ok v95 h144 else Res.ok undef h144)).bind fun v145 h146 =>
    ((bif wantVal v139 true then call F.lookup_Table_Most [v145] h146 else Res.ok undef h146)).bind fun v147 h148 =>
    ((bif wantVal v139 true then binR Prog .eql 3 v143 v147 h148 else Res.ok undef h148)).bind fun v149 h150 =>
    (condV (some v139) (Res.ok v149 h150) (Res.ok (.bool false) h150)).bind fun v151 h152 =>
    .ok v151 h152) := by kernel_rfl
def swashlaw06_LookupTakes_l1 (k : Nat) (call : Caller) : Env → Heap → Res (AExit × Env) := loopB (C k) call F.swashlaw06_LookupTakes [1, 1, 1, 1, 1, 1, 1, 1, 0, 1, 0, 0]
def swashlaw06_LookupTakes_l1k (k : Nat) (call : Caller) : Kont Value := kBlock 0 (kSeq (pieceK (C k) call F.swashlaw06_LookupTakes [1, 1, 1, 1, 1, 1, 1, 1, 1]) (kDone Prog (resOf Prog F.swashlaw06_LookupTakes)))
def swashlaw06_LookupTakes (k : Nat) (call : Caller) (a0 a1 : Value) (h : Heap) : Res Value :=
  (boxR a0 h).bind fun v1 h2 =>
  (boxR a1 h2).bind fun v3 h4 =>
  (call F.swashlaw06_speaks [] h4).bind fun v5 h6 =>
  (unR .not v5 h6).bind fun v7 h8 =>
  condV (some v7) (
    .ok (.bool false) h8)
  (
    (loadR Prog 65 v1 h8).bind fun v9 h10 =>
    (builtinV Prog .len [65] [v9] h10).bind fun v11 h12 =>
    (binR Prog .gtr 3 v11 (.int .i64 1000) h12).bind fun v13 h14 =>
    ((bif wantVal v13 false then indexAddrR Prog 79 v3 (.int .i64 0) h14 else Res.ok undef h14)).bind fun v15 h16 =>
    ((bif wantVal v13 false then loadR Prog 3 v15 h16 else Res.ok undef h16)).bind fun v17 h18 =>
    ((bif wantVal v13 false then binR Prog .lss 3 v17 (.int .i64 1) h18 else Res.ok undef h18)).bind fun v19 h20 =>
    (condV (some v13) (Res.ok (.bool true) h20) (Res.ok v19 h20)).bind fun v21 h22 =>
    ((bif wantVal v21 false then indexAddrR Prog 79 v3 (.int .i64 0) h22 else Res.ok undef h22)).bind fun v23 h24 =>
    ((bif wantVal v21 false then loadR Prog 3 v23 h24 else Res.ok undef h24)).bind fun v25 h26 =>
    ((bif wantVal v21 false then binR Prog .gtr 3 v25 (.int .i64 65535) h26 else Res.ok undef h26)).bind fun v27 h28 =>
    (condV (some v21) (Res.ok (.bool true) h28) (Res.ok v27 h28)).bind fun v29 h30 =>
    ((bif wantVal v29 false then indexAddrR Prog 79 v3 (.int .i64 1) h30 else Res.ok undef h30)).bind fun v31 h32 =>
    ((bif wantVal v29 false then loadR Prog 3 v31 h32 else Res.ok undef h32)).bind fun v33 h34 =>
    ((bif wantVal v29 false then binR Prog .neq 3 v33 (.int .i64 2) h34 else Res.ok undef h34)).bind fun v35 h36 =>
    ((bif wantVal v29 false then Res.ok v35 h36 else Res.ok undef h36)).bind fun v37 h38 =>
    ((bif wantVal v37 true then indexAddrR Prog 79 v3 (.int .i64 1) h38 else Res.ok undef h38)).bind fun v39 h40 =>
    ((bif wantVal v37 true then loadR Prog 3 v39 h40 else Res.ok undef h40)).bind fun v41 h42 =>
    ((bif wantVal v37 true then binR Prog .neq 3 v41 (.int .i64 4) h42 else Res.ok undef h42)).bind fun v43 h44 =>
    ((bif wantVal v29 false then condV (some v37) (Res.ok v43 h44) (Res.ok (.bool false) h44) else Res.ok undef h44)).bind fun v45 h46 =>
    (condV (some v29) (Res.ok (.bool true) h46) (Res.ok v45 h46)).bind fun v47 h48 =>
    condV (some v47) (
      .ok (.bool true) h48)
    (
      (allocR Prog 68 h48).bind fun v49 h50 =>
      (call F.view_Try [(.func (.func F.swashlaw06_LookupTakes_in1) #[] #[v1, v3, v49])] h50).bind fun v51 h52 =>
      (loadR Prog 65 v1 h52).bind fun v53 h54 =>
      (indexAddrR Prog 79 v3 (.int .i64 0) h54).bind fun v55 h56 =>
      (loadR Prog 3 v55 h56).bind fun v57 h58 =>
      (indexAddrR Prog 79 v3 (.int .i64 1) h58).bind fun v59 h60 =>
      (loadR Prog 3 v59 h60).bind fun v61 h62 =>
      (call F.lookup_Read [v53, v57, v61] h62).bind fun v63 h64 =>
      (extractR v63 0 h64).bind fun v65 h66 =>
      (extractR v63 1 h66).bind fun v67 h68 =>
      (binR Prog .eql 69 v67 (.int .i64 0) h68).bind fun v69 h70 =>
      (binR Prog .neq 4 v51 v69 h70).bind fun v71 h72 =>
      ((bif wantVal v71 false then Res.ok v51 h72 else Res.ok undef h72)).bind fun v73 h74 =>
      ((bif wantVal v71 false then loadR Prog 68 v49 h74 else Res.ok undef h74)).bind fun v75 h76 =>
      ((bif wantVal v71 false then binR Prog .neq 68 v75 (.pointer none) h76 else Res.ok undef h76)).bind fun v77 h78 =>
      ((bif wantVal v71 false then binR Prog .neq 4 v73 v77 h78 else Res.ok undef h78)).bind fun v79 h80 =>
      (condV (some v71) (Res.ok (.bool true) h80) (Res.ok v79 h80)).bind fun v81 h82 =>
      ((bif wantVal v81 false then Res.ok v51 h82 else Res.ok undef h82)).bind fun v83 h84 =>
      ((bif wantVal v81 false then Res.ok v65 h84 else Res.ok undef h84)).bind fun v85 h86 =>
      ((bif wantVal v81 false then binR Prog .neq 68 v85 (.pointer none) h86 else Res.ok undef h86)).bind fun v87 h88 =>
      ((bif wantVal v81 false then binR Prog .neq 4 v83 v87 h88 else Res.ok undef h88)).bind fun v89 h90 =>
      (condV (some v81) (Res.ok (.bool true) h90) (Res.ok v89 h90)).bind fun v91 h92 =>
      condV (some v91) (
        .ok (.bool false) h92)
      (
        (unR .not v51 h92).bind fun v93 h94 =>
        condV (some v93) (
          .ok (.bool true) h94)
        (
          (loopN (swashlaw06_LookupTakes_l1 k call) loopFuel [(5, v49), (7, v65), (9, (.int .i64 (-1)))] h94).bind fun r95 h96 =>
          swashlaw06_LookupTakes_l1k k call r95.1 r95.2 h96))))
theorem swashlaw06_LookupTakes_R (k : Nat) (a0 a1 : Value) (h : Heap) : R (T k) F.swashlaw06_LookupTakes [a0, a1] h = nrm .gc h (swashlaw06_LookupTakes k (R (T k)) a0 a1 h) :=
  (R_body (t := T k) (T_scott k) (by kernel_rfl) _ _).trans (by kernel_rfl)
theorem swashlaw06_LookupTakes_l1_eq (k : Nat) (call : Caller) (a5 a7 a9 : Value) (h : Heap) : swashlaw06_LookupTakes_l1 k call [(5, a5), (7, a7), (9, a9)] h =
  (binR Prog .lss 3 a9 (.int .i64 300) h).bind fun v97 h98 =>
  condV (some v97) (
    (loadR Prog 68 a5 h98).bind fun v99 h100 =>
    (call F.lookup_Table_Get [v99, a9] h100).bind fun v101 h102 =>
    (extractR v101 0 h102).bind fun v103 h104 =>
    (extractR v101 1 h104).bind fun v105 h106 =>
    (call F.lookup_Table_Get [a7, a9] h106).bind fun v107 h108 =>
    (extractR v107 0 h108).bind fun v109 h110 =>
    (extractR v107 1 h110).bind fun v111 h112 =>
    (binR Prog .neq 3 v103 v109 h112).bind fun v113 h114 =>
    ((bif wantVal v113 false then Res.ok v105 h114 else Res.ok undef h114)).bind fun v115 h116 =>
    ((bif wantVal v113 false then Res.ok v111 h116 else Res.ok undef h116)).bind fun v117 h118 =>
    ((bif wantVal v113 false then binR Prog .neq 4 v115 v117 h118 else Res.ok undef h118)).bind fun v119 h120 =>
    (condV (some v113) (Res.ok (.bool true) h120) (Res.ok v119 h120)).bind fun v121 h122 =>
    condV (some v121) (
      .ok (.ret, [(4, (.bool false))]) h122)
    (
      (binR Prog .add 3 a9 (.int .i64 1) h122).bind fun v123 h124 =>
      .ok (.normal, [(5, a5), (7, a7), (9, v123)]) h124))
  (
    .ok ((.exit 0), [(5, a5), (7, a7), (9, a9), (69, v97)]) h98) :=
  (loopB_eq _ _).trans (by kernel_rfl)
theorem swashlaw06_LookupTakes_l1k_r (k : Nat) (call : Caller) (a4 : Value) (h : Heap) : swashlaw06_LookupTakes_l1k k call .ret [(4, a4)] h =
  .ok a4 h := by kernel_rfl
theorem swashlaw06_LookupTakes_l1k_x0 (k : Nat) (call : Caller) (a5 a7 a9 a69 : Value) (h : Heap) : swashlaw06_LookupTakes_l1k k call (.exit 0) [(5, a5), (7, a7), (9, a9), (69, a69)] h =
  (loadR Prog 68 a5 h).bind fun v125 h126 =>
  (call F.lookup_Table_Most [v125] h126).bind fun v127 h128 =>
  (call F.lookup_Table_Most [a7] h128).bind fun v129 h130 =>
  (binR Prog .eql 3 v127 v129 h130).bind fun v131 h132 =>
  ((bif wantVal v131 true then loadR Prog 68 a5 h132 else Res.ok undef h132)).bind fun v133 h134 =>
  ((bif wantVal v131 true then call F.lookup_Table_Format [v133] h134 else Res.ok undef h134)).bind fun v135 h136 =>
  ((bif wantVal v131 true then Res.ok a7 h136 else Res.ok undef h136)).bind fun v137 h138 =>
  ((bif wantVal v131 true then call F.lookup_Table_Format [v137] h138 else Res.ok undef h138)).bind fun v139 h140 =>
  ((bif wantVal v131 true then binR Prog .eql 3 v135 v139 h140 else Res.ok undef h140)).bind fun v141 h142 =>
  (condV (some v131) (Res.ok v141 h142) (Res.ok (.bool false) h142)).bind fun v143 h144 =>
  .ok v143 h144 := by kernel_rfl
def swashlaw06_LookupAll (k : Nat) (call : Caller) (a0 a1 : Value) (h : Heap) : Res Value :=
  (boxR a1 h).bind fun v1 h2 =>
  (allocR Prog 4 h2).bind fun v3 h4 =>
  (call F.swashlaw06_speaks [] h4).bind fun v5 h6 =>
  (unR .not v5 h6).bind fun v7 h8 =>
  condV (some v7) (
    (storeR Prog 4 v3 (.bool false) h8).bind fun _v9 h10 =>
    (loadR Prog 4 v3 h10).bind fun v11 h12 =>
    .ok v11 h12)
  (
    (builtinV Prog .len [65] [a0] h8).bind fun v13 h14 =>
    (binR Prog .gtr 3 v13 (.int .i64 400) h14).bind fun v15 h16 =>
    condV (some v15) (
      (storeR Prog 4 v3 (.bool true) h16).bind fun _v17 h18 =>
      (loadR Prog 4 v3 h18).bind fun v19 h20 =>
      .ok v19 h20)
    (
      (call F.lookup_Read [a0, (.int .i64 40), (.int .i64 2)] h16).bind fun v21 h22 =>
      (extractR v21 0 h22).bind fun v23 h24 =>
      (extractR v21 1 h24).bind fun v25 h26 =>
      (allocR Prog 68 h26).bind fun v27 h28 =>
      (storeR Prog 68 v27 v23 h28).bind fun _v29 h30 =>
      (binR Prog .neq 69 v25 (.int .i64 0) h30).bind fun v31 h32 =>
      ((bif wantVal v31 false then loadR Prog 68 v27 h32 else Res.ok undef h32)).bind fun v33 h34 =>
      ((bif wantVal v31 false then binR Prog .eql 68 v33 (.pointer none) h34 else Res.ok undef h34)).bind fun v35 h36 =>
      (condV (some v31) (Res.ok (.bool true) h36) (Res.ok v35 h36)).bind fun v37 h38 =>
      condV (some v37) (
        (call F.swashref06_Read [a0, (.int .i64 40), (.int .i64 2)] h38).bind fun v39 h40 =>
        (extractR v39 0 h40).bind fun v41 h42 =>
        (extractR v39 1 h42).bind fun v43 h44 =>
        (allocR Prog 88 h44).bind fun v45 h46 =>
        (storeR Prog 88 v45 v41 h46).bind fun _v47 h48 =>
        (unR .not v43 h48).bind fun v49 h50 =>
        (storeR Prog 4 v3 v49 h50).bind fun _v51 h52 =>
        (loadR Prog 4 v3 h52).bind fun v53 h54 =>
        .ok v53 h54)
      (
        (allocR Prog 3 h38).bind fun v55 h56 =>
        (allocR Prog 3 h56).bind fun v57 h58 =>
        (storeR Prog 3 v55 (.int .i64 (-1)) h58).bind fun _v59 h60 =>
        (storeR Prog 3 v57 (.int .i64 0) h60).bind fun _v61 h62 =>
        (loadR Prog 68 v27 h62).bind fun v63 h64 =>
        (call F.lookup_Table_All [v63] h64).bind fun v65 h66 =>
        .stuck)))
theorem swashlaw06_LookupAll_R (k : Nat) (a0 a1 : Value) (h : Heap) : R (T k) F.swashlaw06_LookupAll [a0, a1] h = nrm .gc h (swashlaw06_LookupAll k (R (T k)) a0 a1 h) :=
  (R_body (t := T k) (T_scott k) (by kernel_rfl) _ _).trans (by kernel_rfl)
def swashlaw06_rising_l1 (k : Nat) (call : Caller) : Env → Heap → Res (AExit × Env) := loopB (C k) call F.swashlaw06_rising [1, 1, 0, 1, 0, 0]
def swashlaw06_rising_l1k (k : Nat) (call : Caller) : Kont Value := kBlock 0 (kSeq (pieceK (C k) call F.swashlaw06_rising [1, 1, 1]) (kDone Prog (resOf Prog F.swashlaw06_rising)))
def swashlaw06_rising_l2 (k : Nat) (call : Caller) : Env → Heap → Res (AExit × Env) := loopB (C k) call F.swashlaw06_rising [1, 1, 0, 1, 0, 0, 1, 1, 0, 0, 1, 0, 1, 0, 0]
def swashlaw06_rising_l2k (k : Nat) (call : Caller) : Kont (AExit × Env) := kBlock 2 (kSeq (pieceK (C k) call F.swashlaw06_rising [1, 1, 0, 1, 0, 0, 1, 1, 0, 0, 1, 1]) (kBlock 1 (kSeq (pieceK (C k) call F.swashlaw06_rising [1, 1, 0, 1, 0, 0, 1, 1, 1]) (kRound (ownOf (C k) F.swashlaw06_rising [1, 1, 0, 1, 0, 0])))))
def swashlaw06_rising_j1 (k : Nat) (call : Caller) (a0 a3 a4 a7 a10 a11 a12 : Value) (h : Heap) : Res (AExit × Env) :=
  kSeq (pieceK (C k) call F.swashlaw06_rising [1, 1, 0, 1, 0, 0, 1, 1, 0, 0, 1, 0, 1, 0, 0, 1, 1, 1]) (kRound (ownOf (C k) F.swashlaw06_rising [1, 1, 0, 1, 0, 0, 1, 1, 0, 0, 1, 0, 1, 0, 0])) .normal [(0, a0), (3, a3), (4, a4), (7, a7), (10, a10), (11, a11), (12, a12)] h
def swashlaw06_rising_j2 (k : Nat) (call : Caller) (a0 a3 a4 a6 a7 a10 a11 a12 a37 : Value) (h : Heap) : Res (AExit × Env) :=
  kSeq (pieceK (C k) call F.swashlaw06_rising [1, 1, 0, 1, 0, 0, 1, 1, 0, 0, 1, 0, 1, 0, 0, 1, 1, 1]) (kRound (ownOf (C k) F.swashlaw06_rising [1, 1, 0, 1, 0, 0, 1, 1, 0, 0, 1, 0, 1, 0, 0])) .normal [(0, a0), (3, a3), (4, a4), (6, a6), (7, a7), (10, a10), (11, a11), (12, a12), (37, a37)] h
def swashlaw06_rising (k : Nat) (call : Caller) (a0 : Value) (h : Heap) : Res Value :=
  (loopN (swashlaw06_rising_l1 k call) loopFuel [(0, a0), (3, (.slice none 0 0)), (7, (.int .i64 0))] h).bind fun r1 h2 =>
  swashlaw06_rising_l1k k call r1.1 r1.2 h2
theorem swashlaw06_rising_R (k : Nat) (a0 : Value) (h : Heap) : R (T k) F.swashlaw06_rising [a0] h = nrm .fz h (swashlaw06_rising k (R (T k)) a0 h) :=
  (R_body (t := T k) (T_scott k) (by kernel_rfl) _ _).trans (by kernel_rfl)
theorem swashlaw06_rising_l1_eq (k : Nat) (call : Caller) (a0 a3 a7 : Value) (h : Heap) : swashlaw06_rising_l1 k call [(0, a0), (3, a3), (7, a7)] h =
  (binR Prog .lss 3 a7 (.int .i64 65535) h).bind fun v3 h4 =>
  condV (some v3) (
    (builtinV Prog .len [60] [a0] h4).bind fun v5 h6 =>
    (loopN (swashlaw06_rising_l2 k call) loopFuel [(0, a0), (3, a3), (4, a7), (7, a7), (10, a0), (11, v5), (12, (.int .i64 0))] h6).bind fun r7 h8 =>
    swashlaw06_rising_l2k k call r7.1 r7.2 h8)
  (
    .ok ((.exit 0), [(0, a0), (3, a3), (7, a7), (8, v3)]) h4) :=
  (loopB_eq _ _).trans (by kernel_rfl)
theorem swashlaw06_rising_l2_eq (k : Nat) (call : Caller) (a0 a3 a4 a7 a10 a11 a12 : Value) (h : Heap) : swashlaw06_rising_l2 k call [(0, a0), (3, a3), (4, a4), (7, a7), (10, a10), (11, a11), (12, a12)] h =
  (binR Prog .lss 3 a12 a11 h).bind fun v9 h10 =>
  condV (some v9) (
    (indexAddrR Prog 60 a10 a12 h10).bind fun v11 h12 =>
    (loadR Prog 64 v11 h12).bind fun v13 h14 =>
    (allocR Prog 64 h14).bind fun v15 h16 =>
    (storeR Prog 64 v15 v13 h16).bind fun _v17 h18 =>
    (fieldAddrR Prog 64 v15 0 h18).bind fun v19 h20 =>
    (loadR Prog 62 v19 h20).bind fun v21 h22 =>
    (convR Prog 62 3 v21 h22).bind fun v23 h24 =>
    (binR Prog .eql 3 v23 a4 h24).bind fun v25 h26 =>
    ((bif wantVal v25 true then Res.ok a3 h26 else Res.ok undef h26)).bind fun v27 h28 =>
    ((bif wantVal v25 true then builtinV Prog .len [60] [v27] h28 else Res.ok undef h28)).bind fun v29 h30 =>
    ((bif wantVal v25 true then binR Prog .eql 3 v29 (.int .i64 0) h30 else Res.ok undef h30)).bind fun v31 h32 =>
    ((bif wantVal v25 true then Res.ok v31 h32 else Res.ok undef h32)).bind fun v33 h34 =>
    ((bif wantVal v33 false then Res.ok a3 h34 else Res.ok undef h34)).bind fun v35 h36 =>
    ((bif wantVal v33 false then Res.ok a3 h36 else Res.ok undef h36)).bind fun v37 h38 =>
    ((bif wantVal v33 false then builtinV Prog .len [60] [v37] h38 else Res.ok undef h38)).bind fun v39 h40 =>
    ((bif wantVal v33 false then binR Prog .sub 3 v39 (.int .i64 1) h40 else Res.ok undef h40)).bind fun v41 h42 =>
    ((bif wantVal v33 false then indexAddrR Prog 60 v35 v41 h42 else Res.ok undef h42)).bind fun v43 h44 =>
    ((bif wantVal v33 false then fieldAddrR Prog 64 v43 0 h44 else Res.ok undef h44)).bind fun v45 h46 =>
    ((bif wantVal v33 false then loadR Prog 62 v45 h46 else Res.ok undef h46)).bind fun v47 h48 =>
    ((bif wantVal v33 false then convR Prog 62 3 v47 h48 else Res.ok undef h48)).bind fun v49 h50 =>
    ((bif wantVal v33 false then Res.ok a4 h50 else Res.ok undef h50)).bind fun v51 h52 =>
    ((bif wantVal v33 false then binR Prog .neq 3 v49 v51 h52 else Res.ok undef h52)).bind fun v53 h54 =>
    ((bif wantVal v25 true then condV (some v33) (Res.ok (.bool true) h54) (Res.ok v53 h54) else Res.ok undef h54)).bind fun v55 h56 =>
    (condV (some v25) (Res.ok v55 h56) (Res.ok (.bool false) h56)).bind fun v57 h58 =>
    condV (some v57) (
      (loadR Prog 64 v15 h58).bind fun v59 h60 =>
      (buildSliceR Prog 60 1 [(0, v59)] h60).bind fun v61 h62 =>
      (builtinV Prog .append [60, 60] [a3, v61] h62).bind fun v63 h64 =>
      swashlaw06_rising_j1 k call a0 v63 a4 a7 a10 a11 a12 h64)
    (
      swashlaw06_rising_j2 k call a0 a3 a4 v15 a7 a10 a11 a12 v57 h58))
  (
    .ok ((.exit 2), [(0, a0), (3, a3), (4, a4), (7, a7), (10, a10), (11, a11), (12, a12), (13, v9)]) h10) :=
  (loopB_eq _ _).trans (by kernel_rfl)
theorem swashlaw06_rising_j1_eq (k : Nat) (call : Caller) (a0 a3 a4 a7 a10 a11 a12 : Value) (h : Heap) : swashlaw06_rising_j1 k call a0 a3 a4 a7 a10 a11 a12 h =
  (binR Prog .add 3 a12 (.int .i64 1) h).bind fun v65 h66 =>
  .ok (.normal, [(0, a0), (3, a3), (4, a4), (7, a7), (10, a10), (11, a11), (12, v65)]) h66 := by kernel_rfl
theorem swashlaw06_rising_j2_eq (k : Nat) (call : Caller) (a0 a3 a4 a6 a7 a10 a11 a12 a37 : Value) (h : Heap) : swashlaw06_rising_j2 k call a0 a3 a4 a6 a7 a10 a11 a12 a37 h =
  (binR Prog .add 3 a12 (.int .i64 1) h).bind fun v67 h68 =>
  .ok (.normal, [(0, a0), (3, a3), (4, a4), (7, a7), (10, a10), (11, a11), (12, v67)]) h68 := by kernel_rfl
theorem swashlaw06_rising_l1k_x0 (k : Nat) (call : Caller) (a0 a3 a7 a8 : Value) (h : Heap) : swashlaw06_rising_l1k k call (.exit 0) [(0, a0), (3, a3), (7, a7), (8, a8)] h =
  .ok a3 h := by kernel_rfl
theorem swashlaw06_rising_l2k_x2 (k : Nat) (call : Caller) (a0 a3 a4 a7 a10 a11 a12 a13 : Value) (h : Heap) : swashlaw06_rising_l2k k call (.exit 2) [(0, a0), (3, a3), (4, a4), (7, a7), (10, a10), (11, a11), (12, a12), (13, a13)] h =
  (builtinV Prog .len [60] [a3] h).bind fun v69 h70 =>
  (builtinV Prog .len [60] [a0] h70).bind fun v71 h72 =>
  (binR Prog .eql 3 v69 v71 h72).bind fun v73 h74 =>
  condV (some v73) (
    .ok ((.exit 0), [(0, a0), (3, a3), (7, a7), (47, v73)]) h74)
  (
    (binR Prog .add 3 a7 (.int .i64 1) h74).bind fun v75 h76 =>
    .ok (.normal, [(0, a0), (3, a3), (7, v75)]) h76) := by kernel_rfl
theorem swashlaw06_rising_l1k_x0_1 (k : Nat) (call : Caller) (a0 a3 a7 a47 : Value) (h : Heap) : swashlaw06_rising_l1k k call (.exit 0) [(0, a0), (3, a3), (7, a7), (47, a47)] h =
  .ok a3 h := by kernel_rfl
def swashlaw06_Forms_l1 (k : Nat) (call : Caller) : Env → Heap → Res (AExit × Env) := loopB (C k) call F.swashlaw06_Forms [1, 1, 1, 1, 0, 1, 0, 0]
def swashlaw06_Forms_l1k (k : Nat) (call : Caller) : Kont Value := kBlock 0 (kSeq (pieceK (C k) call F.swashlaw06_Forms [1, 1, 1, 1, 1]) (kDone Prog (resOf Prog F.swashlaw06_Forms)))
def swashlaw06_Forms_j1 (k : Nat) (call : Caller) (a0 a2 a3 a4 a5 a6 a12 : Value) (h : Heap) : Res Value :=
  kSeq (pieceK (C k) call F.swashlaw06_Forms [1, 1, 1, 1, 1, 1, 1]) (kDone Prog (resOf Prog F.swashlaw06_Forms)) .normal [(0, a0), (2, a2), (3, a3), (4, a4), (5, a5), (6, a6), (12, a12)] h
def swashlaw06_Forms_j2 (k : Nat) (call : Caller) (a0 a2 a3 a4 a5 a6 a12 a62 : Value) (h : Heap) : Res Value :=
  kSeq (pieceK (C k) call F.swashlaw06_Forms [1, 1, 1, 1, 1, 1, 1]) (kDone Prog (resOf Prog F.swashlaw06_Forms)) .normal [(0, a0), (2, a2), (3, a3), (4, a4), (5, a5), (6, a6), (12, a12), (62, a62)] h
def swashlaw06_Forms (k : Nat) (call : Caller) (a0 : Value) (h : Heap) : Res Value :=
  (allocR Prog 66 h).bind fun v1 h2 =>
  (buildSliceR Prog 65 0 [] h2).bind fun v3 h4 =>
  (builtinV Prog .len [60] [a0] h4).bind fun v5 h6 =>
  (binR Prog .mul 3 (.int .i64 6) v5 h6).bind fun v7 h8 =>
  (binR Prog .add 3 (.int .i64 12) v7 h8).bind fun v9 h10 =>
  (builtinV Prog .len [60] [a0] h10).bind fun v11 h12 =>
  (loopN (swashlaw06_Forms_l1 k call) loopFuel [(0, a0), (2, v1), (3, (.slice none 0 0)), (4, (.slice none 0 0)), (5, (.slice none 0 0)), (6, v3), (7, v9), (18, a0), (19, v11), (20, (.int .i64 0))] h12).bind fun r13 h14 =>
  swashlaw06_Forms_l1k k call r13.1 r13.2 h14
theorem swashlaw06_Forms_R (k : Nat) (a0 : Value) (h : Heap) : R (T k) F.swashlaw06_Forms [a0] h = nrm .fz h (swashlaw06_Forms k (R (T k)) a0 h) :=
  (R_body (t := T k) (T_scott k) (by kernel_rfl) _ _).trans (by kernel_rfl)
theorem swashlaw06_Forms_l1_eq (k : Nat) (call : Caller) (a0 a2 a3 a4 a5 a6 a7 a18 a19 a20 : Value) (h : Heap) : swashlaw06_Forms_l1 k call [(0, a0), (2, a2), (3, a3), (4, a4), (5, a5), (6, a6), (7, a7), (18, a18), (19, a19), (20, a20)] h =
  (binR Prog .lss 3 a20 a19 h).bind fun v15 h16 =>
  condV (some v15) (
    (indexAddrR Prog 60 a18 a20 h16).bind fun v17 h18 =>
    (loadR Prog 64 v17 h18).bind fun v19 h20 =>
    (allocR Prog 64 h20).bind fun v21 h22 =>
    (storeR Prog 64 v21 v19 h22).bind fun _v23 h24 =>
    (fieldAddrR Prog 64 v21 0 h24).bindN fun v25 h26 =>
    (loadR Prog 62 v25 h26).bindN fun v27 h28 =>
    (convR Prog 62 3 v27 h28).bindN fun v29 h30 =>
    (fieldAddrR Prog 64 v21 1 h30).bindN fun v31 h32 =>
    (loadR Prog 62 v31 h32).bindN fun v33 h34 =>
    (convR Prog 62 3 v33 h34).bindN fun v35 h36 =>
    (call F.swashref02_Put [a3, v29, (.int .i64 2)] h36).bind fun v37 h38 =>
    (call F.swashref02_Put [v37, v29, (.int .i64 2)] h38).bind fun v39 h40 =>
    (call F.swashref02_Put [v39, v35, (.int .i64 2)] h40).bind fun v41 h42 =>
    (call F.swashref02_Put [a4, v29, (.int .i64 2)] h42).bind fun v43 h44 =>
    (call F.swashref02_Put [v43, v29, (.int .i64 2)] h44).bind fun v45 h46 =>
    (binR Prog .mul 3 (.int .i64 2) a20 h46).bind fun v47 h48 =>
    (binR Prog .add 3 a7 v47 h48).bind fun v49 h50 =>
    (call F.swashref02_Put [v45, v49, (.int .i64 2)] h50).bind fun v51 h52 =>
    (call F.swashref02_Put [a5, v29, (.int .i64 2)] h52).bind fun v53 h54 =>
    (call F.swashref02_Put [v53, v35, (.int .i64 2)] h54).bind fun v55 h56 =>
    (call F.swashref02_Put [a6, v35, (.int .i64 2)] h56).bind fun v57 h58 =>
    (binR Prog .add 3 a20 (.int .i64 1) h58).bind fun v59 h60 =>
    .ok (.normal, [(0, a0), (2, a2), (3, v41), (4, v51), (5, v55), (6, v57), (7, a7), (18, a18), (19, a19), (20, v59)]) h60)
  (
    .ok ((.exit 0), [(0, a0), (2, a2), (3, a3), (4, a4), (5, a5), (6, a6), (7, a7), (18, a18), (19, a19), (20, a20), (21, v15)]) h16) :=
  (loopB_eq _ _).trans (by kernel_rfl)
theorem swashlaw06_Forms_l1k_x0 (k : Nat) (call : Caller) (a0 a2 a3 a4 a5 a6 a7 a18 a19 a20 a21 : Value) (h : Heap) : swashlaw06_Forms_l1k k call (.exit 0) [(0, a0), (2, a2), (3, a3), (4, a4), (5, a5), (6, a6), (7, a7), (18, a18), (19, a19), (20, a20), (21, a21)] h =
  (call F.swashref02_Put [(.slice none 0 0), (.int .i64 8), (.int .i64 2)] h).bind fun v61 h62 =>
  (call F.swashref02_Put [v61, (.int .i64 0), (.int .i64 2)] h62).bind fun v63 h64 =>
  (call F.swashref02_Put [v63, (.int .i64 0), (.int .i64 2)] h64).bind fun v65 h66 =>
  (builtinV Prog .len [60] [a0] h66).bind fun v67 h68 =>
  (binR Prog .eql 3 v67 (.int .i64 1) h68).bind fun v69 h70 =>
  condV (some v69) (
    (call F.swashref02_Put [(.slice none 0 0), (.int .i64 8), (.int .i64 2)] h70).bindT (fun p73 h74 => (indexAddrR Prog 60 a0 (.int .i64 0) h70).bindN fun v75 h76 => (fieldAddrR Prog 64 v75 0 h76).bindN fun v77 h78 => (loadR Prog 62 v77 h78).bindN fun v79 h80 => (convR Prog 62 3 v79 h80).bindN fun v81 h82 => (indexAddrR Prog 60 a0 (.int .i64 0) h82).bindN fun v83 h84 => (fieldAddrR Prog 64 v83 1 h84).bindN fun v85 h86 => (loadR Prog 62 v85 h86).bindN fun v87 h88 => (convR Prog 62 3 v87 h88).bindN fun v89 h90 => chkR ((okVal (loadR Prog 62 v77 h70) v79 && true) && ((okVal (loadR Prog 62 v85 h70) v87 && true) && true)) (.panic p73 h74)) fun v71 h72 =>
    (indexAddrR Prog 60 a0 (.int .i64 0) h72).bindN fun v91 h92 =>
    (fieldAddrR Prog 64 v91 0 h92).bindN fun v93 h94 =>
    (loadR Prog 62 v93 h94).bindN fun v95 h96 =>
    (convR Prog 62 3 v95 h96).bindN fun v97 h98 =>
    (call F.swashref02_Put [v71, v97, (.int .i64 2)] h98).bindT (fun p101 h102 => (indexAddrR Prog 60 a0 (.int .i64 0) h98).bindN fun v103 h104 => (fieldAddrR Prog 64 v103 1 h104).bindN fun v105 h106 => (loadR Prog 62 v105 h106).bindN fun v107 h108 => (convR Prog 62 3 v107 h108).bindN fun v109 h110 => chkR ((okVal (loadR Prog 62 v93 h70) v95 && true) && ((okVal (loadR Prog 62 v105 h70) v107 && (okVal (loadR Prog 62 v105 h72) v107 && true)) && true)) (.panic p101 h102)) fun v99 h100 =>
    (call F.swashref02_Put [v99, (.int .i64 1), (.int .i64 2)] h100).bindT (fun p113 h114 => (indexAddrR Prog 60 a0 (.int .i64 0) h100).bindN fun v115 h116 => (fieldAddrR Prog 64 v115 1 h116).bindN fun v117 h118 => (loadR Prog 62 v117 h118).bindN fun v119 h120 => (convR Prog 62 3 v119 h120).bindN fun v121 h122 => chkR ((okVal (loadR Prog 62 v93 h70) v95 && true) && ((okVal (loadR Prog 62 v117 h70) v119 && (okVal (loadR Prog 62 v117 h72) v119 && (okVal (loadR Prog 62 v117 h100) v119 && true))) && true)) (.panic p113 h114)) fun v111 h112 =>
    (indexAddrR Prog 60 a0 (.int .i64 0) h112).bindN fun v123 h124 =>
    (fieldAddrR Prog 64 v123 1 h124).bindN fun v125 h126 =>
    (loadR Prog 62 v125 h126).bindN fun v127 h128 =>
    (convR Prog 62 3 v127 h128).bindN fun v129 h130 =>
    (call F.swashref02_Put [v111, v129, (.int .i64 2)] h130).bindT (fun p133 h134 => chkR ((okVal (loadR Prog 62 v93 h70) v95 && true) && ((okVal (loadR Prog 62 v125 h70) v127 && (okVal (loadR Prog 62 v125 h72) v127 && (okVal (loadR Prog 62 v125 h100) v127 && true))) && true)) (.panic p133 h134)) fun v131 h132 =>
    chkR ((okVal (loadR Prog 62 v93 h70) v95 && true) && ((okVal (loadR Prog 62 v125 h70) v127 && (okVal (loadR Prog 62 v125 h72) v127 && (okVal (loadR Prog 62 v125 h100) v127 && true))) && true)) (
    swashlaw06_Forms_j1 k call a0 a2 a3 a4 a5 a6 v131 h132))
  (
    swashlaw06_Forms_j2 k call a0 a2 a3 a4 a5 a6 v65 v69 h70) := by kernel_rfl
theorem swashlaw06_Forms_j1_eq (k : Nat) (call : Caller) (a0 a2 a3 a4 a5 a6 a12 : Value) (h : Heap) : swashlaw06_Forms_j1 k call a0 a2 a3 a4 a5 a6 a12 h =
  (builtinV Prog .len [60] [a0] h).bind fun v135 h136 =>
  (call F.swashlaw06_head [(.int .i64 2), (.int .i64 6), v135] h136).bind fun v137 h138 =>
  (builtinV Prog .append [65, 65] [v137, a3] h138).bind fun v139 h140 =>
  (builtinV Prog .len [60] [a0] h140).bind fun v141 h142 =>
  (call F.swashlaw06_head [(.int .i64 4), (.int .i64 6), v141] h142).bind fun v143 h144 =>
  (builtinV Prog .append [65, 65] [v143, a4] h144).bind fun v145 h146 =>
  (builtinV Prog .append [65, 65] [v145, a6] h146).bind fun v147 h148 =>
  (builtinV Prog .len [60] [a0] h148).bind fun v149 h150 =>
  (call F.swashlaw06_head [(.int .i64 6), (.int .i64 4), v149] h150).bind fun v151 h152 =>
  (builtinV Prog .append [65, 65] [v151, a5] h152).bind fun v153 h154 =>
  (buildR Prog 66 [(0, v139), (1, v147), (2, v153), (3, a12)] h154).bind fun v155 h156 =>
  (storeR Prog 66 a2 v155 h156).bind fun _v157 h158 =>
  (loadR Prog 66 a2 h158).bind fun v159 h160 =>
  .ok v159 h160 := by kernel_rfl
theorem swashlaw06_Forms_j2_eq (k : Nat) (call : Caller) (a0 a2 a3 a4 a5 a6 a12 a62 : Value) (h : Heap) : swashlaw06_Forms_j2 k call a0 a2 a3 a4 a5 a6 a12 a62 h =
  (builtinV Prog .len [60] [a0] h).bind fun v161 h162 =>
  (call F.swashlaw06_head [(.int .i64 2), (.int .i64 6), v161] h162).bind fun v163 h164 =>
  (builtinV Prog .append [65, 65] [v163, a3] h164).bind fun v165 h166 =>
  (builtinV Prog .len [60] [a0] h166).bind fun v167 h168 =>
  (call F.swashlaw06_head [(.int .i64 4), (.int .i64 6), v167] h168).bind fun v169 h170 =>
  (builtinV Prog .append [65, 65] [v169, a4] h170).bind fun v171 h172 =>
  (builtinV Prog .append [65, 65] [v171, a6] h172).bind fun v173 h174 =>
  (builtinV Prog .len [60] [a0] h174).bind fun v175 h176 =>
  (call F.swashlaw06_head [(.int .i64 6), (.int .i64 4), v175] h176).bind fun v177 h178 =>
  (builtinV Prog .append [65, 65] [v177, a5] h178).bind fun v179 h180 =>
  (buildR Prog 66 [(0, v165), (1, v173), (2, v179), (3, a12)] h180).bind fun v181 h182 =>
  (storeR Prog 66 a2 v181 h182).bind fun _v183 h184 =>
  (loadR Prog 66 a2 h184).bind fun v185 h186 =>
  .ok v185 h186 := by kernel_rfl
def swashlaw06_head (k : Nat) (call : Caller) (a0 a1 a2 : Value) (h : Heap) : Res Value :=
  (call F.swashref02_Put [(.slice none 0 0), a0, (.int .i64 2)] h).bind fun v1 h2 =>
  (call F.swashref02_Put [v1, a1, (.int .i64 2)] h2).bind fun v3 h4 =>
  (call F.swashref02_Put [v3, a2, (.int .i64 2)] h4).bind fun v5 h6 =>
  (buildSliceR Prog 65 6 [(0, (.int .u8 0)), (1, (.int .u8 0)), (2, (.int .u8 0)), (3, (.int .u8 0)), (4, (.int .u8 0)), (5, (.int .u8 0))] h6).bind fun v7 h8 =>
  (builtinV Prog .append [65, 65] [v5, v7] h8).bind fun v9 h10 =>
  .ok v9 h10
theorem swashlaw06_head_R (k : Nat) (a0 a1 a2 : Value) (h : Heap) : R (T k) F.swashlaw06_head [a0, a1, a2] h = nrm .no h (swashlaw06_head k (R (T k)) a0 a1 a2 h) :=
  (R_body (t := T k) (T_scott k) (by kernel_rfl) _ _).trans (by kernel_rfl)
def swashlaw06_LookupTakes_in1 (k : Nat) (call : Caller) (a0 a1 a2 : Value) (h : Heap) : Res Value :=
  (loadR Prog 65 a0 h).bindN fun v1 h2 =>
  (call F.view_Of [v1] h2).bindT (fun p5 h6 => (indexAddrR Prog 79 a1 (.int .i64 0) h2).bindN fun v7 h8 => (loadR Prog 3 v7 h8).bindN fun v9 h10 => (indexAddrR Prog 79 a1 (.int .i64 1) h10).bindN fun v11 h12 => (loadR Prog 3 v11 h12).bindN fun v13 h14 => chkR ((okVal (loadR Prog 3 v7 h) v9 && true) && ((okVal (loadR Prog 3 v11 h) v13 && true) && true)) (.panic p5 h6)) fun v3 h4 =>
  (indexAddrR Prog 79 a1 (.int .i64 0) h4).bindN fun v15 h16 =>
  (loadR Prog 3 v15 h16).bindN fun v17 h18 =>
  (indexAddrR Prog 79 a1 (.int .i64 1) h18).bindN fun v19 h20 =>
  (loadR Prog 3 v19 h20).bindN fun v21 h22 =>
  (call F.lookup_Take [v3, v17, v21] h22).bindT (fun p25 h26 => chkR ((okVal (loadR Prog 3 v15 h) v17 && true) && ((okVal (loadR Prog 3 v19 h) v21 && true) && true)) (.panic p25 h26)) fun v23 h24 =>
  (storeR Prog 68 a2 v23 h24).bindN fun _v27 h28 =>
  chkR ((okVal (loadR Prog 3 v15 h) v17 && true) && ((okVal (loadR Prog 3 v19 h) v21 && true) && true)) (
  .ok (.tuple #[]) h28)
theorem swashlaw06_LookupTakes_in1_R (k : Nat) (a0 a1 a2 : Value) (h : Heap) : R (T k) F.swashlaw06_LookupTakes_in1 [a0, a1, a2] h = nrm .no h (swashlaw06_LookupTakes_in1 k (R (T k)) a0 a1 a2 h) :=
  (R_body (t := T k) (T_scott k) (by kernel_rfl) _ _).trans (by kernel_rfl)
end
end Go.Sw
