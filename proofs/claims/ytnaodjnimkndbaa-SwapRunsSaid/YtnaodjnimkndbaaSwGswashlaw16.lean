/-
  The functions of the package swashlaw16. Printed by SwGenMain.
-/
import Derived.Test.YtnaodjnimkndbaaSwCfg
set_option maxRecDepth 100000
set_option linter.unusedVariables false
namespace Go.Sw
noncomputable section
def swashlaw16_SwapRuns_l1 (k : Nat) (call : Caller) : Env → Heap → Res (AExit × Env) := loopB (C k) call F.swashlaw16_SwapRuns [1, 1, 1, 1, 1, 1, 1, 1, 1, 0, 1, 0, 0]
def swashlaw16_SwapRuns_l1k (k : Nat) (call : Caller) : Kont Value := kBlock 0 (kSeq (pieceK (C k) call F.swashlaw16_SwapRuns [1, 1, 1, 1, 1, 1, 1, 1, 1, 1]) (kDone Prog (resOf Prog F.swashlaw16_SwapRuns)))
def swashlaw16_SwapRuns_j1 (k : Nat) (call : Caller) (a2 a7 a9 a11 a63 a64 a65 : Value) (h : Heap) : Res (AExit × Env) :=
  kSeq (pieceK (C k) call F.swashlaw16_SwapRuns [1, 1, 1, 1, 1, 1, 1, 1, 1, 0, 1, 0, 0, 1, 1, 1]) (kRound (ownOf (C k) F.swashlaw16_SwapRuns [1, 1, 1, 1, 1, 1, 1, 1, 1, 0, 1, 0, 0])) .normal [(2, a2), (7, a7), (9, a9), (11, a11), (63, a63), (64, a64), (65, a65)] h
def swashlaw16_SwapRuns_j2 (k : Nat) (call : Caller) (a2 a7 a9 a11 a12 a14 a63 a64 a65 a82 : Value) (h : Heap) : Res (AExit × Env) :=
  kSeq (pieceK (C k) call F.swashlaw16_SwapRuns [1, 1, 1, 1, 1, 1, 1, 1, 1, 0, 1, 0, 0, 1, 1, 1]) (kRound (ownOf (C k) F.swashlaw16_SwapRuns [1, 1, 1, 1, 1, 1, 1, 1, 1, 0, 1, 0, 0])) .normal [(2, a2), (7, a7), (9, a9), (11, a11), (12, a12), (14, a14), (63, a63), (64, a64), (65, a65), (82, a82)] h
def swashlaw16_SwapRuns (k : Nat) (call : Caller) (a0 a1 a2 : Value) (h : Heap) : Res Value :=
  (call F.swashlaw16_speaks [] h).bind fun v1 h2 =>
  (unR .not v1 h2).bind fun v3 h4 =>
  condV (some v3) (
    .ok (.bool false) h4)
  (
    (call F.swashlaw16_big [a0, a2] h4).bind fun v5 h6 =>
    condV (some v5) (
      .ok (.bool true) h6)
    (
      (call F.swap_Read [a0, a1] h6).bind fun v7 h8 =>
      (extractR v7 0 h8).bind fun v9 h10 =>
      (extractR v7 1 h10).bind fun v11 h12 =>
      (binR Prog .lss 3 a1 (.int .i64 1) h12).bind fun v13 h14 =>
      ((bif wantVal v13 false then Res.ok a1 h14 else Res.ok undef h14)).bind fun v15 h16 =>
      ((bif wantVal v13 false then binR Prog .gtr 3 v15 (.int .i64 65535) h16 else Res.ok undef h16)).bind fun v17 h18 =>
      (condV (some v13) (Res.ok (.bool true) h18) (Res.ok v17 h18)).bind fun v19 h20 =>
      condV (some v19) (
        (binR Prog .eql 69 v11 (.int .i64 1) h20).bind fun v21 h22 =>
        ((bif wantVal v21 true then Res.ok v9 h22 else Res.ok undef h22)).bind fun v23 h24 =>
        ((bif wantVal v21 true then binR Prog .eql 106 v23 (.pointer none) h24 else Res.ok undef h24)).bind fun v25 h26 =>
        (condV (some v21) (Res.ok v25 h26) (Res.ok (.bool false) h26)).bind fun v27 h28 =>
        .ok v27 h28)
      (
        (call F.swashref06_Read [a0, a1, (.int .i64 2)] h20).bind fun v29 h30 =>
        (extractR v29 0 h30).bind fun v31 h32 =>
        (extractR v29 1 h32).bind fun v33 h34 =>
        (allocR Prog 88 h34).bind fun v35 h36 =>
        (storeR Prog 88 v35 v31 h36).bind fun _v37 h38 =>
        (unR .not v33 h38).bind fun v39 h40 =>
        condV (some v39) (
          (binR Prog .eql 69 v11 (.int .i64 2) h40).bind fun v41 h42 =>
          ((bif wantVal v41 true then Res.ok v9 h42 else Res.ok undef h42)).bind fun v43 h44 =>
          ((bif wantVal v41 true then binR Prog .eql 106 v43 (.pointer none) h44 else Res.ok undef h44)).bind fun v45 h46 =>
          (condV (some v41) (Res.ok v45 h46) (Res.ok (.bool false) h46)).bind fun v47 h48 =>
          .ok v47 h48)
        (
          (binR Prog .neq 69 v11 (.int .i64 0) h40).bind fun v49 h50 =>
          ((bif wantVal v49 false then Res.ok v9 h50 else Res.ok undef h50)).bind fun v51 h52 =>
          ((bif wantVal v49 false then binR Prog .eql 106 v51 (.pointer none) h52 else Res.ok undef h52)).bind fun v53 h54 =>
          (condV (some v49) (Res.ok (.bool true) h54) (Res.ok v53 h54)).bind fun v55 h56 =>
          condV (some v55) (
            .ok (.bool false) h56)
          (
            (buildSliceR Prog 50 0 [] h56).bind fun v57 h58 =>
            (builtinV Prog .append [50, 50] [v57, a2] h58).bind fun v59 h60 =>
            (builtinV Prog .len [50] [a2] h60).bind fun v61 h62 =>
            (loopN (swashlaw16_SwapRuns_l1 k call) loopFuel [(2, a2), (7, v9), (9, v35), (11, v59), (63, a2), (64, v61), (65, (.int .i64 0))] h62).bind fun r63 h64 =>
            swashlaw16_SwapRuns_l1k k call r63.1 r63.2 h64)))))
theorem swashlaw16_SwapRuns_R (k : Nat) (a0 a1 a2 : Value) (h : Heap) : R (T k) F.swashlaw16_SwapRuns [a0, a1, a2] h = nrm .gc h (swashlaw16_SwapRuns k (R (T k)) a0 a1 a2 h) :=
  (R_body (t := T k) (T_scott k) (by kernel_rfl) _ _).trans (by kernel_rfl)
theorem swashlaw16_SwapRuns_l1_eq (k : Nat) (call : Caller) (a2 a7 a9 a11 a63 a64 a65 : Value) (h : Heap) : swashlaw16_SwapRuns_l1 k call [(2, a2), (7, a7), (9, a9), (11, a11), (63, a63), (64, a64), (65, a65)] h =
  (binR Prog .lss 3 a65 a64 h).bind fun v65 h66 =>
  condV (some v65) (
    (indexAddrR Prog 50 a63 a65 h66).bind fun v67 h68 =>
    (loadR Prog 55 v67 h68).bind fun v69 h70 =>
    (allocR Prog 55 h70).bind fun v71 h72 =>
    (storeR Prog 55 v71 v69 h72).bind fun _v73 h74 =>
    (loadR Prog 88 a9 h74).bind fun v75 h76 =>
    (fieldAddrR Prog 55 v71 0 h76).bind fun v77 h78 =>
    (loadR Prog 3 v77 h78).bind fun v79 h80 =>
    (call F.swashref06_Get [v75, v79] h80).bind fun v81 h82 =>
    (extractR v81 0 h82).bind fun v83 h84 =>
    (extractR v81 1 h84).bind fun v85 h86 =>
    ((bif wantVal v85 true then fieldAddrR Prog 55 v71 0 h86 else Res.ok undef h86)).bind fun v87 h88 =>
    ((bif wantVal v85 true then loadR Prog 3 v87 h88 else Res.ok undef h88)).bind fun v89 h90 =>
    ((bif wantVal v85 true then binR Prog .neq 3 v89 (.int .i64 65535) h90 else Res.ok undef h90)).bind fun v91 h92 =>
    (condV (some v85) (Res.ok v91 h92) (Res.ok (.bool false) h92)).bind fun v93 h94 =>
    condV (some v93) (
      (indexAddrR Prog 50 a11 a65 h94).bind fun v95 h96 =>
      (fieldAddrR Prog 55 v95 0 h96).bind fun v97 h98 =>
      (storeR Prog 3 v97 v83 h98).bind fun _v99 h100 =>
      swashlaw16_SwapRuns_j1 k call a2 a7 a9 a11 a63 a64 a65 h100)
    (
      swashlaw16_SwapRuns_j2 k call a2 a7 a9 a11 a65 v83 a63 a64 a65 v93 h94))
  (
    .ok ((.exit 0), [(2, a2), (7, a7), (9, a9), (11, a11), (63, a63), (64, a64), (65, a65), (66, v65)]) h66) :=
  (loopB_eq _ _).trans (by kernel_rfl)
theorem swashlaw16_SwapRuns_j1_eq (k : Nat) (call : Caller) (a2 a7 a9 a11 a63 a64 a65 : Value) (h : Heap) : swashlaw16_SwapRuns_j1 k call a2 a7 a9 a11 a63 a64 a65 h =
  (binR Prog .add 3 a65 (.int .i64 1) h).bind fun v101 h102 =>
  .ok (.normal, [(2, a2), (7, a7), (9, a9), (11, a11), (63, a63), (64, a64), (65, v101)]) h102 := by kernel_rfl
theorem swashlaw16_SwapRuns_j2_eq (k : Nat) (call : Caller) (a2 a7 a9 a11 a12 a14 a63 a64 a65 a82 : Value) (h : Heap) : swashlaw16_SwapRuns_j2 k call a2 a7 a9 a11 a12 a14 a63 a64 a65 a82 h =
  (binR Prog .add 3 a65 (.int .i64 1) h).bind fun v103 h104 =>
  .ok (.normal, [(2, a2), (7, a7), (9, a9), (11, a11), (63, a63), (64, a64), (65, v103)]) h104 := by kernel_rfl
theorem swashlaw16_SwapRuns_l1k_x0 (k : Nat) (call : Caller) (a2 a7 a9 a11 a63 a64 a65 a66 : Value) (h : Heap) : swashlaw16_SwapRuns_l1k k call (.exit 0) [(2, a2), (7, a7), (9, a9), (11, a11), (63, a63), (64, a64), (65, a65), (66, a66)] h =
  (call F.line_Of [a2] h).bind fun v105 h106 =>
  (call F.swap_Table_Run [a7, v105] h106).bind fun v107 h108 =>
  (binR Prog .eql 69 v107 (.int .i64 0) h108).bind fun v109 h110 =>
  ((bif wantVal v109 true then Res.ok v105 h110 else Res.ok undef h110)).bind fun v111 h112 =>
  ((bif wantVal v109 true then call F.line_Line_Glyphs [v111] h112 else Res.ok undef h112)).bind fun v113 h114 =>
  ((bif wantVal v109 true then Res.ok a11 h114 else Res.ok undef h114)).bind fun v115 h116 =>
  ((bif wantVal v109 true then call F.swashref11_Same [v113, v115] h116 else Res.ok undef h116)).bind fun v117 h118 =>
  (condV (some v109) (Res.ok v117 h118) (Res.ok (.bool false) h118)).bind fun v119 h120 =>
  .ok v119 h120 := by kernel_rfl
def swashlaw16_SwapGone_l1 (k : Nat) (call : Caller) : Env → Heap → Res (AExit × Env) := loopB (C k) call F.swashlaw16_SwapGone [1, 1, 1, 1, 1, 1, 1, 1, 1, 1, 0, 1, 0, 0]
def swashlaw16_SwapGone_l1k (k : Nat) (call : Caller) : Kont Value := kBlock 0 (kSeq (pieceK (C k) call F.swashlaw16_SwapGone [1, 1, 1, 1, 1, 1, 1, 1, 1, 1, 1]) (kDone Prog (resOf Prog F.swashlaw16_SwapGone)))
def swashlaw16_SwapGone (k : Nat) (call : Caller) (a0 a1 : Value) (h : Heap) : Res Value :=
  (call F.swashlaw16_speaks [] h).bind fun v1 h2 =>
  (unR .not v1 h2).bind fun v3 h4 =>
  condV (some v3) (
    .ok (.bool false) h4)
  (
    (call F.swashlaw16_big [a0, a1] h4).bind fun v5 h6 =>
    condV (some v5) (
      .ok (.bool true) h6)
    (
      (call F.swap_Read [a0, (.int .i64 40)] h6).bind fun v7 h8 =>
      (extractR v7 0 h8).bind fun v9 h10 =>
      (extractR v7 1 h10).bind fun v11 h12 =>
      (call F.swashref06_Read [a0, (.int .i64 40), (.int .i64 2)] h12).bind fun v13 h14 =>
      (extractR v13 0 h14).bind fun v15 h16 =>
      (extractR v13 1 h16).bind fun v17 h18 =>
      (allocR Prog 88 h18).bind fun v19 h20 =>
      (storeR Prog 88 v19 v15 h20).bind fun _v21 h22 =>
      (binR Prog .eql 106 v9 (.pointer none) h22).bind fun v23 h24 =>
      ((bif wantVal v23 false then Res.ok v17 h24 else Res.ok undef h24)).bind fun v25 h26 =>
      ((bif wantVal v23 false then unR .not v25 h26 else Res.ok undef h26)).bind fun v27 h28 =>
      (condV (some v23) (Res.ok (.bool true) h28) (Res.ok v27 h28)).bind fun v29 h30 =>
      condV (some v29) (
        (binR Prog .eql 106 v9 (.pointer none) h30).bind fun v31 h32 =>
        ((bif wantVal v31 true then Res.ok v17 h32 else Res.ok undef h32)).bind fun v33 h34 =>
        ((bif wantVal v31 true then unR .not v33 h34 else Res.ok undef h34)).bind fun v35 h36 =>
        (condV (some v31) (Res.ok v35 h36) (Res.ok (.bool false) h36)).bind fun v37 h38 =>
        .ok v37 h38)
      (
        (call F.line_Of [a1] h30).bind fun v39 h40 =>
        (call F.swap_Table_Run [v9, v39] h40).bind fun v41 h42 =>
        (call F.line_Line_Glyphs [v39] h42).bind fun v43 h44 =>
        (builtinV Prog .len [50] [v43] h44).bind fun v45 h46 =>
        (builtinV Prog .len [50] [a1] h46).bind fun v47 h48 =>
        (binR Prog .neq 3 v45 v47 h48).bind fun v49 h50 =>
        condV (some v49) (
          .ok (.bool false) h50)
        (
          (builtinV Prog .len [50] [a1] h50).bind fun v51 h52 =>
          (loopN (swashlaw16_SwapGone_l1 k call) loopFuel [(7, v19), (10, v43), (54, a1), (55, v51), (56, (.int .i64 0))] h52).bind fun r53 h54 =>
          swashlaw16_SwapGone_l1k k call r53.1 r53.2 h54))))
theorem swashlaw16_SwapGone_R (k : Nat) (a0 a1 : Value) (h : Heap) : R (T k) F.swashlaw16_SwapGone [a0, a1] h = nrm .gc h (swashlaw16_SwapGone k (R (T k)) a0 a1 h) :=
  (R_body (t := T k) (T_scott k) (by kernel_rfl) _ _).trans (by kernel_rfl)
theorem swashlaw16_SwapGone_l1_eq (k : Nat) (call : Caller) (a7 a10 a54 a55 a56 : Value) (h : Heap) : swashlaw16_SwapGone_l1 k call [(7, a7), (10, a10), (54, a54), (55, a55), (56, a56)] h =
  (binR Prog .lss 3 a56 a55 h).bind fun v55 h56 =>
  condV (some v55) (
    (indexAddrR Prog 50 a54 a56 h56).bind fun v57 h58 =>
    (loadR Prog 55 v57 h58).bind fun v59 h60 =>
    (allocR Prog 55 h60).bind fun v61 h62 =>
    (storeR Prog 55 v61 v59 h62).bind fun _v63 h64 =>
    (loadR Prog 88 a7 h64).bind fun v65 h66 =>
    (fieldAddrR Prog 55 v61 0 h66).bind fun v67 h68 =>
    (loadR Prog 3 v67 h68).bind fun v69 h70 =>
    (call F.swashref06_Get [v65, v69] h70).bind fun v71 h72 =>
    (extractR v71 0 h72).bind fun v73 h74 =>
    (extractR v71 1 h74).bind fun v75 h76 =>
    (fieldAddrR Prog 55 v61 0 h76).bindN fun v77 h78 =>
    (loadR Prog 3 v77 h78).bindN fun v79 h80 =>
    (binR Prog .eql 3 v79 (.int .i64 65535) h80).bindN fun v81 h82 =>
    ((bif wantVal v81 false then Res.ok v75 h82 else Res.ok undef h82)).bindN fun v83 h84 =>
    ((bif wantVal v81 false then unR .not v83 h84 else Res.ok undef h84)).bindN fun v85 h86 =>
    (condV (some v81) (Res.ok (.bool true) h86) (Res.ok v85 h86)).bindN fun v87 h88 =>
    ((bif wantVal v87 true then Res.ok a10 h88 else Res.ok undef h88)).bindN fun v89 h90 =>
    ((bif wantVal v87 true then Res.ok a56 h90 else Res.ok undef h90)).bindN fun v91 h92 =>
    ((bif wantVal v87 true then indexAddrR Prog 50 v89 v91 h92 else Res.ok undef h92)).bindN fun v93 h94 =>
    ((bif wantVal v87 true then loadR Prog 55 v93 h94 else Res.ok undef h94)).bindN fun v95 h96 =>
    ((bif wantVal v87 true then loadR Prog 55 v61 h96 else Res.ok undef h96)).bindN fun v97 h98 =>
    ((bif wantVal v87 true then binR Prog .neq 55 v95 v97 h98 else Res.ok undef h98)).bindN fun v99 h100 =>
    (condV (some v87) (Res.ok v99 h100) (Res.ok (.bool false) h100)).bindN fun v101 h102 =>
    ((bif wantVal v101 false then Res.ok a10 h102 else Res.ok undef h102)).bindN fun v103 h104 =>
    ((bif wantVal v101 false then Res.ok a56 h104 else Res.ok undef h104)).bindN fun v105 h106 =>
    ((bif wantVal v101 false then indexAddrR Prog 50 v103 v105 h106 else Res.ok undef h106)).bindN fun v107 h108 =>
    ((bif wantVal v101 false then fieldAddrR Prog 55 v107 1 h108 else Res.ok undef h108)).bindN fun v109 h110 =>
    ((bif wantVal v101 false then loadR Prog 3 v109 h110 else Res.ok undef h110)).bindN fun v111 h112 =>
    ((bif wantVal v101 false then fieldAddrR Prog 55 v61 1 h112 else Res.ok undef h112)).bindN fun v113 h114 =>
    ((bif wantVal v101 false then loadR Prog 3 v113 h114 else Res.ok undef h114)).bindN fun v115 h116 =>
    ((bif wantVal v101 false then binR Prog .neq 3 v111 v115 h116 else Res.ok undef h116)).bindN fun v117 h118 =>
    (condV (some v101) (Res.ok (.bool true) h118) (Res.ok v117 h118)).bindN fun v119 h120 =>
    condV (some v119) (
      .ok (.ret, [(4, (.bool false))]) h120)
    (
      (binR Prog .add 3 a56 (.int .i64 1) h120).bind fun v121 h122 =>
      .ok (.normal, [(7, a7), (10, a10), (54, a54), (55, a55), (56, v121)]) h122))
  (
    .ok ((.exit 0), [(7, a7), (10, a10), (54, a54), (55, a55), (56, a56), (57, v55)]) h56) :=
  (loopB_eq _ _).trans (by kernel_rfl)
theorem swashlaw16_SwapGone_l1k_r (k : Nat) (call : Caller) (a4 : Value) (h : Heap) : swashlaw16_SwapGone_l1k k call .ret [(4, a4)] h =
  .ok a4 h := by kernel_rfl
theorem swashlaw16_SwapGone_l1k_x0 (k : Nat) (call : Caller) (a7 a10 a54 a55 a56 a57 : Value) (h : Heap) : swashlaw16_SwapGone_l1k k call (.exit 0) [(7, a7), (10, a10), (54, a54), (55, a55), (56, a56), (57, a57)] h =
  .ok (.bool true) h := by kernel_rfl
def swashlaw16_SwapTakes (k : Nat) (call : Caller) (a0 a1 : Value) (h : Heap) : Res Value :=
  (boxR a0 h).bind fun v1 h2 =>
  (call F.swashlaw16_speaks [] h2).bind fun v3 h4 =>
  (unR .not v3 h4).bind fun v5 h6 =>
  condV (some v5) (
    .ok (.bool false) h6)
  (
    (loadR Prog 65 v1 h6).bind fun v7 h8 =>
    (builtinV Prog .len [65] [v7] h8).bind fun v9 h10 =>
    (binR Prog .gtr 3 v9 (.int .i64 800) h10).bind fun v11 h12 =>
    ((bif wantVal v11 false then Res.ok a1 h12 else Res.ok undef h12)).bind fun v13 h14 =>
    ((bif wantVal v11 false then builtinV Prog .len [28] [v13] h14 else Res.ok undef h14)).bind fun v15 h16 =>
    ((bif wantVal v11 false then binR Prog .gtr 3 v15 (.int .i64 40) h16 else Res.ok undef h16)).bind fun v17 h18 =>
    (condV (some v11) (Res.ok (.bool true) h18) (Res.ok v17 h18)).bind fun v19 h20 =>
    condV (some v19) (
      .ok (.bool true) h20)
    (
      (allocR Prog 106 h20).bind fun v21 h22 =>
      (call F.view_Try [(.func (.func F.swashlaw16_SwapTakes_in1) #[] #[v1, v21])] h22).bind fun v23 h24 =>
      (loadR Prog 65 v1 h24).bind fun v25 h26 =>
      (call F.swap_Read [v25, (.int .i64 40)] h26).bind fun v27 h28 =>
      (extractR v27 0 h28).bind fun v29 h30 =>
      (extractR v27 1 h30).bind fun v31 h32 =>
      (binR Prog .eql 69 v31 (.int .i64 0) h32).bind fun v33 h34 =>
      (binR Prog .neq 4 v23 v33 h34).bind fun v35 h36 =>
      ((bif wantVal v35 false then Res.ok v23 h36 else Res.ok undef h36)).bind fun v37 h38 =>
      ((bif wantVal v35 false then loadR Prog 106 v21 h38 else Res.ok undef h38)).bind fun v39 h40 =>
      ((bif wantVal v35 false then binR Prog .neq 106 v39 (.pointer none) h40 else Res.ok undef h40)).bind fun v41 h42 =>
      ((bif wantVal v35 false then binR Prog .neq 4 v37 v41 h42 else Res.ok undef h42)).bind fun v43 h44 =>
      (condV (some v35) (Res.ok (.bool true) h44) (Res.ok v43 h44)).bind fun v45 h46 =>
      ((bif wantVal v45 false then Res.ok v23 h46 else Res.ok undef h46)).bind fun v47 h48 =>
      ((bif wantVal v45 false then Res.ok v29 h48 else Res.ok undef h48)).bind fun v49 h50 =>
      ((bif wantVal v45 false then binR Prog .neq 106 v49 (.pointer none) h50 else Res.ok undef h50)).bind fun v51 h52 =>
      ((bif wantVal v45 false then binR Prog .neq 4 v47 v51 h52 else Res.ok undef h52)).bind fun v53 h54 =>
      (condV (some v45) (Res.ok (.bool true) h54) (Res.ok v53 h54)).bind fun v55 h56 =>
      condV (some v55) (
        .ok (.bool false) h56)
      (
        (unR .not v23 h56).bind fun v57 h58 =>
        condV (some v57) (
          .ok (.bool true) h58)
        (
          (call F.line_New [a1] h58).bind fun v59 h60 =>
          (call F.line_New [a1] h60).bind fun v61 h62 =>
          (loadR Prog 106 v21 h62).bind fun v63 h64 =>
          (call F.swap_Table_Run [v63, v59] h64).bind fun v65 h66 =>
          (call F.swap_Table_Run [v29, v61] h66).bind fun v67 h68 =>
          (binR Prog .eql 69 v65 v67 h68).bind fun v69 h70 =>
          ((bif wantVal v69 true then Res.ok v59 h70 else Res.ok undef h70)).bind fun v71 h72 =>
          ((bif wantVal v69 true then call F.line_Line_Glyphs [v71] h72 else Res.ok undef h72)).bind fun v73 h74 =>
          ((bif wantVal v69 true then Res.ok v61 h74 else Res.ok undef h74)).bind fun v75 h76 =>
          ((bif wantVal v69 true then call F.line_Line_Glyphs [v75] h76 else Res.ok undef h76)).bind fun v77 h78 =>
          ((bif wantVal v69 true then call F.swashref11_Same [v73, v77] h78 else Res.ok undef h78)).bind fun v79 h80 =>
          (condV (some v69) (Res.ok v79 h80) (Res.ok (.bool false) h80)).bind fun v81 h82 =>
          .ok v81 h82))))
theorem swashlaw16_SwapTakes_R (k : Nat) (a0 a1 : Value) (h : Heap) : R (T k) F.swashlaw16_SwapTakes [a0, a1] h = nrm .gc h (swashlaw16_SwapTakes k (R (T k)) a0 a1 h) :=
  (R_body (t := T k) (T_scott k) (by kernel_rfl) _ _).trans (by kernel_rfl)
def swashlaw16_SwapParts (k : Nat) (call : Caller) (a0 a1 a2 : Value) (h : Heap) : Res Value :=
  (call F.swashlaw16_speaks [] h).bind fun v1 h2 =>
  (unR .not v1 h2).bind fun v3 h4 =>
  condV (some v3) (
    .ok (.bool false) h4)
  (
    (call F.swashlaw16_big [a0, a1] h4).bind fun v5 h6 =>
    ((bif wantVal v5 false then Res.ok a0 h6 else Res.ok undef h6)).bind fun v7 h8 =>
    ((bif wantVal v5 false then Res.ok a2 h8 else Res.ok undef h8)).bind fun v9 h10 =>
    ((bif wantVal v5 false then call F.swashlaw16_big [v7, v9] h10 else Res.ok undef h10)).bind fun v11 h12 =>
    (condV (some v5) (Res.ok (.bool true) h12) (Res.ok v11 h12)).bind fun v13 h14 =>
    condV (some v13) (
      .ok (.bool true) h14)
    (
      (call F.swap_Read [a0, (.int .i64 40)] h14).bind fun v15 h16 =>
      (extractR v15 0 h16).bind fun v17 h18 =>
      (extractR v15 1 h18).bind fun v19 h20 =>
      (binR Prog .eql 106 v17 (.pointer none) h20).bind fun v21 h22 =>
      condV (some v21) (
        .ok (.bool true) h22)
      (
        (call F.line_Of [a1] h22).bind fun v23 h24 =>
        (call F.line_Of [a2] h24).bind fun v25 h26 =>
        (buildSliceR Prog 50 0 [] h26).bind fun v27 h28 =>
        (builtinV Prog .append [50, 50] [v27, a1] h28).bind fun v29 h30 =>
        (builtinV Prog .append [50, 50] [v29, a2] h30).bind fun v31 h32 =>
        (call F.line_Of [v31] h32).bind fun v33 h34 =>
        (call F.swap_Table_Run [v17, v23] h34).bind fun v35 h36 =>
        (call F.swap_Table_Run [v17, v25] h36).bind fun v37 h38 =>
        (call F.line_Line_Turn [v33] h38).bind fun v39 h40 =>
        (call F.swap_Table_Run [v17, v33] h40).bind fun v41 h42 =>
        (call F.line_Line_Turn [v33] h42).bind fun v43 h44 =>
        (call F.line_Line_Glyphs [v33] h44).bind fun v45 h46 =>
        (call F.line_Line_Glyphs [v23] h46).bind fun v47 h48 =>
        (call F.line_Line_Glyphs [v25] h48).bind fun v49 h50 =>
        (builtinV Prog .append [50, 50] [v47, v49] h50).bind fun v51 h52 =>
        (call F.swashref11_Same [v45, v51] h52).bind fun v53 h54 =>
        .ok v53 h54)))
theorem swashlaw16_SwapParts_R (k : Nat) (a0 a1 a2 : Value) (h : Heap) : R (T k) F.swashlaw16_SwapParts [a0, a1, a2] h = nrm .gc h (swashlaw16_SwapParts k (R (T k)) a0 a1 a2 h) :=
  (R_body (t := T k) (T_scott k) (by kernel_rfl) _ _).trans (by kernel_rfl)
def swashlaw16_big (k : Nat) (call : Caller) (a0 a1 : Value) (h : Heap) : Res Value :=
  (builtinV Prog .len [65] [a0] h).bind fun v1 h2 =>
  (binR Prog .gtr 3 v1 (.int .i64 600) h2).bind fun v3 h4 =>
  ((bif wantVal v3 false then Res.ok a1 h4 else Res.ok undef h4)).bind fun v5 h6 =>
  ((bif wantVal v3 false then builtinV Prog .len [50] [v5] h6 else Res.ok undef h6)).bind fun v7 h8 =>
  ((bif wantVal v3 false then binR Prog .gtr 3 v7 (.int .i64 60) h8 else Res.ok undef h8)).bind fun v9 h10 =>
  (condV (some v3) (Res.ok (.bool true) h10) (Res.ok v9 h10)).bind fun v11 h12 =>
  .ok v11 h12
theorem swashlaw16_big_R (k : Nat) (a0 a1 : Value) (h : Heap) : R (T k) F.swashlaw16_big [a0, a1] h = nrm .gc h (swashlaw16_big k (R (T k)) a0 a1 h) :=
  (R_body (t := T k) (T_scott k) (by kernel_rfl) _ _).trans (by kernel_rfl)
def swashlaw16_SwapTakes_in1 (k : Nat) (call : Caller) (a0 a1 : Value) (h : Heap) : Res Value :=
  (loadR Prog 65 a0 h).bind fun v1 h2 =>
  (call F.view_Of [v1] h2).bind fun v3 h4 =>
  (call F.swap_Take [v3, (.int .i64 40)] h4).bind fun v5 h6 =>
  (storeR Prog 106 a1 v5 h6).bind fun _v7 h8 =>
  .ok (.tuple #[]) h8
theorem swashlaw16_SwapTakes_in1_R (k : Nat) (a0 a1 : Value) (h : Heap) : R (T k) F.swashlaw16_SwapTakes_in1 [a0, a1] h = nrm .no h (swashlaw16_SwapTakes_in1 k (R (T k)) a0 a1 h) :=
  (R_body (t := T k) (T_scott k) (by kernel_rfl) _ _).trans (by kernel_rfl)
end
end Go.Sw
