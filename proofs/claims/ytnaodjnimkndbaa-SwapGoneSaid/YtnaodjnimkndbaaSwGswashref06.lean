/-
  The functions of the package swashref06. Printed by SwGenMain.
-/
import Derived.Test.YtnaodjnimkndbaaSwCfg
set_option maxRecDepth 100000
set_option linter.unusedVariables false
namespace Go.Sw
noncomputable section
def swashref06_Read_l1 (k : Nat) (call : Caller) : Env → Heap → Res (AExit × Env) := loopB (C k) call F.swashref06_Read [1, 1, 0, 1, 0, 0]
def swashref06_Read_l1k (k : Nat) (call : Caller) : Kont Value := kBlock 0 (kSeq (pieceK (C k) call F.swashref06_Read [1, 1, 1]) (kDone Prog (resOf Prog F.swashref06_Read)))
def swashref06_Read_j1 (k : Nat) (call : Caller) (a0 a6 a8 a9 a10 : Value) (h : Heap) : Res (AExit × Env) :=
  kSeq (pieceK (C k) call F.swashref06_Read [1, 1, 0, 1, 0, 0, 1, 1]) (kRound (ownOf (C k) F.swashref06_Read [1, 1, 0, 1, 0, 0])) .normal [(0, a0), (6, a6), (8, a8), (9, a9), (10, a10)] h
def swashref06_Read_j2 (k : Nat) (call : Caller) (a0 a6 a8 a9 a10 a52 : Value) (h : Heap) : Res (AExit × Env) :=
  kSeq (pieceK (C k) call F.swashref06_Read [1, 1, 0, 1, 0, 0, 1, 1]) (kRound (ownOf (C k) F.swashref06_Read [1, 1, 0, 1, 0, 0])) .normal [(0, a0), (6, a6), (8, a8), (9, a9), (10, a10), (52, a52)] h
def swashref06_Read (k : Nat) (call : Caller) (a0 a1 a2 : Value) (h : Heap) : Res Value :=
  (allocR Prog 88 h).bind fun v1 h2 =>
  (call F.swashref06_parts [a0, a1, a2] h2).bind fun v3 h4 =>
  (extractR v3 0 h4).bind fun v5 h6 =>
  (extractR v3 1 h6).bind fun v7 h8 =>
  (loopN (swashref06_Read_l1 k call) loopFuel [(0, a0), (6, v1), (8, v5), (9, v7), (10, (.int .i64 0))] h8).bind fun r9 h10 =>
  swashref06_Read_l1k k call r9.1 r9.2 h10
theorem swashref06_Read_R (k : Nat) (a0 a1 a2 : Value) (h : Heap) : R (T k) F.swashref06_Read [a0, a1, a2] h = nrm .fz h (swashref06_Read k (R (T k)) a0 a1 a2 h) :=
  (R_body (t := T k) (T_scott k) (by kernel_rfl) _ _).trans (by kernel_rfl)
theorem swashref06_Read_l1_eq (k : Nat) (call : Caller) (a0 a6 a8 a9 a10 : Value) (h : Heap) : swashref06_Read_l1 k call [(0, a0), (6, a6), (8, a8), (9, a9), (10, a10)] h =
  (builtinV Prog .len [86] [a8] h).bind fun v11 h12 =>
  (binR Prog .lss 3 a10 v11 h12).bind fun v13 h14 =>
  condV (some v13) (
    (indexAddrR Prog 86 a8 a10 h14).bindN fun v15 h16 =>
    (fieldAddrR Prog 244 v15 0 h16).bindN fun v17 h18 =>
    (loadR Prog 3 v17 h18).bindN fun v19 h20 =>
    (indexAddrR Prog 86 a8 a10 h20).bindN fun v21 h22 =>
    (fieldAddrR Prog 244 v21 1 h22).bindN fun v23 h24 =>
    (loadR Prog 3 v23 h24).bindN fun v25 h26 =>
    (binR Prog .gtr 3 v19 v25 h26).bindN fun v27 h28 =>
    ((bif wantVal v27 false then Res.ok a10 h28 else Res.ok undef h28)).bindN fun v29 h30 =>
    ((bif wantVal v27 false then binR Prog .gtr 3 v29 (.int .i64 0) h30 else Res.ok undef h30)).bindN fun v31 h32 =>
    ((bif wantVal v27 false then Res.ok v31 h32 else Res.ok undef h32)).bindN fun v33 h34 =>
    ((bif wantVal v33 true then Res.ok a8 h34 else Res.ok undef h34)).bindN fun v35 h36 =>
    ((bif wantVal v33 true then Res.ok a10 h36 else Res.ok undef h36)).bindN fun v37 h38 =>
    ((bif wantVal v33 true then binR Prog .sub 3 v37 (.int .i64 1) h38 else Res.ok undef h38)).bindN fun v39 h40 =>
    ((bif wantVal v33 true then indexAddrR Prog 86 v35 v39 h40 else Res.ok undef h40)).bindN fun v41 h42 =>
    ((bif wantVal v33 true then fieldAddrR Prog 244 v41 1 h42 else Res.ok undef h42)).bindN fun v43 h44 =>
    ((bif wantVal v33 true then loadR Prog 3 v43 h44 else Res.ok undef h44)).bindN fun v45 h46 =>
    ((bif wantVal v33 true then Res.ok a8 h46 else Res.ok undef h46)).bindN fun v47 h48 =>
    ((bif wantVal v33 true then Res.ok a10 h48 else Res.ok undef h48)).bindN fun v49 h50 =>
    ((bif wantVal v33 true then indexAddrR Prog 86 v47 v49 h50 else Res.ok undef h50)).bindN fun v51 h52 =>
    ((bif wantVal v33 true then fieldAddrR Prog 244 v51 0 h52 else Res.ok undef h52)).bindN fun v53 h54 =>
    ((bif wantVal v33 true then loadR Prog 3 v53 h54 else Res.ok undef h54)).bindN fun v55 h56 =>
    ((bif wantVal v33 true then binR Prog .geq 3 v45 v55 h56 else Res.ok undef h56)).bindN fun v57 h58 =>
    ((bif wantVal v27 false then condV (some v33) (Res.ok v57 h58) (Res.ok (.bool false) h58) else Res.ok undef h58)).bindN fun v59 h60 =>
    (condV (some v27) (Res.ok (.bool true) h60) (Res.ok v59 h60)).bindN fun v61 h62 =>
    condV (some v61) (
      swashref06_Read_j1 k call a0 a6 a8 (.bool false) a10 h62)
    (
      swashref06_Read_j2 k call a0 a6 a8 a9 a10 v61 h62))
  (
    .ok ((.exit 0), [(0, a0), (6, a6), (8, a8), (9, a9), (10, a10), (21, v13)]) h14) :=
  (loopB_eq _ _).trans (by kernel_rfl)
theorem swashref06_Read_j1_eq (k : Nat) (call : Caller) (a0 a6 a8 a9 a10 : Value) (h : Heap) : swashref06_Read_j1 k call a0 a6 a8 a9 a10 h =
  (binR Prog .add 3 a10 (.int .i64 1) h).bind fun v63 h64 =>
  .ok (.normal, [(0, a0), (6, a6), (8, a8), (9, a9), (10, v63)]) h64 := by kernel_rfl
theorem swashref06_Read_j2_eq (k : Nat) (call : Caller) (a0 a6 a8 a9 a10 a52 : Value) (h : Heap) : swashref06_Read_j2 k call a0 a6 a8 a9 a10 a52 h =
  (binR Prog .add 3 a10 (.int .i64 1) h).bind fun v65 h66 =>
  .ok (.normal, [(0, a0), (6, a6), (8, a8), (9, a9), (10, v65)]) h66 := by kernel_rfl
theorem swashref06_Read_l1k_x0 (k : Nat) (call : Caller) (a0 a6 a8 a9 a10 a21 : Value) (h : Heap) : swashref06_Read_l1k k call (.exit 0) [(0, a0), (6, a6), (8, a8), (9, a9), (10, a10), (21, a21)] h =
  (unR .not a9 h).bind fun v67 h68 =>
  condV (some v67) (
    (buildR Prog 88 [] h68).bind fun v69 h70 =>
    (storeR Prog 88 a6 v69 h70).bind fun _v71 h72 =>
    (loadR Prog 88 a6 h72).bind fun v73 h74 =>
    .ok (.tuple #[v73, (.bool false)]) h74)
  (
    (buildR Prog 88 [(0, a0), (1, a8)] h68).bind fun v75 h76 =>
    (storeR Prog 88 a6 v75 h76).bind fun _v77 h78 =>
    (loadR Prog 88 a6 h78).bind fun v79 h80 =>
    .ok (.tuple #[v79, (.bool true)]) h80) := by kernel_rfl
def swashref06_Get_l1 (k : Nat) (call : Caller) : Env → Heap → Res (AExit × Env) := loopB (C k) call F.swashref06_Get [1, 0, 1, 0, 0]
def swashref06_Get_l1k (k : Nat) (call : Caller) : Kont Value := kBlock 0 (kSeq (pieceK (C k) call F.swashref06_Get [1, 1]) (kDone Prog (resOf Prog F.swashref06_Get)))
def swashref06_Get (k : Nat) (call : Caller) (a0 a1 : Value) (h : Heap) : Res Value :=
  (boxR a0 h).bind fun v1 h2 =>
  (loopN (swashref06_Get_l1 k call) loopFuel [(1, a1), (2, v1), (6, (.int .i64 0))] h2).bind fun r3 h4 =>
  swashref06_Get_l1k k call r3.1 r3.2 h4
theorem swashref06_Get_R (k : Nat) (a0 a1 : Value) (h : Heap) : R (T k) F.swashref06_Get [a0, a1] h = nrm .gc h (swashref06_Get k (R (T k)) a0 a1 h) :=
  (R_body (t := T k) (T_scott k) (by kernel_rfl) _ _).trans (by kernel_rfl)
theorem swashref06_Get_l1_eq (k : Nat) (call : Caller) (a1 a2 a6 : Value) (h : Heap) : swashref06_Get_l1 k call [(1, a1), (2, a2), (6, a6)] h =
  (fieldAddrR Prog 88 a2 1 h).bind fun v5 h6 =>
  (loadR Prog 86 v5 h6).bind fun v7 h8 =>
  (builtinV Prog .len [86] [v7] h8).bind fun v9 h10 =>
  (binR Prog .lss 3 a6 v9 h10).bind fun v11 h12 =>
  condV (some v11) (
    (fieldAddrR Prog 88 a2 1 h12).bind fun v13 h14 =>
    (loadR Prog 86 v13 h14).bind fun v15 h16 =>
    (indexAddrR Prog 86 v15 a6 h16).bind fun v17 h18 =>
    (loadR Prog 244 v17 h18).bind fun v19 h20 =>
    (allocR Prog 244 h20).bind fun v21 h22 =>
    (storeR Prog 244 v21 v19 h22).bind fun _v23 h24 =>
    (fieldAddrR Prog 244 v21 0 h24).bind fun v25 h26 =>
    (loadR Prog 3 v25 h26).bind fun v27 h28 =>
    (binR Prog .geq 3 a1 v27 h28).bind fun v29 h30 =>
    ((bif wantVal v29 true then Res.ok a1 h30 else Res.ok undef h30)).bind fun v31 h32 =>
    ((bif wantVal v29 true then fieldAddrR Prog 244 v21 1 h32 else Res.ok undef h32)).bind fun v33 h34 =>
    ((bif wantVal v29 true then loadR Prog 3 v33 h34 else Res.ok undef h34)).bind fun v35 h36 =>
    ((bif wantVal v29 true then binR Prog .leq 3 v31 v35 h36 else Res.ok undef h36)).bind fun v37 h38 =>
    (condV (some v29) (Res.ok v37 h38) (Res.ok (.bool false) h38)).bind fun v39 h40 =>
    condV (some v39) (
      (fieldAddrR Prog 88 a2 0 h40).bind fun v41 h42 =>
      (loadR Prog 65 v41 h42).bind fun v43 h44 =>
      (fieldAddrR Prog 244 v21 2 h44).bind fun v45 h46 =>
      (loadR Prog 3 v45 h46).bind fun v47 h48 =>
      (fieldAddrR Prog 244 v21 0 h48).bind fun v49 h50 =>
      (loadR Prog 3 v49 h50).bind fun v51 h52 =>
      (binR Prog .sub 3 a1 v51 h52).bind fun v53 h54 =>
      (fieldAddrR Prog 244 v21 4 h54).bind fun v55 h56 =>
      (loadR Prog 3 v55 h56).bind fun v57 h58 =>
      (binR Prog .mul 3 v53 v57 h58).bind fun v59 h60 =>
      (binR Prog .add 3 v47 v59 h60).bind fun v61 h62 =>
      (fieldAddrR Prog 244 v21 3 h62).bind fun v63 h64 =>
      (loadR Prog 3 v63 h64).bind fun v65 h66 =>
      (call F.swashref01_U [v43, v61, v65] h66).bind fun v67 h68 =>
      .ok (.ret, [(4, v67), (5, (.bool true))]) h68)
    (
      (binR Prog .add 3 a6 (.int .i64 1) h40).bind fun v69 h70 =>
      .ok (.normal, [(1, a1), (2, a2), (6, v69)]) h70))
  (
    .ok ((.exit 0), [(1, a1), (2, a2), (6, a6), (12, v11)]) h12) :=
  (loopB_eq _ _).trans (by kernel_rfl)
theorem swashref06_Get_l1k_r (k : Nat) (call : Caller) (a4 a5 : Value) (h : Heap) : swashref06_Get_l1k k call .ret [(4, a4), (5, a5)] h =
  .ok (.tuple #[a4, a5]) h := by kernel_rfl
theorem swashref06_Get_l1k_x0 (k : Nat) (call : Caller) (a1 a2 a6 a12 : Value) (h : Heap) : swashref06_Get_l1k k call (.exit 0) [(1, a1), (2, a2), (6, a6), (12, a12)] h =
  .ok (.tuple #[(.int .i64 0), (.bool false)]) h := by kernel_rfl
def swashref06_parts_l1 (k : Nat) (call : Caller) : Env → Heap → Res (AExit × Env) := loopB (C k) call F.swashref06_parts [1, 0, 1, 0, 1, 1, 1, 1, 1, 1, 1, 0, 1, 1, 0, 1, 0, 0]
def swashref06_parts_l1k (k : Nat) (call : Caller) : Kont Value := kBlock 1 (kSeq (pieceK (C k) call F.swashref06_parts [1, 0, 1, 0, 1, 1, 1, 1, 1, 1, 1, 0, 1, 1, 1]) (kBlock 0 (kSeq (pieceK (C k) call F.swashref06_parts [1, 1]) (kDone Prog (resOf Prog F.swashref06_parts)))))
def swashref06_parts (k : Nat) (call : Caller) (a0 a1 a2 : Value) (h : Heap) : Res Value :=
  (call F.swashref01_U [a0, (.int .i64 0), (.int .i64 2)] h).bind fun v1 h2 =>
  (binR Prog .eql 3 v1 (.int .i64 0) h2).bind fun v3 h4 =>
  condV (some v3) (
    (binR Prog .sub 3 a1 (.int .i64 1) h4).bind fun v5 h6 =>
    (buildR Prog 244 [(0, (.int .i64 0)), (1, v5), (2, (.int .i64 2)), (3, a2), (4, a2)] h6).bind fun v7 h8 =>
    (buildSliceR Prog 86 1 [(0, v7)] h8).bind fun v9 h10 =>
    (builtinV Prog .len [65] [a0] h10).bind fun v11 h12 =>
    (call F.swashref01_Rows [v11, (.int .i64 2), a1, a2] h12).bind fun v13 h14 =>
    .ok (.tuple #[v9, v13]) h14)
  (
    (binR Prog .eql 3 v1 (.int .i64 2) h4).bind fun v15 h16 =>
    condV (some v15) (
      (call F.swashref06_segments [a0, a2, (.bool false)] h16).bind fun v17 h18 =>
      (extractR v17 0 h18).bind fun v19 h20 =>
      (extractR v17 1 h20).bind fun v21 h22 =>
      .ok (.tuple #[v19, v21]) h22)
    (
      (binR Prog .eql 3 v1 (.int .i64 4) h16).bind fun v23 h24 =>
      condV (some v23) (
        (call F.swashref06_segments [a0, a2, (.bool true)] h24).bind fun v25 h26 =>
        (extractR v25 0 h26).bind fun v27 h28 =>
        (extractR v25 1 h28).bind fun v29 h30 =>
        .ok (.tuple #[v27, v29]) h30)
      (
        (binR Prog .eql 3 v1 (.int .i64 6) h24).bind fun v31 h32 =>
        condV (some v31) (
          (binR Prog .add 3 (.int .i64 2) a2 h32).bind fun v33 h34 =>
          (call F.swashref05_Rows [a0, (.int .i64 2), v33, (.int .i64 1)] h34).bind fun v35 h36 =>
          (extractR v35 0 h36).bind fun v37 h38 =>
          (extractR v35 1 h38).bind fun v39 h40 =>
          (extractR v35 2 h40).bind fun v41 h42 =>
          (buildSliceR Prog 86 0 [] h42).bind fun v43 h44 =>
          (loopN (swashref06_parts_l1 k call) loopFuel [(0, a0), (2, a2), (8, v37), (10, v41), (11, v43), (12, (.int .i64 0))] h44).bind fun r45 h46 =>
          swashref06_parts_l1k k call r45.1 r45.2 h46)
        (
          (binR Prog .eql 3 v1 (.int .i64 8) h32).bind fun v47 h48 =>
          condV (some v47) (
            (call F.swashref06_trimmed [a0, (.int .i64 2), a2] h48).bind fun v49 h50 =>
            (extractR v49 0 h50).bind fun v51 h52 =>
            (extractR v49 1 h52).bind fun v53 h54 =>
            .ok (.tuple #[v51, v53]) h54)
          (
            (binR Prog .eql 3 v1 (.int .i64 10) h48).bind fun v55 h56 =>
            condV (some v55) (
              (call F.swashref01_U [a0, (.int .i64 2), (.int .i64 2)] h56).bind fun v57 h58 =>
              (binR Prog .neq 3 v57 (.int .i64 1) h58).bind fun v59 h60 =>
              ((bif wantVal v59 true then Res.ok v57 h60 else Res.ok undef h60)).bind fun v61 h62 =>
              ((bif wantVal v59 true then binR Prog .neq 3 v61 (.int .i64 2) h62 else Res.ok undef h62)).bind fun v63 h64 =>
              (condV (some v59) (Res.ok v63 h64) (Res.ok (.bool false) h64)).bind fun v65 h66 =>
              ((bif wantVal v65 true then Res.ok v57 h66 else Res.ok undef h66)).bind fun v67 h68 =>
              ((bif wantVal v65 true then binR Prog .neq 3 v67 (.int .i64 4) h68 else Res.ok undef h68)).bind fun v69 h70 =>
              (condV (some v65) (Res.ok v69 h70) (Res.ok (.bool false) h70)).bind fun v71 h72 =>
              condV (some v71) (
                .ok (.tuple #[(.slice none 0 0), (.bool false)]) h72)
              (
                (call F.swashref06_trimmed [a0, (.int .i64 4), v57] h72).bind fun v73 h74 =>
                (extractR v73 0 h74).bind fun v75 h76 =>
                (extractR v73 1 h76).bind fun v77 h78 =>
                .ok (.tuple #[v75, v77]) h78))
            (
              .ok (.tuple #[(.slice none 0 0), (.bool false)]) h56))))))
theorem swashref06_parts_R (k : Nat) (a0 a1 a2 : Value) (h : Heap) : R (T k) F.swashref06_parts [a0, a1, a2] h = nrm .fz h (swashref06_parts k (R (T k)) a0 a1 a2 h) :=
  (R_body (t := T k) (T_scott k) (by kernel_rfl) _ _).trans (by kernel_rfl)
theorem swashref06_parts_l1_eq (k : Nat) (call : Caller) (a0 a2 a8 a10 a11 a12 : Value) (h : Heap) : swashref06_parts_l1 k call [(0, a0), (2, a2), (8, a8), (10, a10), (11, a11), (12, a12)] h =
  (builtinV Prog .len [28] [a8] h).bind fun v79 h80 =>
  (binR Prog .lss 3 a12 v79 h80).bind fun v81 h82 =>
  condV (some v81) (
    (indexAddrR Prog 28 a8 a12 h82).bind fun v83 h84 =>
    (loadR Prog 3 v83 h84).bind fun v85 h86 =>
    (call F.swashref01_U [a0, v85, (.int .i64 2)] h86).bind fun v87 h88 =>
    (indexAddrR Prog 28 a8 a12 h88).bind fun v89 h90 =>
    (loadR Prog 3 v89 h90).bind fun v91 h92 =>
    (binR Prog .add 3 v91 (.int .i64 2) h92).bind fun v93 h94 =>
    (buildR Prog 244 [(0, v87), (1, v87), (2, v93), (3, a2)] h94).bind fun v95 h96 =>
    (buildSliceR Prog 86 1 [(0, v95)] h96).bind fun v97 h98 =>
    (builtinV Prog .append [86, 86] [a11, v97] h98).bind fun v99 h100 =>
    (binR Prog .add 3 a12 (.int .i64 1) h100).bind fun v101 h102 =>
    .ok (.normal, [(0, a0), (2, a2), (8, a8), (10, a10), (11, v99), (12, v101)]) h102)
  (
    .ok ((.exit 1), [(0, a0), (2, a2), (8, a8), (10, a10), (11, a11), (12, a12), (58, v81)]) h82) :=
  (loopB_eq _ _).trans (by kernel_rfl)
theorem swashref06_parts_l1k_x1 (k : Nat) (call : Caller) (a0 a2 a8 a10 a11 a12 a58 : Value) (h : Heap) : swashref06_parts_l1k k call (.exit 1) [(0, a0), (2, a2), (8, a8), (10, a10), (11, a11), (12, a12), (58, a58)] h =
  .ok (.tuple #[a11, a10]) h := by kernel_rfl
def swashref06_segments_j1 (k : Nat) (call : Caller) (a0 a1 a2 a8 : Value) (h : Heap) : Res Value :=
  kSeq (pieceK (C k) call F.swashref06_segments [1, 1, 1]) (kDone Prog (resOf Prog F.swashref06_segments)) .normal [(0, a0), (1, a1), (2, a2), (8, a8)] h
def swashref06_segments_j2 (k : Nat) (call : Caller) (a0 a1 a2 a8 a17 : Value) (h : Heap) : Res Value :=
  kSeq (pieceK (C k) call F.swashref06_segments [1, 1, 1]) (kDone Prog (resOf Prog F.swashref06_segments)) .normal [(0, a0), (1, a1), (2, a2), (8, a8), (17, a17)] h
def swashref06_segments_l1 (k : Nat) (call : Caller) : Env → Heap → Res (AExit × Env) := loopB (C k) call F.swashref06_segments [1, 1, 1, 1, 1, 0, 1, 0, 0]
def swashref06_segments_l1k (k : Nat) (call : Caller) : Kont Value := kBlock 0 (kSeq (pieceK (C k) call F.swashref06_segments [1, 1, 1, 1, 1, 1]) (kDone Prog (resOf Prog F.swashref06_segments)))
def swashref06_segments_j3 (k : Nat) (call : Caller) (a0 a1 a2 a9 a11 a12 a13 a14 : Value) (h : Heap) : Res (AExit × Env) :=
  kSeq (pieceK (C k) call F.swashref06_segments [1, 1, 1, 1, 1, 0, 1, 0, 0, 1, 0, 0, 1, 1]) (kBlock 1 (kSeq (pieceK (C k) call F.swashref06_segments [1, 1, 1, 1, 1, 0, 1, 0, 0, 1, 1]) (kRound (ownOf (C k) F.swashref06_segments [1, 1, 1, 1, 1, 0, 1, 0, 0])))) .normal [(0, a0), (1, a1), (2, a2), (9, a9), (11, a11), (12, a12), (13, a13), (14, a14)] h
def swashref06_segments_j4 (k : Nat) (call : Caller) (a0 a1 a2 a9 a11 a12 a13 a14 a55 : Value) (h : Heap) : Res (AExit × Env) :=
  kSeq (pieceK (C k) call F.swashref06_segments [1, 1, 1, 1, 1, 0, 1, 0, 0, 1, 0, 0, 1, 1]) (kBlock 1 (kSeq (pieceK (C k) call F.swashref06_segments [1, 1, 1, 1, 1, 0, 1, 0, 0, 1, 1]) (kRound (ownOf (C k) F.swashref06_segments [1, 1, 1, 1, 1, 0, 1, 0, 0])))) .normal [(0, a0), (1, a1), (2, a2), (9, a9), (11, a11), (12, a12), (13, a13), (14, a14), (55, a55)] h
def swashref06_segments (k : Nat) (call : Caller) (a0 a1 a2 : Value) (h : Heap) : Res Value :=
  (binR Prog .add 3 (.int .i64 4) a1 h).bind fun v1 h2 =>
  condV (some a2) (
    swashref06_segments_j1 k call a0 a1 a2 (.int .i64 6) h2)
  (
    swashref06_segments_j2 k call a0 a1 a2 v1 a2 h2)
theorem swashref06_segments_R (k : Nat) (a0 a1 a2 : Value) (h : Heap) : R (T k) F.swashref06_segments [a0, a1, a2] h = nrm .fz h (swashref06_segments k (R (T k)) a0 a1 a2 h) :=
  (R_body (t := T k) (T_scott k) (by kernel_rfl) _ _).trans (by kernel_rfl)
theorem swashref06_segments_j1_eq (k : Nat) (call : Caller) (a0 a1 a2 a8 : Value) (h : Heap) : swashref06_segments_j1 k call a0 a1 a2 a8 h =
  (call F.swashref05_Rows [a0, (.int .i64 2), a8, (.int .i64 2)] h).bind fun v3 h4 =>
  (extractR v3 0 h4).bind fun v5 h6 =>
  (extractR v3 1 h6).bind fun v7 h8 =>
  (extractR v3 2 h8).bind fun v9 h10 =>
  (buildSliceR Prog 86 0 [] h10).bind fun v11 h12 =>
  (loopN (swashref06_segments_l1 k call) loopFuel [(0, a0), (1, a1), (2, a2), (9, v5), (11, v9), (12, v11), (13, (.int .i64 0))] h12).bind fun r13 h14 =>
  swashref06_segments_l1k k call r13.1 r13.2 h14 := by kernel_rfl
theorem swashref06_segments_j2_eq (k : Nat) (call : Caller) (a0 a1 a2 a8 a17 : Value) (h : Heap) : swashref06_segments_j2 k call a0 a1 a2 a8 a17 h =
  (call F.swashref05_Rows [a0, (.int .i64 2), a8, (.int .i64 2)] h).bind fun v15 h16 =>
  (extractR v15 0 h16).bind fun v17 h18 =>
  (extractR v15 1 h18).bind fun v19 h20 =>
  (extractR v15 2 h20).bind fun v21 h22 =>
  (buildSliceR Prog 86 0 [] h22).bind fun v23 h24 =>
  (loopN (swashref06_segments_l1 k call) loopFuel [(0, a0), (1, a1), (2, a2), (9, v17), (11, v21), (12, v23), (13, (.int .i64 0))] h24).bind fun r25 h26 =>
  swashref06_segments_l1k k call r25.1 r25.2 h26 := by kernel_rfl
theorem swashref06_segments_l1_eq (k : Nat) (call : Caller) (a0 a1 a2 a9 a11 a12 a13 : Value) (h : Heap) : swashref06_segments_l1 k call [(0, a0), (1, a1), (2, a2), (9, a9), (11, a11), (12, a12), (13, a13)] h =
  (builtinV Prog .len [28] [a9] h).bind fun v27 h28 =>
  (binR Prog .lss 3 a13 v27 h28).bind fun v29 h30 =>
  ((bif wantVal v29 true then Res.ok a11 h30 else Res.ok undef h30)).bind fun v31 h32 =>
  (condV (some v29) (Res.ok v31 h32) (Res.ok (.bool false) h32)).bind fun v33 h34 =>
  condV (some v33) (
    (indexAddrR Prog 28 a9 a13 h34).bindN fun v35 h36 =>
    (loadR Prog 3 v35 h36).bindN fun v37 h38 =>
    (binR Prog .add 3 v37 (.int .i64 2) h38).bindN fun v39 h40 =>
    (call F.swashref01_U [a0, v39, (.int .i64 2)] h40).bindT (fun p43 h44 => (indexAddrR Prog 28 a9 a13 h40).bindN fun v45 h46 => (loadR Prog 3 v45 h46).bindN fun v47 h48 => (indexAddrR Prog 28 a9 a13 h48).bindN fun v49 h50 => (loadR Prog 3 v49 h50).bindN fun v51 h52 => (binR Prog .add 3 v51 (.int .i64 4) h52).bindN fun v53 h54 => (allocR Prog 244 h54).bindN fun v55 h56 => chkR ((okVal (loadR Prog 3 v45 h34) v47 && true) && ((okVal (loadR Prog 3 v49 h34) v51 && (okVal (loadR Prog 3 v49 h56) v51 && true)) && true)) (.panic p43 h44)) fun v41 h42 =>
    (indexAddrR Prog 28 a9 a13 h42).bindN fun v57 h58 =>
    (loadR Prog 3 v57 h58).bindN fun v59 h60 =>
    (call F.swashref01_U [a0, v59, (.int .i64 2)] h60).bindT (fun p63 h64 => (indexAddrR Prog 28 a9 a13 h60).bindN fun v65 h66 => (loadR Prog 3 v65 h66).bindN fun v67 h68 => (binR Prog .add 3 v67 (.int .i64 4) h68).bindN fun v69 h70 => (allocR Prog 244 h70).bindN fun v71 h72 => chkR ((okVal (loadR Prog 3 v57 h34) v59 && true) && ((okVal (loadR Prog 3 v65 h34) v67 && (okVal (loadR Prog 3 v65 h42) v67 && (okVal (loadR Prog 3 v65 h72) v67 && true))) && true)) (.panic p63 h64)) fun v61 h62 =>
    (indexAddrR Prog 28 a9 a13 h62).bindN fun v73 h74 =>
    (loadR Prog 3 v73 h74).bindN fun v75 h76 =>
    (binR Prog .add 3 v75 (.int .i64 4) h76).bindN fun v77 h78 =>
    (buildR Prog 244 [(0, v41), (1, v61), (2, v77), (3, a1)] h78).bindN fun v79 h80 =>
    (allocR Prog 244 h80).bindN fun v81 h82 =>
    (storeR Prog 244 v81 v79 h82).bindN fun _v83 h84 =>
    chkR ((okVal (loadR Prog 3 v57 h34) v59 && true) && ((okVal (loadR Prog 3 v73 h34) v75 && (okVal (loadR Prog 3 v73 h42) v75 && (okVal (loadR Prog 3 v73 h82) v75 && true))) && true)) (
    condV (some a2) (
      (indexAddrR Prog 28 a9 a13 h84).bind fun v85 h86 =>
      (loadR Prog 3 v85 h86).bind fun v87 h88 =>
      (binR Prog .add 3 v87 (.int .i64 4) h88).bind fun v89 h90 =>
      (call F.swashref01_U [a0, v89, (.int .i64 2)] h90).bind fun v91 h92 =>
      (fieldAddrR Prog 244 v81 2 h92).bind fun v93 h94 =>
      (storeR Prog 3 v93 v91 h94).bind fun _v95 h96 =>
      (fieldAddrR Prog 244 v81 4 h96).bind fun v97 h98 =>
      (storeR Prog 3 v97 a1 h98).bind fun _v99 h100 =>
      (builtinV Prog .len [65] [a0] h100).bind fun v101 h102 =>
      (fieldAddrR Prog 244 v81 2 h102).bind fun v103 h104 =>
      (loadR Prog 3 v103 h104).bind fun v105 h106 =>
      (fieldAddrR Prog 244 v81 1 h106).bind fun v107 h108 =>
      (loadR Prog 3 v107 h108).bind fun v109 h110 =>
      (fieldAddrR Prog 244 v81 0 h110).bind fun v111 h112 =>
      (loadR Prog 3 v111 h112).bind fun v113 h114 =>
      (binR Prog .sub 3 v109 v113 h114).bind fun v115 h116 =>
      (binR Prog .add 3 v115 (.int .i64 1) h116).bind fun v117 h118 =>
      (call F.swashref01_Rows [v101, v105, v117, a1] h118).bind fun v119 h120 =>
      swashref06_segments_j3 k call a0 a1 a2 a9 v119 a12 a13 v81 h120)
    (
      swashref06_segments_j4 k call a0 a1 a2 a9 a11 a12 a13 v81 a2 h84)))
  (
    .ok ((.exit 0), [(0, a0), (1, a1), (2, a2), (9, a9), (11, a11), (12, a12), (13, a13), (32, v33)]) h34) :=
  (loopB_eq _ _).trans (by kernel_rfl)
theorem swashref06_segments_j3_eq (k : Nat) (call : Caller) (a0 a1 a2 a9 a11 a12 a13 a14 : Value) (h : Heap) : swashref06_segments_j3 k call a0 a1 a2 a9 a11 a12 a13 a14 h =
  (loadR Prog 244 a14 h).bind fun v121 h122 =>
  (buildSliceR Prog 86 1 [(0, v121)] h122).bind fun v123 h124 =>
  (builtinV Prog .append [86, 86] [a12, v123] h124).bind fun v125 h126 =>
  (binR Prog .add 3 a13 (.int .i64 1) h126).bind fun v127 h128 =>
  .ok (.normal, [(0, a0), (1, a1), (2, a2), (9, a9), (11, a11), (12, v125), (13, v127)]) h128 := by kernel_rfl
theorem swashref06_segments_j4_eq (k : Nat) (call : Caller) (a0 a1 a2 a9 a11 a12 a13 a14 a55 : Value) (h : Heap) : swashref06_segments_j4 k call a0 a1 a2 a9 a11 a12 a13 a14 a55 h =
  (loadR Prog 244 a14 h).bind fun v129 h130 =>
  (buildSliceR Prog 86 1 [(0, v129)] h130).bind fun v131 h132 =>
  (builtinV Prog .append [86, 86] [a12, v131] h132).bind fun v133 h134 =>
  (binR Prog .add 3 a13 (.int .i64 1) h134).bind fun v135 h136 =>
  .ok (.normal, [(0, a0), (1, a1), (2, a2), (9, a9), (11, a11), (12, v133), (13, v135)]) h136 := by kernel_rfl
theorem swashref06_segments_l1k_x0 (k : Nat) (call : Caller) (a0 a1 a2 a9 a11 a12 a13 a32 : Value) (h : Heap) : swashref06_segments_l1k k call (.exit 0) [(0, a0), (1, a1), (2, a2), (9, a9), (11, a11), (12, a12), (13, a13), (32, a32)] h =
  .ok (.tuple #[a12, a11]) h := by kernel_rfl
def swashref06_trimmed (k : Nat) (call : Caller) (a0 a1 a2 : Value) (h : Heap) : Res Value :=
  (call F.swashref01_U [a0, a1, (.int .i64 2)] h).bind fun v1 h2 =>
  (binR Prog .add 3 a1 (.int .i64 2) h2).bind fun v3 h4 =>
  (call F.swashref01_U [a0, v3, (.int .i64 2)] h4).bind fun v5 h6 =>
  (binR Prog .lss 3 v1 (.int .i64 0) h6).bind fun v7 h8 =>
  ((bif wantVal v7 false then Res.ok v5 h8 else Res.ok undef h8)).bind fun v9 h10 =>
  ((bif wantVal v7 false then binR Prog .lss 3 v9 (.int .i64 0) h10 else Res.ok undef h10)).bind fun v11 h12 =>
  (condV (some v7) (Res.ok (.bool true) h12) (Res.ok v11 h12)).bind fun v13 h14 =>
  ((bif wantVal v13 false then Res.ok v1 h14 else Res.ok undef h14)).bind fun v15 h16 =>
  ((bif wantVal v13 false then Res.ok v5 h16 else Res.ok undef h16)).bind fun v17 h18 =>
  ((bif wantVal v13 false then binR Prog .add 3 v15 v17 h18 else Res.ok undef h18)).bind fun v19 h20 =>
  ((bif wantVal v13 false then binR Prog .gtr 3 v19 (.int .i64 65536) h20 else Res.ok undef h20)).bind fun v21 h22 =>
  (condV (some v13) (Res.ok (.bool true) h22) (Res.ok v21 h22)).bind fun v23 h24 =>
  ((bif wantVal v23 false then Res.ok a0 h24 else Res.ok undef h24)).bind fun v25 h26 =>
  ((bif wantVal v23 false then builtinV Prog .len [65] [v25] h26 else Res.ok undef h26)).bind fun v27 h28 =>
  ((bif wantVal v23 false then Res.ok a1 h28 else Res.ok undef h28)).bind fun v29 h30 =>
  ((bif wantVal v23 false then binR Prog .add 3 v29 (.int .i64 4) h30 else Res.ok undef h30)).bind fun v31 h32 =>
  ((bif wantVal v23 false then Res.ok v5 h32 else Res.ok undef h32)).bind fun v33 h34 =>
  ((bif wantVal v23 false then Res.ok a2 h34 else Res.ok undef h34)).bind fun v35 h36 =>
  ((bif wantVal v23 false then call F.swashref01_Rows [v27, v31, v33, v35] h36 else Res.ok undef h36)).bind fun v37 h38 =>
  ((bif wantVal v23 false then unR .not v37 h38 else Res.ok undef h38)).bind fun v39 h40 =>
  (condV (some v23) (Res.ok (.bool true) h40) (Res.ok v39 h40)).bind fun v41 h42 =>
  condV (some v41) (
    .ok (.tuple #[(.slice none 0 0), (.bool false)]) h42)
  (
    (binR Prog .eql 3 v5 (.int .i64 0) h42).bind fun v43 h44 =>
    condV (some v43) (
      (buildSliceR Prog 86 0 [] h44).bind fun v45 h46 =>
      .ok (.tuple #[v45, (.bool true)]) h46)
    (
      (binR Prog .add 3 v1 v5 h44).bind fun v47 h48 =>
      (binR Prog .sub 3 v47 (.int .i64 1) h48).bind fun v49 h50 =>
      (binR Prog .add 3 a1 (.int .i64 4) h50).bind fun v51 h52 =>
      (buildR Prog 244 [(0, v1), (1, v49), (2, v51), (3, a2), (4, a2)] h52).bind fun v53 h54 =>
      (buildSliceR Prog 86 1 [(0, v53)] h54).bind fun v55 h56 =>
      .ok (.tuple #[v55, (.bool true)]) h56))
theorem swashref06_trimmed_R (k : Nat) (a0 a1 a2 : Value) (h : Heap) : R (T k) F.swashref06_trimmed [a0, a1, a2] h = nrm .fz h (swashref06_trimmed k (R (T k)) a0 a1 a2 h) :=
  (R_body (t := T k) (T_scott k) (by kernel_rfl) _ _).trans (by kernel_rfl)
end
end Go.Sw
