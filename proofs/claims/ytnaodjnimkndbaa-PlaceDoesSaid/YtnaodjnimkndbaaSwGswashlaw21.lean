/-
  The functions of the package swashlaw21. Printed by SwGenMain.
-/
import Derived.Test.YtnaodjnimkndbaaSwCfg
set_option maxRecDepth 100000
set_option linter.unusedVariables false
namespace Go.Sw
noncomputable section
def swashlaw21_PlaceAdds (k : Nat) (call : Caller) (a0 a1 : Value) (h : Heap) : Res Value :=
  (call F.swashlaw21_speaks [] h).bind fun v1 h2 =>
  ((bif wantVal v1 true then Res.ok a1 h2 else Res.ok undef h2)).bind fun v3 h4 =>
  ((bif wantVal v1 true then call F.place_Clamp [v3] h4 else Res.ok undef h4)).bind fun v5 h6 =>
  ((bif wantVal v1 true then convR Prog 21 3 v5 h6 else Res.ok undef h6)).bind fun v7 h8 =>
  ((bif wantVal v1 true then Res.ok a1 h8 else Res.ok undef h8)).bind fun v9 h10 =>
  ((bif wantVal v1 true then call F.swashref21_Clamp [v9] h10 else Res.ok undef h10)).bind fun v11 h12 =>
  ((bif wantVal v1 true then binR Prog .eql 3 v7 v11 h12 else Res.ok undef h12)).bind fun v13 h14 =>
  (condV (some v1) (Res.ok v13 h14) (Res.ok (.bool false) h14)).bind fun v15 h16 =>
  ((bif wantVal v15 true then Res.ok a0 h16 else Res.ok undef h16)).bind fun v17 h18 =>
  ((bif wantVal v15 true then Res.ok a1 h18 else Res.ok undef h18)).bind fun v19 h20 =>
  ((bif wantVal v15 true then call F.place_Add [v17, v19] h20 else Res.ok undef h20)).bind fun v21 h22 =>
  ((bif wantVal v15 true then Res.ok a0 h22 else Res.ok undef h22)).bind fun v23 h24 =>
  ((bif wantVal v15 true then Res.ok a1 h24 else Res.ok undef h24)).bind fun v25 h26 =>
  ((bif wantVal v15 true then call F.swashref21_Add [v23, v25] h26 else Res.ok undef h26)).bind fun v27 h28 =>
  ((bif wantVal v15 true then binR Prog .eql 21 v21 v27 h28 else Res.ok undef h28)).bind fun v29 h30 =>
  (condV (some v15) (Res.ok v29 h30) (Res.ok (.bool false) h30)).bind fun v31 h32 =>
  .ok v31 h32
theorem swashlaw21_PlaceAdds_R (k : Nat) (a0 a1 : Value) (h : Heap) : R (T k) F.swashlaw21_PlaceAdds [a0, a1] h = nrm .gc h (swashlaw21_PlaceAdds k (R (T k)) a0 a1 h) :=
  (R_body (t := T k) (T_scott k) (by kernel_rfl) _ _).trans (by kernel_rfl)
def swashlaw21_PlaceNear (k : Nat) (call : Caller) (a0 a1 a2 : Value) (h : Heap) : Res Value :=
  (call F.swashlaw21_speaks [] h).bind fun v1 h2 =>
  (unR .not v1 h2).bind fun v3 h4 =>
  condV (some v3) (
    .ok (.bool false) h4)
  (
    (call F.place_Clamp [a0] h4).bind fun v5 h6 =>
    (call F.place_Clamp [a1] h6).bind fun v7 h8 =>
    (binR Prog .leq 3 a0 a1 h8).bind fun v9 h10 =>
    ((bif wantVal v9 true then Res.ok v5 h10 else Res.ok undef h10)).bind fun v11 h12 =>
    ((bif wantVal v9 true then Res.ok v7 h12 else Res.ok undef h12)).bind fun v13 h14 =>
    ((bif wantVal v9 true then binR Prog .gtr 21 v11 v13 h14 else Res.ok undef h14)).bind fun v15 h16 =>
    (condV (some v9) (Res.ok v15 h16) (Res.ok (.bool false) h16)).bind fun v17 h18 =>
    ((bif wantVal v17 false then Res.ok a0 h18 else Res.ok undef h18)).bind fun v19 h20 =>
    ((bif wantVal v17 false then Res.ok a1 h20 else Res.ok undef h20)).bind fun v21 h22 =>
    ((bif wantVal v17 false then binR Prog .geq 3 v19 v21 h22 else Res.ok undef h22)).bind fun v23 h24 =>
    ((bif wantVal v17 false then Res.ok v23 h24 else Res.ok undef h24)).bind fun v25 h26 =>
    ((bif wantVal v25 true then Res.ok v5 h26 else Res.ok undef h26)).bind fun v27 h28 =>
    ((bif wantVal v25 true then Res.ok v7 h28 else Res.ok undef h28)).bind fun v29 h30 =>
    ((bif wantVal v25 true then binR Prog .lss 21 v27 v29 h30 else Res.ok undef h30)).bind fun v31 h32 =>
    ((bif wantVal v17 false then condV (some v25) (Res.ok v31 h32) (Res.ok (.bool false) h32) else Res.ok undef h32)).bind fun v33 h34 =>
    (condV (some v17) (Res.ok (.bool true) h34) (Res.ok v33 h34)).bind fun v35 h36 =>
    condV (some v35) (
      .ok (.bool false) h36)
    (
      (convR Prog 21 3 v5 h36).bind fun v37 h38 =>
      (binR Prog .eql 3 v37 a0 h38).bind fun v39 h40 =>
      ((bif wantVal v39 true then Res.ok v7 h40 else Res.ok undef h40)).bind fun v41 h42 =>
      ((bif wantVal v39 true then convR Prog 21 3 v41 h42 else Res.ok undef h42)).bind fun v43 h44 =>
      ((bif wantVal v39 true then Res.ok a1 h44 else Res.ok undef h44)).bind fun v45 h46 =>
      ((bif wantVal v39 true then binR Prog .eql 3 v43 v45 h46 else Res.ok undef h46)).bind fun v47 h48 =>
      (condV (some v39) (Res.ok v47 h48) (Res.ok (.bool false) h48)).bind fun v49 h50 =>
      ((bif wantVal v49 true then Res.ok v5 h50 else Res.ok undef h50)).bind fun v51 h52 =>
      ((bif wantVal v49 true then Res.ok a1 h52 else Res.ok undef h52)).bind fun v53 h54 =>
      ((bif wantVal v49 true then call F.place_Add [v51, v53] h54 else Res.ok undef h54)).bind fun v55 h56 =>
      ((bif wantVal v49 true then Res.ok v7 h56 else Res.ok undef h56)).bind fun v57 h58 =>
      ((bif wantVal v49 true then Res.ok a0 h58 else Res.ok undef h58)).bind fun v59 h60 =>
      ((bif wantVal v49 true then call F.place_Add [v57, v59] h60 else Res.ok undef h60)).bind fun v61 h62 =>
      ((bif wantVal v49 true then binR Prog .neq 21 v55 v61 h62 else Res.ok undef h62)).bind fun v63 h64 =>
      (condV (some v49) (Res.ok v63 h64) (Res.ok (.bool false) h64)).bind fun v65 h66 =>
      condV (some v65) (
        .ok (.bool false) h66)
      (
        (call F.place_Add [a2, (.int .i64 0)] h66).bind fun v67 h68 =>
        (binR Prog .eql 21 v67 a2 h68).bind fun v69 h70 =>
        ((bif wantVal v69 true then Res.ok a1 h70 else Res.ok undef h70)).bind fun v71 h72 =>
        ((bif wantVal v69 true then binR Prog .leq 3 v71 (.int .i64 0) h72 else Res.ok undef h72)).bind fun v73 h74 =>
        ((bif wantVal v69 true then Res.ok v73 h74 else Res.ok undef h74)).bind fun v75 h76 =>
        ((bif wantVal v75 false then Res.ok a2 h76 else Res.ok undef h76)).bind fun v77 h78 =>
        ((bif wantVal v75 false then Res.ok a1 h78 else Res.ok undef h78)).bind fun v79 h80 =>
        ((bif wantVal v75 false then call F.place_Add [v77, v79] h80 else Res.ok undef h80)).bind fun v81 h82 =>
        ((bif wantVal v75 false then Res.ok a2 h82 else Res.ok undef h82)).bind fun v83 h84 =>
        ((bif wantVal v75 false then binR Prog .geq 21 v81 v83 h84 else Res.ok undef h84)).bind fun v85 h86 =>
        ((bif wantVal v69 true then condV (some v75) (Res.ok (.bool true) h86) (Res.ok v85 h86) else Res.ok undef h86)).bind fun v87 h88 =>
        (condV (some v69) (Res.ok v87 h88) (Res.ok (.bool false) h88)).bind fun v89 h90 =>
        ((bif wantVal v89 true then Res.ok a1 h90 else Res.ok undef h90)).bind fun v91 h92 =>
        ((bif wantVal v89 true then binR Prog .geq 3 v91 (.int .i64 0) h92 else Res.ok undef h92)).bind fun v93 h94 =>
        ((bif wantVal v89 true then Res.ok v93 h94 else Res.ok undef h94)).bind fun v95 h96 =>
        ((bif wantVal v95 false then Res.ok a2 h96 else Res.ok undef h96)).bind fun v97 h98 =>
        ((bif wantVal v95 false then Res.ok a1 h98 else Res.ok undef h98)).bind fun v99 h100 =>
        ((bif wantVal v95 false then call F.place_Add [v97, v99] h100 else Res.ok undef h100)).bind fun v101 h102 =>
        ((bif wantVal v95 false then Res.ok a2 h102 else Res.ok undef h102)).bind fun v103 h104 =>
        ((bif wantVal v95 false then binR Prog .leq 21 v101 v103 h104 else Res.ok undef h104)).bind fun v105 h106 =>
        ((bif wantVal v89 true then condV (some v95) (Res.ok (.bool true) h106) (Res.ok v105 h106) else Res.ok undef h106)).bind fun v107 h108 =>
        (condV (some v89) (Res.ok v107 h108) (Res.ok (.bool false) h108)).bind fun v109 h110 =>
        .ok v109 h110)))
theorem swashlaw21_PlaceNear_R (k : Nat) (a0 a1 a2 : Value) (h : Heap) : R (T k) F.swashlaw21_PlaceNear [a0, a1, a2] h = nrm .gc h (swashlaw21_PlaceNear k (R (T k)) a0 a1 a2 h) :=
  (R_body (t := T k) (T_scott k) (by kernel_rfl) _ _).trans (by kernel_rfl)
def swashlaw21_PlaceOwn_l1 (k : Nat) (call : Caller) : Env → Heap → Res (AExit × Env) := loopB (C k) call F.swashlaw21_PlaceOwn [1, 1, 1, 1, 1, 0, 1, 0, 0]
def swashlaw21_PlaceOwn_l1k (k : Nat) (call : Caller) : Kont Value := kBlock 0 (kSeq (pieceK (C k) call F.swashlaw21_PlaceOwn [1, 1, 1, 1, 1, 1]) (kDone Prog (resOf Prog F.swashlaw21_PlaceOwn)))
def swashlaw21_PlaceOwn (k : Nat) (call : Caller) (a0 : Value) (h : Heap) : Res Value :=
  (call F.swashlaw21_speaks [] h).bind fun v1 h2 =>
  (unR .not v1 h2).bind fun v3 h4 =>
  condV (some v3) (
    .ok (.bool false) h4)
  (
    (builtinV Prog .len [28] [a0] h4).bind fun v5 h6 =>
    (binR Prog .gtr 3 v5 (.int .i64 60) h6).bind fun v7 h8 =>
    condV (some v7) (
      .ok (.bool true) h8)
    (
      (call F.place_New [(.int .i64 2), a0] h8).bind fun v9 h10 =>
      (call F.place_Places_All [v9] h10).bind fun v11 h12 =>
      (builtinV Prog .len [31] [v11] h12).bind fun v13 h14 =>
      (loopN (swashlaw21_PlaceOwn_l1 k call) loopFuel [(0, a0), (3, v9), (4, v11), (16, v13), (17, (.int .i64 0))] h14).bind fun r15 h16 =>
      swashlaw21_PlaceOwn_l1k k call r15.1 r15.2 h16))
theorem swashlaw21_PlaceOwn_R (k : Nat) (a0 : Value) (h : Heap) : R (T k) F.swashlaw21_PlaceOwn [a0] h = nrm .gc h (swashlaw21_PlaceOwn k (R (T k)) a0 h) :=
  (R_body (t := T k) (T_scott k) (by kernel_rfl) _ _).trans (by kernel_rfl)
theorem swashlaw21_PlaceOwn_l1_eq (k : Nat) (call : Caller) (a0 a3 a4 a16 a17 : Value) (h : Heap) : swashlaw21_PlaceOwn_l1 k call [(0, a0), (3, a3), (4, a4), (16, a16), (17, a17)] h =
  (binR Prog .lss 3 a17 a16 h).bind fun v17 h18 =>
  condV (some v17) (
    (indexAddrR Prog 31 a4 a17 h18).bind fun v19 h20 =>
    (fieldAddrR Prog 34 v19 1 h20).bind fun v21 h22 =>
    (loadR Prog 21 v21 h22).bind fun v23 h24 =>
    (binR Prog .add 21 v23 (.int .i32 1) h24).bind fun v25 h26 =>
    (indexAddrR Prog 31 a4 a17 h26).bind fun v27 h28 =>
    (fieldAddrR Prog 34 v27 1 h28).bind fun v29 h30 =>
    (storeR Prog 21 v29 v25 h30).bind fun _v31 h32 =>
    (binR Prog .add 3 a17 (.int .i64 1) h32).bind fun v33 h34 =>
    .ok (.normal, [(0, a0), (3, a3), (4, a4), (16, a16), (17, v33)]) h34)
  (
    .ok ((.exit 0), [(0, a0), (3, a3), (4, a4), (16, a16), (17, a17), (18, v17)]) h18) :=
  (loopB_eq _ _).trans (by kernel_rfl)
theorem swashlaw21_PlaceOwn_l1k_x0 (k : Nat) (call : Caller) (a0 a3 a4 a16 a17 a18 : Value) (h : Heap) : swashlaw21_PlaceOwn_l1k k call (.exit 0) [(0, a0), (3, a3), (4, a4), (16, a16), (17, a17), (18, a18)] h =
  (call F.place_Places_All [a3] h).bind fun v35 h36 =>
  (call F.swashref21_New [a0] h36).bind fun v37 h38 =>
  (call F.swashref21_Same [v35, v37] h38).bind fun v39 h40 =>
  .ok v39 h40 := by kernel_rfl
def swashlaw21_PlaceDoes_l1 (k : Nat) (call : Caller) : Env → Heap → Res (AExit × Env) := loopB (C k) call F.swashlaw21_PlaceDoes [1, 1, 1, 1, 1, 0, 1, 0, 0]
def swashlaw21_PlaceDoes_l1k (k : Nat) (call : Caller) : Kont Value := kBlock 0 (kSeq (pieceK (C k) call F.swashlaw21_PlaceDoes [1, 1, 1, 1, 1, 1]) (kDone Prog (resOf Prog F.swashlaw21_PlaceDoes)))
def swashlaw21_PlaceDoes_j1 (k : Nat) (call : Caller) (a7 a8 a9 a29 a30 a31 : Value) (h : Heap) : Res (AExit × Env) :=
  kSeq (pieceK (C k) call F.swashlaw21_PlaceDoes [1, 1, 1, 1, 1, 0, 1, 0, 0, 1, 1, 0, 0, 1, 1]) (kBlock 1 (kSeq (pieceK (C k) call F.swashlaw21_PlaceDoes [1, 1, 1, 1, 1, 0, 1, 0, 0, 1, 1, 1]) (kRound (ownOf (C k) F.swashlaw21_PlaceDoes [1, 1, 1, 1, 1, 0, 1, 0, 0])))) .normal [(7, a7), (8, a8), (9, a9), (29, a29), (30, a30), (31, a31)] h
def swashlaw21_PlaceDoes_j2 (k : Nat) (call : Caller) (a7 a8 a9 a29 a30 a31 a95 : Value) (h : Heap) : Res (AExit × Env) :=
  kSeq (pieceK (C k) call F.swashlaw21_PlaceDoes [1, 1, 1, 1, 1, 0, 1, 0, 0, 1, 1, 0, 0, 1, 1]) (kBlock 1 (kSeq (pieceK (C k) call F.swashlaw21_PlaceDoes [1, 1, 1, 1, 1, 0, 1, 0, 0, 1, 1, 1]) (kRound (ownOf (C k) F.swashlaw21_PlaceDoes [1, 1, 1, 1, 1, 0, 1, 0, 0])))) .normal [(7, a7), (8, a8), (9, a9), (29, a29), (30, a30), (31, a31), (95, a95)] h
def swashlaw21_PlaceDoes (k : Nat) (call : Caller) (a0 a1 a2 : Value) (h : Heap) : Res Value :=
  (call F.swashlaw21_speaks [] h).bind fun v1 h2 =>
  (unR .not v1 h2).bind fun v3 h4 =>
  condV (some v3) (
    .ok (.bool false) h4)
  (
    (builtinV Prog .len [28] [a1] h4).bind fun v5 h6 =>
    (binR Prog .gtr 3 v5 (.int .i64 60) h6).bind fun v7 h8 =>
    ((bif wantVal v7 false then Res.ok a2 h8 else Res.ok undef h8)).bind fun v9 h10 =>
    ((bif wantVal v7 false then builtinV Prog .len [38] [v9] h10 else Res.ok undef h10)).bind fun v11 h12 =>
    ((bif wantVal v7 false then binR Prog .gtr 3 v11 (.int .i64 100) h12 else Res.ok undef h12)).bind fun v13 h14 =>
    (condV (some v7) (Res.ok (.bool true) h14) (Res.ok v13 h14)).bind fun v15 h16 =>
    condV (some v15) (
      .ok (.bool true) h16)
    (
      (call F.place_New [a0, a1] h16).bind fun v17 h18 =>
      (call F.swashref21_New [a1] h18).bind fun v19 h20 =>
      (binR Prog .eql 3 a0 (.int .i64 2) h20).bind fun v21 h22 =>
      (builtinV Prog .len [38] [a2] h22).bind fun v23 h24 =>
      (loopN (swashlaw21_PlaceDoes_l1 k call) loopFuel [(7, v17), (8, v19), (9, v21), (29, a2), (30, v23), (31, (.int .i64 0))] h24).bind fun r25 h26 =>
      swashlaw21_PlaceDoes_l1k k call r25.1 r25.2 h26))
theorem swashlaw21_PlaceDoes_R (k : Nat) (a0 a1 a2 : Value) (h : Heap) : R (T k) F.swashlaw21_PlaceDoes [a0, a1, a2] h = nrm .gc h (swashlaw21_PlaceDoes k (R (T k)) a0 a1 a2 h) :=
  (R_body (t := T k) (T_scott k) (by kernel_rfl) _ _).trans (by kernel_rfl)
theorem swashlaw21_PlaceDoes_l1_eq (k : Nat) (call : Caller) (a7 a8 a9 a29 a30 a31 : Value) (h : Heap) : swashlaw21_PlaceDoes_l1 k call [(7, a7), (8, a8), (9, a9), (29, a29), (30, a30), (31, a31)] h =
  (binR Prog .lss 3 a31 a30 h).bind fun v27 h28 =>
  condV (some v27) (
    (indexAddrR Prog 38 a29 a31 h28).bind fun v29 h30 =>
    (loadR Prog 40 v29 h30).bind fun v31 h32 =>
    (allocR Prog 40 h32).bind fun v33 h34 =>
    (storeR Prog 40 v33 v31 h34).bind fun _v35 h36 =>
    (fieldAddrR Prog 40 v33 0 h36).bind fun v37 h38 =>
    (loadR Prog 3 v37 h38).bind fun v39 h40 =>
    (binR Prog .eql 3 v39 (.int .i64 0) h40).bind fun v41 h42 =>
    condV (some v41) (
      (fieldAddrR Prog 40 v33 1 h42).bind fun v43 h44 =>
      (loadR Prog 3 v43 h44).bind fun v45 h46 =>
      (fieldAddrR Prog 40 v33 2 h46).bind fun v47 h48 =>
      (loadR Prog 3 v47 h48).bind fun v49 h50 =>
      (call F.place_Places_Along [a7, v45, v49] h50).bind fun v51 h52 =>
      (fieldAddrR Prog 40 v33 1 h52).bind fun v53 h54 =>
      (loadR Prog 3 v53 h54).bind fun v55 h56 =>
      (fieldAddrR Prog 40 v33 2 h56).bind fun v57 h58 =>
      (loadR Prog 3 v57 h58).bind fun v59 h60 =>
      (call F.swashref21_More [a8, v55, v59, (.int .i64 0), (.int .i64 0)] h60).bind fun v61 h62 =>
      swashlaw21_PlaceDoes_j1 k call a7 v61 a9 a29 a30 a31 h62)
    (
      (binR Prog .eql 3 v39 (.int .i64 1) h42).bind fun v63 h64 =>
      condV (some v63) (
        (fieldAddrR Prog 40 v33 1 h64).bind fun v65 h66 =>
        (loadR Prog 3 v65 h66).bind fun v67 h68 =>
        (fieldAddrR Prog 40 v33 2 h68).bind fun v69 h70 =>
        (loadR Prog 3 v69 h70).bind fun v71 h72 =>
        (call F.place_Places_Across [a7, v67, v71] h72).bind fun v73 h74 =>
        (fieldAddrR Prog 40 v33 1 h74).bind fun v75 h76 =>
        (loadR Prog 3 v75 h76).bind fun v77 h78 =>
        (fieldAddrR Prog 40 v33 2 h78).bind fun v79 h80 =>
        (loadR Prog 3 v79 h80).bind fun v81 h82 =>
        (call F.swashref21_Across [a8, a9, v77, v81] h82).bind fun v83 h84 =>
        swashlaw21_PlaceDoes_j1 k call a7 v83 a9 a29 a30 a31 h84)
      (
        (binR Prog .eql 3 v39 (.int .i64 2) h64).bind fun v85 h86 =>
        condV (some v85) (
          (fieldAddrR Prog 40 v33 1 h86).bind fun v87 h88 =>
          (loadR Prog 3 v87 h88).bind fun v89 h90 =>
          (call F.place_Places_Level [a7, v89] h90).bind fun v91 h92 =>
          (fieldAddrR Prog 40 v33 1 h92).bind fun v93 h94 =>
          (loadR Prog 3 v93 h94).bind fun v95 h96 =>
          (call F.swashref21_Level [a8, a9, v95] h96).bind fun v97 h98 =>
          swashlaw21_PlaceDoes_j1 k call a7 v97 a9 a29 a30 a31 h98)
        (
          (binR Prog .eql 3 v39 (.int .i64 3) h86).bind fun v99 h100 =>
          condV (some v99) (
            (fieldAddrR Prog 40 v33 1 h100).bind fun v101 h102 =>
            (loadR Prog 3 v101 h102).bind fun v103 h104 =>
            (fieldAddrR Prog 40 v33 2 h104).bind fun v105 h106 =>
            (loadR Prog 3 v105 h106).bind fun v107 h108 =>
            (fieldAddrR Prog 40 v33 3 h108).bind fun v109 h110 =>
            (loadR Prog 3 v109 h110).bind fun v111 h112 =>
            (call F.place_Places_Shift [a7, v103, v107, v111] h112).bind fun v113 h114 =>
            (fieldAddrR Prog 40 v33 1 h114).bind fun v115 h116 =>
            (loadR Prog 3 v115 h116).bind fun v117 h118 =>
            (fieldAddrR Prog 40 v33 2 h118).bind fun v119 h120 =>
            (loadR Prog 3 v119 h120).bind fun v121 h122 =>
            (fieldAddrR Prog 40 v33 3 h122).bind fun v123 h124 =>
            (loadR Prog 3 v123 h124).bind fun v125 h126 =>
            (call F.swashref21_More [a8, v117, (.int .i64 0), v121, v125] h126).bind fun v127 h128 =>
            swashlaw21_PlaceDoes_j1 k call a7 v127 a9 a29 a30 a31 h128)
          (
            (binR Prog .eql 3 v39 (.int .i64 4) h100).bind fun v129 h130 =>
            condV (some v129) (
              (call F.place_Places_Turn [a7] h130).bind fun v131 h132 =>
              (call F.swashref21_Turn [a8] h132).bind fun v133 h134 =>
              swashlaw21_PlaceDoes_j1 k call a7 v133 a9 a29 a30 a31 h134)
            (
              swashlaw21_PlaceDoes_j2 k call a7 a8 a9 a29 a30 a31 v129 h130))))))
  (
    .ok ((.exit 0), [(7, a7), (8, a8), (9, a9), (29, a29), (30, a30), (31, a31), (32, v27)]) h28) :=
  (loopB_eq _ _).trans (by kernel_rfl)
theorem swashlaw21_PlaceDoes_j1_eq (k : Nat) (call : Caller) (a7 a8 a9 a29 a30 a31 : Value) (h : Heap) : swashlaw21_PlaceDoes_j1 k call a7 a8 a9 a29 a30 a31 h =
  (call F.place_Places_All [a7] h).bind fun v135 h136 =>
  (call F.swashref21_Same [v135, a8] h136).bind fun v137 h138 =>
  (unR .not v137 h138).bind fun v139 h140 =>
  condV (some v139) (
    .ok (.ret, [(6, (.bool false))]) h140)
  (
    (binR Prog .add 3 a31 (.int .i64 1) h140).bind fun v141 h142 =>
    .ok (.normal, [(7, a7), (8, a8), (9, a9), (29, a29), (30, a30), (31, v141)]) h142) := by kernel_rfl
theorem swashlaw21_PlaceDoes_j2_eq (k : Nat) (call : Caller) (a7 a8 a9 a29 a30 a31 a95 : Value) (h : Heap) : swashlaw21_PlaceDoes_j2 k call a7 a8 a9 a29 a30 a31 a95 h =
  (call F.place_Places_All [a7] h).bind fun v143 h144 =>
  (call F.swashref21_Same [v143, a8] h144).bind fun v145 h146 =>
  (unR .not v145 h146).bind fun v147 h148 =>
  condV (some v147) (
    .ok (.ret, [(6, (.bool false))]) h148)
  (
    (binR Prog .add 3 a31 (.int .i64 1) h148).bind fun v149 h150 =>
    .ok (.normal, [(7, a7), (8, a8), (9, a9), (29, a29), (30, a30), (31, v149)]) h150) := by kernel_rfl
theorem swashlaw21_PlaceDoes_l1k_x0 (k : Nat) (call : Caller) (a7 a8 a9 a29 a30 a31 a32 : Value) (h : Heap) : swashlaw21_PlaceDoes_l1k k call (.exit 0) [(7, a7), (8, a8), (9, a9), (29, a29), (30, a30), (31, a31), (32, a32)] h =
  (call F.place_Places_All [a7] h).bind fun v151 h152 =>
  (call F.swashref21_Same [v151, a8] h152).bind fun v153 h154 =>
  ((bif wantVal v153 true then Res.ok a7 h154 else Res.ok undef h154)).bind fun v155 h156 =>
  ((bif wantVal v153 true then call F.place_Places_Len [v155] h156 else Res.ok undef h156)).bind fun v157 h158 =>
  ((bif wantVal v153 true then Res.ok a8 h158 else Res.ok undef h158)).bind fun v159 h160 =>
  ((bif wantVal v153 true then builtinV Prog .len [31] [v159] h160 else Res.ok undef h160)).bind fun v161 h162 =>
  ((bif wantVal v153 true then binR Prog .eql 3 v157 v161 h162 else Res.ok undef h162)).bind fun v163 h164 =>
  (condV (some v153) (Res.ok v163 h164) (Res.ok (.bool false) h164)).bind fun v165 h166 =>
  .ok v165 h166 := by kernel_rfl
theorem swashlaw21_PlaceDoes_l1k_r (k : Nat) (call : Caller) (a6 : Value) (h : Heap) : swashlaw21_PlaceDoes_l1k k call .ret [(6, a6)] h =
  .ok a6 h := by kernel_rfl
end
end Go.Sw
