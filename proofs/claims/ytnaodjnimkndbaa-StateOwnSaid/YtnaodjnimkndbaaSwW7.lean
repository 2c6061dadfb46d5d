/-
  Functions' forms, and what is proved of them, part 7.
-/
import Derived.Test.YtnaodjnimkndbaaSwCfg
import Derived.Test.YtnaodjnimkndbaaSwW1
import Derived.Test.YtnaodjnimkndbaaSwLib8
import Derived.Test.YtnaodjnimkndbaaSwW6
import Derived.Test.YtnaodjnimkndbaaSwW2
import Derived.Test.YtnaodjnimkndbaaSwLib9
import Derived.Test.YtnaodjnimkndbaaSwW5
set_option linter.unusedSimpArgs false
set_option linter.unusedVariables false
set_option linter.unusedSectionVars false
section
set_option maxRecDepth 100000
set_option linter.unusedVariables false
namespace Go.Sw
noncomputable section
def swashlaw07_StateOwn_l1 (k : Nat) (call : Caller) : Env → Heap → Res (AExit × Env) := loopB (C k) call F.swashlaw07_StateOwn [1, 1, 1, 1, 1, 1, 1, 0, 1, 0, 0]
def swashlaw07_StateOwn_l1k (k : Nat) (call : Caller) : Kont Value := kBlock 0 (kSeq (pieceK (C k) call F.swashlaw07_StateOwn [1, 1, 1, 1, 1, 1, 1, 1]) (kDone Prog (resOf Prog F.swashlaw07_StateOwn)))
def swashlaw07_StateOwn_l2 (k : Nat) (call : Caller) : Env → Heap → Res (AExit × Env) := loopB (C k) call F.swashlaw07_StateOwn [1, 1, 1, 1, 1, 1, 1, 1, 1, 0, 1, 0, 0]
def swashlaw07_StateOwn_l2k (k : Nat) (call : Caller) : Kont Value := kBlock 2 (kSeq (pieceK (C k) call F.swashlaw07_StateOwn [1, 1, 1, 1, 1, 1, 1, 1, 1, 1]) (kDone Prog (resOf Prog F.swashlaw07_StateOwn)))
def swashlaw07_StateOwn (k : Nat) (call : Caller) (a0 a1 : Value) (h : Heap) : Res Value :=
  (boxR a0 h).bind fun v1 h2 =>
  (call F.swashlaw07_speaks [] h2).bind fun v3 h4 =>
  (unR .not v3 h4).bind fun v5 h6 =>
  condV (some v5) (
    .ok (.bool false) h6)
  (
    (loadR Prog 146 v1 h6).bind fun v7 h8 =>
    (call F.swashlaw07_small [v7] h8).bind fun v9 h10 =>
    (unR .not v9 h10).bind fun v11 h12 =>
    condV (some v11) (
      .ok (.bool true) h12)
    (
      (loadR Prog 146 v1 h12).bind fun v13 h14 =>
      (call F.swashlaw07_Write [v13, (.int .i64 1), (.int .i64 0)] h14).bind fun v15 h16 =>
      (buildSliceR Prog 65 0 [] h16).bind fun v17 h18 =>
      (builtinV Prog .append [65, 65] [v17, v15] h18).bind fun v19 h20 =>
      (call F.state_Read [v19, (.int .i64 30), (.int .i64 1)] h20).bind fun v21 h22 =>
      (extractR v21 0 h22).bind fun v23 h24 =>
      (extractR v21 1 h24).bind fun v25 h26 =>
      (binR Prog .eql 133 v23 (.pointer none) h26).bind fun v27 h28 =>
      condV (some v27) (
        .ok (.bool true) h28)
      (
        (builtinV Prog .len [65] [v19] h28).bind fun v29 h30 =>
        (loopN (swashlaw07_StateOwn_l1 k call) loopFuel [(1, a1), (5, v15), (6, v19), (7, v23), (32, v29), (33, (.int .i64 0))] h30).bind fun r31 h32 =>
        swashlaw07_StateOwn_l1k k call r31.1 r31.2 h32)))
theorem swashlaw07_StateOwn_R (k : Nat) (a0 a1 : Value) (h : Heap) : R (T k) F.swashlaw07_StateOwn [a0, a1] h = nrm .gc h (swashlaw07_StateOwn k (R (T k)) a0 a1 h) :=
  (R_body (t := T k) (T_scott k) (by kernel_rfl) _ _).trans (by kernel_rfl)
theorem swashlaw07_StateOwn_l1_eq (k : Nat) (call : Caller) (a1 a5 a6 a7 a32 a33 : Value) (h : Heap) : swashlaw07_StateOwn_l1 k call [(1, a1), (5, a5), (6, a6), (7, a7), (32, a32), (33, a33)] h =
  (binR Prog .lss 3 a33 a32 h).bind fun v33 h34 =>
  condV (some v33) (
    (indexAddrR Prog 65 a6 a33 h34).bind fun v35 h36 =>
    (storeR Prog 5 v35 a1 h36).bind fun _v37 h38 =>
    (binR Prog .add 3 a33 (.int .i64 1) h38).bind fun v39 h40 =>
    .ok (.normal, [(1, a1), (5, a5), (6, a6), (7, a7), (32, a32), (33, v39)]) h40)
  (
    .ok ((.exit 0), [(1, a1), (5, a5), (6, a6), (7, a7), (32, a32), (33, a33), (34, v33)]) h34) :=
  (loopB_eq _ _).trans (by kernel_rfl)
theorem swashlaw07_StateOwn_l1k_x0 (k : Nat) (call : Caller) (a1 a5 a6 a7 a32 a33 a34 : Value) (h : Heap) : swashlaw07_StateOwn_l1k k call (.exit 0) [(1, a1), (5, a5), (6, a6), (7, a7), (32, a32), (33, a33), (34, a34)] h =
  (call F.state_Machine_Entries [a7] h).bind fun v41 h42 =>
  (builtinV Prog .len [144] [v41] h42).bind fun v43 h44 =>
  (loopN (swashlaw07_StateOwn_l2 k call) loopFuel [(5, a5), (7, a7), (10, v41), (44, v43), (45, (.int .i64 0))] h44).bind fun r45 h46 =>
  swashlaw07_StateOwn_l2k k call r45.1 r45.2 h46 := by kernel_rfl
theorem swashlaw07_StateOwn_l2_eq (k : Nat) (call : Caller) (a5 a7 a10 a44 a45 : Value) (h : Heap) : swashlaw07_StateOwn_l2 k call [(5, a5), (7, a7), (10, a10), (44, a44), (45, a45)] h =
  (binR Prog .lss 3 a45 a44 h).bind fun v47 h48 =>
  condV (some v47) (
    (indexAddrR Prog 144 a10 a45 h48).bind fun v49 h50 =>
    (fieldAddrR Prog 150 v49 0 h50).bind fun v51 h52 =>
    (loadR Prog 3 v51 h52).bind fun v53 h54 =>
    (binR Prog .add 3 v53 (.int .i64 1) h54).bind fun v55 h56 =>
    (indexAddrR Prog 144 a10 a45 h56).bind fun v57 h58 =>
    (fieldAddrR Prog 150 v57 0 h58).bind fun v59 h60 =>
    (storeR Prog 3 v59 v55 h60).bind fun _v61 h62 =>
    (binR Prog .add 3 a45 (.int .i64 1) h62).bind fun v63 h64 =>
    .ok (.normal, [(5, a5), (7, a7), (10, a10), (44, a44), (45, v63)]) h64)
  (
    .ok ((.exit 2), [(5, a5), (7, a7), (10, a10), (44, a44), (45, a45), (46, v47)]) h48) :=
  (loopB_eq _ _).trans (by kernel_rfl)
theorem swashlaw07_StateOwn_l2k_x2 (k : Nat) (call : Caller) (a5 a7 a10 a44 a45 a46 : Value) (h : Heap) : swashlaw07_StateOwn_l2k k call (.exit 2) [(5, a5), (7, a7), (10, a10), (44, a44), (45, a45), (46, a46)] h =
  (call F.swashref07_Read [a5, (.int .i64 30), (.int .i64 1)] h).bind fun v65 h66 =>
  (extractR v65 0 h66).bind fun v67 h68 =>
  (extractR v65 1 h68).bind fun v69 h70 =>
  (allocR Prog 137 h70).bind fun v71 h72 =>
  (storeR Prog 137 v71 v67 h72).bind fun _v73 h74 =>
  ((bif wantVal v69 true then Res.ok a7 h74 else Res.ok undef h74)).bind fun v75 h76 =>
  ((bif wantVal v69 true then loadR Prog 137 v71 h76 else Res.ok undef h76)).bind fun v77 h78 =>
  ((bif wantVal v69 true then call F.swashlaw07_same [v75, v77] h78 else Res.ok undef h78)).bind fun v79 h80 =>
  (condV (some v69) (Res.ok v79 h80) (Res.ok (.bool false) h80)).bind fun v81 h82 =>
  .ok v81 h82 := by kernel_rfl
def swashlaw07_same_l1 (k : Nat) (call : Caller) : Env → Heap → Res (AExit × Env) := loopB (C k) call F.swashlaw07_same [1, 1, 0, 1, 0, 0]
def swashlaw07_same_l1k (k : Nat) (call : Caller) : Kont Value := kBlock 0 (kSeq (pieceK (C k) call F.swashlaw07_same [1, 1, 1]) (kDone Prog (resOf Prog F.swashlaw07_same)))
def swashlaw07_same_l2 (k : Nat) (call : Caller) : Env → Heap → Res (AExit × Env) := loopB (C k) call F.swashlaw07_same [1, 1, 1, 0, 1, 0, 0]
def swashlaw07_same_l2k (k : Nat) (call : Caller) : Kont Value := kBlock 2 (kSeq (pieceK (C k) call F.swashlaw07_same [1, 1, 1, 1]) (kDone Prog (resOf Prog F.swashlaw07_same)))
def swashlaw07_same_l3 (k : Nat) (call : Caller) : Env → Heap → Res (AExit × Env) := loopB (C k) call F.swashlaw07_same [1, 1, 1, 0, 1, 0, 0, 1, 0, 0, 1, 0, 0]
def swashlaw07_same_l3k (k : Nat) (call : Caller) : Kont (AExit × Env) := kBlock 4 (kBlock 3 (kSeq (pieceK (C k) call F.swashlaw07_same [1, 1, 1, 0, 1, 0, 0, 1, 1]) (kRound (ownOf (C k) F.swashlaw07_same [1, 1, 1, 0, 1, 0, 0]))))
def swashlaw07_same (k : Nat) (call : Caller) (a0 a1 : Value) (h : Heap) : Res Value :=
  (boxR a1 h).bind fun v1 h2 =>
  (call F.state_Machine_Classes [a0] h2).bindT (fun p5 h6 => (fieldAddrR Prog 137 v1 1 h2).bindN fun v7 h8 => (loadR Prog 3 v7 h8).bindN fun v9 h10 => chkR ((okVal (loadR Prog 3 v7 h2) v9 && true) && true) (.panic p5 h6)) fun v3 h4 =>
  (fieldAddrR Prog 137 v1 1 h4).bindN fun v11 h12 =>
  (loadR Prog 3 v11 h12).bindN fun v13 h14 =>
  (binR Prog .neq 3 v3 v13 h14).bindN fun v15 h16 =>
  ((bif wantVal v15 false then Res.ok a0 h16 else Res.ok undef h16)).bindN fun v17 h18 =>
  ((bif wantVal v15 false then call F.state_Machine_States [v17] h18 else Res.ok undef h18)).bindT (fun p21 h22 => ((bif wantVal v15 false then fieldAddrR Prog 137 v1 4 h18 else Res.ok undef h18)).bindN fun v23 h24 => ((bif wantVal v15 false then loadR Prog 3 v23 h24 else Res.ok undef h24)).bindN fun v25 h26 => chkR ((okVal (loadR Prog 3 v11 h2) v13 && true) && ((okVal ((bif wantVal v15 false then loadR Prog 3 v23 h4 else Res.ok undef h4)) v25 && true) && true)) (.panic p21 h22)) fun v19 h20 =>
  ((bif wantVal v15 false then fieldAddrR Prog 137 v1 4 h20 else Res.ok undef h20)).bindN fun v27 h28 =>
  ((bif wantVal v15 false then loadR Prog 3 v27 h28 else Res.ok undef h28)).bindN fun v29 h30 =>
  ((bif wantVal v15 false then binR Prog .neq 3 v19 v29 h30 else Res.ok undef h30)).bindN fun v31 h32 =>
  (condV (some v15) (Res.ok (.bool true) h32) (Res.ok v31 h32)).bindN fun v33 h34 =>
  ((bif wantVal v33 false then Res.ok a0 h34 else Res.ok undef h34)).bindN fun v35 h36 =>
  ((bif wantVal v33 false then call F.state_Machine_Entries [v35] h36 else Res.ok undef h36)).bindT (fun p39 h40 => ((bif wantVal v33 false then fieldAddrR Prog 137 v1 5 h36 else Res.ok undef h36)).bindN fun v41 h42 => ((bif wantVal v33 false then loadR Prog 3 v41 h42 else Res.ok undef h42)).bindN fun v43 h44 => chkR ((okVal (loadR Prog 3 v11 h2) v13 && true) && ((okVal ((bif wantVal v15 false then loadR Prog 3 v27 h4 else Res.ok undef h4)) v29 && true) && ((okVal ((bif wantVal v33 false then loadR Prog 3 v41 h20 else Res.ok undef h20)) v43 && true) && true))) (.panic p39 h40)) fun v37 h38 =>
  ((bif wantVal v33 false then builtinV Prog .len [144] [v37] h38 else Res.ok undef h38)).bindN fun v45 h46 =>
  ((bif wantVal v33 false then fieldAddrR Prog 137 v1 5 h46 else Res.ok undef h46)).bindN fun v47 h48 =>
  ((bif wantVal v33 false then loadR Prog 3 v47 h48 else Res.ok undef h48)).bindN fun v49 h50 =>
  ((bif wantVal v33 false then binR Prog .neq 3 v45 v49 h50 else Res.ok undef h50)).bindN fun v51 h52 =>
  (condV (some v33) (Res.ok (.bool true) h52) (Res.ok v51 h52)).bindN fun v53 h54 =>
  chkR ((okVal (loadR Prog 3 v11 h2) v13 && true) && ((okVal ((bif wantVal v15 false then loadR Prog 3 v27 h4 else Res.ok undef h4)) v29 && true) && ((okVal ((bif wantVal v33 false then loadR Prog 3 v47 h20 else Res.ok undef h20)) v49 && true) && true))) (
  condV (some v53) (
    .ok (.bool false) h54)
  (
    (call F.state_Machine_Entries [a0] h54).bind fun v55 h56 =>
    (builtinV Prog .len [144] [v55] h56).bind fun v57 h58 =>
    (loopN (swashlaw07_same_l1 k call) loopFuel [(0, a0), (3, v1), (34, v55), (35, v57), (36, (.int .i64 0))] h58).bind fun r59 h60 =>
    swashlaw07_same_l1k k call r59.1 r59.2 h60))
theorem swashlaw07_same_R (k : Nat) (a0 a1 : Value) (h : Heap) : R (T k) F.swashlaw07_same [a0, a1] h = nrm .gc h (swashlaw07_same k (R (T k)) a0 a1 h) :=
  (R_body (t := T k) (T_scott k) (by kernel_rfl) _ _).trans (by kernel_rfl)
theorem swashlaw07_same_l1_eq (k : Nat) (call : Caller) (a0 a3 a34 a35 a36 : Value) (h : Heap) : swashlaw07_same_l1 k call [(0, a0), (3, a3), (34, a34), (35, a35), (36, a36)] h =
  (binR Prog .lss 3 a36 a35 h).bind fun v61 h62 =>
  condV (some v61) (
    (indexAddrR Prog 144 a34 a36 h62).bind fun v63 h64 =>
    (loadR Prog 150 v63 h64).bind fun v65 h66 =>
    (allocR Prog 150 h66).bind fun v67 h68 =>
    (storeR Prog 150 v67 v65 h68).bind fun _v69 h70 =>
    (loadR Prog 150 v67 h70).bindN fun v71 h72 =>
    (loadR Prog 137 a3 h72).bindN fun v73 h74 =>
    (call F.swashref07_Entry [v73, a36] h74).bindT (fun p77 h78 => .panic p77 h78) fun v75 h76 =>
    (binR Prog .neq 150 v71 v75 h76).bindN fun v79 h80 =>
    chkR ((okVal (loadR Prog 150 v67 h76) v71 && true) && true) (
    condV (some v79) (
      .ok (.ret, [(4, (.bool false))]) h80)
    (
      (binR Prog .add 3 a36 (.int .i64 1) h80).bind fun v81 h82 =>
      .ok (.normal, [(0, a0), (3, a3), (34, a34), (35, a35), (36, v81)]) h82)))
  (
    .ok ((.exit 0), [(0, a0), (3, a3), (34, a34), (35, a35), (36, a36), (37, v61)]) h62) :=
  (loopB_eq _ _).trans (by kernel_rfl)
theorem swashlaw07_same_l1k_x0 (k : Nat) (call : Caller) (a0 a3 a34 a35 a36 a37 : Value) (h : Heap) : swashlaw07_same_l1k k call (.exit 0) [(0, a0), (3, a3), (34, a34), (35, a35), (36, a36), (37, a37)] h =
  (loopN (swashlaw07_same_l2 k call) loopFuel [(0, a0), (3, a3), (7, (.int .i64 (-1)))] h).bind fun r83 h84 =>
  swashlaw07_same_l2k k call r83.1 r83.2 h84 := by kernel_rfl
theorem swashlaw07_same_l2_eq (k : Nat) (call : Caller) (a0 a3 a7 : Value) (h : Heap) : swashlaw07_same_l2 k call [(0, a0), (3, a3), (7, a7)] h =
  (fieldAddrR Prog 137 a3 4 h).bind fun v85 h86 =>
  (loadR Prog 3 v85 h86).bind fun v87 h88 =>
  (binR Prog .leq 3 a7 v87 h88).bind fun v89 h90 =>
  condV (some v89) (
    (loopN (swashlaw07_same_l3 k call) loopFuel [(0, a0), (3, a3), (7, a7), (8, (.int .i64 (-1)))] h90).bind fun r91 h92 =>
    swashlaw07_same_l3k k call r91.1 r91.2 h92)
  (
    .ok ((.exit 2), [(0, a0), (3, a3), (7, a7), (50, v89)]) h90) :=
  (loopB_eq _ _).trans (by kernel_rfl)
theorem swashlaw07_same_l3_eq (k : Nat) (call : Caller) (a0 a3 a7 a8 : Value) (h : Heap) : swashlaw07_same_l3 k call [(0, a0), (3, a3), (7, a7), (8, a8)] h =
  (fieldAddrR Prog 137 a3 1 h).bind fun v93 h94 =>
  (loadR Prog 3 v93 h94).bind fun v95 h96 =>
  (binR Prog .leq 3 a8 v95 h96).bind fun v97 h98 =>
  condV (some v97) (
    (call F.state_Machine_Step [a0, a7, a8] h98).bind fun v99 h100 =>
    (extractR v99 0 h100).bind fun v101 h102 =>
    (extractR v99 1 h102).bind fun v103 h104 =>
    (allocR Prog 150 h104).bind fun v105 h106 =>
    (storeR Prog 150 v105 v101 h106).bind fun _v107 h108 =>
    (loadR Prog 137 a3 h108).bind fun v109 h110 =>
    (call F.swashref07_Step [v109, a7, a8] h110).bind fun v111 h112 =>
    (extractR v111 0 h112).bind fun v113 h114 =>
    (extractR v111 1 h114).bind fun v115 h116 =>
    (allocR Prog 150 h116).bind fun v117 h118 =>
    (storeR Prog 150 v117 v113 h118).bind fun _v119 h120 =>
    (binR Prog .neq 4 v103 v115 h120).bind fun v121 h122 =>
    ((bif wantVal v121 false then loadR Prog 150 v105 h122 else Res.ok undef h122)).bind fun v123 h124 =>
    ((bif wantVal v121 false then loadR Prog 150 v117 h124 else Res.ok undef h124)).bind fun v125 h126 =>
    ((bif wantVal v121 false then binR Prog .neq 150 v123 v125 h126 else Res.ok undef h126)).bind fun v127 h128 =>
    (condV (some v121) (Res.ok (.bool true) h128) (Res.ok v127 h128)).bind fun v129 h130 =>
    condV (some v129) (
      .ok (.ret, [(4, (.bool false))]) h130)
    (
      (binR Prog .add 3 a8 (.int .i64 1) h130).bind fun v131 h132 =>
      .ok (.normal, [(0, a0), (3, a3), (7, a7), (8, v131)]) h132))
  (
    .ok ((.exit 4), [(0, a0), (3, a3), (7, a7), (8, a8), (56, v97)]) h98) :=
  (loopB_eq _ _).trans (by kernel_rfl)
theorem swashlaw07_same_l2k_x2 (k : Nat) (call : Caller) (a0 a3 a7 a50 : Value) (h : Heap) : swashlaw07_same_l2k k call (.exit 2) [(0, a0), (3, a3), (7, a7), (50, a50)] h =
  .ok (.bool true) h := by kernel_rfl
theorem swashlaw07_same_l3k_x4 (k : Nat) (call : Caller) (a0 a3 a7 a8 a56 : Value) (h : Heap) : swashlaw07_same_l3k k call (.exit 4) [(0, a0), (3, a3), (7, a7), (8, a8), (56, a56)] h =
  (binR Prog .add 3 a7 (.int .i64 1) h).bind fun v133 h134 =>
  .ok (.normal, [(0, a0), (3, a3), (7, v133)]) h134 := by kernel_rfl
def swashlaw07_small (k : Nat) (call : Caller) (a0 : Value) (h : Heap) : Res Value :=
  (boxR a0 h).bind fun v1 h2 =>
  (fieldAddrR Prog 146 v1 0 h2).bind fun v3 h4 =>
  (loadR Prog 65 v3 h4).bind fun v5 h6 =>
  (builtinV Prog .len [65] [v5] h6).bind fun v7 h8 =>
  (binR Prog .leq 3 v7 (.int .i64 40) h8).bind fun v9 h10 =>
  ((bif wantVal v9 true then fieldAddrR Prog 146 v1 1 h10 else Res.ok undef h10)).bind fun v11 h12 =>
  ((bif wantVal v9 true then loadR Prog 143 v11 h12 else Res.ok undef h12)).bind fun v13 h14 =>
  ((bif wantVal v9 true then builtinV Prog .len [143] [v13] h14 else Res.ok undef h14)).bind fun v15 h16 =>
  ((bif wantVal v9 true then binR Prog .leq 3 v15 (.int .i64 20) h16 else Res.ok undef h16)).bind fun v17 h18 =>
  (condV (some v9) (Res.ok v17 h18) (Res.ok (.bool false) h18)).bind fun v19 h20 =>
  ((bif wantVal v19 true then fieldAddrR Prog 146 v1 2 h20 else Res.ok undef h20)).bind fun v21 h22 =>
  ((bif wantVal v19 true then loadR Prog 144 v21 h22 else Res.ok undef h22)).bind fun v23 h24 =>
  ((bif wantVal v19 true then builtinV Prog .len [144] [v23] h24 else Res.ok undef h24)).bind fun v25 h26 =>
  ((bif wantVal v19 true then binR Prog .leq 3 v25 (.int .i64 40) h26 else Res.ok undef h26)).bind fun v27 h28 =>
  (condV (some v19) (Res.ok v27 h28) (Res.ok (.bool false) h28)).bind fun v29 h30 =>
  .ok v29 h30
theorem swashlaw07_small_R (k : Nat) (a0 : Value) (h : Heap) : R (T k) F.swashlaw07_small [a0] h = nrm .gc h (swashlaw07_small k (R (T k)) a0 h) :=
  (R_body (t := T k) (T_scott k) (by kernel_rfl) _ _).trans (by kernel_rfl)
def swashlaw07_Write_l1 (k : Nat) (call : Caller) : Env → Heap → Res (AExit × Env) := loopB (C k) call F.swashlaw07_Write [1, 1, 1, 1, 0, 1, 0, 0]
def swashlaw07_Write_l1k (k : Nat) (call : Caller) : Kont Value := kBlock 0 (kSeq (pieceK (C k) call F.swashlaw07_Write [1, 1, 1, 1, 1]) (kDone Prog (resOf Prog F.swashlaw07_Write)))
def swashlaw07_Write_l2 (k : Nat) (call : Caller) : Env → Heap → Res (AExit × Env) := loopB (C k) call F.swashlaw07_Write [1, 1, 1, 1, 1, 1, 0, 1, 0, 0]
def swashlaw07_Write_l2k (k : Nat) (call : Caller) : Kont Value := kBlock 2 (kSeq (pieceK (C k) call F.swashlaw07_Write [1, 1, 1, 1, 1, 1, 1]) (kDone Prog (resOf Prog F.swashlaw07_Write)))
def swashlaw07_Write_l3 (k : Nat) (call : Caller) : Env → Heap → Res (AExit × Env) := loopB (C k) call F.swashlaw07_Write [1, 1, 1, 1, 1, 1, 0, 1, 0, 0, 1, 1, 0, 0, 1, 1, 0, 0]
def swashlaw07_Write_l3k (k : Nat) (call : Caller) : Kont (AExit × Env) := kBlock 4 (kBlock 3 (kSeq (pieceK (C k) call F.swashlaw07_Write [1, 1, 1, 1, 1, 1, 0, 1, 0, 0, 1, 1, 1]) (kRound (ownOf (C k) F.swashlaw07_Write [1, 1, 1, 1, 1, 1, 0, 1, 0, 0]))))
def swashlaw07_Write_j1 (k : Nat) (call : Caller) (a1 a2 a3 a7 a8 a9 a12 a13 a15 a17 a47 a48 a49 a53 a54 : Value) (h : Heap) : Res (AExit × Env) :=
  kSeq (pieceK (C k) call F.swashlaw07_Write [1, 1, 1, 1, 1, 1, 0, 1, 0, 0, 1, 1, 0, 0, 1, 1, 0, 0, 1, 1, 0, 0, 1, 1, 1]) (kBlock 5 (kSeq (pieceK (C k) call F.swashlaw07_Write [1, 1, 1, 1, 1, 1, 0, 1, 0, 0, 1, 1, 0, 0, 1, 1, 0, 0, 1, 1, 1]) (kRound (ownOf (C k) F.swashlaw07_Write [1, 1, 1, 1, 1, 1, 0, 1, 0, 0, 1, 1, 0, 0, 1, 1, 0, 0])))) .normal [(1, a1), (2, a2), (3, a3), (7, a7), (8, a8), (9, a9), (12, a12), (13, a13), (15, a15), (17, a17), (47, a47), (48, a48), (49, a49), (53, a53), (54, a54)] h
def swashlaw07_Write_j2 (k : Nat) (call : Caller) (a1 a2 a3 a7 a8 a9 a12 a13 a15 a16 a17 a47 a48 a49 a53 a54 a60 : Value) (h : Heap) : Res (AExit × Env) :=
  kSeq (pieceK (C k) call F.swashlaw07_Write [1, 1, 1, 1, 1, 1, 0, 1, 0, 0, 1, 1, 0, 0, 1, 1, 0, 0, 1, 1, 0, 0, 1, 1, 1]) (kBlock 5 (kSeq (pieceK (C k) call F.swashlaw07_Write [1, 1, 1, 1, 1, 1, 0, 1, 0, 0, 1, 1, 0, 0, 1, 1, 0, 0, 1, 1, 1]) (kRound (ownOf (C k) F.swashlaw07_Write [1, 1, 1, 1, 1, 1, 0, 1, 0, 0, 1, 1, 0, 0, 1, 1, 0, 0])))) .normal [(1, a1), (2, a2), (3, a3), (7, a7), (8, a8), (9, a9), (12, a12), (13, a13), (15, a15), (16, a16), (17, a17), (47, a47), (48, a48), (49, a49), (53, a53), (54, a54), (60, a60)] h
def swashlaw07_Write_l4 (k : Nat) (call : Caller) : Env → Heap → Res (AExit × Env) := loopB (C k) call F.swashlaw07_Write [1, 1, 1, 1, 1, 1, 1, 0, 1, 0, 0]
def swashlaw07_Write_l4k (k : Nat) (call : Caller) : Kont Value := kBlock 6 (kSeq (pieceK (C k) call F.swashlaw07_Write [1, 1, 1, 1, 1, 1, 1, 1]) (kDone Prog (resOf Prog F.swashlaw07_Write)))
def swashlaw07_Write_j3 (k : Nat) (call : Caller) (a1 a2 a7 a8 a9 a12 a13 a19 a72 a73 a74 : Value) (h : Heap) : Res (AExit × Env) :=
  kSeq (pieceK (C k) call F.swashlaw07_Write [1, 1, 1, 1, 1, 1, 1, 0, 1, 0, 0, 1, 1, 0, 0, 1, 1, 1]) (kBlock 7 (kSeq (pieceK (C k) call F.swashlaw07_Write [1, 1, 1, 1, 1, 1, 1, 0, 1, 0, 0, 1, 1, 1]) (kRound (ownOf (C k) F.swashlaw07_Write [1, 1, 1, 1, 1, 1, 1, 0, 1, 0, 0])))) .normal [(1, a1), (2, a2), (7, a7), (8, a8), (9, a9), (12, a12), (13, a13), (19, a19), (72, a72), (73, a73), (74, a74)] h
def swashlaw07_Write_j4 (k : Nat) (call : Caller) (a1 a2 a7 a8 a9 a12 a13 a19 a72 a73 a74 a88 : Value) (h : Heap) : Res (AExit × Env) :=
  kSeq (pieceK (C k) call F.swashlaw07_Write [1, 1, 1, 1, 1, 1, 1, 0, 1, 0, 0, 1, 1, 0, 0, 1, 1, 1]) (kBlock 7 (kSeq (pieceK (C k) call F.swashlaw07_Write [1, 1, 1, 1, 1, 1, 1, 0, 1, 0, 0, 1, 1, 1]) (kRound (ownOf (C k) F.swashlaw07_Write [1, 1, 1, 1, 1, 1, 1, 0, 1, 0, 0])))) .normal [(1, a1), (2, a2), (7, a7), (8, a8), (9, a9), (12, a12), (13, a13), (19, a19), (72, a72), (73, a73), (74, a74), (88, a88)] h
def swashlaw07_Write_j5 (k : Nat) (call : Caller) (a1 a2 a7 a8 a9 a12 a13 a72 a73 a74 : Value) (h : Heap) : Res (AExit × Env) :=
  kSeq (pieceK (C k) call F.swashlaw07_Write [1, 1, 1, 1, 1, 1, 1, 0, 1, 0, 0, 1, 1, 1]) (kRound (ownOf (C k) F.swashlaw07_Write [1, 1, 1, 1, 1, 1, 1, 0, 1, 0, 0])) .normal [(1, a1), (2, a2), (7, a7), (8, a8), (9, a9), (12, a12), (13, a13), (72, a72), (73, a73), (74, a74)] h
def swashlaw07_Write_j6 (k : Nat) (call : Caller) (a1 a2 a7 a8 a9 a12 a13 a19 a72 a73 a74 a95 : Value) (h : Heap) : Res (AExit × Env) :=
  kSeq (pieceK (C k) call F.swashlaw07_Write [1, 1, 1, 1, 1, 1, 1, 0, 1, 0, 0, 1, 1, 1]) (kRound (ownOf (C k) F.swashlaw07_Write [1, 1, 1, 1, 1, 1, 1, 0, 1, 0, 0])) .normal [(1, a1), (2, a2), (7, a7), (8, a8), (9, a9), (12, a12), (13, a13), (19, a19), (72, a72), (73, a73), (74, a74), (95, a95)] h
def swashlaw07_Write (k : Nat) (call : Caller) (a0 a1 a2 : Value) (h : Heap) : Res Value :=
  (boxR a0 h).bind fun v1 h2 =>
  (fieldAddrR Prog 146 v1 3 h2).bind fun v3 h4 =>
  (loadR Prog 5 v3 h4).bind fun v5 h6 =>
  (convR Prog 5 3 v5 h6).bind fun v7 h8 =>
  (binR Prog .rem 3 v7 (.int .i64 8) h8).bind fun v9 h10 =>
  (binR Prog .add 3 (.int .i64 4) v9 h10).bind fun v11 h12 =>
  (binR Prog .add 3 (.int .i64 16) a2 h12).bind fun v13 h14 =>
  (call F.swashref02_Put [(.slice none 0 0), (.int .i64 8), (.int .i64 2)] h14).bindT (fun p17 h18 => (fieldAddrR Prog 146 v1 0 h14).bindN fun v19 h20 => (loadR Prog 65 v19 h20).bindN fun v21 h22 => (builtinV Prog .len [65] [v21] h22).bindN fun v23 h24 => chkR ((okVal (loadR Prog 65 v19 h14) v21 && true) && true) (.panic p17 h18)) fun v15 h16 =>
  (call F.swashref02_Put [v15, (.int .i64 0), (.int .i64 2)] h16).bindT (fun p27 h28 => (fieldAddrR Prog 146 v1 0 h16).bindN fun v29 h30 => (loadR Prog 65 v29 h30).bindN fun v31 h32 => (builtinV Prog .len [65] [v31] h32).bindN fun v33 h34 => chkR ((okVal (loadR Prog 65 v29 h14) v31 && (okVal (loadR Prog 65 v29 h16) v31 && true)) && true) (.panic p27 h28)) fun v25 h26 =>
  (fieldAddrR Prog 146 v1 0 h26).bindN fun v35 h36 =>
  (loadR Prog 65 v35 h36).bindN fun v37 h38 =>
  (builtinV Prog .len [65] [v37] h38).bindN fun v39 h40 =>
  (call F.swashref02_Put [v25, v39, (.int .i64 2)] h40).bindT (fun p43 h44 => chkR ((okVal (loadR Prog 65 v35 h14) v37 && (okVal (loadR Prog 65 v35 h16) v37 && true)) && true) (.panic p43 h44)) fun v41 h42 =>
  chkR ((okVal (loadR Prog 65 v35 h14) v37 && (okVal (loadR Prog 65 v35 h16) v37 && true)) && true) (
  (fieldAddrR Prog 146 v1 0 h42).bind fun v45 h46 =>
  (loadR Prog 65 v45 h46).bind fun v47 h48 =>
  (builtinV Prog .len [65] [v47] h48).bind fun v49 h50 =>
  (loopN (swashlaw07_Write_l1 k call) loopFuel [(1, a1), (2, a2), (3, v1), (7, v11), (8, v13), (9, v41), (35, v47), (36, v49), (37, (.int .i64 0))] h50).bind fun r51 h52 =>
  swashlaw07_Write_l1k k call r51.1 r51.2 h52)
theorem swashlaw07_Write_R (k : Nat) (a0 a1 a2 : Value) (h : Heap) : R (T k) F.swashlaw07_Write [a0, a1, a2] h = nrm .fz h (swashlaw07_Write k (R (T k)) a0 a1 a2 h) :=
  (R_body (t := T k) (T_scott k) (by kernel_rfl) _ _).trans (by kernel_rfl)
theorem swashlaw07_Write_l1_eq (k : Nat) (call : Caller) (a1 a2 a3 a7 a8 a9 a35 a36 a37 : Value) (h : Heap) : swashlaw07_Write_l1 k call [(1, a1), (2, a2), (3, a3), (7, a7), (8, a8), (9, a9), (35, a35), (36, a36), (37, a37)] h =
  (binR Prog .lss 3 a37 a36 h).bind fun v53 h54 =>
  condV (some v53) (
    (indexAddrR Prog 65 a35 a37 h54).bind fun v55 h56 =>
    (loadR Prog 5 v55 h56).bind fun v57 h58 =>
    (convR Prog 5 3 v57 h58).bind fun v59 h60 =>
    (call F.swashref02_Put [a9, v59, (.int .i64 2)] h60).bind fun v61 h62 =>
    (binR Prog .add 3 a37 (.int .i64 1) h62).bind fun v63 h64 =>
    .ok (.normal, [(1, a1), (2, a2), (3, a3), (7, a7), (8, a8), (9, v61), (35, a35), (36, a36), (37, v63)]) h64)
  (
    .ok ((.exit 0), [(1, a1), (2, a2), (3, a3), (7, a7), (8, a8), (9, a9), (35, a35), (36, a36), (37, a37), (38, v53)]) h54) :=
  (loopB_eq _ _).trans (by kernel_rfl)
theorem swashlaw07_Write_l1k_x0 (k : Nat) (call : Caller) (a1 a2 a3 a7 a8 a9 a35 a36 a37 a38 : Value) (h : Heap) : swashlaw07_Write_l1k k call (.exit 0) [(1, a1), (2, a2), (3, a3), (7, a7), (8, a8), (9, a9), (35, a35), (36, a36), (37, a37), (38, a38)] h =
  (fieldAddrR Prog 146 a3 1 h).bind fun v65 h66 =>
  (loadR Prog 143 v65 h66).bind fun v67 h68 =>
  (builtinV Prog .len [143] [v67] h68).bind fun v69 h70 =>
  (loopN (swashlaw07_Write_l2 k call) loopFuel [(1, a1), (2, a2), (3, a3), (7, a7), (8, a8), (9, a9), (12, (.slice none 0 0)), (13, (.slice none 0 0)), (47, v67), (48, v69), (49, (.int .i64 0))] h70).bind fun r71 h72 =>
  swashlaw07_Write_l2k k call r71.1 r71.2 h72 := by kernel_rfl
theorem swashlaw07_Write_l2_eq (k : Nat) (call : Caller) (a1 a2 a3 a7 a8 a9 a12 a13 a47 a48 a49 : Value) (h : Heap) : swashlaw07_Write_l2 k call [(1, a1), (2, a2), (3, a3), (7, a7), (8, a8), (9, a9), (12, a12), (13, a13), (47, a47), (48, a48), (49, a49)] h =
  (binR Prog .lss 3 a49 a48 h).bind fun v73 h74 =>
  condV (some v73) (
    (indexAddrR Prog 143 a47 a49 h74).bind fun v75 h76 =>
    (loadR Prog 65 v75 h76).bind fun v77 h78 =>
    (loopN (swashlaw07_Write_l3 k call) loopFuel [(1, a1), (2, a2), (3, a3), (7, a7), (8, a8), (9, a9), (12, a12), (13, a13), (15, v77), (47, a47), (48, a48), (49, a49), (53, a7), (54, (.int .i64 0))] h78).bind fun r79 h80 =>
    swashlaw07_Write_l3k k call r79.1 r79.2 h80)
  (
    .ok ((.exit 2), [(1, a1), (2, a2), (3, a3), (7, a7), (8, a8), (9, a9), (12, a12), (13, a13), (47, a47), (48, a48), (49, a49), (50, v73)]) h74) :=
  (loopB_eq _ _).trans (by kernel_rfl)
theorem swashlaw07_Write_l3_eq (k : Nat) (call : Caller) (a1 a2 a3 a7 a8 a9 a12 a13 a15 a47 a48 a49 a53 a54 : Value) (h : Heap) : swashlaw07_Write_l3 k call [(1, a1), (2, a2), (3, a3), (7, a7), (8, a8), (9, a9), (12, a12), (13, a13), (15, a15), (47, a47), (48, a48), (49, a49), (53, a53), (54, a54)] h =
  (binR Prog .lss 3 a54 a53 h).bind fun v81 h82 =>
  condV (some v81) (
    (builtinV Prog .len [65] [a15] h82).bind fun v83 h84 =>
    (binR Prog .lss 3 a54 v83 h84).bind fun v85 h86 =>
    condV (some v85) (
      (indexAddrR Prog 65 a15 a54 h86).bind fun v87 h88 =>
      (loadR Prog 5 v87 h88).bind fun v89 h90 =>
      (convR Prog 5 3 v89 h90).bind fun v91 h92 =>
      swashlaw07_Write_j1 k call a1 a2 a3 a7 a8 a9 a12 a13 a15 v91 a47 a48 a49 a53 a54 h92)
    (
      swashlaw07_Write_j2 k call a1 a2 a3 a7 a8 a9 a12 a13 a15 a54 (.int .i64 0) a47 a48 a49 a53 a54 v85 h86))
  (
    .ok ((.exit 4), [(1, a1), (2, a2), (3, a3), (7, a7), (8, a8), (9, a9), (12, a12), (13, a13), (15, a15), (47, a47), (48, a48), (49, a49), (53, a53), (54, a54), (55, v81)]) h82) :=
  (loopB_eq _ _).trans (by kernel_rfl)
theorem swashlaw07_Write_j1_eq (k : Nat) (call : Caller) (a1 a2 a3 a7 a8 a9 a12 a13 a15 a17 a47 a48 a49 a53 a54 : Value) (h : Heap) : swashlaw07_Write_j1 k call a1 a2 a3 a7 a8 a9 a12 a13 a15 a17 a47 a48 a49 a53 a54 h =
  (call F.swashref02_Put [a12, a17, (.int .i64 2)] h).bind fun v93 h94 =>
  (binR Prog .add 3 a54 (.int .i64 1) h94).bind fun v95 h96 =>
  .ok (.normal, [(1, a1), (2, a2), (3, a3), (7, a7), (8, a8), (9, a9), (12, v93), (13, a13), (15, a15), (47, a47), (48, a48), (49, a49), (53, a53), (54, v95)]) h96 := by kernel_rfl
theorem swashlaw07_Write_j2_eq (k : Nat) (call : Caller) (a1 a2 a3 a7 a8 a9 a12 a13 a15 a16 a17 a47 a48 a49 a53 a54 a60 : Value) (h : Heap) : swashlaw07_Write_j2 k call a1 a2 a3 a7 a8 a9 a12 a13 a15 a16 a17 a47 a48 a49 a53 a54 a60 h =
  (call F.swashref02_Put [a12, a17, (.int .i64 2)] h).bind fun v97 h98 =>
  (binR Prog .add 3 a54 (.int .i64 1) h98).bind fun v99 h100 =>
  .ok (.normal, [(1, a1), (2, a2), (3, a3), (7, a7), (8, a8), (9, a9), (12, v97), (13, a13), (15, a15), (47, a47), (48, a48), (49, a49), (53, a53), (54, v99)]) h100 := by kernel_rfl
theorem swashlaw07_Write_l2k_x2 (k : Nat) (call : Caller) (a1 a2 a3 a7 a8 a9 a12 a13 a47 a48 a49 a50 : Value) (h : Heap) : swashlaw07_Write_l2k k call (.exit 2) [(1, a1), (2, a2), (3, a3), (7, a7), (8, a8), (9, a9), (12, a12), (13, a13), (47, a47), (48, a48), (49, a49), (50, a50)] h =
  (fieldAddrR Prog 146 a3 2 h).bind fun v101 h102 =>
  (loadR Prog 144 v101 h102).bind fun v103 h104 =>
  (builtinV Prog .len [144] [v103] h104).bind fun v105 h106 =>
  (loopN (swashlaw07_Write_l4 k call) loopFuel [(1, a1), (2, a2), (7, a7), (8, a8), (9, a9), (12, a12), (13, a13), (72, v103), (73, v105), (74, (.int .i64 0))] h106).bind fun r107 h108 =>
  swashlaw07_Write_l4k k call r107.1 r107.2 h108 := by kernel_rfl
theorem swashlaw07_Write_l4_eq (k : Nat) (call : Caller) (a1 a2 a7 a8 a9 a12 a13 a72 a73 a74 : Value) (h : Heap) : swashlaw07_Write_l4 k call [(1, a1), (2, a2), (7, a7), (8, a8), (9, a9), (12, a12), (13, a13), (72, a72), (73, a73), (74, a74)] h =
  (binR Prog .lss 3 a74 a73 h).bind fun v109 h110 =>
  condV (some v109) (
    (indexAddrR Prog 144 a72 a74 h110).bind fun v111 h112 =>
    (loadR Prog 150 v111 h112).bind fun v113 h114 =>
    (allocR Prog 150 h114).bind fun v115 h116 =>
    (storeR Prog 150 v115 v113 h116).bind fun _v117 h118 =>
    (fieldAddrR Prog 150 v115 0 h118).bindN fun v119 h120 =>
    (loadR Prog 3 v119 h120).bindN fun v121 h122 =>
    (binR Prog .and 3 v121 (.int .i64 65535) h122).bindN fun v123 h124 =>
    (call F.swashref02_Put [a13, v123, (.int .i64 2)] h124).bindT (fun p127 h128 => (fieldAddrR Prog 150 v115 1 h124).bindN fun v129 h130 => (loadR Prog 3 v129 h130).bindN fun v131 h132 => (binR Prog .and 3 v131 (.int .i64 65535) h132).bindN fun v133 h134 => chkR ((okVal (loadR Prog 3 v129 h118) v131 && true) && true) (.panic p127 h128)) fun v125 h126 =>
    (fieldAddrR Prog 150 v115 1 h126).bindN fun v135 h136 =>
    (loadR Prog 3 v135 h136).bindN fun v137 h138 =>
    (binR Prog .and 3 v137 (.int .i64 65535) h138).bindN fun v139 h140 =>
    (call F.swashref02_Put [v125, v139, (.int .i64 2)] h140).bindT (fun p143 h144 => chkR ((okVal (loadR Prog 3 v135 h118) v137 && true) && true) (.panic p143 h144)) fun v141 h142 =>
    chkR ((okVal (loadR Prog 3 v135 h118) v137 && true) && true) (
    (binR Prog .gtr 3 a1 (.int .i64 0) h142).bind fun v145 h146 =>
    condV (some v145) (
      (fieldAddrR Prog 150 v115 2 h146).bind fun v147 h148 =>
      (loadR Prog 3 v147 h148).bind fun v149 h150 =>
      (binR Prog .and 3 v149 (.int .i64 65535) h150).bind fun v151 h152 =>
      (call F.swashref02_Put [v141, v151, (.int .i64 2)] h152).bind fun v153 h154 =>
      swashlaw07_Write_j3 k call a1 a2 a7 a8 a9 a12 v153 v115 a72 a73 a74 h154)
    (
      swashlaw07_Write_j4 k call a1 a2 a7 a8 a9 a12 v141 v115 a72 a73 a74 v145 h146)))
  (
    .ok ((.exit 6), [(1, a1), (2, a2), (7, a7), (8, a8), (9, a9), (12, a12), (13, a13), (72, a72), (73, a73), (74, a74), (75, v109)]) h110) :=
  (loopB_eq _ _).trans (by kernel_rfl)
theorem swashlaw07_Write_j3_eq (k : Nat) (call : Caller) (a1 a2 a7 a8 a9 a12 a13 a19 a72 a73 a74 : Value) (h : Heap) : swashlaw07_Write_j3 k call a1 a2 a7 a8 a9 a12 a13 a19 a72 a73 a74 h =
  (binR Prog .gtr 3 a1 (.int .i64 1) h).bind fun v155 h156 =>
  condV (some v155) (
    (fieldAddrR Prog 150 a19 3 h156).bind fun v157 h158 =>
    (loadR Prog 3 v157 h158).bind fun v159 h160 =>
    (binR Prog .and 3 v159 (.int .i64 65535) h160).bind fun v161 h162 =>
    (call F.swashref02_Put [a13, v161, (.int .i64 2)] h162).bind fun v163 h164 =>
    swashlaw07_Write_j5 k call a1 a2 a7 a8 a9 a12 v163 a72 a73 a74 h164)
  (
    swashlaw07_Write_j6 k call a1 a2 a7 a8 a9 a12 a13 a19 a72 a73 a74 v155 h156) := by kernel_rfl
theorem swashlaw07_Write_j4_eq (k : Nat) (call : Caller) (a1 a2 a7 a8 a9 a12 a13 a19 a72 a73 a74 a88 : Value) (h : Heap) : swashlaw07_Write_j4 k call a1 a2 a7 a8 a9 a12 a13 a19 a72 a73 a74 a88 h =
  (binR Prog .gtr 3 a1 (.int .i64 1) h).bind fun v165 h166 =>
  condV (some v165) (
    (fieldAddrR Prog 150 a19 3 h166).bind fun v167 h168 =>
    (loadR Prog 3 v167 h168).bind fun v169 h170 =>
    (binR Prog .and 3 v169 (.int .i64 65535) h170).bind fun v171 h172 =>
    (call F.swashref02_Put [a13, v171, (.int .i64 2)] h172).bind fun v173 h174 =>
    swashlaw07_Write_j5 k call a1 a2 a7 a8 a9 a12 v173 a72 a73 a74 h174)
  (
    swashlaw07_Write_j6 k call a1 a2 a7 a8 a9 a12 a13 a19 a72 a73 a74 v165 h166) := by kernel_rfl
theorem swashlaw07_Write_j5_eq (k : Nat) (call : Caller) (a1 a2 a7 a8 a9 a12 a13 a72 a73 a74 : Value) (h : Heap) : swashlaw07_Write_j5 k call a1 a2 a7 a8 a9 a12 a13 a72 a73 a74 h =
  (binR Prog .add 3 a74 (.int .i64 1) h).bind fun v175 h176 =>
  .ok (.normal, [(1, a1), (2, a2), (7, a7), (8, a8), (9, a9), (12, a12), (13, a13), (72, a72), (73, a73), (74, v175)]) h176 := by kernel_rfl
theorem swashlaw07_Write_j6_eq (k : Nat) (call : Caller) (a1 a2 a7 a8 a9 a12 a13 a19 a72 a73 a74 a95 : Value) (h : Heap) : swashlaw07_Write_j6 k call a1 a2 a7 a8 a9 a12 a13 a19 a72 a73 a74 a95 h =
  (binR Prog .add 3 a74 (.int .i64 1) h).bind fun v177 h178 =>
  .ok (.normal, [(1, a1), (2, a2), (7, a7), (8, a8), (9, a9), (12, a12), (13, a13), (72, a72), (73, a73), (74, v177)]) h178 := by kernel_rfl
theorem swashlaw07_Write_l3k_x4 (k : Nat) (call : Caller) (a1 a2 a3 a7 a8 a9 a12 a13 a15 a47 a48 a49 a53 a54 a55 : Value) (h : Heap) : swashlaw07_Write_l3k k call (.exit 4) [(1, a1), (2, a2), (3, a3), (7, a7), (8, a8), (9, a9), (12, a12), (13, a13), (15, a15), (47, a47), (48, a48), (49, a49), (53, a53), (54, a54), (55, a55)] h =
  (binR Prog .add 3 a49 (.int .i64 1) h).bind fun v179 h180 =>
  .ok (.normal, [(1, a1), (2, a2), (3, a3), (7, a7), (8, a8), (9, a9), (12, a12), (13, a13), (47, a47), (48, a48), (49, v179)]) h180 := by kernel_rfl
theorem swashlaw07_Write_l4k_x6 (k : Nat) (call : Caller) (a1 a2 a7 a8 a9 a12 a13 a72 a73 a74 a75 : Value) (h : Heap) : swashlaw07_Write_l4k k call (.exit 6) [(1, a1), (2, a2), (7, a7), (8, a8), (9, a9), (12, a12), (13, a13), (72, a72), (73, a73), (74, a74), (75, a75)] h =
  (call F.swashref02_Put [(.slice none 0 0), a7, (.int .i64 4)] h).bind fun v181 h182 =>
  (call F.swashref02_Put [v181, a8, (.int .i64 4)] h182).bind fun v183 h184 =>
  (builtinV Prog .len [65] [a9] h184).bind fun v185 h186 =>
  (binR Prog .add 3 a8 v185 h186).bind fun v187 h188 =>
  (call F.swashref02_Put [v183, v187, (.int .i64 4)] h188).bind fun v189 h190 =>
  (builtinV Prog .len [65] [a9] h190).bind fun v191 h192 =>
  (binR Prog .add 3 a8 v191 h192).bind fun v193 h194 =>
  (builtinV Prog .len [65] [a12] h194).bind fun v195 h196 =>
  (binR Prog .add 3 v193 v195 h196).bind fun v197 h198 =>
  (call F.swashref02_Put [v189, v197, (.int .i64 4)] h198).bind fun v199 h200 =>
  (builtinV Prog .append [65, 3] [v199, a2] h200).bind fun v201 h202 =>
  (builtinV Prog .append [65, 65] [v201, a9] h202).bind fun v203 h204 =>
  (builtinV Prog .append [65, 65] [v203, a12] h204).bind fun v205 h206 =>
  (builtinV Prog .append [65, 65] [v205, a13] h206).bind fun v207 h208 =>
  .ok v207 h208 := by kernel_rfl
end
end Go.Sw
end
section
namespace Go.Sw
theorem wf_u8 {n : Int} (h : (Lit.int .u8 n).wf = true) : 0 ≤ n ∧ n < 256 := by
  simp [Lit.wf, IntKind.min, IntKind.max, IntKind.signed, IntKind.bits] at h
  omega
theorem row_B {r : List Da} {cs : List Value} (h : LayRow [.int .u8] r cs) : ∃ n : Int, cs = encB n ∧ (0 ≤ n ∧ n < 256) := by
  obtain ⟨d, v, ds, vs, rfl, h1, h2⟩ := h.head
  obtain rfl := h2.done
  obtain ⟨n, rfl, w⟩ := h1.intv
  exact ⟨n, rfl, wf_u8 w⟩
theorem arg_i {k : IntKind} {v : Value} (h : ArgLay (.one (.int k)) v) : ∃ n, v = .int k n ∧ (Lit.int k n).wf = true := by
  obtain ⟨d, h1⟩ := h.cell
  exact h1.intv
end Go.Sw
end
section
namespace Go.Sw
open Go.RowKit
theorem speaks07_run (k : Nat) (hk : k % 1000000 = F.swashlaw07_speaks) (H : Heap) : R (T k) F.swashlaw07_speaks [] H = .ok (.bool true) H :=
  (R_sp (t := T k) (T_scott k) (s := constSp (.bool true)) (by unfold T C; dsimp only; rw [hk]; kernel_rfl) [] H).trans (nrm_gc (Pure.of rfl) (.bool _))
theorem veq_RP (l : List RP) : veq (lv encRP l) (lv encRP l) = true := veq_lv fun p _ v hv => by
  simp [encRP] at hv
  rcases hv with rfl | rfl | rfl | rfl | rfl <;> simp
theorem veq_rm (r : RMach) : veq (rmV r) (rmV r) = true := veq_agg fun v hv => by
  simp [rmCells] at hv
  rcases hv with rfl | rfl | rfl | rfl | rfl | rfl | rfl | rfl | rfl
  · simp
  · simp
  · simp
  · simp
  · simp
  · simp
  · simp
  · simp
  · exact veq_RP _
theorem veq_En (a b c d : Int) : veq (.agg #[.int .i64 a, .int .i64 b, .int .i64 c, .int .i64 d]) (.agg #[.int .i64 a, .int .i64 b, .int .i64 c, .int .i64 d]) = true := veq_agg (l := [.int .i64 a, .int .i64 b, .int .i64 c, .int .i64 d]) fun v hv => by
  simp at hv
  rcases hv with rfl | rfl | rfl | rfl <;> simp
theorem step7_run (k : Nat) {b : List Int} (hb : Byt b) {g w : Int} (hw : w = 0 ∨ w = 1 ∨ w = 2) (hl : b.length < 2 ^ 31) {m : Mach} (hm : m.ok) (h : machS b g w = some m) (s c : Int) (H : Heap) :
    R (T k) F.swashref07_Step [rmV (rmOf b g w m), .int .i64 s, .int .i64 c] H = .ok (.tuple #[encEA (stepS m s c), .bool (stepS m s c).isSome]) H := by
  rw [swashref07_Step_R]
  have fl : Flat (.tuple #[encEA (stepS m s c), .bool (stepS m s c).isSome]) := .tupleL (.cons (encEA_flat _) (.cons (.bool _) .nil))
  have no : ¬ (0 ≤ s ∧ s < m.rows.length ∧ 0 ≤ c ∧ c < m.classes) → stepS m s c = none := fun h => by unfold stepS; rw [if_neg h]
  have hx1 : Ext H (H.push ⟨rmCells b m.classes (gU b 8 4) (gU b 12 4) m.rows.length m.ents.length w (b.drop (gU b 4 4).toNat) ((refReadS (b.drop (gU b 4 4).toNat) g 2).getD []), 1, false⟩) := (Ext.refl H).push _
  have hx := hx1.push ⟨[.int .i64 0, .int .i64 0, .int .i64 0, .int .i64 0], 1, false⟩
  obtain ⟨r, hr⟩ : ∃ r, r = rmOf b g w m := ⟨_, rfl⟩
  have hent := fun i h0 h6 e he H => entry7_run k hb (g := g) hw hl h (i := i) h0 h6 (e := e) he H
  rw [← hr] at hent ⊢
  have r1 : r.states = m.rows.length := by rw [hr]; rfl
  have r2 : r.cl = m.classes := by rw [hr]; rfl
  have r3 : r.rowsAt = gU b 8 4 := by rw [hr]; rfl
  have r4 : r.b = b := by rw [hr]; rfl
  have hx1 : Ext H (H.push ⟨rmCells r.b r.cl r.rowsAt r.entsAt r.states r.n r.words r.tb r.parts, 1, false⟩) := (Ext.refl H).push _
  have hx := hx1.push ⟨[.int .i64 0, .int .i64 0, .int .i64 0, .int .i64 0], 1, false⟩
  have hcl := hm.cl
  by_cases h1 : s < 0
  · rw [no (by omega)] at fl ⊢
    refine nrm_gc ⟨_, ?_, hx⟩ fl.alive
    simp -implicitDefEqProofs (disch := omega) [swashref07_Step, h1, encEA]
  by_cases h2 : s ≥ m.rows.length
  · rw [no (by omega)] at fl ⊢
    refine nrm_gc ⟨_, ?_, hx⟩ fl.alive
    simp -implicitDefEqProofs (disch := omega) [swashref07_Step, h1, h2, r1, encEA]
  by_cases h3 : c < 0
  · rw [no (by omega)] at fl ⊢
    refine nrm_gc ⟨_, ?_, hx⟩ fl.alive
    simp -implicitDefEqProofs (disch := omega) [swashref07_Step, h1, h2, h3, r1, encEA]
  by_cases h4 : c ≥ m.classes
  · rw [no (by omega)] at fl ⊢
    refine nrm_gc ⟨_, ?_, hx⟩ fl.alive
    simp -implicitDefEqProofs (disch := omega) [swashref07_Step, h1, h2, h3, h4, r1, r2, encEA]
  obtain ⟨row, x, e, hrow, hxx, hx0, he, hs⟩ := stepS_some hm (s := s) (c := c) (by omega)
  rw [hs] at fl ⊢
  obtain ⟨hj, _, _, hat⟩ := mach_at hb (by omega) h
  have hpos := hat s.toNat c.toNat row x hrow hxx
  have hxm := (hm.row row (List.mem_of_getElem? hrow)).2 x (List.mem_of_getElem? hxx)
  have hel := hm.elen
  have htwo := hm.two
  obtain ⟨s, rfl⟩ := Int.eq_ofNat_of_zero_le (show 0 ≤ s by omega)
  obtain ⟨c, rfl⟩ := Int.eq_ofNat_of_zero_le (show 0 ≤ c by omega)
  simp only [Int.toNat_natCast] at hpos
  have hm0 : 0 ≤ (s : Int) * m.classes := Int.mul_nonneg (by omega) (by omega)
  have hm1 : (s : Int) * m.classes ≤ 65536 * 65535 := Int.mul_le_mul (by omega) (by omega) (by omega) (by omega)
  have hpe : gU b 8 4 + (m.classes * (s : Int) + (c : Nat)) * 2 = gU b 8 4 + 2 * ((s : Int) * m.classes + (c : Int)) := by rw [Int.mul_comm m.classes]; omega
  rw [hpe] at hpos
  have hU := fun j H' => refU_run k (H := H') (Sl.lv H' 1 b) hb j 2 (by omega) (by omega)
  have hu : ∀ H', R (T k) F.swashref01_U [lv encB b, .int .i64 (gU b 8 4 + 2 * ((s : Int) * m.classes + (c : Int))), .int .i64 2] H' = .ok (.int .i64 x) H' := fun H' => by
    rw [hU]; unfold gU at hpos; rw [hpos]; rfl
  have he' := hent x hx0 (by omega) e he
  have hq := veq_rm r
  refine nrm_gc ⟨(H.push ⟨rmCells r.b r.cl r.rowsAt r.entsAt r.states r.n r.words r.tb r.parts, 1, false⟩).push ⟨encEn e, 1, false⟩, ?_, hx1.push _⟩ fl.alive
  simp only [rmV, rmCells, r1, r2, r3, r4] at he' hq ⊢
  simp -implicitDefEqProofs (disch := omega) at he' hq ⊢
  simp -implicitDefEqProofs (disch := omega) [swashref07_Step, h1, h2, h3, h4, hu, he', hq, encEA]
theorem Entries_any (k : Nat) (m : Mach) (hl : m.ents.length ≤ 65536) (H : Heap) : ∃ s H', R (T k) F.state_Machine_Entries [machV m] H = .ok s H' ∧ Sl H' 4 s encEn m.ents ∧ Ext H H' := by
  by_cases hk : k < 1000000
  · exact ⟨_, H, Entries_run k hk m hl H, Sl.lv _ _ _, Ext.refl H⟩
  · obtain ⟨s, o, H', e, g⟩ := Entries_own k (by omega) m hl (Star.nil H)
    exact ⟨s, H', e, (g.own 0 rfl).sl encEn_len, g.ext⟩
theorem same_l3 (k : Nat) {b : List Int} (hb : Byt b) {g w : Int} (hw : w = 0 ∨ w = 1 ∨ w = 2) (hl : b.length < 2 ^ 31) {m : Mach} (hm : m.ok) (h : machS b g w = some m) (s : Int) {r : RMach} (hr : r = rmOf b g w m) (p : Nat) (H : Heap)
    (hp : H.get p = some ⟨rmCells r.b r.cl r.rowsAt r.entsAt r.states r.n r.words r.tb r.parts, 1, false⟩) :
    ∃ a H', loopN (swashlaw07_same_l3 k (R (T k))) loopFuel [(0, machV m), (3, ptrV p), (7, .int .i64 s), (8, .int .i64 (-1))] H = .ok (.exit 4, [(0, machV m), (3, ptrV p), (7, .int .i64 s), (8, a), (56, .bool false)]) H' ∧ Ext H H' := by
  have hcl := hm.cl
  have r2 : r.cl = m.classes := by rw [hr]; rfl
  obtain ⟨x, e', H1, hr', rfl, ⟨a, rfl⟩, hx⟩ := loop_up (body := swashlaw07_same_l3 k (R (T k))) (m.classes.toNat + 2)
    (fun j e H' => e = [(0, machV m), (3, ptrV p), (7, .int .i64 s), (8, .int .i64 ((j : Int) - 1))] ∧ Ext H H')
    (fun x e H' => x = .exit 4 ∧ (∃ a, e = [(0, machV m), (3, ptrV p), (7, .int .i64 s), (8, a), (56, .bool false)]) ∧ Ext H H')
    (e0 := [(0, machV m), (3, ptrV p), (7, .int .i64 s), (8, .int .i64 (-1))]) (H0 := H) ⟨rfl, Ext.refl H⟩ (by omega)
    (fun j e H' hj ⟨he, hx⟩ => by
      subst he
      have hlt : (j : Int) - 1 ≤ m.classes := by omega
      have hp' := hx.get hp
      have hpn : ¬ p = H'.n := by have := Heap.get_lt hp'; omega
      have h1 := fun H => Step_run k m hm s ((j : Int) - 1) H
      have h2 := fun H => step7_run k hb (g := g) hw hl hm h s ((j : Int) - 1) H
      rw [← hr] at h2
      generalize stepS m s ((j : Int) - 1) = o at h1 h2
      have hj1 : (j : Int) - 1 + 1 = ((j + 1 : Nat) : Int) - 1 := by omega
      refine .inl ⟨_, (H'.push ⟨encEn (o.getD ⟨0, 0, 0, 0⟩), 1, false⟩).push ⟨encEn (o.getD ⟨0, 0, 0, 0⟩), 1, false⟩, ?_, rfl, (hx.push _).push _⟩
      rw [swashlaw07_same_l3_eq, ← hj1]
      simp only [rmV, rmCells] at h2 hp'
      unfold encEA at h1 h2
      rw [r2] at h2 hp'
      simp -implicitDefEqProofs (disch := omega) [hp', hpn, r2, hlt, h1, h2, bne])
    (fun e H' ⟨he, hx⟩ => by
      subst he
      have hp' := hx.get hp
      have hlt : ¬ ((m.classes.toNat + 2 : Nat) : Int) - 1 ≤ m.classes := by omega
      refine ⟨.exit 4, _, H', ?_, by simp, rfl, ⟨.int .i64 (((m.classes.toNat + 2 : Nat) : Int) - 1), rfl⟩, hx⟩
      rw [swashlaw07_same_l3_eq]
      rw [r2] at hp'
      have e1 : ∀ H', ld1 (.pointer (some ⟨p, 0 + 1, none⟩)) H' = opt ((H'.get p).bind fun k => k.cells[0 + 1]?) H' := fun H' => rfl
      simp -implicitDefEqProofs (disch := omega) only [fa_137_1, faR_ptr, Res.bind_ok, ld_3, ld1_ptr, hp', Option.bind_some, bin_leq, hlt, decide_false, condV_bool, Bool.false_eq_true, if_false, rmCells, Nat.zero_add, gS, g0, optR_some])
  exact ⟨a, H1, hr', hx⟩
theorem same_run (k : Nat) {b : List Int} (hb : Byt b) {g w : Int} (hw : w = 0 ∨ w = 1 ∨ w = 2) (hl : b.length < 2 ^ 31) {m : Mach} (hm : m.ok) (h : machS b g w = some m) (H : Heap) :
    R (T k) F.swashlaw07_same [machV m, rmV (rmOf b g w m)] H = .ok (.bool true) H := by
  rw [swashlaw07_same_R]
  have hent := fun i h0 h6 e he H => entry7_run k hb (g := g) hw hl h (i := i) h0 h6 (e := e) he H
  obtain ⟨r, hr⟩ : ∃ r, r = rmOf b g w m := ⟨_, rfl⟩
  rw [← hr] at hent ⊢
  have r1 : r.states = m.rows.length := by rw [hr]; rfl
  have r2 : r.cl = m.classes := by rw [hr]; rfl
  have r5 : r.n = m.ents.length := by rw [hr]; rfl
  obtain ⟨B, hB⟩ : ∃ B : Blk, B = ⟨rmCells r.b r.cl r.rowsAt r.entsAt r.states r.n r.words r.tb r.parts, 1, false⟩ := ⟨_, rfl⟩
  have hx0 : Ext H (H.push B) := (Ext.refl H).push _
  obtain ⟨s1, H1, e1, l1, x1⟩ := Entries_any k m hm.elen (H.push B)
  obtain ⟨s2, H2, e2, l2, x2⟩ := Entries_any k m hm.elen H1
  have g1 : H1.get H.n = some B := x1.get (get_push_eq _ _ _ rfl)
  have g2 : H2.get H.n = some B := x2.get g1
  have hcl := fun H => Classes_run k m H
  have hst := fun H => States_run k m H
  have hel := hm.elen
  have htwo := hm.two
  -- the entries
  obtain ⟨x, e', H3, hr3, rfl, ⟨a, rfl⟩, x3⟩ := loop_up (body := swashlaw07_same_l1 k (R (T k))) m.ents.length
    (fun j e H' => e = [(0, machV m), (3, ptrV H.n), (34, s2), (35, .int .i64 m.ents.length), (36, .int .i64 j)] ∧ Ext H2 H')
    (fun x e H' => x = .exit 0 ∧ (∃ a, e = [(0, machV m), (3, ptrV H.n), (34, s2), (35, .int .i64 m.ents.length), (36, a), (37, .bool false)]) ∧ Ext H2 H')
    (e0 := [(0, machV m), (3, ptrV H.n), (34, s2), (35, .int .i64 m.ents.length), (36, .int .i64 0)]) (H0 := H2) ⟨rfl, Ext.refl _⟩ (by omega)
    (fun j e H' hj ⟨he, hx⟩ => by
      subst he
      have hlt : (j : Int) < m.ents.length := by omega
      obtain ⟨en, hen⟩ : ∃ en, m.ents[j]? = some en := ⟨_, List.getElem?_eq_getElem hj⟩
      obtain ⟨p, p1, p2⟩ := ((l2.up hx).rd (by decide) encEn_len).2 j en hen
      have hp := hx.get g2
      rw [hB] at hp
      have hpn : ¬ H.n = H'.n := by have := Heap.get_lt hp; omega
      have h2 := hent j (by omega) (by omega) en (by simpa using hen)
      simp only [rmV] at h2
      refine .inl ⟨_, H'.push ⟨encEn en, 1, false⟩, ?_, rfl, hx.push _⟩
      rw [swashlaw07_same_l1_eq]
      simp -implicitDefEqProofs (disch := omega) [hlt, p1, p2, hp, hpn, h2, bne, veq_En])
    (fun e H' ⟨he, hx⟩ => by
      subst he
      refine ⟨.exit 0, _, H', ?_, by simp, rfl, ⟨.int .i64 m.ents.length, rfl⟩, hx⟩
      rw [swashlaw07_same_l1_eq]
      simp -implicitDefEqProofs)
  have g3 := x3.get g2
  -- the steps
  obtain ⟨x, e', H4, hr4, rfl, ⟨a, rfl⟩, x4⟩ := loop_up (body := swashlaw07_same_l2 k (R (T k))) (m.rows.length + 2)
    (fun j e H' => e = [(0, machV m), (3, ptrV H.n), (7, .int .i64 ((j : Int) - 1))] ∧ Ext H3 H')
    (fun x e H' => x = .exit 2 ∧ (∃ a, e = [(0, machV m), (3, ptrV H.n), (7, a), (50, .bool false)]) ∧ Ext H3 H')
    (e0 := [(0, machV m), (3, ptrV H.n), (7, .int .i64 (-1))]) (H0 := H3) ⟨rfl, Ext.refl _⟩ (by omega)
    (fun j e H' hj ⟨he, hx⟩ => by
      subst he
      have hlt : (j : Int) - 1 ≤ m.rows.length := by omega
      have hp := hx.get g3
      rw [hB] at hp
      obtain ⟨a, H5, e5, x5⟩ := same_l3 k hb hw hl hm h ((j : Int) - 1) hr H.n H' hp
      have hj1 : (j : Int) - 1 + 1 = ((j + 1 : Nat) : Int) - 1 := by omega
      refine .inl ⟨_, H5, ?_, rfl, hx.trans x5⟩
      rw [swashlaw07_same_l2_eq, ← hj1]
      rw [r1] at hp
      simp -implicitDefEqProofs (disch := omega) [hp, hlt, e5, swashlaw07_same_l3k_x4])
    (fun e H' ⟨he, hx⟩ => by
      subst he
      have hp := hx.get g3
      rw [hB, r1] at hp
      have hlt : ¬ ((m.rows.length + 2 : Nat) : Int) - 1 ≤ m.rows.length := by omega
      refine ⟨.exit 2, _, H', ?_, by simp, rfl, ⟨.int .i64 (((m.rows.length + 2 : Nat) : Int) - 1), rfl⟩, hx⟩
      rw [swashlaw07_same_l2_eq]
      simp -implicitDefEqProofs (disch := omega) only [fa_137_4, faR_ptr, Res.bind_ok, ld_3, ld1_ptr, hp, Option.bind_some, bin_leq, hlt, decide_false, condV_bool, Bool.false_eq_true, if_false, rmCells, Nat.zero_add, gS, g0, optR_some])
  refine nrm_gc ⟨H4, ?_, hx0.trans (x1.trans (x2.trans (x3.trans x4)))⟩ (.bool _)
  rw [hB] at e1 g1
  have q1 := fun H' => l1.len H'
  have q2 := fun H' => l2.len H'
  rw [r1, r2, r5] at g1 e1
  simp only [rmV, rmCells, r1, r2, r5] at *
  simp -implicitDefEqProofs (disch := omega) [swashlaw07_same, hcl, hst, bne, e1, e2, g1, q1, q2, hr3, swashlaw07_same_l1k_x0, hr4, swashlaw07_same_l2k_x2]
end Go.Sw
end
section
set_option maxRecDepth 100000
set_option linter.unusedVariables false
namespace Go.Sw
noncomputable section
def swashref02_Put_l1 (k : Nat) (call : Caller) : Env → Heap → Res (AExit × Env) := loopB (C k) call F.swashref02_Put [1, 0, 1, 0, 0]
def swashref02_Put_l1k (k : Nat) (call : Caller) : Kont Value := kBlock 0 (kSeq (pieceK (C k) call F.swashref02_Put [1, 1]) (kDone Prog (resOf Prog F.swashref02_Put)))
def swashref02_Put_l2 (k : Nat) (call : Caller) : Env → Heap → Res (AExit × Env) := loopB (C k) call F.swashref02_Put [1, 0, 1, 0, 0, 1, 0, 0, 1, 0, 1, 0, 0]
def swashref02_Put_l2k (k : Nat) (call : Caller) : Kont (AExit × Env) := kBlock 2 (kSeq (pieceK (C k) call F.swashref02_Put [1, 0, 1, 0, 0, 1, 0, 0, 1, 1]) (kBlock 1 (kSeq (pieceK (C k) call F.swashref02_Put [1, 0, 1, 0, 0, 1, 1]) (kRound (ownOf (C k) F.swashref02_Put [1, 0, 1, 0, 0])))))
def swashref02_Put (k : Nat) (call : Caller) (a0 a1 a2 : Value) (h : Heap) : Res Value :=
  (binR Prog .sub 3 a2 (.int .i64 1) h).bind fun v1 h2 =>
  (loopN (swashref02_Put_l1 k call) loopFuel [(0, a0), (1, a1), (7, v1)] h2).bind fun r3 h4 =>
  swashref02_Put_l1k k call r3.1 r3.2 h4
theorem swashref02_Put_R (k : Nat) (a0 a1 a2 : Value) (h : Heap) : R (T k) F.swashref02_Put [a0, a1, a2] h = nrm .no h (swashref02_Put k (R (T k)) a0 a1 a2 h) :=
  (R_body (t := T k) (T_scott k) (by kernel_rfl) _ _).trans (by kernel_rfl)
theorem swashref02_Put_l1_eq (k : Nat) (call : Caller) (a0 a1 a7 : Value) (h : Heap) : swashref02_Put_l1 k call [(0, a0), (1, a1), (7, a7)] h =
  (binR Prog .geq 3 a7 (.int .i64 0) h).bind fun v5 h6 =>
  condV (some v5) (
    (loopN (swashref02_Put_l2 k call) loopFuel [(0, a0), (1, a1), (7, a7), (8, a1), (9, (.int .i64 0))] h6).bind fun r7 h8 =>
    swashref02_Put_l2k k call r7.1 r7.2 h8)
  (
    .ok ((.exit 0), [(0, a0), (1, a1), (7, a7), (13, v5)]) h6) :=
  (loopB_eq _ _).trans (by kernel_rfl)
theorem swashref02_Put_l2_eq (k : Nat) (call : Caller) (a0 a1 a7 a8 a9 : Value) (h : Heap) : swashref02_Put_l2 k call [(0, a0), (1, a1), (7, a7), (8, a8), (9, a9)] h =
  (binR Prog .lss 3 a9 a7 h).bind fun v9 h10 =>
  condV (some v9) (
    (binR Prog .quo 3 a8 (.int .i64 256) h10).bind fun v11 h12 =>
    (binR Prog .add 3 a9 (.int .i64 1) h12).bind fun v13 h14 =>
    .ok (.normal, [(0, a0), (1, a1), (7, a7), (8, v11), (9, v13)]) h14)
  (
    .ok ((.exit 2), [(0, a0), (1, a1), (7, a7), (8, a8), (9, a9), (19, v9)]) h10) :=
  (loopB_eq _ _).trans (by kernel_rfl)
theorem swashref02_Put_l1k_x0 (k : Nat) (call : Caller) (a0 a1 a7 a13 : Value) (h : Heap) : swashref02_Put_l1k k call (.exit 0) [(0, a0), (1, a1), (7, a7), (13, a13)] h =
  .ok a0 h := by kernel_rfl
theorem swashref02_Put_l2k_x2 (k : Nat) (call : Caller) (a0 a1 a7 a8 a9 a19 : Value) (h : Heap) : swashref02_Put_l2k k call (.exit 2) [(0, a0), (1, a1), (7, a7), (8, a8), (9, a9), (19, a19)] h =
  (binR Prog .rem 3 a8 (.int .i64 256) h).bind fun v15 h16 =>
  (convR Prog 3 5 v15 h16).bind fun v17 h18 =>
  (buildSliceR Prog 65 1 [(0, v17)] h18).bind fun v19 h20 =>
  (builtinV Prog .append [65, 65] [a0, v19] h20).bind fun v21 h22 =>
  (binR Prog .sub 3 a7 (.int .i64 1) h22).bind fun v23 h24 =>
  .ok (.normal, [(0, v21), (1, a1), (7, v23)]) h24 := by kernel_rfl
end
end Go.Sw
end
section
namespace Go.Sw
open Go.RowKit
theorem Put_in (k : Nat) (s : Value) (n : Int) (i : Nat) (h0 : 0 ≤ n) (hn : n < 2 ^ 62) (hi : i < 2 ^ 62) (H : Heap) :
    loopN (swashref02_Put_l2 k (R (T k))) loopFuel [(0, s), (1, .int .i64 n), (7, .int .i64 i), (8, .int .i64 n), (9, .int .i64 0)] H = .ok (.exit 2, [(0, s), (1, .int .i64 n), (7, .int .i64 i), (8, .int .i64 (n / 256 ^ i)), (9, .int .i64 i), (19, .bool false)]) H := by
  obtain ⟨x, e', H1, hr, rfl, rfl, rfl⟩ := loop_up (body := swashref02_Put_l2 k (R (T k))) i
    (fun j e H' => H' = H ∧ e = [(0, s), (1, .int .i64 n), (7, .int .i64 i), (8, .int .i64 (n / 256 ^ j)), (9, .int .i64 j)])
    (fun x e H' => H' = H ∧ x = .exit 2 ∧ e = [(0, s), (1, .int .i64 n), (7, .int .i64 i), (8, .int .i64 (n / 256 ^ i)), (9, .int .i64 i), (19, .bool false)])
    (e0 := [(0, s), (1, .int .i64 n), (7, .int .i64 i), (8, .int .i64 n), (9, .int .i64 0)]) (H0 := H) ⟨rfl, by simp⟩ (by omega)
    (fun j e H' hj ⟨hH, he⟩ => by
      subst he hH
      have hlt : (j : Int) < i := by omega
      have q0 : 0 ≤ n / 256 ^ j := Int.ediv_nonneg h0 (Int.pow_nonneg (by decide))
      have q1 : n / 256 ^ j ≤ n := Int.ediv_le_self _ h0
      have hq : (n / 256 ^ j).tdiv 256 = n / 256 ^ (j + 1) := by
        rw [Int.tdiv_eq_ediv_of_nonneg q0, Int.pow_succ, Int.ediv_ediv_of_nonneg (Int.pow_nonneg (by decide))]
      have q := fun H => bin_quo Prog 3 H .i64 (n / 256 ^ j) 256 (by decide)
      rw [hq] at q
      have q2 : 0 ≤ n / 256 ^ (j + 1) := Int.ediv_nonneg h0 (Int.pow_nonneg (by decide))
      have q3 : n / 256 ^ (j + 1) ≤ n := Int.ediv_le_self _ h0
      generalize n / 256 ^ (j + 1) = m at q q2 q3 ⊢
      generalize n / 256 ^ j = m0 at q ⊢
      refine .inl ⟨_, H', ?_, rfl, rfl⟩
      rw [swashref02_Put_l2_eq]
      simp -implicitDefEqProofs (disch := omega) [hlt, q])
    (fun e H' ⟨hH, he⟩ => by
      subst he hH
      refine ⟨.exit 2, _, H', ?_, by simp, rfl, rfl, rfl⟩
      rw [swashref02_Put_l2_eq]
      simp -implicitDefEqProofs (disch := omega))
  exact hr
theorem Put_star (k : Nat) {H0 H : Heap} {L : List It} (h : Star H0 H L) (i : Nat) {o : Option Nat} {s : Value} {b : List Int} (hi : L[i]? = some (itRow o 1 s encB b)) (n zi : Int) (z : Nat) (hzi : zi = z) (h0 : 0 ≤ n) (hn : n < 2 ^ 62) (hz : z ≤ 8) (hl : b.length < 2 ^ 30) :
    ∃ s' o' H', R (T k) F.swashref02_Put [s, .int .i64 n, .int .i64 zi] H = .ok s' H' ∧ Star H0 H' (L.set i (itRow o' 1 s' encB (b ++ bytesOf n z))) := by
  subst hzi
  rw [swashref02_Put_R]
  have hlt : i < L.length := (List.getElem?_eq_some_iff.1 hi).1
  have hself : L.set i (itRow o 1 s encB b) = L := by
    obtain ⟨hlt, hx⟩ := List.getElem?_eq_some_iff.1 hi
    rw [← hx, List.set_getElem_self]
  obtain ⟨x, e', H1, hr, s', o', rfl, ⟨a, c, rfl⟩, ho⟩ := loopDec (body := swashref02_Put_l1 k (R (T k)))
    (fun m e H' => ∃ s o acc, e = [(0, s), (1, .int .i64 n), (7, .int .i64 ((m : Int) - 1))] ∧ Star H0 H' (L.set i (itRow o 1 s encB acc)) ∧ acc ++ bytesOf n m = b ++ bytesOf n z ∧ m ≤ z)
    (fun x e H' => ∃ s' o', x = .exit 0 ∧ (∃ a c, e = [(0, s'), (1, .int .i64 n), (7, a), (13, c)]) ∧ Star H0 H' (L.set i (itRow o' 1 s' encB (b ++ bytesOf n z))))
    (e0 := [(0, s), (1, .int .i64 n), (7, .int .i64 ((z : Int) - 1))]) (H0 := H) z ⟨s, o, b, rfl, by rw [hself]; exact h, rfl, Nat.le_refl _⟩ (by omega)
    (fun m e H' ⟨s, o, acc, he, ho, ha, hmz⟩ => by
      subst he
      cases m with
      | zero =>
        refine .inr ⟨.exit 0, _, H', ?_, by simp, s, o, rfl, ⟨.int .i64 ((0 : Nat) - 1), .bool false, rfl⟩, by simpa [bytesOf] using (by simpa [bytesOf] using ha) ▸ ho⟩
        rw [swashref02_Put_l1_eq]
        simp -implicitDefEqProofs
      | succ m =>
        have hin := Put_in k s n m h0 hn (by omega) H'
        have q0 : 0 ≤ n / 256 ^ m := Int.ediv_nonneg h0 (Int.pow_nonneg (by decide))
        have hacc : acc.length < 2 ^ 31 := by
          have := congrArg List.length ha
          simp [bytesOf_len] at this
          omega
        obtain ⟨s2, o2, H2, e1, o1⟩ := ho.append1 (bytes := 1) i encB_len (List.getElem?_set_self hlt) ((n / 256 ^ m) % 256) hacc (by decide)
        rw [List.set_set] at o1
        have hrem := fun H => bin_rem Prog 3 H .i64 (n / 256 ^ m) 256 (by decide)
        rw [Int.tmod_eq_emod_of_nonneg q0] at hrem
        have hb : 0 ≤ (n / 256 ^ m) % 256 ∧ (n / 256 ^ m) % 256 < 256 := by omega
        refine .inl ⟨m, _, H2, ?_, by omega, s2, o2, acc ++ [(n / 256 ^ m) % 256], rfl, o1, by rw [List.append_assoc]; exact ha, by omega⟩
        rw [swashref02_Put_l1_eq]
        have hge : (m : Int) ≥ 0 := by omega
        rw [show (((m + 1 : Nat) : Int) - 1) = (m : Int) by omega]
        generalize (n / 256 ^ m) % 256 = y at e1 hrem hb
        simp -implicitDefEqProofs (disch := omega) [hge, hin, swashref02_Put_l2k_x2, hrem, e1])
  refine ⟨s', o', H1, ?_, ho⟩
  simp -implicitDefEqProofs (disch := omega) [swashref02_Put, hr, swashref02_Put_l1k_x0, nrm_no]
end Go.Sw
end
section
namespace Go.Sw
open Go.RowKit
structure Plan where
  cls : List Int
  rows : List (List Int)
  ents : List En
  wide : Int
abbrev encBR (r : List Int) : List Value := [lv encB r]
theorem encBR_len (r : List Int) : (encBR r).length = 1 := rfl
abbrev planCells (p : Plan) : List Value := [lv encB p.cls, lv encBR p.rows, lv encEn p.ents, .int .u8 p.wide]
abbrev planV (p : Plan) : Value := .agg (planCells p).toArray
def planN (p : Plan) : Nat := 4 + (p.wide % 8).toNat
def twos (l : List Int) : List Int := (l.map fun c => bytesOf c 2).flatten
def ofS (cls : List Int) : List Int := (bytesOf 8 2 ++ bytesOf 0 2 ++ bytesOf cls.length 2) ++ twos cls
def rowL (n : Nat) (r : List Int) : List Int := (List.range n).map fun i => r[i]?.getD 0
def rowsL (n : Nat) (rs : List (List Int)) : List Int := (rs.map fun r => twos (rowL n r)).flatten
def m16 (x : Int) : Int := x % 65536
def entB (w : Int) (e : En) : List Int := bytesOf (m16 e.next) 2 ++ bytesOf (m16 e.flags) 2 ++ (if 0 < w then bytesOf (m16 e.a) 2 else []) ++ (if 1 < w then bytesOf (m16 e.b) 2 else [])
def entsB (w : Int) (es : List En) : List Int := (es.map (entB w)).flatten
def planBytes (p : Plan) (w : Int) (room : Nat) : List Int :=
  (((bytesOf (planN p : Int) 4 ++ bytesOf (16 + room : Int) 4 ++ bytesOf (16 + room + (ofS p.cls).length : Int) 4 ++ bytesOf (16 + room + (ofS p.cls).length + (rowsL (planN p) p.rows).length : Int) 4 ++ List.replicate room 0) ++ ofS p.cls) ++ rowsL (planN p) p.rows) ++ entsB w p.ents
theorem twos_snoc (l : List Int) (x : Int) : twos (l ++ [x]) = twos l ++ bytesOf x 2 := by simp [twos]
theorem twos_len (l : List Int) : (twos l).length = l.length * 2 := flat_len (z := 2) (fun r hr => by obtain ⟨p, _, rfl⟩ := List.mem_map.1 hr; simp) |>.trans (by simp)
theorem rowL_len (n : Nat) (r : List Int) : (rowL n r).length = n := by simp [rowL]
theorem rowsL_snoc (n : Nat) (rs : List (List Int)) (r : List Int) : rowsL n (rs ++ [r]) = rowsL n rs ++ twos (rowL n r) := by simp [rowsL]
theorem rowsL_len (n : Nat) (rs : List (List Int)) : (rowsL n rs).length = rs.length * (n * 2) := flat_len (z := n * 2) (fun r hr => by obtain ⟨p, _, rfl⟩ := List.mem_map.1 hr; rw [twos_len, rowL_len]) |>.trans (by simp)
theorem entB_len (w : Int) (e : En) : (entB w e).length ≤ 8 := by
  unfold entB
  simp only [List.length_append, bytesOf_len]
  split <;> split <;> simp
theorem entsB_snoc (w : Int) (es : List En) (e : En) : entsB w (es ++ [e]) = entsB w es ++ entB w e := by simp [entsB]
theorem entsB_len (w : Int) : ∀ es : List En, (entsB w es).length ≤ es.length * 8
  | [] => by simp [entsB]
  | e :: es => by
    have h1 := entsB_len w es
    have h2 := entB_len w e
    unfold entsB at h1 ⊢
    simp only [List.map_cons, List.flatten_cons, List.length_append, List.length_cons]
    omega
theorem and16 (P : Program) (t : TypeId) (H : Heap) (a : Int) : binR P .and t (.int .i64 a) (.int .i64 65535) H = .ok (.int .i64 (m16 a)) H := by
  have e : (BitVec.ofInt 64 a &&& BitVec.ofInt 64 65535).toNat = (a % 65536).toNat := by
    rw [BitVec.toNat_and, BitVec.toNat_ofInt, BitVec.toNat_ofInt]
    rw [show ((65535 : Int) % ((2 ^ 64 : Nat) : Int)).toNat = 2 ^ 16 - 1 from by decide, Nat.and_two_pow_sub_one_eq_mod]
    omega
  have e1 : binV P .and t (.int .i64 a) (.int .i64 65535) = some (.int .i64 (IntKind.i64.wrap (BitVec.ofInt 64 a &&& BitVec.ofInt 64 65535).toNat)) := rfl
  unfold binR
  rw [e1, e]
  unfold m16
  rw [show (((a % 65536).toNat : Nat) : Int) = a % 65536 by omega, wrap_i64 (by omega) (by omega)]
  rfl
theorem m16_bound (a : Int) : 0 ≤ m16 a ∧ m16 a < 65536 := by unfold m16; omega
theorem write_l3 (k : Nat) {H0 H : Heap} {o9 o12 : Option Nat} {a9 a12 : Value} {l9 l12 : List Int} {B : It} (w room : Value) (n : Nat) (hn : n ≤ 11) (a3 a8 : Value) (r : List Int) (hr : Byt r) (x47 x48 x49 : Value) (hl : l12.length < 2 ^ 29)
    (g : Star H0 H [itRow o9 1 a9 encB l9, itRow o12 1 a12 encB l12, B]) :
    ∃ s o H' z, loopN (swashlaw07_Write_l3 k (R (T k))) loopFuel [(1, w), (2, room), (3, a3), (7, .int .i64 n), (8, a8), (9, a9), (12, a12), (13, .slice none 0 0), (15, lv encB r), (47, x47), (48, x48), (49, x49), (53, .int .i64 n), (54, .int .i64 0)] H =
      .ok (.exit 4, [(1, w), (2, room), (3, a3), (7, .int .i64 n), (8, a8), (9, a9), (12, s), (13, .slice none 0 0), (15, lv encB r), (47, x47), (48, x48), (49, x49), (53, .int .i64 n), (54, z), (55, .bool false)]) H' ∧
      Star H0 H' [itRow o9 1 a9 encB l9, itRow o 1 s encB (l12 ++ twos (rowL n r)), B] := by
  obtain ⟨x, e', H1, hr1, rfl, z, s, o, rfl, g⟩ := loop_up (body := swashlaw07_Write_l3 k (R (T k))) n
    (fun j e H' => ∃ s o, e = [(1, w), (2, room), (3, a3), (7, .int .i64 n), (8, a8), (9, a9), (12, s), (13, .slice none 0 0), (15, lv encB r), (47, x47), (48, x48), (49, x49), (53, .int .i64 n), (54, .int .i64 j)] ∧ Star H0 H' [itRow o9 1 a9 encB l9, itRow o 1 s encB (l12 ++ twos ((rowL n r).take j)), B])
    (fun x e H' => x = .exit 4 ∧ ∃ z s o, e = [(1, w), (2, room), (3, a3), (7, .int .i64 n), (8, a8), (9, a9), (12, s), (13, .slice none 0 0), (15, lv encB r), (47, x47), (48, x48), (49, x49), (53, .int .i64 n), (54, z), (55, .bool false)] ∧ Star H0 H' [itRow o9 1 a9 encB l9, itRow o 1 s encB (l12 ++ twos (rowL n r)), B])
    (e0 := [(1, w), (2, room), (3, a3), (7, .int .i64 n), (8, a8), (9, a9), (12, a12), (13, .slice none 0 0), (15, lv encB r), (47, x47), (48, x48), (49, x49), (53, .int .i64 n), (54, .int .i64 0)]) (H0 := H) ⟨a12, o12, rfl, by simpa [twos] using g⟩ (by omega)
    (fun j e H' hj ⟨s, o, he, g⟩ => by
      subst he
      have hlt : (j : Int) < n := by omega
      have hq : (rowL n r)[j]? = some (r[j]?.getD 0) := by unfold rowL; rw [List.getElem?_map, List.getElem?_range hj]; rfl
      have hlen : (l12 ++ twos ((rowL n r).take j)).length < 2 ^ 30 := by
        rw [List.length_append, twos_len, List.length_take, rowL_len]
        omega
      have hb : 0 ≤ r[j]?.getD 0 ∧ r[j]?.getD 0 < 256 := by
        cases h : r[j]? with
        | none => simp
        | some y => exact hr y (List.mem_of_getElem? h)
      obtain ⟨s', o', H2, e2, g2⟩ := Put_star k g 1 rfl (r[j]?.getD 0) 2 2 rfl hb.1 (by omega) (by omega) hlen
      simp only [List.set_cons_zero, List.set_cons_succ] at g2
      refine .inl ⟨_, H2, ?_, s', o', rfl, by rw [take_snoc hq, twos_snoc, ← List.append_assoc]; exact g2⟩
      rw [swashlaw07_Write_l3_eq]
      cases h : r[j]? with
      | some y =>
        have hjr : (j : Int) < r.length := by have := (List.getElem?_eq_some_iff.1 h).1; omega
        have i1 := fun H' => ixS_lvN encB_len r .i64 j y h H'
        rw [h] at e2 hb
        simp at e2 hb
        simp -implicitDefEqProofs (disch := omega) [hlt, hjr, i1, swashlaw07_Write_j1_eq, e2]
      | none =>
        have hjr : ¬ (j : Int) < r.length := by have := List.getElem?_eq_none_iff.1 h; omega
        rw [h] at e2
        simp at e2
        simp -implicitDefEqProofs (disch := omega) [hlt, hjr, swashlaw07_Write_j2_eq, e2])
    (fun e H' ⟨s, o, he, g⟩ => by
      subst he
      rw [List.take_of_length_le (by rw [rowL_len]; exact Nat.le_refl _)] at g
      refine ⟨.exit 4, _, H', ?_, by simp, rfl, .int .i64 n, s, o, rfl, g⟩
      rw [swashlaw07_Write_l3_eq]
      simp -implicitDefEqProofs)
  exact ⟨s, o, H1, z, hr1, g⟩
def Plan.ok (p : Plan) : Prop := Byt p.cls ∧ (∀ r, r ∈ p.rows → Byt r) ∧ 0 ≤ p.wide ∧ p.wide < 256
set_option maxHeartbeats 1000000 in
theorem write_l4 (k : Nat) {H0 H : Heap} {o9 o12 : Option Nat} {a9 a12 : Value} {l9 l12 : List Int} {B : It} (w : Int) (hw : w = 0 ∨ w = 1 ∨ w = 2) (room : Value) (a7 a8 : Value) (es : List En) (hl : es.length < 2 ^ 20) {sE : Value} (hsE : Sl H0 4 sE encEn es)
    (g : Star H0 H [itRow o9 1 a9 encB l9, itRow o12 1 a12 encB l12, B]) :
    ∃ s o H' z, loopN (swashlaw07_Write_l4 k (R (T k))) loopFuel [(1, .int .i64 w), (2, room), (7, a7), (8, a8), (9, a9), (12, a12), (13, .slice none 0 0), (72, sE), (73, .int .i64 es.length), (74, .int .i64 0)] H =
      .ok (.exit 6, [(1, .int .i64 w), (2, room), (7, a7), (8, a8), (9, a9), (12, a12), (13, s), (72, sE), (73, .int .i64 es.length), (74, z), (75, .bool false)]) H' ∧
      Star H0 H' [itRow o9 1 a9 encB l9, itRow o12 1 a12 encB l12, B, itRow o 1 s encB (entsB w es)] := by
  have g := g.more_row (Ext.refl _) (OwnO.nil encB _ 1) (fun b hb => by cases hb)
  obtain ⟨x, e', H1, hr1, rfl, z, s, o, rfl, g⟩ := loop_up (body := swashlaw07_Write_l4 k (R (T k))) es.length
    (fun j e H' => ∃ s o, e = [(1, .int .i64 w), (2, room), (7, a7), (8, a8), (9, a9), (12, a12), (13, s), (72, sE), (73, .int .i64 es.length), (74, .int .i64 j)] ∧ Star H0 H' [itRow o9 1 a9 encB l9, itRow o12 1 a12 encB l12, B, itRow o 1 s encB (entsB w (es.take j))])
    (fun x e H' => x = .exit 6 ∧ ∃ z s o, e = [(1, .int .i64 w), (2, room), (7, a7), (8, a8), (9, a9), (12, a12), (13, s), (72, sE), (73, .int .i64 es.length), (74, z), (75, .bool false)] ∧ Star H0 H' [itRow o9 1 a9 encB l9, itRow o12 1 a12 encB l12, B, itRow o 1 s encB (entsB w es)])
    (e0 := [(1, .int .i64 w), (2, room), (7, a7), (8, a8), (9, a9), (12, a12), (13, .slice none 0 0), (72, sE), (73, .int .i64 es.length), (74, .int .i64 0)]) (H0 := H) ⟨.slice none 0 0, none, rfl, by simpa [entsB] using g⟩ (by omega)
    (fun j e H' hj ⟨s, o, he, g⟩ => by
      subst he
      have hlt : (j : Int) < es.length := by omega
      obtain ⟨en, hen⟩ : ∃ en, es[j]? = some en := ⟨_, List.getElem?_eq_getElem hj⟩
      obtain ⟨q, i1, i2⟩ := ((hsE.up g.ext).rd (by decide) encEn_len).2 j en hen
      have hlen := entsB_len w (es.take j)
      rw [List.length_take] at hlen
      have g := g.push ⟨encEn en, 1, false⟩
      simp only [List.cons_append, List.nil_append] at g
      have b1 := m16_bound en.next
      have b2 := m16_bound en.flags
      have b3 := m16_bound en.a
      have b4 := m16_bound en.b
      have an := fun H a => and16 Prog 3 H a
      obtain ⟨s1, o1, H1, e1, g1⟩ := Put_star k g 3 rfl (m16 en.next) 2 2 rfl b1.1 (by omega) (by omega) (by omega)
      simp only [List.set_cons_zero, List.set_cons_succ] at g1
      have h1 := g1.get 4 rfl
      obtain ⟨s2, o2, H2, e2, g2⟩ := Put_star k g1 3 rfl (m16 en.flags) 2 2 rfl b2.1 (by omega) (by omega) (by simp; omega)
      simp only [List.set_cons_zero, List.set_cons_succ] at g2
      have h2 := g2.get 4 rfl
      rcases hw with rfl | rfl | rfl
      · refine .inl ⟨_, H2, ?_, s2, o2, rfl, by rw [take_snoc hen, entsB_snoc]; simpa [entB] using g2.take 4⟩
        rw [swashlaw07_Write_l4_eq]
        simp -implicitDefEqProofs (disch := omega) [hlt, i1, i2, an, e1, h1, e2, h2, swashlaw07_Write_j4_eq, swashlaw07_Write_j6_eq]
      · obtain ⟨s3, o3, H3, e3, g3⟩ := Put_star k g2 3 rfl (m16 en.a) 2 2 rfl b3.1 (by omega) (by omega) (by simp; omega)
        simp only [List.set_cons_zero, List.set_cons_succ] at g3
        have h3 := g3.get 4 rfl
        refine .inl ⟨_, H3, ?_, s3, o3, rfl, by rw [take_snoc hen, entsB_snoc]; simpa [entB] using g3.take 4⟩
        rw [swashlaw07_Write_l4_eq]
        simp -implicitDefEqProofs (disch := omega) [hlt, i1, i2, an, e1, h1, e2, h2, e3, h3, swashlaw07_Write_j3_eq, swashlaw07_Write_j6_eq]
      · obtain ⟨s3, o3, H3, e3, g3⟩ := Put_star k g2 3 rfl (m16 en.a) 2 2 rfl b3.1 (by omega) (by omega) (by simp; omega)
        simp only [List.set_cons_zero, List.set_cons_succ] at g3
        have h3 := g3.get 4 rfl
        obtain ⟨s4, o4, H4, e4, g4⟩ := Put_star k g3 3 rfl (m16 en.b) 2 2 rfl b4.1 (by omega) (by omega) (by simp; omega)
        simp only [List.set_cons_zero, List.set_cons_succ] at g4
        refine .inl ⟨_, H4, ?_, s4, o4, rfl, by rw [take_snoc hen, entsB_snoc]; simpa [entB] using g4.take 4⟩
        rw [swashlaw07_Write_l4_eq]
        simp -implicitDefEqProofs (disch := omega) [hlt, i1, i2, an, e1, h1, e2, h2, e3, h3, e4, swashlaw07_Write_j3_eq, swashlaw07_Write_j5_eq])
    (fun e H' ⟨s, o, he, g⟩ => by
      subst he
      rw [List.take_length] at g
      refine ⟨.exit 6, _, H', ?_, by simp, rfl, .int .i64 es.length, s, o, rfl, g⟩
      rw [swashlaw07_Write_l4_eq]
      simp -implicitDefEqProofs)
  exact ⟨s, o, H1, z, hr1, g⟩
theorem planN_eq (p : Plan) (h : 0 ≤ p.wide ∧ p.wide < 256) : 4 + p.wide.tmod 8 = (planN p : Int) ∧ planN p ≤ 11 := by
  unfold planN
  rw [Int.tmod_eq_emod_of_nonneg h.1]
  omega
set_option maxHeartbeats 2000000 in
theorem Write_any (k : Nat) (p : Plan) (hp : p.ok) (w : Int) (hw : w = 0 ∨ w = 1 ∨ w = 2) (room : Nat) (hroom : room ≤ 1000) (h1 : p.cls.length ≤ 1000) (h2 : p.rows.length ≤ 1000) (h3 : p.ents.length ≤ 1000) {H : Heap} {sE : Value} (hsE : Sl H 4 sE encEn p.ents) :
    R (T k) F.swashlaw07_Write [.agg #[lv encB p.cls, lv encBR p.rows, sE, .int .u8 p.wide], .int .i64 w, .int .i64 room] H = .ok (lv encB (planBytes p w room)) H := by
  rw [swashlaw07_Write_R]
  have hN := planN_eq p hp.2.2
  obtain ⟨n, hn⟩ : ∃ n, n = planN p := ⟨_, rfl⟩
  rw [← hn] at hN
  have hwd : 0 ≤ p.wide ∧ p.wide < 256 := hp.2.2
  have hrem := fun H => bin_rem Prog 3 H .i64 p.wide 8 (by decide)
  rw [Int.tmod_eq_emod_of_nonneg hwd.1] at hrem hN
  obtain ⟨B, hB⟩ : ∃ B : Blk, B = ⟨[lv encB p.cls, lv encBR p.rows, sE, .int .u8 p.wide], 1, false⟩ := ⟨_, rfl⟩
  have g := (Star.nil H).more_row (Ext.refl _) (OwnO.nil encB _ 1) (fun b hb => by cases hb)
  have g := g.more_row (Ext.refl _) (OwnO.nil encB _ 1) (fun b hb => by cases hb)
  have g := g.push B
  simp only [List.cons_append, List.nil_append] at g
  -- the head of the classes
  obtain ⟨s1, o1, H1, e1, g⟩ := Put_star k g 0 rfl 8 2 2 rfl (by omega) (by omega) (by omega) (by simp)
  simp only [List.set_cons_zero, List.set_cons_succ] at g
  have b1 := g.get 2 rfl
  obtain ⟨s2, o2, H2, e2, g⟩ := Put_star k g 0 rfl 0 2 2 rfl (by omega) (by omega) (by omega) (by simp)
  simp only [List.set_cons_zero, List.set_cons_succ] at g
  have b2 := g.get 2 rfl
  obtain ⟨s3, o3, H3, e3, g⟩ := Put_star k g 0 rfl p.cls.length 2 2 rfl (by omega) (by omega) (by omega) (by simp)
  simp only [List.set_cons_zero, List.set_cons_succ, List.nil_append] at g
  have b3 := g.get 2 rfl
  -- the classes
  obtain ⟨x, e', H4, hr4, rfl, z4, s4, o4, rfl, g⟩ := loop_up (body := swashlaw07_Write_l1 k (R (T k))) p.cls.length
    (fun j e H' => ∃ s o, e = [(1, .int .i64 w), (2, .int .i64 room), (3, ptrV H.n), (7, .int .i64 n), (8, .int .i64 (16 + room)), (9, s), (35, lv encB p.cls), (36, .int .i64 p.cls.length), (37, .int .i64 j)] ∧ Star H H' [itRow o 1 s encB ((bytesOf 8 2 ++ bytesOf 0 2 ++ bytesOf p.cls.length 2) ++ twos (p.cls.take j)), itRow none 1 (.slice none 0 0) encB [], itBlk H.n B])
    (fun x e H' => x = .exit 0 ∧ ∃ z s o, e = [(1, .int .i64 w), (2, .int .i64 room), (3, ptrV H.n), (7, .int .i64 n), (8, .int .i64 (16 + room)), (9, s), (35, lv encB p.cls), (36, .int .i64 p.cls.length), (37, z), (38, .bool false)] ∧ Star H H' [itRow o 1 s encB (ofS p.cls), itRow none 1 (.slice none 0 0) encB [], itBlk H.n B])
    (e0 := [(1, .int .i64 w), (2, .int .i64 room), (3, ptrV H.n), (7, .int .i64 n), (8, .int .i64 (16 + room)), (9, s3), (35, lv encB p.cls), (36, .int .i64 p.cls.length), (37, .int .i64 0)]) (H0 := H3) ⟨s3, o3, rfl, by simpa [twos] using g⟩ (by omega)
    (fun j e H' hj ⟨s, o, he, g⟩ => by
      subst he
      have hlt : (j : Int) < p.cls.length := by omega
      obtain ⟨c, hc⟩ : ∃ c, p.cls[j]? = some c := ⟨_, List.getElem?_eq_getElem hj⟩
      have i1 := fun H' => ixS_lvN encB_len p.cls .i64 j c hc H'
      have hcb := hp.1 c (List.mem_of_getElem? hc)
      obtain ⟨s', o', H2, e2, g2⟩ := Put_star k g 0 rfl c 2 2 rfl hcb.1 (by omega) (by omega) (by simp [twos_len]; omega)
      simp only [List.set_cons_zero, List.set_cons_succ] at g2
      refine .inl ⟨_, H2, ?_, s', o', rfl, by rw [take_snoc hc, twos_snoc, ← List.append_assoc]; exact g2⟩
      rw [swashlaw07_Write_l1_eq]
      simp -implicitDefEqProofs (disch := omega) [hlt, i1, e2])
    (fun e H' ⟨s, o, he, g⟩ => by
      subst he
      rw [List.take_length] at g
      refine ⟨.exit 0, _, H', ?_, by simp, rfl, .int .i64 p.cls.length, s, o, rfl, g⟩
      rw [swashlaw07_Write_l1_eq]
      simp -implicitDefEqProofs)
  have b4 := g.get 2 rfl
  have hofl : (ofS p.cls).length = 6 + p.cls.length * 2 := by unfold ofS; simp [twos_len]; omega
  -- the rows
  obtain ⟨x, e', H5, hr5, rfl, z5, s5, o5, rfl, g⟩ := loop_up (body := swashlaw07_Write_l2 k (R (T k))) p.rows.length
    (fun j e H' => ∃ s o, e = [(1, .int .i64 w), (2, .int .i64 room), (3, ptrV H.n), (7, .int .i64 n), (8, .int .i64 (16 + room)), (9, s4), (12, s), (13, .slice none 0 0), (47, lv encBR p.rows), (48, .int .i64 p.rows.length), (49, .int .i64 j)] ∧ Star H H' [itRow o4 1 s4 encB (ofS p.cls), itRow o 1 s encB (rowsL n (p.rows.take j)), itBlk H.n B])
    (fun x e H' => x = .exit 2 ∧ ∃ z s o, e = [(1, .int .i64 w), (2, .int .i64 room), (3, ptrV H.n), (7, .int .i64 n), (8, .int .i64 (16 + room)), (9, s4), (12, s), (13, .slice none 0 0), (47, lv encBR p.rows), (48, .int .i64 p.rows.length), (49, z), (50, .bool false)] ∧ Star H H' [itRow o4 1 s4 encB (ofS p.cls), itRow o 1 s encB (rowsL n p.rows), itBlk H.n B])
    (e0 := [(1, .int .i64 w), (2, .int .i64 room), (3, ptrV H.n), (7, .int .i64 n), (8, .int .i64 (16 + room)), (9, s4), (12, .slice none 0 0), (13, .slice none 0 0), (47, lv encBR p.rows), (48, .int .i64 p.rows.length), (49, .int .i64 0)]) (H0 := H4) ⟨.slice none 0 0, none, rfl, by simpa [rowsL] using g⟩ (by omega)
    (fun j e H' hj ⟨s, o, he, g⟩ => by
      subst he
      have hlt : (j : Int) < p.rows.length := by omega
      obtain ⟨r, hr⟩ : ∃ r, p.rows[j]? = some r := ⟨_, List.getElem?_eq_getElem hj⟩
      have i1 := fun H' => ixS_lvN encBR_len p.rows .i64 j r hr H'
      have hll : (rowsL n (p.rows.take j)).length < 2 ^ 29 := by
        rw [rowsL_len, List.length_take]
        have : min j p.rows.length * (n * 2) ≤ 1000 * 22 := Nat.mul_le_mul (by omega) (by omega)
        omega
      obtain ⟨s', o', H2, z', e2, g2⟩ := write_l3 k (.int .i64 w) (.int .i64 room) n (by omega) (ptrV H.n) (.int .i64 (16 + room)) r (hp.2.1 r (List.mem_of_getElem? hr)) (lv encBR p.rows) (.int .i64 p.rows.length) (.int .i64 j) hll g
      refine .inl ⟨_, H2, ?_, s', o', rfl, by rw [take_snoc hr, rowsL_snoc]; exact g2⟩
      rw [swashlaw07_Write_l2_eq]
      simp -implicitDefEqProofs (disch := omega) [hlt, i1, e2, swashlaw07_Write_l3k_x4])
    (fun e H' ⟨s, o, he, g⟩ => by
      subst he
      rw [List.take_length] at g
      refine ⟨.exit 2, _, H', ?_, by simp, rfl, .int .i64 p.rows.length, s, o, rfl, g⟩
      rw [swashlaw07_Write_l2_eq]
      simp -implicitDefEqProofs)
  have b5 := g.get 2 rfl
  have hrl : (rowsL n p.rows).length ≤ 1000 * 22 := by rw [rowsL_len]; exact Nat.mul_le_mul h2 (by omega)
  -- the entries
  obtain ⟨s6, o6, H6, z6, hr6, g⟩ := write_l4 k w hw (.int .i64 room) (.int .i64 n) (.int .i64 (16 + room)) p.ents (by omega) hsE g
  have hel := entsB_len w p.ents
  have q9 : ∀ H', lnS s4 H' = .ok (.int .i64 (ofS p.cls).length) H' := (g.row 0 rfl).len
  have q12 : ∀ H', lnS s5 H' = .ok (.int .i64 (rowsL n p.rows).length) H' := (g.row 1 rfl).len
  -- all together
  have g := g.more_row (Ext.refl _) (OwnO.nil encB _ 1) (fun b hb => by cases hb)
  simp only [List.cons_append, List.nil_append] at g
  obtain ⟨t1, u1, J1, f1, g⟩ := Put_star k g 4 rfl n 4 4 rfl (by omega) (by omega) (by omega) (by simp)
  simp only [List.set_cons_zero, List.set_cons_succ, List.nil_append] at g
  obtain ⟨t2, u2, J2, f2, g⟩ := Put_star k g 4 rfl (16 + room) 4 4 rfl (by omega) (by omega) (by omega) (by simp)
  simp only [List.set_cons_zero, List.set_cons_succ] at g
  obtain ⟨t3, u3, J3, f3, g⟩ := Put_star k g 4 rfl (16 + room + (ofS p.cls).length) 4 4 rfl (by omega) (by omega) (by omega) (by simp)
  simp only [List.set_cons_zero, List.set_cons_succ] at g
  obtain ⟨t4, u4, J4, f4, g⟩ := Put_star k g 4 rfl (16 + room + (ofS p.cls).length + (rowsL n p.rows).length) 4 4 rfl (by omega) (by omega) (by omega) (by simp)
  simp only [List.set_cons_zero, List.set_cons_succ] at g
  obtain ⟨a4, l4, c4, ht4⟩ := (g.row 4 rfl).shape
  obtain ⟨t5, u5, J5, f5, g⟩ := g.append (bytes := 1) 4 encB_len rfl (b := lv encB (List.replicate room 0)) (l2 := List.replicate room 0) (by rw [lv, List.length_replicate]; rfl) (by have := lv_first encB_len (List.replicate room 0) J4; exact this) (by simp; omega) (by decide)
  simp only [List.set_cons_zero, List.set_cons_succ] at g
  have f5' : azR 1 1 [.int .u8 0] t4 (.int .i64 room) J4 = .ok t5 J5 := by
    rw [ht4] at f5 ⊢
    rw [azR_eq encB_len a4 l4 c4 (0 : Int) _ rfl .i64 room (by omega)]
    exact f5
  obtain ⟨t6, u6, J6, f6, g⟩ := g.appendRow (bytes := 1) 4 0 encB_len rfl rfl (by simp; omega) (by decide)
  simp only [List.set_cons_zero, List.set_cons_succ] at g
  obtain ⟨t7, u7, J7, f7, g⟩ := g.appendRow (bytes := 1) 4 1 encB_len rfl rfl (by simp; omega) (by decide)
  simp only [List.set_cons_zero, List.set_cons_succ] at g
  obtain ⟨t8, u8, J8, f8, g⟩ := g.appendRow (bytes := 1) 4 3 encB_len rfl rfl (by simp; omega) (by decide)
  simp only [List.set_cons_zero, List.set_cons_succ] at g
  obtain ⟨L, hf⟩ := (g.own 4 rfl).freeze encB_len (fun n _ v hv => by simp at hv; subst hv; trivial) 6
  have hbytes : planBytes p w room = bytesOf (n : Int) 4 ++ bytesOf (16 + room : Int) 4 ++ bytesOf (16 + room + (ofS p.cls).length : Int) 4 ++ bytesOf (16 + room + (ofS p.cls).length + (rowsL n p.rows).length : Int) 4 ++ List.replicate room 0 ++ ofS p.cls ++ rowsL n p.rows ++ entsB w p.ents := by
    unfold planBytes
    rw [← hn]
  rw [hbytes]
  refine nrm_fz (v := t8) (H' := J8) ?_ hf g.ext (Flat.B _).alive
  rw [hB] at e1 b1 b2 b3 b4 b5
  have hlnE := fun H' => hsE.len H'
  simp -implicitDefEqProofs (disch := omega) [swashlaw07_Write, hrem, hN.1, e1, b1, e2, b2, e3, b3, hr4, swashlaw07_Write_l1k_x0, b4, hr5, swashlaw07_Write_l2k_x2, b5, hr6, swashlaw07_Write_l4k_x6, f1, q9, q12, f2, f3, f4, f5', f6, f7, f8, hlnE]
theorem Write_run (k : Nat) (p : Plan) (hp : p.ok) (w : Int) (hw : w = 0 ∨ w = 1 ∨ w = 2) (room : Nat) (hroom : room ≤ 1000) (h1 : p.cls.length ≤ 1000) (h2 : p.rows.length ≤ 1000) (h3 : p.ents.length ≤ 1000) (H : Heap) :
    R (T k) F.swashlaw07_Write [planV p, .int .i64 w, .int .i64 room] H = .ok (lv encB (planBytes p w room)) H := Write_any k p hp w hw room hroom h1 h2 h3 (Sl.lv H 4 p.ents)
end Go.Sw
end
section
namespace Go.Sw
open Go.RowKit
def planRoom (p : Plan) (w : Int) (rm : List Int) : List Int :=
  bytesOf (planN p : Int) 4 ++ (bytesOf (16 + rm.length : Int) 4 ++ (bytesOf (16 + rm.length + (ofS p.cls).length : Int) 4 ++ (bytesOf (16 + rm.length + (ofS p.cls).length + (rowsL (planN p) p.rows).length : Int) 4 ++ (rm ++ (ofS p.cls ++ (rowsL (planN p) p.rows ++ entsB w p.ents))))))
theorem planBytes_room (p : Plan) (w : Int) (room : Nat) : planBytes p w room = planRoom p w (List.replicate room 0) := by
  unfold planBytes planRoom
  simp [List.append_assoc]
end Go.Sw
end
