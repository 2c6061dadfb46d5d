/-
  Functions' forms, and what is proved of them, part 7.
-/
import Derived.Test.YtnaodjnimkndbaaSwCfg
import Derived.Test.YtnaodjnimkndbaaSwW1
import Derived.Test.YtnaodjnimkndbaaSwLib8
import Derived.Test.YtnaodjnimkndbaaSwW6
set_option linter.unusedSimpArgs false
set_option linter.unusedVariables false
set_option linter.unusedSectionVars false
section
set_option maxRecDepth 100000
set_option linter.unusedVariables false
namespace Go.Sw
noncomputable section
def swashlaw22_PairReads_l1 (k : Nat) (call : Caller) : Env → Heap → Res (AExit × Env) := loopB (C k) call F.swashlaw22_PairReads [1, 1, 1, 1, 1, 1, 1, 1, 0, 1, 0, 0]
def swashlaw22_PairReads_l1k (k : Nat) (call : Caller) : Kont Value := kBlock 0 (kSeq (pieceK (C k) call F.swashlaw22_PairReads [1, 1, 1, 1, 1, 1, 1, 1, 1]) (kDone Prog (resOf Prog F.swashlaw22_PairReads)))
def swashlaw22_PairReads_l2 (k : Nat) (call : Caller) : Env → Heap → Res (AExit × Env) := loopB (C k) call F.swashlaw22_PairReads [1, 1, 1, 1, 1, 1, 1, 1, 0, 1, 0, 0, 1, 0, 0, 1, 0, 0]
def swashlaw22_PairReads_l2k (k : Nat) (call : Caller) : Kont (AExit × Env) := kBlock 2 (kBlock 1 (kSeq (pieceK (C k) call F.swashlaw22_PairReads [1, 1, 1, 1, 1, 1, 1, 1, 0, 1, 0, 0, 1, 1]) (kRound (ownOf (C k) F.swashlaw22_PairReads [1, 1, 1, 1, 1, 1, 1, 1, 0, 1, 0, 0]))))
def swashlaw22_PairReads (k : Nat) (call : Caller) (a0 a1 a2 : Value) (h : Heap) : Res Value :=
  (boxR a1 h).bind fun v1 h2 =>
  (boxR a2 h2).bind fun v3 h4 =>
  (call F.swashlaw22_speaks [] h4).bind fun v5 h6 =>
  (unR .not v5 h6).bind fun v7 h8 =>
  condV (some v7) (
    .ok (.bool false) h8)
  (
    (builtinV Prog .len [65] [a0] h8).bind fun v9 h10 =>
    (binR Prog .gtr 3 v9 (.int .i64 600) h10).bind fun v11 h12 =>
    condV (some v11) (
      .ok (.bool true) h12)
    (
      (indexAddrR Prog 79 v1 (.int .i64 0) h12).bind fun v13 h14 =>
      (loadR Prog 3 v13 h14).bind fun v15 h16 =>
      (indexAddrR Prog 79 v1 (.int .i64 1) h16).bind fun v17 h18 =>
      (loadR Prog 3 v17 h18).bind fun v19 h20 =>
      (call F.pair_Read [v15, a0, v19] h20).bind fun v21 h22 =>
      (extractR v21 0 h22).bind fun v23 h24 =>
      (extractR v21 1 h24).bind fun v25 h26 =>
      (indexAddrR Prog 79 v1 (.int .i64 1) h26).bind fun v27 h28 =>
      (loadR Prog 3 v27 h28).bind fun v29 h30 =>
      (binR Prog .lss 3 v29 (.int .i64 1) h30).bind fun v31 h32 =>
      ((bif wantVal v31 false then indexAddrR Prog 79 v1 (.int .i64 1) h32 else Res.ok undef h32)).bind fun v33 h34 =>
      ((bif wantVal v31 false then loadR Prog 3 v33 h34 else Res.ok undef h34)).bind fun v35 h36 =>
      ((bif wantVal v31 false then binR Prog .gtr 3 v35 (.int .i64 65535) h36 else Res.ok undef h36)).bind fun v37 h38 =>
      (condV (some v31) (Res.ok (.bool true) h38) (Res.ok v37 h38)).bind fun v39 h40 =>
      ((bif wantVal v39 false then indexAddrR Prog 79 v1 (.int .i64 0) h40 else Res.ok undef h40)).bind fun v41 h42 =>
      ((bif wantVal v39 false then loadR Prog 3 v41 h42 else Res.ok undef h42)).bind fun v43 h44 =>
      ((bif wantVal v39 false then binR Prog .neq 3 v43 (.int .i64 0) h44 else Res.ok undef h44)).bind fun v45 h46 =>
      ((bif wantVal v39 false then Res.ok v45 h46 else Res.ok undef h46)).bind fun v47 h48 =>
      ((bif wantVal v47 true then indexAddrR Prog 79 v1 (.int .i64 0) h48 else Res.ok undef h48)).bind fun v49 h50 =>
      ((bif wantVal v47 true then loadR Prog 3 v49 h50 else Res.ok undef h50)).bind fun v51 h52 =>
      ((bif wantVal v47 true then binR Prog .neq 3 v51 (.int .i64 2) h52 else Res.ok undef h52)).bind fun v53 h54 =>
      ((bif wantVal v39 false then condV (some v47) (Res.ok v53 h54) (Res.ok (.bool false) h54) else Res.ok undef h54)).bind fun v55 h56 =>
      ((bif wantVal v39 false then Res.ok v55 h56 else Res.ok undef h56)).bind fun v57 h58 =>
      ((bif wantVal v57 true then indexAddrR Prog 79 v1 (.int .i64 0) h58 else Res.ok undef h58)).bind fun v59 h60 =>
      ((bif wantVal v57 true then loadR Prog 3 v59 h60 else Res.ok undef h60)).bind fun v61 h62 =>
      ((bif wantVal v57 true then binR Prog .neq 3 v61 (.int .i64 6) h62 else Res.ok undef h62)).bind fun v63 h64 =>
      ((bif wantVal v39 false then condV (some v57) (Res.ok v63 h64) (Res.ok (.bool false) h64) else Res.ok undef h64)).bind fun v65 h66 =>
      (condV (some v39) (Res.ok (.bool true) h66) (Res.ok v65 h66)).bind fun v67 h68 =>
      condV (some v67) (
        (binR Prog .eql 69 v25 (.int .i64 1) h68).bind fun v69 h70 =>
        ((bif wantVal v69 true then Res.ok v23 h70 else Res.ok undef h70)).bind fun v71 h72 =>
        ((bif wantVal v69 true then binR Prog .eql 160 v71 (.pointer none) h72 else Res.ok undef h72)).bind fun v73 h74 =>
        (condV (some v69) (Res.ok v73 h74) (Res.ok (.bool false) h74)).bind fun v75 h76 =>
        .ok v75 h76)
      (
        (indexAddrR Prog 79 v1 (.int .i64 0) h68).bind fun v77 h78 =>
        (loadR Prog 3 v77 h78).bind fun v79 h80 =>
        (indexAddrR Prog 79 v1 (.int .i64 1) h80).bind fun v81 h82 =>
        (loadR Prog 3 v81 h82).bind fun v83 h84 =>
        (call F.swashref22_Read [v79, a0, v83] h84).bind fun v85 h86 =>
        (extractR v85 0 h86).bind fun v87 h88 =>
        (extractR v85 1 h88).bind fun v89 h90 =>
        (allocR Prog 164 h90).bind fun v91 h92 =>
        (storeR Prog 164 v91 v87 h92).bind fun _v93 h94 =>
        (unR .not v89 h94).bind fun v95 h96 =>
        condV (some v95) (
          (binR Prog .eql 69 v25 (.int .i64 2) h96).bind fun v97 h98 =>
          ((bif wantVal v97 true then Res.ok v23 h98 else Res.ok undef h98)).bind fun v99 h100 =>
          ((bif wantVal v97 true then binR Prog .eql 160 v99 (.pointer none) h100 else Res.ok undef h100)).bind fun v101 h102 =>
          (condV (some v97) (Res.ok v101 h102) (Res.ok (.bool false) h102)).bind fun v103 h104 =>
          .ok v103 h104)
        (
          (binR Prog .neq 69 v25 (.int .i64 0) h96).bind fun v105 h106 =>
          ((bif wantVal v105 false then Res.ok v23 h106 else Res.ok undef h106)).bind fun v107 h108 =>
          ((bif wantVal v105 false then binR Prog .eql 160 v107 (.pointer none) h108 else Res.ok undef h108)).bind fun v109 h110 =>
          (condV (some v105) (Res.ok (.bool true) h110) (Res.ok v109 h110)).bind fun v111 h112 =>
          condV (some v111) (
            .ok (.bool false) h112)
          (
            (loopN (swashlaw22_PairReads_l1 k call) loopFuel [(5, v3), (7, v23), (9, v91), (11, (.int .i64 (-1)))] h112).bind fun r113 h114 =>
            swashlaw22_PairReads_l1k k call r113.1 r113.2 h114)))))
theorem swashlaw22_PairReads_R (k : Nat) (a0 a1 a2 : Value) (h : Heap) : R (T k) F.swashlaw22_PairReads [a0, a1, a2] h = nrm .gc h (swashlaw22_PairReads k (R (T k)) a0 a1 a2 h) :=
  (R_body (t := T k) (T_scott k) (by kernel_rfl) _ _).trans (by kernel_rfl)
theorem swashlaw22_PairReads_l1_eq (k : Nat) (call : Caller) (a5 a7 a9 a11 : Value) (h : Heap) : swashlaw22_PairReads_l1 k call [(5, a5), (7, a7), (9, a9), (11, a11)] h =
  (binR Prog .lss 3 a11 (.int .i64 12) h).bind fun v115 h116 =>
  condV (some v115) (
    (loopN (swashlaw22_PairReads_l2 k call) loopFuel [(5, a5), (7, a7), (9, a9), (11, a11), (12, (.int .i64 (-1)))] h116).bind fun r117 h118 =>
    swashlaw22_PairReads_l2k k call r117.1 r117.2 h118)
  (
    .ok ((.exit 0), [(5, a5), (7, a7), (9, a9), (11, a11), (80, v115)]) h116) :=
  (loopB_eq _ _).trans (by kernel_rfl)
theorem swashlaw22_PairReads_l2_eq (k : Nat) (call : Caller) (a5 a7 a9 a11 a12 : Value) (h : Heap) : swashlaw22_PairReads_l2 k call [(5, a5), (7, a7), (9, a9), (11, a11), (12, a12)] h =
  (binR Prog .lss 3 a12 (.int .i64 12) h).bind fun v119 h120 =>
  condV (some v119) (
    (call F.pair_Table_Get [a7, a11, a12] h120).bindT (fun p123 h124 => (loadR Prog 164 a9 h120).bindN fun v125 h126 => chkR ((okVal (loadR Prog 164 a9 h120) v125 && true) && true) (.panic p123 h124)) fun v121 h122 =>
    (loadR Prog 164 a9 h122).bindN fun v127 h128 =>
    (call F.swashref22_Get [v127, a11, a12] h128).bindT (fun p131 h132 => chkR ((okVal (loadR Prog 164 a9 h120) v127 && true) && true) (.panic p131 h132)) fun v129 h130 =>
    (binR Prog .neq 3 v121 v129 h130).bindN fun v133 h134 =>
    chkR ((okVal (loadR Prog 164 a9 h120) v127 && true) && true) (
    condV (some v133) (
      .ok (.ret, [(6, (.bool false))]) h134)
    (
      (binR Prog .add 3 a12 (.int .i64 1) h134).bind fun v135 h136 =>
      .ok (.normal, [(5, a5), (7, a7), (9, a9), (11, a11), (12, v135)]) h136)))
  (
    .ok ((.exit 2), [(5, a5), (7, a7), (9, a9), (11, a11), (12, a12), (84, v119)]) h120) :=
  (loopB_eq _ _).trans (by kernel_rfl)
theorem swashlaw22_PairReads_l1k_x0 (k : Nat) (call : Caller) (a5 a7 a9 a11 a80 : Value) (h : Heap) : swashlaw22_PairReads_l1k k call (.exit 0) [(5, a5), (7, a7), (9, a9), (11, a11), (80, a80)] h =
  (indexAddrR Prog 79 a5 (.int .i64 0) h).bindN fun v137 h138 =>
  (loadR Prog 3 v137 h138).bindN fun v139 h140 =>
  (indexAddrR Prog 79 a5 (.int .i64 1) h140).bindN fun v141 h142 =>
  (loadR Prog 3 v141 h142).bindN fun v143 h144 =>
  (call F.pair_Table_Get [a7, v139, v143] h144).bindT (fun p147 h148 => (loadR Prog 164 a9 h144).bindN fun v149 h150 => (indexAddrR Prog 79 a5 (.int .i64 0) h150).bindN fun v151 h152 => (loadR Prog 3 v151 h152).bindN fun v153 h154 => (indexAddrR Prog 79 a5 (.int .i64 1) h154).bindN fun v155 h156 => (loadR Prog 3 v155 h156).bindN fun v157 h158 => chkR ((okVal (loadR Prog 164 a9 h) v149 && true) && ((okVal (loadR Prog 3 v151 h) v153 && true) && ((okVal (loadR Prog 3 v155 h) v157 && true) && true))) (.panic p147 h148)) fun v145 h146 =>
  (loadR Prog 164 a9 h146).bindN fun v159 h160 =>
  (indexAddrR Prog 79 a5 (.int .i64 0) h160).bindN fun v161 h162 =>
  (loadR Prog 3 v161 h162).bindN fun v163 h164 =>
  (indexAddrR Prog 79 a5 (.int .i64 1) h164).bindN fun v165 h166 =>
  (loadR Prog 3 v165 h166).bindN fun v167 h168 =>
  (call F.swashref22_Get [v159, v163, v167] h168).bindT (fun p171 h172 => chkR ((okVal (loadR Prog 164 a9 h) v159 && true) && ((okVal (loadR Prog 3 v161 h) v163 && true) && ((okVal (loadR Prog 3 v165 h) v167 && true) && true))) (.panic p171 h172)) fun v169 h170 =>
  (binR Prog .eql 3 v145 v169 h170).bindN fun v173 h174 =>
  chkR ((okVal (loadR Prog 164 a9 h) v159 && true) && ((okVal (loadR Prog 3 v161 h) v163 && true) && ((okVal (loadR Prog 3 v165 h) v167 && true) && true))) (
  .ok v173 h174) := by kernel_rfl
theorem swashlaw22_PairReads_l2k_x2 (k : Nat) (call : Caller) (a5 a7 a9 a11 a12 a84 : Value) (h : Heap) : swashlaw22_PairReads_l2k k call (.exit 2) [(5, a5), (7, a7), (9, a9), (11, a11), (12, a12), (84, a84)] h =
  (binR Prog .add 3 a11 (.int .i64 1) h).bind fun v175 h176 =>
  .ok (.normal, [(5, a5), (7, a7), (9, a9), (11, v175)]) h176 := by kernel_rfl
def swashlaw22_PairLists_l1 (k : Nat) (call : Caller) : Env → Heap → Res (AExit × Env) := loopB (C k) call F.swashlaw22_PairLists [1, 1, 1, 1, 0, 1, 0, 0]
def swashlaw22_PairLists_l1k (k : Nat) (call : Caller) : Kont Value := kBlock 0 (kSeq (pieceK (C k) call F.swashlaw22_PairLists [1, 1, 1, 1, 1]) (kDone Prog (resOf Prog F.swashlaw22_PairLists)))
def swashlaw22_PairLists_j1 (k : Nat) (call : Caller) (a0 a1 a2 a7 a8 a20 a21 a22 : Value) (h : Heap) : Res (AExit × Env) :=
  kSeq (pieceK (C k) call F.swashlaw22_PairLists [1, 1, 1, 1, 0, 1, 0, 0, 1, 1, 1]) (kRound (ownOf (C k) F.swashlaw22_PairLists [1, 1, 1, 1, 0, 1, 0, 0])) .normal [(0, a0), (1, a1), (2, a2), (7, a7), (8, a8), (20, a20), (21, a21), (22, a22)] h
def swashlaw22_PairLists_j2 (k : Nat) (call : Caller) (a0 a1 a2 a7 a8 a10 a20 a21 a22 a74 : Value) (h : Heap) : Res (AExit × Env) :=
  kSeq (pieceK (C k) call F.swashlaw22_PairLists [1, 1, 1, 1, 0, 1, 0, 0, 1, 1, 1]) (kRound (ownOf (C k) F.swashlaw22_PairLists [1, 1, 1, 1, 0, 1, 0, 0])) .normal [(0, a0), (1, a1), (2, a2), (7, a7), (8, a8), (10, a10), (20, a20), (21, a21), (22, a22), (74, a74)] h
def swashlaw22_PairLists_l2 (k : Nat) (call : Caller) : Env → Heap → Res (AExit × Env) := loopB (C k) call F.swashlaw22_PairLists [1, 1, 1, 1, 1, 1, 1, 1, 0, 1, 0, 0]
def swashlaw22_PairLists_l2k (k : Nat) (call : Caller) : Kont Value := kBlock 2 (kSeq (pieceK (C k) call F.swashlaw22_PairLists [1, 1, 1, 1, 1, 1, 1, 1, 1]) (kDone Prog (resOf Prog F.swashlaw22_PairLists)))
def swashlaw22_PairLists (k : Nat) (call : Caller) (a0 a1 a2 : Value) (h : Heap) : Res Value :=
  (call F.swashlaw22_speaks [] h).bind fun v1 h2 =>
  (unR .not v1 h2).bind fun v3 h4 =>
  condV (some v3) (
    .ok (.bool false) h4)
  (
    (builtinV Prog .len [170] [a0] h4).bind fun v5 h6 =>
    (binR Prog .gtr 3 v5 (.int .i64 60) h6).bind fun v7 h8 =>
    condV (some v7) (
      .ok (.bool true) h8)
    (
      (builtinV Prog .len [170] [a0] h8).bind fun v9 h10 =>
      (loopN (swashlaw22_PairLists_l1 k call) loopFuel [(0, a0), (1, a1), (2, a2), (7, (.bool true)), (8, (.int .i64 0)), (20, a0), (21, v9), (22, (.int .i64 0))] h10).bind fun r11 h12 =>
      swashlaw22_PairLists_l1k k call r11.1 r11.2 h12))
theorem swashlaw22_PairLists_R (k : Nat) (a0 a1 a2 : Value) (h : Heap) : R (T k) F.swashlaw22_PairLists [a0, a1, a2] h = nrm .gc h (swashlaw22_PairLists k (R (T k)) a0 a1 a2 h) :=
  (R_body (t := T k) (T_scott k) (by kernel_rfl) _ _).trans (by kernel_rfl)
theorem swashlaw22_PairLists_l1_eq (k : Nat) (call : Caller) (a0 a1 a2 a7 a8 a20 a21 a22 : Value) (h : Heap) : swashlaw22_PairLists_l1 k call [(0, a0), (1, a1), (2, a2), (7, a7), (8, a8), (20, a20), (21, a21), (22, a22)] h =
  (binR Prog .lss 3 a22 a21 h).bind fun v13 h14 =>
  condV (some v13) (
    (indexAddrR Prog 170 a20 a22 h14).bind fun v15 h16 =>
    (loadR Prog 172 v15 h16).bind fun v17 h18 =>
    (allocR Prog 172 h18).bind fun v19 h20 =>
    (storeR Prog 172 v19 v17 h20).bind fun _v21 h22 =>
    ((bif wantVal a7 true then Res.ok a22 h22 else Res.ok undef h22)).bindN fun v23 h24 =>
    ((bif wantVal a7 true then binR Prog .eql 3 v23 (.int .i64 0) h24 else Res.ok undef h24)).bindN fun v25 h26 =>
    ((bif wantVal a7 true then Res.ok v25 h26 else Res.ok undef h26)).bindN fun v27 h28 =>
    ((bif wantVal v27 false then Res.ok a0 h28 else Res.ok undef h28)).bindN fun v29 h30 =>
    ((bif wantVal v27 false then Res.ok a22 h30 else Res.ok undef h30)).bindN fun v31 h32 =>
    ((bif wantVal v27 false then binR Prog .sub 3 v31 (.int .i64 1) h32 else Res.ok undef h32)).bindN fun v33 h34 =>
    ((bif wantVal v27 false then indexAddrR Prog 170 v29 v33 h34 else Res.ok undef h34)).bindN fun v35 h36 =>
    ((bif wantVal v27 false then fieldAddrR Prog 172 v35 0 h36 else Res.ok undef h36)).bindN fun v37 h38 =>
    ((bif wantVal v27 false then loadR Prog 62 v37 h38 else Res.ok undef h38)).bindN fun v39 h40 =>
    ((bif wantVal v27 false then fieldAddrR Prog 172 v19 0 h40 else Res.ok undef h40)).bindN fun v41 h42 =>
    ((bif wantVal v27 false then loadR Prog 62 v41 h42 else Res.ok undef h42)).bindN fun v43 h44 =>
    ((bif wantVal v27 false then binR Prog .lss 62 v39 v43 h44 else Res.ok undef h44)).bindN fun v45 h46 =>
    ((bif wantVal a7 true then condV (some v27) (Res.ok (.bool true) h46) (Res.ok v45 h46) else Res.ok undef h46)).bindN fun v47 h48 =>
    ((bif wantVal a7 true then Res.ok v47 h48 else Res.ok undef h48)).bindN fun v49 h50 =>
    ((bif wantVal v49 false then Res.ok a0 h50 else Res.ok undef h50)).bindN fun v51 h52 =>
    ((bif wantVal v49 false then Res.ok a22 h52 else Res.ok undef h52)).bindN fun v53 h54 =>
    ((bif wantVal v49 false then binR Prog .sub 3 v53 (.int .i64 1) h54 else Res.ok undef h54)).bindN fun v55 h56 =>
    ((bif wantVal v49 false then indexAddrR Prog 170 v51 v55 h56 else Res.ok undef h56)).bindN fun v57 h58 =>
    ((bif wantVal v49 false then fieldAddrR Prog 172 v57 0 h58 else Res.ok undef h58)).bindN fun v59 h60 =>
    ((bif wantVal v49 false then loadR Prog 62 v59 h60 else Res.ok undef h60)).bindN fun v61 h62 =>
    ((bif wantVal v49 false then fieldAddrR Prog 172 v19 0 h62 else Res.ok undef h62)).bindN fun v63 h64 =>
    ((bif wantVal v49 false then loadR Prog 62 v63 h64 else Res.ok undef h64)).bindN fun v65 h66 =>
    ((bif wantVal v49 false then binR Prog .eql 62 v61 v65 h66 else Res.ok undef h66)).bindN fun v67 h68 =>
    ((bif wantVal v49 false then Res.ok v67 h68 else Res.ok undef h68)).bindN fun v69 h70 =>
    ((bif wantVal v69 true then Res.ok a0 h70 else Res.ok undef h70)).bindN fun v71 h72 =>
    ((bif wantVal v69 true then Res.ok a22 h72 else Res.ok undef h72)).bindN fun v73 h74 =>
    ((bif wantVal v69 true then binR Prog .sub 3 v73 (.int .i64 1) h74 else Res.ok undef h74)).bindN fun v75 h76 =>
    ((bif wantVal v69 true then indexAddrR Prog 170 v71 v75 h76 else Res.ok undef h76)).bindN fun v77 h78 =>
    ((bif wantVal v69 true then fieldAddrR Prog 172 v77 1 h78 else Res.ok undef h78)).bindN fun v79 h80 =>
    ((bif wantVal v69 true then loadR Prog 62 v79 h80 else Res.ok undef h80)).bindN fun v81 h82 =>
    ((bif wantVal v69 true then fieldAddrR Prog 172 v19 1 h82 else Res.ok undef h82)).bindN fun v83 h84 =>
    ((bif wantVal v69 true then loadR Prog 62 v83 h84 else Res.ok undef h84)).bindN fun v85 h86 =>
    ((bif wantVal v69 true then binR Prog .lss 62 v81 v85 h86 else Res.ok undef h86)).bindN fun v87 h88 =>
    ((bif wantVal v49 false then condV (some v69) (Res.ok v87 h88) (Res.ok (.bool false) h88) else Res.ok undef h88)).bindN fun v89 h90 =>
    ((bif wantVal a7 true then condV (some v49) (Res.ok (.bool true) h90) (Res.ok v89 h90) else Res.ok undef h90)).bindN fun v91 h92 =>
    (condV (some a7) (Res.ok v91 h92) (Res.ok (.bool false) h92)).bindN fun v93 h94 =>
    (fieldAddrR Prog 172 v19 0 h94).bind fun v95 h96 =>
    (loadR Prog 62 v95 h96).bind fun v97 h98 =>
    (binR Prog .eql 62 v97 a1 h98).bind fun v99 h100 =>
    ((bif wantVal v99 true then fieldAddrR Prog 172 v19 1 h100 else Res.ok undef h100)).bind fun v101 h102 =>
    ((bif wantVal v99 true then loadR Prog 62 v101 h102 else Res.ok undef h102)).bind fun v103 h104 =>
    ((bif wantVal v99 true then Res.ok a2 h104 else Res.ok undef h104)).bind fun v105 h106 =>
    ((bif wantVal v99 true then binR Prog .eql 62 v103 v105 h106 else Res.ok undef h106)).bind fun v107 h108 =>
    (condV (some v99) (Res.ok v107 h108) (Res.ok (.bool false) h108)).bind fun v109 h110 =>
    condV (some v109) (
      (fieldAddrR Prog 172 v19 2 h110).bind fun v111 h112 =>
      (loadR Prog 120 v111 h112).bind fun v113 h114 =>
      (convR Prog 120 3 v113 h114).bind fun v115 h116 =>
      swashlaw22_PairLists_j1 k call a0 a1 a2 v93 v115 a20 a21 a22 h116)
    (
      swashlaw22_PairLists_j2 k call a0 a1 a2 v93 a8 v19 a20 a21 a22 v109 h110))
  (
    .ok ((.exit 0), [(0, a0), (1, a1), (2, a2), (7, a7), (8, a8), (20, a20), (21, a21), (22, a22), (23, v13)]) h14) :=
  (loopB_eq _ _).trans (by kernel_rfl)
theorem swashlaw22_PairLists_j1_eq (k : Nat) (call : Caller) (a0 a1 a2 a7 a8 a20 a21 a22 : Value) (h : Heap) : swashlaw22_PairLists_j1 k call a0 a1 a2 a7 a8 a20 a21 a22 h =
  (binR Prog .add 3 a22 (.int .i64 1) h).bind fun v117 h118 =>
  .ok (.normal, [(0, a0), (1, a1), (2, a2), (7, a7), (8, a8), (20, a20), (21, a21), (22, v117)]) h118 := by kernel_rfl
theorem swashlaw22_PairLists_j2_eq (k : Nat) (call : Caller) (a0 a1 a2 a7 a8 a10 a20 a21 a22 a74 : Value) (h : Heap) : swashlaw22_PairLists_j2 k call a0 a1 a2 a7 a8 a10 a20 a21 a22 a74 h =
  (binR Prog .add 3 a22 (.int .i64 1) h).bind fun v119 h120 =>
  .ok (.normal, [(0, a0), (1, a1), (2, a2), (7, a7), (8, a8), (20, a20), (21, a21), (22, v119)]) h120 := by kernel_rfl
theorem swashlaw22_PairLists_l1k_x0 (k : Nat) (call : Caller) (a0 a1 a2 a7 a8 a20 a21 a22 a23 : Value) (h : Heap) : swashlaw22_PairLists_l1k k call (.exit 0) [(0, a0), (1, a1), (2, a2), (7, a7), (8, a8), (20, a20), (21, a21), (22, a22), (23, a23)] h =
  (call F.swashlaw22_Write [a0] h).bind fun v121 h122 =>
  (call F.pair_Read [(.int .i64 0), v121, (.int .i64 9)] h122).bind fun v123 h124 =>
  (extractR v123 0 h124).bind fun v125 h126 =>
  (extractR v123 1 h126).bind fun v127 h128 =>
  (unR .not a7 h128).bind fun v129 h130 =>
  condV (some v129) (
    (binR Prog .eql 69 v127 (.int .i64 2) h130).bind fun v131 h132 =>
    ((bif wantVal v131 true then Res.ok v125 h132 else Res.ok undef h132)).bind fun v133 h134 =>
    ((bif wantVal v131 true then binR Prog .eql 160 v133 (.pointer none) h134 else Res.ok undef h134)).bind fun v135 h136 =>
    (condV (some v131) (Res.ok v135 h136) (Res.ok (.bool false) h136)).bind fun v137 h138 =>
    .ok v137 h138)
  (
    (binR Prog .neq 69 v127 (.int .i64 0) h130).bind fun v139 h140 =>
    ((bif wantVal v139 false then Res.ok v125 h140 else Res.ok undef h140)).bind fun v141 h142 =>
    ((bif wantVal v139 false then binR Prog .eql 160 v141 (.pointer none) h142 else Res.ok undef h142)).bind fun v143 h144 =>
    (condV (some v139) (Res.ok (.bool true) h144) (Res.ok v143 h144)).bind fun v145 h146 =>
    condV (some v145) (
      .ok (.bool false) h146)
    (
      (builtinV Prog .len [170] [a0] h146).bind fun v147 h148 =>
      (loopN (swashlaw22_PairLists_l2 k call) loopFuel [(1, a1), (2, a2), (8, a8), (11, v125), (99, a0), (100, v147), (101, (.int .i64 0))] h148).bind fun r149 h150 =>
      swashlaw22_PairLists_l2k k call r149.1 r149.2 h150)) := by kernel_rfl
theorem swashlaw22_PairLists_l2_eq (k : Nat) (call : Caller) (a1 a2 a8 a11 a99 a100 a101 : Value) (h : Heap) : swashlaw22_PairLists_l2 k call [(1, a1), (2, a2), (8, a8), (11, a11), (99, a99), (100, a100), (101, a101)] h =
  (binR Prog .lss 3 a101 a100 h).bind fun v151 h152 =>
  condV (some v151) (
    (indexAddrR Prog 170 a99 a101 h152).bind fun v153 h154 =>
    (loadR Prog 172 v153 h154).bind fun v155 h156 =>
    (allocR Prog 172 h156).bind fun v157 h158 =>
    (storeR Prog 172 v157 v155 h158).bind fun _v159 h160 =>
    (fieldAddrR Prog 172 v157 0 h160).bindN fun v161 h162 =>
    (loadR Prog 62 v161 h162).bindN fun v163 h164 =>
    (convR Prog 62 3 v163 h164).bindN fun v165 h166 =>
    (fieldAddrR Prog 172 v157 1 h166).bindN fun v167 h168 =>
    (loadR Prog 62 v167 h168).bindN fun v169 h170 =>
    (convR Prog 62 3 v169 h170).bindN fun v171 h172 =>
    (call F.pair_Table_Get [a11, v165, v171] h172).bindT (fun p175 h176 => (fieldAddrR Prog 172 v157 2 h172).bindN fun v177 h178 => (loadR Prog 120 v177 h178).bindN fun v179 h180 => (convR Prog 120 3 v179 h180).bindN fun v181 h182 => chkR ((okVal (loadR Prog 120 v177 h160) v179 && true) && true) (.panic p175 h176)) fun v173 h174 =>
    (fieldAddrR Prog 172 v157 2 h174).bindN fun v183 h184 =>
    (loadR Prog 120 v183 h184).bindN fun v185 h186 =>
    (convR Prog 120 3 v185 h186).bindN fun v187 h188 =>
    (binR Prog .neq 3 v173 v187 h188).bindN fun v189 h190 =>
    chkR ((okVal (loadR Prog 120 v183 h160) v185 && true) && true) (
    condV (some v189) (
      .ok (.ret, [(6, (.bool false))]) h190)
    (
      (binR Prog .add 3 a101 (.int .i64 1) h190).bind fun v191 h192 =>
      .ok (.normal, [(1, a1), (2, a2), (8, a8), (11, a11), (99, a99), (100, a100), (101, v191)]) h192)))
  (
    .ok ((.exit 2), [(1, a1), (2, a2), (8, a8), (11, a11), (99, a99), (100, a100), (101, a101), (102, v151)]) h152) :=
  (loopB_eq _ _).trans (by kernel_rfl)
theorem swashlaw22_PairLists_l2k_x2 (k : Nat) (call : Caller) (a1 a2 a8 a11 a99 a100 a101 a102 : Value) (h : Heap) : swashlaw22_PairLists_l2k k call (.exit 2) [(1, a1), (2, a2), (8, a8), (11, a11), (99, a99), (100, a100), (101, a101), (102, a102)] h =
  (convR Prog 62 3 a1 h).bind fun v193 h194 =>
  (convR Prog 62 3 a2 h194).bind fun v195 h196 =>
  (call F.pair_Table_Get [a11, v193, v195] h196).bind fun v197 h198 =>
  (binR Prog .eql 3 v197 a8 h198).bind fun v199 h200 =>
  ((bif wantVal v199 true then Res.ok a11 h200 else Res.ok undef h200)).bind fun v201 h202 =>
  ((bif wantVal v199 true then call F.pair_Table_Get [v201, (.int .i64 (-1)), (.int .i64 0)] h202 else Res.ok undef h202)).bind fun v203 h204 =>
  ((bif wantVal v199 true then binR Prog .eql 3 v203 (.int .i64 0) h204 else Res.ok undef h204)).bind fun v205 h206 =>
  (condV (some v199) (Res.ok v205 h206) (Res.ok (.bool false) h206)).bind fun v207 h208 =>
  ((bif wantVal v207 true then Res.ok a11 h208 else Res.ok undef h208)).bind fun v209 h210 =>
  ((bif wantVal v207 true then call F.pair_Table_Get [v209, (.int .i64 0), (.int .i64 65536)] h210 else Res.ok undef h210)).bind fun v211 h212 =>
  ((bif wantVal v207 true then binR Prog .eql 3 v211 (.int .i64 0) h212 else Res.ok undef h212)).bind fun v213 h214 =>
  (condV (some v207) (Res.ok v213 h214) (Res.ok (.bool false) h214)).bind fun v215 h216 =>
  .ok v215 h216 := by kernel_rfl
def swashlaw22_PairForms_l1 (k : Nat) (call : Caller) : Env → Heap → Res (AExit × Env) := loopB (C k) call F.swashlaw22_PairForms [1, 1, 1, 1, 0, 1, 0, 0]
def swashlaw22_PairForms_l1k (k : Nat) (call : Caller) : Kont Value := kBlock 0 (kSeq (pieceK (C k) call F.swashlaw22_PairForms [1, 1, 1, 1, 1]) (kDone Prog (resOf Prog F.swashlaw22_PairForms)))
def swashlaw22_PairForms_l2 (k : Nat) (call : Caller) : Env → Heap → Res (AExit × Env) := loopB (C k) call F.swashlaw22_PairForms [1, 1, 1, 1, 1, 0, 1, 0, 0]
def swashlaw22_PairForms_l2k (k : Nat) (call : Caller) : Kont Value := kBlock 2 (kSeq (pieceK (C k) call F.swashlaw22_PairForms [1, 1, 1, 1, 1, 1]) (kDone Prog (resOf Prog F.swashlaw22_PairForms)))
def swashlaw22_PairForms_j1 (k : Nat) (call : Caller) (a1 a2 a3 a7 a8 a9 a10 : Value) (h : Heap) : Res Value :=
  kSeq (pieceK (C k) call F.swashlaw22_PairForms [1, 1, 1, 1, 1, 1, 1]) (kDone Prog (resOf Prog F.swashlaw22_PairForms)) .normal [(1, a1), (2, a2), (3, a3), (7, a7), (8, a8), (9, a9), (10, a10)] h
def swashlaw22_PairForms_j2 (k : Nat) (call : Caller) (a1 a2 a3 a7 a8 a9 a10 a66 : Value) (h : Heap) : Res Value :=
  kSeq (pieceK (C k) call F.swashlaw22_PairForms [1, 1, 1, 1, 1, 1, 1]) (kDone Prog (resOf Prog F.swashlaw22_PairForms)) .normal [(1, a1), (2, a2), (3, a3), (7, a7), (8, a8), (9, a9), (10, a10), (66, a66)] h
def swashlaw22_PairForms_j3 (k : Nat) (call : Caller) (a1 a2 a3 a7 a8 a9 a10 : Value) (h : Heap) : Res Value :=
  kSeq (pieceK (C k) call F.swashlaw22_PairForms [1, 1, 1, 1, 1, 1, 1, 1]) (kDone Prog (resOf Prog F.swashlaw22_PairForms)) .normal [(1, a1), (2, a2), (3, a3), (7, a7), (8, a8), (9, a9), (10, a10)] h
def swashlaw22_PairForms_j4 (k : Nat) (call : Caller) (a1 a2 a3 a7 a8 a9 a10 a78 : Value) (h : Heap) : Res Value :=
  kSeq (pieceK (C k) call F.swashlaw22_PairForms [1, 1, 1, 1, 1, 1, 1, 1]) (kDone Prog (resOf Prog F.swashlaw22_PairForms)) .normal [(1, a1), (2, a2), (3, a3), (7, a7), (8, a8), (9, a9), (10, a10), (78, a78)] h
def swashlaw22_PairForms_l3 (k : Nat) (call : Caller) : Env → Heap → Res (AExit × Env) := loopB (C k) call F.swashlaw22_PairForms [1, 1, 1, 1, 1, 1, 1, 1, 0, 1, 0, 0]
def swashlaw22_PairForms_l3k (k : Nat) (call : Caller) : Kont Value := kBlock 4 (kSeq (pieceK (C k) call F.swashlaw22_PairForms [1, 1, 1, 1, 1, 1, 1, 1, 1]) (kDone Prog (resOf Prog F.swashlaw22_PairForms)))
def swashlaw22_PairForms_j5 (k : Nat) (call : Caller) (a1 a2 a3 a7 a8 a9 a10 a15 a16 a85 : Value) (h : Heap) : Res (AExit × Env) :=
  kSeq (pieceK (C k) call F.swashlaw22_PairForms [1, 1, 1, 1, 1, 1, 1, 1, 0, 1, 0, 0, 1, 1, 0, 0, 1, 1, 1]) (kBlock 5 (kSeq (pieceK (C k) call F.swashlaw22_PairForms [1, 1, 1, 1, 1, 1, 1, 1, 0, 1, 0, 0, 1, 1, 1]) (kRound (ownOf (C k) F.swashlaw22_PairForms [1, 1, 1, 1, 1, 1, 1, 1, 0, 1, 0, 0])))) .normal [(1, a1), (2, a2), (3, a3), (7, a7), (8, a8), (9, a9), (10, a10), (15, a15), (16, a16), (85, a85)] h
def swashlaw22_PairForms_j6 (k : Nat) (call : Caller) (a1 a2 a3 a7 a8 a9 a10 a15 a16 a85 a89 : Value) (h : Heap) : Res (AExit × Env) :=
  kSeq (pieceK (C k) call F.swashlaw22_PairForms [1, 1, 1, 1, 1, 1, 1, 1, 0, 1, 0, 0, 1, 1, 0, 0, 1, 1, 1]) (kBlock 5 (kSeq (pieceK (C k) call F.swashlaw22_PairForms [1, 1, 1, 1, 1, 1, 1, 1, 0, 1, 0, 0, 1, 1, 1]) (kRound (ownOf (C k) F.swashlaw22_PairForms [1, 1, 1, 1, 1, 1, 1, 1, 0, 1, 0, 0])))) .normal [(1, a1), (2, a2), (3, a3), (7, a7), (8, a8), (9, a9), (10, a10), (15, a15), (16, a16), (85, a85), (89, a89)] h
def swashlaw22_PairForms_j7 (k : Nat) (call : Caller) (a1 a2 a3 a7 a8 a9 a10 a85 a110 : Value) (h : Heap) : Res (AExit × Env) :=
  kSeq (pieceK (C k) call F.swashlaw22_PairForms [1, 1, 1, 1, 1, 1, 1, 1, 0, 1, 0, 0, 1, 1, 1]) (kRound (ownOf (C k) F.swashlaw22_PairForms [1, 1, 1, 1, 1, 1, 1, 1, 0, 1, 0, 0])) .normal [(1, a1), (2, a2), (3, a3), (7, a7), (8, a8), (9, a9), (10, a10), (85, a85), (110, a110)] h
def swashlaw22_PairForms_j8 (k : Nat) (call : Caller) (a1 a2 a3 a7 a8 a9 a10 a85 a133 : Value) (h : Heap) : Res (AExit × Env) :=
  kSeq (pieceK (C k) call F.swashlaw22_PairForms [1, 1, 1, 1, 1, 1, 1, 1, 0, 1, 0, 0, 1, 1, 1]) (kRound (ownOf (C k) F.swashlaw22_PairForms [1, 1, 1, 1, 1, 1, 1, 1, 0, 1, 0, 0])) .normal [(1, a1), (2, a2), (3, a3), (7, a7), (8, a8), (9, a9), (10, a10), (85, a85), (133, a133)] h
def swashlaw22_PairForms (k : Nat) (call : Caller) (a0 a1 a2 : Value) (h : Heap) : Res Value :=
  (boxR a0 h).bind fun v1 h2 =>
  (call F.swashlaw22_speaks [] h2).bind fun v3 h4 =>
  (unR .not v3 h4).bind fun v5 h6 =>
  condV (some v5) (
    .ok (.bool false) h6)
  (
    (fieldAddrR Prog 177 v1 0 h6).bind fun v7 h8 =>
    (loadR Prog 65 v7 h8).bind fun v9 h10 =>
    (builtinV Prog .len [65] [v9] h10).bind fun v11 h12 =>
    (binR Prog .gtr 3 v11 (.int .i64 20) h12).bind fun v13 h14 =>
    ((bif wantVal v13 false then fieldAddrR Prog 177 v1 1 h14 else Res.ok undef h14)).bind fun v15 h16 =>
    ((bif wantVal v13 false then loadR Prog 65 v15 h16 else Res.ok undef h16)).bind fun v17 h18 =>
    ((bif wantVal v13 false then builtinV Prog .len [65] [v17] h18 else Res.ok undef h18)).bind fun v19 h20 =>
    ((bif wantVal v13 false then binR Prog .gtr 3 v19 (.int .i64 20) h20 else Res.ok undef h20)).bind fun v21 h22 =>
    (condV (some v13) (Res.ok (.bool true) h22) (Res.ok v21 h22)).bind fun v23 h24 =>
    ((bif wantVal v23 false then fieldAddrR Prog 177 v1 2 h24 else Res.ok undef h24)).bind fun v25 h26 =>
    ((bif wantVal v23 false then loadR Prog 175 v25 h26 else Res.ok undef h26)).bind fun v27 h28 =>
    ((bif wantVal v23 false then builtinV Prog .len [175] [v27] h28 else Res.ok undef h28)).bind fun v29 h30 =>
    ((bif wantVal v23 false then binR Prog .gtr 3 v29 (.int .i64 600) h30 else Res.ok undef h30)).bind fun v31 h32 =>
    (condV (some v23) (Res.ok (.bool true) h32) (Res.ok v31 h32)).bind fun v33 h34 =>
    condV (some v33) (
      .ok (.bool true) h34)
    (
      (fieldAddrR Prog 177 v1 0 h34).bind fun v35 h36 =>
      (loadR Prog 65 v35 h36).bind fun v37 h38 =>
      (builtinV Prog .len [65] [v37] h38).bind fun v39 h40 =>
      (loopN (swashlaw22_PairForms_l1 k call) loopFuel [(1, a1), (2, a2), (3, v1), (7, (.int .i64 0)), (8, (.int .i64 0)), (9, (.int .i64 0)), (10, (.int .i64 0)), (38, v37), (39, v39), (40, (.int .i64 0))] h40).bind fun r41 h42 =>
      swashlaw22_PairForms_l1k k call r41.1 r41.2 h42))
theorem swashlaw22_PairForms_R (k : Nat) (a0 a1 a2 : Value) (h : Heap) : R (T k) F.swashlaw22_PairForms [a0, a1, a2] h = nrm .gc h (swashlaw22_PairForms k (R (T k)) a0 a1 a2 h) :=
  (R_body (t := T k) (T_scott k) (by kernel_rfl) _ _).trans (by kernel_rfl)
theorem swashlaw22_PairForms_l1_eq (k : Nat) (call : Caller) (a1 a2 a3 a7 a8 a9 a10 a38 a39 a40 : Value) (h : Heap) : swashlaw22_PairForms_l1 k call [(1, a1), (2, a2), (3, a3), (7, a7), (8, a8), (9, a9), (10, a10), (38, a38), (39, a39), (40, a40)] h =
  (binR Prog .lss 3 a40 a39 h).bind fun v43 h44 =>
  condV (some v43) (
    (indexAddrR Prog 65 a38 a40 h44).bind fun v45 h46 =>
    (loadR Prog 5 v45 h46).bind fun v47 h48 =>
    (convR Prog 5 3 v47 h48).bind fun v49 h50 =>
    (builtinV Prog .max [3, 3] [a9, v49] h50).bind fun v51 h52 =>
    (binR Prog .add 3 a40 (.int .i64 1) h52).bind fun v53 h54 =>
    .ok (.normal, [(1, a1), (2, a2), (3, a3), (7, a7), (8, a8), (9, v51), (10, a10), (38, a38), (39, a39), (40, v53)]) h54)
  (
    .ok ((.exit 0), [(1, a1), (2, a2), (3, a3), (7, a7), (8, a8), (9, a9), (10, a10), (38, a38), (39, a39), (40, a40), (41, v43)]) h44) :=
  (loopB_eq _ _).trans (by kernel_rfl)
theorem swashlaw22_PairForms_l1k_x0 (k : Nat) (call : Caller) (a1 a2 a3 a7 a8 a9 a10 a38 a39 a40 a41 : Value) (h : Heap) : swashlaw22_PairForms_l1k k call (.exit 0) [(1, a1), (2, a2), (3, a3), (7, a7), (8, a8), (9, a9), (10, a10), (38, a38), (39, a39), (40, a40), (41, a41)] h =
  (fieldAddrR Prog 177 a3 1 h).bind fun v55 h56 =>
  (loadR Prog 65 v55 h56).bind fun v57 h58 =>
  (builtinV Prog .len [65] [v57] h58).bind fun v59 h60 =>
  (loopN (swashlaw22_PairForms_l2 k call) loopFuel [(1, a1), (2, a2), (3, a3), (7, a7), (8, a8), (9, a9), (10, a10), (50, v57), (51, v59), (52, (.int .i64 0))] h60).bind fun r61 h62 =>
  swashlaw22_PairForms_l2k k call r61.1 r61.2 h62 := by kernel_rfl
theorem swashlaw22_PairForms_l2_eq (k : Nat) (call : Caller) (a1 a2 a3 a7 a8 a9 a10 a50 a51 a52 : Value) (h : Heap) : swashlaw22_PairForms_l2 k call [(1, a1), (2, a2), (3, a3), (7, a7), (8, a8), (9, a9), (10, a10), (50, a50), (51, a51), (52, a52)] h =
  (binR Prog .lss 3 a52 a51 h).bind fun v63 h64 =>
  condV (some v63) (
    (indexAddrR Prog 65 a50 a52 h64).bind fun v65 h66 =>
    (loadR Prog 5 v65 h66).bind fun v67 h68 =>
    (convR Prog 5 3 v67 h68).bind fun v69 h70 =>
    (builtinV Prog .max [3, 3] [a10, v69] h70).bind fun v71 h72 =>
    (binR Prog .add 3 a52 (.int .i64 1) h72).bind fun v73 h74 =>
    .ok (.normal, [(1, a1), (2, a2), (3, a3), (7, a7), (8, a8), (9, a9), (10, v71), (50, a50), (51, a51), (52, v73)]) h74)
  (
    .ok ((.exit 2), [(1, a1), (2, a2), (3, a3), (7, a7), (8, a8), (9, a9), (10, a10), (50, a50), (51, a51), (52, a52), (53, v63)]) h64) :=
  (loopB_eq _ _).trans (by kernel_rfl)
theorem swashlaw22_PairForms_l2k_x2 (k : Nat) (call : Caller) (a1 a2 a3 a7 a8 a9 a10 a50 a51 a52 a53 : Value) (h : Heap) : swashlaw22_PairForms_l2k k call (.exit 2) [(1, a1), (2, a2), (3, a3), (7, a7), (8, a8), (9, a9), (10, a10), (50, a50), (51, a51), (52, a52), (53, a53)] h =
  (convR Prog 5 3 a1 h).bind fun v75 h76 =>
  (fieldAddrR Prog 177 a3 0 h76).bind fun v77 h78 =>
  (loadR Prog 65 v77 h78).bind fun v79 h80 =>
  (builtinV Prog .len [65] [v79] h80).bind fun v81 h82 =>
  (binR Prog .lss 3 v75 v81 h82).bind fun v83 h84 =>
  condV (some v83) (
    (fieldAddrR Prog 177 a3 0 h84).bind fun v85 h86 =>
    (loadR Prog 65 v85 h86).bind fun v87 h88 =>
    (indexAddrR Prog 65 v87 a1 h88).bind fun v89 h90 =>
    (loadR Prog 5 v89 h90).bind fun v91 h92 =>
    (convR Prog 5 3 v91 h92).bind fun v93 h94 =>
    swashlaw22_PairForms_j1 k call a1 a2 a3 v93 a8 a9 a10 h94)
  (
    swashlaw22_PairForms_j2 k call a1 a2 a3 a7 a8 a9 a10 v83 h84) := by kernel_rfl
theorem swashlaw22_PairForms_j1_eq (k : Nat) (call : Caller) (a1 a2 a3 a7 a8 a9 a10 : Value) (h : Heap) : swashlaw22_PairForms_j1 k call a1 a2 a3 a7 a8 a9 a10 h =
  (convR Prog 5 3 a2 h).bind fun v95 h96 =>
  (fieldAddrR Prog 177 a3 1 h96).bind fun v97 h98 =>
  (loadR Prog 65 v97 h98).bind fun v99 h100 =>
  (builtinV Prog .len [65] [v99] h100).bind fun v101 h102 =>
  (binR Prog .lss 3 v95 v101 h102).bind fun v103 h104 =>
  condV (some v103) (
    (fieldAddrR Prog 177 a3 1 h104).bind fun v105 h106 =>
    (loadR Prog 65 v105 h106).bind fun v107 h108 =>
    (indexAddrR Prog 65 v107 a2 h108).bind fun v109 h110 =>
    (loadR Prog 5 v109 h110).bind fun v111 h112 =>
    (convR Prog 5 3 v111 h112).bind fun v113 h114 =>
    swashlaw22_PairForms_j3 k call a1 a2 a3 a7 v113 a9 a10 h114)
  (
    swashlaw22_PairForms_j4 k call a1 a2 a3 a7 a8 a9 a10 v103 h104) := by kernel_rfl
theorem swashlaw22_PairForms_j2_eq (k : Nat) (call : Caller) (a1 a2 a3 a7 a8 a9 a10 a66 : Value) (h : Heap) : swashlaw22_PairForms_j2 k call a1 a2 a3 a7 a8 a9 a10 a66 h =
  (convR Prog 5 3 a2 h).bind fun v115 h116 =>
  (fieldAddrR Prog 177 a3 1 h116).bind fun v117 h118 =>
  (loadR Prog 65 v117 h118).bind fun v119 h120 =>
  (builtinV Prog .len [65] [v119] h120).bind fun v121 h122 =>
  (binR Prog .lss 3 v115 v121 h122).bind fun v123 h124 =>
  condV (some v123) (
    (fieldAddrR Prog 177 a3 1 h124).bind fun v125 h126 =>
    (loadR Prog 65 v125 h126).bind fun v127 h128 =>
    (indexAddrR Prog 65 v127 a2 h128).bind fun v129 h130 =>
    (loadR Prog 5 v129 h130).bind fun v131 h132 =>
    (convR Prog 5 3 v131 h132).bind fun v133 h134 =>
    swashlaw22_PairForms_j3 k call a1 a2 a3 a7 v133 a9 a10 h134)
  (
    swashlaw22_PairForms_j4 k call a1 a2 a3 a7 a8 a9 a10 v123 h124) := by kernel_rfl
theorem swashlaw22_PairForms_j3_eq (k : Nat) (call : Caller) (a1 a2 a3 a7 a8 a9 a10 : Value) (h : Heap) : swashlaw22_PairForms_j3 k call a1 a2 a3 a7 a8 a9 a10 h =
  (loopN (swashlaw22_PairForms_l3 k call) loopFuel [(1, a1), (2, a2), (3, a3), (7, a7), (8, a8), (9, a9), (10, a10), (85, (.int .i64 0))] h).bind fun r135 h136 =>
  swashlaw22_PairForms_l3k k call r135.1 r135.2 h136 := by kernel_rfl
theorem swashlaw22_PairForms_j4_eq (k : Nat) (call : Caller) (a1 a2 a3 a7 a8 a9 a10 a78 : Value) (h : Heap) : swashlaw22_PairForms_j4 k call a1 a2 a3 a7 a8 a9 a10 a78 h =
  (loopN (swashlaw22_PairForms_l3 k call) loopFuel [(1, a1), (2, a2), (3, a3), (7, a7), (8, a8), (9, a9), (10, a10), (85, (.int .i64 0))] h).bind fun r137 h138 =>
  swashlaw22_PairForms_l3k k call r137.1 r137.2 h138 := by kernel_rfl
theorem swashlaw22_PairForms_l3_eq (k : Nat) (call : Caller) (a1 a2 a3 a7 a8 a9 a10 a85 : Value) (h : Heap) : swashlaw22_PairForms_l3 k call [(1, a1), (2, a2), (3, a3), (7, a7), (8, a8), (9, a9), (10, a10), (85, a85)] h =
  (binR Prog .lss 3 a85 (.int .i64 3) h).bind fun v139 h140 =>
  condV (some v139) (
    (binR Prog .eql 3 a85 (.int .i64 0) h140).bind fun v141 h142 =>
    condV (some v141) (
      swashlaw22_PairForms_j5 k call a1 a2 a3 a7 a8 a9 a10 a85 (.int .i64 2) a85 h142)
    (
      swashlaw22_PairForms_j6 k call a1 a2 a3 a7 a8 a9 a10 a85 (.int .i64 6) a85 v141 h142))
  (
    .ok ((.exit 4), [(1, a1), (2, a2), (3, a3), (7, a7), (8, a8), (9, a9), (10, a10), (85, a85), (86, v139)]) h140) :=
  (loopB_eq _ _).trans (by kernel_rfl)
theorem swashlaw22_PairForms_j5_eq (k : Nat) (call : Caller) (a1 a2 a3 a7 a8 a9 a10 a15 a16 a85 : Value) (h : Heap) : swashlaw22_PairForms_j5 k call a1 a2 a3 a7 a8 a9 a10 a15 a16 a85 h =
  (loadR Prog 177 a3 h).bind fun v143 h144 =>
  (call F.swashlaw22_WriteGrid [v143, a15] h144).bind fun v145 h146 =>
  (call F.pair_Read [a16, v145, (.int .i64 300)] h146).bind fun v147 h148 =>
  (extractR v147 0 h148).bind fun v149 h150 =>
  (extractR v147 1 h150).bind fun v151 h152 =>
  (binR Prog .add 3 a9 a10 h152).bind fun v153 h154 =>
  (fieldAddrR Prog 177 a3 2 h154).bind fun v155 h156 =>
  (loadR Prog 175 v155 h156).bind fun v157 h158 =>
  (builtinV Prog .len [175] [v157] h158).bind fun v159 h160 =>
  (binR Prog .geq 3 v153 v159 h160).bind fun v161 h162 =>
  condV (some v161) (
    (binR Prog .neq 69 v151 (.int .i64 2) h162).bind fun v163 h164 =>
    ((bif wantVal v163 false then Res.ok v149 h164 else Res.ok undef h164)).bind fun v165 h166 =>
    ((bif wantVal v163 false then binR Prog .neq 160 v165 (.pointer none) h166 else Res.ok undef h166)).bind fun v167 h168 =>
    (condV (some v163) (Res.ok (.bool true) h168) (Res.ok v167 h168)).bind fun v169 h170 =>
    condV (some v169) (
      .ok (.ret, [(6, (.bool false))]) h170)
    (
      swashlaw22_PairForms_j7 k call a1 a2 a3 a7 a8 a9 a10 a85 v169 h170))
  (
    (binR Prog .neq 69 v151 (.int .i64 0) h162).bindN fun v171 h172 =>
    ((bif wantVal v171 false then Res.ok v149 h172 else Res.ok undef h172)).bindN fun v173 h174 =>
    ((bif wantVal v171 false then binR Prog .eql 160 v173 (.pointer none) h174 else Res.ok undef h174)).bindN fun v175 h176 =>
    (condV (some v171) (Res.ok (.bool true) h176) (Res.ok v175 h176)).bindN fun v177 h178 =>
    ((bif wantVal v177 false then Res.ok v149 h178 else Res.ok undef h178)).bindN fun v179 h180 =>
    ((bif wantVal v177 false then Res.ok a1 h180 else Res.ok undef h180)).bindN fun v181 h182 =>
    ((bif wantVal v177 false then convR Prog 5 3 v181 h182 else Res.ok undef h182)).bindN fun v183 h184 =>
    ((bif wantVal v177 false then Res.ok a2 h184 else Res.ok undef h184)).bindN fun v185 h186 =>
    ((bif wantVal v177 false then convR Prog 5 3 v185 h186 else Res.ok undef h186)).bindN fun v187 h188 =>
    ((bif wantVal v177 false then call F.pair_Table_Get [v179, v183, v187] h188 else Res.ok undef h188)).bindT (fun p191 h192 => ((bif wantVal v177 false then fieldAddrR Prog 177 a3 2 h188 else Res.ok undef h188)).bindN fun v193 h194 => ((bif wantVal v177 false then loadR Prog 175 v193 h194 else Res.ok undef h194)).bindN fun v195 h196 => ((bif wantVal v177 false then Res.ok a7 h196 else Res.ok undef h196)).bindN fun v197 h198 => ((bif wantVal v177 false then Res.ok a8 h198 else Res.ok undef h198)).bindN fun v199 h200 => ((bif wantVal v177 false then binR Prog .add 3 v197 v199 h200 else Res.ok undef h200)).bindN fun v201 h202 => ((bif wantVal v177 false then indexAddrR Prog 175 v195 v201 h202 else Res.ok undef h202)).bindN fun v203 h204 => ((bif wantVal v177 false then loadR Prog 120 v203 h204 else Res.ok undef h204)).bindN fun v205 h206 => ((bif wantVal v177 false then convR Prog 120 3 v205 h206 else Res.ok undef h206)).bindN fun v207 h208 => chkR ((okVal ((bif wantVal v177 false then loadR Prog 175 v193 h162 else Res.ok undef h162)) v195 && true) && ((okVal ((bif wantVal v177 false then loadR Prog 120 v203 h162 else Res.ok undef h162)) v205 && true) && true)) (.panic p191 h192)) fun v189 h190 =>
    ((bif wantVal v177 false then fieldAddrR Prog 177 a3 2 h190 else Res.ok undef h190)).bindN fun v209 h210 =>
    ((bif wantVal v177 false then loadR Prog 175 v209 h210 else Res.ok undef h210)).bindN fun v211 h212 =>
    ((bif wantVal v177 false then Res.ok a7 h212 else Res.ok undef h212)).bindN fun v213 h214 =>
    ((bif wantVal v177 false then Res.ok a8 h214 else Res.ok undef h214)).bindN fun v215 h216 =>
    ((bif wantVal v177 false then binR Prog .add 3 v213 v215 h216 else Res.ok undef h216)).bindN fun v217 h218 =>
    ((bif wantVal v177 false then indexAddrR Prog 175 v211 v217 h218 else Res.ok undef h218)).bindN fun v219 h220 =>
    ((bif wantVal v177 false then loadR Prog 120 v219 h220 else Res.ok undef h220)).bindN fun v221 h222 =>
    ((bif wantVal v177 false then convR Prog 120 3 v221 h222 else Res.ok undef h222)).bindN fun v223 h224 =>
    ((bif wantVal v177 false then binR Prog .neq 3 v189 v223 h224 else Res.ok undef h224)).bindN fun v225 h226 =>
    (condV (some v177) (Res.ok (.bool true) h226) (Res.ok v225 h226)).bindN fun v227 h228 =>
    chkR ((okVal ((bif wantVal v177 false then loadR Prog 175 v209 h162 else Res.ok undef h162)) v211 && true) && ((okVal ((bif wantVal v177 false then loadR Prog 120 v219 h162 else Res.ok undef h162)) v221 && true) && true)) (
    condV (some v227) (
      .ok (.ret, [(6, (.bool false))]) h228)
    (
      swashlaw22_PairForms_j8 k call a1 a2 a3 a7 a8 a9 a10 a85 v227 h228))) := by kernel_rfl
theorem swashlaw22_PairForms_j6_eq (k : Nat) (call : Caller) (a1 a2 a3 a7 a8 a9 a10 a15 a16 a85 a89 : Value) (h : Heap) : swashlaw22_PairForms_j6 k call a1 a2 a3 a7 a8 a9 a10 a15 a16 a85 a89 h =
  (loadR Prog 177 a3 h).bind fun v229 h230 =>
  (call F.swashlaw22_WriteGrid [v229, a15] h230).bind fun v231 h232 =>
  (call F.pair_Read [a16, v231, (.int .i64 300)] h232).bind fun v233 h234 =>
  (extractR v233 0 h234).bind fun v235 h236 =>
  (extractR v233 1 h236).bind fun v237 h238 =>
  (binR Prog .add 3 a9 a10 h238).bind fun v239 h240 =>
  (fieldAddrR Prog 177 a3 2 h240).bind fun v241 h242 =>
  (loadR Prog 175 v241 h242).bind fun v243 h244 =>
  (builtinV Prog .len [175] [v243] h244).bind fun v245 h246 =>
  (binR Prog .geq 3 v239 v245 h246).bind fun v247 h248 =>
  condV (some v247) (
    (binR Prog .neq 69 v237 (.int .i64 2) h248).bind fun v249 h250 =>
    ((bif wantVal v249 false then Res.ok v235 h250 else Res.ok undef h250)).bind fun v251 h252 =>
    ((bif wantVal v249 false then binR Prog .neq 160 v251 (.pointer none) h252 else Res.ok undef h252)).bind fun v253 h254 =>
    (condV (some v249) (Res.ok (.bool true) h254) (Res.ok v253 h254)).bind fun v255 h256 =>
    condV (some v255) (
      .ok (.ret, [(6, (.bool false))]) h256)
    (
      swashlaw22_PairForms_j7 k call a1 a2 a3 a7 a8 a9 a10 a85 v255 h256))
  (
    (binR Prog .neq 69 v237 (.int .i64 0) h248).bindN fun v257 h258 =>
    ((bif wantVal v257 false then Res.ok v235 h258 else Res.ok undef h258)).bindN fun v259 h260 =>
    ((bif wantVal v257 false then binR Prog .eql 160 v259 (.pointer none) h260 else Res.ok undef h260)).bindN fun v261 h262 =>
    (condV (some v257) (Res.ok (.bool true) h262) (Res.ok v261 h262)).bindN fun v263 h264 =>
    ((bif wantVal v263 false then Res.ok v235 h264 else Res.ok undef h264)).bindN fun v265 h266 =>
    ((bif wantVal v263 false then Res.ok a1 h266 else Res.ok undef h266)).bindN fun v267 h268 =>
    ((bif wantVal v263 false then convR Prog 5 3 v267 h268 else Res.ok undef h268)).bindN fun v269 h270 =>
    ((bif wantVal v263 false then Res.ok a2 h270 else Res.ok undef h270)).bindN fun v271 h272 =>
    ((bif wantVal v263 false then convR Prog 5 3 v271 h272 else Res.ok undef h272)).bindN fun v273 h274 =>
    ((bif wantVal v263 false then call F.pair_Table_Get [v265, v269, v273] h274 else Res.ok undef h274)).bindT (fun p277 h278 => ((bif wantVal v263 false then fieldAddrR Prog 177 a3 2 h274 else Res.ok undef h274)).bindN fun v279 h280 => ((bif wantVal v263 false then loadR Prog 175 v279 h280 else Res.ok undef h280)).bindN fun v281 h282 => ((bif wantVal v263 false then Res.ok a7 h282 else Res.ok undef h282)).bindN fun v283 h284 => ((bif wantVal v263 false then Res.ok a8 h284 else Res.ok undef h284)).bindN fun v285 h286 => ((bif wantVal v263 false then binR Prog .add 3 v283 v285 h286 else Res.ok undef h286)).bindN fun v287 h288 => ((bif wantVal v263 false then indexAddrR Prog 175 v281 v287 h288 else Res.ok undef h288)).bindN fun v289 h290 => ((bif wantVal v263 false then loadR Prog 120 v289 h290 else Res.ok undef h290)).bindN fun v291 h292 => ((bif wantVal v263 false then convR Prog 120 3 v291 h292 else Res.ok undef h292)).bindN fun v293 h294 => chkR ((okVal ((bif wantVal v263 false then loadR Prog 175 v279 h248 else Res.ok undef h248)) v281 && true) && ((okVal ((bif wantVal v263 false then loadR Prog 120 v289 h248 else Res.ok undef h248)) v291 && true) && true)) (.panic p277 h278)) fun v275 h276 =>
    ((bif wantVal v263 false then fieldAddrR Prog 177 a3 2 h276 else Res.ok undef h276)).bindN fun v295 h296 =>
    ((bif wantVal v263 false then loadR Prog 175 v295 h296 else Res.ok undef h296)).bindN fun v297 h298 =>
    ((bif wantVal v263 false then Res.ok a7 h298 else Res.ok undef h298)).bindN fun v299 h300 =>
    ((bif wantVal v263 false then Res.ok a8 h300 else Res.ok undef h300)).bindN fun v301 h302 =>
    ((bif wantVal v263 false then binR Prog .add 3 v299 v301 h302 else Res.ok undef h302)).bindN fun v303 h304 =>
    ((bif wantVal v263 false then indexAddrR Prog 175 v297 v303 h304 else Res.ok undef h304)).bindN fun v305 h306 =>
    ((bif wantVal v263 false then loadR Prog 120 v305 h306 else Res.ok undef h306)).bindN fun v307 h308 =>
    ((bif wantVal v263 false then convR Prog 120 3 v307 h308 else Res.ok undef h308)).bindN fun v309 h310 =>
    ((bif wantVal v263 false then binR Prog .neq 3 v275 v309 h310 else Res.ok undef h310)).bindN fun v311 h312 =>
    (condV (some v263) (Res.ok (.bool true) h312) (Res.ok v311 h312)).bindN fun v313 h314 =>
    chkR ((okVal ((bif wantVal v263 false then loadR Prog 175 v295 h248 else Res.ok undef h248)) v297 && true) && ((okVal ((bif wantVal v263 false then loadR Prog 120 v305 h248 else Res.ok undef h248)) v307 && true) && true)) (
    condV (some v313) (
      .ok (.ret, [(6, (.bool false))]) h314)
    (
      swashlaw22_PairForms_j8 k call a1 a2 a3 a7 a8 a9 a10 a85 v313 h314))) := by kernel_rfl
theorem swashlaw22_PairForms_j7_eq (k : Nat) (call : Caller) (a1 a2 a3 a7 a8 a9 a10 a85 a110 : Value) (h : Heap) : swashlaw22_PairForms_j7 k call a1 a2 a3 a7 a8 a9 a10 a85 a110 h =
  (binR Prog .add 3 a85 (.int .i64 1) h).bind fun v315 h316 =>
  .ok (.normal, [(1, a1), (2, a2), (3, a3), (7, a7), (8, a8), (9, a9), (10, a10), (85, v315)]) h316 := by kernel_rfl
theorem swashlaw22_PairForms_j8_eq (k : Nat) (call : Caller) (a1 a2 a3 a7 a8 a9 a10 a85 a133 : Value) (h : Heap) : swashlaw22_PairForms_j8 k call a1 a2 a3 a7 a8 a9 a10 a85 a133 h =
  (binR Prog .add 3 a85 (.int .i64 1) h).bind fun v317 h318 =>
  .ok (.normal, [(1, a1), (2, a2), (3, a3), (7, a7), (8, a8), (9, a9), (10, a10), (85, v317)]) h318 := by kernel_rfl
theorem swashlaw22_PairForms_l3k_x4 (k : Nat) (call : Caller) (a1 a2 a3 a7 a8 a9 a10 a85 a86 : Value) (h : Heap) : swashlaw22_PairForms_l3k k call (.exit 4) [(1, a1), (2, a2), (3, a3), (7, a7), (8, a8), (9, a9), (10, a10), (85, a85), (86, a86)] h =
  .ok (.bool true) h := by kernel_rfl
def swashlaw22_PairTakes_l1 (k : Nat) (call : Caller) : Env → Heap → Res (AExit × Env) := loopB (C k) call F.swashlaw22_PairTakes [1, 1, 1, 1, 1, 1, 1, 0, 1, 0, 0]
def swashlaw22_PairTakes_l1k (k : Nat) (call : Caller) : Kont Value := kBlock 0 (kSeq (pieceK (C k) call F.swashlaw22_PairTakes [1, 1, 1, 1, 1, 1, 1, 1]) (kDone Prog (resOf Prog F.swashlaw22_PairTakes)))
def swashlaw22_PairTakes_l2 (k : Nat) (call : Caller) : Env → Heap → Res (AExit × Env) := loopB (C k) call F.swashlaw22_PairTakes [1, 1, 1, 1, 1, 1, 1, 0, 1, 0, 0, 1, 0, 0, 1, 0, 0]
def swashlaw22_PairTakes_l2k (k : Nat) (call : Caller) : Kont (AExit × Env) := kBlock 2 (kBlock 1 (kSeq (pieceK (C k) call F.swashlaw22_PairTakes [1, 1, 1, 1, 1, 1, 1, 0, 1, 0, 0, 1, 1]) (kRound (ownOf (C k) F.swashlaw22_PairTakes [1, 1, 1, 1, 1, 1, 1, 0, 1, 0, 0]))))
def swashlaw22_PairTakes (k : Nat) (call : Caller) (a0 a1 : Value) (h : Heap) : Res Value :=
  (boxR a0 h).bind fun v1 h2 =>
  (boxR a1 h2).bind fun v3 h4 =>
  (call F.swashlaw22_speaks [] h4).bind fun v5 h6 =>
  (unR .not v5 h6).bind fun v7 h8 =>
  condV (some v7) (
    .ok (.bool false) h8)
  (
    (loadR Prog 65 v1 h8).bind fun v9 h10 =>
    (builtinV Prog .len [65] [v9] h10).bind fun v11 h12 =>
    (binR Prog .gtr 3 v11 (.int .i64 600) h12).bind fun v13 h14 =>
    condV (some v13) (
      .ok (.bool true) h14)
    (
      (allocR Prog 160 h14).bind fun v15 h16 =>
      (call F.view_Try [(.func (.func F.swashlaw22_PairTakes_in1) #[] #[v3, v1, v15])] h16).bind fun v17 h18 =>
      (loadR Prog 3 v3 h18).bind fun v19 h20 =>
      (loadR Prog 65 v1 h20).bind fun v21 h22 =>
      (call F.pair_Read [v19, v21, (.int .i64 20)] h22).bind fun v23 h24 =>
      (extractR v23 0 h24).bind fun v25 h26 =>
      (extractR v23 1 h26).bind fun v27 h28 =>
      (binR Prog .eql 69 v27 (.int .i64 0) h28).bind fun v29 h30 =>
      (binR Prog .neq 4 v17 v29 h30).bind fun v31 h32 =>
      ((bif wantVal v31 false then Res.ok v17 h32 else Res.ok undef h32)).bind fun v33 h34 =>
      ((bif wantVal v31 false then loadR Prog 160 v15 h34 else Res.ok undef h34)).bind fun v35 h36 =>
      ((bif wantVal v31 false then binR Prog .neq 160 v35 (.pointer none) h36 else Res.ok undef h36)).bind fun v37 h38 =>
      ((bif wantVal v31 false then binR Prog .neq 4 v33 v37 h38 else Res.ok undef h38)).bind fun v39 h40 =>
      (condV (some v31) (Res.ok (.bool true) h40) (Res.ok v39 h40)).bind fun v41 h42 =>
      ((bif wantVal v41 false then Res.ok v17 h42 else Res.ok undef h42)).bind fun v43 h44 =>
      ((bif wantVal v41 false then Res.ok v25 h44 else Res.ok undef h44)).bind fun v45 h46 =>
      ((bif wantVal v41 false then binR Prog .neq 160 v45 (.pointer none) h46 else Res.ok undef h46)).bind fun v47 h48 =>
      ((bif wantVal v41 false then binR Prog .neq 4 v43 v47 h48 else Res.ok undef h48)).bind fun v49 h50 =>
      (condV (some v41) (Res.ok (.bool true) h50) (Res.ok v49 h50)).bind fun v51 h52 =>
      condV (some v51) (
        .ok (.bool false) h52)
      (
        (loopN (swashlaw22_PairTakes_l1 k call) loopFuel [(5, v15), (6, v17), (7, v25), (9, (.int .i64 (-1)))] h52).bind fun r53 h54 =>
        swashlaw22_PairTakes_l1k k call r53.1 r53.2 h54)))
theorem swashlaw22_PairTakes_R (k : Nat) (a0 a1 : Value) (h : Heap) : R (T k) F.swashlaw22_PairTakes [a0, a1] h = nrm .gc h (swashlaw22_PairTakes k (R (T k)) a0 a1 h) :=
  (R_body (t := T k) (T_scott k) (by kernel_rfl) _ _).trans (by kernel_rfl)
theorem swashlaw22_PairTakes_l1_eq (k : Nat) (call : Caller) (a5 a6 a7 a9 : Value) (h : Heap) : swashlaw22_PairTakes_l1 k call [(5, a5), (6, a6), (7, a7), (9, a9)] h =
  ((bif wantVal a6 true then Res.ok a9 h else Res.ok undef h)).bind fun v55 h56 =>
  ((bif wantVal a6 true then binR Prog .lss 3 v55 (.int .i64 12) h56 else Res.ok undef h56)).bind fun v57 h58 =>
  (condV (some a6) (Res.ok v57 h58) (Res.ok (.bool false) h58)).bind fun v59 h60 =>
  condV (some v59) (
    (loopN (swashlaw22_PairTakes_l2 k call) loopFuel [(5, a5), (6, a6), (7, a7), (9, a9), (10, (.int .i64 (-1)))] h60).bind fun r61 h62 =>
    swashlaw22_PairTakes_l2k k call r61.1 r61.2 h62)
  (
    .ok ((.exit 0), [(5, a5), (6, a6), (7, a7), (9, a9), (44, v59)]) h60) :=
  (loopB_eq _ _).trans (by kernel_rfl)
theorem swashlaw22_PairTakes_l2_eq (k : Nat) (call : Caller) (a5 a6 a7 a9 a10 : Value) (h : Heap) : swashlaw22_PairTakes_l2 k call [(5, a5), (6, a6), (7, a7), (9, a9), (10, a10)] h =
  (binR Prog .lss 3 a10 (.int .i64 12) h).bind fun v63 h64 =>
  condV (some v63) (
    (loadR Prog 160 a5 h64).bind fun v65 h66 =>
    (call F.pair_Table_Get [v65, a9, a10] h66).bind fun v67 h68 =>
    (call F.pair_Table_Get [a7, a9, a10] h68).bind fun v69 h70 =>
    (binR Prog .neq 3 v67 v69 h70).bind fun v71 h72 =>
    condV (some v71) (
      .ok (.ret, [(4, (.bool false))]) h72)
    (
      (binR Prog .add 3 a10 (.int .i64 1) h72).bind fun v73 h74 =>
      .ok (.normal, [(5, a5), (6, a6), (7, a7), (9, a9), (10, v73)]) h74))
  (
    .ok ((.exit 2), [(5, a5), (6, a6), (7, a7), (9, a9), (10, a10), (48, v63)]) h64) :=
  (loopB_eq _ _).trans (by kernel_rfl)
theorem swashlaw22_PairTakes_l1k_x0 (k : Nat) (call : Caller) (a5 a6 a7 a9 a44 : Value) (h : Heap) : swashlaw22_PairTakes_l1k k call (.exit 0) [(5, a5), (6, a6), (7, a7), (9, a9), (44, a44)] h =
  .ok (.bool true) h := by kernel_rfl
theorem swashlaw22_PairTakes_l2k_x2 (k : Nat) (call : Caller) (a5 a6 a7 a9 a10 a48 : Value) (h : Heap) : swashlaw22_PairTakes_l2k k call (.exit 2) [(5, a5), (6, a6), (7, a7), (9, a9), (10, a10), (48, a48)] h =
  (binR Prog .add 3 a9 (.int .i64 1) h).bind fun v75 h76 =>
  .ok (.normal, [(5, a5), (6, a6), (7, a7), (9, v75)]) h76 := by kernel_rfl
def swashlaw22_Write_l1 (k : Nat) (call : Caller) : Env → Heap → Res (AExit × Env) := loopB (C k) call F.swashlaw22_Write [1, 1, 0, 1, 0, 0]
def swashlaw22_Write_l1k (k : Nat) (call : Caller) : Kont Value := kBlock 0 (kSeq (pieceK (C k) call F.swashlaw22_Write [1, 1, 1]) (kDone Prog (resOf Prog F.swashlaw22_Write)))
def swashlaw22_Write (k : Nat) (call : Caller) (a0 : Value) (h : Heap) : Res Value :=
  (builtinV Prog .len [170] [a0] h).bind fun v1 h2 =>
  (call F.swashref02_Put [(.slice none 0 0), v1, (.int .i64 4)] h2).bind fun v3 h4 =>
  (builtinV Prog .append [65, 3] [v3, (.int .i64 12)] h4).bind fun v5 h6 =>
  (builtinV Prog .len [170] [a0] h6).bind fun v7 h8 =>
  (loopN (swashlaw22_Write_l1 k call) loopFuel [(3, v5), (10, a0), (11, v7), (12, (.int .i64 0))] h8).bind fun r9 h10 =>
  swashlaw22_Write_l1k k call r9.1 r9.2 h10
theorem swashlaw22_Write_R (k : Nat) (a0 : Value) (h : Heap) : R (T k) F.swashlaw22_Write [a0] h = nrm .fz h (swashlaw22_Write k (R (T k)) a0 h) :=
  (R_body (t := T k) (T_scott k) (by kernel_rfl) _ _).trans (by kernel_rfl)
theorem swashlaw22_Write_l1_eq (k : Nat) (call : Caller) (a3 a10 a11 a12 : Value) (h : Heap) : swashlaw22_Write_l1 k call [(3, a3), (10, a10), (11, a11), (12, a12)] h =
  (binR Prog .lss 3 a12 a11 h).bind fun v11 h12 =>
  condV (some v11) (
    (indexAddrR Prog 170 a10 a12 h12).bind fun v13 h14 =>
    (loadR Prog 172 v13 h14).bind fun v15 h16 =>
    (allocR Prog 172 h16).bind fun v17 h18 =>
    (storeR Prog 172 v17 v15 h18).bind fun _v19 h20 =>
    (fieldAddrR Prog 172 v17 0 h20).bindN fun v21 h22 =>
    (loadR Prog 62 v21 h22).bindN fun v23 h24 =>
    (convR Prog 62 3 v23 h24).bindN fun v25 h26 =>
    (call F.swashref02_Put [a3, v25, (.int .i64 2)] h26).bindT (fun p29 h30 => (fieldAddrR Prog 172 v17 1 h26).bindN fun v31 h32 => (loadR Prog 62 v31 h32).bindN fun v33 h34 => (convR Prog 62 3 v33 h34).bindN fun v35 h36 => (fieldAddrR Prog 172 v17 2 h36).bindN fun v37 h38 => (loadR Prog 120 v37 h38).bindN fun v39 h40 => (convR Prog 120 62 v39 h40).bindN fun v41 h42 => (convR Prog 62 3 v41 h42).bindN fun v43 h44 => chkR ((okVal (loadR Prog 62 v31 h20) v33 && true) && ((okVal (loadR Prog 120 v37 h20) v39 && true) && true)) (.panic p29 h30)) fun v27 h28 =>
    (fieldAddrR Prog 172 v17 1 h28).bindN fun v45 h46 =>
    (loadR Prog 62 v45 h46).bindN fun v47 h48 =>
    (convR Prog 62 3 v47 h48).bindN fun v49 h50 =>
    (call F.swashref02_Put [v27, v49, (.int .i64 2)] h50).bindT (fun p53 h54 => (fieldAddrR Prog 172 v17 2 h50).bindN fun v55 h56 => (loadR Prog 120 v55 h56).bindN fun v57 h58 => (convR Prog 120 62 v57 h58).bindN fun v59 h60 => (convR Prog 62 3 v59 h60).bindN fun v61 h62 => chkR ((okVal (loadR Prog 62 v45 h20) v47 && true) && ((okVal (loadR Prog 120 v55 h20) v57 && (okVal (loadR Prog 120 v55 h28) v57 && true)) && true)) (.panic p53 h54)) fun v51 h52 =>
    (fieldAddrR Prog 172 v17 2 h52).bindN fun v63 h64 =>
    (loadR Prog 120 v63 h64).bindN fun v65 h66 =>
    (convR Prog 120 62 v65 h66).bindN fun v67 h68 =>
    (convR Prog 62 3 v67 h68).bindN fun v69 h70 =>
    (call F.swashref02_Put [v51, v69, (.int .i64 2)] h70).bindT (fun p73 h74 => chkR ((okVal (loadR Prog 62 v45 h20) v47 && true) && ((okVal (loadR Prog 120 v63 h20) v65 && (okVal (loadR Prog 120 v63 h28) v65 && true)) && true)) (.panic p73 h74)) fun v71 h72 =>
    chkR ((okVal (loadR Prog 62 v45 h20) v47 && true) && ((okVal (loadR Prog 120 v63 h20) v65 && (okVal (loadR Prog 120 v63 h28) v65 && true)) && true)) (
    (binR Prog .add 3 a12 (.int .i64 1) h72).bind fun v75 h76 =>
    .ok (.normal, [(3, v71), (10, a10), (11, a11), (12, v75)]) h76))
  (
    .ok ((.exit 0), [(3, a3), (10, a10), (11, a11), (12, a12), (13, v11)]) h12) :=
  (loopB_eq _ _).trans (by kernel_rfl)
theorem swashlaw22_Write_l1k_x0 (k : Nat) (call : Caller) (a3 a10 a11 a12 a13 : Value) (h : Heap) : swashlaw22_Write_l1k k call (.exit 0) [(3, a3), (10, a10), (11, a11), (12, a12), (13, a13)] h =
  .ok a3 h := by kernel_rfl
def swashlaw22_WriteGrid_j1 (k : Nat) (call : Caller) (a2 a5 a6 a7 a8 : Value) (h : Heap) : Res Value :=
  kSeq (pieceK (C k) call F.swashlaw22_WriteGrid [1, 1, 1, 1]) (kDone Prog (resOf Prog F.swashlaw22_WriteGrid)) .normal [(2, a2), (5, a5), (6, a6), (7, a7), (8, a8)] h
def swashlaw22_WriteGrid_l1 (k : Nat) (call : Caller) : Env → Heap → Res (AExit × Env) := loopB (C k) call F.swashlaw22_WriteGrid [1, 1, 1, 1, 1, 1, 1, 0, 1, 0, 0]
def swashlaw22_WriteGrid_l1k (k : Nat) (call : Caller) : Kont Value := kBlock 1 (kSeq (pieceK (C k) call F.swashlaw22_WriteGrid [1, 1, 1, 1, 1, 1, 1, 1]) (kDone Prog (resOf Prog F.swashlaw22_WriteGrid)))
def swashlaw22_WriteGrid_j2 (k : Nat) (call : Caller) (a6 a8 a13 a56 a57 a58 : Value) (h : Heap) : Res (AExit × Env) :=
  kSeq (pieceK (C k) call F.swashlaw22_WriteGrid [1, 1, 1, 1, 1, 1, 1, 0, 1, 0, 0, 1, 1, 0, 0, 1, 1, 1]) (kBlock 2 (kSeq (pieceK (C k) call F.swashlaw22_WriteGrid [1, 1, 1, 1, 1, 1, 1, 0, 1, 0, 0, 1, 1, 1]) (kRound (ownOf (C k) F.swashlaw22_WriteGrid [1, 1, 1, 1, 1, 1, 1, 0, 1, 0, 0])))) .normal [(6, a6), (8, a8), (13, a13), (56, a56), (57, a57), (58, a58)] h
def swashlaw22_WriteGrid_j3 (k : Nat) (call : Caller) (a6 a8 a12 a13 a56 a57 a58 a66 : Value) (h : Heap) : Res (AExit × Env) :=
  kSeq (pieceK (C k) call F.swashlaw22_WriteGrid [1, 1, 1, 1, 1, 1, 1, 0, 1, 0, 0, 1, 1, 0, 0, 1, 1, 1]) (kBlock 2 (kSeq (pieceK (C k) call F.swashlaw22_WriteGrid [1, 1, 1, 1, 1, 1, 1, 0, 1, 0, 0, 1, 1, 1]) (kRound (ownOf (C k) F.swashlaw22_WriteGrid [1, 1, 1, 1, 1, 1, 1, 0, 1, 0, 0])))) .normal [(6, a6), (8, a8), (12, a12), (13, a13), (56, a56), (57, a57), (58, a58), (66, a66)] h
def swashlaw22_WriteGrid (k : Nat) (call : Caller) (a0 a1 : Value) (h : Heap) : Res Value :=
  (boxR a0 h).bind fun v1 h2 =>
  (binR Prog .eql 3 a1 (.int .i64 0) h2).bind fun v3 h4 =>
  condV (some v3) (
    (makeSliceV Prog 65 (.int .i64 4) (.int .i64 4) h4).bind fun v5 h6 =>
    swashlaw22_WriteGrid_j1 k call v1 (.int .i64 16) (.int .i64 2) (.int .i64 2) v5 h6)
  (
    (binR Prog .eql 3 a1 (.int .i64 1) h4).bind fun v7 h8 =>
    condV (some v7) (
      (makeSliceV Prog 65 (.int .i64 8) (.int .i64 8) h8).bind fun v9 h10 =>
      swashlaw22_WriteGrid_j1 k call v1 (.int .i64 20) (.int .i64 2) (.int .i64 1) v9 h10)
    (
      (buildSliceR Prog 65 4 [(0, (.int .u8 0)), (1, (.int .u8 0)), (2, (.int .u8 0)), (3, (.int .u8 1))] h8).bind fun v11 h12 =>
      (buildSliceR Prog 65 4 [(0, (.int .u8 0)), (1, (.int .u8 0)), (2, (.int .u8 0)), (3, (.int .u8 0))] h12).bind fun v13 h14 =>
      (builtinV Prog .append [65, 65] [v11, v13] h14).bind fun v15 h16 =>
      swashlaw22_WriteGrid_j1 k call v1 (.int .i64 20) (.int .i64 4) (.int .i64 1) v15 h16))
theorem swashlaw22_WriteGrid_R (k : Nat) (a0 a1 : Value) (h : Heap) : R (T k) F.swashlaw22_WriteGrid [a0, a1] h = nrm (own k) h (swashlaw22_WriteGrid k (R (T k)) a0 a1 h) :=
  (R_body (t := T k) (T_scott k) (by kernel_rfl) _ _).trans (by kernel_rfl)
theorem swashlaw22_WriteGrid_j1_eq (k : Nat) (call : Caller) (a2 a5 a6 a7 a8 : Value) (h : Heap) : swashlaw22_WriteGrid_j1 k call a2 a5 a6 a7 a8 h =
  (fieldAddrR Prog 177 a2 0 h).bindN fun v17 h18 =>
  (loadR Prog 65 v17 h18).bindN fun v19 h20 =>
  (call F.swashlaw22_of [v19, a6, a7] h20).bindT (fun p23 h24 => (fieldAddrR Prog 177 a2 1 h20).bindN fun v25 h26 => (loadR Prog 65 v25 h26).bindN fun v27 h28 => chkR ((okVal (loadR Prog 65 v25 h) v27 && true) && true) (.panic p23 h24)) fun v21 h22 =>
  (fieldAddrR Prog 177 a2 1 h22).bindN fun v29 h30 =>
  (loadR Prog 65 v29 h30).bindN fun v31 h32 =>
  (call F.swashlaw22_of [v31, a6, a7] h32).bindT (fun p35 h36 => chkR ((okVal (loadR Prog 65 v29 h) v31 && true) && true) (.panic p35 h36)) fun v33 h34 =>
  chkR ((okVal (loadR Prog 65 v29 h) v31 && true) && true) (
  (call F.swashref02_Put [a8, a5, (.int .i64 4)] h34).bind fun v37 h38 =>
  (builtinV Prog .len [65] [v21] h38).bind fun v39 h40 =>
  (binR Prog .add 3 a5 v39 h40).bind fun v41 h42 =>
  (call F.swashref02_Put [v37, v41, (.int .i64 4)] h42).bind fun v43 h44 =>
  (builtinV Prog .len [65] [v21] h44).bind fun v45 h46 =>
  (binR Prog .add 3 a5 v45 h46).bind fun v47 h48 =>
  (builtinV Prog .len [65] [v33] h48).bind fun v49 h50 =>
  (binR Prog .add 3 v47 v49 h50).bind fun v51 h52 =>
  (call F.swashref02_Put [v43, v51, (.int .i64 4)] h52).bind fun v53 h54 =>
  (builtinV Prog .append [65, 65] [v53, v21] h54).bind fun v55 h56 =>
  (builtinV Prog .append [65, 65] [v55, v33] h56).bind fun v57 h58 =>
  (fieldAddrR Prog 177 a2 2 h58).bind fun v59 h60 =>
  (loadR Prog 175 v59 h60).bind fun v61 h62 =>
  (builtinV Prog .len [175] [v61] h62).bind fun v63 h64 =>
  (loopN (swashlaw22_WriteGrid_l1 k call) loopFuel [(6, a6), (8, v57), (56, v61), (57, v63), (58, (.int .i64 0))] h64).bind fun r65 h66 =>
  swashlaw22_WriteGrid_l1k k call r65.1 r65.2 h66) := by kernel_rfl
theorem swashlaw22_WriteGrid_l1_eq (k : Nat) (call : Caller) (a6 a8 a56 a57 a58 : Value) (h : Heap) : swashlaw22_WriteGrid_l1 k call [(6, a6), (8, a8), (56, a56), (57, a57), (58, a58)] h =
  (binR Prog .lss 3 a58 a57 h).bind fun v67 h68 =>
  condV (some v67) (
    (indexAddrR Prog 175 a56 a58 h68).bind fun v69 h70 =>
    (loadR Prog 120 v69 h70).bind fun v71 h72 =>
    (convR Prog 120 62 v71 h72).bind fun v73 h74 =>
    (convR Prog 62 3 v73 h74).bind fun v75 h76 =>
    (binR Prog .eql 3 a6 (.int .i64 4) h76).bind fun v77 h78 =>
    condV (some v77) (
      (convR Prog 120 21 v71 h78).bind fun v79 h80 =>
      (convR Prog 21 276 v79 h80).bind fun v81 h82 =>
      (convR Prog 276 3 v81 h82).bind fun v83 h84 =>
      swashlaw22_WriteGrid_j2 k call a6 a8 v83 a56 a57 a58 h84)
    (
      swashlaw22_WriteGrid_j3 k call a6 a8 v71 v75 a56 a57 a58 v77 h78))
  (
    .ok ((.exit 1), [(6, a6), (8, a8), (56, a56), (57, a57), (58, a58), (59, v67)]) h68) :=
  (loopB_eq _ _).trans (by kernel_rfl)
theorem swashlaw22_WriteGrid_j2_eq (k : Nat) (call : Caller) (a6 a8 a13 a56 a57 a58 : Value) (h : Heap) : swashlaw22_WriteGrid_j2 k call a6 a8 a13 a56 a57 a58 h =
  (call F.swashref02_Put [a8, a13, a6] h).bind fun v85 h86 =>
  (binR Prog .add 3 a58 (.int .i64 1) h86).bind fun v87 h88 =>
  .ok (.normal, [(6, a6), (8, v85), (56, a56), (57, a57), (58, v87)]) h88 := by kernel_rfl
theorem swashlaw22_WriteGrid_j3_eq (k : Nat) (call : Caller) (a6 a8 a12 a13 a56 a57 a58 a66 : Value) (h : Heap) : swashlaw22_WriteGrid_j3 k call a6 a8 a12 a13 a56 a57 a58 a66 h =
  (call F.swashref02_Put [a8, a13, a6] h).bind fun v89 h90 =>
  (binR Prog .add 3 a58 (.int .i64 1) h90).bind fun v91 h92 =>
  .ok (.normal, [(6, a6), (8, v89), (56, a56), (57, a57), (58, v91)]) h92 := by kernel_rfl
theorem swashlaw22_WriteGrid_l1k_x1 (k : Nat) (call : Caller) (a6 a8 a56 a57 a58 a59 : Value) (h : Heap) : swashlaw22_WriteGrid_l1k k call (.exit 1) [(6, a6), (8, a8), (56, a56), (57, a57), (58, a58), (59, a59)] h =
  .ok a8 h := by kernel_rfl
def swashlaw22_PairTakes_in1 (k : Nat) (call : Caller) (a0 a1 a2 : Value) (h : Heap) : Res Value :=
  (loadR Prog 3 a0 h).bindN fun v1 h2 =>
  (loadR Prog 65 a1 h2).bindN fun v3 h4 =>
  (call F.view_Of [v3] h4).bindT (fun p7 h8 => .panic p7 h8) fun v5 h6 =>
  (call F.pair_Take [v1, v5, (.int .i64 20)] h6).bindT (fun p11 h12 => chkR ((okVal (loadR Prog 3 a0 h6) v1 && true) && true) (.panic p11 h12)) fun v9 h10 =>
  (storeR Prog 160 a2 v9 h10).bindN fun _v13 h14 =>
  chkR ((okVal (loadR Prog 3 a0 h6) v1 && true) && true) (
  .ok (.tuple #[]) h14)
theorem swashlaw22_PairTakes_in1_R (k : Nat) (a0 a1 a2 : Value) (h : Heap) : R (T k) F.swashlaw22_PairTakes_in1 [a0, a1, a2] h = nrm .no h (swashlaw22_PairTakes_in1 k (R (T k)) a0 a1 a2 h) :=
  (R_body (t := T k) (T_scott k) (by kernel_rfl) _ _).trans (by kernel_rfl)
def swashlaw22_of_l1 (k : Nat) (call : Caller) : Env → Heap → Res (AExit × Env) := loopB (C k) call F.swashlaw22_of [1, 1, 0, 1, 0, 0]
def swashlaw22_of_l1k (k : Nat) (call : Caller) : Kont Value := kBlock 0 (kSeq (pieceK (C k) call F.swashlaw22_of [1, 1, 1]) (kDone Prog (resOf Prog F.swashlaw22_of)))
def swashlaw22_of (k : Nat) (call : Caller) (a0 a1 a2 : Value) (h : Heap) : Res Value :=
  (call F.swashref02_Put [(.slice none 0 0), (.int .i64 8), (.int .i64 2)] h).bind fun v1 h2 =>
  (call F.swashref02_Put [v1, (.int .i64 0), (.int .i64 2)] h2).bind fun v3 h4 =>
  (builtinV Prog .len [65] [a0] h4).bind fun v5 h6 =>
  (call F.swashref02_Put [v3, v5, (.int .i64 2)] h6).bind fun v7 h8 =>
  (builtinV Prog .len [65] [a0] h8).bind fun v9 h10 =>
  (loopN (swashlaw22_of_l1 k call) loopFuel [(1, a1), (2, a2), (7, v7), (15, a0), (16, v9), (17, (.int .i64 0))] h10).bind fun r11 h12 =>
  swashlaw22_of_l1k k call r11.1 r11.2 h12
theorem swashlaw22_of_R (k : Nat) (a0 a1 a2 : Value) (h : Heap) : R (T k) F.swashlaw22_of [a0, a1, a2] h = nrm .fz h (swashlaw22_of k (R (T k)) a0 a1 a2 h) :=
  (R_body (t := T k) (T_scott k) (by kernel_rfl) _ _).trans (by kernel_rfl)
theorem swashlaw22_of_l1_eq (k : Nat) (call : Caller) (a1 a2 a7 a15 a16 a17 : Value) (h : Heap) : swashlaw22_of_l1 k call [(1, a1), (2, a2), (7, a7), (15, a15), (16, a16), (17, a17)] h =
  (binR Prog .lss 3 a17 a16 h).bind fun v13 h14 =>
  condV (some v13) (
    (indexAddrR Prog 65 a15 a17 h14).bind fun v15 h16 =>
    (loadR Prog 5 v15 h16).bind fun v17 h18 =>
    (convR Prog 5 3 v17 h18).bind fun v19 h20 =>
    (binR Prog .mul 3 v19 a2 h20).bind fun v21 h22 =>
    (call F.swashref02_Put [a7, v21, a1] h22).bind fun v23 h24 =>
    (binR Prog .add 3 a17 (.int .i64 1) h24).bind fun v25 h26 =>
    .ok (.normal, [(1, a1), (2, a2), (7, v23), (15, a15), (16, a16), (17, v25)]) h26)
  (
    .ok ((.exit 0), [(1, a1), (2, a2), (7, a7), (15, a15), (16, a16), (17, a17), (18, v13)]) h14) :=
  (loopB_eq _ _).trans (by kernel_rfl)
theorem swashlaw22_of_l1k_x0 (k : Nat) (call : Caller) (a1 a2 a7 a15 a16 a17 a18 : Value) (h : Heap) : swashlaw22_of_l1k k call (.exit 0) [(1, a1), (2, a2), (7, a7), (15, a15), (16, a16), (17, a17), (18, a18)] h =
  .ok a7 h := by kernel_rfl
end
end Go.Sw
end
section
namespace Go.Sw
theorem wf_u8 {n : Int} (h : (Lit.int .u8 n).wf = true) : 0 ≤ n ∧ n < 256 := by
  simp [Lit.wf, IntKind.min, IntKind.max, IntKind.signed, IntKind.bits] at h
  omega
theorem wf_u16 {n : Int} (h : (Lit.int .u16 n).wf = true) : 0 ≤ n ∧ n < 65536 := by
  simp [Lit.wf, IntKind.min, IntKind.max, IntKind.signed, IntKind.bits] at h
  omega
theorem row_B {r : List Da} {cs : List Value} (h : LayRow [.int .u8] r cs) : ∃ n : Int, cs = encB n ∧ (0 ≤ n ∧ n < 256) := by
  obtain ⟨d, v, ds, vs, rfl, h1, h2⟩ := h.head
  obtain rfl := h2.done
  obtain ⟨n, rfl, w⟩ := h1.intv
  exact ⟨n, rfl, wf_u8 w⟩
theorem arg_B {v : Value} (h : ArgLay (.one (.slice [.int .u8])) v) : ∃ b, v = lv encB b ∧ Byt b := by
  obtain ⟨d, h1⟩ := h.cell
  obtain ⟨b, rfl, hb⟩ := Lay.list (enc := encB) (ok := fun n => 0 ≤ n ∧ n < 256) (fun r cs h => row_B h) h1
  exact ⟨b, rfl, hb⟩
theorem arg_i {k : IntKind} {v : Value} (h : ArgLay (.one (.int k)) v) : ∃ n, v = .int k n ∧ (Lit.int k n).wf = true := by
  obtain ⟨d, h1⟩ := h.cell
  exact h1.intv
theorem arg_ii {v : Value} (h : ArgLay (.agg [.int .i64, .int .i64]) v) : ∃ a b, v = .agg #[.int .i64 a, .int .i64 b] ∧ (Lit.int .i64 a).wf = true ∧ (Lit.int .i64 b).wf = true := by
  cases h with
  | agg ss ds vs h =>
    obtain ⟨_, v1, _, _, rfl, h1, h⟩ := h.head
    obtain ⟨_, v2, _, _, rfl, h2, h⟩ := h.head
    obtain rfl := h.done
    obtain ⟨a, rfl, wa⟩ := h1.intv
    obtain ⟨b, rfl, wb⟩ := h2.intv
    exact ⟨a, b, rfl, wa, wb⟩
end Go.Sw
end
section
namespace Go.Sw
open Go.RowKit
theorem speaks22_run (k : Nat) (hk : k % 1000000 = F.swashlaw22_speaks) (H : Heap) : R (T k) F.swashlaw22_speaks [] H = .ok (.bool true) H :=
  (R_sp (t := T k) (T_scott k) (s := constSp (.bool true)) (by unfold T C; dsimp only; rw [hk]; kernel_rfl) [] H).trans (nrm_gc (Pure.of rfl) (.bool _))
theorem PairTakes_in1 (k : Nat) {H : Heap} (kind : Int) (b : List Int) (hb : Byt b) (hl : b.length < 2 ^ 31) (p1 p2 p3 : Nat) (old : Value)
    (h1 : H.get p1 = some ⟨[.int .i64 kind], 1, false⟩) (h2 : H.get p2 = some ⟨[lv encB b], 1, false⟩) (h3 : H.get p3 = some ⟨[old], 1, false⟩) :
    R (T k) F.swashlaw22_PairTakes_in1 [ptrV p1, ptrV p2, ptrV p3] H = match pTakeS kind b 20 with
      | some x => .ok (.tuple #[]) (H.set p3 (some ⟨[ptabV x], 1, false⟩))
      | none => .panic failV H := by
  rw [swashlaw22_PairTakes_in1_R]
  have ht := pTake_run k kind b hb 20 (by omega) hl H
  have ho := fun H => Of_lv k b H
  cases h : pTakeS kind b 20 with
  | none =>
    rw [h] at ht
    refine nrm_throw ⟨H, ?_, Ext.refl H⟩ Flat.fail.alive
    simp -implicitDefEqProofs (disch := omega) [swashlaw22_PairTakes_in1, h1, h2, ho, ht]
  | some x =>
    rw [h] at ht
    simp -implicitDefEqProofs (disch := omega) [swashlaw22_PairTakes_in1, h1, h2, h3, ho, ht]
theorem pairO_take {kind : Int} {b : List Int} {g : Int} (hg : 1 ≤ g ∧ g ≤ 65535) : pairO kind b g = pTakeS kind b g := by
  unfold pairO
  split
  · rename_i h
    unfold badP at h
    simp at h
    unfold pTakeS
    rw [if_neg (by omega), if_neg (by omega), if_neg (by omega)]
  · rfl
theorem pairN_zero {kind : Int} {b : List Int} {g : Int} (hg : 1 ≤ g ∧ g ≤ 65535) : (pairN kind b g == 0) = (pTakeS kind b g).isSome := by
  unfold pairN
  split
  · rename_i h
    have : pTakeS kind b g = none := by rw [← pairO_take hg]; unfold pairO; rw [h]; rfl
    rw [this]; rfl
  · cases pTakeS kind b g <;> rfl
theorem PairTakes_run (b : List Int) (hb : Byt b) (kind : Int) : R (T F.swashlaw22_speaks) F.swashlaw22_PairTakes [lv encB b, .int .i64 kind] Heap.empty = .ok (.bool true) Heap.empty := by
  generalize hk : F.swashlaw22_speaks = k
  have hs := speaks22_run k (by subst hk; rfl)
  clear hk
  rw [swashlaw22_PairTakes_R]
  generalize Heap.empty = H
  have hx2 : Ext H ((H.push ⟨[lv encB b], 1, false⟩).push ⟨[.int .i64 kind], 1, false⟩) := ((Ext.refl H).push _).push _
  by_cases hl : b.length > 600
  · have hl' : (b.length : Int) > 600 := by omega
    refine nrm_gc ⟨_, ?_, hx2⟩ (.bool _)
    simp -implicitDefEqProofs (disch := omega) [swashlaw22_PairTakes, hs, hl']
  have hl' : ¬ (b.length : Int) > 600 := by omega
  have hx3 := hx2.push ⟨[.pointer none], 1, false⟩
  have hin := PairTakes_in1 k (H := ((H.push ⟨[lv encB b], 1, false⟩).push ⟨[.int .i64 kind], 1, false⟩).push ⟨[.pointer none], 1, false⟩) kind b hb (by omega) (H.n + 1) H.n (H.n + 2) (.pointer none) (by simp) (by simp) (by simp)
  have hrd := fun H' => pRead_run k kind (H := H') (Sl.lv H' 1 b) hb 20 (by omega)
  rw [pairO_take (by omega)] at hrd
  have hN := pairN_zero (kind := kind) (b := b) (g := 20) (by omega)
  obtain ⟨N, hNd⟩ : ∃ N, N = pairN kind b 20 := ⟨_, rfl⟩
  rw [← hNd] at hrd hN
  cases h : pTakeS kind b 20 with
  | none =>
    rw [h] at hin hrd hN
    simp only [pV, Option.isSome_none] at hrd hN
    have ht := Try_no k F.swashlaw22_PairTakes_in1 #[ptrV (H.n + 1), ptrV H.n, ptrV (H.n + 2)] hin
    obtain ⟨x, e', H4, hr4, rfl, rfl, rfl⟩ := loop_up (body := swashlaw22_PairTakes_l1 k (R (T k))) 0
      (fun j e H' => e = [(5, ptrV (H.n + 2)), (6, .bool false), (7, .pointer none), (9, .int .i64 (-1))] ∧ H' = ((H.push ⟨[lv encB b], 1, false⟩).push ⟨[.int .i64 kind], 1, false⟩).push ⟨[.pointer none], 1, false⟩)
      (fun x e H' => x = .exit 0 ∧ e = [(5, ptrV (H.n + 2)), (6, .bool false), (7, .pointer none), (9, .int .i64 (-1)), (44, .bool false)] ∧ H' = ((H.push ⟨[lv encB b], 1, false⟩).push ⟨[.int .i64 kind], 1, false⟩).push ⟨[.pointer none], 1, false⟩)
      (e0 := [(5, ptrV (H.n + 2)), (6, .bool false), (7, .pointer none), (9, .int .i64 (-1))]) (H0 := ((H.push ⟨[lv encB b], 1, false⟩).push ⟨[.int .i64 kind], 1, false⟩).push ⟨[.pointer none], 1, false⟩) ⟨rfl, rfl⟩ (by omega)
      (fun j e H' hj _ => by omega)
      (fun e H' ⟨he, hH⟩ => by
        subst he hH
        refine ⟨.exit 0, _, _, ?_, by simp, rfl, rfl, rfl⟩
        rw [swashlaw22_PairTakes_l1_eq]
        simp -implicitDefEqProofs)
    refine nrm_gc ⟨_, ?_, hx3⟩ (.bool _)
    simp -implicitDefEqProofs (disch := omega) [swashlaw22_PairTakes, hs, hl', ht, hrd, hN, hr4, swashlaw22_PairTakes_l1k_x0]
  | some t =>
    rw [h] at hin hrd hN
    simp only [pV, Option.isSome_some] at hrd hN
    have ht := Try_ok k F.swashlaw22_PairTakes_in1 #[ptrV (H.n + 1), ptrV H.n, ptrV (H.n + 2)] hin
    simp at ht
    have hok := pTakeS_ok hb (by omega) (by omega) h
    have hget := fun l r H => pGet_run k t hok l r H
    obtain ⟨P, hP⟩ : ∃ P, P = ((H.push ⟨[lv encB b], 1, false⟩).push ⟨[.int .i64 kind], 1, false⟩).push ⟨[ptabV t], 1, false⟩ := ⟨_, rfl⟩
    have hPg : P.get (H.n + 2) = some ⟨[ptabV t], 1, false⟩ := by rw [hP]; simp
    have inner : ∀ i : Int, ∃ a, loopN (swashlaw22_PairTakes_l2 k (R (T k))) loopFuel [(5, ptrV (H.n + 2)), (6, .bool true), (7, ptabV t), (9, .int .i64 i), (10, .int .i64 (-1))] P = .ok (.exit 2, [(5, ptrV (H.n + 2)), (6, .bool true), (7, ptabV t), (9, .int .i64 i), (10, a), (48, .bool false)]) P := fun i => by
      obtain ⟨x, e', H4, hr4, rfl, ⟨a, rfl⟩, rfl⟩ := loop_up (body := swashlaw22_PairTakes_l2 k (R (T k))) 13
        (fun j e H' => e = [(5, ptrV (H.n + 2)), (6, .bool true), (7, ptabV t), (9, .int .i64 i), (10, .int .i64 ((j : Int) - 1))] ∧ H' = P)
        (fun x e H' => x = .exit 2 ∧ (∃ a, e = [(5, ptrV (H.n + 2)), (6, .bool true), (7, ptabV t), (9, .int .i64 i), (10, a), (48, .bool false)]) ∧ H' = P)
        (e0 := [(5, ptrV (H.n + 2)), (6, .bool true), (7, ptabV t), (9, .int .i64 i), (10, .int .i64 (-1))]) (H0 := P) ⟨rfl, rfl⟩ (by omega)
        (fun j e H' hj ⟨he, hH⟩ => by
          subst he hH
          have hlt : (j : Int) - 1 < 12 := by omega
          have hj1 : (j : Int) - 1 + 1 = ((j + 1 : Nat) : Int) - 1 := by omega
          refine .inl ⟨_, _, ?_, rfl, rfl⟩
          rw [swashlaw22_PairTakes_l2_eq, ← hj1]
          simp -implicitDefEqProofs (disch := omega) [hlt, hPg, hget, bne])
        (fun e H' ⟨he, hH⟩ => by
          subst he hH
          refine ⟨.exit 2, _, _, ?_, by simp, rfl, ⟨.int .i64 (((13 : Nat) : Int) - 1), rfl⟩, rfl⟩
          rw [swashlaw22_PairTakes_l2_eq]
          simp -implicitDefEqProofs)
      exact ⟨a, hr4⟩
    obtain ⟨x, e', H4, hr4, rfl, ⟨a, rfl⟩, hH4⟩ := loop_up (body := swashlaw22_PairTakes_l1 k (R (T k))) 13
      (fun j e H' => e = [(5, ptrV (H.n + 2)), (6, .bool true), (7, ptabV t), (9, .int .i64 ((j : Int) - 1))] ∧ H' = P)
      (fun x e H' => x = .exit 0 ∧ (∃ a, e = [(5, ptrV (H.n + 2)), (6, .bool true), (7, ptabV t), (9, a), (44, .bool false)]) ∧ H' = P)
      (e0 := [(5, ptrV (H.n + 2)), (6, .bool true), (7, ptabV t), (9, .int .i64 (-1))]) (H0 := P) ⟨rfl, rfl⟩ (by omega)
      (fun j e H' hj ⟨he, hH⟩ => by
        subst he hH
        have hlt : (j : Int) - 1 < 12 := by omega
        have hj1 : (j : Int) - 1 + 1 = ((j + 1 : Nat) : Int) - 1 := by omega
        obtain ⟨a, ha⟩ := inner ((j : Int) - 1)
        refine .inl ⟨_, _, ?_, rfl, rfl⟩
        rw [swashlaw22_PairTakes_l1_eq, ← hj1]
        simp -implicitDefEqProofs (disch := omega) [hlt, ha, swashlaw22_PairTakes_l2k_x2])
      (fun e H' ⟨he, hH⟩ => by
        subst he hH
        refine ⟨.exit 0, _, _, ?_, by simp, rfl, ⟨.int .i64 (((13 : Nat) : Int) - 1), rfl⟩, rfl⟩
        rw [swashlaw22_PairTakes_l1_eq]
        simp -implicitDefEqProofs)
    rw [hH4] at hr4
    have hxP : Ext H P := by rw [hP]; exact hx2.push _
    rw [← hP] at ht
    refine nrm_gc ⟨_, ?_, hxP⟩ (.bool _)
    have e1 : ∀ H', ld1 (ptrV (H.n + 1)) H' = opt ((H'.get (H.n + 1)).bind fun k => k.cells[0]?) H' := fun H' => rfl
    have p1 : P.get (H.n + 1) = some ⟨[.int .i64 kind], 1, false⟩ := by rw [hP]; simp
    have p0 : P.get H.n = some ⟨[lv encB b], 1, false⟩ := by rw [hP]; simp
    simp -implicitDefEqProofs (disch := omega) [swashlaw22_PairTakes, hs, hl', ht, p0, p1, hPg, hrd, hN, hr4, swashlaw22_PairTakes_l1k_x0]
theorem PairTakes_args (vs : List Value) (h : ArgsLay [.one (.slice [.int .u8]), .one (.int .i64)] vs) : ∃ H', R (T F.swashlaw22_speaks) F.swashlaw22_PairTakes vs Heap.empty = .ok (.bool true) H' := by
  obtain ⟨v1, _, rfl, h1, h⟩ := h.head
  obtain ⟨v2, _, rfl, h2, h⟩ := h.head
  obtain rfl := h.done
  obtain ⟨b, rfl, hb⟩ := arg_B h1
  obtain ⟨n, rfl, _⟩ := arg_i h2
  exact ⟨_, PairTakes_run b hb n⟩
end Go.Sw
end
