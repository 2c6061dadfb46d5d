/-
  The functions of the package lookup. Printed by SwGenMain.
-/
import Derived.Test.YtnaodjnimkndbaaSwCfg
set_option maxRecDepth 100000
set_option linter.unusedVariables false
namespace Go.Sw
noncomputable section
def lookup_Read (k : Nat) (call : Caller) (a0 a1 a2 : Value) (h : Heap) : Res Value :=
  (boxR a0 h).bind fun v1 h2 =>
  (boxR a1 h2).bind fun v3 h4 =>
  (boxR a2 h4).bind fun v5 h6 =>
  (allocR Prog 68 h6).bind fun v7 h8 =>
  (loadR Prog 3 v3 h8).bind fun v9 h10 =>
  (binR Prog .lss 3 v9 (.int .i64 1) h10).bind fun v11 h12 =>
  ((bif wantVal v11 false then loadR Prog 3 v3 h12 else Res.ok undef h12)).bind fun v13 h14 =>
  ((bif wantVal v11 false then binR Prog .gtr 3 v13 (.int .i64 65535) h14 else Res.ok undef h14)).bind fun v15 h16 =>
  (condV (some v11) (Res.ok (.bool true) h16) (Res.ok v15 h16)).bind fun v17 h18 =>
  ((bif wantVal v17 false then loadR Prog 3 v5 h18 else Res.ok undef h18)).bind fun v19 h20 =>
  ((bif wantVal v17 false then binR Prog .neq 3 v19 (.int .i64 2) h20 else Res.ok undef h20)).bind fun v21 h22 =>
  ((bif wantVal v17 false then Res.ok v21 h22 else Res.ok undef h22)).bind fun v23 h24 =>
  ((bif wantVal v23 true then loadR Prog 3 v5 h24 else Res.ok undef h24)).bind fun v25 h26 =>
  ((bif wantVal v23 true then binR Prog .neq 3 v25 (.int .i64 4) h26 else Res.ok undef h26)).bind fun v27 h28 =>
  ((bif wantVal v17 false then condV (some v23) (Res.ok v27 h28) (Res.ok (.bool false) h28) else Res.ok undef h28)).bind fun v29 h30 =>
  (condV (some v17) (Res.ok (.bool true) h30) (Res.ok v29 h30)).bind fun v31 h32 =>
  condV (some v31) (
    (storeR Prog 68 v7 (.pointer none) h32).bind fun _v33 h34 =>
    (loadR Prog 68 v7 h34).bind fun v35 h36 =>
    .ok (.tuple #[v35, (.int .i64 1)]) h36)
  (
    (call F.view_Try [(.func (.func F.lookup_Read_in1) #[] #[v1, v3, v5, v7])] h32).bind fun v37 h38 =>
    (unR .not v37 h38).bind fun v39 h40 =>
    condV (some v39) (
      (storeR Prog 68 v7 (.pointer none) h40).bind fun _v41 h42 =>
      (loadR Prog 68 v7 h42).bind fun v43 h44 =>
      .ok (.tuple #[v43, (.int .i64 2)]) h44)
    (
      (loadR Prog 68 v7 h40).bind fun v45 h46 =>
      (storeR Prog 68 v7 v45 h46).bind fun _v47 h48 =>
      (loadR Prog 68 v7 h48).bind fun v49 h50 =>
      .ok (.tuple #[v49, (.int .i64 0)]) h50))
theorem lookup_Read_R (k : Nat) (a0 a1 a2 : Value) (h : Heap) : R (T k) F.lookup_Read [a0, a1, a2] h = nrm .fz h (lookup_Read k (R (T k)) a0 a1 a2 h) :=
  (R_body (t := T k) (T_scott k) (by kernel_rfl) _ _).trans (by kernel_rfl)
def lookup_Table_Get (k : Nat) (call : Caller) (a0 a1 : Value) (h : Heap) : Res Value :=
  (boxR a0 h).bind fun v1 h2 =>
  (boxR a1 h2).bind fun v3 h4 =>
  (loadR Prog 68 v1 h4).bind fun v5 h6 =>
  (nilR v5 h6).bind fun v7 h8 =>
  (fieldAddrR Prog 228 v7 1 h8).bind fun v9 h10 =>
  (loadR Prog 226 v9 h10).bind fun v11 h12 =>
  (builtinV Prog .len [226] [v11] h12).bind fun v13 h14 =>
  (call F.seek_First [v13, (.func (.func F.lookup_Table_Get_in1) #[] #[v1, v3])] h14).bind fun v15 h16 =>
  (loadR Prog 68 v1 h16).bindN fun v17 h18 =>
  (nilR v17 h18).bindN fun v19 h20 =>
  (fieldAddrR Prog 228 v19 1 h20).bindN fun v21 h22 =>
  (loadR Prog 226 v21 h22).bindN fun v23 h24 =>
  (builtinV Prog .len [226] [v23] h24).bindN fun v25 h26 =>
  (binR Prog .eql 3 v15 v25 h26).bindN fun v27 h28 =>
  ((bif wantVal v27 false then loadR Prog 68 v1 h28 else Res.ok undef h28)).bindN fun v29 h30 =>
  ((bif wantVal v27 false then nilR v29 h30 else Res.ok undef h30)).bindN fun v31 h32 =>
  ((bif wantVal v27 false then fieldAddrR Prog 228 v31 1 h32 else Res.ok undef h32)).bindN fun v33 h34 =>
  ((bif wantVal v27 false then loadR Prog 226 v33 h34 else Res.ok undef h34)).bindN fun v35 h36 =>
  ((bif wantVal v27 false then Res.ok v15 h36 else Res.ok undef h36)).bindN fun v37 h38 =>
  ((bif wantVal v27 false then indexAddrR Prog 226 v35 v37 h38 else Res.ok undef h38)).bindN fun v39 h40 =>
  ((bif wantVal v27 false then fieldAddrR Prog 230 v39 0 h40 else Res.ok undef h40)).bindN fun v41 h42 =>
  ((bif wantVal v27 false then loadR Prog 3 v41 h42 else Res.ok undef h42)).bindN fun v43 h44 =>
  ((bif wantVal v27 false then loadR Prog 3 v3 h44 else Res.ok undef h44)).bindN fun v45 h46 =>
  ((bif wantVal v27 false then binR Prog .gtr 3 v43 v45 h46 else Res.ok undef h46)).bindN fun v47 h48 =>
  (condV (some v27) (Res.ok (.bool true) h48) (Res.ok v47 h48)).bindN fun v49 h50 =>
  condV (some v49) (
    .ok (.tuple #[(.int .i64 0), (.bool false)]) h50)
  (
    (loadR Prog 68 v1 h50).bindN fun v51 h52 =>
    (nilR v51 h52).bindN fun v53 h54 =>
    (fieldAddrR Prog 228 v53 1 h54).bindN fun v55 h56 =>
    (loadR Prog 226 v55 h56).bindN fun v57 h58 =>
    (indexAddrR Prog 226 v57 v15 h58).bindN fun v59 h60 =>
    (loadR Prog 230 v59 h60).bindN fun v61 h62 =>
    (loadR Prog 3 v3 h62).bindN fun v63 h64 =>
    (call F.lookup_part_at [v61, v63] h64).bindT (fun p67 h68 => .panic p67 h68) fun v65 h66 =>
    .ok (.tuple #[v65, (.bool true)]) h66)
theorem lookup_Table_Get_R (k : Nat) (a0 a1 : Value) (h : Heap) : R (T k) F.lookup_Table_Get [a0, a1] h = nrm .gc h (lookup_Table_Get k (R (T k)) a0 a1 h) :=
  (R_body (t := T k) (T_scott k) (by kernel_rfl) _ _).trans (by kernel_rfl)
def lookup_Table_Most_l1 (k : Nat) (call : Caller) : Env → Heap → Res (AExit × Env) := loopB (C k) call F.lookup_Table_Most [1, 1, 0, 1, 0, 0]
def lookup_Table_Most_l1k (k : Nat) (call : Caller) : Kont Value := kBlock 0 (kSeq (pieceK (C k) call F.lookup_Table_Most [1, 1, 1]) (kDone Prog (resOf Prog F.lookup_Table_Most)))
def lookup_Table_Most_l2 (k : Nat) (call : Caller) : Env → Heap → Res (AExit × Env) := loopB (C k) call F.lookup_Table_Most [1, 1, 0, 1, 0, 0, 1, 1, 0, 0, 1, 1, 0, 0]
def lookup_Table_Most_l2k (k : Nat) (call : Caller) : Kont (AExit × Env) := kBlock 2 (kBlock 1 (kSeq (pieceK (C k) call F.lookup_Table_Most [1, 1, 0, 1, 0, 0, 1, 1, 1]) (kRound (ownOf (C k) F.lookup_Table_Most [1, 1, 0, 1, 0, 0]))))
def lookup_Table_Most (k : Nat) (call : Caller) (a0 : Value) (h : Heap) : Res Value :=
  (nilR a0 h).bind fun v1 h2 =>
  (fieldAddrR Prog 228 v1 1 h2).bind fun v3 h4 =>
  (loadR Prog 226 v3 h4).bind fun v5 h6 =>
  (builtinV Prog .len [226] [v5] h6).bind fun v7 h8 =>
  (loopN (lookup_Table_Most_l1 k call) loopFuel [(3, (.int .i64 (-1))), (11, v5), (12, v7), (13, (.int .i64 0))] h8).bind fun r9 h10 =>
  lookup_Table_Most_l1k k call r9.1 r9.2 h10
theorem lookup_Table_Most_R (k : Nat) (a0 : Value) (h : Heap) : R (T k) F.lookup_Table_Most [a0] h = nrm .gc h (lookup_Table_Most k (R (T k)) a0 h) :=
  (R_body (t := T k) (T_scott k) (by kernel_rfl) _ _).trans (by kernel_rfl)
theorem lookup_Table_Most_l1_eq (k : Nat) (call : Caller) (a3 a11 a12 a13 : Value) (h : Heap) : lookup_Table_Most_l1 k call [(3, a3), (11, a11), (12, a12), (13, a13)] h =
  (binR Prog .lss 3 a13 a12 h).bind fun v11 h12 =>
  condV (some v11) (
    (indexAddrR Prog 226 a11 a13 h12).bind fun v13 h14 =>
    (loadR Prog 230 v13 h14).bind fun v15 h16 =>
    (allocR Prog 230 h16).bind fun v17 h18 =>
    (storeR Prog 230 v17 v15 h18).bind fun _v19 h20 =>
    (fieldAddrR Prog 230 v17 2 h20).bind fun v21 h22 =>
    (loadR Prog 28 v21 h22).bind fun v23 h24 =>
    (builtinV Prog .len [28] [v23] h24).bind fun v25 h26 =>
    (loopN (lookup_Table_Most_l2 k call) loopFuel [(3, a3), (11, a11), (12, a12), (13, a13), (18, v23), (19, v25), (20, (.int .i64 0))] h26).bind fun r27 h28 =>
    lookup_Table_Most_l2k k call r27.1 r27.2 h28)
  (
    .ok ((.exit 0), [(3, a3), (11, a11), (12, a12), (13, a13), (14, v11)]) h12) :=
  (loopB_eq _ _).trans (by kernel_rfl)
theorem lookup_Table_Most_l2_eq (k : Nat) (call : Caller) (a3 a11 a12 a13 a18 a19 a20 : Value) (h : Heap) : lookup_Table_Most_l2 k call [(3, a3), (11, a11), (12, a12), (13, a13), (18, a18), (19, a19), (20, a20)] h =
  (binR Prog .lss 3 a20 a19 h).bind fun v29 h30 =>
  condV (some v29) (
    (indexAddrR Prog 28 a18 a20 h30).bind fun v31 h32 =>
    (loadR Prog 3 v31 h32).bind fun v33 h34 =>
    (builtinV Prog .max [3, 3] [a3, v33] h34).bind fun v35 h36 =>
    (binR Prog .add 3 a20 (.int .i64 1) h36).bind fun v37 h38 =>
    .ok (.normal, [(3, v35), (11, a11), (12, a12), (13, a13), (18, a18), (19, a19), (20, v37)]) h38)
  (
    .ok ((.exit 2), [(3, a3), (11, a11), (12, a12), (13, a13), (18, a18), (19, a19), (20, a20), (21, v29)]) h30) :=
  (loopB_eq _ _).trans (by kernel_rfl)
theorem lookup_Table_Most_l1k_x0 (k : Nat) (call : Caller) (a3 a11 a12 a13 a14 : Value) (h : Heap) : lookup_Table_Most_l1k k call (.exit 0) [(3, a3), (11, a11), (12, a12), (13, a13), (14, a14)] h =
  .ok a3 h := by kernel_rfl
theorem lookup_Table_Most_l2k_x2 (k : Nat) (call : Caller) (a3 a11 a12 a13 a18 a19 a20 a21 : Value) (h : Heap) : lookup_Table_Most_l2k k call (.exit 2) [(3, a3), (11, a11), (12, a12), (13, a13), (18, a18), (19, a19), (20, a20), (21, a21)] h =
  (binR Prog .add 3 a13 (.int .i64 1) h).bind fun v39 h40 =>
  .ok (.normal, [(3, a3), (11, a11), (12, a12), (13, v39)]) h40 := by kernel_rfl
def lookup_Take_j1 (k : Nat) (call : Caller) (a8 : Value) (h : Heap) : Res Value :=
  kSeq (pieceK (C k) call F.lookup_Take [1, 1, 1, 1]) (kDone Prog (resOf Prog F.lookup_Take)) .normal [(8, a8)] h
def lookup_Take_l1 (k : Nat) (call : Caller) : Env → Heap → Res (AExit × Env) := loopB (C k) call F.lookup_Take [1, 1, 1, 1, 0, 1, 0, 0]
def lookup_Take_l1k (k : Nat) (call : Caller) : Kont Value := kBlock 1 (kSeq (pieceK (C k) call F.lookup_Take [1, 1, 1, 1, 1]) (kDone Prog (resOf Prog F.lookup_Take)))
def lookup_Take (k : Nat) (call : Caller) (a0 a1 a2 : Value) (h : Heap) : Res Value :=
  (boxR a0 h).bind fun v1 h2 =>
  (loadR Prog 83 v1 h2).bind fun v3 h4 =>
  (buildR Prog 235 [(0, v3), (1, a1), (2, a2)] h4).bind fun v5 h6 =>
  (allocR Prog 235 h6).bind fun v7 h8 =>
  (storeR Prog 235 v7 v5 h8).bind fun _v9 h10 =>
  (loadR Prog 83 v1 h10).bind fun v11 h12 =>
  (call F.view_View_U16 [v11, (.int .i64 0)] h12).bind fun v13 h14 =>
  (buildR Prog 228 [(0, v13)] h14).bind fun v15 h16 =>
  (boxR v15 h16).bind fun v17 h18 =>
  (nilR v17 h18).bind fun v19 h20 =>
  (fieldAddrR Prog 228 v19 0 h20).bind fun v21 h22 =>
  (loadR Prog 3 v21 h22).bind fun v23 h24 =>
  (binR Prog .eql 3 v23 (.int .i64 0) h24).bind fun v25 h26 =>
  condV (some v25) (
    (binR Prog .sub 3 a1 (.int .i64 1) h26).bind fun v27 h28 =>
    (loadR Prog 83 v1 h28).bind fun v29 h30 =>
    (call F.lookup_list [v29, (.int .i64 2), a1, a2] h30).bind fun v31 h32 =>
    (buildR Prog 230 [(0, (.int .i64 0)), (1, v27), (2, v31)] h32).bind fun v33 h34 =>
    (buildSliceR Prog 226 1 [(0, v33)] h34).bind fun v35 h36 =>
    (nilR v17 h36).bind fun v37 h38 =>
    (fieldAddrR Prog 228 v37 1 h38).bind fun v39 h40 =>
    (storeR Prog 226 v39 v35 h40).bind fun _v41 h42 =>
    lookup_Take_j1 k call v17 h42)
  (
    (binR Prog .eql 3 v23 (.int .i64 2) h26).bind fun v43 h44 =>
    condV (some v43) (
      (loadR Prog 235 v7 h44).bind fun v45 h46 =>
      (call F.lookup_reader_segments [v45, (.bool false)] h46).bind fun v47 h48 =>
      (nilR v17 h48).bind fun v49 h50 =>
      (fieldAddrR Prog 228 v49 1 h50).bind fun v51 h52 =>
      (storeR Prog 226 v51 v47 h52).bind fun _v53 h54 =>
      lookup_Take_j1 k call v17 h54)
    (
      (binR Prog .eql 3 v23 (.int .i64 4) h44).bind fun v55 h56 =>
      condV (some v55) (
        (loadR Prog 235 v7 h56).bind fun v57 h58 =>
        (call F.lookup_reader_segments [v57, (.bool true)] h58).bind fun v59 h60 =>
        (nilR v17 h60).bind fun v61 h62 =>
        (fieldAddrR Prog 228 v61 1 h62).bind fun v63 h64 =>
        (storeR Prog 226 v63 v59 h64).bind fun _v65 h66 =>
        lookup_Take_j1 k call v17 h66)
      (
        (binR Prog .eql 3 v23 (.int .i64 6) h56).bind fun v67 h68 =>
        condV (some v67) (
          (loadR Prog 235 v7 h68).bind fun v69 h70 =>
          (call F.lookup_reader_single [v69] h70).bind fun v71 h72 =>
          (nilR v17 h72).bind fun v73 h74 =>
          (fieldAddrR Prog 228 v73 1 h74).bind fun v75 h76 =>
          (storeR Prog 226 v75 v71 h76).bind fun _v77 h78 =>
          lookup_Take_j1 k call v17 h78)
        (
          (binR Prog .eql 3 v23 (.int .i64 8) h68).bind fun v79 h80 =>
          condV (some v79) (
            (loadR Prog 235 v7 h80).bind fun v81 h82 =>
            (call F.lookup_reader_trimmed [v81, (.int .i64 2), a2] h82).bind fun v83 h84 =>
            (nilR v17 h84).bind fun v85 h86 =>
            (fieldAddrR Prog 228 v85 1 h86).bind fun v87 h88 =>
            (storeR Prog 226 v87 v83 h88).bind fun _v89 h90 =>
            lookup_Take_j1 k call v17 h90)
          (
            (binR Prog .eql 3 v23 (.int .i64 10) h80).bind fun v91 h92 =>
            condV (some v91) (
              (loadR Prog 83 v1 h92).bind fun v93 h94 =>
              (call F.view_View_U16 [v93, (.int .i64 2)] h94).bind fun v95 h96 =>
              (binR Prog .eql 3 v95 (.int .i64 1) h96).bind fun v97 h98 =>
              ((bif wantVal v97 false then Res.ok v95 h98 else Res.ok undef h98)).bind fun v99 h100 =>
              ((bif wantVal v97 false then binR Prog .eql 3 v99 (.int .i64 2) h100 else Res.ok undef h100)).bind fun v101 h102 =>
              (condV (some v97) (Res.ok (.bool true) h102) (Res.ok v101 h102)).bind fun v103 h104 =>
              ((bif wantVal v103 false then Res.ok v95 h104 else Res.ok undef h104)).bind fun v105 h106 =>
              ((bif wantVal v103 false then binR Prog .eql 3 v105 (.int .i64 4) h106 else Res.ok undef h106)).bind fun v107 h108 =>
              (condV (some v103) (Res.ok (.bool true) h108) (Res.ok v107 h108)).bind fun v109 h110 =>
              (call F.view_Need [v109] h110).bind fun v111 h112 =>
              (loadR Prog 235 v7 h112).bind fun v113 h114 =>
              (call F.lookup_reader_trimmed [v113, (.int .i64 4), v95] h114).bind fun v115 h116 =>
              (nilR v17 h116).bind fun v117 h118 =>
              (fieldAddrR Prog 228 v117 1 h118).bind fun v119 h120 =>
              (storeR Prog 226 v119 v115 h120).bind fun _v121 h122 =>
              lookup_Take_j1 k call v17 h122)
            (
              (call F.view_Fail [] h92).bind fun v123 h124 =>
              lookup_Take_j1 k call v17 h124))))))
theorem lookup_Take_R (k : Nat) (a0 a1 a2 : Value) (h : Heap) : R (T k) F.lookup_Take [a0, a1, a2] h = nrm .fz h (lookup_Take k (R (T k)) a0 a1 a2 h) :=
  (R_body (t := T k) (T_scott k) (by kernel_rfl) _ _).trans (by kernel_rfl)
theorem lookup_Take_j1_eq (k : Nat) (call : Caller) (a8 : Value) (h : Heap) : lookup_Take_j1 k call a8 h =
  (loopN (lookup_Take_l1 k call) loopFuel [(8, a8), (10, (.int .i64 1))] h).bind fun r125 h126 =>
  lookup_Take_l1k k call r125.1 r125.2 h126 := by kernel_rfl
theorem lookup_Take_l1_eq (k : Nat) (call : Caller) (a8 a10 : Value) (h : Heap) : lookup_Take_l1 k call [(8, a8), (10, a10)] h =
  (nilR a8 h).bind fun v127 h128 =>
  (fieldAddrR Prog 228 v127 1 h128).bind fun v129 h130 =>
  (loadR Prog 226 v129 h130).bind fun v131 h132 =>
  (builtinV Prog .len [226] [v131] h132).bind fun v133 h134 =>
  (binR Prog .lss 3 a10 v133 h134).bind fun v135 h136 =>
  condV (some v135) (
    (nilR a8 h136).bindN fun v137 h138 =>
    (fieldAddrR Prog 228 v137 1 h138).bindN fun v139 h140 =>
    (loadR Prog 226 v139 h140).bindN fun v141 h142 =>
    (binR Prog .sub 3 a10 (.int .i64 1) h142).bindN fun v143 h144 =>
    (indexAddrR Prog 226 v141 v143 h144).bindN fun v145 h146 =>
    (fieldAddrR Prog 230 v145 1 h146).bindN fun v147 h148 =>
    (loadR Prog 3 v147 h148).bindN fun v149 h150 =>
    (nilR a8 h150).bindN fun v151 h152 =>
    (fieldAddrR Prog 228 v151 1 h152).bindN fun v153 h154 =>
    (loadR Prog 226 v153 h154).bindN fun v155 h156 =>
    (indexAddrR Prog 226 v155 a10 h156).bindN fun v157 h158 =>
    (fieldAddrR Prog 230 v157 0 h158).bindN fun v159 h160 =>
    (loadR Prog 3 v159 h160).bindN fun v161 h162 =>
    (binR Prog .lss 3 v149 v161 h162).bindN fun v163 h164 =>
    (call F.view_Need [v163] h164).bindT (fun p167 h168 => .panic p167 h168) fun v165 h166 =>
    (binR Prog .add 3 a10 (.int .i64 1) h166).bind fun v169 h170 =>
    .ok (.normal, [(8, a8), (10, v169)]) h170)
  (
    .ok ((.exit 1), [(8, a8), (10, a10), (93, v135)]) h136) :=
  (loopB_eq _ _).trans (by kernel_rfl)
theorem lookup_Take_l1k_x1 (k : Nat) (call : Caller) (a8 a10 a93 : Value) (h : Heap) : lookup_Take_l1k k call (.exit 1) [(8, a8), (10, a10), (93, a93)] h =
  .ok a8 h := by kernel_rfl
def lookup_Table_Format (k : Nat) (call : Caller) (a0 : Value) (h : Heap) : Res Value :=
  (nilR a0 h).bind fun v1 h2 =>
  (fieldAddrR Prog 228 v1 0 h2).bind fun v3 h4 =>
  (loadR Prog 3 v3 h4).bind fun v5 h6 =>
  .ok v5 h6
theorem lookup_Table_Format_R (k : Nat) (a0 : Value) (h : Heap) : R (T k) F.lookup_Table_Format [a0] h = nrm .gc h (lookup_Table_Format k (R (T k)) a0 h) :=
  (R_body (t := T k) (T_scott k) (by kernel_rfl) _ _).trans (by kernel_rfl)
def lookup_Table_All (k : Nat) (call : Caller) (a0 : Value) (h : Heap) : Res Value :=
  (boxR a0 h).bind fun v1 h2 =>
  .ok (.func (.func F.lookup_Table_All_in1) #[] #[v1]) h2
theorem lookup_Table_All_R (k : Nat) (a0 : Value) (h : Heap) : R (T k) F.lookup_Table_All [a0] h = nrm .gc h (lookup_Table_All k (R (T k)) a0 h) :=
  (R_body (t := T k) (T_scott k) (by kernel_rfl) _ _).trans (by kernel_rfl)
def lookup_Read_in1 (k : Nat) (call : Caller) (a0 a1 a2 a3 : Value) (h : Heap) : Res Value :=
  (loadR Prog 65 a0 h).bindN fun v1 h2 =>
  (call F.view_Of [v1] h2).bindT (fun p5 h6 => (loadR Prog 3 a1 h2).bindN fun v7 h8 => (loadR Prog 3 a2 h8).bindN fun v9 h10 => chkR ((okVal (loadR Prog 3 a1 h) v7 && true) && ((okVal (loadR Prog 3 a2 h) v9 && true) && true)) (.panic p5 h6)) fun v3 h4 =>
  (loadR Prog 3 a1 h4).bindN fun v11 h12 =>
  (loadR Prog 3 a2 h12).bindN fun v13 h14 =>
  (call F.lookup_Take [v3, v11, v13] h14).bindT (fun p17 h18 => chkR ((okVal (loadR Prog 3 a1 h) v11 && true) && ((okVal (loadR Prog 3 a2 h) v13 && true) && true)) (.panic p17 h18)) fun v15 h16 =>
  (storeR Prog 68 a3 v15 h16).bindN fun _v19 h20 =>
  chkR ((okVal (loadR Prog 3 a1 h) v11 && true) && ((okVal (loadR Prog 3 a2 h) v13 && true) && true)) (
  .ok (.tuple #[]) h20)
theorem lookup_Read_in1_R (k : Nat) (a0 a1 a2 a3 : Value) (h : Heap) : R (T k) F.lookup_Read_in1 [a0, a1, a2, a3] h = nrm .no h (lookup_Read_in1 k (R (T k)) a0 a1 a2 a3 h) :=
  (R_body (t := T k) (T_scott k) (by kernel_rfl) _ _).trans (by kernel_rfl)
def lookup_Table_Get_in1 (k : Nat) (call : Caller) (a0 a1 a2 : Value) (h : Heap) : Res Value :=
  (loadR Prog 68 a1 h).bindN fun v1 h2 =>
  (nilR v1 h2).bindN fun v3 h4 =>
  (fieldAddrR Prog 228 v3 1 h4).bindN fun v5 h6 =>
  (loadR Prog 226 v5 h6).bindN fun v7 h8 =>
  (indexAddrR Prog 226 v7 a0 h8).bindN fun v9 h10 =>
  (fieldAddrR Prog 230 v9 1 h10).bindN fun v11 h12 =>
  (loadR Prog 3 v11 h12).bindN fun v13 h14 =>
  (loadR Prog 3 a2 h14).bindN fun v15 h16 =>
  (binR Prog .geq 3 v13 v15 h16).bindN fun v17 h18 =>
  .ok v17 h18
theorem lookup_Table_Get_in1_R (k : Nat) (a0 a1 a2 : Value) (h : Heap) : R (T k) F.lookup_Table_Get_in1 [a0, a1, a2] h = nrm .gc h (lookup_Table_Get_in1 k (R (T k)) a0 a1 a2 h) :=
  (R_body (t := T k) (T_scott k) (by kernel_rfl) _ _).trans (by kernel_rfl)
def lookup_part_at (k : Nat) (call : Caller) (a0 a1 : Value) (h : Heap) : Res Value :=
  (boxR a0 h).bind fun v1 h2 =>
  (fieldAddrR Prog 230 v1 2 h2).bind fun v3 h4 =>
  (loadR Prog 28 v3 h4).bind fun v5 h6 =>
  (fieldAddrR Prog 230 v1 0 h6).bind fun v7 h8 =>
  (loadR Prog 3 v7 h8).bind fun v9 h10 =>
  (binR Prog .sub 3 a1 v9 h10).bind fun v11 h12 =>
  (fieldAddrR Prog 230 v1 2 h12).bind fun v13 h14 =>
  (loadR Prog 28 v13 h14).bind fun v15 h16 =>
  (builtinV Prog .len [28] [v15] h16).bind fun v17 h18 =>
  (binR Prog .sub 3 v17 (.int .i64 1) h18).bind fun v19 h20 =>
  (builtinV Prog .min [3, 3] [v11, v19] h20).bind fun v21 h22 =>
  (indexAddrR Prog 28 v5 v21 h22).bind fun v23 h24 =>
  (loadR Prog 3 v23 h24).bind fun v25 h26 =>
  .ok v25 h26
theorem lookup_part_at_R (k : Nat) (a0 a1 : Value) (h : Heap) : R (T k) F.lookup_part_at [a0, a1] h = nrm .gc h (lookup_part_at k (R (T k)) a0 a1 h) :=
  (R_body (t := T k) (T_scott k) (by kernel_rfl) _ _).trans (by kernel_rfl)
def lookup_list_l1 (k : Nat) (call : Caller) : Env → Heap → Res (AExit × Env) := loopB (C k) call F.lookup_list [1, 1, 1, 0, 1, 0, 0]
def lookup_list_l1k (k : Nat) (call : Caller) : Kont Value := kBlock 0 (kSeq (pieceK (C k) call F.lookup_list [1, 1, 1, 1]) (kDone Prog (resOf Prog F.lookup_list)))
def lookup_list (k : Nat) (call : Caller) (a0 a1 a2 a3 : Value) (h : Heap) : Res Value :=
  (boxR a0 h).bind fun v1 h2 =>
  (loadR Prog 83 v1 h2).bind fun v3 h4 =>
  (call F.view_View_Rows [v3, a1, a2, a3] h4).bind fun v5 h6 =>
  (allocR Prog 83 h6).bind fun v7 h8 =>
  (storeR Prog 83 v7 v5 h8).bind fun _v9 h10 =>
  (makeSliceV Prog 28 a2 a2 h10).bind fun v11 h12 =>
  (builtinV Prog .len [28] [v11] h12).bind fun v13 h14 =>
  (loopN (lookup_list_l1 k call) loopFuel [(3, a3), (9, v7), (10, v11), (20, v13), (21, (.int .i64 0))] h14).bind fun r15 h16 =>
  lookup_list_l1k k call r15.1 r15.2 h16
theorem lookup_list_R (k : Nat) (a0 a1 a2 a3 : Value) (h : Heap) : R (T k) F.lookup_list [a0, a1, a2, a3] h = nrm .fz h (lookup_list k (R (T k)) a0 a1 a2 a3 h) :=
  (R_body (t := T k) (T_scott k) (by kernel_rfl) _ _).trans (by kernel_rfl)
theorem lookup_list_l1_eq (k : Nat) (call : Caller) (a3 a9 a10 a20 a21 : Value) (h : Heap) : lookup_list_l1 k call [(3, a3), (9, a9), (10, a10), (20, a20), (21, a21)] h =
  (binR Prog .lss 3 a21 a20 h).bind fun v17 h18 =>
  condV (some v17) (
    (loadR Prog 83 a9 h18).bind fun v19 h20 =>
    (binR Prog .mul 3 a3 a21 h20).bind fun v21 h22 =>
    (call F.lookup_number [v19, v21, a3] h22).bind fun v23 h24 =>
    (indexAddrR Prog 28 a10 a21 h24).bind fun v25 h26 =>
    (storeR Prog 3 v25 v23 h26).bind fun _v27 h28 =>
    (binR Prog .add 3 a21 (.int .i64 1) h28).bind fun v29 h30 =>
    .ok (.normal, [(3, a3), (9, a9), (10, a10), (20, a20), (21, v29)]) h30)
  (
    .ok ((.exit 0), [(3, a3), (9, a9), (10, a10), (20, a20), (21, a21), (22, v17)]) h18) :=
  (loopB_eq _ _).trans (by kernel_rfl)
theorem lookup_list_l1k_x0 (k : Nat) (call : Caller) (a3 a9 a10 a20 a21 a22 : Value) (h : Heap) : lookup_list_l1k k call (.exit 0) [(3, a3), (9, a9), (10, a10), (20, a20), (21, a21), (22, a22)] h =
  .ok a10 h := by kernel_rfl
def lookup_reader_segments_j1 (k : Nat) (call : Caller) (a1 a2 a5 : Value) (h : Heap) : Res Value :=
  kSeq (pieceK (C k) call F.lookup_reader_segments [1, 1, 1]) (kDone Prog (resOf Prog F.lookup_reader_segments)) .normal [(1, a1), (2, a2), (5, a5)] h
def lookup_reader_segments_j2 (k : Nat) (call : Caller) (a1 a2 a5 a13 : Value) (h : Heap) : Res Value :=
  kSeq (pieceK (C k) call F.lookup_reader_segments [1, 1, 1]) (kDone Prog (resOf Prog F.lookup_reader_segments)) .normal [(1, a1), (2, a2), (5, a5), (13, a13)] h
def lookup_reader_segments_l1 (k : Nat) (call : Caller) : Env → Heap → Res (AExit × Env) := loopB (C k) call F.lookup_reader_segments [1, 1, 1, 1, 0, 1, 0, 0]
def lookup_reader_segments_l1k (k : Nat) (call : Caller) : Kont Value := kBlock 0 (kSeq (pieceK (C k) call F.lookup_reader_segments [1, 1, 1, 1, 1]) (kDone Prog (resOf Prog F.lookup_reader_segments)))
def lookup_reader_segments_j3 (k : Nat) (call : Caller) (a1 a2 a6 a9 a17 a18 a19 : Value) (h : Heap) : Res (AExit × Env) :=
  kSeq (pieceK (C k) call F.lookup_reader_segments [1, 1, 1, 1, 0, 1, 0, 0, 1, 1, 0, 0, 1, 1, 1, 1]) (kBlock 1 (kSeq (pieceK (C k) call F.lookup_reader_segments [1, 1, 1, 1, 0, 1, 0, 0, 1, 1, 1]) (kRound (ownOf (C k) F.lookup_reader_segments [1, 1, 1, 1, 0, 1, 0, 0])))) .normal [(1, a1), (2, a2), (6, a6), (9, a9), (17, a17), (18, a18), (19, a19)] h
def lookup_reader_segments (k : Nat) (call : Caller) (a0 a1 : Value) (h : Heap) : Res Value :=
  (boxR a0 h).bind fun v1 h2 =>
  (fieldAddrR Prog 235 v1 2 h2).bind fun v3 h4 =>
  (loadR Prog 3 v3 h4).bind fun v5 h6 =>
  (binR Prog .add 3 (.int .i64 4) v5 h6).bind fun v7 h8 =>
  condV (some a1) (
    lookup_reader_segments_j1 k call a1 v1 (.int .i64 6) h8)
  (
    lookup_reader_segments_j2 k call a1 v1 v7 a1 h8)
theorem lookup_reader_segments_R (k : Nat) (a0 a1 : Value) (h : Heap) : R (T k) F.lookup_reader_segments [a0, a1] h = nrm .fz h (lookup_reader_segments k (R (T k)) a0 a1 h) :=
  (R_body (t := T k) (T_scott k) (by kernel_rfl) _ _).trans (by kernel_rfl)
theorem lookup_reader_segments_j1_eq (k : Nat) (call : Caller) (a1 a2 a5 : Value) (h : Heap) : lookup_reader_segments_j1 k call a1 a2 a5 h =
  (fieldAddrR Prog 235 a2 0 h).bind fun v9 h10 =>
  (loadR Prog 83 v9 h10).bind fun v11 h12 =>
  (call F.seek_Take [v11, (.int .i64 2), a5, (.int .i64 2)] h12).bind fun v13 h14 =>
  (builtinV Prog .len [301] [v13] h14).bind fun v15 h16 =>
  (loopN (lookup_reader_segments_l1 k call) loopFuel [(1, a1), (2, a2), (6, (.slice none 0 0)), (17, v13), (18, v15), (19, (.int .i64 0))] h16).bind fun r17 h18 =>
  lookup_reader_segments_l1k k call r17.1 r17.2 h18 := by kernel_rfl
theorem lookup_reader_segments_j2_eq (k : Nat) (call : Caller) (a1 a2 a5 a13 : Value) (h : Heap) : lookup_reader_segments_j2 k call a1 a2 a5 a13 h =
  (fieldAddrR Prog 235 a2 0 h).bind fun v19 h20 =>
  (loadR Prog 83 v19 h20).bind fun v21 h22 =>
  (call F.seek_Take [v21, (.int .i64 2), a5, (.int .i64 2)] h22).bind fun v23 h24 =>
  (builtinV Prog .len [301] [v23] h24).bind fun v25 h26 =>
  (loopN (lookup_reader_segments_l1 k call) loopFuel [(1, a1), (2, a2), (6, (.slice none 0 0)), (17, v23), (18, v25), (19, (.int .i64 0))] h26).bind fun r27 h28 =>
  lookup_reader_segments_l1k k call r27.1 r27.2 h28 := by kernel_rfl
theorem lookup_reader_segments_l1_eq (k : Nat) (call : Caller) (a1 a2 a6 a17 a18 a19 : Value) (h : Heap) : lookup_reader_segments_l1 k call [(1, a1), (2, a2), (6, a6), (17, a17), (18, a18), (19, a19)] h =
  (binR Prog .lss 3 a19 a18 h).bind fun v29 h30 =>
  condV (some v29) (
    (indexAddrR Prog 301 a17 a19 h30).bind fun v31 h32 =>
    (loadR Prog 83 v31 h32).bind fun v33 h34 =>
    (allocR Prog 83 h34).bind fun v35 h36 =>
    (storeR Prog 83 v35 v33 h36).bind fun _v37 h38 =>
    (loadR Prog 83 v35 h38).bindN fun v39 h40 =>
    (call F.view_View_U16 [v39, (.int .i64 2)] h40).bindT (fun p43 h44 => (loadR Prog 83 v35 h40).bindN fun v45 h46 => (allocR Prog 230 h46).bindN fun v47 h48 => chkR ((okVal (loadR Prog 83 v35 h38) v45 && true) && true) (.panic p43 h44)) fun v41 h42 =>
    (loadR Prog 83 v35 h42).bindN fun v49 h50 =>
    (call F.view_View_U16 [v49, (.int .i64 0)] h50).bindT (fun p53 h54 => (allocR Prog 230 h50).bindN fun v55 h56 => chkR ((okVal (loadR Prog 83 v35 h38) v49 && true) && true) (.panic p53 h54)) fun v51 h52 =>
    (buildR Prog 230 [(0, v41), (1, v51)] h52).bindN fun v57 h58 =>
    (allocR Prog 230 h58).bindN fun v59 h60 =>
    (storeR Prog 230 v59 v57 h60).bindN fun _v61 h62 =>
    chkR ((okVal (loadR Prog 83 v35 h38) v49 && true) && true) (
    (fieldAddrR Prog 230 v59 0 h62).bind fun v63 h64 =>
    (loadR Prog 3 v63 h64).bind fun v65 h66 =>
    (fieldAddrR Prog 230 v59 1 h66).bind fun v67 h68 =>
    (loadR Prog 3 v67 h68).bind fun v69 h70 =>
    (binR Prog .leq 3 v65 v69 h70).bind fun v71 h72 =>
    (call F.view_Need [v71] h72).bind fun v73 h74 =>
    condV (some a1) (
      (fieldAddrR Prog 235 a2 0 h74).bindN fun v75 h76 =>
      (loadR Prog 83 v75 h76).bindN fun v77 h78 =>
      (loadR Prog 83 v35 h78).bindN fun v79 h80 =>
      (call F.view_View_U16 [v79, (.int .i64 4)] h80).bindT (fun p83 h84 => (fieldAddrR Prog 230 v59 1 h80).bindN fun v85 h86 => (loadR Prog 3 v85 h86).bindN fun v87 h88 => (fieldAddrR Prog 230 v59 0 h88).bindN fun v89 h90 => (loadR Prog 3 v89 h90).bindN fun v91 h92 => (binR Prog .sub 3 v87 v91 h92).bindN fun v93 h94 => (binR Prog .add 3 v93 (.int .i64 1) h94).bindN fun v95 h96 => (fieldAddrR Prog 235 a2 2 h96).bindN fun v97 h98 => (loadR Prog 3 v97 h98).bindN fun v99 h100 => chkR ((okVal (loadR Prog 3 v85 h74) v87 && true) && ((okVal (loadR Prog 3 v89 h74) v91 && true) && ((okVal (loadR Prog 3 v97 h74) v99 && true) && true))) (.panic p83 h84)) fun v81 h82 =>
      (fieldAddrR Prog 230 v59 1 h82).bindN fun v101 h102 =>
      (loadR Prog 3 v101 h102).bindN fun v103 h104 =>
      (fieldAddrR Prog 230 v59 0 h104).bindN fun v105 h106 =>
      (loadR Prog 3 v105 h106).bindN fun v107 h108 =>
      (binR Prog .sub 3 v103 v107 h108).bindN fun v109 h110 =>
      (binR Prog .add 3 v109 (.int .i64 1) h110).bindN fun v111 h112 =>
      (fieldAddrR Prog 235 a2 2 h112).bindN fun v113 h114 =>
      (loadR Prog 3 v113 h114).bindN fun v115 h116 =>
      (call F.lookup_list [v77, v81, v111, v115] h116).bindT (fun p119 h120 => chkR ((okVal (loadR Prog 83 v75 h82) v77 && true) && ((okVal (loadR Prog 3 v101 h74) v103 && true) && ((okVal (loadR Prog 3 v105 h74) v107 && true) && ((okVal (loadR Prog 3 v113 h74) v115 && true) && true)))) (.panic p119 h120)) fun v117 h118 =>
      (fieldAddrR Prog 230 v59 2 h118).bindN fun v121 h122 =>
      (storeR Prog 28 v121 v117 h122).bindN fun _v123 h124 =>
      chkR ((okVal (loadR Prog 83 v75 h82) v77 && true) && ((okVal (loadR Prog 3 v101 h74) v103 && true) && ((okVal (loadR Prog 3 v105 h74) v107 && true) && ((okVal (loadR Prog 3 v113 h74) v115 && true) && true)))) (
      lookup_reader_segments_j3 k call a1 a2 a6 v59 a17 a18 a19 h124))
    (
      (loadR Prog 83 v35 h74).bind fun v125 h126 =>
      (fieldAddrR Prog 235 a2 2 h126).bind fun v127 h128 =>
      (loadR Prog 3 v127 h128).bind fun v129 h130 =>
      (call F.lookup_number [v125, (.int .i64 4), v129] h130).bind fun v131 h132 =>
      (buildSliceR Prog 28 1 [(0, v131)] h132).bind fun v133 h134 =>
      (fieldAddrR Prog 230 v59 2 h134).bind fun v135 h136 =>
      (storeR Prog 28 v135 v133 h136).bind fun _v137 h138 =>
      lookup_reader_segments_j3 k call a1 a2 a6 v59 a17 a18 a19 h138)))
  (
    .ok ((.exit 0), [(1, a1), (2, a2), (6, a6), (17, a17), (18, a18), (19, a19), (20, v29)]) h30) :=
  (loopB_eq _ _).trans (by kernel_rfl)
theorem lookup_reader_segments_j3_eq (k : Nat) (call : Caller) (a1 a2 a6 a9 a17 a18 a19 : Value) (h : Heap) : lookup_reader_segments_j3 k call a1 a2 a6 a9 a17 a18 a19 h =
  (loadR Prog 230 a9 h).bind fun v139 h140 =>
  (buildSliceR Prog 226 1 [(0, v139)] h140).bind fun v141 h142 =>
  (builtinV Prog .append [226, 226] [a6, v141] h142).bind fun v143 h144 =>
  (binR Prog .add 3 a19 (.int .i64 1) h144).bind fun v145 h146 =>
  .ok (.normal, [(1, a1), (2, a2), (6, v143), (17, a17), (18, a18), (19, v145)]) h146 := by kernel_rfl
theorem lookup_reader_segments_l1k_x0 (k : Nat) (call : Caller) (a1 a2 a6 a17 a18 a19 a20 : Value) (h : Heap) : lookup_reader_segments_l1k k call (.exit 0) [(1, a1), (2, a2), (6, a6), (17, a17), (18, a18), (19, a19), (20, a20)] h =
  .ok a6 h := by kernel_rfl
def lookup_reader_single_l1 (k : Nat) (call : Caller) : Env → Heap → Res (AExit × Env) := loopB (C k) call F.lookup_reader_single [1, 1, 0, 1, 0, 0]
def lookup_reader_single_l1k (k : Nat) (call : Caller) : Kont Value := kBlock 0 (kSeq (pieceK (C k) call F.lookup_reader_single [1, 1, 1]) (kDone Prog (resOf Prog F.lookup_reader_single)))
def lookup_reader_single (k : Nat) (call : Caller) (a0 : Value) (h : Heap) : Res Value :=
  (boxR a0 h).bind fun v1 h2 =>
  (fieldAddrR Prog 235 v1 0 h2).bind fun v3 h4 =>
  (loadR Prog 83 v3 h4).bind fun v5 h6 =>
  (fieldAddrR Prog 235 v1 2 h6).bind fun v7 h8 =>
  (loadR Prog 3 v7 h8).bind fun v9 h10 =>
  (binR Prog .add 3 (.int .i64 2) v9 h10).bind fun v11 h12 =>
  (call F.seek_Take [v5, (.int .i64 2), v11, (.int .i64 1)] h12).bind fun v13 h14 =>
  (builtinV Prog .len [301] [v13] h14).bind fun v15 h16 =>
  (loopN (lookup_reader_single_l1 k call) loopFuel [(1, v1), (3, (.slice none 0 0)), (12, v13), (13, v15), (14, (.int .i64 0))] h16).bind fun r17 h18 =>
  lookup_reader_single_l1k k call r17.1 r17.2 h18
theorem lookup_reader_single_R (k : Nat) (a0 : Value) (h : Heap) : R (T k) F.lookup_reader_single [a0] h = nrm .fz h (lookup_reader_single k (R (T k)) a0 h) :=
  (R_body (t := T k) (T_scott k) (by kernel_rfl) _ _).trans (by kernel_rfl)
theorem lookup_reader_single_l1_eq (k : Nat) (call : Caller) (a1 a3 a12 a13 a14 : Value) (h : Heap) : lookup_reader_single_l1 k call [(1, a1), (3, a3), (12, a12), (13, a13), (14, a14)] h =
  (binR Prog .lss 3 a14 a13 h).bind fun v19 h20 =>
  condV (some v19) (
    (indexAddrR Prog 301 a12 a14 h20).bind fun v21 h22 =>
    (loadR Prog 83 v21 h22).bind fun v23 h24 =>
    (allocR Prog 83 h24).bind fun v25 h26 =>
    (storeR Prog 83 v25 v23 h26).bind fun _v27 h28 =>
    (loadR Prog 83 v25 h28).bind fun v29 h30 =>
    (call F.view_View_U16 [v29, (.int .i64 0)] h30).bind fun v31 h32 =>
    (loadR Prog 83 v25 h32).bind fun v33 h34 =>
    (fieldAddrR Prog 235 a1 2 h34).bind fun v35 h36 =>
    (loadR Prog 3 v35 h36).bind fun v37 h38 =>
    (call F.lookup_number [v33, (.int .i64 2), v37] h38).bind fun v39 h40 =>
    (buildSliceR Prog 28 1 [(0, v39)] h40).bind fun v41 h42 =>
    (buildR Prog 230 [(0, v31), (1, v31), (2, v41)] h42).bind fun v43 h44 =>
    (buildSliceR Prog 226 1 [(0, v43)] h44).bind fun v45 h46 =>
    (builtinV Prog .append [226, 226] [a3, v45] h46).bind fun v47 h48 =>
    (binR Prog .add 3 a14 (.int .i64 1) h48).bind fun v49 h50 =>
    .ok (.normal, [(1, a1), (3, v47), (12, a12), (13, a13), (14, v49)]) h50)
  (
    .ok ((.exit 0), [(1, a1), (3, a3), (12, a12), (13, a13), (14, a14), (15, v19)]) h20) :=
  (loopB_eq _ _).trans (by kernel_rfl)
theorem lookup_reader_single_l1k_x0 (k : Nat) (call : Caller) (a1 a3 a12 a13 a14 a15 : Value) (h : Heap) : lookup_reader_single_l1k k call (.exit 0) [(1, a1), (3, a3), (12, a12), (13, a13), (14, a14), (15, a15)] h =
  .ok a3 h := by kernel_rfl
def lookup_reader_trimmed (k : Nat) (call : Caller) (a0 a1 a2 : Value) (h : Heap) : Res Value :=
  (boxR a0 h).bind fun v1 h2 =>
  (fieldAddrR Prog 235 v1 0 h2).bindN fun v3 h4 =>
  (loadR Prog 83 v3 h4).bindN fun v5 h6 =>
  (call F.view_View_U16 [v5, a1] h6).bindT (fun p9 h10 => (fieldAddrR Prog 235 v1 0 h6).bindN fun v11 h12 => (loadR Prog 83 v11 h12).bindN fun v13 h14 => (binR Prog .add 3 a1 (.int .i64 2) h14).bindN fun v15 h16 => chkR ((okVal (loadR Prog 83 v11 h2) v13 && true) && true) (.panic p9 h10)) fun v7 h8 =>
  (fieldAddrR Prog 235 v1 0 h8).bindN fun v17 h18 =>
  (loadR Prog 83 v17 h18).bindN fun v19 h20 =>
  (binR Prog .add 3 a1 (.int .i64 2) h20).bindN fun v21 h22 =>
  (call F.view_View_U16 [v19, v21] h22).bindT (fun p25 h26 => chkR ((okVal (loadR Prog 83 v17 h2) v19 && true) && true) (.panic p25 h26)) fun v23 h24 =>
  chkR ((okVal (loadR Prog 83 v17 h2) v19 && true) && true) (
  (binR Prog .add 3 v7 v23 h24).bind fun v27 h28 =>
  (binR Prog .leq 3 v27 (.int .i64 65536) h28).bind fun v29 h30 =>
  (call F.view_Need [v29] h30).bind fun v31 h32 =>
  (fieldAddrR Prog 235 v1 0 h32).bind fun v33 h34 =>
  (loadR Prog 83 v33 h34).bind fun v35 h36 =>
  (binR Prog .add 3 a1 (.int .i64 4) h36).bind fun v37 h38 =>
  (call F.lookup_list [v35, v37, v23, a2] h38).bind fun v39 h40 =>
  (binR Prog .eql 3 v23 (.int .i64 0) h40).bind fun v41 h42 =>
  condV (some v41) (
    .ok (.slice none 0 0) h42)
  (
    (binR Prog .add 3 v7 v23 h42).bind fun v43 h44 =>
    (binR Prog .sub 3 v43 (.int .i64 1) h44).bind fun v45 h46 =>
    (buildR Prog 230 [(0, v7), (1, v45), (2, v39)] h46).bind fun v47 h48 =>
    (buildSliceR Prog 226 1 [(0, v47)] h48).bind fun v49 h50 =>
    .ok v49 h50))
theorem lookup_reader_trimmed_R (k : Nat) (a0 a1 a2 : Value) (h : Heap) : R (T k) F.lookup_reader_trimmed [a0, a1, a2] h = nrm .fz h (lookup_reader_trimmed k (R (T k)) a0 a1 a2 h) :=
  (R_body (t := T k) (T_scott k) (by kernel_rfl) _ _).trans (by kernel_rfl)
def lookup_Table_All_in1_l1 (k : Nat) (call : Caller) : Env → Heap → Res (AExit × Env) := loopB (C k) call F.lookup_Table_All_in1 [1, 0, 0]
def lookup_Table_All_in1_l1k (k : Nat) (call : Caller) : Kont Value := kBlock 0 (kDone Prog (resOf Prog F.lookup_Table_All_in1))
def lookup_Table_All_in1_l2 (k : Nat) (call : Caller) : Env → Heap → Res (AExit × Env) := loopB (C k) call F.lookup_Table_All_in1 [1, 0, 0, 1, 1, 0, 0, 1, 1, 0, 0]
def lookup_Table_All_in1_l2k (k : Nat) (call : Caller) : Kont (AExit × Env) := kBlock 2 (kBlock 1 (kSeq (pieceK (C k) call F.lookup_Table_All_in1 [1, 0, 0, 1, 1, 1]) (kRound (ownOf (C k) F.lookup_Table_All_in1 [1, 0, 0]))))
def lookup_Table_All_in1 (k : Nat) (call : Caller) (a0 a1 : Value) (h : Heap) : Res Value :=
  (loadR Prog 68 a1 h).bind fun v1 h2 =>
  (nilR v1 h2).bind fun v3 h4 =>
  (fieldAddrR Prog 228 v3 1 h4).bind fun v5 h6 =>
  (loadR Prog 226 v5 h6).bind fun v7 h8 =>
  (builtinV Prog .len [226] [v7] h8).bind fun v9 h10 =>
  (loopN (lookup_Table_All_in1_l1 k call) loopFuel [(0, a0), (9, v7), (10, v9), (11, (.int .i64 0))] h10).bind fun r11 h12 =>
  lookup_Table_All_in1_l1k k call r11.1 r11.2 h12
theorem lookup_Table_All_in1_R (k : Nat) (a0 a1 : Value) (h : Heap) : R (T k) F.lookup_Table_All_in1 [a0, a1] h = nrm .no h (lookup_Table_All_in1 k (R (T k)) a0 a1 h) :=
  (R_body (t := T k) (T_scott k) (by kernel_rfl) _ _).trans (by kernel_rfl)
theorem lookup_Table_All_in1_l1_eq (k : Nat) (call : Caller) (a0 a9 a10 a11 : Value) (h : Heap) : lookup_Table_All_in1_l1 k call [(0, a0), (9, a9), (10, a10), (11, a11)] h =
  (binR Prog .lss 3 a11 a10 h).bind fun v13 h14 =>
  condV (some v13) (
    (indexAddrR Prog 226 a9 a11 h14).bind fun v15 h16 =>
    (loadR Prog 230 v15 h16).bind fun v17 h18 =>
    (allocR Prog 230 h18).bind fun v19 h20 =>
    (storeR Prog 230 v19 v17 h20).bind fun _v21 h22 =>
    (fieldAddrR Prog 230 v19 0 h22).bind fun v23 h24 =>
    (loadR Prog 3 v23 h24).bind fun v25 h26 =>
    (loopN (lookup_Table_All_in1_l2 k call) loopFuel [(0, a0), (4, v19), (5, v25), (9, a9), (10, a10), (11, a11)] h26).bind fun r27 h28 =>
    lookup_Table_All_in1_l2k k call r27.1 r27.2 h28)
  (
    .ok ((.exit 0), [(0, a0), (9, a9), (10, a10), (11, a11), (12, v13)]) h14) :=
  (loopB_eq _ _).trans (by kernel_rfl)
theorem lookup_Table_All_in1_l2_eq (k : Nat) (call : Caller) (a0 a4 a5 a9 a10 a11 : Value) (h : Heap) : lookup_Table_All_in1_l2 k call [(0, a0), (4, a4), (5, a5), (9, a9), (10, a10), (11, a11)] h =
  (fieldAddrR Prog 230 a4 1 h).bind fun v29 h30 =>
  (loadR Prog 3 v29 h30).bind fun v31 h32 =>
  (binR Prog .leq 3 a5 v31 h32).bind fun v33 h34 =>
  condV (some v33) (
    (loadR Prog 230 a4 h34).bind fun v35 h36 =>
    (call F.lookup_part_at [v35, a5] h36).bind fun v37 h38 =>
    (callV call a0 [a5, v37] h38).bind fun v39 h40 =>
    (unR .not v39 h40).bind fun v41 h42 =>
    condV (some v41) (
      .ok (.ret, [(0, a0), (4, a4), (5, a5), (9, a9), (10, a10), (11, a11), (29, v41)]) h42)
    (
      (binR Prog .add 3 a5 (.int .i64 1) h42).bind fun v43 h44 =>
      .ok (.normal, [(0, a0), (4, a4), (5, v43), (9, a9), (10, a10), (11, a11)]) h44))
  (
    .ok ((.exit 2), [(0, a0), (4, a4), (5, a5), (9, a9), (10, a10), (11, a11), (20, v33)]) h34) :=
  (loopB_eq _ _).trans (by kernel_rfl)
theorem lookup_Table_All_in1_l1k_x0 (k : Nat) (call : Caller) (a0 a9 a10 a11 a12 : Value) (h : Heap) : lookup_Table_All_in1_l1k k call (.exit 0) [(0, a0), (9, a9), (10, a10), (11, a11), (12, a12)] h =
  .ok (.tuple #[]) h := by kernel_rfl
theorem lookup_Table_All_in1_l2k_r (k : Nat) (call : Caller) (a0 a4 a5 a9 a10 a11 a29 : Value) (h : Heap) : lookup_Table_All_in1_l2k k call .ret [(0, a0), (4, a4), (5, a5), (9, a9), (10, a10), (11, a11), (29, a29)] h =
  .ok (.ret, [(0, a0), (4, a4), (5, a5), (9, a9), (10, a10), (11, a11), (29, a29)]) h := by kernel_rfl
theorem lookup_Table_All_in1_l2k_x2 (k : Nat) (call : Caller) (a0 a4 a5 a9 a10 a11 a20 : Value) (h : Heap) : lookup_Table_All_in1_l2k k call (.exit 2) [(0, a0), (4, a4), (5, a5), (9, a9), (10, a10), (11, a11), (20, a20)] h =
  (binR Prog .add 3 a11 (.int .i64 1) h).bind fun v45 h46 =>
  .ok (.normal, [(0, a0), (9, a9), (10, a10), (11, v45)]) h46 := by kernel_rfl
theorem lookup_Table_All_in1_l1k_r (k : Nat) (call : Caller) (a0 a4 a5 a9 a10 a11 a29 : Value) (h : Heap) : lookup_Table_All_in1_l1k k call .ret [(0, a0), (4, a4), (5, a5), (9, a9), (10, a10), (11, a11), (29, a29)] h =
  .ok (.tuple #[]) h := by kernel_rfl
def lookup_number (k : Nat) (call : Caller) (a0 a1 a2 : Value) (h : Heap) : Res Value :=
  (boxR a0 h).bind fun v1 h2 =>
  (binR Prog .eql 3 a2 (.int .i64 1) h2).bind fun v3 h4 =>
  condV (some v3) (
    (loadR Prog 83 v1 h4).bind fun v5 h6 =>
    (call F.view_View_U8 [v5, a1] h6).bind fun v7 h8 =>
    .ok v7 h8)
  (
    (binR Prog .eql 3 a2 (.int .i64 2) h4).bind fun v9 h10 =>
    condV (some v9) (
      (loadR Prog 83 v1 h10).bind fun v11 h12 =>
      (call F.view_View_U16 [v11, a1] h12).bind fun v13 h14 =>
      .ok v13 h14)
    (
      (loadR Prog 83 v1 h10).bind fun v15 h16 =>
      (call F.view_View_U32 [v15, a1] h16).bind fun v17 h18 =>
      .ok v17 h18))
theorem lookup_number_R (k : Nat) (a0 a1 a2 : Value) (h : Heap) : R (T k) F.lookup_number [a0, a1, a2] h = nrm .gc h (lookup_number k (R (T k)) a0 a1 a2 h) :=
  (R_body (t := T k) (T_scott k) (by kernel_rfl) _ _).trans (by kernel_rfl)
end
end Go.Sw
