/-
  Functions' forms, and what is proved of them, part 7.
-/
import Derived.Test.YtnaodjnimkndbaaSwCfg
import Derived.Test.YtnaodjnimkndbaaSwW6
set_option linter.unusedSimpArgs false
set_option linter.unusedVariables false
set_option linter.unusedSectionVars false
section
set_option maxRecDepth 100000
set_option linter.unusedVariables false
namespace Go.Sw
noncomputable section
def swashtop_WholeSwaps_l1 (k : Nat) (call : Caller) : Env → Heap → Res (AExit × Env) := loopB (C k) call F.swashtop_WholeSwaps [1, 1, 1, 1, 1, 0, 1, 0, 0]
def swashtop_WholeSwaps_l1k (k : Nat) (call : Caller) : Kont Value := kBlock 0 (kSeq (pieceK (C k) call F.swashtop_WholeSwaps [1, 1, 1, 1, 1, 1]) (kDone Prog (resOf Prog F.swashtop_WholeSwaps)))
def swashtop_WholeSwaps_j1 (k : Nat) (call : Caller) (a0 a1 a2 a7 a8 a10 a40 a41 : Value) (h : Heap) : Res (AExit × Env) :=
 kSeq (pieceK (C k) call F.swashtop_WholeSwaps [1, 1, 1, 1, 1, 0, 1, 0, 0, 1, 1, 0, 0, 1, 1, 1]) (kBlock 1 (kSeq (pieceK (C k) call F.swashtop_WholeSwaps [1, 1, 1, 1, 1, 0, 1, 0, 0, 1, 1, 1]) (kRound (ownOf (C k) F.swashtop_WholeSwaps [1, 1, 1, 1, 1, 0, 1, 0, 0])))) .normal [(0, a0), (1, a1), (2, a2), (7, a7), (8, a8), (10, a10), (40, a40), (41, a41)] h
def swashtop_WholeSwaps_j2 (k : Nat) (call : Caller) (a0 a1 a2 a7 a8 a9 a10 a40 a41 a48 : Value) (h : Heap) : Res (AExit × Env) :=
 kSeq (pieceK (C k) call F.swashtop_WholeSwaps [1, 1, 1, 1, 1, 0, 1, 0, 0, 1, 1, 0, 0, 1, 1, 1]) (kBlock 1 (kSeq (pieceK (C k) call F.swashtop_WholeSwaps [1, 1, 1, 1, 1, 0, 1, 0, 0, 1, 1, 1]) (kRound (ownOf (C k) F.swashtop_WholeSwaps [1, 1, 1, 1, 1, 0, 1, 0, 0])))) .normal [(0, a0), (1, a1), (2, a2), (7, a7), (8, a8), (9, a9), (10, a10), (40, a40), (41, a41), (48, a48)] h
def swashtop_WholeSwaps_j3 (k : Nat) (call : Caller) (a0 a1 a2 a7 a8 a10 a40 a41 : Value) (h : Heap) : Res (AExit × Env) :=
 kSeq (pieceK (C k) call F.swashtop_WholeSwaps [1, 1, 1, 1, 1, 0, 1, 0, 0, 1, 1, 0, 0, 1, 1, 1, 1]) (kBlock 1 (kSeq (pieceK (C k) call F.swashtop_WholeSwaps [1, 1, 1, 1, 1, 0, 1, 0, 0, 1, 1, 1]) (kRound (ownOf (C k) F.swashtop_WholeSwaps [1, 1, 1, 1, 1, 0, 1, 0, 0])))) .normal [(0, a0), (1, a1), (2, a2), (7, a7), (8, a8), (10, a10), (40, a40), (41, a41)] h
def swashtop_WholeSwaps_j4 (k : Nat) (call : Caller) (a0 a1 a2 a7 a8 a10 a40 a41 a57 : Value) (h : Heap) : Res (AExit × Env) :=
 kSeq (pieceK (C k) call F.swashtop_WholeSwaps [1, 1, 1, 1, 1, 0, 1, 0, 0, 1, 1, 0, 0, 1, 1, 1, 1]) (kBlock 1 (kSeq (pieceK (C k) call F.swashtop_WholeSwaps [1, 1, 1, 1, 1, 0, 1, 0, 0, 1, 1, 1]) (kRound (ownOf (C k) F.swashtop_WholeSwaps [1, 1, 1, 1, 1, 0, 1, 0, 0])))) .normal [(0, a0), (1, a1), (2, a2), (7, a7), (8, a8), (10, a10), (40, a40), (41, a41), (57, a57)] h
def swashtop_WholeSwaps_l2 (k : Nat) (call : Caller) : Env → Heap → Res (AExit × Env) := loopB (C k) call F.swashtop_WholeSwaps [1, 1, 1, 1, 1, 1, 1, 1, 1, 1, 1, 0, 1, 0, 0]
def swashtop_WholeSwaps_l2k (k : Nat) (call : Caller) : Kont Value := kBlock 2 (kSeq (pieceK (C k) call F.swashtop_WholeSwaps [1, 1, 1, 1, 1, 1, 1, 1, 1, 1, 1, 1]) (kDone Prog (resOf Prog F.swashtop_WholeSwaps)))
def swashtop_WholeSwaps (k : Nat) (call : Caller) (a0 a1 a2 : Value) (h : Heap) : Res Value :=
 (buildSliceR Prog 156 1 [(0, (.int .u16 1))] h).bind fun v1 h2 =>
 (callV call (.func (.func F.swashtop_WholeSwaps_in1) #[] #[]) [v1] h2).bind fun v3 h4 =>
 (binR Prog .eql 106 v3 (.pointer none) h4).bind fun v5 h6 =>
 condV (some v5) (
 .ok (.bool false) h6)
 (
 (builtinV Prog .len [156] [a0] h6).bind fun v7 h8 =>
 (binR Prog .gtr 3 v7 (.int .i64 100) h8).bind fun v9 h10 =>
 ((bif wantVal v9 false then Res.ok a1 h10 else Res.ok undef h10)).bind fun v11 h12 =>
 ((bif wantVal v9 false then builtinV Prog .len [156] [v11] h12 else Res.ok undef h12)).bind fun v13 h14 =>
 ((bif wantVal v9 false then binR Prog .gtr 3 v13 (.int .i64 100) h14 else Res.ok undef h14)).bind fun v15 h16 =>
 (condV (some v9) (Res.ok (.bool true) h16) (Res.ok v15 h16)).bind fun v17 h18 =>
 ((bif wantVal v17 false then Res.ok a2 h18 else Res.ok undef h18)).bind fun v19 h20 =>
 ((bif wantVal v17 false then builtinV Prog .len [28] [v19] h20 else Res.ok undef h20)).bind fun v21 h22 =>
 ((bif wantVal v17 false then binR Prog .gtr 3 v21 (.int .i64 60) h22 else Res.ok undef h22)).bind fun v23 h24 =>
 (condV (some v17) (Res.ok (.bool true) h24) (Res.ok v23 h24)).bind fun v25 h26 =>
 condV (some v25) (
 .ok (.bool true) h26)
 (
 (builtinV Prog .len [156] [a0] h26).bind fun v27 h28 =>
 (builtinV Prog .len [156] [a1] h28).bind fun v29 h30 =>
 (builtinV Prog .max [3, 3] [v27, v29] h30).bind fun v31 h32 =>
 (loopN (swashtop_WholeSwaps_l1 k call) loopFuel [(0, a0), (1, a1), (2, a2), (7, (.func (.func F.swashtop_WholeSwaps_in1) #[] #[])), (8, (.slice none 0 0)), (40, v31), (41, (.int .i64 0))] h32).bind fun r33 h34 =>
 swashtop_WholeSwaps_l1k k call r33.1 r33.2 h34))
theorem swashtop_WholeSwaps_R (k : Nat) (a0 a1 a2 : Value) (h : Heap) : R (T k) F.swashtop_WholeSwaps [a0, a1, a2] h = nrm .gc h (swashtop_WholeSwaps k (R (T k)) a0 a1 a2 h) :=
 (R_body (t := T k) (T_scott k) (by kernel_rfl) (by kernel_rfl) _ _).trans (by kernel_rfl)
theorem swashtop_WholeSwaps_l1_eq (k : Nat) (call : Caller) (a0 a1 a2 a7 a8 a40 a41 : Value) (h : Heap) : swashtop_WholeSwaps_l1 k call [(0, a0), (1, a1), (2, a2), (7, a7), (8, a8), (40, a40), (41, a41)] h =
 (binR Prog .lss 3 a41 a40 h).bind fun v35 h36 =>
 condV (some v35) (
 (builtinV Prog .len [156] [a0] h36).bind fun v37 h38 =>
 (binR Prog .lss 3 a41 v37 h38).bind fun v39 h40 =>
 condV (some v39) (
 (indexAddrR Prog 156 a0 a41 h40).bind fun v41 h42 =>
 (loadR Prog 62 v41 h42).bind fun v43 h44 =>
 (convR Prog 62 3 v43 h44).bind fun v45 h46 =>
 swashtop_WholeSwaps_j1 k call a0 a1 a2 a7 a8 v45 a40 a41 h46)
 (
 swashtop_WholeSwaps_j2 k call a0 a1 a2 a7 a8 a41 a41 a40 a41 v39 h40))
 (
 .ok ((.exit 0), [(0, a0), (1, a1), (2, a2), (7, a7), (8, a8), (40, a40), (41, a41), (42, v35)]) h36) :=
 (loopB_eq _ _).trans (by kernel_rfl)
theorem swashtop_WholeSwaps_j1_eq (k : Nat) (call : Caller) (a0 a1 a2 a7 a8 a10 a40 a41 : Value) (h : Heap) : swashtop_WholeSwaps_j1 k call a0 a1 a2 a7 a8 a10 a40 a41 h =
 (builtinV Prog .len [156] [a1] h).bind fun v47 h48 =>
 (binR Prog .lss 3 a10 v47 h48).bind fun v49 h50 =>
 condV (some v49) (
 (indexAddrR Prog 156 a1 a10 h50).bind fun v51 h52 =>
 (loadR Prog 62 v51 h52).bind fun v53 h54 =>
 (convR Prog 62 3 v53 h54).bind fun v55 h56 =>
 swashtop_WholeSwaps_j3 k call a0 a1 a2 a7 a8 v55 a40 a41 h56)
 (
 swashtop_WholeSwaps_j4 k call a0 a1 a2 a7 a8 a10 a40 a41 v49 h50) := by kernel_rfl
theorem swashtop_WholeSwaps_j2_eq (k : Nat) (call : Caller) (a0 a1 a2 a7 a8 a9 a10 a40 a41 a48 : Value) (h : Heap) : swashtop_WholeSwaps_j2 k call a0 a1 a2 a7 a8 a9 a10 a40 a41 a48 h =
 (builtinV Prog .len [156] [a1] h).bind fun v57 h58 =>
 (binR Prog .lss 3 a10 v57 h58).bind fun v59 h60 =>
 condV (some v59) (
 (indexAddrR Prog 156 a1 a10 h60).bind fun v61 h62 =>
 (loadR Prog 62 v61 h62).bind fun v63 h64 =>
 (convR Prog 62 3 v63 h64).bind fun v65 h66 =>
 swashtop_WholeSwaps_j3 k call a0 a1 a2 a7 a8 v65 a40 a41 h66)
 (
 swashtop_WholeSwaps_j4 k call a0 a1 a2 a7 a8 a10 a40 a41 v59 h60) := by kernel_rfl
theorem swashtop_WholeSwaps_j3_eq (k : Nat) (call : Caller) (a0 a1 a2 a7 a8 a10 a40 a41 : Value) (h : Heap) : swashtop_WholeSwaps_j3 k call a0 a1 a2 a7 a8 a10 a40 a41 h =
 (convR Prog 3 62 a10 h).bind fun v67 h68 =>
 (buildSliceR Prog 156 1 [(0, v67)] h68).bind fun v69 h70 =>
 (builtinV Prog .append [156, 156] [a8, v69] h70).bind fun v71 h72 =>
 (binR Prog .add 3 a41 (.int .i64 1) h72).bind fun v73 h74 =>
 .ok (.normal, [(0, a0), (1, a1), (2, a2), (7, a7), (8, v71), (40, a40), (41, v73)]) h74 := by kernel_rfl
theorem swashtop_WholeSwaps_j4_eq (k : Nat) (call : Caller) (a0 a1 a2 a7 a8 a10 a40 a41 a57 : Value) (h : Heap) : swashtop_WholeSwaps_j4 k call a0 a1 a2 a7 a8 a10 a40 a41 a57 h =
 (convR Prog 3 62 a10 h).bind fun v75 h76 =>
 (buildSliceR Prog 156 1 [(0, v75)] h76).bind fun v77 h78 =>
 (builtinV Prog .append [156, 156] [a8, v77] h78).bind fun v79 h80 =>
 (binR Prog .add 3 a41 (.int .i64 1) h80).bind fun v81 h82 =>
 .ok (.normal, [(0, a0), (1, a1), (2, a2), (7, a7), (8, v79), (40, a40), (41, v81)]) h82 := by kernel_rfl
theorem swashtop_WholeSwaps_l1k_x0 (k : Nat) (call : Caller) (a0 a1 a2 a7 a8 a40 a41 a42 : Value) (h : Heap) : swashtop_WholeSwaps_l1k k call (.exit 0) [(0, a0), (1, a1), (2, a2), (7, a7), (8, a8), (40, a40), (41, a41), (42, a42)] h =
 (callV call a7 [a0] h).bind fun v83 h84 =>
 (callV call a7 [a1] h84).bind fun v85 h86 =>
 (callV call a7 [a8] h86).bind fun v87 h88 =>
 (binR Prog .eql 106 v83 (.pointer none) h88).bind fun v89 h90 =>
 ((bif wantVal v89 false then Res.ok v85 h90 else Res.ok undef h90)).bind fun v91 h92 =>
 ((bif wantVal v89 false then binR Prog .eql 106 v91 (.pointer none) h92 else Res.ok undef h92)).bind fun v93 h94 =>
 (condV (some v89) (Res.ok (.bool true) h94) (Res.ok v93 h94)).bind fun v95 h96 =>
 ((bif wantVal v95 false then Res.ok v87 h96 else Res.ok undef h96)).bind fun v97 h98 =>
 ((bif wantVal v95 false then binR Prog .eql 106 v97 (.pointer none) h98 else Res.ok undef h98)).bind fun v99 h100 =>
 (condV (some v95) (Res.ok (.bool true) h100) (Res.ok v99 h100)).bind fun v101 h102 =>
 condV (some v101) (
 .ok (.bool false) h102)
 (
 (call F.line_New [a2] h102).bind fun v103 h104 =>
 (call F.line_New [a2] h104).bind fun v105 h106 =>
 (call F.swap_Table_Run [v83, v103] h106).bind fun v107 h108 =>
 (binR Prog .neq 69 v107 (.int .i64 0) h108).bind fun v109 h110 =>
 ((bif wantVal v109 false then Res.ok v85 h110 else Res.ok undef h110)).bind fun v111 h112 =>
 ((bif wantVal v109 false then Res.ok v103 h112 else Res.ok undef h112)).bind fun v113 h114 =>
 ((bif wantVal v109 false then call F.swap_Table_Run [v111, v113] h114 else Res.ok undef h114)).bind fun v115 h116 =>
 ((bif wantVal v109 false then binR Prog .neq 69 v115 (.int .i64 0) h116 else Res.ok undef h116)).bind fun v117 h118 =>
 (condV (some v109) (Res.ok (.bool true) h118) (Res.ok v117 h118)).bind fun v119 h120 =>
 ((bif wantVal v119 false then Res.ok v87 h120 else Res.ok undef h120)).bind fun v121 h122 =>
 ((bif wantVal v119 false then Res.ok v105 h122 else Res.ok undef h122)).bind fun v123 h124 =>
 ((bif wantVal v119 false then call F.swap_Table_Run [v121, v123] h124 else Res.ok undef h124)).bind fun v125 h126 =>
 ((bif wantVal v119 false then binR Prog .neq 69 v125 (.int .i64 0) h126 else Res.ok undef h126)).bind fun v127 h128 =>
 (condV (some v119) (Res.ok (.bool true) h128) (Res.ok v127 h128)).bind fun v129 h130 =>
 ((bif wantVal v129 false then Res.ok v103 h130 else Res.ok undef h130)).bind fun v131 h132 =>
 ((bif wantVal v129 false then call F.line_Line_Len [v131] h132 else Res.ok undef h132)).bind fun v133 h134 =>
 ((bif wantVal v129 false then Res.ok v105 h134 else Res.ok undef h134)).bind fun v135 h136 =>
 ((bif wantVal v129 false then call F.line_Line_Len [v135] h136 else Res.ok undef h136)).bind fun v137 h138 =>
 ((bif wantVal v129 false then binR Prog .neq 3 v133 v137 h138 else Res.ok undef h138)).bind fun v139 h140 =>
 (condV (some v129) (Res.ok (.bool true) h140) (Res.ok v139 h140)).bind fun v141 h142 =>
 condV (some v141) (
 .ok (.bool false) h142)
 (
 (call F.line_Line_Glyphs [v103] h142).bind fun v143 h144 =>
 (call F.line_Line_Glyphs [v105] h144).bind fun v145 h146 =>
 (builtinV Prog .len [50] [v143] h146).bind fun v147 h148 =>
 (loopN (swashtop_WholeSwaps_l2 k call) loopFuel [(16, v143), (17, v145), (120, v147), (121, (.int .i64 0))] h148).bind fun r149 h150 =>
 swashtop_WholeSwaps_l2k k call r149.1 r149.2 h150)) := by kernel_rfl
theorem swashtop_WholeSwaps_l2_eq (k : Nat) (call : Caller) (a16 a17 a120 a121 : Value) (h : Heap) : swashtop_WholeSwaps_l2 k call [(16, a16), (17, a17), (120, a120), (121, a121)] h =
 (binR Prog .lss 3 a121 a120 h).bind fun v151 h152 =>
 condV (some v151) (
 (indexAddrR Prog 50 a16 a121 h152).bindN fun v153 h154 =>
 (loadR Prog 55 v153 h154).bindN fun v155 h156 =>
 (indexAddrR Prog 50 a17 a121 h156).bindN fun v157 h158 =>
 (loadR Prog 55 v157 h158).bindN fun v159 h160 =>
 (binR Prog .neq 55 v155 v159 h160).bindN fun v161 h162 =>
 condV (some v161) (
 .ok (.ret, [(6, (.bool false))]) h162)
 (
 (binR Prog .add 3 a121 (.int .i64 1) h162).bind fun v163 h164 =>
 .ok (.normal, [(16, a16), (17, a17), (120, a120), (121, v163)]) h164))
 (
 .ok ((.exit 2), [(16, a16), (17, a17), (120, a120), (121, a121), (122, v151)]) h152) :=
 (loopB_eq _ _).trans (by kernel_rfl)
theorem swashtop_WholeSwaps_l2k_x2 (k : Nat) (call : Caller) (a16 a17 a120 a121 a122 : Value) (h : Heap) : swashtop_WholeSwaps_l2k k call (.exit 2) [(16, a16), (17, a17), (120, a120), (121, a121), (122, a122)] h =
 .ok (.bool true) h := by kernel_rfl
def swashtop_WholeSwaps_in1_l1 (k : Nat) (call : Caller) : Env → Heap → Res (AExit × Env) := loopB (C k) call F.swashtop_WholeSwaps_in1 [1, 1, 0, 1, 0, 0]
def swashtop_WholeSwaps_in1_l1k (k : Nat) (call : Caller) : Kont Value := kBlock 0 (kSeq (pieceK (C k) call F.swashtop_WholeSwaps_in1 [1, 1, 1]) (kDone Prog (resOf Prog F.swashtop_WholeSwaps_in1)))
def swashtop_WholeSwaps_in1 (k : Nat) (call : Caller) (a0 : Value) (h : Heap) : Res Value :=
 (call F.swashref02_Put [(.slice none 0 0), (.int .i64 8), (.int .i64 2)] h).bind fun v1 h2 =>
 (call F.swashref02_Put [v1, (.int .i64 0), (.int .i64 2)] h2).bind fun v3 h4 =>
 (builtinV Prog .len [156] [a0] h4).bind fun v5 h6 =>
 (call F.swashref02_Put [v3, v5, (.int .i64 2)] h6).bind fun v7 h8 =>
 (builtinV Prog .len [156] [a0] h8).bind fun v9 h10 =>
 (loopN (swashtop_WholeSwaps_in1_l1 k call) loopFuel [(3, v7), (13, a0), (14, v9), (15, (.int .i64 0))] h10).bind fun r11 h12 =>
 swashtop_WholeSwaps_in1_l1k k call r11.1 r11.2 h12
theorem swashtop_WholeSwaps_in1_R (k : Nat) (a0 : Value) (h : Heap) : R (T k) F.swashtop_WholeSwaps_in1 [a0] h = nrm .gc h (swashtop_WholeSwaps_in1 k (R (T k)) a0 h) :=
 (R_body (t := T k) (T_scott k) (by kernel_rfl) (by kernel_rfl) _ _).trans (by kernel_rfl)
theorem swashtop_WholeSwaps_in1_l1_eq (k : Nat) (call : Caller) (a3 a13 a14 a15 : Value) (h : Heap) : swashtop_WholeSwaps_in1_l1 k call [(3, a3), (13, a13), (14, a14), (15, a15)] h =
 (binR Prog .lss 3 a15 a14 h).bind fun v13 h14 =>
 condV (some v13) (
 (indexAddrR Prog 156 a13 a15 h14).bind fun v15 h16 =>
 (loadR Prog 62 v15 h16).bind fun v17 h18 =>
 (convR Prog 62 3 v17 h18).bind fun v19 h20 =>
 (call F.swashref02_Put [a3, v19, (.int .i64 2)] h20).bind fun v21 h22 =>
 (binR Prog .add 3 a15 (.int .i64 1) h22).bind fun v23 h24 =>
 .ok (.normal, [(3, v21), (13, a13), (14, a14), (15, v23)]) h24)
 (
 .ok ((.exit 0), [(3, a3), (13, a13), (14, a14), (15, a15), (16, v13)]) h14) :=
 (loopB_eq _ _).trans (by kernel_rfl)
theorem swashtop_WholeSwaps_in1_l1k_x0 (k : Nat) (call : Caller) (a3 a13 a14 a15 a16 : Value) (h : Heap) : swashtop_WholeSwaps_in1_l1k k call (.exit 0) [(3, a3), (13, a13), (14, a14), (15, a15), (16, a16)] h =
 (call F.swap_Read [a3, (.int .i64 40)] h).bind fun v25 h26 =>
 (extractR v25 0 h26).bind fun v27 h28 =>
 (extractR v25 1 h28).bind fun v29 h30 =>
 .ok v27 h30 := by kernel_rfl
end
end Go.Sw
end
section
namespace Go.Sw
open Go.RowKit
def bothX (f g : List Int) (i : Nat) : Int := (g[((f[i]?).getD (i : Int)).toNat]?).getD ((f[i]?).getD (i : Int))
def bothL (f g : List Int) : List Int := (List.range (max f.length g.length)).map (bothX f g)
theorem bothL_len (f g : List Int) : (bothL f g).length = max f.length g.length := by simp [bothL]
theorem bothX_bound {f g : List Int} (hf : ∀ x, x ∈ f → 0 ≤ x ∧ x < 65536) (hg : ∀ x, x ∈ g → 0 ≤ x ∧ x < 65536) {i : Nat} (hi : i < 65536) : 0 ≤ bothX f g i ∧ bothX f g i < 65536 := by
 have h1 : 0 ≤ (f[i]?).getD (i : Int) ∧ (f[i]?).getD (i : Int) < 65536 := by
  cases h : f[i]? with
  | none => simp; omega
  | some x => exact hf x (List.mem_of_getElem? h)
 unfold bothX
 cases h : g[((f[i]?).getD (i : Int)).toNat]? with
 | none => exact h1
 | some x => exact hg x (List.mem_of_getElem? h)
theorem swap_both {f g : List Int} (hf : ∀ x, x ∈ f → 0 ≤ x ∧ x < 65536) (hfl : f.length ≤ 100) (hgl : g.length ≤ 100) (y : Gl) : swapG (tabOf (bothL f g)).2 y = swapG (tabOf g).2 (swapG (tabOf f).2 y) := by
 obtain ⟨id, cl⟩ := y
 have hsw : ∀ (s : List Int) (i c : Int), swapG (tabOf s).2 ⟨i, c⟩ = if i = 65535 then ⟨i, c⟩ else ⟨(if 0 ≤ i then (s[i.toNat]?).getD i else i), c⟩ := fun s i c => by
  unfold swapG
  dsimp only
  split
  ·rfl
  ·rw [tab_get]
   by_cases h0 : 0 ≤ i
   ·rw [if_pos h0, if_pos h0]
    cases s[i.toNat]? <;> rfl
   ·rw [if_neg h0, if_neg h0]
 rw [hsw (bothL f g) id cl, hsw f id cl]
 by_cases h1 : id = 65535
 ·rw [if_pos h1, if_pos h1, hsw, if_pos h1]
 ·rw [if_neg h1, if_neg h1, hsw]
  by_cases h0 : 0 ≤ id
  ·rw [if_pos h0, if_pos h0]
   obtain ⟨n, rfl⟩ := Int.eq_ofNat_of_zero_le h0
   rw [Int.toNat_natCast]
   have hx0 : 0 ≤ (f[n]?).getD (n : Int) := by
    cases h : f[n]? with
    | none => simp
    | some x => exact (hf x (List.mem_of_getElem? h)).1
   have hb : (bothL f g)[n]?.getD (n : Int) = bothX f g n := by
    by_cases hn : n < max f.length g.length
    ·unfold bothL
     rw [List.getElem?_map, List.getElem?_range hn]
     rfl
    ·rw [List.getElem?_eq_none (by rw [bothL_len]; omega)]
     unfold bothX
     rw [List.getElem?_eq_none (l := f) (by omega)]
     dsimp only [Option.getD_none]
     rw [Int.toNat_natCast, List.getElem?_eq_none (l := g) (by omega)]
     rfl
   rw [hb]
   unfold bothX
   generalize (f[n]?).getD (n : Int) = x at hx0 ⊢
   by_cases hx : x = 65535
   ·subst hx
    rw [if_pos rfl, List.getElem?_eq_none (by simp; omega)]
    rfl
   ·rw [if_neg hx, if_pos hx0]
  ·rw [if_neg h0, if_neg h0, if_neg h1, if_neg h0]
set_option maxHeartbeats 1000000 in
theorem wsIn1_run (k : Nat) {H : Heap} {v : Value} {l : List Int} (hv : Sl H 1 v encU2 l) (hb : ∀ x, x ∈ l → 0 ≤ x ∧ x < 65536) (hl : l.length ≤ 1000) :
  R (T k) F.swashtop_WholeSwaps_in1 [v] H = .ok (swapTab (tabOf l)) H := by
 rw [swashtop_WholeSwaps_in1_R]
 have g := (Star.nil H).more_row (Ext.refl _) (OwnO.nil encB _ 1) (fun b hb => by cases hb)
 simp only [List.nil_append] at g
 obtain ⟨t1, u1, H1, e1, g⟩ := Put_star k g 0 rfl 8 2 2 rfl (by omega) (by omega) (by omega) (by simp)
 simp only [List.set_cons_zero, List.nil_append] at g
 obtain ⟨t2, u2, H2, e2, g⟩ := Put_star k g 0 rfl 0 2 2 rfl (by omega) (by omega) (by omega) (by simp)
 simp only [List.set_cons_zero] at g
 obtain ⟨t3, u3, H3, e3, g⟩ := Put_star k g 0 rfl l.length 2 2 rfl (by omega) (by omega) (by omega) (by simp)
 simp only [List.set_cons_zero] at g
 have hlv := fun H' => hv.len H'
 obtain ⟨xx, e', H4, hr4, rfl, s, o, rfl, g⟩ := loop_up (body := swashtop_WholeSwaps_in1_l1 k (R (T k))) l.length
  (fun j e H' => ∃ s o, e = [(3, s), (13, v), (14, .int .i64 l.length), (15, .int .i64 j)] ∧ Star H H' [itRow o 1 s encB ((bytesOf 8 2 ++ bytesOf 0 2 ++ bytesOf l.length 2) ++ twos (l.take j))])
  (fun xx e H' => xx = .exit 0 ∧ ∃ s o, e = [(3, s), (13, v), (14, .int .i64 l.length), (15, .int .i64 l.length), (16, .bool false)] ∧ Star H H' [itRow o 1 s encB (ofS l)])
  (e0 := [(3, t3), (13, v), (14, .int .i64 l.length), (15, .int .i64 0)]) (H0 := H3) ⟨t3, u3, rfl, by simpa [twos] using g⟩ (by omega)
  (fun j e H' hj ⟨s, o, he, g⟩ => by
   subst he
   have hjl : (j : Int) < l.length := by omega
   obtain ⟨x, hx⟩ : ∃ x, l[j]? = some x := ⟨_, List.getElem?_eq_getElem hj⟩
   have hxb := hb x (List.mem_of_getElem? hx)
   obtain ⟨p, i1, i2⟩ := hv.ix1 encU2_len j x hx _ rfl
   have i2 := i2 H' g.ext
   obtain ⟨s2, o2, H2, e2, g2⟩ := Put_star k g 0 rfl x 2 2 rfl hxb.1 (by omega) (by omega) (by rw [List.length_append, twos_len, List.length_take]; simp; omega)
   simp only [List.set_cons_zero] at g2
   rw [List.append_assoc, ← twos_take l hx] at g2
   refine .inl ⟨_, H2, ?_, s2, o2, rfl, g2⟩
   rw [swashtop_WholeSwaps_in1_l1_eq]
   simp -implicitDefEqProofs (disch := omega) [hjl, i1, i2, e2])
  (fun e H' ⟨s, o, he, g⟩ => by
   subst he
   rw [List.take_length] at g
   refine ⟨.exit 0, _, H', ?_, by simp, rfl, s, o, rfl, g⟩
   rw [swashtop_WholeSwaps_in1_l1_eq]
   simp -implicitDefEqProofs)
 have hcb : Byt (ofS l) := by
  unfold ofS
  exact (((bytesOf_byt _ _).app (bytesOf_byt _ _)).app (bytesOf_byt _ _)).app (Byt.flat fun r hr => by obtain ⟨x, _, rfl⟩ := List.mem_map.1 hr; exact bytesOf_byt _ _)
 have hol := ofS_len l
 have hrd := swapRead_run k ((g.row 0 rfl).sl encB_len) hcb 40 (by omega)
 have hlk := look_ofS l hb (by omega) [] 40
 rw [List.append_nil] at hlk
 have hO : lookO (ofS l) 40 2 = some (tabOf l) := by
  unfold lookO
  rw [show badS 40 2 = false from rfl]
  simpa using hlk
 rw [hO] at hrd
 refine nrm_gc ⟨H4, ?_, g.ext⟩ (Flat.swap _).alive
 simp -implicitDefEqProofs (disch := omega) [swashtop_WholeSwaps_in1, e1, e2, hlv, e3, hr4, swashtop_WholeSwaps_in1_l1k_x0, hrd, swapV]
theorem tabOf_fine {l : List Int} (hb : ∀ x, x ∈ l → 0 ≤ x ∧ x < 65536) (hl : l.length ≤ 1000) : (∀ p, p ∈ (tabOf l).2 → p.ok) ∧ risesS (tabOf l).2 = true ∧ (tabOf l).2.length < 2 ^ 31 := by
 have hcb : Byt (ofS l) := by
  unfold ofS
  exact (((bytesOf_byt _ _).app (bytesOf_byt _ _)).app (bytesOf_byt _ _)).app (Byt.flat fun r hr => by obtain ⟨x, _, rfl⟩ := List.mem_map.1 hr; exact bytesOf_byt _ _)
 have hlk := look_ofS l hb (by omega) [] 40
 rw [List.append_nil] at hlk
 obtain ⟨_, h2, h3⟩ := lookS_ok hcb (glyphs := 40) (z := 2) (by omega) (by omega) (.inl rfl) (fmt := (tabOf l).1) (ps := (tabOf l).2) hlk
 refine ⟨h2, h3, ?_⟩
 unfold tabOf
 split <;> simp
set_option maxHeartbeats 2000000 in
theorem WholeSwaps_run (f q ids : List Int) (hf : ∀ x, x ∈ f → 0 ≤ x ∧ x < 65536) (hq : ∀ x, x ∈ q → 0 ≤ x ∧ x < 65536) (hn : f.length < 2 ^ 63 ∧ q.length < 2 ^ 63 ∧ ids.length < 2 ^ 63) : R (T 0) F.swashtop_WholeSwaps [lv encU2 f, lv encU2 q, lv encI ids] Heap.empty = .ok (.bool true) Heap.empty := by
  generalize hk : (0 : Nat) = k
  have hk6 : k < 1000000 := by subst hk; decide
  clear hk
  rw [swashtop_WholeSwaps_R]
  generalize Heap.empty = H
  have g := (Star.nil H).push ⟨[.int .u16 1], 1, false⟩
  simp only [List.nil_append] at g
  have s0 : Sl (H.push ⟨[.int .u16 1], 1, false⟩) 1 (.slice (some ⟨H.n, 0, none⟩) 1 1) encU2 [1] := .inr (.inr ⟨H.n, 0, 1, _, rfl, Nat.le_refl _, g.get 0 rfl, rfl⟩)
  have e0 := wsIn1_run k s0 (fun x hx => by have : x = 1 := by simpa using hx
                                            omega) (by simp)
  have cv : ∀ (v : Value) (H' : Heap), callV (R (T k)) (.func (.func F.swashtop_WholeSwaps_in1) #[] #[]) [v] H' = R (T k) F.swashtop_WholeSwaps_in1 [v] H' := fun v H' => rfl
  by_cases c1 : f.length > 100
  · have c1' : (f.length : Int) > 100 := by omega
    refine nrm_gc ⟨_, ?_, g.ext⟩ (.bool _)
    simp -implicitDefEqProofs (disch := omega) [swashtop_WholeSwaps, cv, e0, c1']
  have c1' : ¬ (f.length : Int) > 100 := by omega
  by_cases c2 : q.length > 100
  · have c2' : (q.length : Int) > 100 := by omega
    refine nrm_gc ⟨_, ?_, g.ext⟩ (.bool _)
    simp -implicitDefEqProofs (disch := omega) [swashtop_WholeSwaps, cv, e0, c1', c2']
  have c2' : ¬ (q.length : Int) > 100 := by omega
  by_cases c3 : ids.length > 60
  · have c3' : (ids.length : Int) > 60 := by omega
    refine nrm_gc ⟨_, ?_, g.ext⟩ (.bool _)
    simp -implicitDefEqProofs (disch := omega) [swashtop_WholeSwaps, cv, e0, c1', c2', c3']
  have c3' : ¬ (ids.length : Int) > 60 := by omega
  obtain ⟨N, hN⟩ : ∃ N, N = max f.length q.length := ⟨_, rfl⟩
  have hmax : (if f.length < q.length then (q.length : Int) else f.length) = (N : Int) := by split <;> omega
  have g := g.more_row (Ext.refl _) (OwnO.nil encU2 _ 1) (fun b hb => by cases hb)
  simp only [List.cons_append, List.nil_append] at g
  obtain ⟨xx, e', H1, hr1, rfl, s8, o8, rfl, g⟩ := loop_up (body := swashtop_WholeSwaps_l1 k (R (T k))) N
    (fun j e H' => ∃ s8 o8, e = [(0, lv encU2 f), (1, lv encU2 q), (2, lv encI ids), (7, .func (.func F.swashtop_WholeSwaps_in1) #[] #[]), (8, s8), (40, .int .i64 N), (41, .int .i64 j)] ∧ Star H H' [itBlk H.n ⟨[.int .u16 1], 1, false⟩, itRow o8 1 s8 encU2 ((bothL f q).take j)])
    (fun xx e H' => xx = .exit 0 ∧ ∃ s8 o8, e = [(0, lv encU2 f), (1, lv encU2 q), (2, lv encI ids), (7, .func (.func F.swashtop_WholeSwaps_in1) #[] #[]), (8, s8), (40, .int .i64 N), (41, .int .i64 N), (42, .bool false)] ∧ Star H H' [itBlk H.n ⟨[.int .u16 1], 1, false⟩, itRow o8 1 s8 encU2 (bothL f q)])
    (e0 := [(0, lv encU2 f), (1, lv encU2 q), (2, lv encI ids), (7, .func (.func F.swashtop_WholeSwaps_in1) #[] #[]), (8, .slice none 0 0), (40, .int .i64 N), (41, .int .i64 0)]) (H0 := H.push ⟨[.int .u16 1], 1, false⟩) ⟨_, none, rfl, g⟩ (by omega)
    (fun j e H' hj ⟨s8, o8, he, g⟩ => by
      subst he
      have hjl : (j : Int) < N := by omega
      have hbj : (bothL f q)[j]? = some (bothX f q j) := by
        unfold bothL
        rw [List.getElem?_map, List.getElem?_range (by omega)]
        rfl
      have hbb := bothX_bound hf hq (i := j) (by omega)
      obtain ⟨s9, o9, H2, e2, g2⟩ := g.append1 (bytes := 2) 1 encU2_len rfl (bothX f q j) (by rw [List.length_take, bothL_len]; omega) (by decide)
      simp only [List.set_cons_zero, List.set_cons_succ] at g2
      rw [← take_snoc hbj] at g2
      refine .inl ⟨_, H2, ?_, s9, o9, rfl, g2⟩
      rw [swashtop_WholeSwaps_l1_eq]
      cases hfj : f[j]? with
      | some x =>
        have u1 : (j : Int) < f.length := by have := (List.getElem?_eq_some_iff.1 hfj).1; omega
        have i1 := fun H' => ixS_lvN encU2_len f .i64 j x hfj H'
        have hxb := hf x (List.mem_of_getElem? hfj)
        have hbx : bothX f q j = (q[x.toNat]?).getD x := by unfold bothX; rw [hfj]; rfl
        obtain ⟨x, rfl⟩ := Int.eq_ofNat_of_zero_le hxb.1
        rw [Int.toNat_natCast] at hbx
        cases hqx : q[x]? with
        | some y =>
          have u2 : (x : Int) < q.length := by have := (List.getElem?_eq_some_iff.1 hqx).1; omega
          have i2 := fun H' => ixS_lvN encU2_len q .i64 x y hqx H'
          have hyb := hq y (List.mem_of_getElem? hqx)
          rw [hqx] at hbx
          rw [hbx] at e2
          simp only [Option.getD_some] at e2
          simp -implicitDefEqProofs (disch := omega) [hjl, u1, i1, swashtop_WholeSwaps_j1_eq, u2, i2, swashtop_WholeSwaps_j3_eq, e2]
        | none =>
          have u2 : ¬ (x : Int) < q.length := by have := List.getElem?_eq_none_iff.1 hqx; omega
          rw [hqx] at hbx
          rw [hbx] at e2
          simp only [Option.getD_none] at e2
          simp -implicitDefEqProofs (disch := omega) [hjl, u1, i1, swashtop_WholeSwaps_j1_eq, u2, swashtop_WholeSwaps_j4_eq, e2]
      | none =>
        have u1 : ¬ (j : Int) < f.length := by have := List.getElem?_eq_none_iff.1 hfj; omega
        have hbx : bothX f q j = (q[j]?).getD (j : Int) := by unfold bothX; rw [hfj]; rfl
        cases hqx : q[j]? with
        | some y =>
          have u2 : (j : Int) < q.length := by have := (List.getElem?_eq_some_iff.1 hqx).1; omega
          have i2 := fun H' => ixS_lvN encU2_len q .i64 j y hqx H'
          have hyb := hq y (List.mem_of_getElem? hqx)
          rw [hqx] at hbx
          rw [hbx] at e2
          simp only [Option.getD_some] at e2
          simp -implicitDefEqProofs (disch := omega) [hjl, u1, swashtop_WholeSwaps_j2_eq, u2, i2, swashtop_WholeSwaps_j3_eq, e2]
        | none =>
          have := List.getElem?_eq_none_iff.1 hqx
          omega)
    (fun e H' ⟨s8, o8, he, g⟩ => by
      subst he
      rw [List.take_of_length_le (by rw [bothL_len]; omega)] at g
      refine ⟨.exit 0, _, H', ?_, by simp, rfl, s8, o8, rfl, g⟩
      rw [swashtop_WholeSwaps_l1_eq]
      simp -implicitDefEqProofs)
  have hbl : (bothL f q).length ≤ 100 := by rw [bothL_len]; omega
  have hbb : ∀ x, x ∈ bothL f q → 0 ≤ x ∧ x < 65536 := fun x hx => by
    obtain ⟨i, hi, rfl⟩ := List.mem_map.1 hx
    have := List.mem_range.1 hi
    exact bothX_bound hf hq (by omega)
  have a1 := fun H' => wsIn1_run k (H := H') (Sl.lv H' 1 f) hf (by omega)
  have a2 := fun H' => wsIn1_run k (H := H') (Sl.lv H' 1 q) hq (by omega)
  have a3 := wsIn1_run k ((g.row 1 rfl).sl encU2_len) hbb (by omega)
  obtain ⟨p1, p2, p3⟩ := tabOf_fine hf (by omega)
  obtain ⟨r1, r2, r3⟩ := tabOf_fine hq (by omega)
  obtain ⟨t1, t2, t3⟩ := tabOf_fine hbb (by omega)
  obtain ⟨c1, o1, H2, e2, g⟩ := lineNew_star k g ids (by omega)
  simp only [List.nil_append, List.cons_append] at g
  obtain ⟨c2, o2, H3, e3, g⟩ := lineNew_star k g ids (by omega)
  simp only [List.nil_append, List.cons_append] at g
  obtain ⟨H4, e4, g⟩ := swapRun_star k g 2 rfl (by simp; omega) (tabOf f) p1 p2 p3
  simp only [List.set_cons_zero, List.set_cons_succ] at g
  obtain ⟨H5, e5, g⟩ := swapRun_star k g 2 rfl (by simp; omega) (tabOf q) r1 r2 r3
  simp only [List.set_cons_zero, List.set_cons_succ] at g
  obtain ⟨H6, e6, g⟩ := swapRun_star k g 3 rfl (by simp; omega) (tabOf (bothL f q)) t1 t2 t3
  simp only [List.set_cons_zero, List.set_cons_succ] at g
  have hsame : (newG ids).map (swapG (tabOf (bothL f q)).2) = ((newG ids).map (swapG (tabOf f).2)).map (swapG (tabOf q).2) := by
    rw [List.map_map]
    exact List.map_congr_left fun y _ => swap_both hf (by omega) (by omega) y
  rw [hsame] at g
  obtain ⟨L, hL⟩ : ∃ L, L = ((newG ids).map (swapG (tabOf f).2)).map (swapG (tabOf q).2) := ⟨_, rfl⟩
  have hLl : L.length = ids.length := by rw [hL]; simp
  rw [← hL] at g
  have hl1 := lineLen_run k g 2 rfl
  have hl2 := lineLen_run k g 3 rfl
  have gl1 := lineGlyphs_run k hk6 g 2 rfl (by omega)
  have gl2 := lineGlyphs_run k hk6 g 3 rfl (by omega)
  obtain ⟨xx, e', H7, hr7, rfl, rfl, rfl⟩ := loop_up (body := swashtop_WholeSwaps_l2 k (R (T k))) L.length
    (fun j e H' => e = [(16, lv encG L), (17, lv encG L), (120, .int .i64 L.length), (121, .int .i64 j)] ∧ H' = H6)
    (fun xx e H' => xx = .exit 2 ∧ e = [(16, lv encG L), (17, lv encG L), (120, .int .i64 L.length), (121, .int .i64 L.length), (122, .bool false)] ∧ H' = H6)
    (e0 := [(16, lv encG L), (17, lv encG L), (120, .int .i64 L.length), (121, .int .i64 0)]) (H0 := H6) ⟨rfl, rfl⟩ (by omega)
    (fun j e H' hj ⟨he, hH⟩ => by
      subst he hH
      have hjl : (j : Int) < L.length := by omega
      obtain ⟨y, hy⟩ : ∃ y, L[j]? = some y := ⟨_, List.getElem?_eq_getElem hj⟩
      have i1 := fun H' => ixS_lvN encG_len L .i64 j y hy H'
      refine .inl ⟨_, _, ?_, rfl, rfl⟩
      rw [swashtop_WholeSwaps_l2_eq]
      simp -implicitDefEqProofs (disch := omega) [hjl, i1])
    (fun e H' ⟨he, hH⟩ => by
      subst he hH
      refine ⟨.exit 2, _, _, ?_, by simp, rfl, rfl, rfl⟩
      rw [swashtop_WholeSwaps_l2_eq]
      simp -implicitDefEqProofs)
  refine nrm_gc ⟨H7, ?_, g.ext⟩ (.bool _)
  simp -implicitDefEqProofs (disch := omega) [swashtop_WholeSwaps, cv, e0, c1', c2', c3', hmax, hr1, swashtop_WholeSwaps_l1k_x0, a1, a2, a3, e2, e3, e4, e5, e6, hl1, hl2, gl1, gl2, hr7, swashtop_WholeSwaps_l2k_x2]
theorem WholeSwaps_args (vs : List Value) (h : ArgsLay [.one (.slice [.int .u16]), .one (.slice [.int .u16]), .one (.slice [.int .i64])] vs) : ∃ H', R (T 0) F.swashtop_WholeSwaps vs Heap.empty = .ok (.bool true) H' := by
 obtain ⟨v1, _, rfl, h1, h⟩ := h.head
 obtain ⟨v2, _, rfl, h2, h⟩ := h.head
 obtain ⟨v3, _, rfl, h3, h⟩ := h.head
 obtain rfl := h.done
 obtain ⟨d1, h1⟩ := h1.cell
 obtain ⟨d2, h2⟩ := h2.cell
 obtain ⟨d3, h3⟩ := h3.cell
 have row : ∀ r cs, LayRow [.int .u16] r cs → ∃ n : Int, cs = encU2 n ∧ 0 ≤ n ∧ n < 65536 := fun r cs h => by
  obtain ⟨d, v, ds, vs, rfl, h1, h2⟩ := h.head
  obtain rfl := h2.done
  obtain ⟨n, rfl, w⟩ := h1.intv
  exact ⟨n, rfl, wf_u16 w⟩
 obtain ⟨a, rfl, na, ha⟩ := Lay.listN (enc := encU2) (ok := fun n => 0 ≤ n ∧ n < 65536) row h1
 obtain ⟨b, rfl, nb, hb⟩ := Lay.listN (enc := encU2) (ok := fun n => 0 ≤ n ∧ n < 65536) row h2
 obtain ⟨ids, rfl, nc, _⟩ := Lay.listN (enc := encI) (ok := fun n => (Lit.int .i64 n).wf = true) (fun r cs h => row_I h) h3
 exact ⟨_, WholeSwaps_run a b ids ha hb ⟨na, nb, nc⟩⟩
end Go.Sw
end
