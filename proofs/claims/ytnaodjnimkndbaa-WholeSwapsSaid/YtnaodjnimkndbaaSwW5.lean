/-
  Functions' forms, and what is proved of them, part 5.
-/
import Derived.Test.YtnaodjnimkndbaaSwCfg
import Derived.Test.YtnaodjnimkndbaaSwW4
import Derived.Test.YtnaodjnimkndbaaSwW2
import Derived.Test.YtnaodjnimkndbaaSwW3
import Derived.Test.YtnaodjnimkndbaaSwW1
import Derived.Test.YtnaodjnimkndbaaSwLib8
import Derived.Tactics
import Derived.Tactics2
import Derived.Defers
import Derived.Recover
import Derived.Laws.Pointers
set_option linter.unusedSimpArgs false
set_option linter.unusedVariables false
set_option linter.unusedSectionVars false
section
set_option maxRecDepth 100000
set_option linter.unusedVariables false
namespace Go.Sw
noncomputable section
def swashlaw07_Write_l1 (k : Nat) (call : Caller) : Env → Heap → Res (AExit × Env) := loopB (C k) call F.swashlaw07_Write [1, 1, 1, 1, 0, 1, 0, 0]
def swashlaw07_Write_l1k (k : Nat) (call : Caller) : Kont Value := kBlock 0 (kSeq (pieceK (C k) call F.swashlaw07_Write [1, 1, 1, 1, 1]) (kDone Prog (resOf Prog F.swashlaw07_Write)))
def swashlaw07_Write_l2 (k : Nat) (call : Caller) : Env → Heap → Res (AExit × Env) := loopB (C k) call F.swashlaw07_Write [1, 1, 1, 1, 1, 1, 0, 1, 0, 0]
def swashlaw07_Write_l2k (k : Nat) (call : Caller) : Kont Value := kBlock 2 (kSeq (pieceK (C k) call F.swashlaw07_Write [1, 1, 1, 1, 1, 1, 1]) (kDone Prog (resOf Prog F.swashlaw07_Write)))
def swashlaw07_Write_l3 (k : Nat) (call : Caller) : Env → Heap → Res (AExit × Env) := loopB (C k) call F.swashlaw07_Write [1, 1, 1, 1, 1, 1, 0, 1, 0, 0, 1, 1, 0, 0, 1, 1, 0, 0]
def swashlaw07_Write_l3k (k : Nat) (call : Caller) : Kont (AExit × Env) := kBlock 4 (kBlock 3 (kSeq (pieceK (C k) call F.swashlaw07_Write [1, 1, 1, 1, 1, 1, 0, 1, 0, 0, 1, 1, 1]) (kRound (ownOf (C k) F.swashlaw07_Write [1, 1, 1, 1, 1, 1, 0, 1, 0, 0]))))
def swashlaw07_Write_j1 (k : Nat) (call : Caller) (a1 a2 a3 a7 a8 a9 a12 a13 a15 a17 a47 a48 a49 a53 a54 : Value) (h : Heap) : Res (AExit × Env) :=
 kSeq (pieceK (C k) call F.swashlaw07_Write [1, 1, 1, 1, 1, 1, 0, 1, 0, 0, 1, 1, 0, 0, 1, 1, 0, 0, 1, 1, 0, 0, 1, 1, 1]) (kBlock 5 (kSeq (pieceK (C k) call F.swashlaw07_Write [1, 1, 1, 1, 1, 1, 0, 1, 0, 0, 1, 1, 0, 0, 1, 1, 0, 0, 1, 1, 1]) (kRound (ownOf (C k) F.swashlaw07_Write [1, 1, 1, 1, 1, 1, 0, 1, 0, 0, 1, 1, 0, 0, 1, 1, 0, 0])))) .normal [(1, a1), (2, a2), (3, a3), (7, a7), (8, a8), (9, a9), (12, a12), (13, a13), (15, a15), (17, a17), (47, a47), (48, a48), (49, a49), (53, a53), (54, a54)] h
def swashlaw07_Write_j2 (k : Nat) (call : Caller) (a1 a2 a3 a7 a8 a9 a12 a13 a15 a16 a17 a47 a48 a49 a53 a54 a60 : Value) (h : Heap) : Res (AExit × Env) :=
 kSeq (pieceK (C k) call F.swashlaw07_Write [1, 1, 1, 1, 1, 1, 0, 1, 0, 0, 1, 1, 0, 0, 1, 1, 0, 0, 1, 1, 0, 0, 1, 1, 1]) (kBlock 5 (kSeq (pieceK (C k) call F.swashlaw07_Write [1, 1, 1, 1, 1, 1, 0, 1, 0, 0, 1, 1, 0, 0, 1, 1, 0, 0, 1, 1, 1]) (kRound (ownOf (C k) F.swashlaw07_Write [1, 1, 1, 1, 1, 1, 0, 1, 0, 0, 1, 1, 0, 0, 1, 1, 0, 0])))) .normal [(1, a1), (2, a2), (3, a3), (7, a7), (8, a8), (9, a9), (12, a12), (13, a13), (15, a15), (16, a16), (17, a17), (47, a47), (48, a48), (49, a49), (53, a53), (54, a54), (60, a60)] h
def swashlaw07_Write_l4 (k : Nat) (call : Caller) : Env → Heap → Res (AExit × Env) := loopB (C k) call F.swashlaw07_Write [1, 1, 1, 1, 1, 1, 1, 0, 1, 0, 0]
def swashlaw07_Write_l4k (k : Nat) (call : Caller) : Kont Value := kBlock 6 (kSeq (pieceK (C k) call F.swashlaw07_Write [1, 1, 1, 1, 1, 1, 1, 1]) (kDone Prog (resOf Prog F.swashlaw07_Write)))
def swashlaw07_Write_j3 (k : Nat) (call : Caller) (a1 a2 a7 a8 a9 a12 a13 a19 a72 a73 a74 : Value) (h : Heap) : Res (AExit × Env) :=
 kSeq (pieceK (C k) call F.swashlaw07_Write [1, 1, 1, 1, 1, 1, 1, 0, 1, 0, 0, 1, 1, 0, 0, 1, 1, 1]) (kBlock 7 (kSeq (pieceK (C k) call F.swashlaw07_Write [1, 1, 1, 1, 1, 1, 1, 0, 1, 0, 0, 1, 1, 1]) (kRound (ownOf (C k) F.swashlaw07_Write [1, 1, 1, 1, 1, 1, 1, 0, 1, 0, 0])))) .normal [(1, a1), (2, a2), (7, a7), (8, a8), (9, a9), (12, a12), (13, a13), (19, a19), (72, a72), (73, a73), (74, a74)] h
def swashlaw07_Write_j4 (k : Nat) (call : Caller) (a1 a2 a7 a8 a9 a12 a13 a19 a72 a73 a74 a88 : Value) (h : Heap) : Res (AExit × Env) :=
 kSeq (pieceK (C k) call F.swashlaw07_Write [1, 1, 1, 1, 1, 1, 1, 0, 1, 0, 0, 1, 1, 0, 0, 1, 1, 1]) (kBlock 7 (kSeq (pieceK (C k) call F.swashlaw07_Write [1, 1, 1, 1, 1, 1, 1, 0, 1, 0, 0, 1, 1, 1]) (kRound (ownOf (C k) F.swashlaw07_Write [1, 1, 1, 1, 1, 1, 1, 0, 1, 0, 0])))) .normal [(1, a1), (2, a2), (7, a7), (8, a8), (9, a9), (12, a12), (13, a13), (19, a19), (72, a72), (73, a73), (74, a74), (88, a88)] h
def swashlaw07_Write_j5 (k : Nat) (call : Caller) (a1 a2 a7 a8 a9 a12 a13 a72 a73 a74 : Value) (h : Heap) : Res (AExit × Env) :=
 kSeq (pieceK (C k) call F.swashlaw07_Write [1, 1, 1, 1, 1, 1, 1, 0, 1, 0, 0, 1, 1, 1]) (kRound (ownOf (C k) F.swashlaw07_Write [1, 1, 1, 1, 1, 1, 1, 0, 1, 0, 0])) .normal [(1, a1), (2, a2), (7, a7), (8, a8), (9, a9), (12, a12), (13, a13), (72, a72), (73, a73), (74, a74)] h
def swashlaw07_Write_j6 (k : Nat) (call : Caller) (a1 a2 a7 a8 a9 a12 a13 a19 a72 a73 a74 a95 : Value) (h : Heap) : Res (AExit × Env) :=
 kSeq (pieceK (C k) call F.swashlaw07_Write [1, 1, 1, 1, 1, 1, 1, 0, 1, 0, 0, 1, 1, 1]) (kRound (ownOf (C k) F.swashlaw07_Write [1, 1, 1, 1, 1, 1, 1, 0, 1, 0, 0])) .normal [(1, a1), (2, a2), (7, a7), (8, a8), (9, a9), (12, a12), (13, a13), (19, a19), (72, a72), (73, a73), (74, a74), (95, a95)] h
def swashlaw07_Write (k : Nat) (call : Caller) (a0 a1 a2 : Value) (h : Heap) : Res Value :=
 (boxR a0 h).bind fun v1 h2 =>
 (fieldAddrR Prog 146 v1 3 h2).bind fun v3 h4 =>
 (loadR Prog 5 v3 h4).bind fun v5 h6 =>
 (convR Prog 5 3 v5 h6).bind fun v7 h8 =>
 (binR Prog .rem 3 v7 (.int .i64 8) h8).bind fun v9 h10 =>
 (binR Prog .add 3 (.int .i64 4) v9 h10).bind fun v11 h12 =>
 (binR Prog .add 3 (.int .i64 16) a2 h12).bind fun v13 h14 =>
 (call F.swashref02_Put [(.slice none 0 0), (.int .i64 8), (.int .i64 2)] h14).bindT (fun p17 h18 => (fieldAddrR Prog 146 v1 0 h14).bindN fun v19 h20 => (loadR Prog 65 v19 h20).bindN fun v21 h22 => (builtinV Prog .len [65] [v21] h22).bindN fun v23 h24 => chkR ((okVal (loadR Prog 65 v19 h14) v21 && true) && true) (.panic p17 h18)) fun v15 h16 =>
 (call F.swashref02_Put [v15, (.int .i64 0), (.int .i64 2)] h16).bindT (fun p27 h28 => (fieldAddrR Prog 146 v1 0 h16).bindN fun v29 h30 => (loadR Prog 65 v29 h30).bindN fun v31 h32 => (builtinV Prog .len [65] [v31] h32).bindN fun v33 h34 => chkR ((okVal (loadR Prog 65 v29 h14) v31 && (okVal (loadR Prog 65 v29 h16) v31 && true)) && true) (.panic p27 h28)) fun v25 h26 =>
 (fieldAddrR Prog 146 v1 0 h26).bindN fun v35 h36 =>
 (loadR Prog 65 v35 h36).bindN fun v37 h38 =>
 (builtinV Prog .len [65] [v37] h38).bindN fun v39 h40 =>
 (call F.swashref02_Put [v25, v39, (.int .i64 2)] h40).bindT (fun p43 h44 => chkR ((okVal (loadR Prog 65 v35 h14) v37 && (okVal (loadR Prog 65 v35 h16) v37 && true)) && true) (.panic p43 h44)) fun v41 h42 =>
 chkR ((okVal (loadR Prog 65 v35 h14) v37 && (okVal (loadR Prog 65 v35 h16) v37 && true)) && true) (
 (fieldAddrR Prog 146 v1 0 h42).bind fun v45 h46 =>
 (loadR Prog 65 v45 h46).bind fun v47 h48 =>
 (builtinV Prog .len [65] [v47] h48).bind fun v49 h50 =>
 (loopN (swashlaw07_Write_l1 k call) loopFuel [(1, a1), (2, a2), (3, v1), (7, v11), (8, v13), (9, v41), (35, v47), (36, v49), (37, (.int .i64 0))] h50).bind fun r51 h52 =>
 swashlaw07_Write_l1k k call r51.1 r51.2 h52)
theorem swashlaw07_Write_R (k : Nat) (a0 a1 a2 : Value) (h : Heap) : R (T k) F.swashlaw07_Write [a0, a1, a2] h = nrm (ownW k) h (swashlaw07_Write k (R (T k)) a0 a1 a2 h) :=
 (R_body (t := T k) (T_scott k) (by kernel_rfl) (by kernel_rfl) _ _).trans (by kernel_rfl)
theorem swashlaw07_Write_l1_eq (k : Nat) (call : Caller) (a1 a2 a3 a7 a8 a9 a35 a36 a37 : Value) (h : Heap) : swashlaw07_Write_l1 k call [(1, a1), (2, a2), (3, a3), (7, a7), (8, a8), (9, a9), (35, a35), (36, a36), (37, a37)] h =
 (binR Prog .lss 3 a37 a36 h).bind fun v53 h54 =>
 condV (some v53) (
 (indexAddrR Prog 65 a35 a37 h54).bind fun v55 h56 =>
 (loadR Prog 5 v55 h56).bind fun v57 h58 =>
 (convR Prog 5 3 v57 h58).bind fun v59 h60 =>
 (call F.swashref02_Put [a9, v59, (.int .i64 2)] h60).bind fun v61 h62 =>
 (binR Prog .add 3 a37 (.int .i64 1) h62).bind fun v63 h64 =>
 .ok (.normal, [(1, a1), (2, a2), (3, a3), (7, a7), (8, a8), (9, v61), (35, a35), (36, a36), (37, v63)]) h64)
 (
 .ok ((.exit 0), [(1, a1), (2, a2), (3, a3), (7, a7), (8, a8), (9, a9), (35, a35), (36, a36), (37, a37), (38, v53)]) h54) :=
 (loopB_eq _ _).trans (by kernel_rfl)
theorem swashlaw07_Write_l1k_x0 (k : Nat) (call : Caller) (a1 a2 a3 a7 a8 a9 a35 a36 a37 a38 : Value) (h : Heap) : swashlaw07_Write_l1k k call (.exit 0) [(1, a1), (2, a2), (3, a3), (7, a7), (8, a8), (9, a9), (35, a35), (36, a36), (37, a37), (38, a38)] h =
 (fieldAddrR Prog 146 a3 1 h).bind fun v65 h66 =>
 (loadR Prog 143 v65 h66).bind fun v67 h68 =>
 (builtinV Prog .len [143] [v67] h68).bind fun v69 h70 =>
 (loopN (swashlaw07_Write_l2 k call) loopFuel [(1, a1), (2, a2), (3, a3), (7, a7), (8, a8), (9, a9), (12, (.slice none 0 0)), (13, (.slice none 0 0)), (47, v67), (48, v69), (49, (.int .i64 0))] h70).bind fun r71 h72 =>
 swashlaw07_Write_l2k k call r71.1 r71.2 h72 := by kernel_rfl
theorem swashlaw07_Write_l2_eq (k : Nat) (call : Caller) (a1 a2 a3 a7 a8 a9 a12 a13 a47 a48 a49 : Value) (h : Heap) : swashlaw07_Write_l2 k call [(1, a1), (2, a2), (3, a3), (7, a7), (8, a8), (9, a9), (12, a12), (13, a13), (47, a47), (48, a48), (49, a49)] h =
 (binR Prog .lss 3 a49 a48 h).bind fun v73 h74 =>
 condV (some v73) (
 (indexAddrR Prog 143 a47 a49 h74).bind fun v75 h76 =>
 (loadR Prog 65 v75 h76).bind fun v77 h78 =>
 (loopN (swashlaw07_Write_l3 k call) loopFuel [(1, a1), (2, a2), (3, a3), (7, a7), (8, a8), (9, a9), (12, a12), (13, a13), (15, v77), (47, a47), (48, a48), (49, a49), (53, a7), (54, (.int .i64 0))] h78).bind fun r79 h80 =>
 swashlaw07_Write_l3k k call r79.1 r79.2 h80)
 (
 .ok ((.exit 2), [(1, a1), (2, a2), (3, a3), (7, a7), (8, a8), (9, a9), (12, a12), (13, a13), (47, a47), (48, a48), (49, a49), (50, v73)]) h74) :=
 (loopB_eq _ _).trans (by kernel_rfl)
theorem swashlaw07_Write_l3_eq (k : Nat) (call : Caller) (a1 a2 a3 a7 a8 a9 a12 a13 a15 a47 a48 a49 a53 a54 : Value) (h : Heap) : swashlaw07_Write_l3 k call [(1, a1), (2, a2), (3, a3), (7, a7), (8, a8), (9, a9), (12, a12), (13, a13), (15, a15), (47, a47), (48, a48), (49, a49), (53, a53), (54, a54)] h =
 (binR Prog .lss 3 a54 a53 h).bind fun v81 h82 =>
 condV (some v81) (
 (builtinV Prog .len [65] [a15] h82).bind fun v83 h84 =>
 (binR Prog .lss 3 a54 v83 h84).bind fun v85 h86 =>
 condV (some v85) (
 (indexAddrR Prog 65 a15 a54 h86).bind fun v87 h88 =>
 (loadR Prog 5 v87 h88).bind fun v89 h90 =>
 (convR Prog 5 3 v89 h90).bind fun v91 h92 =>
 swashlaw07_Write_j1 k call a1 a2 a3 a7 a8 a9 a12 a13 a15 v91 a47 a48 a49 a53 a54 h92)
 (
 swashlaw07_Write_j2 k call a1 a2 a3 a7 a8 a9 a12 a13 a15 a54 (.int .i64 0) a47 a48 a49 a53 a54 v85 h86))
 (
 .ok ((.exit 4), [(1, a1), (2, a2), (3, a3), (7, a7), (8, a8), (9, a9), (12, a12), (13, a13), (15, a15), (47, a47), (48, a48), (49, a49), (53, a53), (54, a54), (55, v81)]) h82) :=
 (loopB_eq _ _).trans (by kernel_rfl)
theorem swashlaw07_Write_j1_eq (k : Nat) (call : Caller) (a1 a2 a3 a7 a8 a9 a12 a13 a15 a17 a47 a48 a49 a53 a54 : Value) (h : Heap) : swashlaw07_Write_j1 k call a1 a2 a3 a7 a8 a9 a12 a13 a15 a17 a47 a48 a49 a53 a54 h =
 (call F.swashref02_Put [a12, a17, (.int .i64 2)] h).bind fun v93 h94 =>
 (binR Prog .add 3 a54 (.int .i64 1) h94).bind fun v95 h96 =>
 .ok (.normal, [(1, a1), (2, a2), (3, a3), (7, a7), (8, a8), (9, a9), (12, v93), (13, a13), (15, a15), (47, a47), (48, a48), (49, a49), (53, a53), (54, v95)]) h96 := by kernel_rfl
theorem swashlaw07_Write_j2_eq (k : Nat) (call : Caller) (a1 a2 a3 a7 a8 a9 a12 a13 a15 a16 a17 a47 a48 a49 a53 a54 a60 : Value) (h : Heap) : swashlaw07_Write_j2 k call a1 a2 a3 a7 a8 a9 a12 a13 a15 a16 a17 a47 a48 a49 a53 a54 a60 h =
 (call F.swashref02_Put [a12, a17, (.int .i64 2)] h).bind fun v97 h98 =>
 (binR Prog .add 3 a54 (.int .i64 1) h98).bind fun v99 h100 =>
 .ok (.normal, [(1, a1), (2, a2), (3, a3), (7, a7), (8, a8), (9, a9), (12, v97), (13, a13), (15, a15), (47, a47), (48, a48), (49, a49), (53, a53), (54, v99)]) h100 := by kernel_rfl
theorem swashlaw07_Write_l2k_x2 (k : Nat) (call : Caller) (a1 a2 a3 a7 a8 a9 a12 a13 a47 a48 a49 a50 : Value) (h : Heap) : swashlaw07_Write_l2k k call (.exit 2) [(1, a1), (2, a2), (3, a3), (7, a7), (8, a8), (9, a9), (12, a12), (13, a13), (47, a47), (48, a48), (49, a49), (50, a50)] h =
 (fieldAddrR Prog 146 a3 2 h).bind fun v101 h102 =>
 (loadR Prog 144 v101 h102).bind fun v103 h104 =>
 (builtinV Prog .len [144] [v103] h104).bind fun v105 h106 =>
 (loopN (swashlaw07_Write_l4 k call) loopFuel [(1, a1), (2, a2), (7, a7), (8, a8), (9, a9), (12, a12), (13, a13), (72, v103), (73, v105), (74, (.int .i64 0))] h106).bind fun r107 h108 =>
 swashlaw07_Write_l4k k call r107.1 r107.2 h108 := by kernel_rfl
theorem swashlaw07_Write_l4_eq (k : Nat) (call : Caller) (a1 a2 a7 a8 a9 a12 a13 a72 a73 a74 : Value) (h : Heap) : swashlaw07_Write_l4 k call [(1, a1), (2, a2), (7, a7), (8, a8), (9, a9), (12, a12), (13, a13), (72, a72), (73, a73), (74, a74)] h =
 (binR Prog .lss 3 a74 a73 h).bind fun v109 h110 =>
 condV (some v109) (
 (indexAddrR Prog 144 a72 a74 h110).bind fun v111 h112 =>
 (loadR Prog 150 v111 h112).bind fun v113 h114 =>
 (allocR Prog 150 h114).bind fun v115 h116 =>
 (storeR Prog 150 v115 v113 h116).bind fun _v117 h118 =>
 (fieldAddrR Prog 150 v115 0 h118).bindN fun v119 h120 =>
 (loadR Prog 3 v119 h120).bindN fun v121 h122 =>
 (binR Prog .and 3 v121 (.int .i64 65535) h122).bindN fun v123 h124 =>
 (call F.swashref02_Put [a13, v123, (.int .i64 2)] h124).bindT (fun p127 h128 => (fieldAddrR Prog 150 v115 1 h124).bindN fun v129 h130 => (loadR Prog 3 v129 h130).bindN fun v131 h132 => (binR Prog .and 3 v131 (.int .i64 65535) h132).bindN fun v133 h134 => chkR ((okVal (loadR Prog 3 v129 h118) v131 && true) && true) (.panic p127 h128)) fun v125 h126 =>
 (fieldAddrR Prog 150 v115 1 h126).bindN fun v135 h136 =>
 (loadR Prog 3 v135 h136).bindN fun v137 h138 =>
 (binR Prog .and 3 v137 (.int .i64 65535) h138).bindN fun v139 h140 =>
 (call F.swashref02_Put [v125, v139, (.int .i64 2)] h140).bindT (fun p143 h144 => chkR ((okVal (loadR Prog 3 v135 h118) v137 && true) && true) (.panic p143 h144)) fun v141 h142 =>
 chkR ((okVal (loadR Prog 3 v135 h118) v137 && true) && true) (
 (binR Prog .gtr 3 a1 (.int .i64 0) h142).bind fun v145 h146 =>
 condV (some v145) (
 (fieldAddrR Prog 150 v115 2 h146).bind fun v147 h148 =>
 (loadR Prog 3 v147 h148).bind fun v149 h150 =>
 (binR Prog .and 3 v149 (.int .i64 65535) h150).bind fun v151 h152 =>
 (call F.swashref02_Put [v141, v151, (.int .i64 2)] h152).bind fun v153 h154 =>
 swashlaw07_Write_j3 k call a1 a2 a7 a8 a9 a12 v153 v115 a72 a73 a74 h154)
 (
 swashlaw07_Write_j4 k call a1 a2 a7 a8 a9 a12 v141 v115 a72 a73 a74 v145 h146)))
 (
 .ok ((.exit 6), [(1, a1), (2, a2), (7, a7), (8, a8), (9, a9), (12, a12), (13, a13), (72, a72), (73, a73), (74, a74), (75, v109)]) h110) :=
 (loopB_eq _ _).trans (by kernel_rfl)
theorem swashlaw07_Write_j3_eq (k : Nat) (call : Caller) (a1 a2 a7 a8 a9 a12 a13 a19 a72 a73 a74 : Value) (h : Heap) : swashlaw07_Write_j3 k call a1 a2 a7 a8 a9 a12 a13 a19 a72 a73 a74 h =
 (binR Prog .gtr 3 a1 (.int .i64 1) h).bind fun v155 h156 =>
 condV (some v155) (
 (fieldAddrR Prog 150 a19 3 h156).bind fun v157 h158 =>
 (loadR Prog 3 v157 h158).bind fun v159 h160 =>
 (binR Prog .and 3 v159 (.int .i64 65535) h160).bind fun v161 h162 =>
 (call F.swashref02_Put [a13, v161, (.int .i64 2)] h162).bind fun v163 h164 =>
 swashlaw07_Write_j5 k call a1 a2 a7 a8 a9 a12 v163 a72 a73 a74 h164)
 (
 swashlaw07_Write_j6 k call a1 a2 a7 a8 a9 a12 a13 a19 a72 a73 a74 v155 h156) := by kernel_rfl
theorem swashlaw07_Write_j4_eq (k : Nat) (call : Caller) (a1 a2 a7 a8 a9 a12 a13 a19 a72 a73 a74 a88 : Value) (h : Heap) : swashlaw07_Write_j4 k call a1 a2 a7 a8 a9 a12 a13 a19 a72 a73 a74 a88 h =
 (binR Prog .gtr 3 a1 (.int .i64 1) h).bind fun v165 h166 =>
 condV (some v165) (
 (fieldAddrR Prog 150 a19 3 h166).bind fun v167 h168 =>
 (loadR Prog 3 v167 h168).bind fun v169 h170 =>
 (binR Prog .and 3 v169 (.int .i64 65535) h170).bind fun v171 h172 =>
 (call F.swashref02_Put [a13, v171, (.int .i64 2)] h172).bind fun v173 h174 =>
 swashlaw07_Write_j5 k call a1 a2 a7 a8 a9 a12 v173 a72 a73 a74 h174)
 (
 swashlaw07_Write_j6 k call a1 a2 a7 a8 a9 a12 a13 a19 a72 a73 a74 v165 h166) := by kernel_rfl
theorem swashlaw07_Write_j5_eq (k : Nat) (call : Caller) (a1 a2 a7 a8 a9 a12 a13 a72 a73 a74 : Value) (h : Heap) : swashlaw07_Write_j5 k call a1 a2 a7 a8 a9 a12 a13 a72 a73 a74 h =
 (binR Prog .add 3 a74 (.int .i64 1) h).bind fun v175 h176 =>
 .ok (.normal, [(1, a1), (2, a2), (7, a7), (8, a8), (9, a9), (12, a12), (13, a13), (72, a72), (73, a73), (74, v175)]) h176 := by kernel_rfl
theorem swashlaw07_Write_j6_eq (k : Nat) (call : Caller) (a1 a2 a7 a8 a9 a12 a13 a19 a72 a73 a74 a95 : Value) (h : Heap) : swashlaw07_Write_j6 k call a1 a2 a7 a8 a9 a12 a13 a19 a72 a73 a74 a95 h =
 (binR Prog .add 3 a74 (.int .i64 1) h).bind fun v177 h178 =>
 .ok (.normal, [(1, a1), (2, a2), (7, a7), (8, a8), (9, a9), (12, a12), (13, a13), (72, a72), (73, a73), (74, v177)]) h178 := by kernel_rfl
theorem swashlaw07_Write_l3k_x4 (k : Nat) (call : Caller) (a1 a2 a3 a7 a8 a9 a12 a13 a15 a47 a48 a49 a53 a54 a55 : Value) (h : Heap) : swashlaw07_Write_l3k k call (.exit 4) [(1, a1), (2, a2), (3, a3), (7, a7), (8, a8), (9, a9), (12, a12), (13, a13), (15, a15), (47, a47), (48, a48), (49, a49), (53, a53), (54, a54), (55, a55)] h =
 (binR Prog .add 3 a49 (.int .i64 1) h).bind fun v179 h180 =>
 .ok (.normal, [(1, a1), (2, a2), (3, a3), (7, a7), (8, a8), (9, a9), (12, a12), (13, a13), (47, a47), (48, a48), (49, v179)]) h180 := by kernel_rfl
theorem swashlaw07_Write_l4k_x6 (k : Nat) (call : Caller) (a1 a2 a7 a8 a9 a12 a13 a72 a73 a74 a75 : Value) (h : Heap) : swashlaw07_Write_l4k k call (.exit 6) [(1, a1), (2, a2), (7, a7), (8, a8), (9, a9), (12, a12), (13, a13), (72, a72), (73, a73), (74, a74), (75, a75)] h =
 (call F.swashref02_Put [(.slice none 0 0), a7, (.int .i64 4)] h).bind fun v181 h182 =>
 (call F.swashref02_Put [v181, a8, (.int .i64 4)] h182).bind fun v183 h184 =>
 (builtinV Prog .len [65] [a9] h184).bind fun v185 h186 =>
 (binR Prog .add 3 a8 v185 h186).bind fun v187 h188 =>
 (call F.swashref02_Put [v183, v187, (.int .i64 4)] h188).bind fun v189 h190 =>
 (builtinV Prog .len [65] [a9] h190).bind fun v191 h192 =>
 (binR Prog .add 3 a8 v191 h192).bind fun v193 h194 =>
 (builtinV Prog .len [65] [a12] h194).bind fun v195 h196 =>
 (binR Prog .add 3 v193 v195 h196).bind fun v197 h198 =>
 (call F.swashref02_Put [v189, v197, (.int .i64 4)] h198).bind fun v199 h200 =>
 (builtinV Prog .append [65, 3] [v199, a2] h200).bind fun v201 h202 =>
 (builtinV Prog .append [65, 65] [v201, a9] h202).bind fun v203 h204 =>
 (builtinV Prog .append [65, 65] [v203, a12] h204).bind fun v205 h206 =>
 (builtinV Prog .append [65, 65] [v205, a13] h206).bind fun v207 h208 =>
 .ok v207 h208 := by kernel_rfl
end
end Go.Sw
end
section
namespace Go.Sw
open Go.RowKit
structure Plan where
 cls : List Int
 rows : List (List Int)
 ents : List En
 wide : Int
abbrev encBR (r : List Int) : List Value := [lv encB r]
abbrev planCells (p : Plan) : List Value := [lv encB p.cls, lv encBR p.rows, lv encEn p.ents, .int .u8 p.wide]
abbrev planV (p : Plan) : Value := .agg (planCells p).toArray
def planN (p : Plan) : Nat := 4 + (p.wide % 8).toNat
def twos (l : List Int) : List Int := (l.map fun c => bytesOf c 2).flatten
def ofS (cls : List Int) : List Int := (bytesOf 8 2 ++ bytesOf 0 2 ++ bytesOf cls.length 2) ++ twos cls
def rowL (n : Nat) (r : List Int) : List Int := (List.range n).map fun i => r[i]?.getD 0
def rowsL (n : Nat) (rs : List (List Int)) : List Int := (rs.map fun r => twos (rowL n r)).flatten
def m16 (x : Int) : Int := x % 65536
def entB (w : Int) (e : En) : List Int := bytesOf (m16 e.next) 2 ++ bytesOf (m16 e.flags) 2 ++ (if 0 < w then bytesOf (m16 e.a) 2 else []) ++ (if 1 < w then bytesOf (m16 e.b) 2 else [])
def entsB (w : Int) (es : List En) : List Int := (es.map (entB w)).flatten
def planBytes (p : Plan) (w : Int) (room : Nat) : List Int :=
 (((bytesOf (planN p : Int) 4 ++ bytesOf (16 + room : Int) 4 ++ bytesOf (16 + room + (ofS p.cls).length : Int) 4 ++ bytesOf (16 + room + (ofS p.cls).length + (rowsL (planN p) p.rows).length : Int) 4 ++ List.replicate room 0) ++ ofS p.cls) ++ rowsL (planN p) p.rows) ++ entsB w p.ents
theorem twos_snoc (l : List Int) (x : Int) : twos (l ++ [x]) = twos l ++ bytesOf x 2 := by simp [twos]
theorem twos_len (l : List Int) : (twos l).length = l.length * 2 := flat_len (z := 2) (fun r hr => by obtain ⟨p, _, rfl⟩ := List.mem_map.1 hr; simp) |>.trans (by simp)
theorem rowL_len (n : Nat) (r : List Int) : (rowL n r).length = n := by simp [rowL]
theorem rowsL_snoc (n : Nat) (rs : List (List Int)) (r : List Int) : rowsL n (rs ++ [r]) = rowsL n rs ++ twos (rowL n r) := by simp [rowsL]
theorem rowsL_len (n : Nat) (rs : List (List Int)) : (rowsL n rs).length = rs.length * (n * 2) := flat_len (z := n * 2) (fun r hr => by obtain ⟨p, _, rfl⟩ := List.mem_map.1 hr; rw [twos_len, rowL_len]) |>.trans (by simp)
theorem entB_len (w : Int) (e : En) : (entB w e).length ≤ 8 := by
 unfold entB
 simp only [List.length_append, bytesOf_len]
 split <;> split <;> simp
theorem entsB_snoc (w : Int) (es : List En) (e : En) : entsB w (es ++ [e]) = entsB w es ++ entB w e := by simp [entsB]
theorem entsB_len (w : Int) : ∀ es : List En, (entsB w es).length ≤ es.length * 8
 | [] => by simp [entsB]
 | e :: es => by
  have h1 := entsB_len w es
  have h2 := entB_len w e
  unfold entsB at h1 ⊢
  simp only [List.map_cons, List.flatten_cons, List.length_append, List.length_cons]
  omega
theorem and16 (P : Program) (t : TypeId) (H : Heap) (a : Int) : binR P .and t (.int .i64 a) (.int .i64 65535) H = .ok (.int .i64 (m16 a)) H := by
 have e : (BitVec.ofInt 64 a &&& BitVec.ofInt 64 65535).toNat = (a % 65536).toNat := by
  rw [BitVec.toNat_and, BitVec.toNat_ofInt, BitVec.toNat_ofInt]
  rw [show ((65535 : Int) % ((2 ^ 64 : Nat) : Int)).toNat = 2 ^ 16 - 1 from by decide, Nat.and_two_pow_sub_one_eq_mod]
  omega
 have e1 : binV P .and t (.int .i64 a) (.int .i64 65535) = some (.int .i64 (IntKind.i64.wrap (BitVec.ofInt 64 a &&& BitVec.ofInt 64 65535).toNat)) := rfl
 unfold binR
 rw [e1, e]
 unfold m16
 rw [show (((a % 65536).toNat : Nat) : Int) = a % 65536 by omega, wrap_i64 (by omega) (by omega)]
 rfl
theorem m16_bound (a : Int) : 0 ≤ m16 a ∧ m16 a < 65536 := by unfold m16; omega
theorem write_l3 (k : Nat) {H0 H : Heap} {o9 o12 : Option Nat} {a9 a12 : Value} {l9 l12 : List Int} {B : It} (w room : Value) (n : Nat) (hn : n ≤ 11) (a3 a8 : Value) {vr : Value} (r : List Int) (hr : Byt r) (hv : Sl H0 1 vr encB r) (x47 x48 x49 : Value) (hl : l12.length < 2 ^ 29)
  (g : Star H0 H [itRow o9 1 a9 encB l9, itRow o12 1 a12 encB l12, B]) :
  ∃ s o H' z, loopN (swashlaw07_Write_l3 k (R (T k))) loopFuel [(1, w), (2, room), (3, a3), (7, .int .i64 n), (8, a8), (9, a9), (12, a12), (13, .slice none 0 0), (15, vr), (47, x47), (48, x48), (49, x49), (53, .int .i64 n), (54, .int .i64 0)] H =
   .ok (.exit 4, [(1, w), (2, room), (3, a3), (7, .int .i64 n), (8, a8), (9, a9), (12, s), (13, .slice none 0 0), (15, vr), (47, x47), (48, x48), (49, x49), (53, .int .i64 n), (54, z), (55, .bool false)]) H' ∧
   Star H0 H' [itRow o9 1 a9 encB l9, itRow o 1 s encB (l12 ++ twos (rowL n r)), B] := by
 have hvl := fun H' => hv.len H'
 obtain ⟨x, e', H1, hr1, rfl, z, s, o, rfl, g⟩ := loop_up (body := swashlaw07_Write_l3 k (R (T k))) n
  (fun j e H' => ∃ s o, e = [(1, w), (2, room), (3, a3), (7, .int .i64 n), (8, a8), (9, a9), (12, s), (13, .slice none 0 0), (15, vr), (47, x47), (48, x48), (49, x49), (53, .int .i64 n), (54, .int .i64 j)] ∧ Star H0 H' [itRow o9 1 a9 encB l9, itRow o 1 s encB (l12 ++ twos ((rowL n r).take j)), B])
  (fun x e H' => x = .exit 4 ∧ ∃ z s o, e = [(1, w), (2, room), (3, a3), (7, .int .i64 n), (8, a8), (9, a9), (12, s), (13, .slice none 0 0), (15, vr), (47, x47), (48, x48), (49, x49), (53, .int .i64 n), (54, z), (55, .bool false)] ∧ Star H0 H' [itRow o9 1 a9 encB l9, itRow o 1 s encB (l12 ++ twos (rowL n r)), B])
  (e0 := [(1, w), (2, room), (3, a3), (7, .int .i64 n), (8, a8), (9, a9), (12, a12), (13, .slice none 0 0), (15, vr), (47, x47), (48, x48), (49, x49), (53, .int .i64 n), (54, .int .i64 0)]) (H0 := H) ⟨a12, o12, rfl, by simpa [twos] using g⟩ (by omega)
  (fun j e H' hj ⟨s, o, he, g⟩ => by
   subst he
   have hlt : (j : Int) < n := by omega
   have hq : (rowL n r)[j]? = some (r[j]?.getD 0) := by unfold rowL; rw [List.getElem?_map, List.getElem?_range hj]; rfl
   have hlen : (l12 ++ twos ((rowL n r).take j)).length < 2 ^ 30 := by
    rw [List.length_append, twos_len, List.length_take, rowL_len]
    omega
   have hb : 0 ≤ r[j]?.getD 0 ∧ r[j]?.getD 0 < 256 := by
    cases h : r[j]? with
    | none => simp
    | some y => exact hr y (List.mem_of_getElem? h)
   obtain ⟨s', o', H2, e2, g2⟩ := Put_star k g 1 rfl (r[j]?.getD 0) 2 2 rfl hb.1 (by omega) (by omega) hlen
   simp only [List.set_cons_zero, List.set_cons_succ] at g2
   refine .inl ⟨_, H2, ?_, s', o', rfl, by rw [take_snoc hq, twos_snoc, ← List.append_assoc]; exact g2⟩
   rw [swashlaw07_Write_l3_eq]
   cases h : r[j]? with
   | some y =>
    have hjr : (j : Int) < r.length := by have := (List.getElem?_eq_some_iff.1 h).1; omega
    obtain ⟨pp, i1, i2⟩ := hv.ix1 encB_len j y h _ rfl
    have i2 := i2 H' g.ext
    rw [h] at e2 hb
    simp at e2 hb
    simp -implicitDefEqProofs (disch := omega) [hlt, hjr, hvl, i1, i2, swashlaw07_Write_j1_eq, e2]
   | none =>
    have hjr : ¬ (j : Int) < r.length := by have := List.getElem?_eq_none_iff.1 h; omega
    rw [h] at e2
    simp at e2
    simp -implicitDefEqProofs (disch := omega) [hlt, hjr, hvl, swashlaw07_Write_j2_eq, e2])
  (fun e H' ⟨s, o, he, g⟩ => by
   subst he
   rw [List.take_of_length_le (by rw [rowL_len]; exact Nat.le_refl _)] at g
   refine ⟨.exit 4, _, H', ?_, by simp, rfl, .int .i64 n, s, o, rfl, g⟩
   rw [swashlaw07_Write_l3_eq]
   simp -implicitDefEqProofs)
 exact ⟨s, o, H1, z, hr1, g⟩
def Plan.ok (p : Plan) : Prop := Byt p.cls ∧ (∀ r, r ∈ p.rows → Byt r) ∧ 0 ≤ p.wide ∧ p.wide < 256
set_option maxHeartbeats 1000000 in
theorem write_l4 (k : Nat) {H0 H : Heap} {o9 o12 : Option Nat} {a9 a12 : Value} {l9 l12 : List Int} {B : It} (w : Int) (hw : w = 0 ∨ w = 1 ∨ w = 2) (room : Value) (a7 a8 : Value) (es : List En) (hl : es.length < 2 ^ 20) {sE : Value} (hsE : Sl H0 4 sE encEn es)
  (g : Star H0 H [itRow o9 1 a9 encB l9, itRow o12 1 a12 encB l12, B]) :
  ∃ s o H' z, loopN (swashlaw07_Write_l4 k (R (T k))) loopFuel [(1, .int .i64 w), (2, room), (7, a7), (8, a8), (9, a9), (12, a12), (13, .slice none 0 0), (72, sE), (73, .int .i64 es.length), (74, .int .i64 0)] H =
   .ok (.exit 6, [(1, .int .i64 w), (2, room), (7, a7), (8, a8), (9, a9), (12, a12), (13, s), (72, sE), (73, .int .i64 es.length), (74, z), (75, .bool false)]) H' ∧
   Star H0 H' [itRow o9 1 a9 encB l9, itRow o12 1 a12 encB l12, B, itRow o 1 s encB (entsB w es)] := by
 have g := g.more_row (Ext.refl _) (OwnO.nil encB _ 1) (fun b hb => by cases hb)
 obtain ⟨x, e', H1, hr1, rfl, z, s, o, rfl, g⟩ := loop_up (body := swashlaw07_Write_l4 k (R (T k))) es.length
  (fun j e H' => ∃ s o, e = [(1, .int .i64 w), (2, room), (7, a7), (8, a8), (9, a9), (12, a12), (13, s), (72, sE), (73, .int .i64 es.length), (74, .int .i64 j)] ∧ Star H0 H' [itRow o9 1 a9 encB l9, itRow o12 1 a12 encB l12, B, itRow o 1 s encB (entsB w (es.take j))])
  (fun x e H' => x = .exit 6 ∧ ∃ z s o, e = [(1, .int .i64 w), (2, room), (7, a7), (8, a8), (9, a9), (12, a12), (13, s), (72, sE), (73, .int .i64 es.length), (74, z), (75, .bool false)] ∧ Star H0 H' [itRow o9 1 a9 encB l9, itRow o12 1 a12 encB l12, B, itRow o 1 s encB (entsB w es)])
  (e0 := [(1, .int .i64 w), (2, room), (7, a7), (8, a8), (9, a9), (12, a12), (13, .slice none 0 0), (72, sE), (73, .int .i64 es.length), (74, .int .i64 0)]) (H0 := H) ⟨.slice none 0 0, none, rfl, by simpa [entsB] using g⟩ (by omega)
  (fun j e H' hj ⟨s, o, he, g⟩ => by
   subst he
   have hlt : (j : Int) < es.length := by omega
   obtain ⟨en, hen⟩ : ∃ en, es[j]? = some en := ⟨_, List.getElem?_eq_getElem hj⟩
   obtain ⟨q, i1, i2⟩ := ((hsE.up g.ext).rd (by decide) encEn_len).2 j en hen
   have hlen := entsB_len w (es.take j)
   rw [List.length_take] at hlen
   have g := g.push ⟨encEn en, 1, false⟩
   simp only [List.cons_append, List.nil_append] at g
   have b1 := m16_bound en.next
   have b2 := m16_bound en.flags
   have b3 := m16_bound en.a
   have b4 := m16_bound en.b
   have an := fun H a => and16 Prog 3 H a
   obtain ⟨s1, o1, H1, e1, g1⟩ := Put_star k g 3 rfl (m16 en.next) 2 2 rfl b1.1 (by omega) (by omega) (by omega)
   simp only [List.set_cons_zero, List.set_cons_succ] at g1
   have h1 := g1.get 4 rfl
   obtain ⟨s2, o2, H2, e2, g2⟩ := Put_star k g1 3 rfl (m16 en.flags) 2 2 rfl b2.1 (by omega) (by omega) (by simp; omega)
   simp only [List.set_cons_zero, List.set_cons_succ] at g2
   have h2 := g2.get 4 rfl
   rcases hw with rfl | rfl | rfl
   ·refine .inl ⟨_, H2, ?_, s2, o2, rfl, by rw [take_snoc hen, entsB_snoc]; simpa [entB] using g2.take 4⟩
    rw [swashlaw07_Write_l4_eq]
    simp -implicitDefEqProofs (disch := omega) [hlt, i1, i2, an, e1, h1, e2, h2, swashlaw07_Write_j4_eq, swashlaw07_Write_j6_eq]
   ·obtain ⟨s3, o3, H3, e3, g3⟩ := Put_star k g2 3 rfl (m16 en.a) 2 2 rfl b3.1 (by omega) (by omega) (by simp; omega)
    simp only [List.set_cons_zero, List.set_cons_succ] at g3
    have h3 := g3.get 4 rfl
    refine .inl ⟨_, H3, ?_, s3, o3, rfl, by rw [take_snoc hen, entsB_snoc]; simpa [entB] using g3.take 4⟩
    rw [swashlaw07_Write_l4_eq]
    simp -implicitDefEqProofs (disch := omega) [hlt, i1, i2, an, e1, h1, e2, h2, e3, h3, swashlaw07_Write_j3_eq, swashlaw07_Write_j6_eq]
   ·obtain ⟨s3, o3, H3, e3, g3⟩ := Put_star k g2 3 rfl (m16 en.a) 2 2 rfl b3.1 (by omega) (by omega) (by simp; omega)
    simp only [List.set_cons_zero, List.set_cons_succ] at g3
    have h3 := g3.get 4 rfl
    obtain ⟨s4, o4, H4, e4, g4⟩ := Put_star k g3 3 rfl (m16 en.b) 2 2 rfl b4.1 (by omega) (by omega) (by simp; omega)
    simp only [List.set_cons_zero, List.set_cons_succ] at g4
    refine .inl ⟨_, H4, ?_, s4, o4, rfl, by rw [take_snoc hen, entsB_snoc]; simpa [entB] using g4.take 4⟩
    rw [swashlaw07_Write_l4_eq]
    simp -implicitDefEqProofs (disch := omega) [hlt, i1, i2, an, e1, h1, e2, h2, e3, h3, e4, swashlaw07_Write_j3_eq, swashlaw07_Write_j5_eq])
  (fun e H' ⟨s, o, he, g⟩ => by
   subst he
   rw [List.take_length] at g
   refine ⟨.exit 6, _, H', ?_, by simp, rfl, .int .i64 es.length, s, o, rfl, g⟩
   rw [swashlaw07_Write_l4_eq]
   simp -implicitDefEqProofs)
 exact ⟨s, o, H1, z, hr1, g⟩
theorem planN_eq (p : Plan) (h : 0 ≤ p.wide ∧ p.wide < 256) : 4 + p.wide.tmod 8 = (planN p : Int) ∧ planN p ≤ 11 := by
 unfold planN
 rw [Int.tmod_eq_emod_of_nonneg h.1]
 omega
set_option maxHeartbeats 2000000 in
theorem Write_coreG (k : Nat) (p : Plan) (hp : p.ok) (w : Int) (hw : w = 0 ∨ w = 1 ∨ w = 2) (room : Nat) (hroom : room ≤ 1000) (h1 : p.cls.length ≤ 1000) (h2 : p.rows.length ≤ 1000) (h3 : p.ents.length ≤ 1000) {H : Heap} {vC vR sE : Value} (hC : Sl H 1 vC encB p.cls) {rv : List (List Int × Value)} (hrv : rv.map Prod.fst = p.rows) (hrs : ∀ x, x ∈ rv → Sl H 1 x.2 encB x.1) (hR : Sl H 1 vR encU rv) (hsE : Sl H 4 sE encEn p.ents) :
  ∃ s H', swashlaw07_Write k (R (T k)) (.agg #[vC, vR, sE, .int .u8 p.wide]) (.int .i64 w) (.int .i64 room) H = .ok s H' ∧ Own H H' 1 s encB (planBytes p w room) ∧ Ext H H' := by
 have hrvl : rv.length = p.rows.length := by rw [← hrv]; simp
 have hN := planN_eq p hp.2.2
 obtain ⟨n, hn⟩ : ∃ n, n = planN p := ⟨_, rfl⟩
 rw [← hn] at hN
 have hwd : 0 ≤ p.wide ∧ p.wide < 256 := hp.2.2
 have hrem := fun H => bin_rem Prog 3 H .i64 p.wide 8 (by decide)
 rw [Int.tmod_eq_emod_of_nonneg hwd.1] at hrem hN
 obtain ⟨B, hB⟩ : ∃ B : Blk, B = ⟨[vC, vR, sE, .int .u8 p.wide], 1, false⟩ := ⟨_, rfl⟩
 have g := (Star.nil H).more_row (Ext.refl _) (OwnO.nil encB _ 1) (fun b hb => by cases hb)
 have g := g.more_row (Ext.refl _) (OwnO.nil encB _ 1) (fun b hb => by cases hb)
 have g := g.push B
 simp only [List.cons_append, List.nil_append] at g
 -- the head of the classes
 obtain ⟨s1, o1, H1, e1, g⟩ := Put_star k g 0 rfl 8 2 2 rfl (by omega) (by omega) (by omega) (by simp)
 simp only [List.set_cons_zero, List.set_cons_succ] at g
 have b1 := g.get 2 rfl
 obtain ⟨s2, o2, H2, e2, g⟩ := Put_star k g 0 rfl 0 2 2 rfl (by omega) (by omega) (by omega) (by simp)
 simp only [List.set_cons_zero, List.set_cons_succ] at g
 have b2 := g.get 2 rfl
 obtain ⟨s3, o3, H3, e3, g⟩ := Put_star k g 0 rfl p.cls.length 2 2 rfl (by omega) (by omega) (by omega) (by simp)
 simp only [List.set_cons_zero, List.set_cons_succ, List.nil_append] at g
 have b3 := g.get 2 rfl
 -- the classes
 obtain ⟨x, e', H4, hr4, rfl, z4, s4, o4, rfl, g⟩ := loop_up (body := swashlaw07_Write_l1 k (R (T k))) p.cls.length
  (fun j e H' => ∃ s o, e = [(1, .int .i64 w), (2, .int .i64 room), (3, ptrV H.n), (7, .int .i64 n), (8, .int .i64 (16 + room)), (9, s), (35, vC), (36, .int .i64 p.cls.length), (37, .int .i64 j)] ∧ Star H H' [itRow o 1 s encB ((bytesOf 8 2 ++ bytesOf 0 2 ++ bytesOf p.cls.length 2) ++ twos (p.cls.take j)), itRow none 1 (.slice none 0 0) encB [], itBlk H.n B])
  (fun x e H' => x = .exit 0 ∧ ∃ z s o, e = [(1, .int .i64 w), (2, .int .i64 room), (3, ptrV H.n), (7, .int .i64 n), (8, .int .i64 (16 + room)), (9, s), (35, vC), (36, .int .i64 p.cls.length), (37, z), (38, .bool false)] ∧ Star H H' [itRow o 1 s encB (ofS p.cls), itRow none 1 (.slice none 0 0) encB [], itBlk H.n B])
  (e0 := [(1, .int .i64 w), (2, .int .i64 room), (3, ptrV H.n), (7, .int .i64 n), (8, .int .i64 (16 + room)), (9, s3), (35, vC), (36, .int .i64 p.cls.length), (37, .int .i64 0)]) (H0 := H3) ⟨s3, o3, rfl, by simpa [twos] using g⟩ (by omega)
  (fun j e H' hj ⟨s, o, he, g⟩ => by
   subst he
   have hlt : (j : Int) < p.cls.length := by omega
   obtain ⟨c, hc⟩ : ∃ c, p.cls[j]? = some c := ⟨_, List.getElem?_eq_getElem hj⟩
   obtain ⟨pp, i1, i2⟩ := hC.ix1 encB_len j c hc _ rfl
   have i2 := i2 H' g.ext
   have hcb := hp.1 c (List.mem_of_getElem? hc)
   obtain ⟨s', o', H2, e2, g2⟩ := Put_star k g 0 rfl c 2 2 rfl hcb.1 (by omega) (by omega) (by simp [twos_len]; omega)
   simp only [List.set_cons_zero, List.set_cons_succ] at g2
   refine .inl ⟨_, H2, ?_, s', o', rfl, by rw [take_snoc hc, twos_snoc, ← List.append_assoc]; exact g2⟩
   rw [swashlaw07_Write_l1_eq]
   simp -implicitDefEqProofs (disch := omega) [hlt, i1, i2, e2])
  (fun e H' ⟨s, o, he, g⟩ => by
   subst he
   rw [List.take_length] at g
   refine ⟨.exit 0, _, H', ?_, by simp, rfl, .int .i64 p.cls.length, s, o, rfl, g⟩
   rw [swashlaw07_Write_l1_eq]
   simp -implicitDefEqProofs)
 have b4 := g.get 2 rfl
 have hofl : (ofS p.cls).length = 6 + p.cls.length * 2 := by unfold ofS; simp [twos_len]; omega
 -- the rows
 obtain ⟨x, e', H5, hr5, rfl, z5, s5, o5, rfl, g⟩ := loop_up (body := swashlaw07_Write_l2 k (R (T k))) p.rows.length
  (fun j e H' => ∃ s o, e = [(1, .int .i64 w), (2, .int .i64 room), (3, ptrV H.n), (7, .int .i64 n), (8, .int .i64 (16 + room)), (9, s4), (12, s), (13, .slice none 0 0), (47, vR), (48, .int .i64 p.rows.length), (49, .int .i64 j)] ∧ Star H H' [itRow o4 1 s4 encB (ofS p.cls), itRow o 1 s encB (rowsL n (p.rows.take j)), itBlk H.n B])
  (fun x e H' => x = .exit 2 ∧ ∃ z s o, e = [(1, .int .i64 w), (2, .int .i64 room), (3, ptrV H.n), (7, .int .i64 n), (8, .int .i64 (16 + room)), (9, s4), (12, s), (13, .slice none 0 0), (47, vR), (48, .int .i64 p.rows.length), (49, z), (50, .bool false)] ∧ Star H H' [itRow o4 1 s4 encB (ofS p.cls), itRow o 1 s encB (rowsL n p.rows), itBlk H.n B])
  (e0 := [(1, .int .i64 w), (2, .int .i64 room), (3, ptrV H.n), (7, .int .i64 n), (8, .int .i64 (16 + room)), (9, s4), (12, .slice none 0 0), (13, .slice none 0 0), (47, vR), (48, .int .i64 p.rows.length), (49, .int .i64 0)]) (H0 := H4) ⟨.slice none 0 0, none, rfl, by simpa [rowsL] using g⟩ (by omega)
  (fun j e H' hj ⟨s, o, he, g⟩ => by
   subst he
   have hlt : (j : Int) < p.rows.length := by omega
   obtain ⟨r, hr⟩ : ∃ r, p.rows[j]? = some r := ⟨_, List.getElem?_eq_getElem hj⟩
   obtain ⟨x, hx⟩ : ∃ x, rv[j]? = some x := ⟨_, List.getElem?_eq_getElem (by omega)⟩
   have hxr : x.1 = r := by
    have h0 : (rv.map Prod.fst)[j]? = some x.1 := by rw [List.getElem?_map, hx]; rfl
    rw [hrv, hr] at h0
    exact (Option.some.inj h0).symm
   obtain ⟨pp, i1, i2⟩ := hR.ix1 encU_len j x hx _ rfl
   have i2 := i2 H' g.ext
   have hxs := hrs x (List.mem_of_getElem? hx)
   rw [hxr] at hxs
   have hll : (rowsL n (p.rows.take j)).length < 2 ^ 29 := by
    rw [rowsL_len, List.length_take]
    have : min j p.rows.length * (n * 2) ≤ 1000 * 22 := Nat.mul_le_mul (by omega) (by omega)
    omega
   obtain ⟨s', o', H2, z', e2, g2⟩ := write_l3 k (.int .i64 w) (.int .i64 room) n (by omega) (ptrV H.n) (.int .i64 (16 + room)) r (hp.2.1 r (List.mem_of_getElem? hr)) hxs (vR) (.int .i64 p.rows.length) (.int .i64 j) hll g
   refine .inl ⟨_, H2, ?_, s', o', rfl, by rw [take_snoc hr, rowsL_snoc]; exact g2⟩
   rw [swashlaw07_Write_l2_eq]
   simp -implicitDefEqProofs (disch := omega) [hlt, i1, i2, e2, swashlaw07_Write_l3k_x4])
  (fun e H' ⟨s, o, he, g⟩ => by
   subst he
   rw [List.take_length] at g
   refine ⟨.exit 2, _, H', ?_, by simp, rfl, .int .i64 p.rows.length, s, o, rfl, g⟩
   rw [swashlaw07_Write_l2_eq]
   simp -implicitDefEqProofs)
 have b5 := g.get 2 rfl
 have hrl : (rowsL n p.rows).length ≤ 1000 * 22 := by rw [rowsL_len]; exact Nat.mul_le_mul h2 (by omega)
 -- the entries
 obtain ⟨s6, o6, H6, z6, hr6, g⟩ := write_l4 k w hw (.int .i64 room) (.int .i64 n) (.int .i64 (16 + room)) p.ents (by omega) hsE g
 have hel := entsB_len w p.ents
 have q9 : ∀ H', lnS s4 H' = .ok (.int .i64 (ofS p.cls).length) H' := (g.row 0 rfl).len
 have q12 : ∀ H', lnS s5 H' = .ok (.int .i64 (rowsL n p.rows).length) H' := (g.row 1 rfl).len
 -- all together
 have g := g.more_row (Ext.refl _) (OwnO.nil encB _ 1) (fun b hb => by cases hb)
 simp only [List.cons_append, List.nil_append] at g
 obtain ⟨t1, u1, J1, f1, g⟩ := Put_star k g 4 rfl n 4 4 rfl (by omega) (by omega) (by omega) (by simp)
 simp only [List.set_cons_zero, List.set_cons_succ, List.nil_append] at g
 obtain ⟨t2, u2, J2, f2, g⟩ := Put_star k g 4 rfl (16 + room) 4 4 rfl (by omega) (by omega) (by omega) (by simp)
 simp only [List.set_cons_zero, List.set_cons_succ] at g
 obtain ⟨t3, u3, J3, f3, g⟩ := Put_star k g 4 rfl (16 + room + (ofS p.cls).length) 4 4 rfl (by omega) (by omega) (by omega) (by simp)
 simp only [List.set_cons_zero, List.set_cons_succ] at g
 obtain ⟨t4, u4, J4, f4, g⟩ := Put_star k g 4 rfl (16 + room + (ofS p.cls).length + (rowsL n p.rows).length) 4 4 rfl (by omega) (by omega) (by omega) (by simp)
 simp only [List.set_cons_zero, List.set_cons_succ] at g
 obtain ⟨a4, l4, c4, ht4⟩ := (g.row 4 rfl).shape
 obtain ⟨t5, u5, J5, f5, g⟩ := g.append (bytes := 1) 4 encB_len rfl (b := lv encB (List.replicate room 0)) (l2 := List.replicate room 0) (by rw [lv, List.length_replicate]; rfl) (by have := lv_first encB_len (List.replicate room 0) J4; exact this) (by simp; omega) (by decide)
 simp only [List.set_cons_zero, List.set_cons_succ] at g
 have f5' : azR 1 1 [.int .u8 0] t4 (.int .i64 room) J4 = .ok t5 J5 := by
  rw [ht4] at f5 ⊢
  rw [azR_eq encB_len a4 l4 c4 (0 : Int) _ rfl .i64 room (by omega)]
  exact f5
 obtain ⟨t6, u6, J6, f6, g⟩ := g.appendRow (bytes := 1) 4 0 encB_len rfl rfl (by simp; omega) (by decide)
 simp only [List.set_cons_zero, List.set_cons_succ] at g
 obtain ⟨t7, u7, J7, f7, g⟩ := g.appendRow (bytes := 1) 4 1 encB_len rfl rfl (by simp; omega) (by decide)
 simp only [List.set_cons_zero, List.set_cons_succ] at g
 obtain ⟨t8, u8, J8, f8, g⟩ := g.appendRow (bytes := 1) 4 3 encB_len rfl rfl (by simp; omega) (by decide)
 simp only [List.set_cons_zero, List.set_cons_succ] at g
 have hbytes : planBytes p w room = bytesOf (n : Int) 4 ++ bytesOf (16 + room : Int) 4 ++ bytesOf (16 + room + (ofS p.cls).length : Int) 4 ++ bytesOf (16 + room + (ofS p.cls).length + (rowsL n p.rows).length : Int) 4 ++ List.replicate room 0 ++ ofS p.cls ++ rowsL n p.rows ++ entsB w p.ents := by
  unfold planBytes
  rw [← hn]
 rw [hbytes]
 refine ⟨t8, J8, ?_, g.own 4 rfl, g.ext⟩
 rw [hB] at e1 b1 b2 b3 b4 b5
 have hlnE := fun H' => hsE.len H'
 have hlnC := fun H' => hC.len H'
 have hlnR := fun H' => hR.len H'
 rw [hrvl] at hlnR
 have hvqC : veq vC vC = true := hC.veq fun x _ u hu => by simp at hu; subst hu; simp
 simp -implicitDefEqProofs (disch := omega) [swashlaw07_Write, hrem, hN.1, e1, b1, e2, b2, e3, b3, hr4, swashlaw07_Write_l1k_x0, b4, hr5, swashlaw07_Write_l2k_x2, b5, hr6, swashlaw07_Write_l4k_x6, f1, q9, q12, f2, f3, f4, f5', f6, f7, f8, hlnE, hlnC, hlnR, hvqC]
theorem lvU_rows (l : List (List Int)) : lv encBR l = lv encU (l.map fun s => (s, lv encB s)) := by
 unfold lv
 rw [List.length_map]
 congr 2
 unfold rows
 rw [List.flatMap_map]
 rfl
theorem rv_fst (l : List (List Int)) : (l.map fun s => (s, lv encB s)).map Prod.fst = l := by rw [List.map_map]; simp [Function.comp_def]
theorem Write_core (k : Nat) (p : Plan) (hp : p.ok) (w : Int) (hw : w = 0 ∨ w = 1 ∨ w = 2) (room : Nat) (hroom : room ≤ 1000) (h1 : p.cls.length ≤ 1000) (h2 : p.rows.length ≤ 1000) (h3 : p.ents.length ≤ 1000) {H : Heap} {sE : Value} (hsE : Sl H 4 sE encEn p.ents) :
  ∃ s H', swashlaw07_Write k (R (T k)) (.agg #[lv encB p.cls, lv encBR p.rows, sE, .int .u8 p.wide]) (.int .i64 w) (.int .i64 room) H = .ok s H' ∧ Own H H' 1 s encB (planBytes p w room) ∧ Ext H H' :=
 Write_coreG k p hp w hw room hroom h1 h2 h3 (Sl.lv _ 1 _) (rv_fst p.rows) (fun x hx => by obtain ⟨s, _, rfl⟩ := List.mem_map.1 hx; exact Sl.lv _ 1 _) (by rw [lvU_rows]; exact Sl.lv _ 1 _) hsE
structure PlanSl (H : Heap) (p : Plan) (vC vR sE : Value) (rv : List (List Int × Value)) : Prop where
 cls : Sl H 1 vC encB p.cls
 fst : rv.map Prod.fst = p.rows
 each : ∀ x, x ∈ rv → Sl H 1 x.2 encB x.1
 rows : Sl H 1 vR encU rv
 ents : Sl H 4 sE encEn p.ents
theorem PlanSl.up {H H' : Heap} {p : Plan} {vC vR sE : Value} {rv : List (List Int × Value)} (h : PlanSl H p vC vR sE rv) (he : Ext H H') : PlanSl H' p vC vR sE rv := ⟨h.cls.up he, h.fst, fun x hx => (h.each x hx).up he, h.rows.up he, h.ents.up he⟩
theorem PlanSl.lv (H : Heap) (p : Plan) {sE : Value} (h : Sl H 4 sE encEn p.ents) : PlanSl H p (Go.Sw.lv encB p.cls) (Go.Sw.lv encBR p.rows) sE (p.rows.map fun s => (s, Go.Sw.lv encB s)) :=
 ⟨Sl.lv _ 1 _, rv_fst p.rows, fun x hx => by obtain ⟨s, _, rfl⟩ := List.mem_map.1 hx; exact Sl.lv _ 1 _, by rw [lvU_rows]; exact Sl.lv _ 1 _, h⟩
theorem Write_anyG (k : Nat) (hW : ownW k = .fz) (p : Plan) (hp : p.ok) (w : Int) (hw : w = 0 ∨ w = 1 ∨ w = 2) (room : Nat) (hroom : room ≤ 1000) (h1 : p.cls.length ≤ 1000) (h2 : p.rows.length ≤ 1000) (h3 : p.ents.length ≤ 1000) {H : Heap} {vC vR sE : Value} {rv : List (List Int × Value)} (hP : PlanSl H p vC vR sE rv) :
  R (T k) F.swashlaw07_Write [.agg #[vC, vR, sE, .int .u8 p.wide], .int .i64 w, .int .i64 room] H = .ok (lv encB (planBytes p w room)) H := by
 obtain ⟨s, H', e, ho, hx⟩ := Write_coreG k p hp w hw room hroom h1 h2 h3 hP.cls hP.fst hP.each hP.rows hP.ents
 rw [swashlaw07_Write_R, hW]
 obtain ⟨L, hf⟩ := ho.freeze encB_len (fun n _ v hv => by simp at hv; subst hv; trivial) 6
 exact nrm_fz e hf hx (Flat.B _).alive
theorem Write_any (k : Nat) (hW : ownW k = .fz) (p : Plan) (hp : p.ok) (w : Int) (hw : w = 0 ∨ w = 1 ∨ w = 2) (room : Nat) (hroom : room ≤ 1000) (h1 : p.cls.length ≤ 1000) (h2 : p.rows.length ≤ 1000) (h3 : p.ents.length ≤ 1000) {H : Heap} {sE : Value} (hsE : Sl H 4 sE encEn p.ents) :
  R (T k) F.swashlaw07_Write [.agg #[lv encB p.cls, lv encBR p.rows, sE, .int .u8 p.wide], .int .i64 w, .int .i64 room] H = .ok (lv encB (planBytes p w room)) H := by
 obtain ⟨s, H', e, ho, hx⟩ := Write_core k p hp w hw room hroom h1 h2 h3 hsE
 rw [swashlaw07_Write_R, hW]
 obtain ⟨L, hf⟩ := ho.freeze encB_len (fun n _ v hv => by simp at hv; subst hv; trivial) 6
 exact nrm_fz e hf hx (Flat.B _).alive
theorem Write_run (k : Nat) (hW : ownW k = .fz) (p : Plan) (hp : p.ok) (w : Int) (hw : w = 0 ∨ w = 1 ∨ w = 2) (room : Nat) (hroom : room ≤ 1000) (h1 : p.cls.length ≤ 1000) (h2 : p.rows.length ≤ 1000) (h3 : p.ents.length ≤ 1000) (H : Heap) :
  R (T k) F.swashlaw07_Write [planV p, .int .i64 w, .int .i64 room] H = .ok (lv encB (planBytes p w room)) H := Write_any k hW p hp w hw room hroom h1 h2 h3 (Sl.lv H 4 p.ents)
end Go.Sw
end
section
set_option maxRecDepth 100000
set_option linter.unusedVariables false
namespace Go.Sw
noncomputable section
end
end Go.Sw
end
section
namespace Go.Sw
open Go.RowKit
theorem inS_piece {b : List Int} {i n : Int} : (pieceS b i n).isSome = inS b.length i n := by
 unfold pieceS inS
 split
 ·rename_i h; rw [decide_eq_true h]; rfl
 ·rename_i h; rw [decide_eq_false h]; rfl
theorem uS_of_in {b : List Int} {i n : Int} (h : inS b.length i n = true) : ∃ x, uS b i n = some x := by
 rw [← inS_piece, Option.isSome_iff_exists] at h
 obtain ⟨r, hr⟩ := h
 exact ⟨num r, by unfold uS; rw [hr]; rfl⟩
end Go.Sw
end
section
set_option maxRecDepth 100000
set_option linter.unusedVariables false
namespace Go.Sw
noncomputable section
end
end Go.Sw
end
section
namespace Go.Sw
open Go.RowKit
end Go.Sw
end
section
namespace Go.Sw
open Go.RowKit
end Go.Sw
end
section
namespace Go.Sw
open Go.RowKit
def RP.ok (r : RP) : Prop := -1 ≤ r.first ∧ r.first ≤ 65536 ∧ -1 ≤ r.last ∧ r.last ≤ 65536 ∧ -1 ≤ r.pos ∧ r.pos < 2 ^ 35 ∧ 0 ≤ r.step ∧ r.step ≤ 4 ∧ 0 ≤ r.size ∧ r.size ≤ 4
end Go.Sw
end
section
namespace Go.Sw
open Go.RowKit
theorem restS_iff {b rv : List Int} {j : Int} : restS b j = some rv ↔ (0 ≤ j ∧ j ≤ b.length) ∧ rv = b.drop j.toNat := by
 unfold restS
 split
 ·rename_i h
  exact ⟨fun e => by injection e with e; exact ⟨h, e.symm⟩, fun e => by rw [e.2]⟩
 ·rename_i h
  exact ⟨fun e => (by cases e), fun e => absurd e.1 h⟩
theorem restS_length {b rv : List Int} {j : Int} (h : restS b j = some rv) : (rv.length : Int) = b.length - j := by
 obtain ⟨h1, rfl⟩ := restS_iff.1 h
 simp
 omega
theorem uS_rest {b rv : List Int} {j : Int} (h : restS b j = some rv) {x : Int} (hx : 0 ≤ x) (z : Int) : uS rv x z = uS b (j + x) z := by
 have hl := restS_length h
 obtain ⟨h1, rfl⟩ := restS_iff.1 h
 unfold uS pieceS
 by_cases hc : 0 ≤ z ∧ x ≤ b.length - j ∧ z ≤ b.length - j - x
 ·rw [if_pos (by omega), if_pos (by omega), List.drop_drop, show j.toNat + x.toNat = (j + x).toNat by omega]
 ·rw [if_neg (by omega), if_neg (by omega)]
theorem rowK_iff {rv : List Int} {n : Int} (hn : 0 < n) {k : Nat} : (rowK rv n k).isSome = true ↔ 2 * n * (k + 1) ≤ rv.length := by
 unfold rowK
 rw [listS_isSome (by omega), rowsB_iff (by omega)]
 have h0 : 0 ≤ 2 * n * (k : Int) := Int.mul_nonneg (by omega) (by omega)
 have h1 : 2 * n * ((k : Int) + 1) = 2 * n * k + 2 * n := by rw [Int.mul_add]; omega
 constructor
 ·rintro ⟨_, _, _, h⟩; omega
 ·intro h; exact ⟨h0, by omega, by omega, by omega⟩
theorem row_at {b rv : List Int} {j : Int} (h : restS b j = some rv) {n : Int} {k : Nat} {r : List Int} (hn : 0 < n) (hr : rowK rv n k = some r) : r = (List.range n.toNat).map fun i => gU b (j + (n * k + (i : Nat)) * 2) 2 := by
 have hs := (rowK_iff (rv := rv) (k := k) hn).1 (by rw [hr]; rfl)
 have hr' := hr
 unfold rowK listS at hr'
 obtain ⟨q, hq, hqr⟩ := Option.map_eq_some_iff.1 hr'
 have hlen : r.length = n.toNat := by rw [← hqr]; simp
 have hk0 : 0 ≤ n * (k : Int) := Int.mul_nonneg (by omega) (by omega)
 apply List.ext_getElem?
 intro i
 by_cases hi : i < n.toNat
 ·rw [listS_get (by omega) hr i (by omega), List.getElem?_map, List.getElem?_range hi, uS_rest h (by rw [Int.mul_assoc]; omega)]
  have e : j + (2 * n * (k : Int) + (i : Int) * 2) = j + (n * k + (i : Nat)) * 2 := by rw [Int.mul_assoc, Int.add_mul]; omega
  rw [e]
  have hlen := restS_length h
  have hj := (restS_iff.1 h).1
  have h1 : 2 * n * ((k : Int) + 1) = 2 * (n * k) + 2 * n := by rw [Int.mul_add, Int.mul_assoc]; omega
  obtain ⟨x, hx⟩ : ∃ x, uS b (j + (n * k + (i : Nat)) * 2) 2 = some x := uS_of_in (by unfold inS; exact decide_eq_true (by rw [Int.add_mul]; omega))
  rw [hx, Option.map_some, gU_some hx]
 ·rw [List.getElem?_eq_none (by omega), List.getElem?_eq_none (by simp; omega)]
end Go.Sw
end
section
namespace Go.Sw
open Go.RowKit
theorem twos_get (l : List Int) (pre rest : List Int) (i : Nat) (x : Int) (hx : l[i]? = some x) (hb : 0 ≤ x ∧ x < 65536) (p : Int) (hp : p = pre.length + 2 * i) : uS (pre ++ (twos l ++ rest)) p 2 = some x := by
 obtain ⟨hi, hg⟩ := List.getElem?_eq_some_iff.1 hx
 have e : twos l = twos (l.take i) ++ (bytesOf x 2 ++ twos (l.drop (i + 1))) := by
  have : l = l.take i ++ ([x] ++ l.drop (i + 1)) := by
   rw [← hg, List.singleton_append, ← List.drop_eq_getElem_cons hi, List.take_append_drop]
  conv => lhs; rw [this]
  simp [twos]
 rw [e, ← List.append_assoc]
 have h := uS_at (pre ++ twos (l.take i)) (twos (l.drop (i + 1)) ++ rest) (n := x) (k := 2) p 2 (by rw [List.length_append, twos_len, List.length_take]; omega) rfl hb.1 (by simpa using hb.2)
 simpa [List.append_assoc] using h
theorem twos_flat (n : Nat) : ∀ rs : List (List Int), rowsL n rs = twos (rs.map (rowL n)).flatten
 | [] => rfl
 | r :: rs => by
  have ih := twos_flat n rs
  unfold rowsL at ih ⊢
  rw [List.map_cons, List.flatten_cons, ih]
  simp [twos]
theorem flat_get {n : Nat} : ∀ {rs : List (List Int)} {s i : Nat} {r : List Int}, (∀ r, r ∈ rs → r.length = n) → rs[s]? = some r → i < n → rs.flatten[n * s + i]? = r[i]?
 | [], s, i, r, _, h, _ => by simp at h
 | q :: rs, 0, i, r, hl, h, hi => by
  simp at h
  subst h
  have := hl q (by simp)
  rw [List.flatten_cons, Nat.mul_zero, Nat.zero_add, List.getElem?_append_left (by omega)]
 | q :: rs, s + 1, i, r, hl, h, hi => by
  have h1 := hl q (by simp)
  have := flat_get (s := s) (i := i) (fun r hr => hl r (List.mem_cons_of_mem _ hr)) (by simpa using h) hi
  rw [List.flatten_cons, List.getElem?_append_right (by rw [h1, Nat.mul_succ]; omega), h1, ← this]
  congr 1
  rw [Nat.mul_succ]; omega
theorem restS_all (b : List Int) : restS b 0 = some b := by
 unfold restS
 rw [if_pos ⟨Int.le_refl _, by omega⟩]
 rfl
theorem rowK_plan {n : Nat} (hn : 0 < n) {rs : List (List Int)} (hb : ∀ r, r ∈ rs → Byt r) (x : List Int) {s : Nat} {r : List Int} (hr : rs[s]? = some r) : rowK (rowsL n rs ++ x) n s = some (rowL n r) := by
 have hs := (List.getElem?_eq_some_iff.1 hr).1
 have hlen : (n * 2) * (s + 1) ≤ rs.length * (n * 2) := by rw [Nat.mul_comm]; exact Nat.mul_le_mul_right _ hs
 have hsome : (rowK (rowsL n rs ++ x) n s).isSome = true := by
  rw [rowK_iff (by omega), List.length_append, rowsL_len]
  have h2 : (2 * (n : Int) * ((s : Int) + 1)) = (((n * 2) * (s + 1) : Nat) : Int) := by simp [Int.mul_comm]
  rw [h2]
  omega
 obtain ⟨q, hq⟩ := Option.isSome_iff_exists.1 hsome
 have hat := row_at (restS_all _) (show (0 : Int) < n by omega) hq
 rw [hq, hat]
 congr 1
 rw [Int.toNat_natCast]
 unfold rowL
 apply List.map_congr_left
 intro i hi
 have hi := List.mem_range.1 hi
 have hg : (rs.map (rowL n)).flatten[n * s + i]? = some (r[i]?.getD 0) := by
  rw [flat_get (r := rowL n r) (fun q hq => by obtain ⟨p, _, rfl⟩ := List.mem_map.1 hq; exact rowL_len _ _) (by rw [List.getElem?_map, hr]; rfl) hi]
  unfold rowL
  rw [List.getElem?_map, List.getElem?_range hi]
  rfl
 have hbd : 0 ≤ r[i]?.getD 0 ∧ r[i]?.getD 0 < 256 := by
  cases h : r[i]? with
  | none => simp
  | some y => exact hb r (List.mem_of_getElem? hr) y (List.mem_of_getElem? h)
 rw [twos_flat]
 have := twos_get _ [] x (n * s + i) _ hg ⟨hbd.1, by omega⟩ (0 + ((n : Int) * s + i) * 2) (by simp; omega)
 rw [List.nil_append] at this
 rw [gU_some this]
def entM (w : Int) (e : En) : En := ⟨m16 e.next, m16 e.flags, if 0 < w then m16 e.a else 0, if 1 < w then m16 e.b else 0⟩
theorem entB_length {w : Int} (hw : w = 0 ∨ w = 1 ∨ w = 2) (e : En) : (entB w e).length = (4 + 2 * w).toNat := by
 unfold entB
 simp only [List.length_append, bytesOf_len]
 rcases hw with rfl | rfl | rfl <;> simp
theorem entK_plan {w : Int} (hw : w = 0 ∨ w = 1 ∨ w = 2) {es : List En} (x : List Int) {i : Nat} {e : En} (he : es[i]? = some e) : entK (entsB w es ++ x) w i = some (entM w e) := by
 obtain ⟨hi, hg⟩ := List.getElem?_eq_some_iff.1 he
 have hall : entsB w es = entsB w (es.take i) ++ (entB w e ++ entsB w (es.drop (i + 1))) := by
  have : es = es.take i ++ ([e] ++ es.drop (i + 1)) := by
   rw [← hg, List.singleton_append, ← List.drop_eq_getElem_cons hi, List.take_append_drop]
  conv => lhs; rw [this]
  simp [entsB]
 have hl : (entsB w (es.take i)).length = i * (4 + 2 * w).toNat := by
  unfold entsB
  rw [flat_len (z := (4 + 2 * w).toNat) (fun r hr => by obtain ⟨p, _, rfl⟩ := List.mem_map.1 hr; exact entB_length hw p), List.length_map, List.length_take, Nat.min_eq_left (by omega)]
 unfold entK
 have hp : pieceS (entsB w es ++ x) ((4 + 2 * w) * i) (4 + 2 * w) = some (entB w e) := by
  rw [hall, List.append_assoc, List.append_assoc]
  refine pieceS_at _ _ _ _ _ ?_ ?_
  ·rw [hl, Int.mul_comm]
   have : (((4 + 2 * w).toNat : Nat) : Int) = 4 + 2 * w := by omega
   rw [Int.natCast_mul, this]
  ·rw [entB_length hw]; omega
 rw [hp, Option.map_some]
 congr 1
 have b1 := m16_bound e.next
 have b2 := m16_bound e.flags
 have b3 := m16_bound e.a
 have b4 := m16_bound e.b
 have at_ : ∀ (p q : List Int) (n i : Int), i = p.length → 0 ≤ n → n < 65536 → gU (p ++ (bytesOf n 2 ++ q)) i 2 = n := fun p q n i hi h0 h1 => gU_some (uS_at p q i 2 hi rfl h0 (by simpa using h1))
 unfold entOf entM entB
 rcases hw with rfl | rfl | rfl
 ·simp
  exact ⟨at_ [] _ _ 0 (by simp) b1.1 b1.2, by simpa using at_ (bytesOf (m16 e.next) 2) [] _ 2 (by simp) b2.1 b2.2⟩
 ·simp
  exact ⟨at_ [] _ _ 0 (by simp) b1.1 b1.2, at_ (bytesOf (m16 e.next) 2) _ _ 2 (by simp) b2.1 b2.2, by simpa using at_ (bytesOf (m16 e.next) 2 ++ bytesOf (m16 e.flags) 2) [] _ 4 (by simp) b3.1 b3.2⟩
 ·simp
  exact ⟨at_ [] _ _ 0 (by simp) b1.1 b1.2, at_ (bytesOf (m16 e.next) 2) _ _ 2 (by simp) b2.1 b2.2, by simpa [List.append_assoc] using at_ (bytesOf (m16 e.next) 2 ++ bytesOf (m16 e.flags) 2) (bytesOf (m16 e.b) 2) _ 4 (by simp) b3.1 b3.2,
   by simpa [List.append_assoc] using at_ (bytesOf (m16 e.next) 2 ++ (bytesOf (m16 e.flags) 2 ++ bytesOf (m16 e.a) 2)) [] _ 6 (by simp) b4.1 b4.2⟩
def planRoom (p : Plan) (w : Int) (rm : List Int) : List Int :=
 bytesOf (planN p : Int) 4 ++ (bytesOf (16 + rm.length : Int) 4 ++ (bytesOf (16 + rm.length + (ofS p.cls).length : Int) 4 ++ (bytesOf (16 + rm.length + (ofS p.cls).length + (rowsL (planN p) p.rows).length : Int) 4 ++ (rm ++ (ofS p.cls ++ (rowsL (planN p) p.rows ++ entsB w p.ents))))))
theorem planBytes_room (p : Plan) (w : Int) (room : Nat) : planBytes p w room = planRoom p w (List.replicate room 0) := by
 unfold planBytes planRoom
 simp [List.append_assoc]
def tabOf (cls : List Int) : Int × List Pt := (8, if cls = [] then [] else [⟨0, (cls.length : Int) - 1, cls⟩])
theorem twos_list (l : List Int) (pre rest : List Int) (hb : ∀ x, x ∈ l → 0 ≤ x ∧ x < 65536) (i : Int) (hi : i = pre.length) : listS (pre ++ (twos l ++ rest)) i l.length 2 = some l := by
 have hs : (listS (pre ++ (twos l ++ rest)) i l.length 2).isSome = true := by
  rw [listS_isSome (by omega), rowsB_iff (by omega)]
  simp [twos_len]
  omega
 obtain ⟨vs, hv⟩ := Option.isSome_iff_exists.1 hs
 rw [hv]
 congr 1
 have hlen : vs.length = l.length := by
  unfold listS at hv
  obtain ⟨r, _, rfl⟩ := Option.map_eq_some_iff.1 hv
  simp
 apply List.ext_getElem?
 intro j
 by_cases hj : j < l.length
 ·obtain ⟨x, hx⟩ : ∃ x, l[j]? = some x := ⟨_, List.getElem?_eq_getElem hj⟩
  rw [listS_get (by omega) hv j (by omega), hx]
  exact twos_get l pre rest j x hx (hb x (List.mem_of_getElem? hx)) _ (by omega)
 ·rw [List.getElem?_eq_none (by omega), List.getElem?_eq_none (by omega)]
theorem look_ofS (cls : List Int) (hb : ∀ x, x ∈ cls → 0 ≤ x ∧ x < 65536) (hl : cls.length ≤ 65535) (rest : List Int) (g : Int) : lookS (ofS cls ++ rest) g 2 = some (tabOf cls) := by
 have h0 : uS (ofS cls ++ rest) 0 2 = some 8 := by
  have := uS_at [] (bytesOf 0 2 ++ (bytesOf cls.length 2 ++ (twos cls ++ rest))) (n := 8) (k := 2) 0 2 rfl rfl (by omega) (by decide)
  simpa [ofS, List.append_assoc] using this
 have h2 : uS (ofS cls ++ rest) 2 2 = some 0 := by
  have := uS_at (bytesOf 8 2) (bytesOf cls.length 2 ++ (twos cls ++ rest)) (n := 0) (k := 2) 2 2 (by simp) rfl (by omega) (by decide)
  simpa [ofS, List.append_assoc] using this
 have h4 : uS (ofS cls ++ rest) (2 + 2) 2 = some (cls.length : Int) := by
  have := uS_at (bytesOf 8 2 ++ bytesOf 0 2) (twos cls ++ rest) (n := cls.length) (k := 2) (2 + 2) 2 (by simp) rfl (by omega) (by simp; omega)
  simpa [ofS, List.append_assoc] using this
 have h6 : listS (ofS cls ++ rest) (2 + 4) cls.length 2 = some cls := by
  have := twos_list cls (bytesOf 8 2 ++ bytesOf 0 2 ++ bytesOf cls.length 2) rest hb (2 + 4) (by simp)
  simpa [ofS, List.append_assoc] using this
 unfold lookS partsS
 rw [h0, Option.bind_some]
 simp only [show ¬ ((8 : Int) = 0) by decide, show ¬ ((8 : Int) = 2) by decide, show ¬ ((8 : Int) = 4) by decide, show ¬ ((8 : Int) = 6) by decide, if_false, if_true]
 unfold trimS
 rw [h2, Option.bind_some, h4, Option.bind_some, if_pos (by omega), h6, Option.map_some, Option.bind_some]
 unfold tabOf
 by_cases hc : cls = []
 ·subst hc; rfl
 ·rw [if_neg hc, if_neg (show ¬ ((cls.length : Int) = 0) by have := List.length_pos_iff.2 hc; omega)]
  simp [risesS]
theorem pieces_of (p : Plan) (w : Int) (rm more : List Int) (hrm : rm.length ≤ 1000) (h1 : p.cls.length ≤ 1000) (h2 : p.rows.length ≤ 1000) (hn : planN p ≤ 11) :
  let b := planRoom p w rm ++ more
  uS b 0 4 = some (planN p : Int) ∧ uS b 4 4 = some (16 + rm.length : Int) ∧ restS b (16 + rm.length : Int) = some (ofS p.cls ++ (rowsL (planN p) p.rows ++ (entsB w p.ents ++ more))) ∧
  uS b 8 4 = some (16 + rm.length + (ofS p.cls).length : Int) ∧ restS b (16 + rm.length + (ofS p.cls).length : Int) = some (rowsL (planN p) p.rows ++ (entsB w p.ents ++ more)) ∧
  uS b 12 4 = some (16 + rm.length + (ofS p.cls).length + (rowsL (planN p) p.rows).length : Int) ∧ restS b (16 + rm.length + (ofS p.cls).length + (rowsL (planN p) p.rows).length : Int) = some (entsB w p.ents ++ more) := by
 intro b
 have hofl : (ofS p.cls).length = 6 + p.cls.length * 2 := by unfold ofS; simp [twos_len]; omega
 have hrl : (rowsL (planN p) p.rows).length ≤ 1000 * 22 := by rw [rowsL_len]; exact Nat.mul_le_mul h2 (by omega)
 have rest : ∀ (pre q : List Int) (i : Int), i = pre.length → restS (pre ++ q) i = some q := fun pre q i hi => by
  subst hi
  unfold restS
  rw [if_pos ⟨by omega, by simp; omega⟩]
  simp
 have hb : b = bytesOf (planN p : Int) 4 ++ (bytesOf (16 + rm.length : Int) 4 ++ (bytesOf (16 + rm.length + (ofS p.cls).length : Int) 4 ++ (bytesOf (16 + rm.length + (ofS p.cls).length + (rowsL (planN p) p.rows).length : Int) 4 ++ (rm ++ (ofS p.cls ++ (rowsL (planN p) p.rows ++ (entsB w p.ents ++ more))))))) := by
  show planRoom p w rm ++ more = _
  unfold planRoom
  simp only [List.append_assoc]
 rw [hb]
 refine ⟨?_, ?_, ?_, ?_, ?_, ?_, ?_⟩
 ·exact uS_at [] _ 0 4 rfl rfl (by omega) (by simp; omega)
 ·exact uS_at (bytesOf (planN p : Int) 4) _ 4 4 (by simp) rfl (by omega) (by simp; omega)
 ·have := rest (bytesOf (planN p : Int) 4 ++ (bytesOf (16 + rm.length : Int) 4 ++ (bytesOf (16 + rm.length + (ofS p.cls).length : Int) 4 ++ (bytesOf (16 + rm.length + (ofS p.cls).length + (rowsL (planN p) p.rows).length : Int) 4 ++ rm)))) (ofS p.cls ++ (rowsL (planN p) p.rows ++ (entsB w p.ents ++ more))) (16 + rm.length) (by simp; omega)
  simpa only [List.append_assoc] using this
 ·have := uS_at (bytesOf (planN p : Int) 4 ++ bytesOf (16 + rm.length : Int) 4) (bytesOf (16 + rm.length + (ofS p.cls).length + (rowsL (planN p) p.rows).length : Int) 4 ++ (rm ++ (ofS p.cls ++ (rowsL (planN p) p.rows ++ (entsB w p.ents ++ more))))) (n := 16 + rm.length + (ofS p.cls).length) (k := 4) 8 4 (by simp) rfl (by omega) (by simp; omega)
  simpa only [List.append_assoc] using this
 ·have := rest (bytesOf (planN p : Int) 4 ++ (bytesOf (16 + rm.length : Int) 4 ++ (bytesOf (16 + rm.length + (ofS p.cls).length : Int) 4 ++ (bytesOf (16 + rm.length + (ofS p.cls).length + (rowsL (planN p) p.rows).length : Int) 4 ++ (rm ++ ofS p.cls))))) (rowsL (planN p) p.rows ++ (entsB w p.ents ++ more)) (16 + rm.length + (ofS p.cls).length) (by simp; omega)
  simpa only [List.append_assoc] using this
 ·have := uS_at (bytesOf (planN p : Int) 4 ++ bytesOf (16 + rm.length : Int) 4 ++ bytesOf (16 + rm.length + (ofS p.cls).length : Int) 4) (rm ++ (ofS p.cls ++ (rowsL (planN p) p.rows ++ (entsB w p.ents ++ more)))) (n := 16 + rm.length + (ofS p.cls).length + (rowsL (planN p) p.rows).length) (k := 4) 12 4 (by simp) rfl (by omega) (by simp; omega)
  simpa only [List.append_assoc] using this
 ·have := rest (bytesOf (planN p : Int) 4 ++ (bytesOf (16 + rm.length : Int) 4 ++ (bytesOf (16 + rm.length + (ofS p.cls).length : Int) 4 ++ (bytesOf (16 + rm.length + (ofS p.cls).length + (rowsL (planN p) p.rows).length : Int) 4 ++ (rm ++ (ofS p.cls ++ rowsL (planN p) p.rows)))))) (entsB w p.ents ++ more) (16 + rm.length + (ofS p.cls).length + (rowsL (planN p) p.rows).length) (by simp; omega)
  simpa only [List.append_assoc] using this
theorem plan_mach (p : Plan) (hp : p.ok) (w : Int) (rm more : List Int) (hrm : rm.length ≤ 1000) (h1 : p.cls.length ≤ 1000) (h2 : p.rows.length ≤ 1000) (g : Int) :
  machS (planRoom p w rm ++ more) g w = (closeA (rowsL (planN p) p.rows ++ (entsB w p.ents ++ more)) (entsB w p.ents ++ more) (planN p) w 2).map fun x => ⟨planN p, tabOf p.cls, x.1, x.2⟩ := by
 have hN := planN_eq p hp.2.2
 obtain ⟨e1, e2, e3, e4, e5, e6, e7⟩ := pieces_of p w rm more hrm h1 h2 hN.2
 have hn4 : 4 ≤ planN p := by unfold planN; omega
 unfold machS
 rw [e1, Option.bind_some, if_pos (by omega), e2, Option.bind_some, e3, Option.bind_some, look_ofS p.cls (fun x hx => by have := hp.1 x hx; omega) (by omega) _ g, Option.bind_some, e4, Option.bind_some, e5, Option.bind_some, e6, Option.bind_some, e7, Option.bind_some]
end Go.Sw
end
section
set_option maxRecDepth 100000
set_option linter.unusedVariables false
namespace Go.Sw
noncomputable section
end
end Go.Sw
end
section
namespace Go.Sw
open Go.RowKit
end Go.Sw
end
section
namespace Go.Sw
open Go.RowKit
end Go.Sw
end
section
namespace Go.Sw
theorem row_I {r : List Da} {cs : List Value} (h : LayRow [.int .i64] r cs) : ∃ n : Int, cs = encI n ∧ (Lit.int .i64 n).wf = true := by
 obtain ⟨d, v, ds, vs, rfl, h1, h2⟩ := h.head
 obtain rfl := h2.done
 obtain ⟨n, rfl, w⟩ := h1.intv
 exact ⟨n, rfl, w⟩
theorem wf_u8 {n : Int} (h : (Lit.int .u8 n).wf = true) : 0 ≤ n ∧ n < 256 := by
 simp [Lit.wf, IntKind.min, IntKind.max, IntKind.signed, IntKind.bits] at h
 omega
theorem wf_u16 {n : Int} (h : (Lit.int .u16 n).wf = true) : 0 ≤ n ∧ n < 65536 := by
 simp [Lit.wf, IntKind.min, IntKind.max, IntKind.signed, IntKind.bits] at h
 omega
theorem row_B {r : List Da} {cs : List Value} (h : LayRow [.int .u8] r cs) : ∃ n : Int, cs = encB n ∧ (0 ≤ n ∧ n < 256) := by
 obtain ⟨d, v, ds, vs, rfl, h1, h2⟩ := h.head
 obtain rfl := h2.done
 obtain ⟨n, rfl, w⟩ := h1.intv
 exact ⟨n, rfl, wf_u8 w⟩
end Go.Sw
end
section
namespace Go.Sw
open Go.RowKit
end Go.Sw
end
section
namespace Go.Sw
open Go.RowKit
theorem planRoom_byt {p : Plan} (hp : p.ok) (w : Int) {rm : List Int} (hrm : Byt rm) : Byt (planRoom p w rm) := by
 have tw : ∀ l, Byt (twos l) := fun l => Byt.flat fun r hr => by obtain ⟨c, _, rfl⟩ := List.mem_map.1 hr; exact bytesOf_byt _ _
 unfold planRoom
 refine (bytesOf_byt _ _).app ((bytesOf_byt _ _).app ((bytesOf_byt _ _).app ((bytesOf_byt _ _).app (hrm.app (Byt.app ?_ (Byt.app ?_ ?_))))))
 ·unfold ofS
  exact (((bytesOf_byt _ _).app (bytesOf_byt _ _)).app (bytesOf_byt _ _)).app (tw _)
 ·exact Byt.flat fun r hr => by obtain ⟨c, _, rfl⟩ := List.mem_map.1 hr; exact tw _
 ·refine Byt.flat fun r hr => ?_
  obtain ⟨e, _, rfl⟩ := List.mem_map.1 hr
  unfold entB
  refine (((bytesOf_byt _ _).app (bytesOf_byt _ _)).app ?_).app ?_
  ·split
   ·exact bytesOf_byt _ _
   ·exact Byt.nil
  ·split
   ·exact bytesOf_byt _ _
   ·exact Byt.nil
theorem rep_byt (n : Nat) : Byt (List.replicate n 0) := fun x hx => by
 have := List.eq_of_mem_replicate hx
 omega
theorem planRoom_len {p : Plan} (hp : p.ok) (w : Int) {rm : List Int} (hrm : rm.length ≤ 1000) (h1 : p.cls.length ≤ 1000) (h2 : p.rows.length ≤ 1000) (h3 : p.ents.length ≤ 1000) : (planRoom p w rm).length ≤ 100000 := by
 have hN := planN_eq p hp.2.2
 have hofl : (ofS p.cls).length = 6 + p.cls.length * 2 := by unfold ofS; simp [twos_len]; omega
 have hrl : (rowsL (planN p) p.rows).length ≤ 1000 * 22 := by rw [rowsL_len]; exact Nat.mul_le_mul h2 (by omega)
 have hel := entsB_len w p.ents
 unfold planRoom
 simp
 omega
theorem row_En {r : List Da} {cs : List Value} (h : LayRow [.int .i64, .int .i64, .int .i64, .int .i64] r cs) : ∃ p : En, cs = encEn p ∧ True := by
 obtain ⟨_, v1, _, _, rfl, h1, h⟩ := h.head
 obtain ⟨_, v2, _, _, rfl, h2, h⟩ := h.head
 obtain ⟨_, v3, _, _, rfl, h3, h⟩ := h.head
 obtain ⟨_, v4, _, _, rfl, h4, h⟩ := h.head
 obtain rfl := h.done
 obtain ⟨a, rfl, _⟩ := h1.intv
 obtain ⟨b, rfl, _⟩ := h2.intv
 obtain ⟨c, rfl, _⟩ := h3.intv
 obtain ⟨d, rfl, _⟩ := h4.intv
 exact ⟨⟨a, b, c, d⟩, rfl, trivial⟩
theorem row_BR {r : List Da} {cs : List Value} (h : LayRow [.slice [.int .u8]] r cs) : ∃ b : List Int, cs = encBR b ∧ Byt b := by
 obtain ⟨_, v1, _, _, rfl, h1, h⟩ := h.head
 obtain rfl := h.done
 obtain ⟨b, rfl, hb⟩ := Lay.list (enc := encB) (ok := fun n => 0 ≤ n ∧ n < 256) (fun r cs h => row_B h) h1
 exact ⟨b, rfl, hb⟩
abbrev planSh : ASh := .agg [.slice [.int .u8], .slice [.slice [.int .u8]], .slice [.int .i64, .int .i64, .int .i64, .int .i64], .int .u8]
end Go.Sw
end
section
set_option maxRecDepth 100000
set_option linter.unusedVariables false
namespace Go.Sw
noncomputable section
end
end Go.Sw
end
section
namespace Go.Sw
open Go.RowKit
variable {σ : Type}
end Go.Sw
end
section
namespace Go.Sw
open Go.RowKit
end Go.Sw
end
section
namespace Go.Sw
open Go.RowKit
variable {σ : Type}
end Go.Sw
end
section
namespace Go.Sw
open Go.RowKit
theorem mapO_takeL {β : Type} {f : Nat → Option β} {l : List β} (h : ∀ (i : Nat) y, l[i]? = some y → f i = some y) {n : Nat} (hn : n ≤ l.length) : mapO f (List.range n) = some (l.take n) := by
 refine mapO_some (by simp; omega) fun i x y hx hy => ?_
 rw [List.getElem?_take] at hy
 split at hy
 ·rename_i hi
  rw [List.getElem?_range hi] at hx
  injection hx with hx
  subst hx
  exact h i y hy
 ·cases hy
theorem needE_of {es : List En} {S : Int} (h2 : 2 ≤ S) (h : ∀ e, e ∈ es → e.next < S) : needE es ≤ S := by
 have := needL_lt (l := es.map En.next) (n := S) (by omega) fun x hx => by
  obtain ⟨e, he, rfl⟩ := List.mem_map.1 hx
  exact h e he
 unfold needE
 omega
theorem close_plan {n : Nat} (hn : 0 < n) {w : Int} (hw : w = 0 ∨ w = 1 ∨ w = 2) {rs : List (List Int)} {es : List En} (hb : ∀ r, r ∈ rs → Byt r) (hcell : ∀ r, r ∈ rs → ∀ x, x ∈ rowL n r → x < (es.length : Int)) (hnx : ∀ e, e ∈ es → m16 e.next < (rs.length : Int)) (x y : List Int) :
  ∀ (f s : Nat), 2 ≤ s → s ≤ rs.length → 65537 - s ≤ f → s ≤ 65536 → ∃ r, closeS (rowsL n rs ++ x) (entsB w es ++ y) n w f s = some r ∧ r.1.length ≤ rs.length ∧ (∃ s', r.1 = (rs.map (rowL n)).take s') ∧ (∃ N, r.2 = (es.map (entM w)).take N)
 | 0, s, _, _, h1, h2 => by omega
 | f + 1, s, h2, hs, hf, h6 => by
  have e1 : rowsTo (rowsL n rs ++ x) n s = some ((rs.map (rowL n)).take s) := mapO_takeL (fun i r hr => by
   rw [List.getElem?_map] at hr
   obtain ⟨q, hq, rfl⟩ := Option.map_eq_some_iff.1 hr
   exact rowK_plan hn hb x hq) (by simpa using hs)
  have hneed : needR ((rs.map (rowL n)).take s) ≤ (es.length : Int) := by
   refine needL_lt (by omega) fun y hy => ?_
   obtain ⟨r, hr, hyr⟩ := List.mem_flatten.1 hy
   obtain ⟨q, hq, rfl⟩ := List.mem_map.1 (List.mem_of_mem_take hr)
   exact hcell q hq y hyr
  have h0 := needR_nonneg ((rs.map (rowL n)).take s)
  have e2 : entsTo (entsB w es ++ y) w (needR ((rs.map (rowL n)).take s)).toNat = some ((es.map (entM w)).take (needR ((rs.map (rowL n)).take s)).toNat) := mapO_takeL (fun i r hr => by
   rw [List.getElem?_map] at hr
   obtain ⟨q, hq, rfl⟩ := Option.map_eq_some_iff.1 hr
   exact entK_plan hw y hq) (by simp; omega)
  have h3 : needE ((es.map (entM w)).take (needR ((rs.map (rowL n)).take s)).toNat) ≤ (rs.length : Int) := needE_of (by omega) fun e he => by
   obtain ⟨q, hq, rfl⟩ := List.mem_map.1 (List.mem_of_mem_take he)
   exact hnx q hq
  simp only [closeS]
  rw [e1, Option.bind_some, e2, Option.bind_some]
  split
  ·exact ⟨_, rfl, by simp; omega, ⟨s, rfl⟩, ⟨_, rfl⟩⟩
  ·rename_i hgt
   exact close_plan hn hw hb hcell hnx x y f _ (by omega) (by omega) (by omega) (by
    have : 2 ≤ needE ((es.map (entM w)).take (needR ((rs.map (rowL n)).take s)).toNat) := by unfold needE; omega
    by_cases hle : (rs.length : Nat) ≤ 65536
    ·omega
    ·have hlt : needE ((es.map (entM w)).take (needR ((rs.map (rowL n)).take s)).toNat) ≤ 65536 := needE_of (by omega) fun e he => by
      obtain ⟨q, hq, rfl⟩ := List.mem_map.1 (List.mem_of_mem_take he)
      exact (m16_bound q.next).2
     omega)
structure Reads (p : Plan) (w : Int) (m : Mach) : Prop where
 classes : m.classes = planN p
 tab : m.tab = tabOf p.cls
 few : m.rows.length ≤ p.rows.length
 row : ∀ (s : Nat) r, m.rows[s]? = some r → ∃ q, p.rows[s]? = some q ∧ r = rowL (planN p) q
 ent : ∀ (i : Nat) e, m.ents[i]? = some e → ∃ q, p.ents[i]? = some q ∧ e = entM w q
theorem plan_closed {p : Plan} (hp : p.ok) {w : Int} (hw : w = 0 ∨ w = 1 ∨ w = 2) {rm more : List Int} (hrm : rm.length ≤ 1000) (h1 : p.cls.length ≤ 1000) (h2 : p.rows.length ≤ 1000) (hS : 2 ≤ p.rows.length)
  (hcell : ∀ r, r ∈ p.rows → ∀ x, x ∈ rowL (planN p) r → x < (p.ents.length : Int)) (hnx : ∀ e, e ∈ p.ents → m16 e.next < (p.rows.length : Int)) (g : Int) : ∃ m, machS (planRoom p w rm ++ more) g w = some m ∧ Reads p w m := by
 have e1 := plan_mach p hp w rm more hrm h1 h2 g
 obtain ⟨r, hr, h3, ⟨s', h4⟩, ⟨N, h5⟩⟩ := close_plan (n := planN p) (by unfold planN; omega) hw hp.2.1 hcell hnx (entsB w p.ents ++ more) more (65538 - 2) 2 (Nat.le_refl _) hS (by omega) (by omega)
 unfold closeA at e1
 rw [hr, Option.map_some] at e1
 refine ⟨_, e1, rfl, rfl, h3, fun s q hq => ?_, fun i e he => ?_⟩
 ·dsimp only at hq
  rw [h4, List.getElem?_take] at hq
  split at hq
  ·rw [List.getElem?_map] at hq
   obtain ⟨q', hq', rfl⟩ := Option.map_eq_some_iff.1 hq
   exact ⟨q', hq', rfl⟩
  ·cases hq
 ·dsimp only at he
  rw [h5, List.getElem?_take] at he
  split at he
  ·rw [List.getElem?_map] at he
   obtain ⟨q', hq', rfl⟩ := Option.map_eq_some_iff.1 he
   exact ⟨q', hq', rfl⟩
  ·cases he
theorem Reads.step {p : Plan} {w : Int} {m : Mach} (h : Reads p w m) (hm : m.ok) {s c : Nat} (hs : s < m.rows.length) (hc : c < planN p) {q : List Int} (hq : p.rows[s]? = some q) :
  ∃ e, p.ents[(q[c]?.getD 0).toNat]? = some e ∧ stepS m s c = some (entM w e) := by
 obtain ⟨r, hr⟩ : ∃ r, m.rows[s]? = some r := ⟨_, List.getElem?_eq_getElem hs⟩
 obtain ⟨q', hq', rfl⟩ := h.row s r hr
 rw [hq] at hq'
 injection hq' with hq'
 subst hq'
 obtain ⟨r', x, e, h1, h2, h3, h4, h5⟩ := stepS_some hm (s := (s : Int)) (c := (c : Int)) ⟨by omega, by omega, by omega, by rw [h.classes]; omega⟩
 rw [Int.toNat_natCast, hr] at h1
 injection h1 with h1
 subst h1
 rw [Int.toNat_natCast] at h2
 have hx : (rowL (planN p) q)[c]? = some (q[c]?.getD 0) := by
  unfold rowL
  rw [List.getElem?_map, List.getElem?_range hc]
  rfl
 rw [hx] at h2
 injection h2 with h2
 subst h2
 obtain ⟨e', he', rfl⟩ := h.ent _ e h4
 exact ⟨e', he', h5⟩
theorem Reads.entS {p : Plan} {w : Int} {m : Mach} (h : Reads p w m) (hm : m.ok) (l : List Gl) {st : Nat} (j x y : Int) (hst : st < m.rows.length) :
  ∃ q e, p.rows[st]? = some q ∧ p.ents[(q[(clsS m l j).1.toNat]?.getD 0).toNat]? = some e ∧ entS m l ⟨st, j, x, y⟩ = entM w e := by
 have hb := clsS_bound hm l j
 rw [h.classes] at hb
 obtain ⟨r, hr⟩ : ∃ r, m.rows[st]? = some r := ⟨_, List.getElem?_eq_getElem hst⟩
 obtain ⟨q, hq, _⟩ := h.row st r hr
 obtain ⟨e, he, hs⟩ := h.step hm (c := (clsS m l j).1.toNat) hst (by omega) hq
 refine ⟨q, e, hq, he, ?_⟩
 unfold Go.Sw.entS
 dsimp only
 rw [show (((clsS m l j).1.toNat : Nat) : Int) = (clsS m l j).1 by omega] at hs
 rw [hs]
 rfl
end Go.Sw
end
section
set_option maxRecDepth 100000
set_option linter.unusedVariables false
namespace Go.Sw
noncomputable section
end
end Go.Sw
end
section
namespace Go.Sw
open Go.RowKit
end Go.Sw
end
section
set_option maxRecDepth 100000
set_option linter.unusedVariables false
namespace Go.Sw
noncomputable section
end
end Go.Sw
end
section
namespace Go.Sw
open Go.RowKit
structure CTab where
 m : Mach
 subs : List (Int × List Pt)
end Go.Sw
end
section
namespace Go.Sw
open Go.RowKit
end Go.Sw
end
section
namespace Go.Sw
open Go.RowKit
end Go.Sw
end
section
namespace Go.Sw
open Go.RowKit Go.Proofs
set_option maxRecDepth 20000 in
theorem catch_short (p : Addr) (b : Bool) (w : World) (hc : (w.alloc (.cells #[] 233)).cell? p = some (.bool b)) (hz : (w.alloc (.cells #[] 233)).frozen? p = false) :
  CallsD Prog 160 #[.pointer (some p)] (.panicking [{ v := .iface 233 (.agg #[]), recovered := false }]) w fun e u' w' =>
   e = .returned (.tuple #[]) ∧ u' = .panicking [{ v := .iface 233 (.agg #[]), recovered := true }] ∧ w' = (w.alloc (.cells #[] 233)).setCell p (.bool false) := by
 refine callsD_of_wpS Try.func160 rfl fun c₀ cs hu => ?_
 apply wpS_seq
 apply wpS_region
 simp [wpOpsS, go_sem, recoverD, hu, Try.ntmps160, Exit.thenS]
 have hta : ∀ w, (Instr.typeAssert (.iface 233 (.agg #[])) 20 233 true).run Prog w = .ok (.tuple #[.agg #[], .bool true]) w := fun w => by kernel_rfl
 refine wpS_of_wp ?_
 go_wp2
 cases c₀
 simp_all [bodyPostS, results, Try.results160]
theorem catch_idle (p : Addr) (w : World) :
  CallsD Prog 160 #[.pointer (some p)] .returning w fun e u' w' => e = .returned (.tuple #[]) ∧ u' = .returning ∧ w' = w := by
 refine callsD_of_wpS Try.func160 rfl fun c₀ cs hu => ?_
 apply wpS_seq
 apply wpS_region
 simp [wpOpsS, go_sem, recoverD, hu, Try.ntmps160, Exit.thenS]
 refine wpS_of_wp ?_
 go_wp2
 cases c₀
 simp_all [bodyPostS, results, Try.results160]
set_option maxRecDepth 20000 in
theorem try_walk (g : FuncId) (first cap : Array Value) (w : World) (R : Ending → World → Prop)
  (hcf : (callFunc g (first ++ cap)).run Prog (w.alloc (.cells #[.bool false] 4)) = .ok (.enter g (first ++ cap)) (w.alloc (.cells #[.bool false] 4)))
  (hcall : Calls Prog g (first ++ cap) (w.alloc (.cells #[.bool false] 4)) fun e w' => match e with
   | .returned _ => w'.heap[w.heap.size]? = some (.cells #[.bool false] 4 (0, 0)) ∧ R (.returned (.bool true)) (w'.setCell ⟨w.heap.size, 0, none⟩ (.bool true))
   | .panicked chain => chain = [{ v := .iface 233 (.agg #[]), recovered := false }] ∧ w'.heap[w.heap.size]? = some (.cells #[.bool false] 4 (0, 0)) ∧ R (.returned (.bool false)) ((w'.alloc (.cells #[] 233)).setCell ⟨w.heap.size, 0, none⟩ (.bool false))
   | .outgrown => False) :
  Calls Prog 77 #[.func (.func g) first cap] w R := by
 have hmf : ∀ (fn : Fn) (first cap : Array Value) (w : World), (Instr.makeFunc fn first cap).run Prog w = .ok (.func fn first cap) w := fun _ _ _ _ => rfl
 go_enter_defers Try.func77, Try.ntmps77
 go_wp2
 rename_i K2 hK2 K1 hK1
 refine hcall.mono fun e w' he => ?_
 cases e with
 | returned v =>
  obtain ⟨h1, h2⟩ := he
  have hc : w'.cell? ⟨w.heap.size, 0, none⟩ = some (.bool false) := by simp [World.cell?, h1]
  have hz : w'.frozen? ⟨w.heap.size, 0, none⟩ = false := by simp [World.frozen?, h1]
  apply hK1
  apply hK2
  go_wp2
  have hc2 : (w'.setCell ⟨w.heap.size, 0, none⟩ (.bool true)).cell? ⟨w.heap.size, 0, none⟩ = some (.bool true) := World.cell?_setCell_same _ _ _ hc
  refine leaves_cons (f := 160) (args := #[.pointer (some ⟨w.heap.size, 0, none⟩)]) (by simp) (by simp [go_sem]) ?_
  refine (catch_idle ⟨w.heap.size, 0, none⟩ _).mono ?_
  rintro e u' w'' ⟨rfl, rfl, rfl⟩
  simp [Leaves, settle, results, Try.results77, go_sem, hc2]
  exact h2
 | panicked chain =>
  obtain ⟨h0, h1, h2⟩ := he
  subst h0
  have hlt : w.heap.size < w'.heap.size := by
   rcases Nat.lt_or_ge w.heap.size w'.heap.size with h | h
   ·exact h
   ·rw [Array.getElem?_eq_none h] at h1; cases h1
  have h3 : (w'.alloc (.cells #[] 233)).heap[w.heap.size]? = some (.cells #[.bool false] 4 (0, 0)) := by
   rw [heap_alloc_lt _ _ _ hlt]; exact h1
  have hc : (w'.alloc (.cells #[] 233)).cell? ⟨w.heap.size, 0, none⟩ = some (.bool false) := by simp only [World.cell?, h3]; rfl
  have hz : (w'.alloc (.cells #[] 233)).frozen? ⟨w.heap.size, 0, none⟩ = false := by simp [World.frozen?, h3]
  have hc2 : ((w'.alloc (.cells #[] 233)).setCell ⟨w.heap.size, 0, none⟩ (.bool false)).cell? ⟨w.heap.size, 0, none⟩ = some (.bool false) := World.cell?_setCell_same _ _ _ hc
  show Leaves _ _ _ _ _ _ _
  refine leaves_cons (f := 160) (args := #[.pointer (some ⟨w.heap.size, 0, none⟩)]) (by simp) (by simp [go_sem]) ?_
  refine (catch_short ⟨w.heap.size, 0, none⟩ false _ hc hz).mono ?_
  rintro e u' w'' ⟨rfl, rfl, rfl⟩
  simp [Leaves, settle, results, Try.results77, go_sem, hc2]
  exact h2
 | outgrown => exact he.elim
theorem try_is : SpIs Prog 77 (tryV 233) := try_of (bt := 4) Try.func77 rfl (by kernel_rfl) try_walk
end Go.Sw
end
section
namespace Go.Sw
open Go.RowKit
structure CTab.ok (t : CTab) : Prop where
 m : t.m.ok
 subs : ∀ x, x ∈ t.subs → (∀ p, p ∈ x.2 → p.ok) ∧ risesS x.2 = true ∧ x.2.length < 2 ^ 31
 has : ∀ e, e ∈ t.m.ents → (e.a = 65535 ∨ e.a < t.subs.length) ∧ (e.b = 65535 ∨ e.b < t.subs.length)
end Go.Sw
end
