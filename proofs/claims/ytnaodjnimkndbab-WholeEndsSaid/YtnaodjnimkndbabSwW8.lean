/-
  Functions' forms, and what is proved of them, part 8.
-/
import Derived.Test.YtnaodjnimkndbabSwCfg
import Derived.Test.YtnaodjnimkndbabSwW6
import Derived.Test.YtnaodjnimkndbabSwW7
import Derived.Test.YtnaodjnimkndbabSwW1
import Derived.Test.YtnaodjnimkndbabSwLib8
import Derived.Eval
set_option linter.unusedSimpArgs false
set_option linter.unusedVariables false
set_option linter.unusedSectionVars false
section
set_option maxRecDepth 100000
set_option linter.unusedVariables false
namespace Go.Sw
noncomputable section
def swashtop_WholeEnds_l1 (k : Nat) (call : Caller) : Env → Heap → Res (AExit × Env) := loopB (C k) call F.swashtop_WholeEnds [1, 1, 1, 1, 1, 1, 1, 1, 1, 1, 0, 1, 0, 0]
def swashtop_WholeEnds_l1k (k : Nat) (call : Caller) : Kont Value := kBlock 0 (kSeq (pieceK (C k) call F.swashtop_WholeEnds [1, 1, 1, 1, 1, 1, 1, 1, 1, 1, 1]) (kDone Prog (resOf Prog F.swashtop_WholeEnds)))
def swashtop_WholeEnds_j1 (k : Nat) (call : Caller) (a0 a11 a12 a14 a15 a65 a66 a67 : Value) (h : Heap) : Res (AExit × Env) :=
 kSeq (pieceK (C k) call F.swashtop_WholeEnds [1, 1, 1, 1, 1, 1, 1, 1, 1, 1, 0, 1, 0, 0, 1, 1, 0, 0, 1, 1, 1]) (kBlock 1 (kSeq (pieceK (C k) call F.swashtop_WholeEnds [1, 1, 1, 1, 1, 1, 1, 1, 1, 1, 0, 1, 0, 0, 1, 1, 1]) (kRound (ownOf (C k) F.swashtop_WholeEnds [1, 1, 1, 1, 1, 1, 1, 1, 1, 1, 0, 1, 0, 0])))) .normal [(0, a0), (11, a11), (12, a12), (14, a14), (15, a15), (65, a65), (66, a66), (67, a67)] h
def swashtop_WholeEnds_j2 (k : Nat) (call : Caller) (a0 a11 a12 a13 a14 a15 a65 a66 a67 a79 : Value) (h : Heap) : Res (AExit × Env) :=
 kSeq (pieceK (C k) call F.swashtop_WholeEnds [1, 1, 1, 1, 1, 1, 1, 1, 1, 1, 0, 1, 0, 0, 1, 1, 0, 0, 1, 1, 1]) (kBlock 1 (kSeq (pieceK (C k) call F.swashtop_WholeEnds [1, 1, 1, 1, 1, 1, 1, 1, 1, 1, 0, 1, 0, 0, 1, 1, 1]) (kRound (ownOf (C k) F.swashtop_WholeEnds [1, 1, 1, 1, 1, 1, 1, 1, 1, 1, 0, 1, 0, 0])))) .normal [(0, a0), (11, a11), (12, a12), (13, a13), (14, a14), (15, a15), (65, a65), (66, a66), (67, a67), (79, a79)] h
def swashtop_WholeEnds (k : Nat) (call : Caller) (a0 a1 : Value) (h : Heap) : Res Value :=
 (convR Prog 5 3 a1 h).bind fun v1 h2 =>
 (binR Prog .rem 3 v1 (.int .i64 16) h2).bind fun v3 h4 =>
 (buildSliceR Prog 22 4 [(0, (.int .u8 2)), (1, (.int .u8 1)), (2, (.int .u8 1)), (3, (.int .u8 1))] h4).bind fun v5 h6 =>
 (buildSliceR Prog 22 4 [(0, (.int .u8 2)), (1, (.int .u8 0)), (2, (.int .u8 0)), (3, (.int .u8 0))] h6).bind fun v7 h8 =>
 (buildSliceR Prog 23 2 [(0, v5), (1, v7)] h8).bind fun v9 h10 =>
 (buildR Prog 31 [(0, (.int .i64 1)), (1, (.int .i64 8192))] h10).bind fun v11 h12 =>
 (buildR Prog 31 [(0, (.int .i64 1)), (1, (.int .i64 40960))] h12).bind fun v13 h14 =>
 (buildR Prog 31 [(0, (.int .i64 1)), (1, v3)] h14).bind fun v15 h16 =>
 (buildSliceR Prog 24 3 [(0, v11), (1, v13), (2, v15)] h16).bind fun v17 h18 =>
 (buildR Prog 26 [(1, v9), (2, v17)] h18).bind fun v19 h20 =>
 (allocR Prog 26 h20).bind fun v21 h22 =>
 (storeR Prog 26 v21 v19 h22).bind fun _v23 h24 =>
 (loadR Prog 26 v21 h24).bind fun v25 h26 =>
 (call F.swashlaw07_Write [v25, (.int .i64 0), (.int .i64 0)] h26).bind fun v27 h28 =>
 (call F.rear_Read [v27, (.int .i64 40)] h28).bind fun v29 h30 =>
 (extractR v29 0 h30).bind fun v31 h32 =>
 (extractR v29 1 h32).bind fun v33 h34 =>
 (binR Prog .neq 34 v33 (.int .i64 0) h34).bind fun v35 h36 =>
 ((bif wantVal v35 false then Res.ok v31 h36 else Res.ok undef h36)).bind fun v37 h38 =>
 ((bif wantVal v35 false then binR Prog .eql 33 v37 (.pointer none) h38 else Res.ok undef h38)).bind fun v39 h40 =>
 (condV (some v35) (Res.ok (.bool true) h40) (Res.ok v39 h40)).bind fun v41 h42 =>
 condV (some v41) (
 .ok (.bool false) h42)
 (
 (builtinV Prog .len [27] [a0] h42).bind fun v43 h44 =>
 (binR Prog .gtr 3 v43 (.int .i64 60) h44).bind fun v45 h46 =>
 condV (some v45) (
 .ok (.bool true) h46)
 (
 (call F.line_New [a0] h46).bind fun v47 h48 =>
 (builtinV Prog .len [27] [a0] h48).bind fun v49 h50 =>
 (call F.verb_Order [v3, v49] h50).bind fun v51 h52 =>
 (extractR v51 0 h52).bind fun v53 h54 =>
 (extractR v51 1 h54).bind fun v55 h56 =>
 (call F.rear_Table_Run [v31, v47] h56).bind fun v57 h58 =>
 (binR Prog .neq 34 v57 (.int .i64 0) h58).bind fun v59 h60 =>
 ((bif wantVal v59 false then Res.ok v47 h60 else Res.ok undef h60)).bind fun v61 h62 =>
 ((bif wantVal v59 false then call F.line_Line_Len [v61] h62 else Res.ok undef h62)).bind fun v63 h64 =>
 ((bif wantVal v59 false then Res.ok a0 h64 else Res.ok undef h64)).bind fun v65 h66 =>
 ((bif wantVal v59 false then builtinV Prog .len [27] [v65] h66 else Res.ok undef h66)).bind fun v67 h68 =>
 ((bif wantVal v59 false then binR Prog .neq 3 v63 v67 h68 else Res.ok undef h68)).bind fun v69 h70 =>
 (condV (some v59) (Res.ok (.bool true) h70) (Res.ok v69 h70)).bind fun v71 h72 =>
 condV (some v71) (
 .ok (.bool false) h72)
 (
 (call F.line_Line_Glyphs [v47] h72).bind fun v73 h74 =>
 (builtinV Prog .len [48] [v73] h74).bind fun v75 h76 =>
 (loopN (swashtop_WholeEnds_l1 k call) loopFuel [(0, a0), (11, v53), (12, v55), (65, v73), (66, v75), (67, (.int .i64 0))] h76).bind fun r77 h78 =>
 swashtop_WholeEnds_l1k k call r77.1 r77.2 h78)))
theorem swashtop_WholeEnds_kSn {β : Type} (f : Env → Heap → Kont β → Res β) (K : Kont β) (e : Env) (h : Heap) : kSeq f K .normal e h = f e h K := rfl
theorem swashtop_WholeEnds_kSx {β : Type} (f : Env → Heap → Kont β → Res β) (K : Kont β) (i : Nat) (e : Env) (h : Heap) : kSeq f K (.exit i) e h = K (.exit i) e h := rfl
theorem swashtop_WholeEnds_kSr {β : Type} (f : Env → Heap → Kont β → Res β) (K : Kont β) (e : Env) (h : Heap) : kSeq f K .ret e h = K .ret e h := rfl
theorem swashtop_WholeEnds_kBn {β : Type} (j : Nat) (K : Kont β) (e : Env) (h : Heap) : kBlock j K .normal e h = K .normal e h := rfl
theorem swashtop_WholeEnds_kBx {β : Type} (j : Nat) (K : Kont β) (i : Nat) (e : Env) (h : Heap) : kBlock j K (.exit i) e h = bif i == j then K .normal e h else K (.exit i) e h := rfl
theorem swashtop_WholeEnds_kBr {β : Type} (j : Nat) (K : Kont β) (e : Env) (h : Heap) : kBlock j K .ret e h = K .ret e h := rfl
theorem swashtop_WholeEnds_kRx (ks : List Nat) (i : Nat) (e : Env) (h : Heap) : kRound ks (.exit i) e h = .ok (.exit i, e) h := rfl
theorem swashtop_WholeEnds_kRr (ks : List Nat) (e : Env) (h : Heap) : kRound ks .ret e h = .ok (.ret, e) h := rfl
theorem swashtop_WholeEnds_p1 {β : Type} (k : Nat) (call : Caller) (e : Env) (h : Heap) (K : Kont β) : pieceK (C k) call F.swashtop_WholeEnds [] e h K = pieceK (C k) call F.swashtop_WholeEnds [0] e h (kSeq (pieceK (C k) call F.swashtop_WholeEnds [1]) K) := by kernel_rfl
theorem swashtop_WholeEnds_p2 {β : Type} (k : Nat) (call : Caller) (a0 a1 : Value) (h : Heap) (K : Kont β) : pieceK (C k) call F.swashtop_WholeEnds [0] [(0, a0), (1, a1)] h K =
 (  K .normal [(0, a0), (1, a1)] h) := by kernel_rfl
theorem swashtop_WholeEnds_p3 {β : Type} (k : Nat) (call : Caller) (e : Env) (h : Heap) (K : Kont β) : pieceK (C k) call F.swashtop_WholeEnds [1] e h K = pieceK (C k) call F.swashtop_WholeEnds [1, 0] e h (kSeq (pieceK (C k) call F.swashtop_WholeEnds [1, 1]) K) := by kernel_rfl
theorem swashtop_WholeEnds_p4 {β : Type} (k : Nat) (call : Caller) (a0 a1 : Value) (h : Heap) (K : Kont β) : pieceK (C k) call F.swashtop_WholeEnds [1, 0] [(0, a0), (1, a1)] h K =
 (  (convR Prog 5 3 a1 h).bind fun v1 h2 =>
 (binR Prog .rem 3 v1 (.int .i64 16) h2).bind fun v3 h4 =>
 K .normal [(0, a0), (5, v3)] h4) := by kernel_rfl
theorem swashtop_WholeEnds_p5 {β : Type} (k : Nat) (call : Caller) (e : Env) (h : Heap) (K : Kont β) : pieceK (C k) call F.swashtop_WholeEnds [1, 1] e h K = pieceK (C k) call F.swashtop_WholeEnds [1, 1, 0] e h (kSeq (pieceK (C k) call F.swashtop_WholeEnds [1, 1, 1]) K) := by kernel_rfl
theorem swashtop_WholeEnds_p6 {β : Type} (k : Nat) (call : Caller) (a0 v3 : Value) (h4 : Heap) (K : Kont β) : pieceK (C k) call F.swashtop_WholeEnds [1, 1, 0] [(0, a0), (5, v3)] h4 K =
 (  (buildSliceR Prog 22 4 [(0, (.int .u8 2)), (1, (.int .u8 1)), (2, (.int .u8 1)), (3, (.int .u8 1))] h4).bind fun v5 h6 =>
 K .normal [(0, a0), (5, v3), (6, v5)] h6) := by kernel_rfl
theorem swashtop_WholeEnds_p7 {β : Type} (k : Nat) (call : Caller) (e : Env) (h : Heap) (K : Kont β) : pieceK (C k) call F.swashtop_WholeEnds [1, 1, 1] e h K = pieceK (C k) call F.swashtop_WholeEnds [1, 1, 1, 0] e h (kSeq (pieceK (C k) call F.swashtop_WholeEnds [1, 1, 1, 1]) K) := by kernel_rfl
theorem swashtop_WholeEnds_p8 {β : Type} (k : Nat) (call : Caller) (a0 v3 v5 : Value) (h6 : Heap) (K : Kont β) : pieceK (C k) call F.swashtop_WholeEnds [1, 1, 1, 0] [(0, a0), (5, v3), (6, v5)] h6 K =
 (  (buildSliceR Prog 22 4 [(0, (.int .u8 2)), (1, (.int .u8 0)), (2, (.int .u8 0)), (3, (.int .u8 0))] h6).bind fun v7 h8 =>
 (buildSliceR Prog 23 2 [(0, v5), (1, v7)] h8).bind fun v9 h10 =>
 (buildR Prog 31 [(0, (.int .i64 1)), (1, (.int .i64 8192))] h10).bind fun v11 h12 =>
 (buildR Prog 31 [(0, (.int .i64 1)), (1, (.int .i64 40960))] h12).bind fun v13 h14 =>
 (buildR Prog 31 [(0, (.int .i64 1)), (1, v3)] h14).bind fun v15 h16 =>
 (buildSliceR Prog 24 3 [(0, v11), (1, v13), (2, v15)] h16).bind fun v17 h18 =>
 (buildR Prog 26 [(1, v9), (2, v17)] h18).bind fun v19 h20 =>
 (allocR Prog 26 h20).bind fun v21 h22 =>
 (storeR Prog 26 v21 v19 h22).bind fun _v23 h24 =>
 K .normal [(0, a0), (5, v3), (7, v21)] h24) := by kernel_rfl
theorem swashtop_WholeEnds_p9 {β : Type} (k : Nat) (call : Caller) (e : Env) (h : Heap) (K : Kont β) : pieceK (C k) call F.swashtop_WholeEnds [1, 1, 1, 1] e h K = pieceK (C k) call F.swashtop_WholeEnds [1, 1, 1, 1, 0] e h (kSeq (pieceK (C k) call F.swashtop_WholeEnds [1, 1, 1, 1, 1]) K) := by kernel_rfl
theorem swashtop_WholeEnds_p10 {β : Type} (k : Nat) (call : Caller) (a0 v3 v21 : Value) (h24 : Heap) (K : Kont β) : pieceK (C k) call F.swashtop_WholeEnds [1, 1, 1, 1, 0] [(0, a0), (5, v3), (7, v21)] h24 K =
 (  (loadR Prog 26 v21 h24).bind fun v25 h26 =>
 (call F.swashlaw07_Write [v25, (.int .i64 0), (.int .i64 0)] h26).bind fun v27 h28 =>
 (call F.rear_Read [v27, (.int .i64 40)] h28).bind fun v29 h30 =>
 (extractR v29 0 h30).bind fun v31 h32 =>
 (extractR v29 1 h32).bind fun v33 h34 =>
 K .normal [(0, a0), (5, v3), (8, v31), (9, v33)] h34) := by kernel_rfl
theorem swashtop_WholeEnds_p11 {β : Type} (k : Nat) (call : Caller) (e : Env) (h : Heap) (K : Kont β) : pieceK (C k) call F.swashtop_WholeEnds [1, 1, 1, 1, 1] e h K = pieceK (C k) call F.swashtop_WholeEnds [1, 1, 1, 1, 1, 0] e h (kSeq (pieceK (C k) call F.swashtop_WholeEnds [1, 1, 1, 1, 1, 1]) K) := by kernel_rfl
theorem swashtop_WholeEnds_p12 {β : Type} (k : Nat) (call : Caller) (e : Env) (h : Heap) (K : Kont β) : pieceK (C k) call F.swashtop_WholeEnds [1, 1, 1, 1, 1, 0] e h K = pieceK (C k) call F.swashtop_WholeEnds [1, 1, 1, 1, 1, 0, 0] e h (kSeq (pieceK (C k) call F.swashtop_WholeEnds [1, 1, 1, 1, 1, 0, 1]) K) := by kernel_rfl
theorem swashtop_WholeEnds_p13 {β : Type} (k : Nat) (call : Caller) (a0 v3 v31 v33 : Value) (h34 : Heap) (K : Kont β) : pieceK (C k) call F.swashtop_WholeEnds [1, 1, 1, 1, 1, 0, 0] [(0, a0), (5, v3), (8, v31), (9, v33)] h34 K =
 (  (binR Prog .neq 34 v33 (.int .i64 0) h34).bind fun v35 h36 =>
 ((bif wantVal v35 false then Res.ok v31 h36 else Res.ok undef h36)).bind fun v37 h38 =>
 ((bif wantVal v35 false then binR Prog .eql 33 v37 (.pointer none) h38 else Res.ok undef h38)).bind fun v39 h40 =>
 (condV (some v35) (Res.ok (.bool true) h40) (Res.ok v39 h40)).bind fun v41 h42 =>
 K .normal [(0, a0), (5, v3), (8, v31), (40, v41)] h42) := by kernel_rfl
theorem swashtop_WholeEnds_p14 {β : Type} (k : Nat) (call : Caller) (a0 v3 v31 v41 : Value) (h42 : Heap) (K : Kont β) : pieceK (C k) call F.swashtop_WholeEnds [1, 1, 1, 1, 1, 0, 1] [(0, a0), (5, v3), (8, v31), (40, v41)] h42 K =
 (condV (some v41) (pieceK (C k) call F.swashtop_WholeEnds [1, 1, 1, 1, 1, 0, 1, 0] [(0, a0), (5, v3), (8, v31), (40, v41)] h42 K) (pieceK (C k) call F.swashtop_WholeEnds [1, 1, 1, 1, 1, 0, 1, 1] [(0, a0), (5, v3), (8, v31), (40, v41)] h42 K)) := by kernel_rfl
theorem swashtop_WholeEnds_p15 {β : Type} (k : Nat) (call : Caller) (e : Env) (h : Heap) (K : Kont β) : pieceK (C k) call F.swashtop_WholeEnds [1, 1, 1, 1, 1, 0, 1, 0] e h K = pieceK (C k) call F.swashtop_WholeEnds [1, 1, 1, 1, 1, 0, 1, 0, 0] e h (kSeq (pieceK (C k) call F.swashtop_WholeEnds [1, 1, 1, 1, 1, 0, 1, 0, 1]) K) := by kernel_rfl
theorem swashtop_WholeEnds_p16 {β : Type} (k : Nat) (call : Caller) (a0 v3 v31 v41 : Value) (h42 : Heap) (K : Kont β) : pieceK (C k) call F.swashtop_WholeEnds [1, 1, 1, 1, 1, 0, 1, 0, 0] [(0, a0), (5, v3), (8, v31), (40, v41)] h42 K =
 (    K .normal [(4, (.bool false))] h42) := by kernel_rfl
theorem swashtop_WholeEnds_p17 {β : Type} (k : Nat) (call : Caller) (e : Env) (h : Heap) (K : Kont β) : pieceK (C k) call F.swashtop_WholeEnds [1, 1, 1, 1, 1, 0, 1, 0, 1] e h K = K .ret e h := by kernel_rfl
theorem swashtop_WholeEnds_p18 (h42 : Heap) : kDone Prog (resOf Prog F.swashtop_WholeEnds) .ret [(4, (.bool false))] h42 =
 (    .ok (.bool false) h42) := by kernel_rfl
theorem swashtop_WholeEnds_p19 {β : Type} (k : Nat) (call : Caller) (e : Env) (h : Heap) (K : Kont β) : pieceK (C k) call F.swashtop_WholeEnds [1, 1, 1, 1, 1, 0, 1, 1] e h K = K .normal e h := by kernel_rfl
theorem swashtop_WholeEnds_p20 {β : Type} (k : Nat) (call : Caller) (e : Env) (h : Heap) (K : Kont β) : pieceK (C k) call F.swashtop_WholeEnds [1, 1, 1, 1, 1, 1] e h K = pieceK (C k) call F.swashtop_WholeEnds [1, 1, 1, 1, 1, 1, 0] e h (kSeq (pieceK (C k) call F.swashtop_WholeEnds [1, 1, 1, 1, 1, 1, 1]) K) := by kernel_rfl
theorem swashtop_WholeEnds_p21 {β : Type} (k : Nat) (call : Caller) (e : Env) (h : Heap) (K : Kont β) : pieceK (C k) call F.swashtop_WholeEnds [1, 1, 1, 1, 1, 1, 0] e h K = pieceK (C k) call F.swashtop_WholeEnds [1, 1, 1, 1, 1, 1, 0, 0] e h (kSeq (pieceK (C k) call F.swashtop_WholeEnds [1, 1, 1, 1, 1, 1, 0, 1]) K) := by kernel_rfl
theorem swashtop_WholeEnds_p22 {β : Type} (k : Nat) (call : Caller) (a0 v3 v31 v41 : Value) (h42 : Heap) (K : Kont β) : pieceK (C k) call F.swashtop_WholeEnds [1, 1, 1, 1, 1, 1, 0, 0] [(0, a0), (5, v3), (8, v31), (40, v41)] h42 K =
 (    (builtinV Prog .len [27] [a0] h42).bind fun v43 h44 =>
 (binR Prog .gtr 3 v43 (.int .i64 60) h44).bind fun v45 h46 =>
 K .normal [(0, a0), (5, v3), (8, v31), (43, v45)] h46) := by kernel_rfl
theorem swashtop_WholeEnds_p23 {β : Type} (k : Nat) (call : Caller) (a0 v3 v31 v45 : Value) (h46 : Heap) (K : Kont β) : pieceK (C k) call F.swashtop_WholeEnds [1, 1, 1, 1, 1, 1, 0, 1] [(0, a0), (5, v3), (8, v31), (43, v45)] h46 K =
 (condV (some v45) (pieceK (C k) call F.swashtop_WholeEnds [1, 1, 1, 1, 1, 1, 0, 1, 0] [(0, a0), (5, v3), (8, v31), (43, v45)] h46 K) (pieceK (C k) call F.swashtop_WholeEnds [1, 1, 1, 1, 1, 1, 0, 1, 1] [(0, a0), (5, v3), (8, v31), (43, v45)] h46 K)) := by kernel_rfl
theorem swashtop_WholeEnds_p24 {β : Type} (k : Nat) (call : Caller) (e : Env) (h : Heap) (K : Kont β) : pieceK (C k) call F.swashtop_WholeEnds [1, 1, 1, 1, 1, 1, 0, 1, 0] e h K = pieceK (C k) call F.swashtop_WholeEnds [1, 1, 1, 1, 1, 1, 0, 1, 0, 0] e h (kSeq (pieceK (C k) call F.swashtop_WholeEnds [1, 1, 1, 1, 1, 1, 0, 1, 0, 1]) K) := by kernel_rfl
theorem swashtop_WholeEnds_p25 {β : Type} (k : Nat) (call : Caller) (a0 v3 v31 v45 : Value) (h46 : Heap) (K : Kont β) : pieceK (C k) call F.swashtop_WholeEnds [1, 1, 1, 1, 1, 1, 0, 1, 0, 0] [(0, a0), (5, v3), (8, v31), (43, v45)] h46 K =
 (      K .normal [(4, (.bool true))] h46) := by kernel_rfl
theorem swashtop_WholeEnds_p26 {β : Type} (k : Nat) (call : Caller) (e : Env) (h : Heap) (K : Kont β) : pieceK (C k) call F.swashtop_WholeEnds [1, 1, 1, 1, 1, 1, 0, 1, 0, 1] e h K = K .ret e h := by kernel_rfl
theorem swashtop_WholeEnds_p27 (h46 : Heap) : kDone Prog (resOf Prog F.swashtop_WholeEnds) .ret [(4, (.bool true))] h46 =
 (      .ok (.bool true) h46) := by kernel_rfl
theorem swashtop_WholeEnds_p28 {β : Type} (k : Nat) (call : Caller) (e : Env) (h : Heap) (K : Kont β) : pieceK (C k) call F.swashtop_WholeEnds [1, 1, 1, 1, 1, 1, 0, 1, 1] e h K = K .normal e h := by kernel_rfl
theorem swashtop_WholeEnds_p29 {β : Type} (k : Nat) (call : Caller) (e : Env) (h : Heap) (K : Kont β) : pieceK (C k) call F.swashtop_WholeEnds [1, 1, 1, 1, 1, 1, 1] e h K = pieceK (C k) call F.swashtop_WholeEnds [1, 1, 1, 1, 1, 1, 1, 0] e h (kSeq (pieceK (C k) call F.swashtop_WholeEnds [1, 1, 1, 1, 1, 1, 1, 1]) K) := by kernel_rfl
theorem swashtop_WholeEnds_p30 {β : Type} (k : Nat) (call : Caller) (a0 v3 v31 v45 : Value) (h46 : Heap) (K : Kont β) : pieceK (C k) call F.swashtop_WholeEnds [1, 1, 1, 1, 1, 1, 1, 0] [(0, a0), (5, v3), (8, v31), (43, v45)] h46 K =
 (      (call F.line_New [a0] h46).bind fun v47 h48 =>
 K .normal [(0, a0), (5, v3), (8, v31), (10, v47)] h48) := by kernel_rfl
theorem swashtop_WholeEnds_p31 {β : Type} (k : Nat) (call : Caller) (e : Env) (h : Heap) (K : Kont β) : pieceK (C k) call F.swashtop_WholeEnds [1, 1, 1, 1, 1, 1, 1, 1] e h K = pieceK (C k) call F.swashtop_WholeEnds [1, 1, 1, 1, 1, 1, 1, 1, 0] e h (kSeq (pieceK (C k) call F.swashtop_WholeEnds [1, 1, 1, 1, 1, 1, 1, 1, 1]) K) := by kernel_rfl
theorem swashtop_WholeEnds_p32 {β : Type} (k : Nat) (call : Caller) (a0 v3 v31 v47 : Value) (h48 : Heap) (K : Kont β) : pieceK (C k) call F.swashtop_WholeEnds [1, 1, 1, 1, 1, 1, 1, 1, 0] [(0, a0), (5, v3), (8, v31), (10, v47)] h48 K =
 (      (builtinV Prog .len [27] [a0] h48).bind fun v49 h50 =>
 (call F.verb_Order [v3, v49] h50).bind fun v51 h52 =>
 (extractR v51 0 h52).bind fun v53 h54 =>
 (extractR v51 1 h54).bind fun v55 h56 =>
 K .normal [(0, a0), (8, v31), (10, v47), (11, v53), (12, v55)] h56) := by kernel_rfl
theorem swashtop_WholeEnds_p33 {β : Type} (k : Nat) (call : Caller) (e : Env) (h : Heap) (K : Kont β) : pieceK (C k) call F.swashtop_WholeEnds [1, 1, 1, 1, 1, 1, 1, 1, 1] e h K = pieceK (C k) call F.swashtop_WholeEnds [1, 1, 1, 1, 1, 1, 1, 1, 1, 0] e h (kSeq (pieceK (C k) call F.swashtop_WholeEnds [1, 1, 1, 1, 1, 1, 1, 1, 1, 1]) K) := by kernel_rfl
theorem swashtop_WholeEnds_p34 {β : Type} (k : Nat) (call : Caller) (e : Env) (h : Heap) (K : Kont β) : pieceK (C k) call F.swashtop_WholeEnds [1, 1, 1, 1, 1, 1, 1, 1, 1, 0] e h K = pieceK (C k) call F.swashtop_WholeEnds [1, 1, 1, 1, 1, 1, 1, 1, 1, 0, 0] e h (kSeq (pieceK (C k) call F.swashtop_WholeEnds [1, 1, 1, 1, 1, 1, 1, 1, 1, 0, 1]) K) := by kernel_rfl
theorem swashtop_WholeEnds_p35 {β : Type} (k : Nat) (call : Caller) (a0 v31 v47 v53 v55 : Value) (h56 : Heap) (K : Kont β) : pieceK (C k) call F.swashtop_WholeEnds [1, 1, 1, 1, 1, 1, 1, 1, 1, 0, 0] [(0, a0), (8, v31), (10, v47), (11, v53), (12, v55)] h56 K =
 (      (call F.rear_Table_Run [v31, v47] h56).bind fun v57 h58 =>
 (binR Prog .neq 34 v57 (.int .i64 0) h58).bind fun v59 h60 =>
 ((bif wantVal v59 false then Res.ok v47 h60 else Res.ok undef h60)).bind fun v61 h62 =>
 ((bif wantVal v59 false then call F.line_Line_Len [v61] h62 else Res.ok undef h62)).bind fun v63 h64 =>
 ((bif wantVal v59 false then Res.ok a0 h64 else Res.ok undef h64)).bind fun v65 h66 =>
 ((bif wantVal v59 false then builtinV Prog .len [27] [v65] h66 else Res.ok undef h66)).bind fun v67 h68 =>
 ((bif wantVal v59 false then binR Prog .neq 3 v63 v67 h68 else Res.ok undef h68)).bind fun v69 h70 =>
 (condV (some v59) (Res.ok (.bool true) h70) (Res.ok v69 h70)).bind fun v71 h72 =>
 K .normal [(0, a0), (10, v47), (11, v53), (12, v55), (63, v71)] h72) := by kernel_rfl
theorem swashtop_WholeEnds_p36 {β : Type} (k : Nat) (call : Caller) (a0 v47 v53 v55 v71 : Value) (h72 : Heap) (K : Kont β) : pieceK (C k) call F.swashtop_WholeEnds [1, 1, 1, 1, 1, 1, 1, 1, 1, 0, 1] [(0, a0), (10, v47), (11, v53), (12, v55), (63, v71)] h72 K =
 (condV (some v71) (pieceK (C k) call F.swashtop_WholeEnds [1, 1, 1, 1, 1, 1, 1, 1, 1, 0, 1, 0] [(0, a0), (10, v47), (11, v53), (12, v55), (63, v71)] h72 K) (pieceK (C k) call F.swashtop_WholeEnds [1, 1, 1, 1, 1, 1, 1, 1, 1, 0, 1, 1] [(0, a0), (10, v47), (11, v53), (12, v55), (63, v71)] h72 K)) := by kernel_rfl
theorem swashtop_WholeEnds_p37 {β : Type} (k : Nat) (call : Caller) (e : Env) (h : Heap) (K : Kont β) : pieceK (C k) call F.swashtop_WholeEnds [1, 1, 1, 1, 1, 1, 1, 1, 1, 0, 1, 0] e h K = pieceK (C k) call F.swashtop_WholeEnds [1, 1, 1, 1, 1, 1, 1, 1, 1, 0, 1, 0, 0] e h (kSeq (pieceK (C k) call F.swashtop_WholeEnds [1, 1, 1, 1, 1, 1, 1, 1, 1, 0, 1, 0, 1]) K) := by kernel_rfl
theorem swashtop_WholeEnds_p38 {β : Type} (k : Nat) (call : Caller) (a0 v47 v53 v55 v71 : Value) (h72 : Heap) (K : Kont β) : pieceK (C k) call F.swashtop_WholeEnds [1, 1, 1, 1, 1, 1, 1, 1, 1, 0, 1, 0, 0] [(0, a0), (10, v47), (11, v53), (12, v55), (63, v71)] h72 K =
 (        K .normal [(4, (.bool false))] h72) := by kernel_rfl
theorem swashtop_WholeEnds_p39 {β : Type} (k : Nat) (call : Caller) (e : Env) (h : Heap) (K : Kont β) : pieceK (C k) call F.swashtop_WholeEnds [1, 1, 1, 1, 1, 1, 1, 1, 1, 0, 1, 0, 1] e h K = K .ret e h := by kernel_rfl
theorem swashtop_WholeEnds_p40 (h72 : Heap) : kDone Prog (resOf Prog F.swashtop_WholeEnds) .ret [(4, (.bool false))] h72 =
 (        .ok (.bool false) h72) := by kernel_rfl
theorem swashtop_WholeEnds_p41 {β : Type} (k : Nat) (call : Caller) (e : Env) (h : Heap) (K : Kont β) : pieceK (C k) call F.swashtop_WholeEnds [1, 1, 1, 1, 1, 1, 1, 1, 1, 0, 1, 1] e h K = K .normal e h := by kernel_rfl
theorem swashtop_WholeEnds_p42 {β : Type} (k : Nat) (call : Caller) (e : Env) (h : Heap) (K : Kont β) : pieceK (C k) call F.swashtop_WholeEnds [1, 1, 1, 1, 1, 1, 1, 1, 1, 1] e h K = pieceK (C k) call F.swashtop_WholeEnds [1, 1, 1, 1, 1, 1, 1, 1, 1, 1, 0] e h (kSeq (pieceK (C k) call F.swashtop_WholeEnds [1, 1, 1, 1, 1, 1, 1, 1, 1, 1, 1]) K) := by kernel_rfl
theorem swashtop_WholeEnds_p43 {β : Type} (k : Nat) (call : Caller) (e : Env) (h : Heap) (K : Kont β) : pieceK (C k) call F.swashtop_WholeEnds [1, 1, 1, 1, 1, 1, 1, 1, 1, 1, 0] e h K = pieceK (C k) call F.swashtop_WholeEnds [1, 1, 1, 1, 1, 1, 1, 1, 1, 1, 0, 0] e h (kSeq (pieceK (C k) call F.swashtop_WholeEnds [1, 1, 1, 1, 1, 1, 1, 1, 1, 1, 0, 1]) K) := by kernel_rfl
theorem swashtop_WholeEnds_p44 {β : Type} (k : Nat) (call : Caller) (a0 v47 v53 v55 v71 : Value) (h72 : Heap) (K : Kont β) : pieceK (C k) call F.swashtop_WholeEnds [1, 1, 1, 1, 1, 1, 1, 1, 1, 1, 0, 0] [(0, a0), (10, v47), (11, v53), (12, v55), (63, v71)] h72 K =
 (        (call F.line_Line_Glyphs [v47] h72).bind fun v73 h74 =>
 (builtinV Prog .len [48] [v73] h74).bind fun v75 h76 =>
 K .normal [(0, a0), (11, v53), (12, v55), (65, v73), (66, v75), (67, (.int .i64 0))] h76) := by kernel_rfl
theorem swashtop_WholeEnds_p45 {β : Type} (k : Nat) (call : Caller) (e : Env) (h : Heap) (K : Kont β) : pieceK (C k) call F.swashtop_WholeEnds [1, 1, 1, 1, 1, 1, 1, 1, 1, 1, 0, 1] e h K = pieceK (C k) call F.swashtop_WholeEnds [1, 1, 1, 1, 1, 1, 1, 1, 1, 1, 0, 1, 0] e h (kBlock 0 K) := by kernel_rfl
theorem swashtop_WholeEnds_p46 {β : Type} (k : Nat) (call : Caller) (a0 v53 v55 v73 v75 : Value) (h76 : Heap) (K : Kont β) : pieceK (C k) call F.swashtop_WholeEnds [1, 1, 1, 1, 1, 1, 1, 1, 1, 1, 0, 1, 0] [(0, a0), (11, v53), (12, v55), (65, v73), (66, v75), (67, (.int .i64 0))] h76 K =
 ((loopN (swashtop_WholeEnds_l1 k call) loopFuel [(0, a0), (11, v53), (12, v55), (65, v73), (66, v75), (67, (.int .i64 0))] h76).bind fun r77 h78 => K r77.1 r77.2 h78) := by kernel_rfl
theorem swashtop_WholeEnds_p47 {β : Type} (k : Nat) (call : Caller) (e : Env) (h : Heap) (K : Kont β) : pieceK (C k) call F.swashtop_WholeEnds [1, 1, 1, 1, 1, 1, 1, 1, 1, 1, 0, 1, 0, 0] e h K = pieceK (C k) call F.swashtop_WholeEnds [1, 1, 1, 1, 1, 1, 1, 1, 1, 1, 0, 1, 0, 0, 0] e h (kSeq (pieceK (C k) call F.swashtop_WholeEnds [1, 1, 1, 1, 1, 1, 1, 1, 1, 1, 0, 1, 0, 0, 1]) K) := by kernel_rfl
theorem swashtop_WholeEnds_p48 {β : Type} (k : Nat) (call : Caller) (a0 a11 a12 a65 a66 a67 : Value) (h : Heap) (K : Kont β) : pieceK (C k) call F.swashtop_WholeEnds [1, 1, 1, 1, 1, 1, 1, 1, 1, 1, 0, 1, 0, 0, 0] [(0, a0), (11, a11), (12, a12), (65, a65), (66, a66), (67, a67)] h K =
 (  (binR Prog .lss 3 a67 a66 h).bind fun v79 h80 =>
 K .normal [(0, a0), (11, a11), (12, a12), (65, a65), (66, a66), (67, a67), (68, v79)] h80) := by kernel_rfl
theorem swashtop_WholeEnds_p49 {β : Type} (k : Nat) (call : Caller) (e : Env) (h : Heap) (K : Kont β) : pieceK (C k) call F.swashtop_WholeEnds [1, 1, 1, 1, 1, 1, 1, 1, 1, 1, 0, 1, 0, 0, 1] e h K = pieceK (C k) call F.swashtop_WholeEnds [1, 1, 1, 1, 1, 1, 1, 1, 1, 1, 0, 1, 0, 0, 1, 0] e h (kSeq (pieceK (C k) call F.swashtop_WholeEnds [1, 1, 1, 1, 1, 1, 1, 1, 1, 1, 0, 1, 0, 0, 1, 1]) K) := by kernel_rfl
theorem swashtop_WholeEnds_p50 {β : Type} (k : Nat) (call : Caller) (a0 a11 a12 a65 a66 a67 v79 : Value) (h80 : Heap) (K : Kont β) : pieceK (C k) call F.swashtop_WholeEnds [1, 1, 1, 1, 1, 1, 1, 1, 1, 1, 0, 1, 0, 0, 1, 0] [(0, a0), (11, a11), (12, a12), (65, a65), (66, a66), (67, a67), (68, v79)] h80 K =
 (condV (some v79) (pieceK (C k) call F.swashtop_WholeEnds [1, 1, 1, 1, 1, 1, 1, 1, 1, 1, 0, 1, 0, 0, 1, 0, 0] [(0, a0), (11, a11), (12, a12), (65, a65), (66, a66), (67, a67), (68, v79)] h80 K) (pieceK (C k) call F.swashtop_WholeEnds [1, 1, 1, 1, 1, 1, 1, 1, 1, 1, 0, 1, 0, 0, 1, 0, 1] [(0, a0), (11, a11), (12, a12), (65, a65), (66, a66), (67, a67), (68, v79)] h80 K)) := by kernel_rfl
theorem swashtop_WholeEnds_p51 {β : Type} (k : Nat) (call : Caller) (e : Env) (h : Heap) (K : Kont β) : pieceK (C k) call F.swashtop_WholeEnds [1, 1, 1, 1, 1, 1, 1, 1, 1, 1, 0, 1, 0, 0, 1, 0, 0] e h K = K .normal e h := by kernel_rfl
theorem swashtop_WholeEnds_p52 {β : Type} (k : Nat) (call : Caller) (e : Env) (h : Heap) (K : Kont β) : pieceK (C k) call F.swashtop_WholeEnds [1, 1, 1, 1, 1, 1, 1, 1, 1, 1, 0, 1, 0, 0, 1, 1] e h K = pieceK (C k) call F.swashtop_WholeEnds [1, 1, 1, 1, 1, 1, 1, 1, 1, 1, 0, 1, 0, 0, 1, 1, 0] e h (kSeq (pieceK (C k) call F.swashtop_WholeEnds [1, 1, 1, 1, 1, 1, 1, 1, 1, 1, 0, 1, 0, 0, 1, 1, 1]) K) := by kernel_rfl
theorem swashtop_WholeEnds_p53 {β : Type} (k : Nat) (call : Caller) (e : Env) (h : Heap) (K : Kont β) : pieceK (C k) call F.swashtop_WholeEnds [1, 1, 1, 1, 1, 1, 1, 1, 1, 1, 0, 1, 0, 0, 1, 1, 0] e h K = pieceK (C k) call F.swashtop_WholeEnds [1, 1, 1, 1, 1, 1, 1, 1, 1, 1, 0, 1, 0, 0, 1, 1, 0, 0] e h (kBlock 1 K) := by kernel_rfl
theorem swashtop_WholeEnds_p54 {β : Type} (k : Nat) (call : Caller) (e : Env) (h : Heap) (K : Kont β) : pieceK (C k) call F.swashtop_WholeEnds [1, 1, 1, 1, 1, 1, 1, 1, 1, 1, 0, 1, 0, 0, 1, 1, 0, 0] e h K = pieceK (C k) call F.swashtop_WholeEnds [1, 1, 1, 1, 1, 1, 1, 1, 1, 1, 0, 1, 0, 0, 1, 1, 0, 0, 0] e h (kSeq (pieceK (C k) call F.swashtop_WholeEnds [1, 1, 1, 1, 1, 1, 1, 1, 1, 1, 0, 1, 0, 0, 1, 1, 0, 0, 1]) K) := by kernel_rfl
theorem swashtop_WholeEnds_p55 {β : Type} (k : Nat) (call : Caller) (a0 a11 a12 a65 a66 a67 v79 : Value) (h80 : Heap) (K : Kont β) : pieceK (C k) call F.swashtop_WholeEnds [1, 1, 1, 1, 1, 1, 1, 1, 1, 1, 0, 1, 0, 0, 1, 1, 0, 0, 0] [(0, a0), (11, a11), (12, a12), (65, a65), (66, a66), (67, a67), (68, v79)] h80 K =
 (    (indexAddrR Prog 48 a65 a67 h80).bind fun v81 h82 =>
 (loadR Prog 115 v81 h82).bind fun v83 h84 =>
 (allocR Prog 115 h84).bind fun v85 h86 =>
 (storeR Prog 115 v85 v83 h86).bind fun _v87 h88 =>
 K .normal [(0, a0), (11, a11), (12, a12), (13, a67), (14, v85), (65, a65), (66, a66), (67, a67)] h88) := by kernel_rfl
theorem swashtop_WholeEnds_p56 {β : Type} (k : Nat) (call : Caller) (e : Env) (h : Heap) (K : Kont β) : pieceK (C k) call F.swashtop_WholeEnds [1, 1, 1, 1, 1, 1, 1, 1, 1, 1, 0, 1, 0, 0, 1, 1, 0, 0, 1] e h K = pieceK (C k) call F.swashtop_WholeEnds [1, 1, 1, 1, 1, 1, 1, 1, 1, 1, 0, 1, 0, 0, 1, 1, 0, 0, 1, 0] e h (kSeq (pieceK (C k) call F.swashtop_WholeEnds [1, 1, 1, 1, 1, 1, 1, 1, 1, 1, 0, 1, 0, 0, 1, 1, 0, 0, 1, 1]) K) := by kernel_rfl
theorem swashtop_WholeEnds_p57 {β : Type} (k : Nat) (call : Caller) (a0 a11 a12 a67 v85 a65 a66 : Value) (h88 : Heap) (K : Kont β) : pieceK (C k) call F.swashtop_WholeEnds [1, 1, 1, 1, 1, 1, 1, 1, 1, 1, 0, 1, 0, 0, 1, 1, 0, 0, 1, 0] [(0, a0), (11, a11), (12, a12), (13, a67), (14, v85), (65, a65), (66, a66), (67, a67)] h88 K =
 (    K .normal [(0, a0), (11, a11), (12, a12), (13, a67), (14, v85), (15, a67), (65, a65), (66, a66), (67, a67)] h88) := by kernel_rfl
theorem swashtop_WholeEnds_p58 {β : Type} (k : Nat) (call : Caller) (e : Env) (h : Heap) (K : Kont β) : pieceK (C k) call F.swashtop_WholeEnds [1, 1, 1, 1, 1, 1, 1, 1, 1, 1, 0, 1, 0, 0, 1, 1, 0, 0, 1, 1] e h K = pieceK (C k) call F.swashtop_WholeEnds [1, 1, 1, 1, 1, 1, 1, 1, 1, 1, 0, 1, 0, 0, 1, 1, 0, 0, 1, 1, 0] e h (kSeq (pieceK (C k) call F.swashtop_WholeEnds [1, 1, 1, 1, 1, 1, 1, 1, 1, 1, 0, 1, 0, 0, 1, 1, 0, 0, 1, 1, 1]) K) := by kernel_rfl
theorem swashtop_WholeEnds_p59 {β : Type} (k : Nat) (call : Caller) (e : Env) (h : Heap) (K : Kont β) : pieceK (C k) call F.swashtop_WholeEnds [1, 1, 1, 1, 1, 1, 1, 1, 1, 1, 0, 1, 0, 0, 1, 1, 0, 0, 1, 1, 0] e h K = pieceK (C k) call F.swashtop_WholeEnds [1, 1, 1, 1, 1, 1, 1, 1, 1, 1, 0, 1, 0, 0, 1, 1, 0, 0, 1, 1, 0, 0] e h (kSeq (pieceK (C k) call F.swashtop_WholeEnds [1, 1, 1, 1, 1, 1, 1, 1, 1, 1, 0, 1, 0, 0, 1, 1, 0, 0, 1, 1, 0, 1]) K) := by kernel_rfl
theorem swashtop_WholeEnds_p60 {β : Type} (k : Nat) (call : Caller) (a0 a11 a12 a67 v85 a65 a66 : Value) (h88 : Heap) (K : Kont β) : pieceK (C k) call F.swashtop_WholeEnds [1, 1, 1, 1, 1, 1, 1, 1, 1, 1, 0, 1, 0, 0, 1, 1, 0, 0, 1, 1, 0, 0] [(0, a0), (11, a11), (12, a12), (13, a67), (14, v85), (15, a67), (65, a65), (66, a66), (67, a67)] h88 K =
 (    ((bif wantVal a12 true then Res.ok a67 h88 else Res.ok undef h88)).bind fun v89 h90 =>
 ((bif wantVal a12 true then Res.ok a11 h90 else Res.ok undef h90)).bind fun v91 h92 =>
 ((bif wantVal a12 true then builtinV Prog .len [27] [v91] h92 else Res.ok undef h92)).bind fun v93 h94 =>
 ((bif wantVal a12 true then binR Prog .lss 3 v89 v93 h94 else Res.ok undef h94)).bind fun v95 h96 =>
 (condV (some a12) (Res.ok v95 h96) (Res.ok (.bool false) h96)).bind fun v97 h98 =>
 K .normal [(0, a0), (11, a11), (12, a12), (13, a67), (14, v85), (15, a67), (65, a65), (66, a66), (67, a67), (79, v97)] h98) := by kernel_rfl
theorem swashtop_WholeEnds_p61 {β : Type} (k : Nat) (call : Caller) (a0 a11 a12 a67 v85 a65 a66 v97 : Value) (h98 : Heap) (K : Kont β) : pieceK (C k) call F.swashtop_WholeEnds [1, 1, 1, 1, 1, 1, 1, 1, 1, 1, 0, 1, 0, 0, 1, 1, 0, 0, 1, 1, 0, 1] [(0, a0), (11, a11), (12, a12), (13, a67), (14, v85), (15, a67), (65, a65), (66, a66), (67, a67), (79, v97)] h98 K =
 (condV (some v97) (pieceK (C k) call F.swashtop_WholeEnds [1, 1, 1, 1, 1, 1, 1, 1, 1, 1, 0, 1, 0, 0, 1, 1, 0, 0, 1, 1, 0, 1, 0] [(0, a0), (11, a11), (12, a12), (13, a67), (14, v85), (15, a67), (65, a65), (66, a66), (67, a67), (79, v97)] h98 K) (pieceK (C k) call F.swashtop_WholeEnds [1, 1, 1, 1, 1, 1, 1, 1, 1, 1, 0, 1, 0, 0, 1, 1, 0, 0, 1, 1, 0, 1, 1] [(0, a0), (11, a11), (12, a12), (13, a67), (14, v85), (15, a67), (65, a65), (66, a66), (67, a67), (79, v97)] h98 K)) := by kernel_rfl
theorem swashtop_WholeEnds_p62 {β : Type} (k : Nat) (call : Caller) (a0 a11 a12 a67 v85 a65 a66 v97 : Value) (h98 : Heap) (K : Kont β) : pieceK (C k) call F.swashtop_WholeEnds [1, 1, 1, 1, 1, 1, 1, 1, 1, 1, 0, 1, 0, 0, 1, 1, 0, 0, 1, 1, 0, 1, 0] [(0, a0), (11, a11), (12, a12), (13, a67), (14, v85), (15, a67), (65, a65), (66, a66), (67, a67), (79, v97)] h98 K =
 (      (indexAddrR Prog 27 a11 a67 h98).bind fun v99 h100 =>
 (loadR Prog 3 v99 h100).bind fun v101 h102 =>
 K .normal [(0, a0), (11, a11), (12, a12), (14, v85), (15, v101), (65, a65), (66, a66), (67, a67)] h102) := by kernel_rfl
theorem swashtop_WholeEnds_p63 {β : Type} (k : Nat) (call : Caller) (e : Env) (h : Heap) (K : Kont β) : pieceK (C k) call F.swashtop_WholeEnds [1, 1, 1, 1, 1, 1, 1, 1, 1, 1, 0, 1, 0, 0, 1, 1, 0, 0, 1, 1, 0, 1, 1] e h K = K .normal e h := by kernel_rfl
theorem swashtop_WholeEnds_p64 {β : Type} (k : Nat) (call : Caller) (e : Env) (h : Heap) (K : Kont β) : pieceK (C k) call F.swashtop_WholeEnds [1, 1, 1, 1, 1, 1, 1, 1, 1, 1, 0, 1, 0, 0, 1, 0, 1] e h K = K (.exit 0) e h := by kernel_rfl
theorem swashtop_WholeEnds_p65 {β : Type} (k : Nat) (call : Caller) (e : Env) (h : Heap) (K : Kont β) : pieceK (C k) call F.swashtop_WholeEnds [1, 1, 1, 1, 1, 1, 1, 1, 1, 1, 0, 1, 0, 0, 1, 1, 0, 0, 1, 1, 1] e h K = pieceK (C k) call F.swashtop_WholeEnds [1, 1, 1, 1, 1, 1, 1, 1, 1, 1, 0, 1, 0, 0, 1, 1, 0, 0, 1, 1, 1, 0] e h (kSeq (pieceK (C k) call F.swashtop_WholeEnds [1, 1, 1, 1, 1, 1, 1, 1, 1, 1, 0, 1, 0, 0, 1, 1, 0, 0, 1, 1, 1, 1]) K) := by kernel_rfl
theorem swashtop_WholeEnds_p66 {β : Type} (k : Nat) (call : Caller) (a0 a11 a12 a14 a15 a65 a66 a67 : Value) (h : Heap) (K : Kont β) : pieceK (C k) call F.swashtop_WholeEnds [1, 1, 1, 1, 1, 1, 1, 1, 1, 1, 0, 1, 0, 0, 1, 1, 0, 0, 1, 1, 1, 0] [(0, a0), (11, a11), (12, a12), (14, a14), (15, a15), (65, a65), (66, a66), (67, a67)] h K =
 (  (binR Prog .lss 3 a15 (.int .i64 0) h).bindN fun v103 h104 =>
 ((bif wantVal v103 false then Res.ok a15 h104 else Res.ok undef h104)).bindN fun v105 h106 =>
 ((bif wantVal v103 false then Res.ok a0 h106 else Res.ok undef h106)).bindN fun v107 h108 =>
 ((bif wantVal v103 false then builtinV Prog .len [27] [v107] h108 else Res.ok undef h108)).bindN fun v109 h110 =>
 ((bif wantVal v103 false then binR Prog .geq 3 v105 v109 h110 else Res.ok undef h110)).bindN fun v111 h112 =>
 (condV (some v103) (Res.ok (.bool true) h112) (Res.ok v111 h112)).bindN fun v113 h114 =>
 ((bif wantVal v113 false then fieldAddrR Prog 115 a14 1 h114 else Res.ok undef h114)).bindN fun v115 h116 =>
 ((bif wantVal v113 false then loadR Prog 3 v115 h116 else Res.ok undef h116)).bindN fun v117 h118 =>
 ((bif wantVal v113 false then Res.ok a15 h118 else Res.ok undef h118)).bindN fun v119 h120 =>
 ((bif wantVal v113 false then binR Prog .neq 3 v117 v119 h120 else Res.ok undef h120)).bindN fun v121 h122 =>
 (condV (some v113) (Res.ok (.bool true) h122) (Res.ok v121 h122)).bindN fun v123 h124 =>
 ((bif wantVal v123 false then fieldAddrR Prog 115 a14 0 h124 else Res.ok undef h124)).bindN fun v125 h126 =>
 ((bif wantVal v123 false then loadR Prog 3 v125 h126 else Res.ok undef h126)).bindN fun v127 h128 =>
 ((bif wantVal v123 false then Res.ok a0 h128 else Res.ok undef h128)).bindN fun v129 h130 =>
 ((bif wantVal v123 false then Res.ok a15 h130 else Res.ok undef h130)).bindN fun v131 h132 =>
 ((bif wantVal v123 false then indexAddrR Prog 27 v129 v131 h132 else Res.ok undef h132)).bindN fun v133 h134 =>
 ((bif wantVal v123 false then loadR Prog 3 v133 h134 else Res.ok undef h134)).bindN fun v135 h136 =>
 ((bif wantVal v123 false then binR Prog .neq 3 v127 v135 h136 else Res.ok undef h136)).bindN fun v137 h138 =>
 (condV (some v123) (Res.ok (.bool true) h138) (Res.ok v137 h138)).bindN fun v139 h140 =>
 K .normal [(0, a0), (11, a11), (12, a12), (65, a65), (66, a66), (67, a67), (106, v139)] h140) := by kernel_rfl
theorem swashtop_WholeEnds_p67 {β : Type} (k : Nat) (call : Caller) (a0 a11 a12 a65 a66 a67 v139 : Value) (h140 : Heap) (K : Kont β) : pieceK (C k) call F.swashtop_WholeEnds [1, 1, 1, 1, 1, 1, 1, 1, 1, 1, 0, 1, 0, 0, 1, 1, 0, 0, 1, 1, 1, 1] [(0, a0), (11, a11), (12, a12), (65, a65), (66, a66), (67, a67), (106, v139)] h140 K =
 (condV (some v139) (pieceK (C k) call F.swashtop_WholeEnds [1, 1, 1, 1, 1, 1, 1, 1, 1, 1, 0, 1, 0, 0, 1, 1, 0, 0, 1, 1, 1, 1, 0] [(0, a0), (11, a11), (12, a12), (65, a65), (66, a66), (67, a67), (106, v139)] h140 K) (pieceK (C k) call F.swashtop_WholeEnds [1, 1, 1, 1, 1, 1, 1, 1, 1, 1, 0, 1, 0, 0, 1, 1, 0, 0, 1, 1, 1, 1, 1] [(0, a0), (11, a11), (12, a12), (65, a65), (66, a66), (67, a67), (106, v139)] h140 K)) := by kernel_rfl
theorem swashtop_WholeEnds_p68 {β : Type} (k : Nat) (call : Caller) (e : Env) (h : Heap) (K : Kont β) : pieceK (C k) call F.swashtop_WholeEnds [1, 1, 1, 1, 1, 1, 1, 1, 1, 1, 0, 1, 0, 0, 1, 1, 0, 0, 1, 1, 1, 1, 0] e h K = pieceK (C k) call F.swashtop_WholeEnds [1, 1, 1, 1, 1, 1, 1, 1, 1, 1, 0, 1, 0, 0, 1, 1, 0, 0, 1, 1, 1, 1, 0, 0] e h (kSeq (pieceK (C k) call F.swashtop_WholeEnds [1, 1, 1, 1, 1, 1, 1, 1, 1, 1, 0, 1, 0, 0, 1, 1, 0, 0, 1, 1, 1, 1, 0, 1]) K) := by kernel_rfl
theorem swashtop_WholeEnds_p69 {β : Type} (k : Nat) (call : Caller) (a0 a11 a12 a65 a66 a67 v139 : Value) (h140 : Heap) (K : Kont β) : pieceK (C k) call F.swashtop_WholeEnds [1, 1, 1, 1, 1, 1, 1, 1, 1, 1, 0, 1, 0, 0, 1, 1, 0, 0, 1, 1, 1, 1, 0, 0] [(0, a0), (11, a11), (12, a12), (65, a65), (66, a66), (67, a67), (106, v139)] h140 K =
 (    K .normal [(4, (.bool false))] h140) := by kernel_rfl
theorem swashtop_WholeEnds_p70 {β : Type} (k : Nat) (call : Caller) (e : Env) (h : Heap) (K : Kont β) : pieceK (C k) call F.swashtop_WholeEnds [1, 1, 1, 1, 1, 1, 1, 1, 1, 1, 0, 1, 0, 0, 1, 1, 0, 0, 1, 1, 1, 1, 0, 1] e h K = K .ret e h := by kernel_rfl
theorem swashtop_WholeEnds_p71 {β : Type} (k : Nat) (call : Caller) (e : Env) (h : Heap) (K : Kont β) : pieceK (C k) call F.swashtop_WholeEnds [1, 1, 1, 1, 1, 1, 1, 1, 1, 1, 0, 1, 0, 0, 1, 1, 0, 0, 1, 1, 1, 1, 1] e h K = K .normal e h := by kernel_rfl
theorem swashtop_WholeEnds_p72 {β : Type} (k : Nat) (call : Caller) (a0 a11 a12 a65 a66 a67 v139 : Value) (h140 : Heap) (K : Kont β) : pieceK (C k) call F.swashtop_WholeEnds [1, 1, 1, 1, 1, 1, 1, 1, 1, 1, 0, 1, 0, 0, 1, 1, 1] [(0, a0), (11, a11), (12, a12), (65, a65), (66, a66), (67, a67), (106, v139)] h140 K =
 (    (binR Prog .add 3 a67 (.int .i64 1) h140).bind fun v141 h142 =>
 K .normal [(0, a0), (11, a11), (12, a12), (65, a65), (66, a66), (67, v141)] h142) := by kernel_rfl
theorem swashtop_WholeEnds_p73 (k : Nat) (a0 a11 a12 a65 a66 v141 : Value) (h142 : Heap) : kRound (ownOf (C k) F.swashtop_WholeEnds [1, 1, 1, 1, 1, 1, 1, 1, 1, 1, 0, 1, 0, 0]) .normal [(0, a0), (11, a11), (12, a12), (65, a65), (66, a66), (67, v141)] h142 =
 (.ok (.normal, [(0, a0), (11, a11), (12, a12), (65, a65), (66, a66), (67, v141)]) h142) := by kernel_rfl
theorem swashtop_WholeEnds_p74 {β : Type} (k : Nat) (call : Caller) (e : Env) (h : Heap) (K : Kont β) : pieceK (C k) call F.swashtop_WholeEnds [1, 1, 1, 1, 1, 1, 1, 1, 1, 1, 0, 1, 0, 0, 1, 1, 0, 0, 1, 1, 1] e h K = pieceK (C k) call F.swashtop_WholeEnds [1, 1, 1, 1, 1, 1, 1, 1, 1, 1, 0, 1, 0, 0, 1, 1, 0, 0, 1, 1, 1, 0] e h (kSeq (pieceK (C k) call F.swashtop_WholeEnds [1, 1, 1, 1, 1, 1, 1, 1, 1, 1, 0, 1, 0, 0, 1, 1, 0, 0, 1, 1, 1, 1]) K) := by kernel_rfl
theorem swashtop_WholeEnds_p75 {β : Type} (k : Nat) (call : Caller) (a0 a11 a12 a13 a14 a15 a65 a66 a67 a79 : Value) (h : Heap) (K : Kont β) : pieceK (C k) call F.swashtop_WholeEnds [1, 1, 1, 1, 1, 1, 1, 1, 1, 1, 0, 1, 0, 0, 1, 1, 0, 0, 1, 1, 1, 0] [(0, a0), (11, a11), (12, a12), (13, a13), (14, a14), (15, a15), (65, a65), (66, a66), (67, a67), (79, a79)] h K =
 (  (binR Prog .lss 3 a15 (.int .i64 0) h).bindN fun v143 h144 =>
 ((bif wantVal v143 false then Res.ok a15 h144 else Res.ok undef h144)).bindN fun v145 h146 =>
 ((bif wantVal v143 false then Res.ok a0 h146 else Res.ok undef h146)).bindN fun v147 h148 =>
 ((bif wantVal v143 false then builtinV Prog .len [27] [v147] h148 else Res.ok undef h148)).bindN fun v149 h150 =>
 ((bif wantVal v143 false then binR Prog .geq 3 v145 v149 h150 else Res.ok undef h150)).bindN fun v151 h152 =>
 (condV (some v143) (Res.ok (.bool true) h152) (Res.ok v151 h152)).bindN fun v153 h154 =>
 ((bif wantVal v153 false then fieldAddrR Prog 115 a14 1 h154 else Res.ok undef h154)).bindN fun v155 h156 =>
 ((bif wantVal v153 false then loadR Prog 3 v155 h156 else Res.ok undef h156)).bindN fun v157 h158 =>
 ((bif wantVal v153 false then Res.ok a15 h158 else Res.ok undef h158)).bindN fun v159 h160 =>
 ((bif wantVal v153 false then binR Prog .neq 3 v157 v159 h160 else Res.ok undef h160)).bindN fun v161 h162 =>
 (condV (some v153) (Res.ok (.bool true) h162) (Res.ok v161 h162)).bindN fun v163 h164 =>
 ((bif wantVal v163 false then fieldAddrR Prog 115 a14 0 h164 else Res.ok undef h164)).bindN fun v165 h166 =>
 ((bif wantVal v163 false then loadR Prog 3 v165 h166 else Res.ok undef h166)).bindN fun v167 h168 =>
 ((bif wantVal v163 false then Res.ok a0 h168 else Res.ok undef h168)).bindN fun v169 h170 =>
 ((bif wantVal v163 false then Res.ok a15 h170 else Res.ok undef h170)).bindN fun v171 h172 =>
 ((bif wantVal v163 false then indexAddrR Prog 27 v169 v171 h172 else Res.ok undef h172)).bindN fun v173 h174 =>
 ((bif wantVal v163 false then loadR Prog 3 v173 h174 else Res.ok undef h174)).bindN fun v175 h176 =>
 ((bif wantVal v163 false then binR Prog .neq 3 v167 v175 h176 else Res.ok undef h176)).bindN fun v177 h178 =>
 (condV (some v163) (Res.ok (.bool true) h178) (Res.ok v177 h178)).bindN fun v179 h180 =>
 K .normal [(0, a0), (11, a11), (12, a12), (65, a65), (66, a66), (67, a67), (106, v179)] h180) := by kernel_rfl
theorem swashtop_WholeEnds_p76 {β : Type} (k : Nat) (call : Caller) (a0 a11 a12 a65 a66 a67 v179 : Value) (h180 : Heap) (K : Kont β) : pieceK (C k) call F.swashtop_WholeEnds [1, 1, 1, 1, 1, 1, 1, 1, 1, 1, 0, 1, 0, 0, 1, 1, 0, 0, 1, 1, 1, 1] [(0, a0), (11, a11), (12, a12), (65, a65), (66, a66), (67, a67), (106, v179)] h180 K =
 (condV (some v179) (pieceK (C k) call F.swashtop_WholeEnds [1, 1, 1, 1, 1, 1, 1, 1, 1, 1, 0, 1, 0, 0, 1, 1, 0, 0, 1, 1, 1, 1, 0] [(0, a0), (11, a11), (12, a12), (65, a65), (66, a66), (67, a67), (106, v179)] h180 K) (pieceK (C k) call F.swashtop_WholeEnds [1, 1, 1, 1, 1, 1, 1, 1, 1, 1, 0, 1, 0, 0, 1, 1, 0, 0, 1, 1, 1, 1, 1] [(0, a0), (11, a11), (12, a12), (65, a65), (66, a66), (67, a67), (106, v179)] h180 K)) := by kernel_rfl
theorem swashtop_WholeEnds_p77 {β : Type} (k : Nat) (call : Caller) (e : Env) (h : Heap) (K : Kont β) : pieceK (C k) call F.swashtop_WholeEnds [1, 1, 1, 1, 1, 1, 1, 1, 1, 1, 0, 1, 0, 0, 1, 1, 0, 0, 1, 1, 1, 1, 0] e h K = pieceK (C k) call F.swashtop_WholeEnds [1, 1, 1, 1, 1, 1, 1, 1, 1, 1, 0, 1, 0, 0, 1, 1, 0, 0, 1, 1, 1, 1, 0, 0] e h (kSeq (pieceK (C k) call F.swashtop_WholeEnds [1, 1, 1, 1, 1, 1, 1, 1, 1, 1, 0, 1, 0, 0, 1, 1, 0, 0, 1, 1, 1, 1, 0, 1]) K) := by kernel_rfl
theorem swashtop_WholeEnds_p78 {β : Type} (k : Nat) (call : Caller) (a0 a11 a12 a65 a66 a67 v179 : Value) (h180 : Heap) (K : Kont β) : pieceK (C k) call F.swashtop_WholeEnds [1, 1, 1, 1, 1, 1, 1, 1, 1, 1, 0, 1, 0, 0, 1, 1, 0, 0, 1, 1, 1, 1, 0, 0] [(0, a0), (11, a11), (12, a12), (65, a65), (66, a66), (67, a67), (106, v179)] h180 K =
 (    K .normal [(4, (.bool false))] h180) := by kernel_rfl
theorem swashtop_WholeEnds_p79 {β : Type} (k : Nat) (call : Caller) (e : Env) (h : Heap) (K : Kont β) : pieceK (C k) call F.swashtop_WholeEnds [1, 1, 1, 1, 1, 1, 1, 1, 1, 1, 0, 1, 0, 0, 1, 1, 0, 0, 1, 1, 1, 1, 0, 1] e h K = K .ret e h := by kernel_rfl
theorem swashtop_WholeEnds_p80 {β : Type} (k : Nat) (call : Caller) (e : Env) (h : Heap) (K : Kont β) : pieceK (C k) call F.swashtop_WholeEnds [1, 1, 1, 1, 1, 1, 1, 1, 1, 1, 0, 1, 0, 0, 1, 1, 0, 0, 1, 1, 1, 1, 1] e h K = K .normal e h := by kernel_rfl
theorem swashtop_WholeEnds_p81 {β : Type} (k : Nat) (call : Caller) (a0 a11 a12 a65 a66 a67 v179 : Value) (h180 : Heap) (K : Kont β) : pieceK (C k) call F.swashtop_WholeEnds [1, 1, 1, 1, 1, 1, 1, 1, 1, 1, 0, 1, 0, 0, 1, 1, 1] [(0, a0), (11, a11), (12, a12), (65, a65), (66, a66), (67, a67), (106, v179)] h180 K =
 (    (binR Prog .add 3 a67 (.int .i64 1) h180).bind fun v181 h182 =>
 K .normal [(0, a0), (11, a11), (12, a12), (65, a65), (66, a66), (67, v181)] h182) := by kernel_rfl
theorem swashtop_WholeEnds_p82 (k : Nat) (a0 a11 a12 a65 a66 v181 : Value) (h182 : Heap) : kRound (ownOf (C k) F.swashtop_WholeEnds [1, 1, 1, 1, 1, 1, 1, 1, 1, 1, 0, 1, 0, 0]) .normal [(0, a0), (11, a11), (12, a12), (65, a65), (66, a66), (67, v181)] h182 =
 (.ok (.normal, [(0, a0), (11, a11), (12, a12), (65, a65), (66, a66), (67, v181)]) h182) := by kernel_rfl
theorem swashtop_WholeEnds_p83 {β : Type} (k : Nat) (call : Caller) (e : Env) (h : Heap) (K : Kont β) : pieceK (C k) call F.swashtop_WholeEnds [1, 1, 1, 1, 1, 1, 1, 1, 1, 1, 1] e h K = pieceK (C k) call F.swashtop_WholeEnds [1, 1, 1, 1, 1, 1, 1, 1, 1, 1, 1, 0] e h (kSeq (pieceK (C k) call F.swashtop_WholeEnds [1, 1, 1, 1, 1, 1, 1, 1, 1, 1, 1, 1]) K) := by kernel_rfl
theorem swashtop_WholeEnds_p84 {β : Type} (k : Nat) (call : Caller) (a0 a11 a12 a65 a66 a67 a68 : Value) (h : Heap) (K : Kont β) : pieceK (C k) call F.swashtop_WholeEnds [1, 1, 1, 1, 1, 1, 1, 1, 1, 1, 1, 0] [(0, a0), (11, a11), (12, a12), (65, a65), (66, a66), (67, a67), (68, a68)] h K =
 (  K .normal [(4, (.bool true))] h) := by kernel_rfl
theorem swashtop_WholeEnds_p85 {β : Type} (k : Nat) (call : Caller) (e : Env) (h : Heap) (K : Kont β) : pieceK (C k) call F.swashtop_WholeEnds [1, 1, 1, 1, 1, 1, 1, 1, 1, 1, 1, 1] e h K = K .ret e h := by kernel_rfl
theorem swashtop_WholeEnds_p86 (h : Heap) : kDone Prog (resOf Prog F.swashtop_WholeEnds) .ret [(4, (.bool true))] h =
 (  .ok (.bool true) h) := by kernel_rfl
theorem swashtop_WholeEnds_body (k : Nat) (call : Caller) (a0 a1 : Value) (h : Heap) : bodyK (C k) call F.swashtop_WholeEnds [a0, a1] h = pieceK (C k) call F.swashtop_WholeEnds [] [(0, a0), (1, a1)] h (kDone Prog (resOf Prog F.swashtop_WholeEnds)) := by kernel_rfl
theorem swashtop_WholeEnds_bd (k : Nat) (call : Caller) (a0 a1 : Value) (h : Heap) : bodyK (C k) call F.swashtop_WholeEnds [a0, a1] h = swashtop_WholeEnds k call a0 a1 h := by
 rw [swashtop_WholeEnds_body]
 simp only [swashtop_WholeEnds_l1k, swashtop_WholeEnds_p1, swashtop_WholeEnds_p2, swashtop_WholeEnds_p3, swashtop_WholeEnds_p4, swashtop_WholeEnds_p5, swashtop_WholeEnds_p6, swashtop_WholeEnds_p7, swashtop_WholeEnds_p8, swashtop_WholeEnds_p9, swashtop_WholeEnds_p10, swashtop_WholeEnds_p11, swashtop_WholeEnds_p12, swashtop_WholeEnds_p13, swashtop_WholeEnds_p14, swashtop_WholeEnds_p15, swashtop_WholeEnds_p16, swashtop_WholeEnds_p17, swashtop_WholeEnds_p18, swashtop_WholeEnds_p19, swashtop_WholeEnds_p20, swashtop_WholeEnds_p21, swashtop_WholeEnds_p22, swashtop_WholeEnds_p23, swashtop_WholeEnds_p24, swashtop_WholeEnds_p25, swashtop_WholeEnds_p26, swashtop_WholeEnds_p27, swashtop_WholeEnds_p28, swashtop_WholeEnds_p29, swashtop_WholeEnds_p30, swashtop_WholeEnds_p31, swashtop_WholeEnds_p32, swashtop_WholeEnds_p33, swashtop_WholeEnds_p34, swashtop_WholeEnds_p35, swashtop_WholeEnds_p36, swashtop_WholeEnds_p37, swashtop_WholeEnds_p38, swashtop_WholeEnds_p39, swashtop_WholeEnds_p40, swashtop_WholeEnds_p41, swashtop_WholeEnds_p42, swashtop_WholeEnds_p43, swashtop_WholeEnds_p44, swashtop_WholeEnds_p45, swashtop_WholeEnds_p46, swashtop_WholeEnds, swashtop_WholeEnds_kSn, swashtop_WholeEnds_kSx, swashtop_WholeEnds_kSr, swashtop_WholeEnds_kBn, swashtop_WholeEnds_kBx, swashtop_WholeEnds_kBr, swashtop_WholeEnds_kRx, swashtop_WholeEnds_kRr, Nat.reduceBEq, cond_true, cond_false]
theorem swashtop_WholeEnds_R (k : Nat) (a0 a1 : Value) (h : Heap) : R (T k) F.swashtop_WholeEnds [a0, a1] h = nrm .gc h (swashtop_WholeEnds k (R (T k)) a0 a1 h) :=
 (R_body (t := T k) (T_scott k) (by kernel_rfl) (by kernel_rfl) _ _).trans (congrArg (nrm .gc h) (swashtop_WholeEnds_bd k (R (T k)) a0 a1 h))
theorem swashtop_WholeEnds_l1_eq (k : Nat) (call : Caller) (a0 a11 a12 a65 a66 a67 : Value) (h : Heap) : swashtop_WholeEnds_l1 k call [(0, a0), (11, a11), (12, a12), (65, a65), (66, a66), (67, a67)] h =
 (binR Prog .lss 3 a67 a66 h).bind fun v79 h80 =>
 condV (some v79) (
 (indexAddrR Prog 48 a65 a67 h80).bind fun v81 h82 =>
 (loadR Prog 115 v81 h82).bind fun v83 h84 =>
 (allocR Prog 115 h84).bind fun v85 h86 =>
 (storeR Prog 115 v85 v83 h86).bind fun _v87 h88 =>
 ((bif wantVal a12 true then Res.ok a67 h88 else Res.ok undef h88)).bind fun v89 h90 =>
 ((bif wantVal a12 true then Res.ok a11 h90 else Res.ok undef h90)).bind fun v91 h92 =>
 ((bif wantVal a12 true then builtinV Prog .len [27] [v91] h92 else Res.ok undef h92)).bind fun v93 h94 =>
 ((bif wantVal a12 true then binR Prog .lss 3 v89 v93 h94 else Res.ok undef h94)).bind fun v95 h96 =>
 (condV (some a12) (Res.ok v95 h96) (Res.ok (.bool false) h96)).bind fun v97 h98 =>
 condV (some v97) (
 (indexAddrR Prog 27 a11 a67 h98).bind fun v99 h100 =>
 (loadR Prog 3 v99 h100).bind fun v101 h102 =>
 swashtop_WholeEnds_j1 k call a0 a11 a12 v85 v101 a65 a66 a67 h102)
 (
 swashtop_WholeEnds_j2 k call a0 a11 a12 a67 v85 a67 a65 a66 a67 v97 h98))
 (
 .ok ((.exit 0), [(0, a0), (11, a11), (12, a12), (65, a65), (66, a66), (67, a67), (68, v79)]) h80) :=
 (loopB_eq _ _).trans (by simp only [swashtop_WholeEnds_j2, swashtop_WholeEnds_j1, swashtop_WholeEnds_l1k, swashtop_WholeEnds_p47, swashtop_WholeEnds_p48, swashtop_WholeEnds_p49, swashtop_WholeEnds_p50, swashtop_WholeEnds_p51, swashtop_WholeEnds_p52, swashtop_WholeEnds_p53, swashtop_WholeEnds_p54, swashtop_WholeEnds_p55, swashtop_WholeEnds_p56, swashtop_WholeEnds_p57, swashtop_WholeEnds_p58, swashtop_WholeEnds_p59, swashtop_WholeEnds_p60, swashtop_WholeEnds_p61, swashtop_WholeEnds_p62, swashtop_WholeEnds_p63, swashtop_WholeEnds_p64, swashtop_WholeEnds, swashtop_WholeEnds_kSn, swashtop_WholeEnds_kSx, swashtop_WholeEnds_kSr, swashtop_WholeEnds_kBn, swashtop_WholeEnds_kBx, swashtop_WholeEnds_kBr, swashtop_WholeEnds_kRx, swashtop_WholeEnds_kRr, Nat.reduceBEq, cond_true, cond_false])
theorem swashtop_WholeEnds_j1_eq (k : Nat) (call : Caller) (a0 a11 a12 a14 a15 a65 a66 a67 : Value) (h : Heap) : swashtop_WholeEnds_j1 k call a0 a11 a12 a14 a15 a65 a66 a67 h =
 (binR Prog .lss 3 a15 (.int .i64 0) h).bindN fun v103 h104 =>
 ((bif wantVal v103 false then Res.ok a15 h104 else Res.ok undef h104)).bindN fun v105 h106 =>
 ((bif wantVal v103 false then Res.ok a0 h106 else Res.ok undef h106)).bindN fun v107 h108 =>
 ((bif wantVal v103 false then builtinV Prog .len [27] [v107] h108 else Res.ok undef h108)).bindN fun v109 h110 =>
 ((bif wantVal v103 false then binR Prog .geq 3 v105 v109 h110 else Res.ok undef h110)).bindN fun v111 h112 =>
 (condV (some v103) (Res.ok (.bool true) h112) (Res.ok v111 h112)).bindN fun v113 h114 =>
 ((bif wantVal v113 false then fieldAddrR Prog 115 a14 1 h114 else Res.ok undef h114)).bindN fun v115 h116 =>
 ((bif wantVal v113 false then loadR Prog 3 v115 h116 else Res.ok undef h116)).bindN fun v117 h118 =>
 ((bif wantVal v113 false then Res.ok a15 h118 else Res.ok undef h118)).bindN fun v119 h120 =>
 ((bif wantVal v113 false then binR Prog .neq 3 v117 v119 h120 else Res.ok undef h120)).bindN fun v121 h122 =>
 (condV (some v113) (Res.ok (.bool true) h122) (Res.ok v121 h122)).bindN fun v123 h124 =>
 ((bif wantVal v123 false then fieldAddrR Prog 115 a14 0 h124 else Res.ok undef h124)).bindN fun v125 h126 =>
 ((bif wantVal v123 false then loadR Prog 3 v125 h126 else Res.ok undef h126)).bindN fun v127 h128 =>
 ((bif wantVal v123 false then Res.ok a0 h128 else Res.ok undef h128)).bindN fun v129 h130 =>
 ((bif wantVal v123 false then Res.ok a15 h130 else Res.ok undef h130)).bindN fun v131 h132 =>
 ((bif wantVal v123 false then indexAddrR Prog 27 v129 v131 h132 else Res.ok undef h132)).bindN fun v133 h134 =>
 ((bif wantVal v123 false then loadR Prog 3 v133 h134 else Res.ok undef h134)).bindN fun v135 h136 =>
 ((bif wantVal v123 false then binR Prog .neq 3 v127 v135 h136 else Res.ok undef h136)).bindN fun v137 h138 =>
 (condV (some v123) (Res.ok (.bool true) h138) (Res.ok v137 h138)).bindN fun v139 h140 =>
 condV (some v139) (
 .ok (.ret, [(4, (.bool false))]) h140)
 (
 (binR Prog .add 3 a67 (.int .i64 1) h140).bind fun v141 h142 =>
 .ok (.normal, [(0, a0), (11, a11), (12, a12), (65, a65), (66, a66), (67, v141)]) h142) := by simp only [swashtop_WholeEnds_j2, swashtop_WholeEnds_j1, swashtop_WholeEnds_l1k, swashtop_WholeEnds_p65, swashtop_WholeEnds_p66, swashtop_WholeEnds_p67, swashtop_WholeEnds_p68, swashtop_WholeEnds_p69, swashtop_WholeEnds_p70, swashtop_WholeEnds_p71, swashtop_WholeEnds_p72, swashtop_WholeEnds_p73, swashtop_WholeEnds, swashtop_WholeEnds_kSn, swashtop_WholeEnds_kSx, swashtop_WholeEnds_kSr, swashtop_WholeEnds_kBn, swashtop_WholeEnds_kBx, swashtop_WholeEnds_kBr, swashtop_WholeEnds_kRx, swashtop_WholeEnds_kRr, Nat.reduceBEq, cond_true, cond_false]
theorem swashtop_WholeEnds_j2_eq (k : Nat) (call : Caller) (a0 a11 a12 a13 a14 a15 a65 a66 a67 a79 : Value) (h : Heap) : swashtop_WholeEnds_j2 k call a0 a11 a12 a13 a14 a15 a65 a66 a67 a79 h =
 (binR Prog .lss 3 a15 (.int .i64 0) h).bindN fun v143 h144 =>
 ((bif wantVal v143 false then Res.ok a15 h144 else Res.ok undef h144)).bindN fun v145 h146 =>
 ((bif wantVal v143 false then Res.ok a0 h146 else Res.ok undef h146)).bindN fun v147 h148 =>
 ((bif wantVal v143 false then builtinV Prog .len [27] [v147] h148 else Res.ok undef h148)).bindN fun v149 h150 =>
 ((bif wantVal v143 false then binR Prog .geq 3 v145 v149 h150 else Res.ok undef h150)).bindN fun v151 h152 =>
 (condV (some v143) (Res.ok (.bool true) h152) (Res.ok v151 h152)).bindN fun v153 h154 =>
 ((bif wantVal v153 false then fieldAddrR Prog 115 a14 1 h154 else Res.ok undef h154)).bindN fun v155 h156 =>
 ((bif wantVal v153 false then loadR Prog 3 v155 h156 else Res.ok undef h156)).bindN fun v157 h158 =>
 ((bif wantVal v153 false then Res.ok a15 h158 else Res.ok undef h158)).bindN fun v159 h160 =>
 ((bif wantVal v153 false then binR Prog .neq 3 v157 v159 h160 else Res.ok undef h160)).bindN fun v161 h162 =>
 (condV (some v153) (Res.ok (.bool true) h162) (Res.ok v161 h162)).bindN fun v163 h164 =>
 ((bif wantVal v163 false then fieldAddrR Prog 115 a14 0 h164 else Res.ok undef h164)).bindN fun v165 h166 =>
 ((bif wantVal v163 false then loadR Prog 3 v165 h166 else Res.ok undef h166)).bindN fun v167 h168 =>
 ((bif wantVal v163 false then Res.ok a0 h168 else Res.ok undef h168)).bindN fun v169 h170 =>
 ((bif wantVal v163 false then Res.ok a15 h170 else Res.ok undef h170)).bindN fun v171 h172 =>
 ((bif wantVal v163 false then indexAddrR Prog 27 v169 v171 h172 else Res.ok undef h172)).bindN fun v173 h174 =>
 ((bif wantVal v163 false then loadR Prog 3 v173 h174 else Res.ok undef h174)).bindN fun v175 h176 =>
 ((bif wantVal v163 false then binR Prog .neq 3 v167 v175 h176 else Res.ok undef h176)).bindN fun v177 h178 =>
 (condV (some v163) (Res.ok (.bool true) h178) (Res.ok v177 h178)).bindN fun v179 h180 =>
 condV (some v179) (
 .ok (.ret, [(4, (.bool false))]) h180)
 (
 (binR Prog .add 3 a67 (.int .i64 1) h180).bind fun v181 h182 =>
 .ok (.normal, [(0, a0), (11, a11), (12, a12), (65, a65), (66, a66), (67, v181)]) h182) := by simp only [swashtop_WholeEnds_j2, swashtop_WholeEnds_j1, swashtop_WholeEnds_l1k, swashtop_WholeEnds_p74, swashtop_WholeEnds_p75, swashtop_WholeEnds_p76, swashtop_WholeEnds_p77, swashtop_WholeEnds_p78, swashtop_WholeEnds_p79, swashtop_WholeEnds_p80, swashtop_WholeEnds_p81, swashtop_WholeEnds_p82, swashtop_WholeEnds, swashtop_WholeEnds_kSn, swashtop_WholeEnds_kSx, swashtop_WholeEnds_kSr, swashtop_WholeEnds_kBn, swashtop_WholeEnds_kBx, swashtop_WholeEnds_kBr, swashtop_WholeEnds_kRx, swashtop_WholeEnds_kRr, Nat.reduceBEq, cond_true, cond_false]
theorem swashtop_WholeEnds_l1k_x0 (k : Nat) (call : Caller) (a0 a11 a12 a65 a66 a67 a68 : Value) (h : Heap) : swashtop_WholeEnds_l1k k call (.exit 0) [(0, a0), (11, a11), (12, a12), (65, a65), (66, a66), (67, a67), (68, a68)] h =
 .ok (.bool true) h := by simp only [swashtop_WholeEnds_j2, swashtop_WholeEnds_j1, swashtop_WholeEnds_l1k, swashtop_WholeEnds_p83, swashtop_WholeEnds_p84, swashtop_WholeEnds_p85, swashtop_WholeEnds_p86, swashtop_WholeEnds, swashtop_WholeEnds_kSn, swashtop_WholeEnds_kSx, swashtop_WholeEnds_kSr, swashtop_WholeEnds_kBn, swashtop_WholeEnds_kBx, swashtop_WholeEnds_kBr, swashtop_WholeEnds_kRx, swashtop_WholeEnds_kRr, Nat.reduceBEq, cond_true, cond_false]
end
end Go.Sw
end
section
namespace Go.Sw
open Go.RowKit
theorem slBlk {α : Type} {enc : α → List Value} {H : Heap} {m b : Nat} {k : Blk} (l : List α) (hg : H.get b = some k) (hk : k.cells = rows enc l) (he : ∀ x, (enc x).length = m) : Sl H m (.slice (some ⟨b, 0, none⟩) l.length l.length) enc l :=
 .inr (.inr ⟨b, 0, _, _, rfl, Nat.le_refl _, hg, by rw [List.drop_zero, hk, List.take_of_length_le (by rw [rows_length he]; exact Nat.le_refl _)]⟩)
set_option maxHeartbeats 2000000 in
theorem WholeEnds_run (ids : List Int) (hil : ids.length < 2 ^ 63) (u : Int) (hu : 0 ≤ u ∧ u < 256) : R (T 0) F.swashtop_WholeEnds [lv encI ids, .int .u8 u] Heap.empty = .ok (.bool true) Heap.empty := by
 generalize hk : (0 : Nat) = k
 have hW : ownW k = .fz := by subst hk; rfl
 have hk6 : k < 1000000 := by subst hk; decide
 clear hk
 rw [swashtop_WholeEnds_R]
 generalize Heap.empty = H
 obtain ⟨v, hv⟩ : ∃ v, v = u % 16 := ⟨_, rfl⟩
 have hvb : 0 ≤ v ∧ v < 16 := by omega
 have q3 := fun H => bin_rem Prog 3 H .i64 u 16 (by decide)
 rw [Int.tmod_eq_emod_of_nonneg hu.1, ← hv] at q3
 have g := ((((Star.nil H).push ⟨[.int .u8 2, .int .u8 1, .int .u8 1, .int .u8 1], 1, false⟩).push ⟨[.int .u8 2, .int .u8 0, .int .u8 0, .int .u8 0], 1, false⟩).push ⟨[.slice (some ⟨H.n, 0, none⟩) 4 4, .slice (some ⟨H.n + 1, 0, none⟩) 4 4], 1, false⟩).push ⟨[.int .i64 1, .int .i64 8192, .int .i64 0, .int .i64 0, .int .i64 1, .int .i64 40960, .int .i64 0, .int .i64 0, .int .i64 1, .int .i64 v, .int .i64 0, .int .i64 0], 4, false⟩
 have g := g.push ⟨[.slice none 0 0, .slice (some ⟨H.n + 2, 0, none⟩) 2 2, .slice (some ⟨H.n + 3, 0, none⟩) 3 3, .int .u8 0], 1, false⟩
 simp only [List.nil_append, List.cons_append, hn_push] at g
 generalize hH6 : ((((H.push ⟨[.int .u8 2, .int .u8 1, .int .u8 1, .int .u8 1], 1, false⟩).push ⟨[.int .u8 2, .int .u8 0, .int .u8 0, .int .u8 0], 1, false⟩).push ⟨[.slice (some ⟨H.n, 0, none⟩) 4 4, .slice (some ⟨H.n + 1, 0, none⟩) 4 4], 1, false⟩).push ⟨[.int .i64 1, .int .i64 8192, .int .i64 0, .int .i64 0, .int .i64 1, .int .i64 40960, .int .i64 0, .int .i64 0, .int .i64 1, .int .i64 v, .int .i64 0, .int .i64 0], 4, false⟩).push ⟨[.slice none 0 0, .slice (some ⟨H.n + 2, 0, none⟩) 2 2, .slice (some ⟨H.n + 3, 0, none⟩) 3 3, .int .u8 0], 1, false⟩ = H6 at g
 have b4 := g.get 4 rfl
 have s0 := slBlk (enc := encB) (m := 1) ([2, 1, 1, 1] : List Int) (g.get 0 rfl) rfl encB_len
 have s1 := slBlk (enc := encB) (m := 1) ([2, 0, 0, 0] : List Int) (g.get 1 rfl) rfl encB_len
 have s2 := slBlk (enc := encU) (m := 1) ([([2, 1, 1, 1], .slice (some ⟨H.n, 0, none⟩) 4 4), ([2, 0, 0, 0], .slice (some ⟨H.n + 1, 0, none⟩) 4 4)] : List (List Int × Value)) (g.get 2 rfl) rfl encU_len
 have s3 := slBlk (enc := encEn) (m := 4) ([⟨1, 8192, 0, 0⟩, ⟨1, 40960, 0, 0⟩, ⟨1, v, 0, 0⟩] : List En) (g.get 3 rfl) rfl encEn_len
 have hP : PlanSl H6 (endsPlan v) (.slice none 0 0) (.slice (some ⟨H.n + 2, 0, none⟩) 2 2) (.slice (some ⟨H.n + 3, 0, none⟩) 3 3) [([2, 1, 1, 1], .slice (some ⟨H.n, 0, none⟩) 4 4), ([2, 0, 0, 0], .slice (some ⟨H.n + 1, 0, none⟩) 4 4)] :=
  ⟨Sl.nil _ _, rfl, fun x hx => by
   have hx : x = ([2, 1, 1, 1], .slice (some ⟨H.n, 0, none⟩) 4 4) ∨ x = ([2, 0, 0, 0], .slice (some ⟨H.n + 1, 0, none⟩) 4 4) := by simpa using hx
   rcases hx with rfl | rfl
   ·exact s0
   ·exact s1, s2, s3⟩
 have hw := Write_anyG k hW (endsPlan v) (endsPlan_ok v) 0 (by omega) 0 (by omega) (by simp [endsPlan]) (by simp [endsPlan]) (by simp [endsPlan]) hP
 rw [planBytes_room] at hw
 have hcb : Byt (planRoom (endsPlan v) 0 (List.replicate 0 0)) := planRoom_byt (endsPlan_ok v) 0 (rep_byt 0)
 have hcl := planRoom_len (endsPlan_ok v) 0 (rm := List.replicate 0 0) (by simp) (by simp [endsPlan]) (by simp [endsPlan]) (by simp [endsPlan])
 obtain ⟨m, hm, hr⟩ := ends_mach hvb (List.replicate 0 0) [] (by simp) 40
 rw [List.append_nil] at hm
 have hw : R (T k) F.swashlaw07_Write [.agg #[.slice none 0 0, .slice (some ⟨H.n + 2, 0, none⟩) 2 2, .slice (some ⟨H.n + 3, 0, none⟩) 3 3, .int .u8 0], .int .i64 0, .int .i64 0] H6 = .ok (lv encB (planRoom (endsPlan v) 0 (List.replicate 0 0))) H6 := hw
 generalize planRoom (endsPlan v) 0 (List.replicate 0 0) = b at hw hcb hcl hm
 have hok := machS_ok hcb (by omega) (by omega) (by omega) hm
 have hrd := fun H' => rearRead_run k b hcb 40 (by omega) (by omega) H'
 rw [hm] at hrd
 simp only [rearP, Option.isSome_some, if_true] at hrd
 by_cases c2 : ids.length > 60
 ·have c2' : (ids.length : Int) > 60 := by omega
  refine nrm_gc ⟨H6, ?_, g.ext⟩ (.bool _)
  simp -implicitDefEqProofs (disch := omega) [swashtop_WholeEnds, q3, hH6, b4, hw, hrd, c2']
 have c2' : ¬ (ids.length : Int) > 60 := by omega
 obtain ⟨c, o, H7, e7, g⟩ := lineNew_star k g ids (by omega)
 simp only [List.nil_append, List.cons_append] at g
 have hord := fun H' => verbOrder_run k v (ids.length : Int) (by omega) (by omega) H'
 obtain ⟨H8, e8, g, hlen⟩ := rearRun_star k m hok g 5 rfl (by simp; omega)
 simp only [List.set_cons_zero, List.set_cons_succ] at g
 have hres := ends_run hvb hr hok (newG ids)
 rw [newG_len] at hres hlen
 have hget := fun (o : List Int) (ho : orderS v (ids.length : Int) = some o) i w hw => ends_get ids ho (i := i) (w := w) hw
 have hL : (runR m (newG ids)).1 = (match orderS v (ids.length : Int) with | some o => (orderG (newG ids) 0 o).getD (newG ids) | none => newG ids) := by rw [hres]; cases orderS v (ids.length : Int) <;> rfl
 have hN : (runR m (newG ids)).2 = 0 := by rw [hres]
 rw [hN] at e8
 generalize (runR m (newG ids)).1 = L at g hlen hL
 have gl := lineGlyphs_run k hk6 g 5 rfl (by omega)
 have hln := lineLen_run k g 5 rfl
 rw [hlen] at hln
 obtain ⟨xx, e', H9, hr9, rfl, ⟨a, rfl⟩, hx9⟩ := loop_up (body := swashtop_WholeEnds_l1 k (R (T k))) ids.length
  (fun j e H' => e = [(0, lv encI ids), (11, lv encI ((orderS v (ids.length : Int)).getD [])), (12, .bool (orderS v (ids.length : Int)).isSome), (65, lv encG L), (66, .int .i64 ids.length), (67, .int .i64 j)] ∧ Ext H8 H')
  (fun xx e H' => xx = .exit 0 ∧ (∃ a, e = [(0, lv encI ids), (11, lv encI ((orderS v (ids.length : Int)).getD [])), (12, .bool (orderS v (ids.length : Int)).isSome), (65, lv encG L), (66, .int .i64 ids.length), (67, a), (68, .bool false)]) ∧ Ext H8 H')
  (e0 := [(0, lv encI ids), (11, lv encI ((orderS v (ids.length : Int)).getD [])), (12, .bool (orderS v (ids.length : Int)).isSome), (65, lv encG L), (66, .int .i64 ids.length), (67, .int .i64 0)]) (H0 := H8) ⟨rfl, Ext.refl _⟩ (by omega)
  (fun j e H' hj ⟨he, hx⟩ => by
   subst he
   have hlt : (j : Int) < ids.length := by omega
   cases ho : orderS v (ids.length : Int) with
   | none =>
    rw [ho] at hL
    dsimp only at hL
    obtain ⟨x, hxj⟩ : ∃ x, ids[j]? = some x := ⟨_, List.getElem?_eq_getElem hj⟩
    have hg : L[j]? = some ⟨x, (j : Int)⟩ := by
     rw [hL]
     unfold newG
     rw [List.getElem?_map, List.getElem?_zipIdx, hxj]
     simp
    have i1 := fun H' => ixS_lvN encG_len L .i64 j _ hg H'
    have i2 := fun H' => ixS_lvN encI_len ids .i64 j x hxj H'
    have u1 : ¬ (j : Int) ≥ ids.length := by omega
    have u0 : ¬ (j : Int) < 0 := by omega
    have u0' : (decide ((j : Int) < 0)) = false := decide_eq_false u0
    refine .inl ⟨_, H'.push ⟨[.int .i64 x, .int .i64 (j : Int)], 1, false⟩, ?_, rfl, hx.push _⟩
    rw [swashtop_WholeEnds_l1_eq]
    simp -implicitDefEqProofs (disch := omega) [hlt, i1, i2, u0, u0', u1, swashtop_WholeEnds_j2_eq]
   | some o =>
    rw [ho] at hL
    dsimp only at hL
    have hol := (order_ok ho).2.1
    obtain ⟨w, hw⟩ : ∃ w, o[j]? = some w := ⟨_, List.getElem?_eq_getElem (by omega)⟩
    obtain ⟨x, w0, w1, hxw, hg⟩ := hget o ho j w hw
    rw [← hL] at hg
    obtain ⟨w, rfl⟩ := Int.eq_ofNat_of_zero_le w0
    rw [Int.toNat_natCast] at hxw
    have i1 := fun H' => ixS_lvN encG_len L .i64 j _ hg H'
    have i2 := fun H' => ixS_lvN encI_len ids .i64 w x hxw H'
    have i3 := fun H' => ixS_lvN encI_len o .i64 j _ hw H'
    have u1 : ¬ (w : Int) ≥ ids.length := by omega
    have u0 : ¬ (w : Int) < 0 := by omega
    have u0' : (decide ((w : Int) < 0)) = false := decide_eq_false u0
    have u2 : (j : Int) < o.length := by omega
    refine .inl ⟨_, H'.push ⟨[.int .i64 x, .int .i64 (w : Int)], 1, false⟩, ?_, rfl, hx.push _⟩
    rw [swashtop_WholeEnds_l1_eq]
    simp -implicitDefEqProofs (disch := omega) [hlt, i1, u2, i3, i2, u0, u0', u1, swashtop_WholeEnds_j1_eq])
  (fun e H' ⟨he, hx⟩ => by
   subst he
   refine ⟨.exit 0, _, H', ?_, by simp, rfl, ⟨.int .i64 ids.length, rfl⟩, hx⟩
   rw [swashtop_WholeEnds_l1_eq]
   simp -implicitDefEqProofs)
 refine nrm_gc ⟨H9, ?_, (g.rest hx9).ext⟩ (.bool _)
 simp -implicitDefEqProofs (disch := omega) [swashtop_WholeEnds, q3, hH6, b4, hw, hrd, c2', e7, hord, e8, hln, gl, hlen, hr9, swashtop_WholeEnds_l1k_x0]
theorem WholeEnds_args (vs : List Value) (h : ArgsLay [.one (.slice [.int .i64]), .one (.int .u8)] vs) : ∃ H', R (T 0) F.swashtop_WholeEnds vs Heap.empty = .ok (.bool true) H' := by
 obtain ⟨v1, _, rfl, h1, h⟩ := h.head
 obtain ⟨v2, _, rfl, h2, h⟩ := h.head
 obtain rfl := h.done
 obtain ⟨u, rfl, w⟩ := arg_i h2
 obtain ⟨d, h1⟩ := h1.cell
 obtain ⟨ids, rfl, hn, _⟩ := Lay.listN (enc := encI) (ok := fun n => (Lit.int .i64 n).wf = true) (fun r cs h => row_I h) h1
 exact ⟨_, WholeEnds_run ids hn u (wf_u8 w)⟩
end Go.Sw
end
section
namespace Go.Sw
open Go.RowKit
theorem names_ok : NamesOk Prog := NamesOk.of (by kernel_rfl)
theorem mixed_ok : Prog.follows .mixedOrders = true := Checked.mixed Go.Proofs.Try.checked
theorem laid_ok : laidOutB Prog = true := by kernel_rfl
theorem cloneP_is : SpIs Prog F.slices_Clone_of_api_Place_api_Place fun _ args H => cloneV 3 12 args H :=
 clone_is (c := { P := Prog, kp := kpS, sp := fun _ => none }) names_ok mixed_ok (t := 70) (e := 91) (by kernel_rfl) fun call a H => (slices_Clone_of_api_Place_api_Place_body 0 _ call a H).trans (by
  unfold slices_Clone_of_api_Place_api_Place cloneF
  simp only [be_70_0, ap_70, beR_bare])
theorem cloneG_is : SpIs Prog F.slices_Clone_of_api_Glyph_api_Glyph fun _ args H => cloneV 2 16 args H :=
 clone_is (c := { P := Prog, kp := kpS, sp := fun _ => none }) names_ok mixed_ok (t := 48) (e := 115) (by kernel_rfl) fun call a H => (slices_Clone_of_api_Glyph_api_Glyph_body 0 _ call a H).trans (by
  unfold slices_Clone_of_api_Glyph_api_Glyph cloneF
  simp only [be_48_0, ap_48, beR_bare])
theorem cloneR_is : SpIs Prog F.slices_Clone_of_sfnt_Part_sfnt_Part fun _ args H => cloneV 2 40 args H :=
 clone_is (c := { P := Prog, kp := kpS, sp := fun _ => none }) names_ok mixed_ok (t := 167) (e := 165) (by kernel_rfl) fun call a H => (slices_Clone_of_sfnt_Part_sfnt_Part_body 0 _ call a H).trans (by
  unfold slices_Clone_of_sfnt_Part_sfnt_Part cloneF
  simp only [be_167_0, ap_167, beR_bare])
theorem more_is (f : FuncId) (s : Sp) (h : moreS f = some s) : SpIs Prog f s := by
 unfold moreS at h
 cases h0 : Nat.beq f 35 with
 | true => have := Nat.eq_of_beq_eq_true h0; subst this; rw [h0, cond_true] at h; injection h with h; subst h; exact try_is
 | false =>
 rw [h0, cond_false] at h
 cases h1 : Nat.beq f 104 with
 | true => have := Nat.eq_of_beq_eq_true h1; subst this; rw [h1, cond_true] at h; injection h with h; subst h; exact cloneG_is
 | false =>
 rw [h1, cond_false] at h
 cases h2 : Nat.beq f 118 with
 | true => have := Nat.eq_of_beq_eq_true h2; subst this; rw [h2, cond_true] at h; injection h with h; subst h; exact cloneP_is
 | false =>
 rw [h2, cond_false] at h
 cases h3 : Nat.beq f 159 with
 | true => have := Nat.eq_of_beq_eq_true h3; subst this; rw [h3, cond_true] at h; injection h with h; subst h; exact cloneR_is
 | false =>
 rw [h3, cond_false] at h
 cases h4 : Nat.beq f 244 with
 | true => rw [h4, cond_true] at h; injection h with h; subst h; exact SpIs.stuck _ _
 | false =>
 rw [h4, cond_false] at h
 cases h
theorem T_prog (k : Nat) : (T k).c.P = Prog := by unfold T C; rfl
theorem told0 {k : Nat} (hk : oneOf (k % 1000000) speaksT = false) : SpOk (T k).c := by
 have h1 : SpOk (C k) := by
  unfold C
  exact SpOk.none (P := Prog) (kp := kpS) (speaks := speaksT) (more := moreS) (k := k % 1000000) hk more_is
 exact h1
end Go.Sw
end
