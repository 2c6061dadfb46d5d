/-
  Functions' forms, and what is proved of them, part 2.
-/
import Derived.Test.YtanfippcmdialaaSwCfg
import Derived.Test.YtanfippcmdialaaSwW1
import Derived.Test.YtanfippcmdialaaSwLib8
set_option linter.unusedSimpArgs false
set_option linter.unusedVariables false
set_option linter.unusedSectionVars false
section
set_option maxRecDepth 100000
set_option linter.unusedVariables false
namespace Go.Sw
noncomputable section
def swashref11_Same_l1 (k : Nat) (call : Caller) : Env → Heap → Res (AExit × Env) := loopB (C k) call F.swashref11_Same [1, 1, 0, 1, 0, 0]
def swashref11_Same_l1k (k : Nat) (call : Caller) : Kont Value := kBlock 0 (kSeq (pieceK (C k) call F.swashref11_Same [1, 1, 1]) (kDone Prog (resOf Prog F.swashref11_Same)))
def swashref11_Same (k : Nat) (call : Caller) (a0 a1 : Value) (h : Heap) : Res Value :=
 (builtinV Prog .len [22] [a0] h).bind fun v1 h2 =>
 (builtinV Prog .len [22] [a1] h2).bind fun v3 h4 =>
 (binR Prog .neq 3 v1 v3 h4).bind fun v5 h6 =>
 condV (some v5) (
 .ok (.bool false) h6)
 (
 (loopN (swashref11_Same_l1 k call) loopFuel [(0, a0), (1, a1), (5, (.int .i64 0))] h6).bind fun r7 h8 =>
 swashref11_Same_l1k k call r7.1 r7.2 h8)
theorem swashref11_Same_R (k : Nat) (a0 a1 : Value) (h : Heap) : R (T k) F.swashref11_Same [a0, a1] h = nrm .fz h (swashref11_Same k (R (T k)) a0 a1 h) :=
 (R_body (t := T k) (T_scott k) (by kernel_rfl) (by kernel_rfl) _ _).trans (by kernel_rfl)
theorem swashref11_Same_l1_eq (k : Nat) (call : Caller) (a0 a1 a5 : Value) (h : Heap) : swashref11_Same_l1 k call [(0, a0), (1, a1), (5, a5)] h =
 (builtinV Prog .len [22] [a0] h).bind fun v9 h10 =>
 (binR Prog .lss 3 a5 v9 h10).bind fun v11 h12 =>
 condV (some v11) (
 (indexAddrR Prog 22 a0 a5 h12).bindN fun v13 h14 =>
 (loadR Prog 57 v13 h14).bindN fun v15 h16 =>
 (indexAddrR Prog 22 a1 a5 h16).bindN fun v17 h18 =>
 (loadR Prog 57 v17 h18).bindN fun v19 h20 =>
 (binR Prog .neq 57 v15 v19 h20).bindN fun v21 h22 =>
 condV (some v21) (
 .ok (.ret, [(4, (.bool false))]) h22)
 (
 (binR Prog .add 3 a5 (.int .i64 1) h22).bind fun v23 h24 =>
 .ok (.normal, [(0, a0), (1, a1), (5, v23)]) h24))
 (
 .ok ((.exit 0), [(0, a0), (1, a1), (5, a5), (14, v11)]) h12) :=
 (loopB_eq _ _).trans (by kernel_rfl)
theorem swashref11_Same_l1k_r (k : Nat) (call : Caller) (a4 : Value) (h : Heap) : swashref11_Same_l1k k call .ret [(4, a4)] h =
 .ok a4 h := by kernel_rfl
theorem swashref11_Same_l1k_x0 (k : Nat) (call : Caller) (a0 a1 a5 a14 : Value) (h : Heap) : swashref11_Same_l1k k call (.exit 0) [(0, a0), (1, a1), (5, a5), (14, a14)] h =
 .ok (.bool true) h := by kernel_rfl
def swashref11_New_l1 (k : Nat) (call : Caller) : Env → Heap → Res (AExit × Env) := loopB (C k) call F.swashref11_New [1, 1, 0, 1, 0, 0]
def swashref11_New_l1k (k : Nat) (call : Caller) : Kont Value := kBlock 0 (kSeq (pieceK (C k) call F.swashref11_New [1, 1, 1]) (kDone Prog (resOf Prog F.swashref11_New)))
def swashref11_New (k : Nat) (call : Caller) (a0 : Value) (h : Heap) : Res Value :=
 (buildSliceR Prog 22 0 [] h).bind fun v1 h2 =>
 (loopN (swashref11_New_l1 k call) loopFuel [(0, a0), (3, v1), (4, (.int .i64 0))] h2).bind fun r3 h4 =>
 swashref11_New_l1k k call r3.1 r3.2 h4
theorem swashref11_New_R (k : Nat) (a0 : Value) (h : Heap) : R (T k) F.swashref11_New [a0] h = nrm .fz h (swashref11_New k (R (T k)) a0 h) :=
 (R_body (t := T k) (T_scott k) (by kernel_rfl) (by kernel_rfl) _ _).trans (by kernel_rfl)
theorem swashref11_New_l1_eq (k : Nat) (call : Caller) (a0 a3 a4 : Value) (h : Heap) : swashref11_New_l1 k call [(0, a0), (3, a3), (4, a4)] h =
 (builtinV Prog .len [23] [a0] h).bind fun v5 h6 =>
 (binR Prog .lss 3 a4 v5 h6).bind fun v7 h8 =>
 condV (some v7) (
 (indexAddrR Prog 23 a0 a4 h8).bind fun v9 h10 =>
 (loadR Prog 3 v9 h10).bind fun v11 h12 =>
 (buildR Prog 57 [(0, v11), (1, a4)] h12).bind fun v13 h14 =>
 (buildSliceR Prog 22 1 [(0, v13)] h14).bind fun v15 h16 =>
 (builtinV Prog .append [22, 22] [a3, v15] h16).bind fun v17 h18 =>
 (binR Prog .add 3 a4 (.int .i64 1) h18).bind fun v19 h20 =>
 .ok (.normal, [(0, a0), (3, v17), (4, v19)]) h20)
 (
 .ok ((.exit 0), [(0, a0), (3, a3), (4, a4), (9, v7)]) h8) :=
 (loopB_eq _ _).trans (by kernel_rfl)
theorem swashref11_New_l1k_x0 (k : Nat) (call : Caller) (a0 a3 a4 a9 : Value) (h : Heap) : swashref11_New_l1k k call (.exit 0) [(0, a0), (3, a3), (4, a4), (9, a9)] h =
 .ok a3 h := by kernel_rfl
def swashref11_Set (k : Nat) (call : Caller) (a0 a1 a2 : Value) (h : Heap) : Res Value :=
 (binR Prog .lss 3 a1 (.int .i64 0) h).bind fun v1 h2 =>
 ((bif wantVal v1 false then Res.ok a1 h2 else Res.ok undef h2)).bind fun v3 h4 =>
 ((bif wantVal v1 false then Res.ok a0 h4 else Res.ok undef h4)).bind fun v5 h6 =>
 ((bif wantVal v1 false then builtinV Prog .len [22] [v5] h6 else Res.ok undef h6)).bind fun v7 h8 =>
 ((bif wantVal v1 false then binR Prog .geq 3 v3 v7 h8 else Res.ok undef h8)).bind fun v9 h10 =>
 (condV (some v1) (Res.ok (.bool true) h10) (Res.ok v9 h10)).bind fun v11 h12 =>
 condV (some v11) (
 .ok (.tuple #[a0, (.bool false)]) h12)
 (
 (buildSliceR Prog 22 0 [] h12).bind fun v13 h14 =>
 (builtinV Prog .append [22, 22] [v13, a0] h14).bind fun v15 h16 =>
 (indexAddrR Prog 22 v15 a1 h16).bind fun v17 h18 =>
 (fieldAddrR Prog 57 v17 0 h18).bind fun v19 h20 =>
 (storeR Prog 3 v19 a2 h20).bind fun _v21 h22 =>
 .ok (.tuple #[v15, (.bool true)]) h22)
theorem swashref11_Set_R (k : Nat) (a0 a1 a2 : Value) (h : Heap) : R (T k) F.swashref11_Set [a0, a1, a2] h = nrm .fz h (swashref11_Set k (R (T k)) a0 a1 a2 h) :=
 (R_body (t := T k) (T_scott k) (by kernel_rfl) (by kernel_rfl) _ _).trans (by kernel_rfl)
def swashref11_Insert_j1 (k : Nat) (call : Caller) (a0 a1 a2 a8 : Value) (h : Heap) : Res Value :=
 kSeq (pieceK (C k) call F.swashref11_Insert [1, 1, 1, 1]) (kDone Prog (resOf Prog F.swashref11_Insert)) .normal [(0, a0), (1, a1), (2, a2), (8, a8)] h
def swashref11_Insert_j2 (k : Nat) (call : Caller) (a0 a1 a2 a8 a30 : Value) (h : Heap) : Res Value :=
 kSeq (pieceK (C k) call F.swashref11_Insert [1, 1, 1, 1]) (kDone Prog (resOf Prog F.swashref11_Insert)) .normal [(0, a0), (1, a1), (2, a2), (8, a8), (30, a30)] h
def swashref11_Insert_l1 (k : Nat) (call : Caller) : Env → Heap → Res (AExit × Env) := loopB (C k) call F.swashref11_Insert [1, 1, 1, 1, 1, 0, 1, 0, 0]
def swashref11_Insert_l1k (k : Nat) (call : Caller) : Kont Value := kBlock 0 (kSeq (pieceK (C k) call F.swashref11_Insert [1, 1, 1, 1, 1, 1]) (kDone Prog (resOf Prog F.swashref11_Insert)))
def swashref11_Insert (k : Nat) (call : Caller) (a0 a1 a2 : Value) (h : Heap) : Res Value :=
 (binR Prog .lss 3 a1 (.int .i64 0) h).bind fun v1 h2 =>
 ((bif wantVal v1 false then Res.ok a1 h2 else Res.ok undef h2)).bind fun v3 h4 =>
 ((bif wantVal v1 false then Res.ok a0 h4 else Res.ok undef h4)).bind fun v5 h6 =>
 ((bif wantVal v1 false then builtinV Prog .len [22] [v5] h6 else Res.ok undef h6)).bind fun v7 h8 =>
 ((bif wantVal v1 false then binR Prog .gtr 3 v3 v7 h8 else Res.ok undef h8)).bind fun v9 h10 =>
 (condV (some v1) (Res.ok (.bool true) h10) (Res.ok v9 h10)).bind fun v11 h12 =>
 condV (some v11) (
 .ok (.tuple #[a0, (.bool false)]) h12)
 (
 (builtinV Prog .len [22] [a0] h12).bind fun v13 h14 =>
 (binR Prog .lss 3 a1 v13 h14).bind fun v15 h16 =>
 condV (some v15) (
 (indexAddrR Prog 22 a0 a1 h16).bind fun v17 h18 =>
 (fieldAddrR Prog 57 v17 1 h18).bind fun v19 h20 =>
 (loadR Prog 3 v19 h20).bind fun v21 h22 =>
 swashref11_Insert_j1 k call a0 a1 a2 v21 h22)
 (
 (binR Prog .gtr 3 a1 (.int .i64 0) h16).bind fun v23 h24 =>
 condV (some v23) (
 (binR Prog .sub 3 a1 (.int .i64 1) h24).bind fun v25 h26 =>
 (indexAddrR Prog 22 a0 v25 h26).bind fun v27 h28 =>
 (fieldAddrR Prog 57 v27 1 h28).bind fun v29 h30 =>
 (loadR Prog 3 v29 h30).bind fun v31 h32 =>
 swashref11_Insert_j1 k call a0 a1 a2 v31 h32)
 (
 swashref11_Insert_j2 k call a0 a1 a2 (.int .i64 0) v23 h24)))
theorem swashref11_Insert_R (k : Nat) (a0 a1 a2 : Value) (h : Heap) : R (T k) F.swashref11_Insert [a0, a1, a2] h = nrm .fz h (swashref11_Insert k (R (T k)) a0 a1 a2 h) :=
 (R_body (t := T k) (T_scott k) (by kernel_rfl) (by kernel_rfl) _ _).trans (by kernel_rfl)
theorem swashref11_Insert_j1_eq (k : Nat) (call : Caller) (a0 a1 a2 a8 : Value) (h : Heap) : swashref11_Insert_j1 k call a0 a1 a2 a8 h =
 (buildSliceR Prog 22 0 [] h).bind fun v33 h34 =>
 (sliceR Prog 22 a0 none (some a1) none h34).bind fun v35 h36 =>
 (builtinV Prog .append [22, 22] [v33, v35] h36).bind fun v37 h38 =>
 (loopN (swashref11_Insert_l1 k call) loopFuel [(0, a0), (1, a1), (2, a2), (8, a8), (9, v37), (10, (.int .i64 0))] h38).bind fun r39 h40 =>
 swashref11_Insert_l1k k call r39.1 r39.2 h40 := by kernel_rfl
theorem swashref11_Insert_j2_eq (k : Nat) (call : Caller) (a0 a1 a2 a8 a30 : Value) (h : Heap) : swashref11_Insert_j2 k call a0 a1 a2 a8 a30 h =
 (buildSliceR Prog 22 0 [] h).bind fun v41 h42 =>
 (sliceR Prog 22 a0 none (some a1) none h42).bind fun v43 h44 =>
 (builtinV Prog .append [22, 22] [v41, v43] h44).bind fun v45 h46 =>
 (loopN (swashref11_Insert_l1 k call) loopFuel [(0, a0), (1, a1), (2, a2), (8, a8), (9, v45), (10, (.int .i64 0))] h46).bind fun r47 h48 =>
 swashref11_Insert_l1k k call r47.1 r47.2 h48 := by kernel_rfl
theorem swashref11_Insert_l1_eq (k : Nat) (call : Caller) (a0 a1 a2 a8 a9 a10 : Value) (h : Heap) : swashref11_Insert_l1 k call [(0, a0), (1, a1), (2, a2), (8, a8), (9, a9), (10, a10)] h =
 (builtinV Prog .len [23] [a2] h).bind fun v49 h50 =>
 (binR Prog .lss 3 a10 v49 h50).bind fun v51 h52 =>
 condV (some v51) (
 (indexAddrR Prog 23 a2 a10 h52).bind fun v53 h54 =>
 (loadR Prog 3 v53 h54).bind fun v55 h56 =>
 (buildR Prog 57 [(0, v55), (1, a8)] h56).bind fun v57 h58 =>
 (buildSliceR Prog 22 1 [(0, v57)] h58).bind fun v59 h60 =>
 (builtinV Prog .append [22, 22] [a9, v59] h60).bind fun v61 h62 =>
 (binR Prog .add 3 a10 (.int .i64 1) h62).bind fun v63 h64 =>
 .ok (.normal, [(0, a0), (1, a1), (2, a2), (8, a8), (9, v61), (10, v63)]) h64)
 (
 .ok ((.exit 0), [(0, a0), (1, a1), (2, a2), (8, a8), (9, a9), (10, a10), (45, v51)]) h52) :=
 (loopB_eq _ _).trans (by kernel_rfl)
theorem swashref11_Insert_l1k_x0 (k : Nat) (call : Caller) (a0 a1 a2 a8 a9 a10 a45 : Value) (h : Heap) : swashref11_Insert_l1k k call (.exit 0) [(0, a0), (1, a1), (2, a2), (8, a8), (9, a9), (10, a10), (45, a45)] h =
 (sliceR Prog 22 a0 (some a1) none none h).bind fun v65 h66 =>
 (builtinV Prog .append [22, 22] [a9, v65] h66).bind fun v67 h68 =>
 .ok (.tuple #[v67, (.bool true)]) h68 := by kernel_rfl
def swashref11_Order_l1 (k : Nat) (call : Caller) : Env → Heap → Res (AExit × Env) := loopB (C k) call F.swashref11_Order [1, 1, 1, 1, 0, 1, 0, 0]
def swashref11_Order_l1k (k : Nat) (call : Caller) : Kont Value := kBlock 0 (kSeq (pieceK (C k) call F.swashref11_Order [1, 1, 1, 1, 1]) (kDone Prog (resOf Prog F.swashref11_Order)))
def swashref11_Order_l2 (k : Nat) (call : Caller) : Env → Heap → Res (AExit × Env) := loopB (C k) call F.swashref11_Order [1, 1, 1, 1, 0, 1, 0, 0, 1, 0, 0, 1, 0, 1, 0, 0]
def swashref11_Order_l2k (k : Nat) (call : Caller) : Kont (AExit × Env) := kBlock 2 (kSeq (pieceK (C k) call F.swashref11_Order [1, 1, 1, 1, 0, 1, 0, 0, 1, 0, 0, 1, 1]) (kBlock 1 (kSeq (pieceK (C k) call F.swashref11_Order [1, 1, 1, 1, 0, 1, 0, 0, 1, 1]) (kRound (ownOf (C k) F.swashref11_Order [1, 1, 1, 1, 0, 1, 0, 0])))))
def swashref11_Order (k : Nat) (call : Caller) (a0 a1 a2 : Value) (h : Heap) : Res Value :=
 (builtinV Prog .len [23] [a2] h).bind fun v1 h2 =>
 (binR Prog .lss 3 a1 (.int .i64 0) h2).bind fun v3 h4 =>
 ((bif wantVal v3 false then Res.ok a1 h4 else Res.ok undef h4)).bind fun v5 h6 =>
 ((bif wantVal v3 false then Res.ok a0 h6 else Res.ok undef h6)).bind fun v7 h8 =>
 ((bif wantVal v3 false then builtinV Prog .len [22] [v7] h8 else Res.ok undef h8)).bind fun v9 h10 =>
 ((bif wantVal v3 false then binR Prog .gtr 3 v5 v9 h10 else Res.ok undef h10)).bind fun v11 h12 =>
 (condV (some v3) (Res.ok (.bool true) h12) (Res.ok v11 h12)).bind fun v13 h14 =>
 ((bif wantVal v13 false then Res.ok v1 h14 else Res.ok undef h14)).bind fun v15 h16 =>
 ((bif wantVal v13 false then Res.ok a0 h16 else Res.ok undef h16)).bind fun v17 h18 =>
 ((bif wantVal v13 false then builtinV Prog .len [22] [v17] h18 else Res.ok undef h18)).bind fun v19 h20 =>
 ((bif wantVal v13 false then Res.ok a1 h20 else Res.ok undef h20)).bind fun v21 h22 =>
 ((bif wantVal v13 false then binR Prog .sub 3 v19 v21 h22 else Res.ok undef h22)).bind fun v23 h24 =>
 ((bif wantVal v13 false then binR Prog .gtr 3 v15 v23 h24 else Res.ok undef h24)).bind fun v25 h26 =>
 (condV (some v13) (Res.ok (.bool true) h26) (Res.ok v25 h26)).bind fun v27 h28 =>
 condV (some v27) (
 .ok (.tuple #[a0, (.bool false)]) h28)
 (
 (buildSliceR Prog 22 0 [] h28).bind fun v29 h30 =>
 (builtinV Prog .append [22, 22] [v29, a0] h30).bind fun v31 h32 =>
 (loopN (swashref11_Order_l1 k call) loopFuel [(0, a0), (1, a1), (2, a2), (8, v1), (9, v31), (10, (.int .i64 0))] h32).bind fun r33 h34 =>
 swashref11_Order_l1k k call r33.1 r33.2 h34)
theorem swashref11_Order_R (k : Nat) (a0 a1 a2 : Value) (h : Heap) : R (T k) F.swashref11_Order [a0, a1, a2] h = nrm .fz h (swashref11_Order k (R (T k)) a0 a1 a2 h) :=
 (R_body (t := T k) (T_scott k) (by kernel_rfl) (by kernel_rfl) _ _).trans (by kernel_rfl)
theorem swashref11_Order_l1_eq (k : Nat) (call : Caller) (a0 a1 a2 a8 a9 a10 : Value) (h : Heap) : swashref11_Order_l1 k call [(0, a0), (1, a1), (2, a2), (8, a8), (9, a9), (10, a10)] h =
 (binR Prog .lss 3 a10 a8 h).bind fun v35 h36 =>
 condV (some v35) (
 (indexAddrR Prog 23 a2 a10 h36).bind fun v37 h38 =>
 (loadR Prog 3 v37 h38).bind fun v39 h40 =>
 (binR Prog .lss 3 v39 (.int .i64 0) h40).bind fun v41 h42 =>
 ((bif wantVal v41 false then Res.ok a2 h42 else Res.ok undef h42)).bind fun v43 h44 =>
 ((bif wantVal v41 false then Res.ok a10 h44 else Res.ok undef h44)).bind fun v45 h46 =>
 ((bif wantVal v41 false then indexAddrR Prog 23 v43 v45 h46 else Res.ok undef h46)).bind fun v47 h48 =>
 ((bif wantVal v41 false then loadR Prog 3 v47 h48 else Res.ok undef h48)).bind fun v49 h50 =>
 ((bif wantVal v41 false then Res.ok a8 h50 else Res.ok undef h50)).bind fun v51 h52 =>
 ((bif wantVal v41 false then binR Prog .geq 3 v49 v51 h52 else Res.ok undef h52)).bind fun v53 h54 =>
 (condV (some v41) (Res.ok (.bool true) h54) (Res.ok v53 h54)).bind fun v55 h56 =>
 condV (some v55) (
 .ok (.ret, [(6, a0), (7, (.bool false))]) h56)
 (
 (loopN (swashref11_Order_l2 k call) loopFuel [(0, a0), (1, a1), (2, a2), (8, a8), (9, a9), (10, a10), (11, (.int .i64 0))] h56).bind fun r57 h58 =>
 swashref11_Order_l2k k call r57.1 r57.2 h58))
 (
 .ok ((.exit 0), [(0, a0), (1, a1), (2, a2), (8, a8), (9, a9), (10, a10), (36, v35)]) h36) :=
 (loopB_eq _ _).trans (by kernel_rfl)
theorem swashref11_Order_l2_eq (k : Nat) (call : Caller) (a0 a1 a2 a8 a9 a10 a11 : Value) (h : Heap) : swashref11_Order_l2 k call [(0, a0), (1, a1), (2, a2), (8, a8), (9, a9), (10, a10), (11, a11)] h =
 (binR Prog .lss 3 a11 a10 h).bind fun v59 h60 =>
 condV (some v59) (
 (indexAddrR Prog 23 a2 a11 h60).bindN fun v61 h62 =>
 (loadR Prog 3 v61 h62).bindN fun v63 h64 =>
 (indexAddrR Prog 23 a2 a10 h64).bindN fun v65 h66 =>
 (loadR Prog 3 v65 h66).bindN fun v67 h68 =>
 (binR Prog .eql 3 v63 v67 h68).bindN fun v69 h70 =>
 condV (some v69) (
 .ok (.ret, [(6, a0), (7, (.bool false))]) h70)
 (
 (binR Prog .add 3 a11 (.int .i64 1) h70).bind fun v71 h72 =>
 .ok (.normal, [(0, a0), (1, a1), (2, a2), (8, a8), (9, a9), (10, a10), (11, v71)]) h72))
 (
 .ok ((.exit 2), [(0, a0), (1, a1), (2, a2), (8, a8), (9, a9), (10, a10), (11, a11), (55, v59)]) h60) :=
 (loopB_eq _ _).trans (by kernel_rfl)
theorem swashref11_Order_l1k_r (k : Nat) (call : Caller) (a6 a7 : Value) (h : Heap) : swashref11_Order_l1k k call .ret [(6, a6), (7, a7)] h =
 .ok (.tuple #[a6, a7]) h := by kernel_rfl
theorem swashref11_Order_l1k_x0 (k : Nat) (call : Caller) (a0 a1 a2 a8 a9 a10 a36 : Value) (h : Heap) : swashref11_Order_l1k k call (.exit 0) [(0, a0), (1, a1), (2, a2), (8, a8), (9, a9), (10, a10), (36, a36)] h =
 .ok (.tuple #[a9, (.bool true)]) h := by kernel_rfl
theorem swashref11_Order_l2k_r (k : Nat) (call : Caller) (a6 a7 : Value) (h : Heap) : swashref11_Order_l2k k call .ret [(6, a6), (7, a7)] h =
 .ok (.ret, [(6, a6), (7, a7)]) h := by kernel_rfl
theorem swashref11_Order_l2k_x2 (k : Nat) (call : Caller) (a0 a1 a2 a8 a9 a10 a11 a55 : Value) (h : Heap) : swashref11_Order_l2k k call (.exit 2) [(0, a0), (1, a1), (2, a2), (8, a8), (9, a9), (10, a10), (11, a11), (55, a55)] h =
 (binR Prog .add 3 a1 a10 h).bind fun v73 h74 =>
 (indexAddrR Prog 23 a2 a10 h74).bind fun v75 h76 =>
 (loadR Prog 3 v75 h76).bind fun v77 h78 =>
 (binR Prog .add 3 a1 v77 h78).bind fun v79 h80 =>
 (indexAddrR Prog 22 a0 v79 h80).bind fun v81 h82 =>
 (loadR Prog 57 v81 h82).bind fun v83 h84 =>
 (indexAddrR Prog 22 a9 v73 h84).bind fun v85 h86 =>
 (storeR Prog 57 v85 v83 h86).bind fun _v87 h88 =>
 (binR Prog .add 3 a10 (.int .i64 1) h88).bind fun v89 h90 =>
 .ok (.normal, [(0, a0), (1, a1), (2, a2), (8, a8), (9, a9), (10, v89)]) h90 := by kernel_rfl
def swashref11_Join_l1 (k : Nat) (call : Caller) : Env → Heap → Res (AExit × Env) := loopB (C k) call F.swashref11_Join [1, 1, 0, 1, 0, 0]
def swashref11_Join_l1k (k : Nat) (call : Caller) : Kont Value := kBlock 0 (kSeq (pieceK (C k) call F.swashref11_Join [1, 1, 1]) (kDone Prog (resOf Prog F.swashref11_Join)))
def swashref11_Join_j1 (k : Nat) (call : Caller) (a0 a1 a2 a7 a8 : Value) (h : Heap) : Res (AExit × Env) :=
 kSeq (pieceK (C k) call F.swashref11_Join [1, 1, 0, 1, 0, 0, 1, 1]) (kRound (ownOf (C k) F.swashref11_Join [1, 1, 0, 1, 0, 0])) .normal [(0, a0), (1, a1), (2, a2), (7, a7), (8, a8)] h
def swashref11_Join_j2 (k : Nat) (call : Caller) (a0 a1 a2 a7 a8 a9 a53 : Value) (h : Heap) : Res (AExit × Env) :=
 kSeq (pieceK (C k) call F.swashref11_Join [1, 1, 0, 1, 0, 0, 1, 1]) (kRound (ownOf (C k) F.swashref11_Join [1, 1, 0, 1, 0, 0])) .normal [(0, a0), (1, a1), (2, a2), (7, a7), (8, a8), (9, a9), (53, a53)] h
def swashref11_Join (k : Nat) (call : Caller) (a0 a1 a2 : Value) (h : Heap) : Res Value :=
 (buildSliceR Prog 22 0 [] h).bind fun v1 h2 =>
 (builtinV Prog .append [22, 22] [v1, a0] h2).bind fun v3 h4 =>
 (loopN (swashref11_Join_l1 k call) loopFuel [(0, a0), (1, a1), (2, a2), (7, v3), (8, (.int .i64 0))] h4).bind fun r5 h6 =>
 swashref11_Join_l1k k call r5.1 r5.2 h6
theorem swashref11_Join_R (k : Nat) (a0 a1 a2 : Value) (h : Heap) : R (T k) F.swashref11_Join [a0, a1, a2] h = nrm .fz h (swashref11_Join k (R (T k)) a0 a1 a2 h) :=
 (R_body (t := T k) (T_scott k) (by kernel_rfl) (by kernel_rfl) _ _).trans (by kernel_rfl)
theorem swashref11_Join_l1_eq (k : Nat) (call : Caller) (a0 a1 a2 a7 a8 : Value) (h : Heap) : swashref11_Join_l1 k call [(0, a0), (1, a1), (2, a2), (7, a7), (8, a8)] h =
 (builtinV Prog .len [23] [a2] h).bind fun v7 h8 =>
 (binR Prog .lss 3 a8 v7 h8).bind fun v9 h10 =>
 ((bif wantVal v9 true then Res.ok a1 h10 else Res.ok undef h10)).bind fun v11 h12 =>
 ((bif wantVal v9 true then binR Prog .geq 3 v11 (.int .i64 0) h12 else Res.ok undef h12)).bind fun v13 h14 =>
 (condV (some v9) (Res.ok v13 h14) (Res.ok (.bool false) h14)).bind fun v15 h16 =>
 ((bif wantVal v15 true then Res.ok a1 h16 else Res.ok undef h16)).bind fun v17 h18 =>
 ((bif wantVal v15 true then Res.ok a0 h18 else Res.ok undef h18)).bind fun v19 h20 =>
 ((bif wantVal v15 true then builtinV Prog .len [22] [v19] h20 else Res.ok undef h20)).bind fun v21 h22 =>
 ((bif wantVal v15 true then binR Prog .lss 3 v17 v21 h22 else Res.ok undef h22)).bind fun v23 h24 =>
 (condV (some v15) (Res.ok v23 h24) (Res.ok (.bool false) h24)).bind fun v25 h26 =>
 condV (some v25) (
 (indexAddrR Prog 23 a2 a8 h26).bind fun v27 h28 =>
 (loadR Prog 3 v27 h28).bind fun v29 h30 =>
 (binR Prog .geq 3 v29 (.int .i64 0) h30).bindN fun v31 h32 =>
 ((bif wantVal v31 true then Res.ok v29 h32 else Res.ok undef h32)).bindN fun v33 h34 =>
 ((bif wantVal v31 true then Res.ok a0 h34 else Res.ok undef h34)).bindN fun v35 h36 =>
 ((bif wantVal v31 true then builtinV Prog .len [22] [v35] h36 else Res.ok undef h36)).bindN fun v37 h38 =>
 ((bif wantVal v31 true then binR Prog .lss 3 v33 v37 h38 else Res.ok undef h38)).bindN fun v39 h40 =>
 (condV (some v31) (Res.ok v39 h40) (Res.ok (.bool false) h40)).bindN fun v41 h42 =>
 ((bif wantVal v41 true then Res.ok a0 h42 else Res.ok undef h42)).bindN fun v43 h44 =>
 ((bif wantVal v41 true then Res.ok v29 h44 else Res.ok undef h44)).bindN fun v45 h46 =>
 ((bif wantVal v41 true then indexAddrR Prog 22 v43 v45 h46 else Res.ok undef h46)).bindN fun v47 h48 =>
 ((bif wantVal v41 true then fieldAddrR Prog 57 v47 1 h48 else Res.ok undef h48)).bindN fun v49 h50 =>
 ((bif wantVal v41 true then loadR Prog 3 v49 h50 else Res.ok undef h50)).bindN fun v51 h52 =>
 ((bif wantVal v41 true then Res.ok a7 h52 else Res.ok undef h52)).bindN fun v53 h54 =>
 ((bif wantVal v41 true then Res.ok a1 h54 else Res.ok undef h54)).bindN fun v55 h56 =>
 ((bif wantVal v41 true then indexAddrR Prog 22 v53 v55 h56 else Res.ok undef h56)).bindN fun v57 h58 =>
 ((bif wantVal v41 true then fieldAddrR Prog 57 v57 1 h58 else Res.ok undef h58)).bindN fun v59 h60 =>
 ((bif wantVal v41 true then loadR Prog 3 v59 h60 else Res.ok undef h60)).bindN fun v61 h62 =>
 ((bif wantVal v41 true then binR Prog .lss 3 v51 v61 h62 else Res.ok undef h62)).bindN fun v63 h64 =>
 (condV (some v41) (Res.ok v63 h64) (Res.ok (.bool false) h64)).bindN fun v65 h66 =>
 condV (some v65) (
 (indexAddrR Prog 22 a0 v29 h66).bind fun v67 h68 =>
 (fieldAddrR Prog 57 v67 1 h68).bind fun v69 h70 =>
 (loadR Prog 3 v69 h70).bind fun v71 h72 =>
 (indexAddrR Prog 22 a7 a1 h72).bind fun v73 h74 =>
 (fieldAddrR Prog 57 v73 1 h74).bind fun v75 h76 =>
 (storeR Prog 3 v75 v71 h76).bind fun _v77 h78 =>
 swashref11_Join_j1 k call a0 a1 a2 a7 a8 h78)
 (
 swashref11_Join_j2 k call a0 a1 a2 a7 a8 v29 v65 h66))
 (
 .ok ((.exit 0), [(0, a0), (1, a1), (2, a2), (7, a7), (8, a8), (26, v25)]) h26) :=
 (loopB_eq _ _).trans (by kernel_rfl)
theorem swashref11_Join_j1_eq (k : Nat) (call : Caller) (a0 a1 a2 a7 a8 : Value) (h : Heap) : swashref11_Join_j1 k call a0 a1 a2 a7 a8 h =
 (binR Prog .add 3 a8 (.int .i64 1) h).bind fun v79 h80 =>
 .ok (.normal, [(0, a0), (1, a1), (2, a2), (7, a7), (8, v79)]) h80 := by kernel_rfl
theorem swashref11_Join_j2_eq (k : Nat) (call : Caller) (a0 a1 a2 a7 a8 a9 a53 : Value) (h : Heap) : swashref11_Join_j2 k call a0 a1 a2 a7 a8 a9 a53 h =
 (binR Prog .add 3 a8 (.int .i64 1) h).bind fun v81 h82 =>
 .ok (.normal, [(0, a0), (1, a1), (2, a2), (7, a7), (8, v81)]) h82 := by kernel_rfl
theorem swashref11_Join_l1k_x0 (k : Nat) (call : Caller) (a0 a1 a2 a7 a8 a26 : Value) (h : Heap) : swashref11_Join_l1k k call (.exit 0) [(0, a0), (1, a1), (2, a2), (7, a7), (8, a8), (26, a26)] h =
 .ok a7 h := by kernel_rfl
def swashref11_Turn_l1 (k : Nat) (call : Caller) : Env → Heap → Res (AExit × Env) := loopB (C k) call F.swashref11_Turn [1, 1, 0, 1, 0, 0]
def swashref11_Turn_l1k (k : Nat) (call : Caller) : Kont Value := kBlock 0 (kSeq (pieceK (C k) call F.swashref11_Turn [1, 1, 1]) (kDone Prog (resOf Prog F.swashref11_Turn)))
def swashref11_Turn (k : Nat) (call : Caller) (a0 : Value) (h : Heap) : Res Value :=
 (buildSliceR Prog 22 0 [] h).bind fun v1 h2 =>
 (builtinV Prog .len [22] [a0] h2).bind fun v3 h4 =>
 (binR Prog .sub 3 v3 (.int .i64 1) h4).bind fun v5 h6 =>
 (loopN (swashref11_Turn_l1 k call) loopFuel [(0, a0), (3, v1), (4, v5)] h6).bind fun r7 h8 =>
 swashref11_Turn_l1k k call r7.1 r7.2 h8
theorem swashref11_Turn_R (k : Nat) (a0 : Value) (h : Heap) : R (T k) F.swashref11_Turn [a0] h = nrm .fz h (swashref11_Turn k (R (T k)) a0 h) :=
 (R_body (t := T k) (T_scott k) (by kernel_rfl) (by kernel_rfl) _ _).trans (by kernel_rfl)
theorem swashref11_Turn_l1_eq (k : Nat) (call : Caller) (a0 a3 a4 : Value) (h : Heap) : swashref11_Turn_l1 k call [(0, a0), (3, a3), (4, a4)] h =
 (binR Prog .geq 3 a4 (.int .i64 0) h).bind fun v9 h10 =>
 condV (some v9) (
 (indexAddrR Prog 22 a0 a4 h10).bind fun v11 h12 =>
 (loadR Prog 57 v11 h12).bind fun v13 h14 =>
 (buildSliceR Prog 22 1 [(0, v13)] h14).bind fun v15 h16 =>
 (builtinV Prog .append [22, 22] [a3, v15] h16).bind fun v17 h18 =>
 (binR Prog .sub 3 a4 (.int .i64 1) h18).bind fun v19 h20 =>
 .ok (.normal, [(0, a0), (3, v17), (4, v19)]) h20)
 (
 .ok ((.exit 0), [(0, a0), (3, a3), (4, a4), (10, v9)]) h10) :=
 (loopB_eq _ _).trans (by kernel_rfl)
theorem swashref11_Turn_l1k_x0 (k : Nat) (call : Caller) (a0 a3 a4 a10 : Value) (h : Heap) : swashref11_Turn_l1k k call (.exit 0) [(0, a0), (3, a3), (4, a4), (10, a10)] h =
 .ok a3 h := by kernel_rfl
def swashref11_Clean_l1 (k : Nat) (call : Caller) : Env → Heap → Res (AExit × Env) := loopB (C k) call F.swashref11_Clean [1, 1, 0, 1, 0, 0]
def swashref11_Clean_l1k (k : Nat) (call : Caller) : Kont Value := kBlock 0 (kSeq (pieceK (C k) call F.swashref11_Clean [1, 1, 1]) (kDone Prog (resOf Prog F.swashref11_Clean)))
def swashref11_Clean_j1 (k : Nat) (call : Caller) (a0 a3 a4 : Value) (h : Heap) : Res (AExit × Env) :=
 kSeq (pieceK (C k) call F.swashref11_Clean [1, 1, 0, 1, 0, 0, 1, 1]) (kRound (ownOf (C k) F.swashref11_Clean [1, 1, 0, 1, 0, 0])) .normal [(0, a0), (3, a3), (4, a4)] h
def swashref11_Clean_j2 (k : Nat) (call : Caller) (a0 a3 a4 a17 : Value) (h : Heap) : Res (AExit × Env) :=
 kSeq (pieceK (C k) call F.swashref11_Clean [1, 1, 0, 1, 0, 0, 1, 1]) (kRound (ownOf (C k) F.swashref11_Clean [1, 1, 0, 1, 0, 0])) .normal [(0, a0), (3, a3), (4, a4), (17, a17)] h
def swashref11_Clean (k : Nat) (call : Caller) (a0 : Value) (h : Heap) : Res Value :=
 (buildSliceR Prog 22 0 [] h).bind fun v1 h2 =>
 (loopN (swashref11_Clean_l1 k call) loopFuel [(0, a0), (3, v1), (4, (.int .i64 0))] h2).bind fun r3 h4 =>
 swashref11_Clean_l1k k call r3.1 r3.2 h4
theorem swashref11_Clean_R (k : Nat) (a0 : Value) (h : Heap) : R (T k) F.swashref11_Clean [a0] h = nrm .fz h (swashref11_Clean k (R (T k)) a0 h) :=
 (R_body (t := T k) (T_scott k) (by kernel_rfl) (by kernel_rfl) _ _).trans (by kernel_rfl)
theorem swashref11_Clean_l1_eq (k : Nat) (call : Caller) (a0 a3 a4 : Value) (h : Heap) : swashref11_Clean_l1 k call [(0, a0), (3, a3), (4, a4)] h =
 (builtinV Prog .len [22] [a0] h).bind fun v5 h6 =>
 (binR Prog .lss 3 a4 v5 h6).bind fun v7 h8 =>
 condV (some v7) (
 (indexAddrR Prog 22 a0 a4 h8).bind fun v9 h10 =>
 (fieldAddrR Prog 57 v9 0 h10).bind fun v11 h12 =>
 (loadR Prog 3 v11 h12).bind fun v13 h14 =>
 (binR Prog .neq 3 v13 (.int .i64 65535) h14).bind fun v15 h16 =>
 condV (some v15) (
 (indexAddrR Prog 22 a0 a4 h16).bind fun v17 h18 =>
 (loadR Prog 57 v17 h18).bind fun v19 h20 =>
 (buildSliceR Prog 22 1 [(0, v19)] h20).bind fun v21 h22 =>
 (builtinV Prog .append [22, 22] [a3, v21] h22).bind fun v23 h24 =>
 swashref11_Clean_j1 k call a0 v23 a4 h24)
 (
 swashref11_Clean_j2 k call a0 a3 a4 v15 h16))
 (
 .ok ((.exit 0), [(0, a0), (3, a3), (4, a4), (9, v7)]) h8) :=
 (loopB_eq _ _).trans (by kernel_rfl)
theorem swashref11_Clean_j1_eq (k : Nat) (call : Caller) (a0 a3 a4 : Value) (h : Heap) : swashref11_Clean_j1 k call a0 a3 a4 h =
 (binR Prog .add 3 a4 (.int .i64 1) h).bind fun v25 h26 =>
 .ok (.normal, [(0, a0), (3, a3), (4, v25)]) h26 := by kernel_rfl
theorem swashref11_Clean_j2_eq (k : Nat) (call : Caller) (a0 a3 a4 a17 : Value) (h : Heap) : swashref11_Clean_j2 k call a0 a3 a4 a17 h =
 (binR Prog .add 3 a4 (.int .i64 1) h).bind fun v27 h28 =>
 .ok (.normal, [(0, a0), (3, a3), (4, v27)]) h28 := by kernel_rfl
theorem swashref11_Clean_l1k_x0 (k : Nat) (call : Caller) (a0 a3 a4 a9 : Value) (h : Heap) : swashref11_Clean_l1k k call (.exit 0) [(0, a0), (3, a3), (4, a4), (9, a9)] h =
 .ok a3 h := by kernel_rfl
end
end Go.Sw
end
section
namespace Go.Sw
open Go.RowKit
structure Gl where
 id : Int
 cl : Int
deriving DecidableEq
abbrev encG (g : Gl) : List Value := [.int .i64 g.id, .int .i64 g.cl]
theorem encG_len (g : Gl) : (encG g).length = 2 := rfl
theorem encG_still (l : List Gl) : ∀ p, p ∈ l → ∀ v, v ∈ encG p → Still v := fun p _ v hv => by
 simp [encG] at hv;rcases hv with rfl | rfl <;> trivial
theorem Flat.Gls (l : List Gl) : Flat (Go.Sw.lv encG l) := .lv fun p _ => .cons (.int _ _) (.cons (.int _ _) .nil)
abbrev itLine (c : Nat) (o : Option Nat) (l : List Gl) : It := itBox c [] o 2 encG l
abbrev ptrV (c : Nat) : Value := .pointer (some ⟨c, 0, none⟩)
theorem cloneG_R (k : Nat) {v s : Value} {H H' : Heap} (h : cloneV 2 16 [v] H = .ok s H') : R (T k) F.slices_Clone_of_api_Glyph_api_Glyph [v] H = .ok s H' :=
 (R_sp (t := T k) (T_scott k) (s := fun _ args H => cloneV 2 16 args H) (by kernel_rfl) [v] H).trans (by
  show nrm (mdS k F.slices_Clone_of_api_Glyph_api_Glyph) H _ = _;rw [show mdS k F.slices_Clone_of_api_Glyph_api_Glyph = .no from by kernel_rfl];exact nrm_of h)
theorem lineLen_run (k : Nat) {H0 H : Heap} {L : List It} (h : Star H0 H L) (i : Nat) {c : Nat} {o : Option Nat} {l : List Gl} (hi : L[i]? = some (itLine c o l)) : R (T k) F.line_Line_Len [ptrV c] H = .ok (.int .i64 l.length) H := by
 obtain ⟨_, s, h1, h2⟩ := h.box i hi;rw [line_Line_Len_R];refine nrm_gc ⟨H, ?_, Ext.refl H⟩ (.int _ _);simp at h1;simp -implicitDefEqProofs [line_Line_Len, h1, h2.len]
theorem lineIn_run (k : Nat) {H0 H : Heap} {L : List It} (h : Star H0 H L) (i : Nat) {c : Nat} {o : Option Nat} {l : List Gl} (hi : L[i]? = some (itLine c o l)) {H' : Heap} (hx : Ext H H') (j : Int) :
  R (T k) F.line_Line_in [ptrV c, .int .i64 j] H' = .ok (.bool (decide (0 ≤ j ∧ j < l.length))) H' := by
 obtain ⟨_, s, h1, h2⟩ := h.box i hi;simp at h1;have h1 := hx.get h1;rw [line_Line_in_R];refine nrm_gc ⟨H', ?_, Ext.refl H'⟩ (.bool _);by_cases hj : j ≥ 0
 ·simp -implicitDefEqProofs [line_Line_in, h1, h2.len, hj]
 ·simp -implicitDefEqProofs [line_Line_in, hj]
def atG (l : List Gl) (j : Int) : Option Gl := if 0 ≤ j ∧ j < l.length then l[j.toNat]? else none
def encA (o : Option Gl) : Value := .agg (encG (o.getD ⟨0, 0⟩)).toArray
theorem lineAt_run (k : Nat) {H0 H : Heap} {L : List It} (h : Star H0 H L) (i : Nat) {c : Nat} {o : Option Nat} {l : List Gl} (hi : L[i]? = some (itLine c o l)) (j : Int) :
  R (T k) F.line_Line_At [ptrV c, .int .i64 j] H = .ok (.tuple #[encA (atG l j), .bool (atG l j).isSome]) H := by
 obtain ⟨_, s, h1, h2⟩ := h.box i hi;simp at h1;have hx : Ext H (H.push ⟨[.int .i64 0, .int .i64 0], 1, false⟩) := (Ext.refl H).push _;have hin := lineIn_run k h i hi hx j;have hcn : ¬ c = H.n := by have := Heap.get_lt h1; omega
 rw [line_Line_At_R];have hfl : ∀ o, Flat (.tuple #[encA o, .bool o.isSome]) := fun o => .tupleL (.cons (.aggL (.cons (.int _ _) (.cons (.int _ _) .nil))) (.cons (.bool _) .nil));unfold atG;by_cases hj : 0 ≤ j ∧ j < l.length
 ·obtain ⟨n, rfl⟩ := Int.eq_ofNat_of_zero_le hj.1;obtain ⟨g, hg⟩ : ∃ g, l[n]? = some g := ⟨_, List.getElem?_eq_getElem (by omega)⟩
  obtain ⟨b, rfl, hs, hb, i1⟩ := h2.ix .i64 n (by omega);have hbn : ¬ b = H.n := by have := Heap.get_lt hb; omega
  have hld := fun (H' : Heap) (hH : H'.get b = some ⟨rows encG l, 2, false⟩) => ldA_row encG_len hH hg;rw [if_pos hj, Int.toNat_natCast, hg];refine nrm_gc ⟨H.push ⟨encG g, 1, false⟩, ?_, (Ext.refl H).push _⟩ (hfl (some g)).alive;have e2 : ldA 2 (.pointer (some ⟨H.n, 0, none⟩)) (H.push ⟨encG g, 1, false⟩) = .ok (.agg (encG g).toArray) (H.push ⟨encG g, 1, false⟩) := by simp
  rw [decide_eq_true hj] at hin;have e1 := hld (H.push ⟨[.int .i64 0, .int .i64 0], 1, false⟩) (by rw [get_push_ne _ _ _ hbn]; exact hb);simp -implicitDefEqProofs [-ldA_ptr, line_Line_At, hin, h1, hcn, i1, e1, e2];rfl
 ·rw [if_neg hj];refine nrm_gc ⟨_, ?_, hx⟩ (hfl none).alive;rw [decide_eq_false hj] at hin;simp -implicitDefEqProofs [line_Line_At, hin];rfl
theorem lineGlyphs_run (k : Nat) (hk : k < 1000000) {H0 H : Heap} {L : List It} (h : Star H0 H L) (i : Nat) {c : Nat} {o : Option Nat} {l : List Gl} (hi : L[i]? = some (itLine c o l)) (hl : l.length ≤ 2 ^ 31) : R (T k) F.line_Line_Glyphs [ptrV c] H = .ok (lv encG l) H := by
 obtain ⟨_, s, h1, h2⟩ := h.box i hi;simp at h1;have ho : own k = .fz := by unfold own; rw [show Nat.blt k 1000000 = true from Nat.ble_eq_true_of_le hk]; rfl
 obtain ⟨s', H1, e1, o1, x1⟩ := clone_sl (bytes := 16) encG_len (h2.sl encG_len) hl (by decide);obtain ⟨M, hf⟩ := o1.freeze encG_len (encG_still _) 6;rw [line_Line_Glyphs_R, ho];refine nrm_fz (v := s') (H' := H1) ?_ hf x1 (Flat.Gls l).alive;simp -implicitDefEqProofs [line_Line_Glyphs, h1, cloneG_R k e1]
def setG (l : List Gl) (j id : Int) : List Gl := if 0 ≤ j ∧ j < l.length then l.modify j.toNat fun g => ⟨id, g.cl⟩ else l
@[simp] theorem setG_len (l : List Gl) (j id : Int) : (setG l j id).length = l.length := by unfold setG; split <;> simp
theorem lineSet_star (k : Nat) {H0 H : Heap} {L : List It} (h : Star H0 H L) (i : Nat) {c : Nat} {o : Option Nat} {l : List Gl} (hi : L[i]? = some (itLine c o l)) (j id : Int) :
  ∃ H', R (T k) F.line_Line_Set [ptrV c, .int .i64 j, .int .i64 id] H = .ok (.bool (decide (0 ≤ j ∧ j < l.length))) H' ∧ Star H0 H' (L.set i (itLine c o (setG l j id))) := by
 obtain ⟨_, s, h1, h2⟩ := h.box i hi;simp at h1;have hin := lineIn_run k h i hi (Ext.refl H) j;rw [line_Line_Set_R];unfold setG;by_cases hj : 0 ≤ j ∧ j < l.length
 ·obtain ⟨n, rfl⟩ := Int.eq_ofNat_of_zero_le hj.1;obtain ⟨g, hg⟩ : ∃ g, l[n]? = some g := ⟨_, List.getElem?_eq_getElem (by omega)⟩
  obtain ⟨b, rfl, hs, hb, i1⟩ := h2.ix .i64 n (by omega);obtain ⟨H', e1, g1, _⟩ := h.stBox i hi encG_len (c := 0) (n := 1) (⟨id, g.cl⟩ : Gl) (v := .int .i64 id) hg rfl rfl (by decide) rfl;rw [if_pos hj, Int.toNat_natCast, modify_set _ _ _ _ hg, decide_eq_true hj];rw [decide_eq_true hj] at hin;rw [Nat.add_zero] at e1;refine ⟨H', nrm_of ?_, g1⟩;simp -implicitDefEqProofs [-stR_ptr, line_Line_Set, hin, h1, i1, e1]
 ·rw [if_neg hj, decide_eq_false hj];rw [decide_eq_false hj] at hin;refine ⟨H, nrm_of ?_, ?_⟩
  ·simp -implicitDefEqProofs [line_Line_Set, hin]
  ·obtain ⟨hlt, hx⟩ := List.getElem?_eq_some_iff.1 hi;rw [← hx, List.set_getElem_self];exact h
theorem ReverseG_run (k : Nat) {H : Heap} {o : Option Nat} {s : Value} {l : List Gl} (h : OwnO H o 2 s encG l) (hl : l.length < 2 ^ 31) :
  ∃ H', R (T k) F.slices_Reverse_of_api_Glyph_api_Glyph [s] H = .ok (.tuple #[]) H' ∧ OwnO H' o 2 s encG l.reverse ∧ H'.n = H.n ∧ ∀ c, o ≠ some c → H'.get c = H.get c := by
 rw [slices_Reverse_of_api_Glyph_api_Glyph_R];have hlen := h.len;rcases h with ⟨h0, rfl, hs⟩ | ⟨b, rfl, rfl, hb⟩
 ·refine ⟨H, ?_, .inl ⟨h0, rfl, hs⟩, rfl, fun _ _ => rfl⟩
  obtain ⟨x, e', H1, hr, rfl, rfl, v, rfl⟩ := loop_up (body := slices_Reverse_of_api_Glyph_api_Glyph_l1 k (R (T k))) 0
   (fun _ e H' => H' = H ∧ e = [(0, s), (2, .int .i64 0), (3, .int .i64 (-1))]) (fun x e H' => H' = H ∧ x = .exit 0 ∧ ∃ v, e = [(0, s), (2, .int .i64 0), (3, .int .i64 (-1)), (9, v)]) (e0 := [(0, s), (2, .int .i64 0), (3, .int .i64 (-1))]) (H0 := H) ⟨rfl, rfl⟩ (by omega) (fun i _ _ hi _ => by omega)
   (fun e H' ⟨hH, he⟩ => by
    subst hH he;refine ⟨.exit 0, _, _, ?_, by simp, rfl, rfl, .bool false, rfl⟩;rw [slices_Reverse_of_api_Glyph_api_Glyph_l1_eq];simp -implicitDefEqProofs)
  simp -implicitDefEqProofs [slices_Reverse_of_api_Glyph_api_Glyph, hlen, hr, slices_Reverse_of_api_Glyph_api_Glyph_l1k_x0]
 ·have ix : ∀ (i : Nat) (H' : Heap), i < l.length → ixS 2 (.slice (some ⟨b, 0, none⟩) l.length l.length) (.int .i64 i) H' = .ok (.pointer (some ⟨b, i * 2, none⟩)) H' := fun i H' hi => by
   unfold ixS;dsimp only;rw [if_pos ⟨by omega, by omega⟩];simp
  obtain ⟨x, e', H1, hr, rfl, ⟨a1, v, rfl⟩, a2, a3⟩ := loop_up (body := slices_Reverse_of_api_Glyph_api_Glyph_l1 k (R (T k))) (l.length / 2)
   (fun i e H' => e = [(0, .slice (some ⟨b, 0, none⟩) l.length l.length), (2, .int .i64 i), (3, .int .i64 (l.length - 1 - i))] ∧ (∃ r, RevTo l r i ∧ H'.get b = some ⟨rows encG r, 2, false⟩) ∧ H'.n = H.n ∧ ∀ c, c ≠ b → H'.get c = H.get c)
   (fun x e H' => x = .exit 0 ∧ (∃ a v, e = [(0, .slice (some ⟨b, 0, none⟩) l.length l.length), (2, a), (3, v), (9, .bool false)]) ∧ H'.get b = some ⟨rows encG l.reverse, 2, false⟩ ∧ H'.n = H.n ∧ ∀ c, c ≠ b → H'.get c = H.get c)
   (e0 := [(0, .slice (some ⟨b, 0, none⟩) l.length l.length), (2, .int .i64 0), (3, .int .i64 (l.length - 1))]) (H0 := H) ⟨by simp, ⟨l, .zero l, hb⟩, rfl, fun _ _ => rfl⟩ (by omega)
   (fun i e H' hi ⟨he, ⟨r, hr, hg⟩, hn, hk⟩ => by
    subst he;obtain ⟨x, y, e1, e2, hr'⟩ := hr.step (by omega);obtain ⟨H2, H3, s1, s2, g3, k3, n3⟩ := swap_row encG_len (fun _ => rfl) hg e1 e2;have hlt : (i : Int) < l.length - 1 - i := by omega
    have hj : ((l.length : Int) - 1 - i) = ((l.length - 1 - i : Nat) : Int) := by omega
    have i1 := fun H' => ix i H' (by omega);have i2 := fun H' => ix (l.length - 1 - i) H' (by omega);rw [← hj] at i2;have l1 := ldA_row encG_len hg e1;have l2 := ldA_row encG_len hg e2;refine .inl ⟨_, H3, ?_, rfl, ⟨_, hr', g3⟩, by rw [n3, hn], fun c hc => by rw [k3 c hc, hk c hc]⟩;rw [slices_Reverse_of_api_Glyph_api_Glyph_l1_eq];simp -implicitDefEqProofs (disch := omega) [-ldA_ptr, -stR_ptr, hlt, i1, i2, l1, l2, s1, s2];omega)
   (fun e H' ⟨he, ⟨r, hr, hg⟩, hn, hk⟩ => by
    subst he;have hlt : ¬ ((l.length / 2 : Nat) : Int) < l.length - 1 - (l.length / 2 : Nat) := by omega
    refine ⟨.exit 0, _, H', ?_, by simp, rfl, ⟨.int .i64 (l.length / 2 : Nat), .int .i64 (l.length - 1 - (l.length / 2 : Nat)), rfl⟩, by rw [← hr.done]; exact hg, hn, hk⟩;rw [slices_Reverse_of_api_Glyph_api_Glyph_l1_eq];simp -implicitDefEqProofs (disch := omega) only [bin_lss, Res.bind_ok, hlt, decide_false, condV_bool, Bool.false_eq_true, if_false])
  refine ⟨H1, ?_, .inr ⟨b, rfl, by simp, a2⟩, a3.1, fun c hc => a3.2 c fun e => hc (by rw [e])⟩;have hlt : 1 ≤ l.length + 1 := by omega
  simp -implicitDefEqProofs (disch := omega) [slices_Reverse_of_api_Glyph_api_Glyph, hr, slices_Reverse_of_api_Glyph_api_Glyph_l1k_x0]
theorem lineTurn_star (k : Nat) {H0 H : Heap} {L : List It} (h : Star H0 H L) (i : Nat) {c : Nat} {o : Option Nat} {l : List Gl} (hi : L[i]? = some (itLine c o l)) (hl : l.length < 2 ^ 31) :
  ∃ H', R (T k) F.line_Line_Turn [ptrV c] H = .ok (.tuple #[]) H' ∧ Star H0 H' (L.set i (itLine c o l.reverse)) := by
 obtain ⟨hne, s, h1, h2⟩ := h.box i hi;obtain ⟨H', e1, e2, e3, e4⟩ := ReverseG_run k h2 hl;refine ⟨H', ?_, h.step i hi (by omega) (fun d _ hd => e4 d fun e => hd (List.mem_cons_of_mem _ (Option.mem_toList.2 e))) _ ⟨hne, s, by rw [e4 c hne]; exact h1, e2⟩ fun b hb => .inl hb⟩;simp at h1;rw [line_Line_Turn_R];refine nrm_of ?_;simp -implicitDefEqProofs [line_Line_Turn, h1, e1]
def newG (ids : List Int) : List Gl := ids.zipIdx.map fun x => ⟨x.1, (x.2 : Nat)⟩
@[simp] theorem newG_len (ids : List Int) : (newG ids).length = ids.length := by simp [newG]
theorem newG_snoc (ids : List Int) (x : Int) : newG (ids ++ [x]) = newG ids ++ [⟨x, (ids.length : Nat)⟩] := by simp [newG, List.zipIdx_append]
theorem lineNew_star (k : Nat) {H0 H : Heap} {L : List It} (h : Star H0 H L) (ids : List Int) (hl : ids.length < 2 ^ 31) :
  ∃ c o H', R (T k) F.line_New [lv encI ids] H = .ok (ptrV c) H' ∧ Star H0 H' (L ++ [itLine c o (newG ids)]) := by
 have g := (h.more_row (Ext.refl _) (OwnO.nil encG _ 2) (fun b hb => by cases hb)).push ⟨[.slice none 0 0], 1, false⟩;rw [List.append_assoc] at g
 obtain ⟨x, e', H1, hr, rfl, ⟨a, rfl⟩, s, o, g⟩ := loop_up (body := line_New_l1 k (R (T k))) ids.length
  (fun j e H' => e = [(3, ptrV H.n), (8, lv encI ids), (9, .int .i64 ids.length), (10, .int .i64 j)] ∧ ∃ s o, Star H0 H' (L ++ [itRow o 2 s encG (newG (ids.take j)), itBlk H.n ⟨[s], 1, false⟩]))
  (fun x e H' => x = .exit 0 ∧ (∃ a, e = [(3, ptrV H.n), (8, lv encI ids), (9, .int .i64 ids.length), (10, .int .i64 ids.length), (11, a)]) ∧ ∃ s o, Star H0 H' (L ++ [itRow o 2 s encG (newG ids), itBlk H.n ⟨[s], 1, false⟩]))
  (e0 := [(3, ptrV H.n), (8, lv encI ids), (9, .int .i64 ids.length), (10, .int .i64 0)]) (H0 := H.push ⟨[.slice none 0 0], 1, false⟩) ⟨rfl, _, _, g⟩ (by omega)
  (fun j e H' hj ⟨he, s, o, g⟩ => by
   subst he;have hlt : (j : Int) < ids.length := by omega
   obtain ⟨x, hx⟩ : ∃ x, ids[j]? = some x := ⟨_, List.getElem?_eq_getElem hj⟩
   have i1 := fun H' => ixS_lvN encI_len ids .i64 j x hx H';have hc := g.get (L.length + 1) (at2_1 _ _ _);have hcn : ¬ H.n = H'.n := by have := Heap.get_lt hc; omega
   obtain ⟨s', o', H2, e1, g⟩ := g.append1 (bytes := 16) L.length encG_len (at2_0 _ _ _) (⟨x, (j : Nat)⟩ : Gl) (by simp; omega) (by decide);rw [set2_0] at g;have hc2 := g.get (L.length + 1) (at2_1 _ _ _);have st := (g.row L.length (at2_0 _ _ _)).storable;have ce := (g.row L.length (at2_0 _ _ _)).cells;have g := g.setBlk (L.length + 1) (at2_1 _ _ _) ⟨[s'], 1, false⟩;rw [set2_1] at g;refine .inl ⟨_, _, ?_, rfl, s', o', by rw [take_snoc hx, newG_snoc, List.length_take, Nat.min_eq_left (by omega)]; exact g⟩;rw [line_New_l1_eq];have e1 : apR 2 16 s (.slice (some ⟨H'.n, 0, none⟩) 1 1) (H'.push ⟨[.int .i64 x, .int .i64 (j : Nat)], 2, false⟩) = .ok s' H2 := e1;simp -implicitDefEqProofs (disch := omega) [hlt, i1, hc, hcn, e1, hc2, st, ce])
  (fun e H' ⟨he, s, o, g⟩ => by
   subst he;refine ⟨.exit 0, _, H', ?_, by simp, rfl, ⟨.bool false, rfl⟩, s, o, by simpa using g⟩;rw [line_New_l1_eq];simp -implicitDefEqProofs)
 have g := Star.join2 [] g;refine ⟨H.n, o, H1, ?_, g⟩;rw [line_New_R];refine nrm_of ?_;simp -implicitDefEqProofs [line_New, hr, line_New_l1k_x0]
theorem Same_run (k : Nat) {H : Heap} {u v : Value} {l m : List Gl} (hu : Rd H 2 u encG l) (hv : Rd H 2 v encG m) (hl : l.length < 2 ^ 62) (hm : m.length < 2 ^ 62) : R (T k) F.swashref11_Same [u, v] H = .ok (.bool (decide (l = m))) H := by
 rw [swashref11_Same_R];have fl : Flat (.bool (decide (l = m))) := .bool _;by_cases hlen : l.length = m.length;rotate_left
 ·have hne : l ≠ m := fun e => hlen (by rw [e]);have hne' : ((l.length : Int) == (m.length : Int)) = false := by rw [beq_eq_false_iff_ne]; omega
  refine nrm_fz (v := .bool false) (H' := H) ?_ (by rw [decide_eq_false hne]; rfl) (Ext.refl H) fl.alive;simp -implicitDefEqProofs [swashref11_Same, hu.1, hv.1, bne, hne']
 ·obtain ⟨x, e', H1, hr, rfl, hq⟩ := loop_up (body := swashref11_Same_l1 k (R (T k))) l.length
   (fun j e H' => H' = H ∧ e = [(0, u), (1, v), (5, .int .i64 j)] ∧ l.take j = m.take j)
   (fun x e H' => H' = H ∧ ((x = .ret ∧ e = [(4, .bool false)] ∧ l ≠ m) ∨ (x = .exit 0 ∧ (∃ a, e = [(0, u), (1, v), (5, .int .i64 l.length), (14, a)]) ∧ l = m)))
   (e0 := [(0, u), (1, v), (5, .int .i64 0)]) (H0 := H) ⟨rfl, rfl, by simp⟩ (by omega)
   (fun j e H' hj ⟨hH, he, ht⟩ => by
    subst he hH;have hlt : (j : Int) < l.length := by omega
    obtain ⟨a, ha⟩ : ∃ a, l[j]? = some a := ⟨_, List.getElem?_eq_getElem hj⟩
    obtain ⟨b, hb⟩ : ∃ b, m[j]? = some b := ⟨_, List.getElem?_eq_getElem (by omega)⟩
    obtain ⟨p, p1, p2⟩ := hu.2 j a ha;obtain ⟨q, q1, q2⟩ := hv.2 j b hb;by_cases hab : a = b
    ·subst hab;refine .inl ⟨_, _, ?_, rfl, rfl, by rw [take_snoc ha, take_snoc hb, ht]⟩;rw [swashref11_Same_l1_eq];simp -implicitDefEqProofs (disch := omega) [hlt, hu.1, p1, p2, q1, q2]
    ·refine .inr ⟨.ret, _, _, ?_, by simp, rfl, .inl ⟨rfl, rfl, fun e => hab (by rw [e, hb] at ha; injection ha with ha; exact ha.symm)⟩⟩;have hne : (!(a.id == b.id) || !(a.cl == b.cl)) = true := by
      by_cases h1 : a.id = b.id
      ·have : a.cl ≠ b.cl := fun h2 => hab (by cases a; cases b; simp_all);simp [h1, this]
      ·simp [h1]
     rw [swashref11_Same_l1_eq];simp -implicitDefEqProofs (disch := omega) [hlt, hu.1, p1, p2, q1, q2, hne])
   (fun e H' ⟨hH, he, ht⟩ => by
    subst he hH;refine ⟨.exit 0, _, _, ?_, by simp, rfl, .inr ⟨rfl, ⟨.bool false, rfl⟩, ?_⟩⟩
    ·rw [swashref11_Same_l1_eq];simp -implicitDefEqProofs [hu.1]
    ·rwa [List.take_length, hlen, List.take_length] at ht)
  rcases hq with ⟨rfl, rfl, hne⟩ | ⟨rfl, ⟨a, rfl⟩, heq⟩
  ·refine nrm_fz (v := .bool false) (H' := H1) ?_ (by rw [decide_eq_false hne]; rfl) (Ext.refl H1) fl.alive;simp -implicitDefEqProofs [swashref11_Same, hu.1, hv.1, hlen, bne, hr, swashref11_Same_l1k_r]
  ·refine nrm_fz (v := .bool true) (H' := H1) ?_ (by rw [decide_eq_true heq]; rfl) (Ext.refl H1) fl.alive;simp -implicitDefEqProofs [swashref11_Same, hu.1, hv.1, hlen, bne, hr, swashref11_Same_l1k_x0]
end Go.Sw
end
section
set_option maxRecDepth 100000
set_option linter.unusedVariables false
namespace Go.Sw
noncomputable section
def seek_First_l1 (k : Nat) (call : Caller) : Env → Heap → Res (AExit × Env) := loopB (C k) call F.seek_First [1, 1, 0, 0, 0]
def seek_First_l1k (k : Nat) (call : Caller) : Kont Value := kBlock 0 (kSeq (pieceK (C k) call F.seek_First [1, 1, 1]) (kDone Prog (resOf Prog F.seek_First)))
def seek_First (k : Nat) (call : Caller) (a0 a1 : Value) (h : Heap) : Res Value :=
 (loopN (seek_First_l1 k call) loopFuel [(1, a1), (5, (.int .i64 0)), (6, a0)] h).bind fun r1 h2 =>
 seek_First_l1k k call r1.1 r1.2 h2
theorem seek_First_R (k : Nat) (a0 a1 : Value) (h : Heap) : R (T k) F.seek_First [a0, a1] h = nrm .gc h (seek_First k (R (T k)) a0 a1 h) :=
 (R_body (t := T k) (T_scott k) (by kernel_rfl) (by kernel_rfl) _ _).trans (by kernel_rfl)
theorem seek_First_l1_eq (k : Nat) (call : Caller) (a1 a5 a6 : Value) (h : Heap) : seek_First_l1 k call [(1, a1), (5, a5), (6, a6)] h =
 (binR Prog .lss 3 a5 a6 h).bind fun v3 h4 =>
 condV (some v3) (
 (binR Prog .sub 3 a6 a5 h4).bind fun v5 h6 =>
 (binR Prog .quo 3 v5 (.int .i64 2) h6).bind fun v7 h8 =>
 (binR Prog .add 3 a5 v7 h8).bind fun v9 h10 =>
 (callV call a1 [v9] h10).bind fun v11 h12 =>
 condV (some v11) (
 .ok (.normal, [(1, a1), (5, a5), (6, v9)]) h12)
 (
 (binR Prog .add 3 v9 (.int .i64 1) h12).bind fun v13 h14 =>
 .ok (.normal, [(1, a1), (5, v13), (6, a6)]) h14))
 (
 .ok ((.exit 0), [(1, a1), (5, a5), (6, a6), (11, v3)]) h4) :=
 (loopB_eq _ _).trans (by kernel_rfl)
theorem seek_First_l1k_x0 (k : Nat) (call : Caller) (a1 a5 a6 a11 : Value) (h : Heap) : seek_First_l1k k call (.exit 0) [(1, a1), (5, a5), (6, a6), (11, a11)] h =
 .ok a5 h := by kernel_rfl
def seek_Take_l1 (k : Nat) (call : Caller) : Env → Heap → Res (AExit × Env) := loopB (C k) call F.seek_Take [1, 1, 1, 1, 1, 1, 0, 1, 0, 0]
def seek_Take_l1k (k : Nat) (call : Caller) : Kont Value := kBlock 0 (kSeq (pieceK (C k) call F.seek_Take [1, 1, 1, 1, 1, 1, 1]) (kDone Prog (resOf Prog F.seek_Take)))
def seek_Take (k : Nat) (call : Caller) (a0 a1 a2 a3 : Value) (h : Heap) : Res Value :=
 (boxR a0 h).bind fun v1 h2 =>
 (loadR Prog 75 v1 h2).bindN fun v3 h4 =>
 (call F.view_View_U16 [v3, a1] h4).bindT (fun p7 h8 => (loadR Prog 75 v1 h4).bindN fun v9 h10 => (binR Prog .add 3 a1 (.int .i64 2) h10).bindN fun v11 h12 => chkR ((okVal (loadR Prog 75 v1 h2) v9 && true) && true) (.panic p7 h8)) fun v5 h6 =>
 (loadR Prog 75 v1 h6).bindN fun v13 h14 =>
 (binR Prog .add 3 a1 (.int .i64 2) h14).bindN fun v15 h16 =>
 (call F.view_View_U16 [v13, v15] h16).bindT (fun p19 h20 => chkR ((okVal (loadR Prog 75 v1 h2) v13 && true) && true) (.panic p19 h20)) fun v17 h18 =>
 chkR ((okVal (loadR Prog 75 v1 h2) v13 && true) && true) (
 (loadR Prog 75 v1 h18).bind fun v21 h22 =>
 (call F.view_View_Cut [v21, a1, (.int .i64 10)] h22).bind fun v23 h24 =>
 (binR Prog .geq 3 v5 a2 h24).bind fun v25 h26 =>
 (call F.view_Need [v25] h26).bind fun v27 h28 =>
 (loadR Prog 75 v1 h28).bind fun v29 h30 =>
 (binR Prog .add 3 a1 (.int .i64 10) h30).bind fun v31 h32 =>
 (call F.view_View_Rows [v29, v31, v17, v5] h32).bind fun v33 h34 =>
 (allocR Prog 75 h34).bind fun v35 h36 =>
 (storeR Prog 75 v35 v33 h36).bind fun _v37 h38 =>
 (loopN (seek_Take_l1 k call) loopFuel [(3, a3), (9, v5), (10, v17), (11, v35), (12, (.slice none 0 0)), (34, v17), (35, (.int .i64 0))] h38).bind fun r39 h40 =>
 seek_Take_l1k k call r39.1 r39.2 h40)
theorem seek_Take_R (k : Nat) (a0 a1 a2 a3 : Value) (h : Heap) : R (T k) F.seek_Take [a0, a1, a2, a3] h = nrm .fz h (seek_Take k (R (T k)) a0 a1 a2 a3 h) :=
 (R_body (t := T k) (T_scott k) (by kernel_rfl) (by kernel_rfl) _ _).trans (by kernel_rfl)
theorem seek_Take_l1_eq (k : Nat) (call : Caller) (a3 a9 a10 a11 a12 a34 a35 : Value) (h : Heap) : seek_Take_l1 k call [(3, a3), (9, a9), (10, a10), (11, a11), (12, a12), (34, a34), (35, a35)] h =
 (binR Prog .lss 3 a35 a34 h).bind fun v41 h42 =>
 condV (some v41) (
 (loadR Prog 75 a11 h42).bind fun v43 h44 =>
 (binR Prog .mul 3 a9 a35 h44).bind fun v45 h46 =>
 (call F.view_View_Cut [v43, v45, a9] h46).bind fun v47 h48 =>
 (buildSliceR Prog 309 1 [(0, v47)] h48).bind fun v49 h50 =>
 (builtinV Prog .append [309, 309] [a12, v49] h50).bind fun v51 h52 =>
 (binR Prog .add 3 a35 (.int .i64 1) h52).bind fun v53 h54 =>
 .ok (.normal, [(3, a3), (9, a9), (10, a10), (11, a11), (12, v51), (34, a34), (35, v53)]) h54)
 (
 .ok ((.exit 0), [(3, a3), (9, a9), (10, a10), (11, a11), (12, a12), (34, a34), (35, a35), (36, v41)]) h42) :=
 (loopB_eq _ _).trans (by kernel_rfl)
theorem seek_Take_l1k_x0 (k : Nat) (call : Caller) (a3 a9 a10 a11 a12 a34 a35 a36 : Value) (h : Heap) : seek_Take_l1k k call (.exit 0) [(3, a3), (9, a9), (10, a10), (11, a11), (12, a12), (34, a34), (35, a35), (36, a36)] h =
 (binR Prog .gtr 3 a10 (.int .i64 0) h).bind fun v55 h56 =>
 ((bif wantVal v55 true then Res.ok a12 h56 else Res.ok undef h56)).bind fun v57 h58 =>
 ((bif wantVal v55 true then Res.ok a10 h58 else Res.ok undef h58)).bind fun v59 h60 =>
 ((bif wantVal v55 true then binR Prog .sub 3 v59 (.int .i64 1) h60 else Res.ok undef h60)).bind fun v61 h62 =>
 ((bif wantVal v55 true then indexAddrR Prog 309 v57 v61 h62 else Res.ok undef h62)).bind fun v63 h64 =>
 ((bif wantVal v55 true then loadR Prog 75 v63 h64 else Res.ok undef h64)).bind fun v65 h66 =>
 ((bif wantVal v55 true then Res.ok a3 h66 else Res.ok undef h66)).bind fun v67 h68 =>
 ((bif wantVal v55 true then call F.seek_none [v65, v67] h68 else Res.ok undef h68)).bind fun v69 h70 =>
 (condV (some v55) (Res.ok v69 h70) (Res.ok (.bool false) h70)).bind fun v71 h72 =>
 condV (some v71) (
 (binR Prog .sub 3 a10 (.int .i64 1) h72).bind fun v73 h74 =>
 (sliceR Prog 309 a12 none (some v73) none h74).bind fun v75 h76 =>
 .ok v75 h76)
 (
 .ok a12 h72) := by kernel_rfl
def seek_none_l1 (k : Nat) (call : Caller) : Env → Heap → Res (AExit × Env) := loopB (C k) call F.seek_none [1, 0, 1, 0, 0]
def seek_none_l1k (k : Nat) (call : Caller) : Kont Value := kBlock 0 (kSeq (pieceK (C k) call F.seek_none [1, 1]) (kDone Prog (resOf Prog F.seek_none)))
def seek_none (k : Nat) (call : Caller) (a0 a1 : Value) (h : Heap) : Res Value :=
 (boxR a0 h).bind fun v1 h2 =>
 (loopN (seek_none_l1 k call) loopFuel [(2, v1), (6, a1), (7, (.int .i64 0))] h2).bind fun r3 h4 =>
 seek_none_l1k k call r3.1 r3.2 h4
theorem seek_none_R (k : Nat) (a0 a1 : Value) (h : Heap) : R (T k) F.seek_none [a0, a1] h = nrm .gc h (seek_none k (R (T k)) a0 a1 h) :=
 (R_body (t := T k) (T_scott k) (by kernel_rfl) (by kernel_rfl) _ _).trans (by kernel_rfl)
theorem seek_none_l1_eq (k : Nat) (call : Caller) (a2 a6 a7 : Value) (h : Heap) : seek_none_l1 k call [(2, a2), (6, a6), (7, a7)] h =
 (binR Prog .lss 3 a7 a6 h).bind fun v5 h6 =>
 condV (some v5) (
 (loadR Prog 75 a2 h6).bind fun v7 h8 =>
 (binR Prog .mul 3 (.int .i64 2) a7 h8).bind fun v9 h10 =>
 (call F.view_View_U16 [v7, v9] h10).bind fun v11 h12 =>
 (binR Prog .neq 3 v11 (.int .i64 65535) h12).bind fun v13 h14 =>
 condV (some v13) (
 .ok (.ret, [(4, (.bool false))]) h14)
 (
 (binR Prog .add 3 a7 (.int .i64 1) h14).bind fun v15 h16 =>
 .ok (.normal, [(2, a2), (6, a6), (7, v15)]) h16))
 (
 .ok ((.exit 0), [(2, a2), (6, a6), (7, a7), (8, v5)]) h6) :=
 (loopB_eq _ _).trans (by kernel_rfl)
theorem seek_none_l1k_r (k : Nat) (call : Caller) (a4 : Value) (h : Heap) : seek_none_l1k k call .ret [(4, a4)] h =
 .ok a4 h := by kernel_rfl
theorem seek_none_l1k_x0 (k : Nat) (call : Caller) (a2 a6 a7 a8 : Value) (h : Heap) : seek_none_l1k k call (.exit 0) [(2, a2), (6, a6), (7, a7), (8, a8)] h =
 .ok (.bool true) h := by kernel_rfl
end
end Go.Sw
end
section
namespace Go.Sw
open Go.RowKit
def Asks (k : Nat) (f : Value) (n : Nat) (p : Nat → Bool) (H : Heap) : Prop := ∀ j : Nat, j < n → callV (R (T k)) f [.int .i64 j] H = .ok (.bool (p j)) H
def IsFirst (n : Nat) (p : Nat → Bool) (i : Nat) : Prop := i ≤ n ∧ (∀ j, j < i → p j = false) ∧ ∀ j, i ≤ j → j < n → p j = true
theorem First_run (k : Nat) (n : Nat) (f : Value) (p : Nat → Bool) (H : Heap) (hn : n < 2 ^ 62) (hf : Asks k f n p H) (hm : ∀ i j, i ≤ j → j < n → p i = true → p j = true) (i : Nat) (hi : IsFirst n p i) :
  R (T k) F.seek_First [.int .i64 n, f] H = .ok (.int .i64 i) H := by
 rw [seek_First_R];refine nrm_gc (Pure.of ?_) (.int _ _)
 obtain ⟨x, e', H1, hr, rfl, rfl, a, rfl⟩ := loopDec (body := seek_First_l1 k (R (T k)))
  (fun m e H' => H' = H ∧ ∃ lo hi : Nat, m = hi - lo ∧ e = [(1, f), (5, .int .i64 lo), (6, .int .i64 hi)] ∧ lo ≤ i ∧ i ≤ hi ∧ hi ≤ n)
  (fun x e H' => H' = H ∧ x = .exit 0 ∧ ∃ a, e = [(1, f), (5, .int .i64 i), (6, .int .i64 i), (11, a)])
  (e0 := [(1, f), (5, .int .i64 0), (6, .int .i64 n)]) (H0 := H) n ⟨rfl, 0, n, by omega, rfl, by omega, hi.1, Nat.le_refl _⟩ (by omega)
  (fun m e H' ⟨hH, lo, hg, hmm, he, h1, h2, h3⟩ => by
   subst hH he;by_cases hlt : lo < hg
   ·have hlt' : (lo : Int) < hg := by omega
    obtain ⟨d, hd1, hd2⟩ : ∃ d, 2 * d ≤ hg - lo ∧ hg - lo < 2 * d + 2 := ⟨(hg - lo) / 2, by omega, by omega⟩
    have hmid : (((hg : Int) - lo).tdiv 2) = (d : Nat) := by
     rw [Int.tdiv_eq_ediv_of_nonneg (by omega)]; omega
    have q := bin_quo Prog 3 H' .i64 ((hg : Int) - lo) 2 (by decide);rw [hmid] at q;have ha := hf (lo + d) (by omega);rw [show (((lo + d : Nat) : Nat) : Int) = (lo : Int) + (d : Nat) by omega] at ha;have hle : ((d : Nat) : Int) ≤ hg - lo := by omega
    refine .inl ?_;cases hp : p (lo + d) with
    | true =>
     rw [hp] at ha;refine ⟨(lo + d) - lo, _, H', ?_, by omega, rfl, lo, lo + d, rfl, rfl, h1, ?_, by omega⟩
     ·rw [seek_First_l1_eq];simp -implicitDefEqProofs (disch := omega) [hlt', q, ha]
     ·rcases Nat.lt_or_ge (lo + d) i with h | h
      ·rw [hi.2.1 _ h] at hp; cases hp
      ·exact h
    | false =>
     rw [hp] at ha;refine ⟨hg - (lo + d + 1), _, H', ?_, by omega, rfl, lo + d + 1, hg, rfl, rfl, ?_, h2, h3⟩
     ·rw [seek_First_l1_eq];simp -implicitDefEqProofs (disch := omega) [hlt', q, ha]
     ·rcases Nat.lt_or_ge (lo + d) i with h | h
      ·exact h
      ·rw [hi.2.2 _ h (by omega)] at hp; cases hp
   ·have hlt' : ¬ (lo : Int) < hg := by omega
    have e1 : lo = i := by omega
    have e2 : hg = i := by omega
    subst e1;rw [e2];refine .inr ⟨.exit 0, _, H', ?_, by simp, rfl, rfl, .bool false, rfl⟩;rw [seek_First_l1_eq];simp -implicitDefEqProofs (disch := omega))
 simp -implicitDefEqProofs (disch := omega) [seek_First, hr, seek_First_l1k_x0]
theorem isFirst_ex (n : Nat) (p : Nat → Bool) (hm : ∀ i j, i ≤ j → j < n → p i = true → p j = true) : ∃ i, IsFirst n p i := by
 induction n with
 | zero => exact ⟨0, Nat.le_refl _, fun j h => by omega, fun j h1 h2 => by omega⟩
 | succ n ih =>
  obtain ⟨i, h1, h2, h3⟩ := ih fun a b hab hb => hm a b hab (by omega);by_cases hi : i < n
  ·exact ⟨i, by omega, h2, fun j hj hn => by
    by_cases he : j = n
    ·subst he; exact hm i j hj hn (h3 i (Nat.le_refl _) hi)
    ·exact h3 j hj (by omega)⟩
  ·have : i = n := by omega
   subst this;cases hp : p i with
   | true => exact ⟨i, by omega, h2, fun j hj hn => by rw [show j = i by omega]; exact hp⟩
   | false => exact ⟨i + 1, Nat.le_refl _, fun j hj => by
     by_cases he : j = i
     ·subst he; exact hp
     ·exact h2 j (by omega), fun j h1 h2 => by omega⟩
def noneS (l : List Int) (keys : Nat) : Bool := (List.range keys).all fun j => uS l (2 * j) 2 == some 65535
theorem none_run (k : Nat) {H : Heap} {v : Value} {l : List Int} (hv : Sl H 1 v encB l) (hb : Byt l) (keys : Nat) (hl : l.length < 2 ^ 62) (hk : 2 * keys ≤ l.length) : R (T k) F.seek_none [.agg #[v], .int .i64 keys] H = .ok (.bool (noneS l keys)) H := by
 rw [seek_none_R]
 obtain ⟨x, e', H1, hr, hH, hq⟩ := loop_up (body := seek_none_l1 k (R (T k))) keys
  (fun j e H' => H' = H.push ⟨[v], 1, false⟩ ∧ (∀ i, i < j → uS l (2 * (i : Nat)) 2 = some 65535) ∧ e = [(2, .pointer (some ⟨H.n, 0, none⟩)), (6, .int .i64 keys), (7, .int .i64 j)])
  (fun x e H' => H' = H.push ⟨[v], 1, false⟩ ∧ ((x = .ret ∧ e = [(4, .bool false)] ∧ noneS l keys = false) ∨ (∃ a, x = .exit 0 ∧ e = [(2, .pointer (some ⟨H.n, 0, none⟩)), (6, .int .i64 keys), (7, .int .i64 keys), (8, a)] ∧ noneS l keys = true)))
  (e0 := [(2, .pointer (some ⟨H.n, 0, none⟩)), (6, .int .i64 keys), (7, .int .i64 0)]) (H0 := H.push ⟨[v], 1, false⟩) ⟨rfl, fun i h => by omega, rfl⟩ (by omega)
  (fun j e H' hj ⟨hH, ha, he⟩ => by
   subst he hH;have hlt : (j : Int) < keys := by omega
   have hu := U16_run k (hv.up ((Ext.refl H).push ⟨[v], 1, false⟩)) hb (2 * (j : Int)) hl;obtain ⟨x, hx⟩ : ∃ x, uS l (2 * (j : Int)) 2 = some x := by
    unfold uS pieceS;rw [if_pos (by omega)];exact ⟨_, rfl⟩
   rw [hx] at hu;by_cases he : x = 65535
   ·subst he;refine .inl ⟨_, _, ?_, rfl, fun i hi => ?_, rfl⟩
    ·rw [seek_none_l1_eq];simp -implicitDefEqProofs (disch := omega) [hlt, hu]
    ·by_cases hij : i = j
     ·subst hij; exact hx
     ·exact ha i (by omega)
   ·refine .inr ⟨.ret, _, _, ?_, by simp, rfl, .inl ⟨rfl, rfl, ?_⟩⟩
    ·have hne : (x != 65535) = true := by simpa using he
     rw [seek_none_l1_eq];simp -implicitDefEqProofs (disch := omega) [hlt, hu, hne]
    ·unfold noneS;rw [List.all_eq_false];exact ⟨j, List.mem_range.2 hj, by rw [hx]; simpa using he⟩)
  (fun e H' ⟨hH, ha, he⟩ => by
   subst he hH;refine ⟨.exit 0, _, _, ?_, by simp, rfl, .inr ⟨.bool false, rfl, rfl, ?_⟩⟩
   ·rw [seek_none_l1_eq];simp -implicitDefEqProofs
   ·unfold noneS;rw [List.all_eq_true];intro i hi;rw [ha i (List.mem_range.1 hi)];rfl)
 subst hH;refine nrm_gc ⟨_, ?_, (Ext.refl H).push ⟨[v], 1, false⟩⟩ (.bool _);rcases hq with ⟨rfl, rfl, hn⟩ | ⟨a, rfl, rfl, hn⟩ <;> simp -implicitDefEqProofs (disch := omega) [seek_none, boxR_vw, hr, seek_none_l1k_r, seek_none_l1k_x0, hn]
abbrev encW (u : Value) : List Value := [u]
theorem encW_len (u : Value) : (encW u).length = 1 := rfl
def cutRows (r : List Int) (z n : Nat) : List (List Int) := (List.range n).map fun i => (r.drop (z * i)).take z
@[simp] theorem cutRows_len (r : List Int) (z n : Nat) : (cutRows r z n).length = n := by simp [cutRows]
theorem cutRows_get (r : List Int) (z n i : Nat) (h : i < n) : (cutRows r z n)[i]? = some ((r.drop (z * i)).take z) := by simp [cutRows, h]
def endRows (r : List Int) (z n keys : Nat) : List (List Int) := if 0 < n ∧ noneS ((r.drop (z * (n - 1))).take z) keys = true then cutRows r z (n - 1) else cutRows r z n
def takeS (b : List Int) (i need : Int) (keys : Nat) : Option (List (List Int)) :=
 match uS b i 2, uS b (i + 2) 2 with
 | some z, some n => if (pieceS b i 10).isSome ∧ need ≤ z then (rowsS b (i + 10) n z).map fun r => endRows r z.toNat n.toNat keys else none
 | _, _ => none
def cutV (r : Value) (z n : Nat) : List Value := (List.range n).map fun i => subV 1 r (z * i) z
@[simp] theorem cutV_len (r : Value) (z n : Nat) : (cutV r z n).length = n := by simp [cutV]
theorem cutV_succ (r : Value) (z n : Nat) : cutV r z (n + 1) = cutV r z n ++ [subV 1 r (z * n) z] := by simp [cutV, List.range_succ]
theorem cutV_get (r : Value) (z n i : Nat) (h : i < n) : (cutV r z n)[i]? = some (subV 1 r (z * i) z) := by simp [cutV, h]
theorem cutV_take (r : Value) (z n : Nat) : (cutV r z n).take (n - 1) = cutV r z (n - 1) := by
 cases n with
 | zero => rfl
 | succ n => rw [cutV_succ]; simp
theorem cutV_sl {H : Heap} {rv : Value} {r : List Int} (hv : Sl H 1 rv encB r) (z n i : Nat) (hr : r.length = n * z) (h : i < n) : Sl H 1 (subV 1 rv (z * i) z) encB ((r.drop (z * i)).take z) := by
 have hzi : z * i + z ≤ r.length := by
  rw [hr, ← Nat.mul_succ, Nat.mul_comm];exact Nat.mul_le_mul_right _ h
 exact (hv.sub encB_len .i64 .i64 .i64 (z * i) z hzi).2
theorem Take_loop (k : Nat) {rv : Value} (r : List Int) (keys z n : Nat) (hr : r.length = n * z) (hz : z < 65536) (hn : n < 65536) (p : Nat) {H : Heap} (hv : Sl H 1 rv encB r) (hp : H.get p = some ⟨[rv], 1, false⟩) :
  ∃ s H', loopN (seek_Take_l1 k (R (T k))) loopFuel [(3, .int .i64 keys), (9, .int .i64 z), (10, .int .i64 n), (11, .pointer (some ⟨p, 0, none⟩)), (12, .slice none 0 0), (34, .int .i64 n), (35, .int .i64 0)] H =
   .ok (.exit 0, [(3, .int .i64 keys), (9, .int .i64 z), (10, .int .i64 n), (11, .pointer (some ⟨p, 0, none⟩)), (12, s), (34, .int .i64 n), (35, .int .i64 n), (36, .bool false)]) H' ∧ Own H H' 1 s encW (cutV rv z n) ∧ Ext H H' := by
 have hlen : r.length < 2 ^ 62 := by
  have : n * z ≤ 65536 * 65536 := Nat.mul_le_mul (by omega) (by omega);omega
 obtain ⟨x, e', H', hr', s, rfl, rfl, ho, hx⟩ := loop_up (body := seek_Take_l1 k (R (T k))) n
  (fun i e H' => ∃ s, e = [(3, .int .i64 keys), (9, .int .i64 z), (10, .int .i64 n), (11, .pointer (some ⟨p, 0, none⟩)), (12, s), (34, .int .i64 n), (35, .int .i64 i)] ∧ Own H H' 1 s encW (cutV rv z i) ∧ Ext H H')
  (fun x e H' => ∃ s, x = .exit 0 ∧ e = [(3, .int .i64 keys), (9, .int .i64 z), (10, .int .i64 n), (11, .pointer (some ⟨p, 0, none⟩)), (12, s), (34, .int .i64 n), (35, .int .i64 n), (36, .bool false)] ∧ Own H H' 1 s encW (cutV rv z n) ∧ Ext H H')
  (e0 := [(3, .int .i64 keys), (9, .int .i64 z), (10, .int .i64 n), (11, .pointer (some ⟨p, 0, none⟩)), (12, .slice none 0 0), (34, .int .i64 n), (35, .int .i64 0)]) (H0 := H) ⟨_, rfl, Own.nil _ _ _, Ext.refl H⟩ (by omega)
  (fun i e H' hi ⟨s, he, ho, hx⟩ => by
   subst he;have hlt : (i : Int) < n := by omega
   have hpg := hx.get hp;have hzi : z * i + z ≤ r.length := by
    rw [hr, ← Nat.mul_succ, Nat.mul_comm];exact Nat.mul_le_mul_right _ hi
   have hcut := Cut_run k (hv.up hx) ((z : Int) * i) z hlen;have e1 : ((z : Int) * i) = ((z * i : Nat) : Int) := by simp
   have hps : pieceS r ((z : Int) * i) z = some ((r.drop (z * i)).take z) := by
    rw [e1, pieceS, if_pos (by omega), Int.toNat_natCast, Int.toNat_natCast]
   have e2 : ((z : Int) * i).toNat = z * i := by rw [e1, Int.toNat_natCast]
   rw [hps, e2, Int.toNat_natCast] at hcut;have hmul : ((z : Int) * i) ≤ 9223372036854775807 := by omega
   have hmul0 : 0 ≤ ((z : Int) * i) := Int.mul_nonneg (by omega) (by omega);have hsl := cutV_sl hv z n i hr hi;obtain ⟨s', H2, e3, o1, x1⟩ := ap1_own (bytes := 24) encW_len ho hx (subV 1 rv (z * i) z) (by simp; omega) (by decide);refine .inl ⟨_, H2, ?_, s', rfl, by rw [cutV_succ]; exact o1, x1⟩;rw [seek_Take_l1_eq];generalize subV 1 rv (z * i) z = u at hcut hsl e3;simp -implicitDefEqProofs (disch := omega) [hlt, hpg, hcut, e3])
  (fun e H' ⟨s, he, ho, hx⟩ => by
   subst he;refine ⟨.exit 0, _, H', ?_, by simp, s, rfl, rfl, ho, hx⟩;rw [seek_Take_l1_eq];simp -implicitDefEqProofs (disch := omega))
 exact ⟨s, H', hr', ho, hx⟩
def rowsV (v : Value) (b : List Int) (i : Int) : Value := subV 1 v (i + 10).toNat (((uS b (i + 2) 2).getD 0) * ((uS b i 2).getD 0)).toNat
def rowZ (b : List Int) (i : Int) : Nat := ((uS b i 2).getD 0).toNat
theorem cutV_fz {H0 H : Heap} {rv : Value} (h : Firm H0 rv) (z n d : Nat) : ∀ x, x ∈ cutV rv z n → ∀ v, v ∈ encW x → fzV H0.n H (d + 1) v = some (v, []) := fun x hx v hv => by
 simp at hv;subst hv;obtain ⟨i, _, rfl⟩ := List.mem_map.1 hx;exact (h.sub 1 _ _).fz d
theorem cutV_alive {H : Heap} {rv : Value} {r : List Int} (hv : Sl H 1 rv encB r) (z n m : Nat) (hr : r.length = n * z) (hm : m ≤ n) : Alive H (lv encW (cutV rv z m)) := .list _ _ _ _ _ fun i u hu => by
 have hu : (rows encW (cutV rv z m))[i]? = some u := by simpa using hu
 have : rows encW (cutV rv z m) = cutV rv z m := by simp [rows]
 rw [this] at hu;have hi := (List.getElem?_eq_some_iff.1 hu).1;simp at hi;rw [cutV_get _ _ _ _ hi] at hu;injection hu with hu; subst hu;exact (cutV_sl hv z n i hr (by omega)).alive fun _ _ => .cons (.int _ _) .nil
theorem Take_run (k : Nat) {H : Heap} {v : Value} {b : List Int} (hv : Sl H 1 v encB b) (hb : Byt b) (i need : Int) (keys : Nat) (hl : b.length < 2 ^ 31) (hi0 : -4294967296 ≤ i) (hi : i < 4294967296) (hk : 2 * (keys : Int) ≤ need) :
  R (T k) F.seek_Take [.agg #[v], .int .i64 i, .int .i64 need, .int .i64 keys] H = orF (takeS b i need keys) (fun l => lv encW (cutV (rowsV v b i) (rowZ b i) l.length)) H := by
 rw [seek_Take_R];have ext1 : Ext H (H.push ⟨[v], 1, false⟩) := (Ext.refl H).push _;have hu1 := U16_run k (hv.up ext1) hb i (by omega);have hu2 := U16_run k (hv.up ext1) hb (i + 2) (by omega);have hcut := Cut_run k (hv.up ext1) i 10 (by omega);have hq : veq v v = true := hv.veq fun n _ u hu => by simp at hu; subst hu; simp
 have hqa : veq (.agg #[v]) (.agg #[v]) = true := veq_agg (l := [v]) fun u hu => by simp at hu; subst hu; exact hq
 cases h1 : uS b i 2 with
 | none =>
  have e : takeS b i need keys = none := by unfold takeS; rw [h1]
  rw [h1] at hu1;rw [e];refine nrm_throw ⟨_, ?_, ext1⟩ Flat.fail.alive;simp -implicitDefEqProofs (disch := omega) [seek_Take, hqa, hu1]
 | some z =>
  have hz := uS_two hb h1;rw [h1] at hu1;cases h2 : uS b (i + 2) 2 with
  | none =>
   have e : takeS b i need keys = none := by unfold takeS; rw [h1, h2]
   rw [h2] at hu2;rw [e];refine nrm_throw ⟨_, ?_, ext1⟩ Flat.fail.alive;simp -implicitDefEqProofs (disch := omega) [seek_Take, hqa, hu1, hu2]
  | some n =>
   have hn := uS_two hb h2;rw [h2] at hu2;cases h3 : pieceS b i 10 with
   | none =>
    have e : takeS b i need keys = none := by unfold takeS; rw [h1, h2]; simp [h3]
    rw [h3] at hcut;rw [e];refine nrm_throw ⟨_, ?_, ext1⟩ Flat.fail.alive;simp -implicitDefEqProofs (disch := omega) [seek_Take, hqa, hu1, hu2, hcut]
   | some c =>
    rw [h3] at hcut;by_cases h4 : need ≤ z
    ·have hrows := Rows_run k (hv.up ext1) (i + 10) n z (by omega);cases h5 : rowsS b (i + 10) n z with
     | none =>
      have e : takeS b i need keys = none := by unfold takeS; rw [h1, h2]; simp [h3, h4, h5]
      rw [h5] at hrows;rw [e];refine nrm_throw ⟨_, ?_, ext1⟩ Flat.fail.alive;simp -implicitDefEqProofs (disch := omega) [seek_Take, hqa, hu1, hu2, hcut, h4, hrows]
     | some r =>
      have e : takeS b i need keys = some (endRows r z.toNat n.toNat keys) := by unfold takeS; rw [h1, h2]; simp [h3, h4, h5]
      rw [h5] at hrows;rw [e];obtain ⟨z, rfl⟩ := Int.eq_ofNat_of_zero_le hz.1;obtain ⟨n, rfl⟩ := Int.eq_ofNat_of_zero_le hn.1;rw [Int.toNat_natCast, Int.toNat_natCast];have hp5 : pieceS b (i + 10) ((n : Int) * z) = some r := by
       unfold rowsS at h5;split at h5
       ·exact h5
       ·cases h5
      have hrl : r.length = n * z := by have := pieceS_len hp5; exact_mod_cast this
      have hrb := (hb.piece hp5).1;have hrv : rowsV v b i = subV 1 v (i + 10).toNat ((n : Int) * z).toNat := by unfold rowsV; rw [h1, h2]; rfl
      have hrz : rowZ b i = z := by unfold rowZ; rw [h1]; simp
      have hsr := pieceS_sl hv hp5;have hne : b ≠ [] := fun e => by
       subst e;unfold uS pieceS at h1;split at h1
       ·rename_i hc; simp at hc; omega
       ·cases h1
      have hfirm : Firm H (subV 1 v (i + 10).toNat ((n : Int) * z).toNat) := (hv.firm hne).sub _ _ _;simp only [orF_some, hrv, hrz];simp only [orF_some] at hrows hu1 hu2 hcut;generalize subV 1 v (i + 10).toNat ((n : Int) * z).toNat = rv at hrows hsr hfirm ⊢;obtain ⟨s, H', hloop, ho, hx⟩ := Take_loop k r keys z n hrl (by omega) (by omega) (H.n + 1) (hsr.up (ext1.push ⟨[rv], 1, false⟩)) (get_push_eq _ _ _ (by simp));have hxx : Ext H H' := (ext1.push _).trans hx;have ho' : Own H H' 1 s encW (cutV rv z n) := ho.base (by simp; omega);have hst := hsr.storable;have hce := hsr.cells;by_cases hn0 : n = 0
      ·subst hn0;have e2 : (endRows r z 0 keys).length = 0 := by simp [endRows]
       rw [e2];obtain ⟨L, hf⟩ := ho'.freeze encW_len (fun x hx => by simp [cutV] at hx) 6;refine nrm_fz (v := s) (H' := H') ?_ hf hxx (cutV_alive hsr z 0 0 hrl (Nat.le_refl _));simp only [Int.natCast_zero] at hu2 hrows hloop;simp -implicitDefEqProofs (disch := omega) [seek_Take, hqa, hu1, hu2, hcut, h4, hrows, hloop, seek_Take_l1k_x0]
      ·have hlast := cutV_get rv z n (n - 1) (by omega);have hlb : Byt ((r.drop (z * (n - 1))).take z) := fun x hx => hrb x (List.mem_of_mem_drop (List.mem_of_mem_take hx));have hsl0 := cutV_sl hsr z n (n - 1) hrl (by omega);have hll : ((r.drop (z * (n - 1))).take z).length = z := by
        have : z * (n - 1) + z ≤ r.length := by
         rw [hrl, ← Nat.mul_succ, Nat.mul_comm, show (n - 1).succ = n by omega];exact Nat.le_refl _
        simp; omega
       have hnone := none_run k (hsl0.up hxx) hlb keys (by omega) (by omega);have hn1 : ((n : Int) - 1) = ((n - 1 : Nat) : Int) := by omega
       have hgt : 0 < n := by omega
       obtain ⟨bk, hsk, hbk, hgk, _⟩ := ixS_own ho' .i64 (n - 1) (by simp; omega) H';have hixk0 : ∀ H'', ixS 1 s (.int .i64 ((n : Int) - 1)) H'' = .ok (.pointer (some ⟨bk, (n - 1) * 1, none⟩)) H'' := fun H'' => by
        obtain ⟨b2, h1', _, _, h4'⟩ := ixS_own ho' .i64 (n - 1) (by simp; omega) H'';have : bk = b2 := by rw [hsk] at h1'; simpa using h1'
        subst this;rw [hn1]; exact h4'
       obtain ⟨p, hixk, hld⟩ : ∃ p, (∀ H'', ixS 1 s (.int .i64 ((n : Int) - 1)) H'' = .ok p H'') ∧ ldA 1 p H' = .ok (.agg #[subV 1 rv (z * (n - 1)) z]) H' := ⟨_, hixk0, ldA_row encW_len hgk hlast⟩
       generalize subV 1 rv (z * (n - 1)) z = u at hld hnone;cases hno : noneS ((r.drop (z * (n - 1))).take z) keys with
       | false =>
        have e2 : (endRows r z n keys).length = n := by simp [endRows, hno]
        rw [e2];rw [hno] at hnone;obtain ⟨b3, L, hs3, hf⟩ := ho'.freezeF encW_len 6 n (cutV_fz hfirm z n 6) (by simp) (by simp; omega);rw [List.take_of_length_le (by simp)] at hf;rw [cutV_len] at hs3;refine nrm_fz (v := s) (H' := H') ?_ (by rw [hs3]; exact hf n) hxx (cutV_alive hsr z n n hrl (Nat.le_refl _));simp -implicitDefEqProofs (disch := omega) [seek_Take, hqa, hu1, hu2, hcut, h4, hrows, hloop, seek_Take_l1k_x0, hgt, hixk, hld, hnone]
       | true =>
        have e2 : (endRows r z n keys).length = n - 1 := by rw [endRows, if_pos ⟨by omega, hno⟩]; simp
        rw [e2, ← cutV_take];rw [hno] at hnone;obtain ⟨b3, L, hs3, hf⟩ := ho'.freezeF encW_len 6 (n - 1) (cutV_fz hfirm z n 6) (by simp) (by simp; omega);have hb3 : bk = b3 := by rw [hsk] at hs3; simpa using hs3
        subst hb3;have hsl := slS_own hgk .i64 (n - 1) (by simp);rw [cutV_len, ← hn1] at hsl;rw [cutV_len] at hsk;refine nrm_fz (v := .slice (some ⟨bk, 0, none⟩) (n - 1) n) (H' := H') ?_ (hf n) hxx (by rw [cutV_take]; exact cutV_alive hsr z n (n - 1) hrl (by omega));subst hsk;simp -implicitDefEqProofs (disch := omega) [seek_Take, hqa, hu1, hu2, hcut, h4, hrows, hloop, seek_Take_l1k_x0, hgt, hixk, hld, hnone, hsl]
    ·have e : takeS b i need keys = none := by unfold takeS; rw [h1, h2]; simp [h4]
     rw [e];refine nrm_throw ⟨_, ?_, ext1⟩ Flat.fail.alive;simp -implicitDefEqProofs (disch := omega) [seek_Take, hqa, hu1, hu2, hcut, h4]
end Go.Sw
end
section
set_option maxRecDepth 100000
set_option linter.unusedVariables false
namespace Go.Sw
noncomputable section
def swashref01_U_l1 (k : Nat) (call : Caller) : Env → Heap → Res (AExit × Env) := loopB (C k) call F.swashref01_U [1, 1, 1, 0, 1, 0, 0]
def swashref01_U_l1k (k : Nat) (call : Caller) : Kont Value := kBlock 0 (kSeq (pieceK (C k) call F.swashref01_U [1, 1, 1, 1]) (kDone Prog (resOf Prog F.swashref01_U)))
def swashref01_U (k : Nat) (call : Caller) (a0 a1 a2 : Value) (h : Heap) : Res Value :=
 (builtinV Prog .len [31] [a0] h).bind fun v1 h2 =>
 (call F.swashref01_In [v1, a1, a2] h2).bind fun v3 h4 =>
 (unR .not v3 h4).bind fun v5 h6 =>
 condV (some v5) (
 .ok (.int .i64 (-1)) h6)
 (
 (loopN (swashref01_U_l1 k call) loopFuel [(0, a0), (1, a1), (2, a2), (7, (.int .i64 0)), (8, (.int .i64 0))] h6).bind fun r7 h8 =>
 swashref01_U_l1k k call r7.1 r7.2 h8)
theorem swashref01_U_R (k : Nat) (a0 a1 a2 : Value) (h : Heap) : R (T k) F.swashref01_U [a0, a1, a2] h = nrm .gc h (swashref01_U k (R (T k)) a0 a1 a2 h) :=
 (R_body (t := T k) (T_scott k) (by kernel_rfl) (by kernel_rfl) _ _).trans (by kernel_rfl)
theorem swashref01_U_l1_eq (k : Nat) (call : Caller) (a0 a1 a2 a7 a8 : Value) (h : Heap) : swashref01_U_l1 k call [(0, a0), (1, a1), (2, a2), (7, a7), (8, a8)] h =
 (binR Prog .lss 3 a8 a2 h).bind fun v9 h10 =>
 condV (some v9) (
 (binR Prog .mul 3 (.int .i64 256) a7 h10).bind fun v11 h12 =>
 (binR Prog .add 3 a1 a8 h12).bind fun v13 h14 =>
 (indexAddrR Prog 31 a0 v13 h14).bind fun v15 h16 =>
 (loadR Prog 5 v15 h16).bind fun v17 h18 =>
 (convR Prog 5 3 v17 h18).bind fun v19 h20 =>
 (binR Prog .add 3 v11 v19 h20).bind fun v21 h22 =>
 (binR Prog .add 3 a8 (.int .i64 1) h22).bind fun v23 h24 =>
 .ok (.normal, [(0, a0), (1, a1), (2, a2), (7, v21), (8, v23)]) h24)
 (
 .ok ((.exit 0), [(0, a0), (1, a1), (2, a2), (7, a7), (8, a8), (17, v9)]) h10) :=
 (loopB_eq _ _).trans (by kernel_rfl)
theorem swashref01_U_l1k_x0 (k : Nat) (call : Caller) (a0 a1 a2 a7 a8 a17 : Value) (h : Heap) : swashref01_U_l1k k call (.exit 0) [(0, a0), (1, a1), (2, a2), (7, a7), (8, a8), (17, a17)] h =
 .ok a7 h := by kernel_rfl
def swashref01_In (k : Nat) (call : Caller) (a0 a1 a2 : Value) (h : Heap) : Res Value :=
 (binR Prog .geq 3 a1 (.int .i64 0) h).bind fun v1 h2 =>
 ((bif wantVal v1 true then Res.ok a2 h2 else Res.ok undef h2)).bind fun v3 h4 =>
 ((bif wantVal v1 true then binR Prog .geq 3 v3 (.int .i64 0) h4 else Res.ok undef h4)).bind fun v5 h6 =>
 (condV (some v1) (Res.ok v5 h6) (Res.ok (.bool false) h6)).bind fun v7 h8 =>
 ((bif wantVal v7 true then Res.ok a1 h8 else Res.ok undef h8)).bind fun v9 h10 =>
 ((bif wantVal v7 true then Res.ok a0 h10 else Res.ok undef h10)).bind fun v11 h12 =>
 ((bif wantVal v7 true then binR Prog .leq 3 v9 v11 h12 else Res.ok undef h12)).bind fun v13 h14 =>
 (condV (some v7) (Res.ok v13 h14) (Res.ok (.bool false) h14)).bind fun v15 h16 =>
 ((bif wantVal v15 true then Res.ok a2 h16 else Res.ok undef h16)).bind fun v17 h18 =>
 ((bif wantVal v15 true then Res.ok a0 h18 else Res.ok undef h18)).bind fun v19 h20 =>
 ((bif wantVal v15 true then Res.ok a1 h20 else Res.ok undef h20)).bind fun v21 h22 =>
 ((bif wantVal v15 true then binR Prog .sub 3 v19 v21 h22 else Res.ok undef h22)).bind fun v23 h24 =>
 ((bif wantVal v15 true then binR Prog .leq 3 v17 v23 h24 else Res.ok undef h24)).bind fun v25 h26 =>
 (condV (some v15) (Res.ok v25 h26) (Res.ok (.bool false) h26)).bind fun v27 h28 =>
 .ok v27 h28
theorem swashref01_In_R (k : Nat) (a0 a1 a2 : Value) (h : Heap) : R (T k) F.swashref01_In [a0, a1, a2] h = nrm .gc h (swashref01_In k (R (T k)) a0 a1 a2 h) :=
 (R_body (t := T k) (T_scott k) (by kernel_rfl) (by kernel_rfl) _ _).trans (by kernel_rfl)
def swashref01_Rows (k : Nat) (call : Caller) (a0 a1 a2 a3 : Value) (h : Heap) : Res Value :=
 (binR Prog .lss 3 a1 (.int .i64 0) h).bind fun v1 h2 =>
 ((bif wantVal v1 false then Res.ok a2 h2 else Res.ok undef h2)).bind fun v3 h4 =>
 ((bif wantVal v1 false then binR Prog .lss 3 v3 (.int .i64 0) h4 else Res.ok undef h4)).bind fun v5 h6 =>
 (condV (some v1) (Res.ok (.bool true) h6) (Res.ok v5 h6)).bind fun v7 h8 =>
 ((bif wantVal v7 false then Res.ok a3 h8 else Res.ok undef h8)).bind fun v9 h10 =>
 ((bif wantVal v7 false then binR Prog .lss 3 v9 (.int .i64 0) h10 else Res.ok undef h10)).bind fun v11 h12 =>
 (condV (some v7) (Res.ok (.bool true) h12) (Res.ok v11 h12)).bind fun v13 h14 =>
 ((bif wantVal v13 false then Res.ok a1 h14 else Res.ok undef h14)).bind fun v15 h16 =>
 ((bif wantVal v13 false then Res.ok a0 h16 else Res.ok undef h16)).bind fun v17 h18 =>
 ((bif wantVal v13 false then binR Prog .gtr 3 v15 v17 h18 else Res.ok undef h18)).bind fun v19 h20 =>
 (condV (some v13) (Res.ok (.bool true) h20) (Res.ok v19 h20)).bind fun v21 h22 =>
 condV (some v21) (
 .ok (.bool false) h22)
 (
 (binR Prog .eql 3 a3 (.int .i64 0) h22).bind fun v23 h24 =>
 ((bif wantVal v23 false then Res.ok a2 h24 else Res.ok undef h24)).bind fun v25 h26 =>
 ((bif wantVal v23 false then Res.ok a0 h26 else Res.ok undef h26)).bind fun v27 h28 =>
 ((bif wantVal v23 false then Res.ok a1 h28 else Res.ok undef h28)).bind fun v29 h30 =>
 ((bif wantVal v23 false then binR Prog .sub 3 v27 v29 h30 else Res.ok undef h30)).bind fun v31 h32 =>
 ((bif wantVal v23 false then Res.ok a3 h32 else Res.ok undef h32)).bind fun v33 h34 =>
 ((bif wantVal v23 false then binR Prog .quo 3 v31 v33 h34 else Res.ok undef h34)).bind fun v35 h36 =>
 ((bif wantVal v23 false then binR Prog .leq 3 v25 v35 h36 else Res.ok undef h36)).bind fun v37 h38 =>
 (condV (some v23) (Res.ok (.bool true) h38) (Res.ok v37 h38)).bind fun v39 h40 =>
 .ok v39 h40)
theorem swashref01_Rows_R (k : Nat) (a0 a1 a2 a3 : Value) (h : Heap) : R (T k) F.swashref01_Rows [a0, a1, a2, a3] h = nrm .gc h (swashref01_Rows k (R (T k)) a0 a1 a2 a3 h) :=
 (R_body (t := T k) (T_scott k) (by kernel_rfl) (by kernel_rfl) _ _).trans (by kernel_rfl)
end
end Go.Sw
end
