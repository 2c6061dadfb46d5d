/-
  The functions of the package line. Printed by SwGenMain.
-/
import Derived.Test.YtnaodjnimkndbaaSwCfg
set_option maxRecDepth 100000
set_option linter.unusedVariables false
namespace Go.Sw
noncomputable section
def line_Of (k : Nat) (call : Caller) (a0 : Value) (h : Heap) : Res Value :=
  (call F.slices_Clone_of_api_Glyph_api_Glyph [a0] h).bind fun v1 h2 =>
  (buildR Prog 220 [(0, v1)] h2).bind fun v3 h4 =>
  (boxR v3 h4).bind fun v5 h6 =>
  .ok v5 h6
theorem line_Of_R (k : Nat) (a0 : Value) (h : Heap) : R (T k) F.line_Of [a0] h = nrm .no h (line_Of k (R (T k)) a0 h) :=
  (R_body (t := T k) (T_scott k) (by kernel_rfl) _ _).trans (by kernel_rfl)
def line_Line_Glyphs (k : Nat) (call : Caller) (a0 : Value) (h : Heap) : Res Value :=
  (nilR a0 h).bind fun v1 h2 =>
  (fieldAddrR Prog 220 v1 0 h2).bind fun v3 h4 =>
  (loadR Prog 50 v3 h4).bind fun v5 h6 =>
  (call F.slices_Clone_of_api_Glyph_api_Glyph [v5] h6).bind fun v7 h8 =>
  .ok v7 h8
theorem line_Line_Glyphs_R (k : Nat) (a0 : Value) (h : Heap) : R (T k) F.line_Line_Glyphs [a0] h = nrm (own k) h (line_Line_Glyphs k (R (T k)) a0 h) :=
  (R_body (t := T k) (T_scott k) (by kernel_rfl) _ _).trans (by kernel_rfl)
def line_Line_Insert_j1 (k : Nat) (call : Caller) (a0 a1 a2 a7 : Value) (h : Heap) : Res Value :=
  kSeq (pieceK (C k) call F.line_Line_Insert [1, 1, 1, 1]) (kDone Prog (resOf Prog F.line_Line_Insert)) .normal [(0, a0), (1, a1), (2, a2), (7, a7)] h
def line_Line_Insert_j2 (k : Nat) (call : Caller) (a0 a1 a2 a7 a30 : Value) (h : Heap) : Res Value :=
  kSeq (pieceK (C k) call F.line_Line_Insert [1, 1, 1, 1]) (kDone Prog (resOf Prog F.line_Line_Insert)) .normal [(0, a0), (1, a1), (2, a2), (7, a7), (30, a30)] h
def line_Line_Insert_l1 (k : Nat) (call : Caller) : Env → Heap → Res (AExit × Env) := loopB (C k) call F.line_Line_Insert [1, 1, 1, 1, 1, 0, 1, 0, 0]
def line_Line_Insert_l1k (k : Nat) (call : Caller) : Kont Value := kBlock 0 (kSeq (pieceK (C k) call F.line_Line_Insert [1, 1, 1, 1, 1, 1]) (kDone Prog (resOf Prog F.line_Line_Insert)))
def line_Line_Insert (k : Nat) (call : Caller) (a0 a1 a2 : Value) (h : Heap) : Res Value :=
  (binR Prog .lss 3 a1 (.int .i64 0) h).bind fun v1 h2 =>
  ((bif wantVal v1 false then Res.ok a1 h2 else Res.ok undef h2)).bind fun v3 h4 =>
  ((bif wantVal v1 false then Res.ok a0 h4 else Res.ok undef h4)).bind fun v5 h6 =>
  ((bif wantVal v1 false then nilR v5 h6 else Res.ok undef h6)).bind fun v7 h8 =>
  ((bif wantVal v1 false then fieldAddrR Prog 220 v7 0 h8 else Res.ok undef h8)).bind fun v9 h10 =>
  ((bif wantVal v1 false then loadR Prog 50 v9 h10 else Res.ok undef h10)).bind fun v11 h12 =>
  ((bif wantVal v1 false then builtinV Prog .len [50] [v11] h12 else Res.ok undef h12)).bind fun v13 h14 =>
  ((bif wantVal v1 false then binR Prog .gtr 3 v3 v13 h14 else Res.ok undef h14)).bind fun v15 h16 =>
  (condV (some v1) (Res.ok (.bool true) h16) (Res.ok v15 h16)).bind fun v17 h18 =>
  condV (some v17) (
    .ok (.bool false) h18)
  (
    (call F.line_Line_At [a0, a1] h18).bind fun v19 h20 =>
    (extractR v19 0 h20).bind fun v21 h22 =>
    (extractR v19 1 h22).bind fun v23 h24 =>
    (allocR Prog 55 h24).bind fun v25 h26 =>
    (storeR Prog 55 v25 v21 h26).bind fun _v27 h28 =>
    (unR .not v23 h28).bind fun v29 h30 =>
    condV (some v29) (
      (binR Prog .sub 3 a1 (.int .i64 1) h30).bind fun v31 h32 =>
      (call F.line_Line_At [a0, v31] h32).bind fun v33 h34 =>
      (extractR v33 0 h34).bind fun v35 h36 =>
      (extractR v33 1 h36).bind fun v37 h38 =>
      (storeR Prog 55 v25 v35 h38).bind fun _v39 h40 =>
      line_Line_Insert_j1 k call a0 a1 a2 v25 h40)
    (
      line_Line_Insert_j2 k call a0 a1 a2 v25 v29 h30))
theorem line_Line_Insert_R (k : Nat) (a0 a1 a2 : Value) (h : Heap) : R (T k) F.line_Line_Insert [a0, a1, a2] h = nrm .no h (line_Line_Insert k (R (T k)) a0 a1 a2 h) :=
  (R_body (t := T k) (T_scott k) (by kernel_rfl) _ _).trans (by kernel_rfl)
theorem line_Line_Insert_j1_eq (k : Nat) (call : Caller) (a0 a1 a2 a7 : Value) (h : Heap) : line_Line_Insert_j1 k call a0 a1 a2 a7 h =
  (builtinV Prog .len [28] [a2] h).bind fun v41 h42 =>
  (loopN (line_Line_Insert_l1 k call) loopFuel [(0, a0), (1, a1), (7, a7), (9, (.slice none 0 0)), (38, a2), (39, v41), (40, (.int .i64 0))] h42).bind fun r43 h44 =>
  line_Line_Insert_l1k k call r43.1 r43.2 h44 := by kernel_rfl
theorem line_Line_Insert_j2_eq (k : Nat) (call : Caller) (a0 a1 a2 a7 a30 : Value) (h : Heap) : line_Line_Insert_j2 k call a0 a1 a2 a7 a30 h =
  (builtinV Prog .len [28] [a2] h).bind fun v45 h46 =>
  (loopN (line_Line_Insert_l1 k call) loopFuel [(0, a0), (1, a1), (7, a7), (9, (.slice none 0 0)), (38, a2), (39, v45), (40, (.int .i64 0))] h46).bind fun r47 h48 =>
  line_Line_Insert_l1k k call r47.1 r47.2 h48 := by kernel_rfl
theorem line_Line_Insert_l1_eq (k : Nat) (call : Caller) (a0 a1 a7 a9 a38 a39 a40 : Value) (h : Heap) : line_Line_Insert_l1 k call [(0, a0), (1, a1), (7, a7), (9, a9), (38, a38), (39, a39), (40, a40)] h =
  (binR Prog .lss 3 a40 a39 h).bind fun v49 h50 =>
  condV (some v49) (
    (indexAddrR Prog 28 a38 a40 h50).bind fun v51 h52 =>
    (loadR Prog 3 v51 h52).bind fun v53 h54 =>
    (fieldAddrR Prog 55 a7 1 h54).bind fun v55 h56 =>
    (loadR Prog 3 v55 h56).bind fun v57 h58 =>
    (buildR Prog 55 [(0, v53), (1, v57)] h58).bind fun v59 h60 =>
    (buildSliceR Prog 50 1 [(0, v59)] h60).bind fun v61 h62 =>
    (builtinV Prog .append [50, 50] [a9, v61] h62).bind fun v63 h64 =>
    (binR Prog .add 3 a40 (.int .i64 1) h64).bind fun v65 h66 =>
    .ok (.normal, [(0, a0), (1, a1), (7, a7), (9, v63), (38, a38), (39, a39), (40, v65)]) h66)
  (
    .ok ((.exit 0), [(0, a0), (1, a1), (7, a7), (9, a9), (38, a38), (39, a39), (40, a40), (41, v49)]) h50) :=
  (loopB_eq _ _).trans (by kernel_rfl)
theorem line_Line_Insert_l1k_x0 (k : Nat) (call : Caller) (a0 a1 a7 a9 a38 a39 a40 a41 : Value) (h : Heap) : line_Line_Insert_l1k k call (.exit 0) [(0, a0), (1, a1), (7, a7), (9, a9), (38, a38), (39, a39), (40, a40), (41, a41)] h =
  (nilR a0 h).bind fun v67 h68 =>
  (fieldAddrR Prog 220 v67 0 h68).bind fun v69 h70 =>
  (loadR Prog 50 v69 h70).bind fun v71 h72 =>
  (call F.slices_Insert_of_api_Glyph_api_Glyph [v71, a1, a9] h72).bind fun v73 h74 =>
  (nilR a0 h74).bind fun v75 h76 =>
  (fieldAddrR Prog 220 v75 0 h76).bind fun v77 h78 =>
  (storeR Prog 50 v77 v73 h78).bind fun _v79 h80 =>
  .ok (.bool true) h80 := by kernel_rfl
def line_Line_Turn (k : Nat) (call : Caller) (a0 : Value) (h : Heap) : Res Value :=
  (nilR a0 h).bind fun v1 h2 =>
  (fieldAddrR Prog 220 v1 0 h2).bind fun v3 h4 =>
  (loadR Prog 50 v3 h4).bind fun v5 h6 =>
  (call F.slices_Reverse_of_api_Glyph_api_Glyph [v5] h6).bind fun v7 h8 =>
  .ok (.tuple #[]) h8
theorem line_Line_Turn_R (k : Nat) (a0 : Value) (h : Heap) : R (T k) F.line_Line_Turn [a0] h = nrm .no h (line_Line_Turn k (R (T k)) a0 h) :=
  (R_body (t := T k) (T_scott k) (by kernel_rfl) _ _).trans (by kernel_rfl)
def line_Line_Clean (k : Nat) (call : Caller) (a0 : Value) (h : Heap) : Res Value :=
  (nilR a0 h).bind fun v1 h2 =>
  (fieldAddrR Prog 220 v1 0 h2).bind fun v3 h4 =>
  (loadR Prog 50 v3 h4).bind fun v5 h6 =>
  (call F.slices_DeleteFunc_of_api_Glyph_api_Glyph [v5, (.func (.func F.line_Line_Clean_in1) #[] #[])] h6).bind fun v7 h8 =>
  (nilR a0 h8).bind fun v9 h10 =>
  (fieldAddrR Prog 220 v9 0 h10).bind fun v11 h12 =>
  (storeR Prog 50 v11 v7 h12).bind fun _v13 h14 =>
  .ok (.tuple #[]) h14
theorem line_Line_Clean_R (k : Nat) (a0 : Value) (h : Heap) : R (T k) F.line_Line_Clean [a0] h = nrm .no h (line_Line_Clean k (R (T k)) a0 h) :=
  (R_body (t := T k) (T_scott k) (by kernel_rfl) _ _).trans (by kernel_rfl)
def line_New_l1 (k : Nat) (call : Caller) : Env → Heap → Res (AExit × Env) := loopB (C k) call F.line_New [1, 1, 0, 1, 0, 0]
def line_New_l1k (k : Nat) (call : Caller) : Kont Value := kBlock 0 (kSeq (pieceK (C k) call F.line_New [1, 1, 1]) (kDone Prog (resOf Prog F.line_New)))
def line_New (k : Nat) (call : Caller) (a0 : Value) (h : Heap) : Res Value :=
  (buildR Prog 220 [] h).bind fun v1 h2 =>
  (boxR v1 h2).bind fun v3 h4 =>
  (builtinV Prog .len [28] [a0] h4).bind fun v5 h6 =>
  (loopN (line_New_l1 k call) loopFuel [(3, v3), (8, a0), (9, v5), (10, (.int .i64 0))] h6).bind fun r7 h8 =>
  line_New_l1k k call r7.1 r7.2 h8
theorem line_New_R (k : Nat) (a0 : Value) (h : Heap) : R (T k) F.line_New [a0] h = nrm .no h (line_New k (R (T k)) a0 h) :=
  (R_body (t := T k) (T_scott k) (by kernel_rfl) _ _).trans (by kernel_rfl)
theorem line_New_l1_eq (k : Nat) (call : Caller) (a3 a8 a9 a10 : Value) (h : Heap) : line_New_l1 k call [(3, a3), (8, a8), (9, a9), (10, a10)] h =
  (binR Prog .lss 3 a10 a9 h).bind fun v9 h10 =>
  condV (some v9) (
    (indexAddrR Prog 28 a8 a10 h10).bind fun v11 h12 =>
    (loadR Prog 3 v11 h12).bind fun v13 h14 =>
    (nilR a3 h14).bind fun v15 h16 =>
    (fieldAddrR Prog 220 v15 0 h16).bind fun v17 h18 =>
    (loadR Prog 50 v17 h18).bind fun v19 h20 =>
    (buildR Prog 55 [(0, v13), (1, a10)] h20).bind fun v21 h22 =>
    (buildSliceR Prog 50 1 [(0, v21)] h22).bind fun v23 h24 =>
    (builtinV Prog .append [50, 50] [v19, v23] h24).bind fun v25 h26 =>
    (nilR a3 h26).bind fun v27 h28 =>
    (fieldAddrR Prog 220 v27 0 h28).bind fun v29 h30 =>
    (storeR Prog 50 v29 v25 h30).bind fun _v31 h32 =>
    (binR Prog .add 3 a10 (.int .i64 1) h32).bind fun v33 h34 =>
    .ok (.normal, [(3, a3), (8, a8), (9, a9), (10, v33)]) h34)
  (
    .ok ((.exit 0), [(3, a3), (8, a8), (9, a9), (10, a10), (11, v9)]) h10) :=
  (loopB_eq _ _).trans (by kernel_rfl)
theorem line_New_l1k_x0 (k : Nat) (call : Caller) (a3 a8 a9 a10 a11 : Value) (h : Heap) : line_New_l1k k call (.exit 0) [(3, a3), (8, a8), (9, a9), (10, a10), (11, a11)] h =
  .ok a3 h := by kernel_rfl
def line_Line_Len (k : Nat) (call : Caller) (a0 : Value) (h : Heap) : Res Value :=
  (nilR a0 h).bind fun v1 h2 =>
  (fieldAddrR Prog 220 v1 0 h2).bind fun v3 h4 =>
  (loadR Prog 50 v3 h4).bind fun v5 h6 =>
  (builtinV Prog .len [50] [v5] h6).bind fun v7 h8 =>
  .ok v7 h8
theorem line_Line_Len_R (k : Nat) (a0 : Value) (h : Heap) : R (T k) F.line_Line_Len [a0] h = nrm .gc h (line_Line_Len k (R (T k)) a0 h) :=
  (R_body (t := T k) (T_scott k) (by kernel_rfl) _ _).trans (by kernel_rfl)
def line_Line_At (k : Nat) (call : Caller) (a0 a1 : Value) (h : Heap) : Res Value :=
  (allocR Prog 55 h).bind fun v1 h2 =>
  (call F.line_Line_in [a0, a1] h2).bind fun v3 h4 =>
  (unR .not v3 h4).bind fun v5 h6 =>
  condV (some v5) (
    (buildR Prog 55 [] h6).bind fun v7 h8 =>
    (storeR Prog 55 v1 v7 h8).bind fun _v9 h10 =>
    (loadR Prog 55 v1 h10).bind fun v11 h12 =>
    .ok (.tuple #[v11, (.bool false)]) h12)
  (
    (nilR a0 h6).bind fun v13 h14 =>
    (fieldAddrR Prog 220 v13 0 h14).bind fun v15 h16 =>
    (loadR Prog 50 v15 h16).bind fun v17 h18 =>
    (indexAddrR Prog 50 v17 a1 h18).bind fun v19 h20 =>
    (loadR Prog 55 v19 h20).bind fun v21 h22 =>
    (storeR Prog 55 v1 v21 h22).bind fun _v23 h24 =>
    (loadR Prog 55 v1 h24).bind fun v25 h26 =>
    .ok (.tuple #[v25, (.bool true)]) h26)
theorem line_Line_At_R (k : Nat) (a0 a1 : Value) (h : Heap) : R (T k) F.line_Line_At [a0, a1] h = nrm .gc h (line_Line_At k (R (T k)) a0 a1 h) :=
  (R_body (t := T k) (T_scott k) (by kernel_rfl) _ _).trans (by kernel_rfl)
def line_Line_Clean_in1 (k : Nat) (call : Caller) (a0 : Value) (h : Heap) : Res Value :=
  (boxR a0 h).bind fun v1 h2 =>
  (fieldAddrR Prog 55 v1 0 h2).bind fun v3 h4 =>
  (loadR Prog 3 v3 h4).bind fun v5 h6 =>
  (binR Prog .eql 3 v5 (.int .i64 65535) h6).bind fun v7 h8 =>
  .ok v7 h8
theorem line_Line_Clean_in1_R (k : Nat) (a0 : Value) (h : Heap) : R (T k) F.line_Line_Clean_in1 [a0] h = nrm .no h (line_Line_Clean_in1 k (R (T k)) a0 h) :=
  (R_body (t := T k) (T_scott k) (by kernel_rfl) _ _).trans (by kernel_rfl)
def line_Line_Set (k : Nat) (call : Caller) (a0 a1 a2 : Value) (h : Heap) : Res Value :=
  (call F.line_Line_in [a0, a1] h).bind fun v1 h2 =>
  (unR .not v1 h2).bind fun v3 h4 =>
  condV (some v3) (
    .ok (.bool false) h4)
  (
    (nilR a0 h4).bind fun v5 h6 =>
    (fieldAddrR Prog 220 v5 0 h6).bind fun v7 h8 =>
    (loadR Prog 50 v7 h8).bind fun v9 h10 =>
    (indexAddrR Prog 50 v9 a1 h10).bind fun v11 h12 =>
    (fieldAddrR Prog 55 v11 0 h12).bind fun v13 h14 =>
    (storeR Prog 3 v13 a2 h14).bind fun _v15 h16 =>
    .ok (.bool true) h16)
theorem line_Line_Set_R (k : Nat) (a0 a1 a2 : Value) (h : Heap) : R (T k) F.line_Line_Set [a0, a1, a2] h = nrm .no h (line_Line_Set k (R (T k)) a0 a1 a2 h) :=
  (R_body (t := T k) (T_scott k) (by kernel_rfl) _ _).trans (by kernel_rfl)
def line_Line_Order_l1 (k : Nat) (call : Caller) : Env → Heap → Res (AExit × Env) := loopB (C k) call F.line_Line_Order [1, 1, 1, 1, 0, 1, 0, 0]
def line_Line_Order_l1k (k : Nat) (call : Caller) : Kont Value := kBlock 0 (kSeq (pieceK (C k) call F.line_Line_Order [1, 1, 1, 1, 1]) (kDone Prog (resOf Prog F.line_Line_Order)))
def line_Line_Order_l2 (k : Nat) (call : Caller) : Env → Heap → Res (AExit × Env) := loopB (C k) call F.line_Line_Order [1, 1, 1, 1, 1, 0, 1, 0, 0]
def line_Line_Order_l2k (k : Nat) (call : Caller) : Kont Value := kBlock 2 (kSeq (pieceK (C k) call F.line_Line_Order [1, 1, 1, 1, 1, 1]) (kDone Prog (resOf Prog F.line_Line_Order)))
def line_Line_Order (k : Nat) (call : Caller) (a0 a1 a2 : Value) (h : Heap) : Res Value :=
  (binR Prog .lss 3 a1 (.int .i64 0) h).bind fun v1 h2 =>
  ((bif wantVal v1 false then Res.ok a1 h2 else Res.ok undef h2)).bind fun v3 h4 =>
  ((bif wantVal v1 false then Res.ok a0 h4 else Res.ok undef h4)).bind fun v5 h6 =>
  ((bif wantVal v1 false then nilR v5 h6 else Res.ok undef h6)).bind fun v7 h8 =>
  ((bif wantVal v1 false then fieldAddrR Prog 220 v7 0 h8 else Res.ok undef h8)).bind fun v9 h10 =>
  ((bif wantVal v1 false then loadR Prog 50 v9 h10 else Res.ok undef h10)).bind fun v11 h12 =>
  ((bif wantVal v1 false then builtinV Prog .len [50] [v11] h12 else Res.ok undef h12)).bind fun v13 h14 =>
  ((bif wantVal v1 false then binR Prog .gtr 3 v3 v13 h14 else Res.ok undef h14)).bind fun v15 h16 =>
  (condV (some v1) (Res.ok (.bool true) h16) (Res.ok v15 h16)).bind fun v17 h18 =>
  ((bif wantVal v17 false then Res.ok a2 h18 else Res.ok undef h18)).bind fun v19 h20 =>
  ((bif wantVal v17 false then builtinV Prog .len [28] [v19] h20 else Res.ok undef h20)).bind fun v21 h22 =>
  ((bif wantVal v17 false then Res.ok a0 h22 else Res.ok undef h22)).bind fun v23 h24 =>
  ((bif wantVal v17 false then nilR v23 h24 else Res.ok undef h24)).bind fun v25 h26 =>
  ((bif wantVal v17 false then fieldAddrR Prog 220 v25 0 h26 else Res.ok undef h26)).bind fun v27 h28 =>
  ((bif wantVal v17 false then loadR Prog 50 v27 h28 else Res.ok undef h28)).bind fun v29 h30 =>
  ((bif wantVal v17 false then builtinV Prog .len [50] [v29] h30 else Res.ok undef h30)).bind fun v31 h32 =>
  ((bif wantVal v17 false then Res.ok a1 h32 else Res.ok undef h32)).bind fun v33 h34 =>
  ((bif wantVal v17 false then binR Prog .sub 3 v31 v33 h34 else Res.ok undef h34)).bind fun v35 h36 =>
  ((bif wantVal v17 false then binR Prog .gtr 3 v21 v35 h36 else Res.ok undef h36)).bind fun v37 h38 =>
  (condV (some v17) (Res.ok (.bool true) h38) (Res.ok v37 h38)).bind fun v39 h40 =>
  condV (some v39) (
    .ok (.bool false) h40)
  (
    (nilR a0 h40).bind fun v41 h42 =>
    (fieldAddrR Prog 220 v41 0 h42).bind fun v43 h44 =>
    (loadR Prog 50 v43 h44).bind fun v45 h46 =>
    (builtinV Prog .len [28] [a2] h46).bind fun v47 h48 =>
    (binR Prog .add 3 a1 v47 h48).bind fun v49 h50 =>
    (sliceR Prog 50 v45 (some a1) (some v49) none h50).bind fun v51 h52 =>
    (call F.slices_Clone_of_api_Glyph_api_Glyph [v51] h52).bind fun v53 h54 =>
    (builtinV Prog .len [28] [a2] h54).bind fun v55 h56 =>
    (makeSliceV Prog 210 v55 v55 h56).bind fun v57 h58 =>
    (builtinV Prog .len [28] [a2] h58).bind fun v59 h60 =>
    (loopN (line_Line_Order_l1 k call) loopFuel [(0, a0), (1, a1), (2, a2), (7, v53), (8, v57), (50, a2), (51, v59), (52, (.int .i64 0))] h60).bind fun r61 h62 =>
    line_Line_Order_l1k k call r61.1 r61.2 h62)
theorem line_Line_Order_R (k : Nat) (a0 a1 a2 : Value) (h : Heap) : R (T k) F.line_Line_Order [a0, a1, a2] h = nrm .no h (line_Line_Order k (R (T k)) a0 a1 a2 h) :=
  (R_body (t := T k) (T_scott k) (by kernel_rfl) _ _).trans (by kernel_rfl)
theorem line_Line_Order_l1_eq (k : Nat) (call : Caller) (a0 a1 a2 a7 a8 a50 a51 a52 : Value) (h : Heap) : line_Line_Order_l1 k call [(0, a0), (1, a1), (2, a2), (7, a7), (8, a8), (50, a50), (51, a51), (52, a52)] h =
  (binR Prog .lss 3 a52 a51 h).bind fun v63 h64 =>
  condV (some v63) (
    (indexAddrR Prog 28 a50 a52 h64).bind fun v65 h66 =>
    (loadR Prog 3 v65 h66).bind fun v67 h68 =>
    (binR Prog .lss 3 v67 (.int .i64 0) h68).bind fun v69 h70 =>
    ((bif wantVal v69 false then Res.ok v67 h70 else Res.ok undef h70)).bind fun v71 h72 =>
    ((bif wantVal v69 false then Res.ok a2 h72 else Res.ok undef h72)).bind fun v73 h74 =>
    ((bif wantVal v69 false then builtinV Prog .len [28] [v73] h74 else Res.ok undef h74)).bind fun v75 h76 =>
    ((bif wantVal v69 false then binR Prog .geq 3 v71 v75 h76 else Res.ok undef h76)).bind fun v77 h78 =>
    (condV (some v69) (Res.ok (.bool true) h78) (Res.ok v77 h78)).bind fun v79 h80 =>
    ((bif wantVal v79 false then Res.ok a8 h80 else Res.ok undef h80)).bind fun v81 h82 =>
    ((bif wantVal v79 false then Res.ok v67 h82 else Res.ok undef h82)).bind fun v83 h84 =>
    ((bif wantVal v79 false then indexAddrR Prog 210 v81 v83 h84 else Res.ok undef h84)).bind fun v85 h86 =>
    ((bif wantVal v79 false then loadR Prog 4 v85 h86 else Res.ok undef h86)).bind fun v87 h88 =>
    (condV (some v79) (Res.ok (.bool true) h88) (Res.ok v87 h88)).bind fun v89 h90 =>
    condV (some v89) (
      .ok (.ret, [(6, (.bool false))]) h90)
    (
      (indexAddrR Prog 210 a8 v67 h90).bind fun v91 h92 =>
      (storeR Prog 4 v91 (.bool true) h92).bind fun _v93 h94 =>
      (binR Prog .add 3 a52 (.int .i64 1) h94).bind fun v95 h96 =>
      .ok (.normal, [(0, a0), (1, a1), (2, a2), (7, a7), (8, a8), (50, a50), (51, a51), (52, v95)]) h96))
  (
    .ok ((.exit 0), [(0, a0), (1, a1), (2, a2), (7, a7), (8, a8), (50, a50), (51, a51), (52, a52), (53, v63)]) h64) :=
  (loopB_eq _ _).trans (by kernel_rfl)
theorem line_Line_Order_l1k_r (k : Nat) (call : Caller) (a6 : Value) (h : Heap) : line_Line_Order_l1k k call .ret [(6, a6)] h =
  .ok a6 h := by kernel_rfl
theorem line_Line_Order_l1k_x0 (k : Nat) (call : Caller) (a0 a1 a2 a7 a8 a50 a51 a52 a53 : Value) (h : Heap) : line_Line_Order_l1k k call (.exit 0) [(0, a0), (1, a1), (2, a2), (7, a7), (8, a8), (50, a50), (51, a51), (52, a52), (53, a53)] h =
  (builtinV Prog .len [28] [a2] h).bind fun v97 h98 =>
  (loopN (line_Line_Order_l2 k call) loopFuel [(0, a0), (1, a1), (7, a7), (74, a2), (75, v97), (76, (.int .i64 0))] h98).bind fun r99 h100 =>
  line_Line_Order_l2k k call r99.1 r99.2 h100 := by kernel_rfl
theorem line_Line_Order_l2_eq (k : Nat) (call : Caller) (a0 a1 a7 a74 a75 a76 : Value) (h : Heap) : line_Line_Order_l2 k call [(0, a0), (1, a1), (7, a7), (74, a74), (75, a75), (76, a76)] h =
  (binR Prog .lss 3 a76 a75 h).bind fun v101 h102 =>
  condV (some v101) (
    (indexAddrR Prog 28 a74 a76 h102).bind fun v103 h104 =>
    (loadR Prog 3 v103 h104).bind fun v105 h106 =>
    (nilR a0 h106).bindN fun v107 h108 =>
    (fieldAddrR Prog 220 v107 0 h108).bindN fun v109 h110 =>
    (loadR Prog 50 v109 h110).bindN fun v111 h112 =>
    (binR Prog .add 3 a1 a76 h112).bindN fun v113 h114 =>
    (indexAddrR Prog 50 a7 v105 h114).bindN fun v115 h116 =>
    (loadR Prog 55 v115 h116).bindN fun v117 h118 =>
    (indexAddrR Prog 50 v111 v113 h118).bindN fun v119 h120 =>
    (storeR Prog 55 v119 v117 h120).bindN fun _v121 h122 =>
    (binR Prog .add 3 a76 (.int .i64 1) h122).bind fun v123 h124 =>
    .ok (.normal, [(0, a0), (1, a1), (7, a7), (74, a74), (75, a75), (76, v123)]) h124)
  (
    .ok ((.exit 2), [(0, a0), (1, a1), (7, a7), (74, a74), (75, a75), (76, a76), (77, v101)]) h102) :=
  (loopB_eq _ _).trans (by kernel_rfl)
theorem line_Line_Order_l2k_x2 (k : Nat) (call : Caller) (a0 a1 a7 a74 a75 a76 a77 : Value) (h : Heap) : line_Line_Order_l2k k call (.exit 2) [(0, a0), (1, a1), (7, a7), (74, a74), (75, a75), (76, a76), (77, a77)] h =
  .ok (.bool true) h := by kernel_rfl
def line_Line_Join_l1 (k : Nat) (call : Caller) : Env → Heap → Res (AExit × Env) := loopB (C k) call F.line_Line_Join [1, 1, 0, 0]
def line_Line_Join_l1k (k : Nat) (call : Caller) : Kont Value := kBlock 0 (kDone Prog (resOf Prog F.line_Line_Join))
def line_Line_Join_j1 (k : Nat) (call : Caller) (a0 a1 a14 a15 a16 : Value) (h : Heap) : Res (AExit × Env) :=
  kSeq (pieceK (C k) call F.line_Line_Join [1, 1, 0, 0, 1, 1, 1]) (kRound (ownOf (C k) F.line_Line_Join [1, 1, 0, 0])) .normal [(0, a0), (1, a1), (14, a14), (15, a15), (16, a16)] h
def line_Line_Join_j2 (k : Nat) (call : Caller) (a0 a1 a8 a14 a15 a16 a26 : Value) (h : Heap) : Res (AExit × Env) :=
  kSeq (pieceK (C k) call F.line_Line_Join [1, 1, 0, 0, 1, 1, 1]) (kRound (ownOf (C k) F.line_Line_Join [1, 1, 0, 0])) .normal [(0, a0), (1, a1), (8, a8), (14, a14), (15, a15), (16, a16), (26, a26)] h
def line_Line_Join (k : Nat) (call : Caller) (a0 a1 a2 : Value) (h : Heap) : Res Value :=
  (call F.line_Line_in [a0, a1] h).bind fun v1 h2 =>
  (unR .not v1 h2).bind fun v3 h4 =>
  condV (some v3) (
    .ok (.tuple #[]) h4)
  (
    (builtinV Prog .len [28] [a2] h4).bind fun v5 h6 =>
    (loopN (line_Line_Join_l1 k call) loopFuel [(0, a0), (1, a1), (14, a2), (15, v5), (16, (.int .i64 0))] h6).bind fun r7 h8 =>
    line_Line_Join_l1k k call r7.1 r7.2 h8)
theorem line_Line_Join_R (k : Nat) (a0 a1 a2 : Value) (h : Heap) : R (T k) F.line_Line_Join [a0, a1, a2] h = nrm .no h (line_Line_Join k (R (T k)) a0 a1 a2 h) :=
  (R_body (t := T k) (T_scott k) (by kernel_rfl) _ _).trans (by kernel_rfl)
theorem line_Line_Join_l1_eq (k : Nat) (call : Caller) (a0 a1 a14 a15 a16 : Value) (h : Heap) : line_Line_Join_l1 k call [(0, a0), (1, a1), (14, a14), (15, a15), (16, a16)] h =
  (binR Prog .lss 3 a16 a15 h).bind fun v9 h10 =>
  condV (some v9) (
    (indexAddrR Prog 28 a14 a16 h10).bind fun v11 h12 =>
    (loadR Prog 3 v11 h12).bind fun v13 h14 =>
    (call F.line_Line_At [a0, v13] h14).bind fun v15 h16 =>
    (extractR v15 0 h16).bind fun v17 h18 =>
    (extractR v15 1 h18).bind fun v19 h20 =>
    (allocR Prog 55 h20).bind fun v21 h22 =>
    (storeR Prog 55 v21 v17 h22).bind fun _v23 h24 =>
    condV (some v19) (
      (nilR a0 h24).bindN fun v25 h26 =>
      (fieldAddrR Prog 220 v25 0 h26).bindN fun v27 h28 =>
      (loadR Prog 50 v27 h28).bindN fun v29 h30 =>
      (nilR a0 h30).bindN fun v31 h32 =>
      (fieldAddrR Prog 220 v31 0 h32).bindN fun v33 h34 =>
      (loadR Prog 50 v33 h34).bindN fun v35 h36 =>
      (indexAddrR Prog 50 v35 a1 h36).bindN fun v37 h38 =>
      (fieldAddrR Prog 55 v37 1 h38).bindN fun v39 h40 =>
      (loadR Prog 3 v39 h40).bindN fun v41 h42 =>
      (fieldAddrR Prog 55 v21 1 h42).bindN fun v43 h44 =>
      (loadR Prog 3 v43 h44).bindN fun v45 h46 =>
      (builtinV Prog .min [3, 3] [v41, v45] h46).bindN fun v47 h48 =>
      (indexAddrR Prog 50 v29 a1 h48).bindN fun v49 h50 =>
      (fieldAddrR Prog 55 v49 1 h50).bindN fun v51 h52 =>
      (storeR Prog 3 v51 v47 h52).bindN fun _v53 h54 =>
      line_Line_Join_j1 k call a0 a1 a14 a15 a16 h54)
    (
      line_Line_Join_j2 k call a0 a1 v21 a14 a15 a16 v19 h24))
  (
    .ok ((.exit 0), [(0, a0), (1, a1), (14, a14), (15, a15), (16, a16), (17, v9)]) h10) :=
  (loopB_eq _ _).trans (by kernel_rfl)
theorem line_Line_Join_j1_eq (k : Nat) (call : Caller) (a0 a1 a14 a15 a16 : Value) (h : Heap) : line_Line_Join_j1 k call a0 a1 a14 a15 a16 h =
  (binR Prog .add 3 a16 (.int .i64 1) h).bind fun v55 h56 =>
  .ok (.normal, [(0, a0), (1, a1), (14, a14), (15, a15), (16, v55)]) h56 := by kernel_rfl
theorem line_Line_Join_j2_eq (k : Nat) (call : Caller) (a0 a1 a8 a14 a15 a16 a26 : Value) (h : Heap) : line_Line_Join_j2 k call a0 a1 a8 a14 a15 a16 a26 h =
  (binR Prog .add 3 a16 (.int .i64 1) h).bind fun v57 h58 =>
  .ok (.normal, [(0, a0), (1, a1), (14, a14), (15, a15), (16, v57)]) h58 := by kernel_rfl
theorem line_Line_Join_l1k_x0 (k : Nat) (call : Caller) (a0 a1 a14 a15 a16 a17 : Value) (h : Heap) : line_Line_Join_l1k k call (.exit 0) [(0, a0), (1, a1), (14, a14), (15, a15), (16, a16), (17, a17)] h =
  .ok (.tuple #[]) h := by kernel_rfl
def line_Line_in (k : Nat) (call : Caller) (a0 a1 : Value) (h : Heap) : Res Value :=
  (binR Prog .geq 3 a1 (.int .i64 0) h).bind fun v1 h2 =>
  ((bif wantVal v1 true then Res.ok a1 h2 else Res.ok undef h2)).bind fun v3 h4 =>
  ((bif wantVal v1 true then Res.ok a0 h4 else Res.ok undef h4)).bind fun v5 h6 =>
  ((bif wantVal v1 true then nilR v5 h6 else Res.ok undef h6)).bind fun v7 h8 =>
  ((bif wantVal v1 true then fieldAddrR Prog 220 v7 0 h8 else Res.ok undef h8)).bind fun v9 h10 =>
  ((bif wantVal v1 true then loadR Prog 50 v9 h10 else Res.ok undef h10)).bind fun v11 h12 =>
  ((bif wantVal v1 true then builtinV Prog .len [50] [v11] h12 else Res.ok undef h12)).bind fun v13 h14 =>
  ((bif wantVal v1 true then binR Prog .lss 3 v3 v13 h14 else Res.ok undef h14)).bind fun v15 h16 =>
  (condV (some v1) (Res.ok v15 h16) (Res.ok (.bool false) h16)).bind fun v17 h18 =>
  .ok v17 h18
theorem line_Line_in_R (k : Nat) (a0 a1 : Value) (h : Heap) : R (T k) F.line_Line_in [a0, a1] h = nrm .gc h (line_Line_in k (R (T k)) a0 a1 h) :=
  (R_body (t := T k) (T_scott k) (by kernel_rfl) _ _).trans (by kernel_rfl)
end
end Go.Sw
