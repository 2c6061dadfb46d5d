/-
  The functions of the package place. Printed by SwGenMain.
-/
import Derived.Test.YtnaodjnimkndbaaSwCfg
set_option maxRecDepth 100000
set_option linter.unusedVariables false
namespace Go.Sw
noncomputable section
def place_Clamp (k : Nat) (call : Caller) (a0 : Value) (h : Heap) : Res Value :=
  (builtinV Prog .max [3, 3] [a0, (.int .i64 (-2147483648))] h).bind fun v1 h2 =>
  (builtinV Prog .min [3, 3] [v1, (.int .i64 2147483647)] h2).bind fun v3 h4 =>
  (convR Prog 3 21 v3 h4).bind fun v5 h6 =>
  .ok v5 h6
theorem place_Clamp_R (k : Nat) (a0 : Value) (h : Heap) : R (T k) F.place_Clamp [a0] h = nrm .gc h (place_Clamp k (R (T k)) a0 h) :=
  (R_body (t := T k) (T_scott k) (by kernel_rfl) _ _).trans (by kernel_rfl)
def place_Add (k : Nat) (call : Caller) (a0 a1 : Value) (h : Heap) : Res Value :=
  (convR Prog 21 3 a0 h).bind fun v1 h2 =>
  (call F.place_Clamp [a1] h2).bind fun v3 h4 =>
  (convR Prog 21 3 v3 h4).bind fun v5 h6 =>
  (binR Prog .add 3 v1 v5 h6).bind fun v7 h8 =>
  (call F.place_Clamp [v7] h8).bind fun v9 h10 =>
  .ok v9 h10
theorem place_Add_R (k : Nat) (a0 a1 : Value) (h : Heap) : R (T k) F.place_Add [a0, a1] h = nrm .gc h (place_Add k (R (T k)) a0 a1 h) :=
  (R_body (t := T k) (T_scott k) (by kernel_rfl) _ _).trans (by kernel_rfl)
def place_New_l1 (k : Nat) (call : Caller) : Env → Heap → Res (AExit × Env) := loopB (C k) call F.place_New [1, 1, 0, 1, 0, 0]
def place_New_l1k (k : Nat) (call : Caller) : Kont Value := kBlock 0 (kSeq (pieceK (C k) call F.place_New [1, 1, 1]) (kDone Prog (resOf Prog F.place_New)))
def place_New (k : Nat) (call : Caller) (a0 a1 : Value) (h : Heap) : Res Value :=
  (binR Prog .eql 3 a0 (.int .i64 2) h).bind fun v1 h2 =>
  (buildR Prog 212 [(0, v1)] h2).bind fun v3 h4 =>
  (boxR v3 h4).bind fun v5 h6 =>
  (builtinV Prog .len [28] [a1] h6).bind fun v7 h8 =>
  (loopN (place_New_l1 k call) loopFuel [(5, v5), (12, a1), (13, v7), (14, (.int .i64 0))] h8).bind fun r9 h10 =>
  place_New_l1k k call r9.1 r9.2 h10
theorem place_New_R (k : Nat) (a0 a1 : Value) (h : Heap) : R (T k) F.place_New [a0, a1] h = nrm .no h (place_New k (R (T k)) a0 a1 h) :=
  (R_body (t := T k) (T_scott k) (by kernel_rfl) _ _).trans (by kernel_rfl)
theorem place_New_l1_eq (k : Nat) (call : Caller) (a5 a12 a13 a14 : Value) (h : Heap) : place_New_l1 k call [(5, a5), (12, a12), (13, a13), (14, a14)] h =
  (binR Prog .lss 3 a14 a13 h).bind fun v11 h12 =>
  condV (some v11) (
    (indexAddrR Prog 28 a12 a14 h12).bind fun v13 h14 =>
    (loadR Prog 3 v13 h14).bind fun v15 h16 =>
    (nilR a5 h16).bindN fun v17 h18 =>
    (fieldAddrR Prog 212 v17 1 h18).bindN fun v19 h20 =>
    (loadR Prog 31 v19 h20).bindN fun v21 h22 =>
    (call F.place_Clamp [v15] h22).bindT (fun p25 h26 => .panic p25 h26) fun v23 h24 =>
    (buildR Prog 34 [(0, v23)] h24).bindN fun v27 h28 =>
    (buildSliceR Prog 31 1 [(0, v27)] h28).bindN fun v29 h30 =>
    (builtinV Prog .append [31, 31] [v21, v29] h30).bindN fun v31 h32 =>
    (nilR a5 h32).bindN fun v33 h34 =>
    (fieldAddrR Prog 212 v33 1 h34).bindN fun v35 h36 =>
    (storeR Prog 31 v35 v31 h36).bindN fun _v37 h38 =>
    chkR ((okVal (loadR Prog 31 v19 h24) v21 && (okVal (loadR Prog 31 v19 h30) v21 && true)) && true) (
    (binR Prog .add 3 a14 (.int .i64 1) h38).bind fun v39 h40 =>
    .ok (.normal, [(5, a5), (12, a12), (13, a13), (14, v39)]) h40))
  (
    .ok ((.exit 0), [(5, a5), (12, a12), (13, a13), (14, a14), (15, v11)]) h12) :=
  (loopB_eq _ _).trans (by kernel_rfl)
theorem place_New_l1k_x0 (k : Nat) (call : Caller) (a5 a12 a13 a14 a15 : Value) (h : Heap) : place_New_l1k k call (.exit 0) [(5, a5), (12, a12), (13, a13), (14, a14), (15, a15)] h =
  .ok a5 h := by kernel_rfl
def place_Places_All (k : Nat) (call : Caller) (a0 : Value) (h : Heap) : Res Value :=
  (nilR a0 h).bind fun v1 h2 =>
  (fieldAddrR Prog 212 v1 1 h2).bind fun v3 h4 =>
  (loadR Prog 31 v3 h4).bind fun v5 h6 =>
  (call F.slices_Clone_of_api_Place_api_Place [v5] h6).bind fun v7 h8 =>
  .ok v7 h8
theorem place_Places_All_R (k : Nat) (a0 : Value) (h : Heap) : R (T k) F.place_Places_All [a0] h = nrm (own k) h (place_Places_All k (R (T k)) a0 h) :=
  (R_body (t := T k) (T_scott k) (by kernel_rfl) _ _).trans (by kernel_rfl)
def place_Places_Along (k : Nat) (call : Caller) (a0 a1 a2 : Value) (h : Heap) : Res Value :=
  (call F.place_Places_at [a0, a1] h).bind fun v1 h2 =>
  (nilR v1 h2).bind fun v3 h4 =>
  (fieldAddrR Prog 34 v3 0 h4).bind fun v5 h6 =>
  (loadR Prog 21 v5 h6).bind fun v7 h8 =>
  (call F.place_Add [v7, a2] h8).bind fun v9 h10 =>
  (nilR v1 h10).bind fun v11 h12 =>
  (fieldAddrR Prog 34 v11 0 h12).bind fun v13 h14 =>
  (storeR Prog 21 v13 v9 h14).bind fun _v15 h16 =>
  .ok (.tuple #[]) h16
theorem place_Places_Along_R (k : Nat) (a0 a1 a2 : Value) (h : Heap) : R (T k) F.place_Places_Along [a0, a1, a2] h = nrm .no h (place_Places_Along k (R (T k)) a0 a1 a2 h) :=
  (R_body (t := T k) (T_scott k) (by kernel_rfl) _ _).trans (by kernel_rfl)
def place_Places_Across (k : Nat) (call : Caller) (a0 a1 a2 : Value) (h : Heap) : Res Value :=
  (call F.place_Places_side [a0, a1] h).bind fun v1 h2 =>
  (nilR v1 h2).bind fun v3 h4 =>
  (loadR Prog 21 v3 h4).bind fun v5 h6 =>
  (call F.place_Add [v5, a2] h6).bind fun v7 h8 =>
  (nilR v1 h8).bind fun v9 h10 =>
  (storeR Prog 21 v9 v7 h10).bind fun _v11 h12 =>
  .ok (.tuple #[]) h12
theorem place_Places_Across_R (k : Nat) (a0 a1 a2 : Value) (h : Heap) : R (T k) F.place_Places_Across [a0, a1, a2] h = nrm .no h (place_Places_Across k (R (T k)) a0 a1 a2 h) :=
  (R_body (t := T k) (T_scott k) (by kernel_rfl) _ _).trans (by kernel_rfl)
def place_Places_Level (k : Nat) (call : Caller) (a0 a1 : Value) (h : Heap) : Res Value :=
  (call F.place_Places_side [a0, a1] h).bind fun v1 h2 =>
  (nilR v1 h2).bind fun v3 h4 =>
  (storeR Prog 21 v3 (.int .i32 0) h4).bind fun _v5 h6 =>
  .ok (.tuple #[]) h6
theorem place_Places_Level_R (k : Nat) (a0 a1 : Value) (h : Heap) : R (T k) F.place_Places_Level [a0, a1] h = nrm .no h (place_Places_Level k (R (T k)) a0 a1 h) :=
  (R_body (t := T k) (T_scott k) (by kernel_rfl) _ _).trans (by kernel_rfl)
def place_Places_Shift (k : Nat) (call : Caller) (a0 a1 a2 a3 : Value) (h : Heap) : Res Value :=
  (call F.place_Places_at [a0, a1] h).bind fun v1 h2 =>
  (nilR v1 h2).bindN fun v3 h4 =>
  (fieldAddrR Prog 34 v3 1 h4).bindN fun v5 h6 =>
  (loadR Prog 21 v5 h6).bindN fun v7 h8 =>
  (call F.place_Add [v7, a2] h8).bindT (fun p11 h12 => (nilR v1 h8).bindN fun v13 h14 => (fieldAddrR Prog 34 v13 2 h14).bindN fun v15 h16 => (loadR Prog 21 v15 h16).bindN fun v17 h18 => chkR ((okVal (loadR Prog 21 v15 h2) v17 && true) && true) (.panic p11 h12)) fun v9 h10 =>
  (nilR v1 h10).bindN fun v19 h20 =>
  (fieldAddrR Prog 34 v19 2 h20).bindN fun v21 h22 =>
  (loadR Prog 21 v21 h22).bindN fun v23 h24 =>
  (call F.place_Add [v23, a3] h24).bindT (fun p27 h28 => chkR ((okVal (loadR Prog 21 v21 h2) v23 && true) && true) (.panic p27 h28)) fun v25 h26 =>
  (nilR v1 h26).bindN fun v29 h30 =>
  (fieldAddrR Prog 34 v29 1 h30).bindN fun v31 h32 =>
  (storeR Prog 21 v31 v9 h32).bindN fun _v33 h34 =>
  (nilR v1 h34).bindN fun v35 h36 =>
  (fieldAddrR Prog 34 v35 2 h36).bindN fun v37 h38 =>
  (storeR Prog 21 v37 v25 h38).bindN fun _v39 h40 =>
  chkR ((okVal (loadR Prog 21 v21 h2) v23 && true) && true) (
  .ok (.tuple #[]) h40)
theorem place_Places_Shift_R (k : Nat) (a0 a1 a2 a3 : Value) (h : Heap) : R (T k) F.place_Places_Shift [a0, a1, a2, a3] h = nrm .no h (place_Places_Shift k (R (T k)) a0 a1 a2 a3 h) :=
  (R_body (t := T k) (T_scott k) (by kernel_rfl) _ _).trans (by kernel_rfl)
def place_Places_Turn (k : Nat) (call : Caller) (a0 : Value) (h : Heap) : Res Value :=
  (nilR a0 h).bind fun v1 h2 =>
  (fieldAddrR Prog 212 v1 1 h2).bind fun v3 h4 =>
  (loadR Prog 31 v3 h4).bind fun v5 h6 =>
  (call F.slices_Reverse_of_api_Place_api_Place [v5] h6).bind fun v7 h8 =>
  .ok (.tuple #[]) h8
theorem place_Places_Turn_R (k : Nat) (a0 : Value) (h : Heap) : R (T k) F.place_Places_Turn [a0] h = nrm .no h (place_Places_Turn k (R (T k)) a0 h) :=
  (R_body (t := T k) (T_scott k) (by kernel_rfl) _ _).trans (by kernel_rfl)
def place_Places_Len (k : Nat) (call : Caller) (a0 : Value) (h : Heap) : Res Value :=
  (nilR a0 h).bind fun v1 h2 =>
  (fieldAddrR Prog 212 v1 1 h2).bind fun v3 h4 =>
  (loadR Prog 31 v3 h4).bind fun v5 h6 =>
  (builtinV Prog .len [31] [v5] h6).bind fun v7 h8 =>
  .ok v7 h8
theorem place_Places_Len_R (k : Nat) (a0 : Value) (h : Heap) : R (T k) F.place_Places_Len [a0] h = nrm .gc h (place_Places_Len k (R (T k)) a0 h) :=
  (R_body (t := T k) (T_scott k) (by kernel_rfl) _ _).trans (by kernel_rfl)
def place_Places_at (k : Nat) (call : Caller) (a0 a1 : Value) (h : Heap) : Res Value :=
  (binR Prog .lss 3 a1 (.int .i64 0) h).bind fun v1 h2 =>
  ((bif wantVal v1 false then Res.ok a1 h2 else Res.ok undef h2)).bind fun v3 h4 =>
  ((bif wantVal v1 false then Res.ok a0 h4 else Res.ok undef h4)).bind fun v5 h6 =>
  ((bif wantVal v1 false then nilR v5 h6 else Res.ok undef h6)).bind fun v7 h8 =>
  ((bif wantVal v1 false then fieldAddrR Prog 212 v7 1 h8 else Res.ok undef h8)).bind fun v9 h10 =>
  ((bif wantVal v1 false then loadR Prog 31 v9 h10 else Res.ok undef h10)).bind fun v11 h12 =>
  ((bif wantVal v1 false then builtinV Prog .len [31] [v11] h12 else Res.ok undef h12)).bind fun v13 h14 =>
  ((bif wantVal v1 false then binR Prog .geq 3 v3 v13 h14 else Res.ok undef h14)).bind fun v15 h16 =>
  (condV (some v1) (Res.ok (.bool true) h16) (Res.ok v15 h16)).bind fun v17 h18 =>
  condV (some v17) (
    (allocR Prog 34 h18).bind fun v19 h20 =>
    .ok v19 h20)
  (
    (nilR a0 h18).bind fun v21 h22 =>
    (fieldAddrR Prog 212 v21 1 h22).bind fun v23 h24 =>
    (loadR Prog 31 v23 h24).bind fun v25 h26 =>
    (indexAddrR Prog 31 v25 a1 h26).bind fun v27 h28 =>
    .ok v27 h28)
theorem place_Places_at_R (k : Nat) (a0 a1 : Value) (h : Heap) : R (T k) F.place_Places_at [a0, a1] h = nrm .no h (place_Places_at k (R (T k)) a0 a1 h) :=
  (R_body (t := T k) (T_scott k) (by kernel_rfl) _ _).trans (by kernel_rfl)
def place_Places_side (k : Nat) (call : Caller) (a0 a1 : Value) (h : Heap) : Res Value :=
  (call F.place_Places_at [a0, a1] h).bind fun v1 h2 =>
  (nilR a0 h2).bind fun v3 h4 =>
  (fieldAddrR Prog 212 v3 0 h4).bind fun v5 h6 =>
  (loadR Prog 4 v5 h6).bind fun v7 h8 =>
  condV (some v7) (
    (nilR v1 h8).bind fun v9 h10 =>
    (fieldAddrR Prog 34 v9 1 h10).bind fun v11 h12 =>
    .ok v11 h12)
  (
    (nilR v1 h8).bind fun v13 h14 =>
    (fieldAddrR Prog 34 v13 2 h14).bind fun v15 h16 =>
    .ok v15 h16)
theorem place_Places_side_R (k : Nat) (a0 a1 : Value) (h : Heap) : R (T k) F.place_Places_side [a0, a1] h = nrm .no h (place_Places_side k (R (T k)) a0 a1 h) :=
  (R_body (t := T k) (T_scott k) (by kernel_rfl) _ _).trans (by kernel_rfl)
end
end Go.Sw
