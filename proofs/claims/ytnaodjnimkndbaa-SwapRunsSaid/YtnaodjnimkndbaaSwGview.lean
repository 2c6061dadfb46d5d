/-
  The functions of the package view. Printed by SwGenMain.
-/
import Derived.Test.YtnaodjnimkndbaaSwCfg
set_option maxRecDepth 100000
set_option linter.unusedVariables false
namespace Go.Sw
noncomputable section
def view_Of (k : Nat) (call : Caller) (a0 : Value) (h : Heap) : Res Value :=
  (allocR Prog 83 h).bind fun v1 h2 =>
  (buildR Prog 83 [(0, a0)] h2).bind fun v3 h4 =>
  (storeR Prog 83 v1 v3 h4).bind fun _v5 h6 =>
  (loadR Prog 83 v1 h6).bind fun v7 h8 =>
  .ok v7 h8
theorem view_Of_R (k : Nat) (a0 : Value) (h : Heap) : R (T k) F.view_Of [a0] h = nrm .gc h (view_Of k (R (T k)) a0 h) :=
  (R_body (t := T k) (T_scott k) (by kernel_rfl) _ _).trans (by kernel_rfl)
def view_View_U16 (k : Nat) (call : Caller) (a0 a1 : Value) (h : Heap) : Res Value :=
  (boxR a0 h).bind fun v1 h2 =>
  (loadR Prog 83 v1 h2).bind fun v3 h4 =>
  (call F.view_View_piece [v3, a1, (.int .i64 2)] h4).bind fun v5 h6 =>
  (indexAddrR Prog 65 v5 (.int .i64 0) h6).bindN fun v7 h8 =>
  (loadR Prog 5 v7 h8).bindN fun v9 h10 =>
  (convR Prog 5 3 v9 h10).bindN fun v11 h12 =>
  (binR Prog .shl 3 v11 (.int .u64 8) h12).bindN fun v13 h14 =>
  (indexAddrR Prog 65 v5 (.int .i64 1) h14).bindN fun v15 h16 =>
  (loadR Prog 5 v15 h16).bindN fun v17 h18 =>
  (convR Prog 5 3 v17 h18).bindN fun v19 h20 =>
  (binR Prog .or 3 v13 v19 h20).bindN fun v21 h22 =>
  .ok v21 h22
theorem view_View_U16_R (k : Nat) (a0 a1 : Value) (h : Heap) : R (T k) F.view_View_U16 [a0, a1] h = nrm .gc h (view_View_U16 k (R (T k)) a0 a1 h) :=
  (R_body (t := T k) (T_scott k) (by kernel_rfl) _ _).trans (by kernel_rfl)
def view_Need (k : Nat) (call : Caller) (a0 : Value) (h : Heap) : Res Value :=
  (unR .not a0 h).bind fun v1 h2 =>
  condV (some v1) (
    (call F.view_Fail [] h2).bind fun v3 h4 =>
    .ok (.tuple #[]) h4)
  (
    .ok (.tuple #[]) h2)
theorem view_Need_R (k : Nat) (a0 : Value) (h : Heap) : R (T k) F.view_Need [a0] h = nrm .gc h (view_Need k (R (T k)) a0 h) :=
  (R_body (t := T k) (T_scott k) (by kernel_rfl) _ _).trans (by kernel_rfl)
def view_Fail (k : Nat) (call : Caller) (h : Heap) : Res Value :=
  (buildR Prog 233 [] h).bind fun v1 h2 =>
  (ifaceR Prog 233 v1 h2).bind fun v3 h4 =>
  (panicR v3 h4).bind fun _v5 h6 =>
  .ok (.tuple #[]) h6
theorem view_Fail_R (k : Nat) (h : Heap) : R (T k) F.view_Fail [] h = nrm .gc h (view_Fail k (R (T k)) h) :=
  (R_body (t := T k) (T_scott k) (by kernel_rfl) _ _).trans (by kernel_rfl)
def view_View_Bytes (k : Nat) (call : Caller) (a0 : Value) (h : Heap) : Res Value :=
  (boxR a0 h).bind fun v1 h2 =>
  (buildSliceR Prog 65 0 [] h2).bind fun v3 h4 =>
  (fieldAddrR Prog 83 v1 0 h4).bind fun v5 h6 =>
  (loadR Prog 65 v5 h6).bind fun v7 h8 =>
  (builtinV Prog .append [65, 65] [v3, v7] h8).bind fun v9 h10 =>
  .ok v9 h10
theorem view_View_Bytes_R (k : Nat) (a0 : Value) (h : Heap) : R (T k) F.view_View_Bytes [a0] h = nrm .fz h (view_View_Bytes k (R (T k)) a0 h) :=
  (R_body (t := T k) (T_scott k) (by kernel_rfl) _ _).trans (by kernel_rfl)
def view_View_U32 (k : Nat) (call : Caller) (a0 a1 : Value) (h : Heap) : Res Value :=
  (boxR a0 h).bind fun v1 h2 =>
  (loadR Prog 83 v1 h2).bind fun v3 h4 =>
  (call F.view_View_piece [v3, a1, (.int .i64 4)] h4).bind fun v5 h6 =>
  (indexAddrR Prog 65 v5 (.int .i64 0) h6).bindN fun v7 h8 =>
  (loadR Prog 5 v7 h8).bindN fun v9 h10 =>
  (convR Prog 5 3 v9 h10).bindN fun v11 h12 =>
  (binR Prog .shl 3 v11 (.int .u64 24) h12).bindN fun v13 h14 =>
  (indexAddrR Prog 65 v5 (.int .i64 1) h14).bindN fun v15 h16 =>
  (loadR Prog 5 v15 h16).bindN fun v17 h18 =>
  (convR Prog 5 3 v17 h18).bindN fun v19 h20 =>
  (binR Prog .shl 3 v19 (.int .u64 16) h20).bindN fun v21 h22 =>
  (binR Prog .or 3 v13 v21 h22).bindN fun v23 h24 =>
  (indexAddrR Prog 65 v5 (.int .i64 2) h24).bindN fun v25 h26 =>
  (loadR Prog 5 v25 h26).bindN fun v27 h28 =>
  (convR Prog 5 3 v27 h28).bindN fun v29 h30 =>
  (binR Prog .shl 3 v29 (.int .u64 8) h30).bindN fun v31 h32 =>
  (binR Prog .or 3 v23 v31 h32).bindN fun v33 h34 =>
  (indexAddrR Prog 65 v5 (.int .i64 3) h34).bindN fun v35 h36 =>
  (loadR Prog 5 v35 h36).bindN fun v37 h38 =>
  (convR Prog 5 3 v37 h38).bindN fun v39 h40 =>
  (binR Prog .or 3 v33 v39 h40).bindN fun v41 h42 =>
  .ok v41 h42
theorem view_View_U32_R (k : Nat) (a0 a1 : Value) (h : Heap) : R (T k) F.view_View_U32 [a0, a1] h = nrm .gc h (view_View_U32 k (R (T k)) a0 a1 h) :=
  (R_body (t := T k) (T_scott k) (by kernel_rfl) _ _).trans (by kernel_rfl)
def view_View_I16 (k : Nat) (call : Caller) (a0 a1 : Value) (h : Heap) : Res Value :=
  (boxR a0 h).bind fun v1 h2 =>
  (loadR Prog 83 v1 h2).bind fun v3 h4 =>
  (call F.view_View_U16 [v3, a1] h4).bind fun v5 h6 =>
  (convR Prog 3 120 v5 h6).bind fun v7 h8 =>
  (convR Prog 120 3 v7 h8).bind fun v9 h10 =>
  .ok v9 h10
theorem view_View_I16_R (k : Nat) (a0 a1 : Value) (h : Heap) : R (T k) F.view_View_I16 [a0, a1] h = nrm .gc h (view_View_I16 k (R (T k)) a0 a1 h) :=
  (R_body (t := T k) (T_scott k) (by kernel_rfl) _ _).trans (by kernel_rfl)
def view_View_Rest (k : Nat) (call : Caller) (a0 a1 : Value) (h : Heap) : Res Value :=
  (boxR a0 h).bind fun v1 h2 =>
  (allocR Prog 83 h2).bind fun v3 h4 =>
  (loadR Prog 83 v1 h4).bind fun v5 h6 =>
  (fieldAddrR Prog 83 v1 0 h6).bind fun v7 h8 =>
  (loadR Prog 65 v7 h8).bind fun v9 h10 =>
  (builtinV Prog .len [65] [v9] h10).bind fun v11 h12 =>
  (binR Prog .sub 3 v11 a1 h12).bind fun v13 h14 =>
  (builtinV Prog .max [3, 3] [v13, (.int .i64 0)] h14).bind fun v15 h16 =>
  (call F.view_View_piece [v5, a1, v15] h16).bind fun v17 h18 =>
  (buildR Prog 83 [(0, v17)] h18).bind fun v19 h20 =>
  (storeR Prog 83 v3 v19 h20).bind fun _v21 h22 =>
  (loadR Prog 83 v3 h22).bind fun v23 h24 =>
  .ok v23 h24
theorem view_View_Rest_R (k : Nat) (a0 a1 : Value) (h : Heap) : R (T k) F.view_View_Rest [a0, a1] h = nrm .gc h (view_View_Rest k (R (T k)) a0 a1 h) :=
  (R_body (t := T k) (T_scott k) (by kernel_rfl) _ _).trans (by kernel_rfl)
def view_View_Rows (k : Nat) (call : Caller) (a0 a1 a2 a3 : Value) (h : Heap) : Res Value :=
  (boxR a0 h).bind fun v1 h2 =>
  (allocR Prog 83 h2).bind fun v3 h4 =>
  (binR Prog .geq 3 a2 (.int .i64 0) h4).bind fun v5 h6 =>
  ((bif wantVal v5 true then Res.ok a3 h6 else Res.ok undef h6)).bind fun v7 h8 =>
  ((bif wantVal v5 true then binR Prog .geq 3 v7 (.int .i64 0) h8 else Res.ok undef h8)).bind fun v9 h10 =>
  (condV (some v5) (Res.ok v9 h10) (Res.ok (.bool false) h10)).bind fun v11 h12 =>
  ((bif wantVal v11 true then Res.ok a3 h12 else Res.ok undef h12)).bind fun v13 h14 =>
  ((bif wantVal v11 true then binR Prog .eql 3 v13 (.int .i64 0) h14 else Res.ok undef h14)).bind fun v15 h16 =>
  ((bif wantVal v11 true then Res.ok v15 h16 else Res.ok undef h16)).bind fun v17 h18 =>
  ((bif wantVal v17 false then Res.ok a2 h18 else Res.ok undef h18)).bind fun v19 h20 =>
  ((bif wantVal v17 false then fieldAddrR Prog 83 v1 0 h20 else Res.ok undef h20)).bind fun v21 h22 =>
  ((bif wantVal v17 false then loadR Prog 65 v21 h22 else Res.ok undef h22)).bind fun v23 h24 =>
  ((bif wantVal v17 false then builtinV Prog .len [65] [v23] h24 else Res.ok undef h24)).bind fun v25 h26 =>
  ((bif wantVal v17 false then Res.ok a3 h26 else Res.ok undef h26)).bind fun v27 h28 =>
  ((bif wantVal v17 false then binR Prog .quo 3 v25 v27 h28 else Res.ok undef h28)).bind fun v29 h30 =>
  ((bif wantVal v17 false then binR Prog .leq 3 v19 v29 h30 else Res.ok undef h30)).bind fun v31 h32 =>
  ((bif wantVal v11 true then condV (some v17) (Res.ok (.bool true) h32) (Res.ok v31 h32) else Res.ok undef h32)).bind fun v33 h34 =>
  (condV (some v11) (Res.ok v33 h34) (Res.ok (.bool false) h34)).bind fun v35 h36 =>
  (call F.view_Need [v35] h36).bind fun v37 h38 =>
  (loadR Prog 83 v1 h38).bind fun v39 h40 =>
  (binR Prog .mul 3 a2 a3 h40).bind fun v41 h42 =>
  (call F.view_View_Cut [v39, a1, v41] h42).bind fun v43 h44 =>
  (storeR Prog 83 v3 v43 h44).bind fun _v45 h46 =>
  (loadR Prog 83 v3 h46).bind fun v47 h48 =>
  .ok v47 h48
theorem view_View_Rows_R (k : Nat) (a0 a1 a2 a3 : Value) (h : Heap) : R (T k) F.view_View_Rows [a0, a1, a2, a3] h = nrm .gc h (view_View_Rows k (R (T k)) a0 a1 a2 a3 h) :=
  (R_body (t := T k) (T_scott k) (by kernel_rfl) _ _).trans (by kernel_rfl)
def view_View_piece (k : Nat) (call : Caller) (a0 a1 a2 : Value) (h : Heap) : Res Value :=
  (boxR a0 h).bind fun v1 h2 =>
  (binR Prog .geq 3 a1 (.int .i64 0) h2).bind fun v3 h4 =>
  ((bif wantVal v3 true then Res.ok a2 h4 else Res.ok undef h4)).bind fun v5 h6 =>
  ((bif wantVal v3 true then binR Prog .geq 3 v5 (.int .i64 0) h6 else Res.ok undef h6)).bind fun v7 h8 =>
  (condV (some v3) (Res.ok v7 h8) (Res.ok (.bool false) h8)).bind fun v9 h10 =>
  ((bif wantVal v9 true then Res.ok a1 h10 else Res.ok undef h10)).bind fun v11 h12 =>
  ((bif wantVal v9 true then fieldAddrR Prog 83 v1 0 h12 else Res.ok undef h12)).bind fun v13 h14 =>
  ((bif wantVal v9 true then loadR Prog 65 v13 h14 else Res.ok undef h14)).bind fun v15 h16 =>
  ((bif wantVal v9 true then builtinV Prog .len [65] [v15] h16 else Res.ok undef h16)).bind fun v17 h18 =>
  ((bif wantVal v9 true then binR Prog .leq 3 v11 v17 h18 else Res.ok undef h18)).bind fun v19 h20 =>
  (condV (some v9) (Res.ok v19 h20) (Res.ok (.bool false) h20)).bind fun v21 h22 =>
  ((bif wantVal v21 true then Res.ok a2 h22 else Res.ok undef h22)).bind fun v23 h24 =>
  ((bif wantVal v21 true then fieldAddrR Prog 83 v1 0 h24 else Res.ok undef h24)).bind fun v25 h26 =>
  ((bif wantVal v21 true then loadR Prog 65 v25 h26 else Res.ok undef h26)).bind fun v27 h28 =>
  ((bif wantVal v21 true then builtinV Prog .len [65] [v27] h28 else Res.ok undef h28)).bind fun v29 h30 =>
  ((bif wantVal v21 true then Res.ok a1 h30 else Res.ok undef h30)).bind fun v31 h32 =>
  ((bif wantVal v21 true then binR Prog .sub 3 v29 v31 h32 else Res.ok undef h32)).bind fun v33 h34 =>
  ((bif wantVal v21 true then binR Prog .leq 3 v23 v33 h34 else Res.ok undef h34)).bind fun v35 h36 =>
  (condV (some v21) (Res.ok v35 h36) (Res.ok (.bool false) h36)).bind fun v37 h38 =>
  (call F.view_Need [v37] h38).bind fun v39 h40 =>
  (fieldAddrR Prog 83 v1 0 h40).bind fun v41 h42 =>
  (loadR Prog 65 v41 h42).bind fun v43 h44 =>
  (binR Prog .add 3 a1 a2 h44).bind fun v45 h46 =>
  (binR Prog .add 3 a1 a2 h46).bind fun v47 h48 =>
  (sliceR Prog 65 v43 (some a1) (some v45) (some v47) h48).bind fun v49 h50 =>
  .ok v49 h50
theorem view_View_piece_R (k : Nat) (a0 a1 a2 : Value) (h : Heap) : R (T k) F.view_View_piece [a0, a1, a2] h = nrm .gc h (view_View_piece k (R (T k)) a0 a1 a2 h) :=
  (R_body (t := T k) (T_scott k) (by kernel_rfl) _ _).trans (by kernel_rfl)
def view_View_Cut (k : Nat) (call : Caller) (a0 a1 a2 : Value) (h : Heap) : Res Value :=
  (boxR a0 h).bind fun v1 h2 =>
  (allocR Prog 83 h2).bind fun v3 h4 =>
  (loadR Prog 83 v1 h4).bind fun v5 h6 =>
  (call F.view_View_piece [v5, a1, a2] h6).bind fun v7 h8 =>
  (buildR Prog 83 [(0, v7)] h8).bind fun v9 h10 =>
  (storeR Prog 83 v3 v9 h10).bind fun _v11 h12 =>
  (loadR Prog 83 v3 h12).bind fun v13 h14 =>
  .ok v13 h14
theorem view_View_Cut_R (k : Nat) (a0 a1 a2 : Value) (h : Heap) : R (T k) F.view_View_Cut [a0, a1, a2] h = nrm .gc h (view_View_Cut k (R (T k)) a0 a1 a2 h) :=
  (R_body (t := T k) (T_scott k) (by kernel_rfl) _ _).trans (by kernel_rfl)
def view_View_I32 (k : Nat) (call : Caller) (a0 a1 : Value) (h : Heap) : Res Value :=
  (boxR a0 h).bind fun v1 h2 =>
  (loadR Prog 83 v1 h2).bind fun v3 h4 =>
  (call F.view_View_U32 [v3, a1] h4).bind fun v5 h6 =>
  (convR Prog 3 21 v5 h6).bind fun v7 h8 =>
  (convR Prog 21 3 v7 h8).bind fun v9 h10 =>
  .ok v9 h10
theorem view_View_I32_R (k : Nat) (a0 a1 : Value) (h : Heap) : R (T k) F.view_View_I32 [a0, a1] h = nrm .gc h (view_View_I32 k (R (T k)) a0 a1 h) :=
  (R_body (t := T k) (T_scott k) (by kernel_rfl) _ _).trans (by kernel_rfl)
def view_View_U8 (k : Nat) (call : Caller) (a0 a1 : Value) (h : Heap) : Res Value :=
  (boxR a0 h).bind fun v1 h2 =>
  (loadR Prog 83 v1 h2).bind fun v3 h4 =>
  (call F.view_View_piece [v3, a1, (.int .i64 1)] h4).bind fun v5 h6 =>
  (indexAddrR Prog 65 v5 (.int .i64 0) h6).bind fun v7 h8 =>
  (loadR Prog 5 v7 h8).bind fun v9 h10 =>
  (convR Prog 5 3 v9 h10).bind fun v11 h12 =>
  .ok v11 h12
theorem view_View_U8_R (k : Nat) (a0 a1 : Value) (h : Heap) : R (T k) F.view_View_U8 [a0, a1] h = nrm .gc h (view_View_U8 k (R (T k)) a0 a1 h) :=
  (R_body (t := T k) (T_scott k) (by kernel_rfl) _ _).trans (by kernel_rfl)
end
end Go.Sw
