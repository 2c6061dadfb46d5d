/-
  Functions' forms, and what is proved of them, part 1.
-/
import Derived.Test.YtnaodjnimkndbaaSwCfg
import Derived.Test.YtnaodjnimkndbaaSwLib8
import Derived.Test.YtnaodjnimkndbaaSwLib9
section
set_option maxRecDepth 100000
set_option linter.unusedVariables false
namespace Go.Sw
noncomputable section
def view_Of (k : Nat) (call : Caller) (a0 : Value) (h : Heap) : Res Value :=
  (allocR Prog 83 h).bind fun v1 h2 =>
  (buildR Prog 83 [(0, a0)] h2).bind fun v3 h4 =>
  (storeR Prog 83 v1 v3 h4).bind fun _v5 h6 =>
  (loadR Prog 83 v1 h6).bind fun v7 h8 =>
  .ok v7 h8
theorem view_Of_R (k : Nat) (a0 : Value) (h : Heap) : R (T k) F.view_Of [a0] h = nrm .gc h (view_Of k (R (T k)) a0 h) :=
  (R_body (t := T k) (T_scott k) (by kernel_rfl) _ _).trans (by kernel_rfl)
def view_View_U16 (k : Nat) (call : Caller) (a0 a1 : Value) (h : Heap) : Res Value :=
  (boxR a0 h).bind fun v1 h2 =>
  (loadR Prog 83 v1 h2).bind fun v3 h4 =>
  (call F.view_View_piece [v3, a1, (.int .i64 2)] h4).bind fun v5 h6 =>
  (indexAddrR Prog 65 v5 (.int .i64 0) h6).bindN fun v7 h8 =>
  (loadR Prog 5 v7 h8).bindN fun v9 h10 =>
  (convR Prog 5 3 v9 h10).bindN fun v11 h12 =>
  (binR Prog .shl 3 v11 (.int .u64 8) h12).bindN fun v13 h14 =>
  (indexAddrR Prog 65 v5 (.int .i64 1) h14).bindN fun v15 h16 =>
  (loadR Prog 5 v15 h16).bindN fun v17 h18 =>
  (convR Prog 5 3 v17 h18).bindN fun v19 h20 =>
  (binR Prog .or 3 v13 v19 h20).bindN fun v21 h22 =>
  .ok v21 h22
theorem view_View_U16_R (k : Nat) (a0 a1 : Value) (h : Heap) : R (T k) F.view_View_U16 [a0, a1] h = nrm .gc h (view_View_U16 k (R (T k)) a0 a1 h) :=
  (R_body (t := T k) (T_scott k) (by kernel_rfl) _ _).trans (by kernel_rfl)
def view_Need (k : Nat) (call : Caller) (a0 : Value) (h : Heap) : Res Value :=
  (unR .not a0 h).bind fun v1 h2 =>
  condV (some v1) (
    (call F.view_Fail [] h2).bind fun v3 h4 =>
    .ok (.tuple #[]) h4)
  (
    .ok (.tuple #[]) h2)
theorem view_Need_R (k : Nat) (a0 : Value) (h : Heap) : R (T k) F.view_Need [a0] h = nrm .gc h (view_Need k (R (T k)) a0 h) :=
  (R_body (t := T k) (T_scott k) (by kernel_rfl) _ _).trans (by kernel_rfl)
def view_Fail (k : Nat) (call : Caller) (h : Heap) : Res Value :=
  (buildR Prog 233 [] h).bind fun v1 h2 =>
  (ifaceR Prog 233 v1 h2).bind fun v3 h4 =>
  (panicR v3 h4).bind fun _v5 h6 =>
  .ok (.tuple #[]) h6
theorem view_Fail_R (k : Nat) (h : Heap) : R (T k) F.view_Fail [] h = nrm .gc h (view_Fail k (R (T k)) h) :=
  (R_body (t := T k) (T_scott k) (by kernel_rfl) _ _).trans (by kernel_rfl)
def view_View_U32 (k : Nat) (call : Caller) (a0 a1 : Value) (h : Heap) : Res Value :=
  (boxR a0 h).bind fun v1 h2 =>
  (loadR Prog 83 v1 h2).bind fun v3 h4 =>
  (call F.view_View_piece [v3, a1, (.int .i64 4)] h4).bind fun v5 h6 =>
  (indexAddrR Prog 65 v5 (.int .i64 0) h6).bindN fun v7 h8 =>
  (loadR Prog 5 v7 h8).bindN fun v9 h10 =>
  (convR Prog 5 3 v9 h10).bindN fun v11 h12 =>
  (binR Prog .shl 3 v11 (.int .u64 24) h12).bindN fun v13 h14 =>
  (indexAddrR Prog 65 v5 (.int .i64 1) h14).bindN fun v15 h16 =>
  (loadR Prog 5 v15 h16).bindN fun v17 h18 =>
  (convR Prog 5 3 v17 h18).bindN fun v19 h20 =>
  (binR Prog .shl 3 v19 (.int .u64 16) h20).bindN fun v21 h22 =>
  (binR Prog .or 3 v13 v21 h22).bindN fun v23 h24 =>
  (indexAddrR Prog 65 v5 (.int .i64 2) h24).bindN fun v25 h26 =>
  (loadR Prog 5 v25 h26).bindN fun v27 h28 =>
  (convR Prog 5 3 v27 h28).bindN fun v29 h30 =>
  (binR Prog .shl 3 v29 (.int .u64 8) h30).bindN fun v31 h32 =>
  (binR Prog .or 3 v23 v31 h32).bindN fun v33 h34 =>
  (indexAddrR Prog 65 v5 (.int .i64 3) h34).bindN fun v35 h36 =>
  (loadR Prog 5 v35 h36).bindN fun v37 h38 =>
  (convR Prog 5 3 v37 h38).bindN fun v39 h40 =>
  (binR Prog .or 3 v33 v39 h40).bindN fun v41 h42 =>
  .ok v41 h42
theorem view_View_U32_R (k : Nat) (a0 a1 : Value) (h : Heap) : R (T k) F.view_View_U32 [a0, a1] h = nrm .gc h (view_View_U32 k (R (T k)) a0 a1 h) :=
  (R_body (t := T k) (T_scott k) (by kernel_rfl) _ _).trans (by kernel_rfl)
def view_View_Rest (k : Nat) (call : Caller) (a0 a1 : Value) (h : Heap) : Res Value :=
  (boxR a0 h).bind fun v1 h2 =>
  (allocR Prog 83 h2).bind fun v3 h4 =>
  (loadR Prog 83 v1 h4).bind fun v5 h6 =>
  (fieldAddrR Prog 83 v1 0 h6).bind fun v7 h8 =>
  (loadR Prog 65 v7 h8).bind fun v9 h10 =>
  (builtinV Prog .len [65] [v9] h10).bind fun v11 h12 =>
  (binR Prog .sub 3 v11 a1 h12).bind fun v13 h14 =>
  (builtinV Prog .max [3, 3] [v13, (.int .i64 0)] h14).bind fun v15 h16 =>
  (call F.view_View_piece [v5, a1, v15] h16).bind fun v17 h18 =>
  (buildR Prog 83 [(0, v17)] h18).bind fun v19 h20 =>
  (storeR Prog 83 v3 v19 h20).bind fun _v21 h22 =>
  (loadR Prog 83 v3 h22).bind fun v23 h24 =>
  .ok v23 h24
theorem view_View_Rest_R (k : Nat) (a0 a1 : Value) (h : Heap) : R (T k) F.view_View_Rest [a0, a1] h = nrm .gc h (view_View_Rest k (R (T k)) a0 a1 h) :=
  (R_body (t := T k) (T_scott k) (by kernel_rfl) _ _).trans (by kernel_rfl)
def view_View_Rows (k : Nat) (call : Caller) (a0 a1 a2 a3 : Value) (h : Heap) : Res Value :=
  (boxR a0 h).bind fun v1 h2 =>
  (allocR Prog 83 h2).bind fun v3 h4 =>
  (binR Prog .geq 3 a2 (.int .i64 0) h4).bind fun v5 h6 =>
  ((bif wantVal v5 true then Res.ok a3 h6 else Res.ok undef h6)).bind fun v7 h8 =>
  ((bif wantVal v5 true then binR Prog .geq 3 v7 (.int .i64 0) h8 else Res.ok undef h8)).bind fun v9 h10 =>
  (condV (some v5) (Res.ok v9 h10) (Res.ok (.bool false) h10)).bind fun v11 h12 =>
  ((bif wantVal v11 true then Res.ok a3 h12 else Res.ok undef h12)).bind fun v13 h14 =>
  ((bif wantVal v11 true then binR Prog .eql 3 v13 (.int .i64 0) h14 else Res.ok undef h14)).bind fun v15 h16 =>
  ((bif wantVal v11 true then Res.ok v15 h16 else Res.ok undef h16)).bind fun v17 h18 =>
  ((bif wantVal v17 false then Res.ok a2 h18 else Res.ok undef h18)).bind fun v19 h20 =>
  ((bif wantVal v17 false then fieldAddrR Prog 83 v1 0 h20 else Res.ok undef h20)).bind fun v21 h22 =>
  ((bif wantVal v17 false then loadR Prog 65 v21 h22 else Res.ok undef h22)).bind fun v23 h24 =>
  ((bif wantVal v17 false then builtinV Prog .len [65] [v23] h24 else Res.ok undef h24)).bind fun v25 h26 =>
  ((bif wantVal v17 false then Res.ok a3 h26 else Res.ok undef h26)).bind fun v27 h28 =>
  ((bif wantVal v17 false then binR Prog .quo 3 v25 v27 h28 else Res.ok undef h28)).bind fun v29 h30 =>
  ((bif wantVal v17 false then binR Prog .leq 3 v19 v29 h30 else Res.ok undef h30)).bind fun v31 h32 =>
  ((bif wantVal v11 true then condV (some v17) (Res.ok (.bool true) h32) (Res.ok v31 h32) else Res.ok undef h32)).bind fun v33 h34 =>
  (condV (some v11) (Res.ok v33 h34) (Res.ok (.bool false) h34)).bind fun v35 h36 =>
  (call F.view_Need [v35] h36).bind fun v37 h38 =>
  (loadR Prog 83 v1 h38).bind fun v39 h40 =>
  (binR Prog .mul 3 a2 a3 h40).bind fun v41 h42 =>
  (call F.view_View_Cut [v39, a1, v41] h42).bind fun v43 h44 =>
  (storeR Prog 83 v3 v43 h44).bind fun _v45 h46 =>
  (loadR Prog 83 v3 h46).bind fun v47 h48 =>
  .ok v47 h48
theorem view_View_Rows_R (k : Nat) (a0 a1 a2 a3 : Value) (h : Heap) : R (T k) F.view_View_Rows [a0, a1, a2, a3] h = nrm .gc h (view_View_Rows k (R (T k)) a0 a1 a2 a3 h) :=
  (R_body (t := T k) (T_scott k) (by kernel_rfl) _ _).trans (by kernel_rfl)
def view_View_piece (k : Nat) (call : Caller) (a0 a1 a2 : Value) (h : Heap) : Res Value :=
  (boxR a0 h).bind fun v1 h2 =>
  (binR Prog .geq 3 a1 (.int .i64 0) h2).bind fun v3 h4 =>
  ((bif wantVal v3 true then Res.ok a2 h4 else Res.ok undef h4)).bind fun v5 h6 =>
  ((bif wantVal v3 true then binR Prog .geq 3 v5 (.int .i64 0) h6 else Res.ok undef h6)).bind fun v7 h8 =>
  (condV (some v3) (Res.ok v7 h8) (Res.ok (.bool false) h8)).bind fun v9 h10 =>
  ((bif wantVal v9 true then Res.ok a1 h10 else Res.ok undef h10)).bind fun v11 h12 =>
  ((bif wantVal v9 true then fieldAddrR Prog 83 v1 0 h12 else Res.ok undef h12)).bind fun v13 h14 =>
  ((bif wantVal v9 true then loadR Prog 65 v13 h14 else Res.ok undef h14)).bind fun v15 h16 =>
  ((bif wantVal v9 true then builtinV Prog .len [65] [v15] h16 else Res.ok undef h16)).bind fun v17 h18 =>
  ((bif wantVal v9 true then binR Prog .leq 3 v11 v17 h18 else Res.ok undef h18)).bind fun v19 h20 =>
  (condV (some v9) (Res.ok v19 h20) (Res.ok (.bool false) h20)).bind fun v21 h22 =>
  ((bif wantVal v21 true then Res.ok a2 h22 else Res.ok undef h22)).bind fun v23 h24 =>
  ((bif wantVal v21 true then fieldAddrR Prog 83 v1 0 h24 else Res.ok undef h24)).bind fun v25 h26 =>
  ((bif wantVal v21 true then loadR Prog 65 v25 h26 else Res.ok undef h26)).bind fun v27 h28 =>
  ((bif wantVal v21 true then builtinV Prog .len [65] [v27] h28 else Res.ok undef h28)).bind fun v29 h30 =>
  ((bif wantVal v21 true then Res.ok a1 h30 else Res.ok undef h30)).bind fun v31 h32 =>
  ((bif wantVal v21 true then binR Prog .sub 3 v29 v31 h32 else Res.ok undef h32)).bind fun v33 h34 =>
  ((bif wantVal v21 true then binR Prog .leq 3 v23 v33 h34 else Res.ok undef h34)).bind fun v35 h36 =>
  (condV (some v21) (Res.ok v35 h36) (Res.ok (.bool false) h36)).bind fun v37 h38 =>
  (call F.view_Need [v37] h38).bind fun v39 h40 =>
  (fieldAddrR Prog 83 v1 0 h40).bind fun v41 h42 =>
  (loadR Prog 65 v41 h42).bind fun v43 h44 =>
  (binR Prog .add 3 a1 a2 h44).bind fun v45 h46 =>
  (binR Prog .add 3 a1 a2 h46).bind fun v47 h48 =>
  (sliceR Prog 65 v43 (some a1) (some v45) (some v47) h48).bind fun v49 h50 =>
  .ok v49 h50
theorem view_View_piece_R (k : Nat) (a0 a1 a2 : Value) (h : Heap) : R (T k) F.view_View_piece [a0, a1, a2] h = nrm .gc h (view_View_piece k (R (T k)) a0 a1 a2 h) :=
  (R_body (t := T k) (T_scott k) (by kernel_rfl) _ _).trans (by kernel_rfl)
def view_View_Cut (k : Nat) (call : Caller) (a0 a1 a2 : Value) (h : Heap) : Res Value :=
  (boxR a0 h).bind fun v1 h2 =>
  (allocR Prog 83 h2).bind fun v3 h4 =>
  (loadR Prog 83 v1 h4).bind fun v5 h6 =>
  (call F.view_View_piece [v5, a1, a2] h6).bind fun v7 h8 =>
  (buildR Prog 83 [(0, v7)] h8).bind fun v9 h10 =>
  (storeR Prog 83 v3 v9 h10).bind fun _v11 h12 =>
  (loadR Prog 83 v3 h12).bind fun v13 h14 =>
  .ok v13 h14
theorem view_View_Cut_R (k : Nat) (a0 a1 a2 : Value) (h : Heap) : R (T k) F.view_View_Cut [a0, a1, a2] h = nrm .gc h (view_View_Cut k (R (T k)) a0 a1 a2 h) :=
  (R_body (t := T k) (T_scott k) (by kernel_rfl) _ _).trans (by kernel_rfl)
def view_View_U8 (k : Nat) (call : Caller) (a0 a1 : Value) (h : Heap) : Res Value :=
  (boxR a0 h).bind fun v1 h2 =>
  (loadR Prog 83 v1 h2).bind fun v3 h4 =>
  (call F.view_View_piece [v3, a1, (.int .i64 1)] h4).bind fun v5 h6 =>
  (indexAddrR Prog 65 v5 (.int .i64 0) h6).bind fun v7 h8 =>
  (loadR Prog 5 v7 h8).bind fun v9 h10 =>
  (convR Prog 5 3 v9 h10).bind fun v11 h12 =>
  .ok v11 h12
theorem view_View_U8_R (k : Nat) (a0 a1 : Value) (h : Heap) : R (T k) F.view_View_U8 [a0, a1] h = nrm .gc h (view_View_U8 k (R (T k)) a0 a1 h) :=
  (R_body (t := T k) (T_scott k) (by kernel_rfl) _ _).trans (by kernel_rfl)
end
end Go.Sw
end
section
namespace Go.Sw
open Go.RowKit
abbrev encB (n : Int) : List Value := [.int .u8 n]
theorem encB_len (n : Int) : (encB n).length = 1 := rfl
def Byt (b : List Int) : Prop := ∀ n, n ∈ b → 0 ≤ n ∧ n < 256
abbrev failV : Value := .iface shortT (.agg #[])
abbrev vw (b : List Int) : Value := .agg #[lv encB b]
def orF {α : Type} (o : Option α) (f : α → Value) (H : Heap) : Res Value := match o with
  | some a => .ok (f a) H
  | none => .panic failV H
@[simp] theorem orF_some {α : Type} (a : α) (f : α → Value) (H : Heap) : orF (some a) f H = .ok (f a) H := rfl
@[simp] theorem orF_none {α : Type} (f : α → Value) (H : Heap) : orF (none : Option α) f H = .panic failV H := rfl
def pieceS (b : List Int) (i n : Int) : Option (List Int) := if 0 ≤ i ∧ 0 ≤ n ∧ i ≤ b.length ∧ n ≤ b.length - i then some ((b.drop i.toNat).take n.toNat) else none
def num (l : List Int) : Int := l.foldl (fun x y => 256 * x + y) 0
def uS (b : List Int) (i n : Int) : Option Int := (pieceS b i n).map num
theorem Byt.piece {b : List Int} (h : Byt b) {i n : Int} {l : List Int} (hl : pieceS b i n = some l) : Byt l ∧ (l.length : Int) = n := by
  unfold pieceS at hl
  split at hl
  · rename_i hc
    injection hl with hl; subst hl
    refine ⟨fun x hx => h x (List.mem_of_mem_drop (List.mem_of_mem_take hx)), ?_⟩
    simp
    omega
  · cases hl
theorem Flat.fail : Flat failV := .iface _ _ (.aggL .nil)
theorem Flat.unit : Flat (.tuple #[]) := .tupleL .nil
theorem Flat.B (b : List Int) : Flat (Go.Sw.lv encB b) := .lv fun n _ => .cons (.int _ _) .nil
theorem Flat.vw (b : List Int) : Flat (Go.Sw.vw b) := .aggL (.cons (.B b) .nil)
@[simp] theorem veq_B (b : List Int) : veq (Go.Sw.lv encB b) (Go.Sw.lv encB b) = true := veq_lv fun n _ v hv => by simp at hv; subst hv; simp
@[simp] theorem veq_vw (b : List Int) : veq (.agg #[Go.Sw.lv encB b]) (.agg #[Go.Sw.lv encB b]) = true := veq_agg (l := [Go.Sw.lv encB b]) fun v hv => by simp at hv; subst hv; simp
@[simp] theorem Fail_run (k : Nat) (H : Heap) : R (T k) F.view_Fail [] H = .panic failV H := by
  rw [view_Fail_R]
  refine nrm_throw ⟨H, ?_, Ext.refl H⟩ Flat.fail.alive
  simp -implicitDefEqProofs [view_Fail]
theorem Need_true (k : Nat) (H : Heap) : R (T k) F.view_Need [.bool true] H = .ok (.tuple #[]) H := by
  rw [view_Need_R]
  refine nrm_gc (Pure.of ?_) Flat.unit.alive
  simp -implicitDefEqProofs [view_Need]
theorem Need_false (k : Nat) (H : Heap) : R (T k) F.view_Need [.bool false] H = .panic failV H := by
  rw [view_Need_R]
  refine nrm_throw ⟨H, ?_, Ext.refl H⟩ Flat.fail.alive
  simp -implicitDefEqProofs [view_Need]
attribute [simp] Need_true Need_false
theorem pieceS_sl {H : Heap} {v : Value} {b l : List Int} (hv : Sl H 1 v encB b) {i n : Int} (h : pieceS b i n = some l) : Sl H 1 (subV 1 v i.toNat n.toNat) encB l := by
  unfold pieceS at h
  split at h
  · injection h with h; subst h
    exact (hv.sub encB_len .i64 .i64 .i64 i.toNat n.toNat (by omega)).2
  · cases h
theorem piece_run (k : Nat) {H : Heap} {v : Value} {b : List Int} (hv : Sl H 1 v encB b) (i n : Int) (hl : b.length < 2 ^ 62) : R (T k) F.view_View_piece [.agg #[v], .int .i64 i, .int .i64 n] H = orF (pieceS b i n) (fun _ => subV 1 v i.toNat n.toNat) H := by
  rw [view_View_piece_R]
  have bx : ∀ H : Heap, boxR (.agg #[v]) H = newP [v] H := fun _ => rfl
  have hlen := hv.len
  by_cases h1 : 0 ≤ i
  · by_cases h2 : 0 ≤ n
    · by_cases h3 : i ≤ b.length
      · by_cases h4 : n ≤ b.length - i
        · have hp : pieceS b i n = some ((b.drop i.toNat).take n.toNat) := by rw [pieceS, if_pos ⟨h1, h2, h3, h4⟩]
          rw [hp]
          obtain ⟨i', rfl⟩ := Int.eq_ofNat_of_zero_le h1
          obtain ⟨n', rfl⟩ := Int.eq_ofNat_of_zero_le h2
          rw [Int.toNat_natCast, Int.toNat_natCast]
          obtain ⟨hs, hs2⟩ := hv.sub encB_len .i64 .i64 .i64 i' n' (by omega)
          have hs := hs _ ((Ext.refl H).push ⟨[v], 1, false⟩)
          rw [show (((i' + n' : Nat) : Nat) : Int) = (i' : Int) + n' by omega] at hs
          refine nrm_gc ⟨H.push ⟨[v], 1, false⟩, ?_, (Ext.refl H).push _⟩ (hs2.alive fun _ _ => .cons (.int _ _) .nil)
          simp -implicitDefEqProofs (disch := omega) [view_View_piece, bx, hlen, h3, h4, hs]
        · have hp : pieceS b i n = none := by rw [pieceS, if_neg (fun h => h4 h.2.2.2)]
          rw [hp]
          refine nrm_throw ⟨H.push ⟨[v], 1, false⟩, ?_, (Ext.refl H).push _⟩ Flat.fail.alive
          simp -implicitDefEqProofs (disch := omega) [view_View_piece, bx, hlen, h1, h2, h3, h4]
      · have hp : pieceS b i n = none := by rw [pieceS, if_neg (fun h => h3 h.2.2.1)]
        rw [hp]
        refine nrm_throw ⟨H.push ⟨[v], 1, false⟩, ?_, (Ext.refl H).push _⟩ Flat.fail.alive
        simp -implicitDefEqProofs (disch := omega) [view_View_piece, bx, hlen, h1, h2, h3]
    · have hp : pieceS b i n = none := by rw [pieceS, if_neg (fun h => h2 h.2.1)]
      rw [hp]
      refine nrm_throw ⟨H.push ⟨[v], 1, false⟩, ?_, (Ext.refl H).push _⟩ Flat.fail.alive
      simp -implicitDefEqProofs (disch := omega) [view_View_piece, bx, hlen, h1, h2]
  · have hp : pieceS b i n = none := by rw [pieceS, if_neg (fun h => h1 h.1)]
    rw [hp]
    refine nrm_throw ⟨H.push ⟨[v], 1, false⟩, ?_, (Ext.refl H).push _⟩ Flat.fail.alive
    simp -implicitDefEqProofs (disch := omega) [view_View_piece, bx, hlen, h1]
theorem pieceS_len {b : List Int} {i n : Int} {l : List Int} (h : pieceS b i n = some l) : (l.length : Int) = n := by
  unfold pieceS at h
  split at h
  · injection h with h; subst h
    simp
    omega
  · cases h
theorem boxR_vw (v : Value) (H : Heap) : boxR (.agg #[v]) H = newP [v] H := rfl
theorem two_of {l : List Int} (h : (l.length : Int) = 2) : ∃ x y, l = [x, y] := by
  match l, h with
  | [x, y], _ => exact ⟨x, y, rfl⟩
theorem four_of {l : List Int} (h : (l.length : Int) = 4) : ∃ x y z u, l = [x, y, z, u] := by
  match l, h with
  | [x, y, z, u], _ => exact ⟨x, y, z, u, rfl⟩
theorem one_of {l : List Int} (h : (l.length : Int) = 1) : ∃ x, l = [x] := by
  match l, h with
  | [x], _ => exact ⟨x, rfl⟩
theorem U16_run (k : Nat) {H : Heap} {v : Value} {b : List Int} (hv : Sl H 1 v encB b) (hb : Byt b) (i : Int) (hl : b.length < 2 ^ 62) : R (T k) F.view_View_U16 [.agg #[v], .int .i64 i] H = orF (uS b i 2) (.int .i64) H := by
  rw [view_View_U16_R]
  have hx1 : Ext H (H.push ⟨[v], 1, false⟩) := (Ext.refl H).push _
  have hp := piece_run k (hv.up hx1) i 2 hl
  unfold uS
  cases h : pieceS b i 2 with
  | none =>
    rw [h] at hp
    refine nrm_throw ⟨_, ?_, hx1⟩ Flat.fail.alive
    simp -implicitDefEqProofs (disch := omega) [view_View_U16, hp]
  | some l =>
    have hsl := pieceS_sl (hv.up hx1) h
    generalize subV 1 v i.toNat (2 : Int).toNat = v' at hp hsl
    obtain ⟨x, y, rfl⟩ := two_of (pieceS_len h)
    rw [h] at hp
    have hx := (hb.piece h).1 x (by simp)
    have hy := (hb.piece h).1 y (by simp)
    obtain ⟨p0, i0, d0⟩ := hsl.ix1 encB_len 0 x rfl _ rfl
    obtain ⟨p1, i1, d1⟩ := hsl.ix1 encB_len 1 y rfl _ rfl
    have i0 : ∀ H', ixS 1 v' (.int .i64 0) H' = .ok p0 H' := i0 .i64
    have i1 : ∀ H', ixS 1 v' (.int .i64 1) H' = .ok p1 H' := i1 .i64
    have d0 := d0 _ (Ext.refl _)
    have d1 := d1 _ (Ext.refl _)
    refine nrm_gc ⟨_, ?_, hx1⟩ (.int _ _)
    have or1 := fun H => bin_or Prog 3 H (x * 256) y 8 (by omega) (by omega) (by omega) (by omega) (by omega)
    simp -implicitDefEqProofs (disch := omega) [view_View_U16, hp, i0, i1, d0, d1, or1, num]
    omega
theorem U8_run (k : Nat) {H : Heap} {v : Value} {b : List Int} (hv : Sl H 1 v encB b) (hb : Byt b) (i : Int) (hl : b.length < 2 ^ 62) : R (T k) F.view_View_U8 [.agg #[v], .int .i64 i] H = orF (uS b i 1) (.int .i64) H := by
  rw [view_View_U8_R]
  have hx1 : Ext H (H.push ⟨[v], 1, false⟩) := (Ext.refl H).push _
  have hp := piece_run k (hv.up hx1) i 1 hl
  unfold uS
  cases h : pieceS b i 1 with
  | none =>
    rw [h] at hp
    refine nrm_throw ⟨_, ?_, hx1⟩ Flat.fail.alive
    simp -implicitDefEqProofs (disch := omega) [view_View_U8, hp]
  | some l =>
    have hsl := pieceS_sl (hv.up hx1) h
    generalize subV 1 v i.toNat (1 : Int).toNat = v' at hp hsl
    obtain ⟨x, rfl⟩ := one_of (pieceS_len h)
    rw [h] at hp
    have hx := (hb.piece h).1 x (by simp)
    obtain ⟨p0, i0, d0⟩ := hsl.ix1 encB_len 0 x rfl _ rfl
    have i0 : ∀ H', ixS 1 v' (.int .i64 0) H' = .ok p0 H' := i0 .i64
    have d0 := d0 _ (Ext.refl _)
    refine nrm_gc ⟨_, ?_, hx1⟩ (.int _ _)
    simp -implicitDefEqProofs (disch := omega) [view_View_U8, hp, i0, d0, num]
theorem U32_run (k : Nat) {H : Heap} {v : Value} {b : List Int} (hv : Sl H 1 v encB b) (hb : Byt b) (i : Int) (hl : b.length < 2 ^ 62) : R (T k) F.view_View_U32 [.agg #[v], .int .i64 i] H = orF (uS b i 4) (.int .i64) H := by
  rw [view_View_U32_R]
  have hx1 : Ext H (H.push ⟨[v], 1, false⟩) := (Ext.refl H).push _
  have hp := piece_run k (hv.up hx1) i 4 hl
  unfold uS
  cases h : pieceS b i 4 with
  | none =>
    rw [h] at hp
    refine nrm_throw ⟨_, ?_, hx1⟩ Flat.fail.alive
    simp -implicitDefEqProofs (disch := omega) [view_View_U32, hp]
  | some l =>
    have hsl := pieceS_sl (hv.up hx1) h
    generalize subV 1 v i.toNat (4 : Int).toNat = v' at hp hsl
    obtain ⟨x, y, z, u, rfl⟩ := four_of (pieceS_len h)
    rw [h] at hp
    have hx := (hb.piece h).1 x (by simp)
    have hy := (hb.piece h).1 y (by simp)
    have hz := (hb.piece h).1 z (by simp)
    have hu := (hb.piece h).1 u (by simp)
    obtain ⟨p0, i0, d0⟩ := hsl.ix1 encB_len 0 x rfl _ rfl
    have i0 : ∀ H', ixS 1 v' (.int .i64 0) H' = .ok p0 H' := i0 .i64
    have d0 := d0 _ (Ext.refl _)
    obtain ⟨p1, i1, d1⟩ := hsl.ix1 encB_len 1 y rfl _ rfl
    have i1 : ∀ H', ixS 1 v' (.int .i64 1) H' = .ok p1 H' := i1 .i64
    have d1 := d1 _ (Ext.refl _)
    obtain ⟨p2, i2, d2⟩ := hsl.ix1 encB_len 2 z rfl _ rfl
    have i2 : ∀ H', ixS 1 v' (.int .i64 2) H' = .ok p2 H' := i2 .i64
    have d2 := d2 _ (Ext.refl _)
    obtain ⟨p3, i3, d3⟩ := hsl.ix1 encB_len 3 u rfl _ rfl
    have i3 : ∀ H', ixS 1 v' (.int .i64 3) H' = .ok p3 H' := i3 .i64
    have d3 := d3 _ (Ext.refl _)
    refine nrm_gc ⟨_, ?_, hx1⟩ (.int _ _)
    have or1 := fun H => bin_or Prog 3 H (x * 16777216) (y * 65536) 24 (by omega) (by omega) (by omega) (by omega) (by omega)
    have or2 := fun H => bin_or Prog 3 H (x * 16777216 + y * 65536) (z * 256) 16 (by omega) (by omega) (by omega) (by omega) (by omega)
    have or3 := fun H => bin_or Prog 3 H (x * 16777216 + y * 65536 + z * 256) u 8 (by omega) (by omega) (by omega) (by omega) (by omega)
    simp -implicitDefEqProofs (disch := omega) [view_View_U32, hp, i0, i1, i2, i3, d0, d1, d2, d3, or1, or2, or3, num]
    omega
theorem uS_two {b : List Int} (hb : Byt b) {i x : Int} (h : uS b i 2 = some x) : 0 ≤ x ∧ x < 65536 := by
  unfold uS at h
  obtain ⟨l, hl, rfl⟩ := Option.map_eq_some_iff.1 h
  obtain ⟨x, y, rfl⟩ := two_of (pieceS_len hl)
  have hx := (hb.piece hl).1 x (by simp)
  have hy := (hb.piece hl).1 y (by simp)
  simp [num]
  omega
theorem uS_four {b : List Int} (hb : Byt b) {i x : Int} (h : uS b i 4 = some x) : 0 ≤ x ∧ x < 4294967296 := by
  unfold uS at h
  obtain ⟨l, hl, rfl⟩ := Option.map_eq_some_iff.1 h
  obtain ⟨x, y, z, u, rfl⟩ := four_of (pieceS_len hl)
  have hx := (hb.piece hl).1 x (by simp)
  have hy := (hb.piece hl).1 y (by simp)
  have hz := (hb.piece hl).1 z (by simp)
  have hu := (hb.piece hl).1 u (by simp)
  simp [num]
  omega
theorem Cut_run (k : Nat) {H : Heap} {v : Value} {b : List Int} (hv : Sl H 1 v encB b) (i n : Int) (hl : b.length < 2 ^ 62) : R (T k) F.view_View_Cut [.agg #[v], .int .i64 i, .int .i64 n] H = orF (pieceS b i n) (fun _ => .agg #[subV 1 v i.toNat n.toNat]) H := by
  rw [view_View_Cut_R]
  have hx2 : Ext H ((H.push ⟨[v], 1, false⟩).push ⟨[.slice none 0 0], 1, false⟩) := ((Ext.refl H).push _).push _
  have hp := piece_run k (hv.up hx2) i n hl
  cases h : pieceS b i n with
  | none =>
    rw [h] at hp
    refine nrm_throw ⟨_, ?_, hx2⟩ Flat.fail.alive
    simp -implicitDefEqProofs (disch := omega) [view_View_Cut, hp]
  | some l =>
    rw [h] at hp
    have hs := pieceS_sl hv h
    generalize subV 1 v i.toNat n.toNat = v' at hp hs ⊢
    refine nrm_gc ⟨_, ?_, ((Ext.refl H).push ⟨[v], 1, false⟩).push ⟨[v'], 1, false⟩⟩ (.agg _ fun i u hu => ?_)
    · simp -implicitDefEqProofs (disch := omega) [view_View_Cut, hp, hs.storable, hs.cells]
    · match i, hu with
      | 0, hu => simp at hu; subst hu; exact hs.alive fun _ _ => .cons (.int _ _) .nil
      | i + 1, hu => simp at hu
def restS (b : List Int) (i : Int) : Option (List Int) := if 0 ≤ i ∧ i ≤ b.length then some (b.drop i.toNat) else none
theorem restS_piece (b : List Int) (i n : Int) (hn : 0 ≤ n) (h : 0 ≤ i → n = max (b.length - i) 0) : pieceS b i n = restS b i := by
  unfold pieceS restS
  by_cases h0 : 0 ≤ i
  · have := h h0
    subst this
    by_cases h1 : i ≤ b.length
    · rw [if_pos ⟨h0, by omega, h1, by omega⟩, if_pos ⟨h0, h1⟩, List.take_of_length_le (by simp; omega)]
    · rw [if_neg (by omega), if_neg (by omega)]
  · rw [if_neg (by omega), if_neg (by omega)]
theorem alive_agg {H : Heap} {v : Value} (h : Alive H v) : Alive H (.agg #[v]) := .agg _ fun i u hu => by
  match i, hu with
  | 0, hu => simp at hu; subst hu; exact h
  | i + 1, hu => simp at hu
theorem Sl.vw {H : Heap} {v : Value} {b : List Int} (hv : Sl H 1 v encB b) : Alive H (.agg #[v]) := alive_agg (hv.alive fun _ _ => .cons (.int _ _) .nil)
def behind (b : List Int) (i : Int) : Int := if 0 > IntKind.i64.wrap ((b.length : Int) - i) then 0 else IntKind.i64.wrap ((b.length : Int) - i)
theorem behind_piece (b : List Int) (i : Int) (hl : b.length < 2 ^ 62) (hi : i ≤ 9223372036854775807) : pieceS b i (behind b i) = restS b i := by
  unfold behind
  exact restS_piece b i _ (by split <;> omega) (fun h0 => by rw [wrap_i64 (by omega) (by omega)]; omega)
theorem Rest_run (k : Nat) {H : Heap} {v : Value} {b : List Int} (hv : Sl H 1 v encB b) (i : Int) (hl : b.length < 2 ^ 62) (hi : i ≤ 9223372036854775807) : R (T k) F.view_View_Rest [.agg #[v], .int .i64 i] H = orF (restS b i) (fun _ => .agg #[subV 1 v i.toNat (behind b i).toNat]) H := by
  rw [view_View_Rest_R]
  have hx2 : Ext H ((H.push ⟨[v], 1, false⟩).push ⟨[.slice none 0 0], 1, false⟩) := ((Ext.refl H).push _).push _
  have hp := piece_run k (hv.up hx2) i (behind b i) hl
  have hlen := hv.len
  have hbp := behind_piece b i hl hi
  cases h : restS b i with
  | none =>
    rw [hbp, h] at hp
    unfold behind at hp
    refine nrm_throw ⟨_, ?_, hx2⟩ Flat.fail.alive
    simp -implicitDefEqProofs [view_View_Rest, -wrap_i64, hlen, hp]
  | some l =>
    rw [h] at hbp
    have hs := pieceS_sl hv hbp
    rw [hbp] at hp
    generalize subV 1 v i.toNat (behind b i).toNat = v' at hp hs ⊢
    unfold behind at hp
    refine nrm_gc ⟨_, ?_, ((Ext.refl H).push ⟨[v], 1, false⟩).push ⟨[v'], 1, false⟩⟩ hs.vw
    simp -implicitDefEqProofs [view_View_Rest, -wrap_i64, hlen, hp, hs.storable, hs.cells]
def rowsS (b : List Int) (i n s : Int) : Option (List Int) := if 0 ≤ n ∧ 0 ≤ s ∧ (s = 0 ∨ n ≤ (b.length : Int) / s) then pieceS b i (n * s) else none
theorem rowsS_piece {b : List Int} {i n s : Int} {l : List Int} (h : rowsS b i n s = some l) : pieceS b i (n * s) = some l := by
  unfold rowsS at h
  split at h
  · exact h
  · cases h
theorem Rows_run (k : Nat) {H : Heap} {v : Value} {b : List Int} (hv : Sl H 1 v encB b) (i n s : Int) (hl : b.length < 2 ^ 62) : R (T k) F.view_View_Rows [.agg #[v], .int .i64 i, .int .i64 n, .int .i64 s] H = orF (rowsS b i n s) (fun _ => .agg #[subV 1 v i.toNat (n * s).toNat]) H := by
  rw [view_View_Rows_R]
  have ext : Ext H ((H.push ⟨[v], 1, false⟩).push ⟨[.slice none 0 0], 1, false⟩) := ((Ext.refl H).push _).push _
  have hlen := hv.len
  by_cases h1 : 0 ≤ n
  · by_cases h2 : 0 ≤ s
    · have hcut := Cut_run k (hv.up ext) i (n * s) hl
      by_cases h3 : s = 0
      · subst h3
        have e : rowsS b i n 0 = pieceS b i (n * 0) := by rw [rowsS, if_pos ⟨h1, h2, .inl rfl⟩]
        rw [e]
        cases h : pieceS b i (n * 0) with
        | none =>
          rw [h] at hcut
          rw [Int.mul_zero] at hcut
          refine nrm_throw ⟨_, ?_, ext⟩ Flat.fail.alive
          simp -implicitDefEqProofs (disch := omega) [view_View_Rows, h1, hcut]
        | some l =>
          have hs := pieceS_sl hv h
          rw [h] at hcut
          generalize subV 1 v i.toNat (n * 0).toNat = v' at hcut hs ⊢
          rw [Int.mul_zero] at hcut
          refine nrm_gc ⟨_, ?_, ((Ext.refl H).push ⟨[v], 1, false⟩).push ⟨[v'], 1, false⟩⟩ hs.vw
          simp -implicitDefEqProofs (disch := omega) [view_View_Rows, h1, hcut]
      · have hq : ((b.length : Int).tdiv s) = (b.length : Int) / s := Int.tdiv_eq_ediv_of_nonneg (by omega)
        have hq0 : 0 ≤ (b.length : Int) / s := Int.ediv_nonneg (by omega) h2
        have hq1 : (b.length : Int) / s ≤ b.length := Int.ediv_le_self _ (by omega)
        have hb3 : (s == 0) = false := by simpa using h3
        have qr := fun H => bin_quo Prog 3 H .i64 (b.length : Int) s h3
        rw [hq] at qr
        by_cases h4 : n ≤ (b.length : Int) / s
        · have e : rowsS b i n s = pieceS b i (n * s) := by rw [rowsS, if_pos ⟨h1, h2, .inr h4⟩]
          have hm : n * s ≤ b.length := Int.le_trans (Int.mul_le_mul_of_nonneg_right h4 h2) (Int.ediv_mul_le _ h3)
          have hm0 : 0 ≤ n * s := Int.mul_nonneg h1 h2
          rw [e]
          cases h : pieceS b i (n * s) with
          | none =>
            rw [h] at hcut
            refine nrm_throw ⟨_, ?_, ext⟩ Flat.fail.alive
            simp -implicitDefEqProofs (disch := omega) [view_View_Rows, hlen, h1, h2, hb3, qr, h4, hcut]
          | some l =>
            have hs := pieceS_sl hv h
            rw [h] at hcut
            generalize subV 1 v i.toNat (n * s).toNat = v' at hcut hs ⊢
            refine nrm_gc ⟨_, ?_, ((Ext.refl H).push ⟨[v], 1, false⟩).push ⟨[v'], 1, false⟩⟩ hs.vw
            simp -implicitDefEqProofs (disch := omega) [view_View_Rows, hlen, h1, h2, hb3, qr, h4, hcut]
        · have e : rowsS b i n s = none := by rw [rowsS, if_neg (by omega)]
          rw [e]
          refine nrm_throw ⟨_, ?_, ext⟩ Flat.fail.alive
          simp -implicitDefEqProofs (disch := omega) [view_View_Rows, hlen, h1, h2, hb3, qr, h4]
    · have e : rowsS b i n s = none := by rw [rowsS, if_neg (by omega)]
      rw [e]
      refine nrm_throw ⟨_, ?_, ext⟩ Flat.fail.alive
      simp -implicitDefEqProofs (disch := omega) [view_View_Rows, h1, h2]
  · have e : rowsS b i n s = none := by rw [rowsS, if_neg (by omega)]
    rw [e]
    refine nrm_throw ⟨_, ?_, ext⟩ Flat.fail.alive
    simp -implicitDefEqProofs (disch := omega) [view_View_Rows, h1]
theorem Of_run (k : Nat) {H : Heap} {v : Value} {b : List Int} (hv : Sl H 1 v encB b) : R (T k) F.view_Of [v] H = .ok (.agg #[v]) H := by
  rw [view_Of_R]
  refine nrm_gc ⟨_, ?_, (Ext.refl H).push ⟨[v], 1, false⟩⟩ hv.vw
  simp -implicitDefEqProofs [view_Of, hv.storable, hv.cells]
end Go.Sw
end
section
set_option maxRecDepth 100000
set_option linter.unusedVariables false
namespace Go.Sw
noncomputable section
def seek_First_l1 (k : Nat) (call : Caller) : Env → Heap → Res (AExit × Env) := loopB (C k) call F.seek_First [1, 1, 0, 0, 0]
def seek_First_l1k (k : Nat) (call : Caller) : Kont Value := kBlock 0 (kSeq (pieceK (C k) call F.seek_First [1, 1, 1]) (kDone Prog (resOf Prog F.seek_First)))
def seek_First (k : Nat) (call : Caller) (a0 a1 : Value) (h : Heap) : Res Value :=
  (loopN (seek_First_l1 k call) loopFuel [(1, a1), (5, (.int .i64 0)), (6, a0)] h).bind fun r1 h2 =>
  seek_First_l1k k call r1.1 r1.2 h2
theorem seek_First_R (k : Nat) (a0 a1 : Value) (h : Heap) : R (T k) F.seek_First [a0, a1] h = nrm .gc h (seek_First k (R (T k)) a0 a1 h) :=
  (R_body (t := T k) (T_scott k) (by kernel_rfl) _ _).trans (by kernel_rfl)
theorem seek_First_l1_eq (k : Nat) (call : Caller) (a1 a5 a6 : Value) (h : Heap) : seek_First_l1 k call [(1, a1), (5, a5), (6, a6)] h =
  (binR Prog .lss 3 a5 a6 h).bind fun v3 h4 =>
  condV (some v3) (
    (binR Prog .sub 3 a6 a5 h4).bind fun v5 h6 =>
    (binR Prog .quo 3 v5 (.int .i64 2) h6).bind fun v7 h8 =>
    (binR Prog .add 3 a5 v7 h8).bind fun v9 h10 =>
    (callV call a1 [v9] h10).bind fun v11 h12 =>
    condV (some v11) (
      .ok (.normal, [(1, a1), (5, a5), (6, v9)]) h12)
    (
      (binR Prog .add 3 v9 (.int .i64 1) h12).bind fun v13 h14 =>
      .ok (.normal, [(1, a1), (5, v13), (6, a6)]) h14))
  (
    .ok ((.exit 0), [(1, a1), (5, a5), (6, a6), (11, v3)]) h4) :=
  (loopB_eq _ _).trans (by kernel_rfl)
theorem seek_First_l1k_x0 (k : Nat) (call : Caller) (a1 a5 a6 a11 : Value) (h : Heap) : seek_First_l1k k call (.exit 0) [(1, a1), (5, a5), (6, a6), (11, a11)] h =
  .ok a5 h := by kernel_rfl
def seek_Take_l1 (k : Nat) (call : Caller) : Env → Heap → Res (AExit × Env) := loopB (C k) call F.seek_Take [1, 1, 1, 1, 1, 1, 0, 1, 0, 0]
def seek_Take_l1k (k : Nat) (call : Caller) : Kont Value := kBlock 0 (kSeq (pieceK (C k) call F.seek_Take [1, 1, 1, 1, 1, 1, 1]) (kDone Prog (resOf Prog F.seek_Take)))
def seek_Take (k : Nat) (call : Caller) (a0 a1 a2 a3 : Value) (h : Heap) : Res Value :=
  (boxR a0 h).bind fun v1 h2 =>
  (loadR Prog 83 v1 h2).bindN fun v3 h4 =>
  (call F.view_View_U16 [v3, a1] h4).bindT (fun p7 h8 => (loadR Prog 83 v1 h4).bindN fun v9 h10 => (binR Prog .add 3 a1 (.int .i64 2) h10).bindN fun v11 h12 => chkR ((okVal (loadR Prog 83 v1 h2) v9 && true) && true) (.panic p7 h8)) fun v5 h6 =>
  (loadR Prog 83 v1 h6).bindN fun v13 h14 =>
  (binR Prog .add 3 a1 (.int .i64 2) h14).bindN fun v15 h16 =>
  (call F.view_View_U16 [v13, v15] h16).bindT (fun p19 h20 => chkR ((okVal (loadR Prog 83 v1 h2) v13 && true) && true) (.panic p19 h20)) fun v17 h18 =>
  chkR ((okVal (loadR Prog 83 v1 h2) v13 && true) && true) (
  (loadR Prog 83 v1 h18).bind fun v21 h22 =>
  (call F.view_View_Cut [v21, a1, (.int .i64 10)] h22).bind fun v23 h24 =>
  (binR Prog .geq 3 v5 a2 h24).bind fun v25 h26 =>
  (call F.view_Need [v25] h26).bind fun v27 h28 =>
  (loadR Prog 83 v1 h28).bind fun v29 h30 =>
  (binR Prog .add 3 a1 (.int .i64 10) h30).bind fun v31 h32 =>
  (call F.view_View_Rows [v29, v31, v17, v5] h32).bind fun v33 h34 =>
  (allocR Prog 83 h34).bind fun v35 h36 =>
  (storeR Prog 83 v35 v33 h36).bind fun _v37 h38 =>
  (loopN (seek_Take_l1 k call) loopFuel [(3, a3), (9, v5), (10, v17), (11, v35), (12, (.slice none 0 0)), (34, v17), (35, (.int .i64 0))] h38).bind fun r39 h40 =>
  seek_Take_l1k k call r39.1 r39.2 h40)
theorem seek_Take_R (k : Nat) (a0 a1 a2 a3 : Value) (h : Heap) : R (T k) F.seek_Take [a0, a1, a2, a3] h = nrm .fz h (seek_Take k (R (T k)) a0 a1 a2 a3 h) :=
  (R_body (t := T k) (T_scott k) (by kernel_rfl) _ _).trans (by kernel_rfl)
theorem seek_Take_l1_eq (k : Nat) (call : Caller) (a3 a9 a10 a11 a12 a34 a35 : Value) (h : Heap) : seek_Take_l1 k call [(3, a3), (9, a9), (10, a10), (11, a11), (12, a12), (34, a34), (35, a35)] h =
  (binR Prog .lss 3 a35 a34 h).bind fun v41 h42 =>
  condV (some v41) (
    (loadR Prog 83 a11 h42).bind fun v43 h44 =>
    (binR Prog .mul 3 a9 a35 h44).bind fun v45 h46 =>
    (call F.view_View_Cut [v43, v45, a9] h46).bind fun v47 h48 =>
    (buildSliceR Prog 301 1 [(0, v47)] h48).bind fun v49 h50 =>
    (builtinV Prog .append [301, 301] [a12, v49] h50).bind fun v51 h52 =>
    (binR Prog .add 3 a35 (.int .i64 1) h52).bind fun v53 h54 =>
    .ok (.normal, [(3, a3), (9, a9), (10, a10), (11, a11), (12, v51), (34, a34), (35, v53)]) h54)
  (
    .ok ((.exit 0), [(3, a3), (9, a9), (10, a10), (11, a11), (12, a12), (34, a34), (35, a35), (36, v41)]) h42) :=
  (loopB_eq _ _).trans (by kernel_rfl)
theorem seek_Take_l1k_x0 (k : Nat) (call : Caller) (a3 a9 a10 a11 a12 a34 a35 a36 : Value) (h : Heap) : seek_Take_l1k k call (.exit 0) [(3, a3), (9, a9), (10, a10), (11, a11), (12, a12), (34, a34), (35, a35), (36, a36)] h =
  (binR Prog .gtr 3 a10 (.int .i64 0) h).bind fun v55 h56 =>
  ((bif wantVal v55 true then Res.ok a12 h56 else Res.ok undef h56)).bind fun v57 h58 =>
  ((bif wantVal v55 true then Res.ok a10 h58 else Res.ok undef h58)).bind fun v59 h60 =>
  ((bif wantVal v55 true then binR Prog .sub 3 v59 (.int .i64 1) h60 else Res.ok undef h60)).bind fun v61 h62 =>
  ((bif wantVal v55 true then indexAddrR Prog 301 v57 v61 h62 else Res.ok undef h62)).bind fun v63 h64 =>
  ((bif wantVal v55 true then loadR Prog 83 v63 h64 else Res.ok undef h64)).bind fun v65 h66 =>
  ((bif wantVal v55 true then Res.ok a3 h66 else Res.ok undef h66)).bind fun v67 h68 =>
  ((bif wantVal v55 true then call F.seek_none [v65, v67] h68 else Res.ok undef h68)).bind fun v69 h70 =>
  (condV (some v55) (Res.ok v69 h70) (Res.ok (.bool false) h70)).bind fun v71 h72 =>
  condV (some v71) (
    (binR Prog .sub 3 a10 (.int .i64 1) h72).bind fun v73 h74 =>
    (sliceR Prog 301 a12 none (some v73) none h74).bind fun v75 h76 =>
    .ok v75 h76)
  (
    .ok a12 h72) := by kernel_rfl
def seek_none_l1 (k : Nat) (call : Caller) : Env → Heap → Res (AExit × Env) := loopB (C k) call F.seek_none [1, 0, 1, 0, 0]
def seek_none_l1k (k : Nat) (call : Caller) : Kont Value := kBlock 0 (kSeq (pieceK (C k) call F.seek_none [1, 1]) (kDone Prog (resOf Prog F.seek_none)))
def seek_none (k : Nat) (call : Caller) (a0 a1 : Value) (h : Heap) : Res Value :=
  (boxR a0 h).bind fun v1 h2 =>
  (loopN (seek_none_l1 k call) loopFuel [(2, v1), (6, a1), (7, (.int .i64 0))] h2).bind fun r3 h4 =>
  seek_none_l1k k call r3.1 r3.2 h4
theorem seek_none_R (k : Nat) (a0 a1 : Value) (h : Heap) : R (T k) F.seek_none [a0, a1] h = nrm .gc h (seek_none k (R (T k)) a0 a1 h) :=
  (R_body (t := T k) (T_scott k) (by kernel_rfl) _ _).trans (by kernel_rfl)
theorem seek_none_l1_eq (k : Nat) (call : Caller) (a2 a6 a7 : Value) (h : Heap) : seek_none_l1 k call [(2, a2), (6, a6), (7, a7)] h =
  (binR Prog .lss 3 a7 a6 h).bind fun v5 h6 =>
  condV (some v5) (
    (loadR Prog 83 a2 h6).bind fun v7 h8 =>
    (binR Prog .mul 3 (.int .i64 2) a7 h8).bind fun v9 h10 =>
    (call F.view_View_U16 [v7, v9] h10).bind fun v11 h12 =>
    (binR Prog .neq 3 v11 (.int .i64 65535) h12).bind fun v13 h14 =>
    condV (some v13) (
      .ok (.ret, [(4, (.bool false))]) h14)
    (
      (binR Prog .add 3 a7 (.int .i64 1) h14).bind fun v15 h16 =>
      .ok (.normal, [(2, a2), (6, a6), (7, v15)]) h16))
  (
    .ok ((.exit 0), [(2, a2), (6, a6), (7, a7), (8, v5)]) h6) :=
  (loopB_eq _ _).trans (by kernel_rfl)
theorem seek_none_l1k_r (k : Nat) (call : Caller) (a4 : Value) (h : Heap) : seek_none_l1k k call .ret [(4, a4)] h =
  .ok a4 h := by kernel_rfl
theorem seek_none_l1k_x0 (k : Nat) (call : Caller) (a2 a6 a7 a8 : Value) (h : Heap) : seek_none_l1k k call (.exit 0) [(2, a2), (6, a6), (7, a7), (8, a8)] h =
  .ok (.bool true) h := by kernel_rfl
end
end Go.Sw
end
section
namespace Go.Sw
open Go.RowKit
def Asks (k : Nat) (f : Value) (n : Nat) (p : Nat → Bool) (H : Heap) : Prop := ∀ j : Nat, j < n → callV (R (T k)) f [.int .i64 j] H = .ok (.bool (p j)) H
def IsFirst (n : Nat) (p : Nat → Bool) (i : Nat) : Prop := i ≤ n ∧ (∀ j, j < i → p j = false) ∧ ∀ j, i ≤ j → j < n → p j = true
theorem First_run (k : Nat) (n : Nat) (f : Value) (p : Nat → Bool) (H : Heap) (hn : n < 2 ^ 62) (hf : Asks k f n p H) (hm : ∀ i j, i ≤ j → j < n → p i = true → p j = true) (i : Nat) (hi : IsFirst n p i) :
    R (T k) F.seek_First [.int .i64 n, f] H = .ok (.int .i64 i) H := by
  rw [seek_First_R]
  refine nrm_gc (Pure.of ?_) (.int _ _)
  obtain ⟨x, e', H1, hr, rfl, rfl, a, rfl⟩ := loopDec (body := seek_First_l1 k (R (T k)))
    (fun m e H' => H' = H ∧ ∃ lo hi : Nat, m = hi - lo ∧ e = [(1, f), (5, .int .i64 lo), (6, .int .i64 hi)] ∧ lo ≤ i ∧ i ≤ hi ∧ hi ≤ n)
    (fun x e H' => H' = H ∧ x = .exit 0 ∧ ∃ a, e = [(1, f), (5, .int .i64 i), (6, .int .i64 i), (11, a)])
    (e0 := [(1, f), (5, .int .i64 0), (6, .int .i64 n)]) (H0 := H) n ⟨rfl, 0, n, by omega, rfl, by omega, hi.1, Nat.le_refl _⟩ (by omega)
    (fun m e H' ⟨hH, lo, hg, hmm, he, h1, h2, h3⟩ => by
      subst hH he
      by_cases hlt : lo < hg
      · have hlt' : (lo : Int) < hg := by omega
        obtain ⟨d, hd1, hd2⟩ : ∃ d, 2 * d ≤ hg - lo ∧ hg - lo < 2 * d + 2 := ⟨(hg - lo) / 2, by omega, by omega⟩
        have hmid : (((hg : Int) - lo).tdiv 2) = (d : Nat) := by
          rw [Int.tdiv_eq_ediv_of_nonneg (by omega)]; omega
        have q := bin_quo Prog 3 H' .i64 ((hg : Int) - lo) 2 (by decide)
        rw [hmid] at q
        have ha := hf (lo + d) (by omega)
        rw [show (((lo + d : Nat) : Nat) : Int) = (lo : Int) + (d : Nat) by omega] at ha
        have hle : ((d : Nat) : Int) ≤ hg - lo := by omega
        refine .inl ?_
        cases hp : p (lo + d) with
        | true =>
          rw [hp] at ha
          refine ⟨(lo + d) - lo, _, H', ?_, by omega, rfl, lo, lo + d, rfl, rfl, h1, ?_, by omega⟩
          · rw [seek_First_l1_eq]
            simp -implicitDefEqProofs (disch := omega) [hlt', q, ha]
          · rcases Nat.lt_or_ge (lo + d) i with h | h
            · rw [hi.2.1 _ h] at hp; cases hp
            · exact h
        | false =>
          rw [hp] at ha
          refine ⟨hg - (lo + d + 1), _, H', ?_, by omega, rfl, lo + d + 1, hg, rfl, rfl, ?_, h2, h3⟩
          · rw [seek_First_l1_eq]
            simp -implicitDefEqProofs (disch := omega) [hlt', q, ha]
          · rcases Nat.lt_or_ge (lo + d) i with h | h
            · exact h
            · rw [hi.2.2 _ h (by omega)] at hp; cases hp
      · have hlt' : ¬ (lo : Int) < hg := by omega
        have e1 : lo = i := by omega
        have e2 : hg = i := by omega
        subst e1
        rw [e2]
        refine .inr ⟨.exit 0, _, H', ?_, by simp, rfl, rfl, .bool false, rfl⟩
        rw [seek_First_l1_eq]
        simp -implicitDefEqProofs (disch := omega))
  simp -implicitDefEqProofs (disch := omega) [seek_First, hr, seek_First_l1k_x0]
theorem isFirst_ex (n : Nat) (p : Nat → Bool) (hm : ∀ i j, i ≤ j → j < n → p i = true → p j = true) : ∃ i, IsFirst n p i := by
  induction n with
  | zero => exact ⟨0, Nat.le_refl _, fun j h => by omega, fun j h1 h2 => by omega⟩
  | succ n ih =>
    obtain ⟨i, h1, h2, h3⟩ := ih fun a b hab hb => hm a b hab (by omega)
    by_cases hi : i < n
    · exact ⟨i, by omega, h2, fun j hj hn => by
        by_cases he : j = n
        · subst he; exact hm i j hj hn (h3 i (Nat.le_refl _) hi)
        · exact h3 j hj (by omega)⟩
    · have : i = n := by omega
      subst this
      cases hp : p i with
      | true => exact ⟨i, by omega, h2, fun j hj hn => by rw [show j = i by omega]; exact hp⟩
      | false => exact ⟨i + 1, Nat.le_refl _, fun j hj => by
          by_cases he : j = i
          · subst he; exact hp
          · exact h2 j (by omega), fun j h1 h2 => by omega⟩
def noneS (l : List Int) (keys : Nat) : Bool := (List.range keys).all fun j => uS l (2 * j) 2 == some 65535
theorem none_run (k : Nat) {H : Heap} {v : Value} {l : List Int} (hv : Sl H 1 v encB l) (hb : Byt l) (keys : Nat) (hl : l.length < 2 ^ 62) (hk : 2 * keys ≤ l.length) : R (T k) F.seek_none [.agg #[v], .int .i64 keys] H = .ok (.bool (noneS l keys)) H := by
  rw [seek_none_R]
  obtain ⟨x, e', H1, hr, hH, hq⟩ := loop_up (body := seek_none_l1 k (R (T k))) keys
    (fun j e H' => H' = H.push ⟨[v], 1, false⟩ ∧ (∀ i, i < j → uS l (2 * (i : Nat)) 2 = some 65535) ∧ e = [(2, .pointer (some ⟨H.n, 0, none⟩)), (6, .int .i64 keys), (7, .int .i64 j)])
    (fun x e H' => H' = H.push ⟨[v], 1, false⟩ ∧ ((x = .ret ∧ e = [(4, .bool false)] ∧ noneS l keys = false) ∨ (∃ a, x = .exit 0 ∧ e = [(2, .pointer (some ⟨H.n, 0, none⟩)), (6, .int .i64 keys), (7, .int .i64 keys), (8, a)] ∧ noneS l keys = true)))
    (e0 := [(2, .pointer (some ⟨H.n, 0, none⟩)), (6, .int .i64 keys), (7, .int .i64 0)]) (H0 := H.push ⟨[v], 1, false⟩) ⟨rfl, fun i h => by omega, rfl⟩ (by omega)
    (fun j e H' hj ⟨hH, ha, he⟩ => by
      subst he hH
      have hlt : (j : Int) < keys := by omega
      have hu := U16_run k (hv.up ((Ext.refl H).push ⟨[v], 1, false⟩)) hb (2 * (j : Int)) hl
      obtain ⟨x, hx⟩ : ∃ x, uS l (2 * (j : Int)) 2 = some x := by
        unfold uS pieceS
        rw [if_pos (by omega)]
        exact ⟨_, rfl⟩
      rw [hx] at hu
      by_cases he : x = 65535
      · subst he
        refine .inl ⟨_, _, ?_, rfl, fun i hi => ?_, rfl⟩
        · rw [seek_none_l1_eq]
          simp -implicitDefEqProofs (disch := omega) [hlt, hu]
        · by_cases hij : i = j
          · subst hij; exact hx
          · exact ha i (by omega)
      · refine .inr ⟨.ret, _, _, ?_, by simp, rfl, .inl ⟨rfl, rfl, ?_⟩⟩
        · have hne : (x != 65535) = true := by simpa using he
          rw [seek_none_l1_eq]
          simp -implicitDefEqProofs (disch := omega) [hlt, hu, hne]
        · unfold noneS
          rw [List.all_eq_false]
          exact ⟨j, List.mem_range.2 hj, by rw [hx]; simpa using he⟩)
    (fun e H' ⟨hH, ha, he⟩ => by
      subst he hH
      refine ⟨.exit 0, _, _, ?_, by simp, rfl, .inr ⟨.bool false, rfl, rfl, ?_⟩⟩
      · rw [seek_none_l1_eq]
        simp -implicitDefEqProofs
      · unfold noneS
        rw [List.all_eq_true]
        intro i hi
        rw [ha i (List.mem_range.1 hi)]
        rfl)
  subst hH
  refine nrm_gc ⟨_, ?_, (Ext.refl H).push ⟨[v], 1, false⟩⟩ (.bool _)
  rcases hq with ⟨rfl, rfl, hn⟩ | ⟨a, rfl, rfl, hn⟩ <;> simp -implicitDefEqProofs (disch := omega) [seek_none, boxR_vw, hr, seek_none_l1k_r, seek_none_l1k_x0, hn]
abbrev encW (u : Value) : List Value := [u]
theorem encW_len (u : Value) : (encW u).length = 1 := rfl
def cutRows (r : List Int) (z n : Nat) : List (List Int) := (List.range n).map fun i => (r.drop (z * i)).take z
@[simp] theorem cutRows_len (r : List Int) (z n : Nat) : (cutRows r z n).length = n := by simp [cutRows]
theorem cutRows_get (r : List Int) (z n i : Nat) (h : i < n) : (cutRows r z n)[i]? = some ((r.drop (z * i)).take z) := by simp [cutRows, h]
def endRows (r : List Int) (z n keys : Nat) : List (List Int) := if 0 < n ∧ noneS ((r.drop (z * (n - 1))).take z) keys = true then cutRows r z (n - 1) else cutRows r z n
def takeS (b : List Int) (i need : Int) (keys : Nat) : Option (List (List Int)) :=
  match uS b i 2, uS b (i + 2) 2 with
  | some z, some n => if (pieceS b i 10).isSome ∧ need ≤ z then (rowsS b (i + 10) n z).map fun r => endRows r z.toNat n.toNat keys else none
  | _, _ => none
def cutV (r : Value) (z n : Nat) : List Value := (List.range n).map fun i => subV 1 r (z * i) z
@[simp] theorem cutV_len (r : Value) (z n : Nat) : (cutV r z n).length = n := by simp [cutV]
theorem cutV_succ (r : Value) (z n : Nat) : cutV r z (n + 1) = cutV r z n ++ [subV 1 r (z * n) z] := by simp [cutV, List.range_succ]
theorem cutV_get (r : Value) (z n i : Nat) (h : i < n) : (cutV r z n)[i]? = some (subV 1 r (z * i) z) := by simp [cutV, h]
theorem cutV_take (r : Value) (z n : Nat) : (cutV r z n).take (n - 1) = cutV r z (n - 1) := by
  cases n with
  | zero => rfl
  | succ n => rw [cutV_succ]; simp
theorem cutV_sl {H : Heap} {rv : Value} {r : List Int} (hv : Sl H 1 rv encB r) (z n i : Nat) (hr : r.length = n * z) (h : i < n) : Sl H 1 (subV 1 rv (z * i) z) encB ((r.drop (z * i)).take z) := by
  have hzi : z * i + z ≤ r.length := by
    rw [hr, ← Nat.mul_succ, Nat.mul_comm]
    exact Nat.mul_le_mul_right _ h
  exact (hv.sub encB_len .i64 .i64 .i64 (z * i) z hzi).2
theorem Take_loop (k : Nat) {rv : Value} (r : List Int) (keys z n : Nat) (hr : r.length = n * z) (hz : z < 65536) (hn : n < 65536) (p : Nat) {H : Heap} (hv : Sl H 1 rv encB r) (hp : H.get p = some ⟨[rv], 1, false⟩) :
    ∃ s H', loopN (seek_Take_l1 k (R (T k))) loopFuel [(3, .int .i64 keys), (9, .int .i64 z), (10, .int .i64 n), (11, .pointer (some ⟨p, 0, none⟩)), (12, .slice none 0 0), (34, .int .i64 n), (35, .int .i64 0)] H =
      .ok (.exit 0, [(3, .int .i64 keys), (9, .int .i64 z), (10, .int .i64 n), (11, .pointer (some ⟨p, 0, none⟩)), (12, s), (34, .int .i64 n), (35, .int .i64 n), (36, .bool false)]) H' ∧ Own H H' 1 s encW (cutV rv z n) ∧ Ext H H' := by
  have hlen : r.length < 2 ^ 62 := by
    have : n * z ≤ 65536 * 65536 := Nat.mul_le_mul (by omega) (by omega)
    omega
  obtain ⟨x, e', H', hr', s, rfl, rfl, ho, hx⟩ := loop_up (body := seek_Take_l1 k (R (T k))) n
    (fun i e H' => ∃ s, e = [(3, .int .i64 keys), (9, .int .i64 z), (10, .int .i64 n), (11, .pointer (some ⟨p, 0, none⟩)), (12, s), (34, .int .i64 n), (35, .int .i64 i)] ∧ Own H H' 1 s encW (cutV rv z i) ∧ Ext H H')
    (fun x e H' => ∃ s, x = .exit 0 ∧ e = [(3, .int .i64 keys), (9, .int .i64 z), (10, .int .i64 n), (11, .pointer (some ⟨p, 0, none⟩)), (12, s), (34, .int .i64 n), (35, .int .i64 n), (36, .bool false)] ∧ Own H H' 1 s encW (cutV rv z n) ∧ Ext H H')
    (e0 := [(3, .int .i64 keys), (9, .int .i64 z), (10, .int .i64 n), (11, .pointer (some ⟨p, 0, none⟩)), (12, .slice none 0 0), (34, .int .i64 n), (35, .int .i64 0)]) (H0 := H) ⟨_, rfl, Own.nil _ _ _, Ext.refl H⟩ (by omega)
    (fun i e H' hi ⟨s, he, ho, hx⟩ => by
      subst he
      have hlt : (i : Int) < n := by omega
      have hpg := hx.get hp
      have hzi : z * i + z ≤ r.length := by
        rw [hr, ← Nat.mul_succ, Nat.mul_comm]
        exact Nat.mul_le_mul_right _ hi
      have hcut := Cut_run k (hv.up hx) ((z : Int) * i) z hlen
      have e1 : ((z : Int) * i) = ((z * i : Nat) : Int) := by simp
      have hps : pieceS r ((z : Int) * i) z = some ((r.drop (z * i)).take z) := by
        rw [e1, pieceS, if_pos (by omega), Int.toNat_natCast, Int.toNat_natCast]
      have e2 : ((z : Int) * i).toNat = z * i := by rw [e1, Int.toNat_natCast]
      rw [hps, e2, Int.toNat_natCast] at hcut
      have hmul : ((z : Int) * i) ≤ 9223372036854775807 := by omega
      have hmul0 : 0 ≤ ((z : Int) * i) := Int.mul_nonneg (by omega) (by omega)
      have hsl := cutV_sl hv z n i hr hi
      obtain ⟨s', H2, e3, o1, x1⟩ := ap1_own (bytes := 24) encW_len ho hx (subV 1 rv (z * i) z) (by simp; omega) (by decide)
      refine .inl ⟨_, H2, ?_, s', rfl, by rw [cutV_succ]; exact o1, x1⟩
      rw [seek_Take_l1_eq]
      generalize subV 1 rv (z * i) z = u at hcut hsl e3
      simp -implicitDefEqProofs (disch := omega) [hlt, hpg, hcut, e3])
    (fun e H' ⟨s, he, ho, hx⟩ => by
      subst he
      refine ⟨.exit 0, _, H', ?_, by simp, s, rfl, rfl, ho, hx⟩
      rw [seek_Take_l1_eq]
      simp -implicitDefEqProofs (disch := omega))
  exact ⟨s, H', hr', ho, hx⟩
def rowsV (v : Value) (b : List Int) (i : Int) : Value := subV 1 v (i + 10).toNat (((uS b (i + 2) 2).getD 0) * ((uS b i 2).getD 0)).toNat
def rowZ (b : List Int) (i : Int) : Nat := ((uS b i 2).getD 0).toNat
theorem cutV_fz {H0 H : Heap} {rv : Value} (h : Firm H0 rv) (z n d : Nat) : ∀ x, x ∈ cutV rv z n → ∀ v, v ∈ encW x → fzV H0.n H (d + 1) v = some (v, []) := fun x hx v hv => by
  simp at hv
  subst hv
  obtain ⟨i, _, rfl⟩ := List.mem_map.1 hx
  exact (h.sub 1 _ _).fz d
theorem cutV_alive {H : Heap} {rv : Value} {r : List Int} (hv : Sl H 1 rv encB r) (z n m : Nat) (hr : r.length = n * z) (hm : m ≤ n) : Alive H (lv encW (cutV rv z m)) := .list _ _ _ _ _ fun i u hu => by
  have hu : (rows encW (cutV rv z m))[i]? = some u := by simpa using hu
  have : rows encW (cutV rv z m) = cutV rv z m := by simp [rows]
  rw [this] at hu
  have hi := (List.getElem?_eq_some_iff.1 hu).1
  simp at hi
  rw [cutV_get _ _ _ _ hi] at hu
  injection hu with hu; subst hu
  exact (cutV_sl hv z n i hr (by omega)).alive fun _ _ => .cons (.int _ _) .nil
theorem Take_run (k : Nat) {H : Heap} {v : Value} {b : List Int} (hv : Sl H 1 v encB b) (hb : Byt b) (i need : Int) (keys : Nat) (hl : b.length < 2 ^ 31) (hi0 : -4294967296 ≤ i) (hi : i < 4294967296) (hk : 2 * (keys : Int) ≤ need) :
    R (T k) F.seek_Take [.agg #[v], .int .i64 i, .int .i64 need, .int .i64 keys] H = orF (takeS b i need keys) (fun l => lv encW (cutV (rowsV v b i) (rowZ b i) l.length)) H := by
  rw [seek_Take_R]
  have ext1 : Ext H (H.push ⟨[v], 1, false⟩) := (Ext.refl H).push _
  have hu1 := U16_run k (hv.up ext1) hb i (by omega)
  have hu2 := U16_run k (hv.up ext1) hb (i + 2) (by omega)
  have hcut := Cut_run k (hv.up ext1) i 10 (by omega)
  have hq : veq v v = true := hv.veq fun n _ u hu => by simp at hu; subst hu; simp
  have hqa : veq (.agg #[v]) (.agg #[v]) = true := veq_agg (l := [v]) fun u hu => by simp at hu; subst hu; exact hq
  cases h1 : uS b i 2 with
  | none =>
    have e : takeS b i need keys = none := by unfold takeS; rw [h1]
    rw [h1] at hu1
    rw [e]
    refine nrm_throw ⟨_, ?_, ext1⟩ Flat.fail.alive
    simp -implicitDefEqProofs (disch := omega) [seek_Take, hqa, hu1]
  | some z =>
    have hz := uS_two hb h1
    rw [h1] at hu1
    cases h2 : uS b (i + 2) 2 with
    | none =>
      have e : takeS b i need keys = none := by unfold takeS; rw [h1, h2]
      rw [h2] at hu2
      rw [e]
      refine nrm_throw ⟨_, ?_, ext1⟩ Flat.fail.alive
      simp -implicitDefEqProofs (disch := omega) [seek_Take, hqa, hu1, hu2]
    | some n =>
      have hn := uS_two hb h2
      rw [h2] at hu2
      cases h3 : pieceS b i 10 with
      | none =>
        have e : takeS b i need keys = none := by unfold takeS; rw [h1, h2]; simp [h3]
        rw [h3] at hcut
        rw [e]
        refine nrm_throw ⟨_, ?_, ext1⟩ Flat.fail.alive
        simp -implicitDefEqProofs (disch := omega) [seek_Take, hqa, hu1, hu2, hcut]
      | some c =>
        rw [h3] at hcut
        by_cases h4 : need ≤ z
        · have hrows := Rows_run k (hv.up ext1) (i + 10) n z (by omega)
          cases h5 : rowsS b (i + 10) n z with
          | none =>
            have e : takeS b i need keys = none := by unfold takeS; rw [h1, h2]; simp [h3, h4, h5]
            rw [h5] at hrows
            rw [e]
            refine nrm_throw ⟨_, ?_, ext1⟩ Flat.fail.alive
            simp -implicitDefEqProofs (disch := omega) [seek_Take, hqa, hu1, hu2, hcut, h4, hrows]
          | some r =>
            have e : takeS b i need keys = some (endRows r z.toNat n.toNat keys) := by unfold takeS; rw [h1, h2]; simp [h3, h4, h5]
            rw [h5] at hrows
            rw [e]
            obtain ⟨z, rfl⟩ := Int.eq_ofNat_of_zero_le hz.1
            obtain ⟨n, rfl⟩ := Int.eq_ofNat_of_zero_le hn.1
            rw [Int.toNat_natCast, Int.toNat_natCast]
            have hp5 : pieceS b (i + 10) ((n : Int) * z) = some r := by
              unfold rowsS at h5
              split at h5
              · exact h5
              · cases h5
            have hrl : r.length = n * z := by have := pieceS_len hp5; exact_mod_cast this
            have hrb := (hb.piece hp5).1
            have hrv : rowsV v b i = subV 1 v (i + 10).toNat ((n : Int) * z).toNat := by unfold rowsV; rw [h1, h2]; rfl
            have hrz : rowZ b i = z := by unfold rowZ; rw [h1]; simp
            have hsr := pieceS_sl hv hp5
            have hne : b ≠ [] := fun e => by
              subst e
              unfold uS pieceS at h1
              split at h1
              · rename_i hc; simp at hc; omega
              · cases h1
            have hfirm : Firm H (subV 1 v (i + 10).toNat ((n : Int) * z).toNat) := (hv.firm hne).sub _ _ _
            simp only [orF_some, hrv, hrz]
            simp only [orF_some] at hrows hu1 hu2 hcut
            generalize subV 1 v (i + 10).toNat ((n : Int) * z).toNat = rv at hrows hsr hfirm ⊢
            obtain ⟨s, H', hloop, ho, hx⟩ := Take_loop k r keys z n hrl (by omega) (by omega) (H.n + 1) (hsr.up (ext1.push ⟨[rv], 1, false⟩)) (get_push_eq _ _ _ (by simp))
            have hxx : Ext H H' := (ext1.push _).trans hx
            have ho' : Own H H' 1 s encW (cutV rv z n) := ho.base (by simp; omega)
            have hst := hsr.storable
            have hce := hsr.cells
            by_cases hn0 : n = 0
            · subst hn0
              have e2 : (endRows r z 0 keys).length = 0 := by simp [endRows]
              rw [e2]
              obtain ⟨L, hf⟩ := ho'.freeze encW_len (fun x hx => by simp [cutV] at hx) 6
              refine nrm_fz (v := s) (H' := H') ?_ hf hxx (cutV_alive hsr z 0 0 hrl (Nat.le_refl _))
              simp only [Int.natCast_zero] at hu2 hrows hloop
              simp -implicitDefEqProofs (disch := omega) [seek_Take, hqa, hu1, hu2, hcut, h4, hrows, hloop, seek_Take_l1k_x0]
            · have hlast := cutV_get rv z n (n - 1) (by omega)
              have hlb : Byt ((r.drop (z * (n - 1))).take z) := fun x hx => hrb x (List.mem_of_mem_drop (List.mem_of_mem_take hx))
              have hsl0 := cutV_sl hsr z n (n - 1) hrl (by omega)
              have hll : ((r.drop (z * (n - 1))).take z).length = z := by
                have : z * (n - 1) + z ≤ r.length := by
                  rw [hrl, ← Nat.mul_succ, Nat.mul_comm, show (n - 1).succ = n by omega]
                  exact Nat.le_refl _
                simp; omega
              have hnone := none_run k (hsl0.up hxx) hlb keys (by omega) (by omega)
              have hn1 : ((n : Int) - 1) = ((n - 1 : Nat) : Int) := by omega
              have hgt : 0 < n := by omega
              obtain ⟨bk, hsk, hbk, hgk, _⟩ := ixS_own ho' .i64 (n - 1) (by simp; omega) H'
              have hixk0 : ∀ H'', ixS 1 s (.int .i64 ((n : Int) - 1)) H'' = .ok (.pointer (some ⟨bk, (n - 1) * 1, none⟩)) H'' := fun H'' => by
                obtain ⟨b2, h1', _, _, h4'⟩ := ixS_own ho' .i64 (n - 1) (by simp; omega) H''
                have : bk = b2 := by rw [hsk] at h1'; simpa using h1'
                subst this
                rw [hn1]; exact h4'
              obtain ⟨p, hixk, hld⟩ : ∃ p, (∀ H'', ixS 1 s (.int .i64 ((n : Int) - 1)) H'' = .ok p H'') ∧ ldA 1 p H' = .ok (.agg #[subV 1 rv (z * (n - 1)) z]) H' := ⟨_, hixk0, ldA_row encW_len hgk hlast⟩
              generalize subV 1 rv (z * (n - 1)) z = u at hld hnone
              cases hno : noneS ((r.drop (z * (n - 1))).take z) keys with
              | false =>
                have e2 : (endRows r z n keys).length = n := by simp [endRows, hno]
                rw [e2]
                rw [hno] at hnone
                obtain ⟨b3, L, hs3, hf⟩ := ho'.freezeF encW_len 6 n (cutV_fz hfirm z n 6) (by simp) (by simp; omega)
                rw [List.take_of_length_le (by simp)] at hf
                rw [cutV_len] at hs3
                refine nrm_fz (v := s) (H' := H') ?_ (by rw [hs3]; exact hf n) hxx (cutV_alive hsr z n n hrl (Nat.le_refl _))
                simp -implicitDefEqProofs (disch := omega) [seek_Take, hqa, hu1, hu2, hcut, h4, hrows, hloop, seek_Take_l1k_x0, hgt, hixk, hld, hnone]
              | true =>
                have e2 : (endRows r z n keys).length = n - 1 := by rw [endRows, if_pos ⟨by omega, hno⟩]; simp
                rw [e2, ← cutV_take]
                rw [hno] at hnone
                obtain ⟨b3, L, hs3, hf⟩ := ho'.freezeF encW_len 6 (n - 1) (cutV_fz hfirm z n 6) (by simp) (by simp; omega)
                have hb3 : bk = b3 := by rw [hsk] at hs3; simpa using hs3
                subst hb3
                have hsl := slS_own hgk .i64 (n - 1) (by simp)
                rw [cutV_len, ← hn1] at hsl
                rw [cutV_len] at hsk
                refine nrm_fz (v := .slice (some ⟨bk, 0, none⟩) (n - 1) n) (H' := H') ?_ (hf n) hxx (by rw [cutV_take]; exact cutV_alive hsr z n (n - 1) hrl (by omega))
                subst hsk
                simp -implicitDefEqProofs (disch := omega) [seek_Take, hqa, hu1, hu2, hcut, h4, hrows, hloop, seek_Take_l1k_x0, hgt, hixk, hld, hnone, hsl]
        · have e : takeS b i need keys = none := by unfold takeS; rw [h1, h2]; simp [h4]
          rw [e]
          refine nrm_throw ⟨_, ?_, ext1⟩ Flat.fail.alive
          simp -implicitDefEqProofs (disch := omega) [seek_Take, hqa, hu1, hu2, hcut, h4]
end Go.Sw
end
section
set_option maxRecDepth 100000
set_option linter.unusedVariables false
namespace Go.Sw
noncomputable section
def swashref01_U_l1 (k : Nat) (call : Caller) : Env → Heap → Res (AExit × Env) := loopB (C k) call F.swashref01_U [1, 1, 1, 0, 1, 0, 0]
def swashref01_U_l1k (k : Nat) (call : Caller) : Kont Value := kBlock 0 (kSeq (pieceK (C k) call F.swashref01_U [1, 1, 1, 1]) (kDone Prog (resOf Prog F.swashref01_U)))
def swashref01_U (k : Nat) (call : Caller) (a0 a1 a2 : Value) (h : Heap) : Res Value :=
  (builtinV Prog .len [65] [a0] h).bind fun v1 h2 =>
  (call F.swashref01_In [v1, a1, a2] h2).bind fun v3 h4 =>
  (unR .not v3 h4).bind fun v5 h6 =>
  condV (some v5) (
    .ok (.int .i64 (-1)) h6)
  (
    (loopN (swashref01_U_l1 k call) loopFuel [(0, a0), (1, a1), (2, a2), (7, (.int .i64 0)), (8, (.int .i64 0))] h6).bind fun r7 h8 =>
    swashref01_U_l1k k call r7.1 r7.2 h8)
theorem swashref01_U_R (k : Nat) (a0 a1 a2 : Value) (h : Heap) : R (T k) F.swashref01_U [a0, a1, a2] h = nrm .gc h (swashref01_U k (R (T k)) a0 a1 a2 h) :=
  (R_body (t := T k) (T_scott k) (by kernel_rfl) _ _).trans (by kernel_rfl)
theorem swashref01_U_l1_eq (k : Nat) (call : Caller) (a0 a1 a2 a7 a8 : Value) (h : Heap) : swashref01_U_l1 k call [(0, a0), (1, a1), (2, a2), (7, a7), (8, a8)] h =
  (binR Prog .lss 3 a8 a2 h).bind fun v9 h10 =>
  condV (some v9) (
    (binR Prog .mul 3 (.int .i64 256) a7 h10).bind fun v11 h12 =>
    (binR Prog .add 3 a1 a8 h12).bind fun v13 h14 =>
    (indexAddrR Prog 65 a0 v13 h14).bind fun v15 h16 =>
    (loadR Prog 5 v15 h16).bind fun v17 h18 =>
    (convR Prog 5 3 v17 h18).bind fun v19 h20 =>
    (binR Prog .add 3 v11 v19 h20).bind fun v21 h22 =>
    (binR Prog .add 3 a8 (.int .i64 1) h22).bind fun v23 h24 =>
    .ok (.normal, [(0, a0), (1, a1), (2, a2), (7, v21), (8, v23)]) h24)
  (
    .ok ((.exit 0), [(0, a0), (1, a1), (2, a2), (7, a7), (8, a8), (17, v9)]) h10) :=
  (loopB_eq _ _).trans (by kernel_rfl)
theorem swashref01_U_l1k_x0 (k : Nat) (call : Caller) (a0 a1 a2 a7 a8 a17 : Value) (h : Heap) : swashref01_U_l1k k call (.exit 0) [(0, a0), (1, a1), (2, a2), (7, a7), (8, a8), (17, a17)] h =
  .ok a7 h := by kernel_rfl
def swashref01_Rows (k : Nat) (call : Caller) (a0 a1 a2 a3 : Value) (h : Heap) : Res Value :=
  (binR Prog .lss 3 a1 (.int .i64 0) h).bind fun v1 h2 =>
  ((bif wantVal v1 false then Res.ok a2 h2 else Res.ok undef h2)).bind fun v3 h4 =>
  ((bif wantVal v1 false then binR Prog .lss 3 v3 (.int .i64 0) h4 else Res.ok undef h4)).bind fun v5 h6 =>
  (condV (some v1) (Res.ok (.bool true) h6) (Res.ok v5 h6)).bind fun v7 h8 =>
  ((bif wantVal v7 false then Res.ok a3 h8 else Res.ok undef h8)).bind fun v9 h10 =>
  ((bif wantVal v7 false then binR Prog .lss 3 v9 (.int .i64 0) h10 else Res.ok undef h10)).bind fun v11 h12 =>
  (condV (some v7) (Res.ok (.bool true) h12) (Res.ok v11 h12)).bind fun v13 h14 =>
  ((bif wantVal v13 false then Res.ok a1 h14 else Res.ok undef h14)).bind fun v15 h16 =>
  ((bif wantVal v13 false then Res.ok a0 h16 else Res.ok undef h16)).bind fun v17 h18 =>
  ((bif wantVal v13 false then binR Prog .gtr 3 v15 v17 h18 else Res.ok undef h18)).bind fun v19 h20 =>
  (condV (some v13) (Res.ok (.bool true) h20) (Res.ok v19 h20)).bind fun v21 h22 =>
  condV (some v21) (
    .ok (.bool false) h22)
  (
    (binR Prog .eql 3 a3 (.int .i64 0) h22).bind fun v23 h24 =>
    ((bif wantVal v23 false then Res.ok a2 h24 else Res.ok undef h24)).bind fun v25 h26 =>
    ((bif wantVal v23 false then Res.ok a0 h26 else Res.ok undef h26)).bind fun v27 h28 =>
    ((bif wantVal v23 false then Res.ok a1 h28 else Res.ok undef h28)).bind fun v29 h30 =>
    ((bif wantVal v23 false then binR Prog .sub 3 v27 v29 h30 else Res.ok undef h30)).bind fun v31 h32 =>
    ((bif wantVal v23 false then Res.ok a3 h32 else Res.ok undef h32)).bind fun v33 h34 =>
    ((bif wantVal v23 false then binR Prog .quo 3 v31 v33 h34 else Res.ok undef h34)).bind fun v35 h36 =>
    ((bif wantVal v23 false then binR Prog .leq 3 v25 v35 h36 else Res.ok undef h36)).bind fun v37 h38 =>
    (condV (some v23) (Res.ok (.bool true) h38) (Res.ok v37 h38)).bind fun v39 h40 =>
    .ok v39 h40)
theorem swashref01_Rows_R (k : Nat) (a0 a1 a2 a3 : Value) (h : Heap) : R (T k) F.swashref01_Rows [a0, a1, a2, a3] h = nrm .gc h (swashref01_Rows k (R (T k)) a0 a1 a2 a3 h) :=
  (R_body (t := T k) (T_scott k) (by kernel_rfl) _ _).trans (by kernel_rfl)
def swashref01_In (k : Nat) (call : Caller) (a0 a1 a2 : Value) (h : Heap) : Res Value :=
  (binR Prog .geq 3 a1 (.int .i64 0) h).bind fun v1 h2 =>
  ((bif wantVal v1 true then Res.ok a2 h2 else Res.ok undef h2)).bind fun v3 h4 =>
  ((bif wantVal v1 true then binR Prog .geq 3 v3 (.int .i64 0) h4 else Res.ok undef h4)).bind fun v5 h6 =>
  (condV (some v1) (Res.ok v5 h6) (Res.ok (.bool false) h6)).bind fun v7 h8 =>
  ((bif wantVal v7 true then Res.ok a1 h8 else Res.ok undef h8)).bind fun v9 h10 =>
  ((bif wantVal v7 true then Res.ok a0 h10 else Res.ok undef h10)).bind fun v11 h12 =>
  ((bif wantVal v7 true then binR Prog .leq 3 v9 v11 h12 else Res.ok undef h12)).bind fun v13 h14 =>
  (condV (some v7) (Res.ok v13 h14) (Res.ok (.bool false) h14)).bind fun v15 h16 =>
  ((bif wantVal v15 true then Res.ok a2 h16 else Res.ok undef h16)).bind fun v17 h18 =>
  ((bif wantVal v15 true then Res.ok a0 h18 else Res.ok undef h18)).bind fun v19 h20 =>
  ((bif wantVal v15 true then Res.ok a1 h20 else Res.ok undef h20)).bind fun v21 h22 =>
  ((bif wantVal v15 true then binR Prog .sub 3 v19 v21 h22 else Res.ok undef h22)).bind fun v23 h24 =>
  ((bif wantVal v15 true then binR Prog .leq 3 v17 v23 h24 else Res.ok undef h24)).bind fun v25 h26 =>
  (condV (some v15) (Res.ok v25 h26) (Res.ok (.bool false) h26)).bind fun v27 h28 =>
  .ok v27 h28
theorem swashref01_In_R (k : Nat) (a0 a1 a2 : Value) (h : Heap) : R (T k) F.swashref01_In [a0, a1, a2] h = nrm .gc h (swashref01_In k (R (T k)) a0 a1 a2 h) :=
  (R_body (t := T k) (T_scott k) (by kernel_rfl) _ _).trans (by kernel_rfl)
end
end Go.Sw
end
section
namespace Go.Sw
open Go.RowKit
def inS (size i n : Int) : Bool := decide (0 ≤ i ∧ 0 ≤ n ∧ i ≤ size ∧ n ≤ size - i)
theorem refIn_run (k : Nat) (z i n : Int) (hz0 : 0 ≤ z) (hz : z < 2 ^ 62) (H : Heap) : R (T k) F.swashref01_In [.int .i64 z, .int .i64 i, .int .i64 n] H = .ok (.bool (inS z i n)) H := by
  rw [swashref01_In_R]
  refine nrm_gc (Pure.of ?_) (.bool _)
  unfold inS
  by_cases h1 : 0 ≤ i
  · by_cases h2 : 0 ≤ n
    · by_cases h3 : i ≤ z
      · by_cases h4 : n ≤ z - i <;> simp -implicitDefEqProofs (disch := omega) [swashref01_In, h1, h2, h3, h4]
      · simp -implicitDefEqProofs (disch := omega) [swashref01_In, h1, h2, h3]
    · simp -implicitDefEqProofs (disch := omega) [swashref01_In, h1, h2]
  · simp -implicitDefEqProofs (disch := omega) [swashref01_In, h1]
theorem num_snoc (l : List Int) (y : Int) : num (l ++ [y]) = 256 * num l + y := by simp [num]
theorem num_acc : ∀ (l : List Int) (x m : Int), 0 ≤ x → x < m → Byt l → 0 ≤ l.foldl (fun x y => 256 * x + y) x ∧ l.foldl (fun x y => 256 * x + y) x < m * 256 ^ l.length
  | [], x, m, h0, h1, _ => by simp; exact ⟨h0, h1⟩
  | y :: l, x, m, h0, h1, hb => by
    have hy := hb y (by simp)
    have := num_acc l (256 * x + y) (256 * m) (by omega) (by omega) fun n hn => hb n (by simp [hn])
    rw [List.foldl_cons, List.length_cons, Int.pow_succ, Int.mul_comm (256 ^ l.length) 256, ← Int.mul_assoc, Int.mul_comm m 256]
    exact this
theorem num_bound (l : List Int) (h : Byt l) : 0 ≤ num l ∧ num l < 256 ^ l.length := by
  have := num_acc l 0 1 (by omega) (by omega) h
  rw [Int.one_mul] at this
  exact this
theorem num_bound3 (l : List Int) (h : Byt l) (hl : l.length ≤ 3) : 0 ≤ num l ∧ num l < 16777216 := by
  have := num_bound l h
  rcases (by omega : l.length = 0 ∨ l.length = 1 ∨ l.length = 2 ∨ l.length = 3) with e | e | e | e <;> rw [e] at this <;> omega
theorem refU_run (k : Nat) {H : Heap} {v : Value} {b : List Int} (hv : Sl H 1 v encB b) (hb : Byt b) (i n : Int) (hl : b.length < 2 ^ 62) (hn : n ≤ 4) : R (T k) F.swashref01_U [v, .int .i64 i, .int .i64 n] H = .ok (.int .i64 ((uS b i n).getD (-1))) H := by
  rw [swashref01_U_R]
  refine nrm_gc (Pure.of ?_) (.int _ _)
  have hin := refIn_run k b.length i n (by omega) (by omega)
  by_cases hc : 0 ≤ i ∧ 0 ≤ n ∧ i ≤ b.length ∧ n ≤ b.length - i
  · have hi : inS b.length i n = true := by simpa [inS] using hc
    rw [hi] at hin
    obtain ⟨h1, h2, h3, h4⟩ := hc
    obtain ⟨i, rfl⟩ := Int.eq_ofNat_of_zero_le h1
    obtain ⟨n, rfl⟩ := Int.eq_ofNat_of_zero_le h2
    obtain ⟨l, hld⟩ : ∃ l, l = (b.drop i).take n := ⟨_, rfl⟩
    have hp : pieceS b i n = some l := by rw [pieceS, if_pos ⟨h1, h2, h3, h4⟩, hld]; simp
    have hbl := (hb.piece hp).1
    have hll : l.length = n := by have := pieceS_len hp; omega
    have hu : (uS b i n).getD (-1) = num l := by rw [uS, hp]; rfl
    rw [hu]
    obtain ⟨x, e', H1, hr, rfl, rfl, a, rfl⟩ := loop_up (body := swashref01_U_l1 k (R (T k))) n
      (fun j e H' => H' = H ∧ e = [(0, v), (1, .int .i64 i), (2, .int .i64 n), (7, .int .i64 (num (l.take j))), (8, .int .i64 j)])
      (fun x e H' => H' = H ∧ x = .exit 0 ∧ ∃ a, e = [(0, v), (1, .int .i64 i), (2, .int .i64 n), (7, .int .i64 (num l)), (8, .int .i64 n), (17, a)])
      (e0 := [(0, v), (1, .int .i64 i), (2, .int .i64 n), (7, .int .i64 0), (8, .int .i64 0)]) (H0 := H) ⟨rfl, rfl⟩ (by omega)
      (fun j e H' hj ⟨hH, he⟩ => by
        subst he hH
        obtain ⟨y, hy⟩ : ∃ y, l[j]? = some y := ⟨l[j]'(by omega), List.getElem?_eq_getElem _⟩
        have hyb := hbl y (List.mem_of_getElem? hy)
        have hg : b[i + j]? = some y := by
          rw [hld, List.getElem?_take, if_pos hj, List.getElem?_drop] at hy
          exact hy
        obtain ⟨p, hix, hld⟩ := hv.ix1 encB_len (i + j) y hg _ rfl
        have hix : ∀ H'', ixS 1 v (.int .i64 ((i : Int) + j)) H'' = .ok p H'' := fun H'' => by rw [← hix .i64 H'', Int.natCast_add]
        have hld := hld _ (Ext.refl _)
        have hnb := num_bound3 (l.take j) (fun z hz => hbl z (List.mem_of_mem_take hz)) (by simp; omega)
        have hlt : (j : Int) < n := by omega
        refine .inl ⟨_, H', ?_, rfl, rfl⟩
        rw [swashref01_U_l1_eq, List.take_add_one, hy, Option.toList_some, num_snoc]
        simp -implicitDefEqProofs (disch := omega) [hlt, hix, hld])
      (fun e H' ⟨hH, he⟩ => by
        subst he hH
        refine ⟨.exit 0, _, H', ?_, by simp, rfl, rfl, .bool false, rfl⟩
        rw [swashref01_U_l1_eq, List.take_of_length_le (by omega)]
        simp -implicitDefEqProofs)
    simp -implicitDefEqProofs (disch := omega) [swashref01_U, hv.len, hin, hr, swashref01_U_l1k_x0]
  · have hi : inS b.length i n = false := by simpa [inS] using hc
    rw [hi] at hin
    have hu : (uS b i n).getD (-1) = -1 := by rw [uS, pieceS, if_neg hc]; rfl
    rw [hu]
    simp -implicitDefEqProofs (disch := omega) [swashref01_U, hv.len, hin]
def rowsB (z i n s : Int) : Bool := decide (0 ≤ i ∧ 0 ≤ n ∧ 0 ≤ s ∧ i ≤ z ∧ (s = 0 ∨ n ≤ (z - i) / s))
theorem refRows_run (k : Nat) (z i n s : Int) (hz0 : 0 ≤ z) (hz : z < 2 ^ 62) (H : Heap) : R (T k) F.swashref01_Rows [.int .i64 z, .int .i64 i, .int .i64 n, .int .i64 s] H = .ok (.bool (rowsB z i n s)) H := by
  rw [swashref01_Rows_R]
  refine nrm_gc (Pure.of ?_) (.bool _)
  by_cases h1 : i < 0
  · have e : rowsB z i n s = false := by unfold rowsB; simp; omega
    simp -implicitDefEqProofs (disch := omega) [swashref01_Rows, h1, e]
  by_cases h2 : n < 0
  · have e : rowsB z i n s = false := by unfold rowsB; simp; omega
    simp -implicitDefEqProofs (disch := omega) [swashref01_Rows, h1, h2, e]
  by_cases h3 : s < 0
  · have e : rowsB z i n s = false := by unfold rowsB; simp; omega
    simp -implicitDefEqProofs (disch := omega) [swashref01_Rows, h1, h2, h3, e]
  by_cases h4 : i > z
  · have e : rowsB z i n s = false := by unfold rowsB; simp; omega
    simp -implicitDefEqProofs (disch := omega) [swashref01_Rows, h1, h2, h3, h4, e]
  by_cases h5 : s = 0
  · subst h5
    have e : rowsB z i n 0 = true := by unfold rowsB; simp; omega
    simp -implicitDefEqProofs (disch := omega) [swashref01_Rows, h1, h2, h4, e]
  have hq : (z - i).tdiv s = (z - i) / s := Int.tdiv_eq_ediv_of_nonneg (by omega)
  have hq0 : 0 ≤ (z - i) / s := Int.ediv_nonneg (by omega) (by omega)
  have hq1 : (z - i) / s ≤ z - i := Int.ediv_le_self _ (by omega)
  have qr := fun H => bin_quo Prog 3 H .i64 (z - i) s h5
  rw [hq] at qr
  have hb5 : (s == 0) = false := by simpa using h5
  have e : rowsB z i n s = decide (n ≤ (z - i) / s) := by unfold rowsB; simp only [decide_eq_decide]; omega
  simp -implicitDefEqProofs (disch := omega) [swashref01_Rows, h1, h2, h3, h4, hb5, qr, e]
end Go.Sw
end
section
namespace Go.Sw
open Go.RowKit
theorem mapO_len {α β : Type} {f : α → Option β} : ∀ {l : List α} {r : List β}, mapO f l = some r → r.length = l.length
  | [], r, h => by injection h with h; subst h; rfl
  | x :: l, r, h => by
    simp only [mapO] at h
    obtain ⟨y, _, h⟩ := Option.bind_eq_some_iff.1 h
    obtain ⟨r', h1, rfl⟩ := Option.map_eq_some_iff.1 h
    simp [mapO_len h1]
theorem mapO_get {α β : Type} {f : α → Option β} : ∀ {l : List α} {r : List β} {i : Nat} {y : β}, mapO f l = some r → r[i]? = some y → ∃ x, l[i]? = some x ∧ f x = some y
  | [], r, i, y, h, hy => by injection h with h; subst h; simp at hy
  | x :: l, r, i, y, h, hy => by
    simp only [mapO] at h
    obtain ⟨z, h0, h⟩ := Option.bind_eq_some_iff.1 h
    obtain ⟨r', h1, rfl⟩ := Option.map_eq_some_iff.1 h
    cases i with
    | zero => simp at hy; subst hy; exact ⟨x, by simp, h0⟩
    | succ i => simp at hy; simpa using mapO_get h1 hy
structure Pt where
  first : Int
  last : Int
  vals : List Int
def listS (b : List Int) (i n z : Int) : Option (List Int) := (rowsS b i n z).map fun r => (cutRows r z.toNat n.toNat).map num
def trimS (b : List Int) (i z : Int) : Option (List Pt) :=
  (uS b i 2).bind fun f => (uS b (i + 2) 2).bind fun n =>
    if f + n ≤ 65536 then (listS b (i + 4) n z).map fun vs => if n = 0 then [] else [⟨f, f + n - 1, vs⟩] else none
def segP (b : List Int) (z : Int) (each : Bool) (row : List Int) : Option Pt :=
  (uS row 2 2).bind fun f => (uS row 0 2).bind fun l =>
    if f ≤ l then (if each then (uS row 4 2).bind fun i => (listS b i (l - f + 1) z).map fun vs => ⟨f, l, vs⟩ else (uS row 4 z).map fun x => ⟨f, l, [x]⟩) else none
def segS (b : List Int) (z : Int) (each : Bool) : Option (List Pt) :=
  (takeS b 2 (if each then 6 else 4 + z) 2).bind (mapO (segP b z each))
def oneP (z : Int) (row : List Int) : Option Pt := (uS row 0 2).bind fun i => (uS row 2 z).map fun x => ⟨i, i, [x]⟩
def oneS (b : List Int) (z : Int) : Option (List Pt) := (takeS b 2 (2 + z) 1).bind (mapO (oneP z))
def risesS : List Pt → Bool
  | [] => true
  | [_] => true
  | p :: q :: l => decide (p.last < q.first) && risesS (q :: l)
def partsS (b : List Int) (glyphs z fmt : Int) : Option (List Pt) :=
  if fmt = 0 then (listS b 2 glyphs z).map fun vs => [⟨0, glyphs - 1, vs⟩] else
  if fmt = 2 then segS b z false else
  if fmt = 4 then segS b z true else
  if fmt = 6 then oneS b z else
  if fmt = 8 then trimS b 2 z else
  if fmt = 10 then (uS b 2 2).bind fun u => if u = 1 ∨ u = 2 ∨ u = 4 then trimS b 4 u else none
  else none
def lookS (b : List Int) (glyphs z : Int) : Option (Int × List Pt) :=
  (uS b 0 2).bind fun fmt => (partsS b glyphs z fmt).bind fun ps => if risesS ps then some (fmt, ps) else none
def Pt.num (p : Pt) (id : Int) : Option Int := p.vals[(min (id - p.first) ((p.vals.length : Int) - 1)).toNat]?
def getS (ps : List Pt) (id : Int) : Option Int := (ps.find? fun p => decide (id ≤ p.last)).bind fun p => if p.first ≤ id then p.num id else none
theorem find_first {α : Type} (q : α → Bool) : ∀ (l : List α) (i : Nat), IsFirst l.length (fun j => (l[j]?).elim false q) i → l.find? q = l[i]?
  | [], i, h => by simp
  | x :: l, 0, h => by
    have := h.2.2 0 (Nat.le_refl _) (by simp)
    simp at this
    simp [this]
  | x :: l, i + 1, h => by
    have h0 := h.2.1 0 (by omega)
    simp at h0
    rw [List.find?_cons, h0]
    simp only [List.getElem?_cons_succ]
    exact find_first q l i ⟨by simpa using h.1, fun j hj => by simpa using h.2.1 (j + 1) (by omega), fun j h1 h2 => by simpa using h.2.2 (j + 1) (by omega) (by simpa using h2)⟩
def Pt.ok (p : Pt) : Prop := 0 ≤ p.first ∧ p.first ≤ p.last ∧ p.last < 65536 ∧ p.vals ≠ [] ∧ (p.vals.length : Int) ≤ 65536 ∧ ∀ x, x ∈ p.vals → 0 ≤ x ∧ x < 4294967296
theorem num_lt4 {l : List Int} (h : Byt l) (hl : l.length ≤ 4) : 0 ≤ num l ∧ num l < 4294967296 := by
  have := num_bound l h
  have h4 : l.length = 0 ∨ l.length = 1 ∨ l.length = 2 ∨ l.length = 3 ∨ l.length = 4 := by omega
  rcases h4 with e | e | e | e | e <;> rw [e] at this <;> omega
theorem cutRows_byt {r : List Int} (hb : Byt r) (z n : Nat) {l : List Int} (h : l ∈ cutRows r z n) : Byt l ∧ l.length ≤ z := by
  obtain ⟨i, _, rfl⟩ := List.mem_map.1 h
  exact ⟨fun x hx => hb x (List.mem_of_mem_drop (List.mem_of_mem_take hx)), by simp; omega⟩
theorem rowsS_n {b : List Int} {i n z : Int} {r : List Int} (h : rowsS b i n z = some r) : 0 ≤ n ∧ 0 ≤ z ∧ 0 ≤ i ∧ i ≤ b.length ∧ n * z ≤ b.length - i ∧ r = (b.drop i.toNat).take (n * z).toNat := by
  unfold rowsS at h
  split at h
  · rename_i hc
    unfold pieceS at h
    split at h
    · rename_i hd
      injection h with h
      exact ⟨hc.1, hc.2.1, hd.1, hd.2.2.1, hd.2.2.2, h.symm⟩
    · cases h
  · cases h
theorem listS_spec {b : List Int} (hb : Byt b) {i n z : Int} {vs : List Int} (hz : z ≤ 4) (h : listS b i n z = some vs) : 0 ≤ n ∧ (vs.length : Int) = n ∧ ∀ x, x ∈ vs → 0 ≤ x ∧ x < 4294967296 := by
  unfold listS at h
  obtain ⟨r, hr, rfl⟩ := Option.map_eq_some_iff.1 h
  have h1 := rowsS_n hr
  have h2 := (hb.piece (rowsS_piece hr)).1
  refine ⟨h1.1, by simp; omega, fun x hx => ?_⟩
  obtain ⟨l, hl, rfl⟩ := List.mem_map.1 hx
  obtain ⟨h3, h4⟩ := cutRows_byt h2 _ _ hl
  exact num_lt4 h3 (by omega)
theorem takeS_spec {b : List Int} (hb : Byt b) {i need : Int} {keys : Nat} {rows : List (List Int)} (h : takeS b i need keys = some rows) : ∃ z n : Int, uS b i 2 = some z ∧ uS b (i + 2) 2 = some n ∧ need ≤ z ∧ (rows.length : Int) ≤ n ∧ ∀ row, row ∈ rows → Byt row ∧ (row.length : Int) = z := by
  unfold takeS at h
  split at h
  · rename_i z n h1 h2
    split at h
    · rename_i hc
      obtain ⟨r, hr, rfl⟩ := Option.map_eq_some_iff.1 h
      have hn := rowsS_n hr
      have hrb := (hb.piece (rowsS_piece hr)).1
      have hrl : (r.length : Int) = n * z := pieceS_len (rowsS_piece hr)
      refine ⟨z, n, h1, h2, hc.2, ?_, fun row hrow => ?_⟩
      · unfold endRows
        split <;> simp <;> omega
      · have hm : row ∈ cutRows r z.toNat n.toNat := by
          unfold endRows at hrow
          split at hrow
          · obtain ⟨i, hi, rfl⟩ := List.mem_map.1 hrow
            exact List.mem_map.2 ⟨i, List.mem_range.2 (by have := List.mem_range.1 hi; omega), rfl⟩
          · exact hrow
        refine ⟨(cutRows_byt hrb _ _ hm).1, ?_⟩
        obtain ⟨j, hj, rfl⟩ := List.mem_map.1 hm
        have hj := List.mem_range.1 hj
        obtain ⟨z', rfl⟩ := Int.eq_ofNat_of_zero_le hn.2.1
        obtain ⟨n', rfl⟩ := Int.eq_ofNat_of_zero_le hn.1
        have hrl : r.length = n' * z' := by exact_mod_cast hrl
        simp only [Int.toNat_natCast] at hj ⊢
        have : z' * j + z' ≤ r.length := by
          rw [hrl, ← Nat.mul_succ, Nat.mul_comm]
          exact Nat.mul_le_mul_right _ hj
        simp; omega
    · cases h
  · cases h
theorem trimS_ok {b : List Int} (hb : Byt b) {i z : Int} (hz : z ≤ 4) {ps : List Pt} (h : trimS b i z = some ps) : ∀ p, p ∈ ps → p.ok := by
  unfold trimS at h
  obtain ⟨f, hf, h⟩ := Option.bind_eq_some_iff.1 h
  obtain ⟨n, hn, h⟩ := Option.bind_eq_some_iff.1 h
  split at h
  · rename_i hc
    obtain ⟨vs, hv, rfl⟩ := Option.map_eq_some_iff.1 h
    have hs := listS_spec hb hz hv
    have hf := uS_two hb hf
    have hn := uS_two hb hn
    intro p hp
    split at hp
    · simp at hp
    · simp at hp
      subst hp
      exact ⟨by simp; omega, by simp; omega, by simp; omega, fun e => by simp at e; simp [e] at hs; omega, by simp; omega, hs.2.2⟩
  · cases h
theorem segP_ok {b row : List Int} (hb : Byt b) (hr : Byt row) {z : Int} (hz : z = 2 ∨ z = 4) {each : Bool} {p : Pt} (h : segP b z each row = some p) : p.ok := by
  unfold segP at h
  obtain ⟨f, hf, h⟩ := Option.bind_eq_some_iff.1 h
  obtain ⟨l, hl, h⟩ := Option.bind_eq_some_iff.1 h
  have hf := uS_two hr hf
  have hl := uS_two hr hl
  split at h
  · split at h
    · obtain ⟨i, hi, h⟩ := Option.bind_eq_some_iff.1 h
      obtain ⟨vs, hv, rfl⟩ := Option.map_eq_some_iff.1 h
      have hs := listS_spec hb (by omega) hv
      exact ⟨by simp; omega, by simpa, by simp; omega, fun e => by simp at e; simp [e] at hs; omega, by simp; omega, hs.2.2⟩
    · obtain ⟨x, hx, rfl⟩ := Option.map_eq_some_iff.1 h
      refine ⟨by simp; omega, by simpa, by simp; omega, by simp, by simp, fun y hy => ?_⟩
      simp at hy
      subst hy
      rcases hz with rfl | rfl
      · have := uS_two hr hx; omega
      · have := uS_four hr hx; omega
  · cases h
theorem oneP_ok {row : List Int} (hr : Byt row) {z : Int} (hz : z = 2 ∨ z = 4) {p : Pt} (h : oneP z row = some p) : p.ok := by
  unfold oneP at h
  obtain ⟨i, hi, h⟩ := Option.bind_eq_some_iff.1 h
  obtain ⟨x, hx, rfl⟩ := Option.map_eq_some_iff.1 h
  have hi := uS_two hr hi
  refine ⟨by simp; omega, by simp, by simp; omega, by simp, by simp, fun y hy => ?_⟩
  simp at hy
  subst hy
  rcases hz with rfl | rfl
  · have := uS_two hr hx; omega
  · have := uS_four hr hx; omega
theorem mapO_all {α β : Type} {f : α → Option β} {l : List α} {r : List β} (h : mapO f l = some r) {P : β → Prop} (hp : ∀ x y, x ∈ l → f x = some y → P y) : ∀ y, y ∈ r → P y := by
  intro y hy
  obtain ⟨i, hi⟩ := List.mem_iff_getElem?.1 hy
  obtain ⟨x, hx, hf⟩ := mapO_get h hi
  exact hp x y (List.mem_of_getElem? hx) hf
theorem partsS_ok {b : List Int} (hb : Byt b) {glyphs z fmt : Int} (hg : 1 ≤ glyphs) (hg2 : glyphs ≤ 65535) (hz : z = 2 ∨ z = 4) {ps : List Pt} (h : partsS b glyphs z fmt = some ps) : ∀ p, p ∈ ps → p.ok := by
  unfold partsS at h
  split at h
  · obtain ⟨vs, hv, rfl⟩ := Option.map_eq_some_iff.1 h
    have hs := listS_spec hb (by omega) hv
    intro p hp
    simp at hp
    subst hp
    exact ⟨by simp, by simp; omega, by simp; omega, fun e => by simp at e; simp [e] at hs; omega, by simp; omega, hs.2.2⟩
  split at h
  · obtain ⟨rows, h1, h2⟩ := Option.bind_eq_some_iff.1 h
    obtain ⟨_, _, _, _, _, _, hr⟩ := takeS_spec hb h1
    exact mapO_all h2 fun x y hx hy => segP_ok hb (hr x hx).1 hz hy
  split at h
  · obtain ⟨rows, h1, h2⟩ := Option.bind_eq_some_iff.1 h
    obtain ⟨_, _, _, _, _, _, hr⟩ := takeS_spec hb h1
    exact mapO_all h2 fun x y hx hy => segP_ok hb (hr x hx).1 hz hy
  split at h
  · obtain ⟨rows, h1, h2⟩ := Option.bind_eq_some_iff.1 h
    obtain ⟨_, _, _, _, _, _, hr⟩ := takeS_spec hb h1
    exact mapO_all h2 fun x y hx hy => oneP_ok (hr x hx).1 hz hy
  split at h
  · exact trimS_ok hb (by omega) h
  split at h
  · obtain ⟨u, _, h⟩ := Option.bind_eq_some_iff.1 h
    split at h
    · exact trimS_ok hb (by omega) h
    · cases h
  · cases h
theorem lookS_ok {b : List Int} (hb : Byt b) {glyphs z fmt : Int} (hg : 1 ≤ glyphs) (hg2 : glyphs ≤ 65535) (hz : z = 2 ∨ z = 4) {ps : List Pt} (h : lookS b glyphs z = some (fmt, ps)) : uS b 0 2 = some fmt ∧ (∀ p, p ∈ ps → p.ok) ∧ risesS ps = true := by
  unfold lookS at h
  obtain ⟨f, hf, h⟩ := Option.bind_eq_some_iff.1 h
  obtain ⟨qs, hq, h⟩ := Option.bind_eq_some_iff.1 h
  split at h
  · rename_i hr
    injection h with h; injection h with h1 h2
    subst h1 h2
    exact ⟨hf, partsS_ok hb hg hg2 hz hq, hr⟩
  · cases h
theorem segS_len {b : List Int} (hb : Byt b) {z : Int} {each : Bool} {ps : List Pt} (h : segS b z each = some ps) : ps.length < 65536 := by
  obtain ⟨rows, h1, h2⟩ := Option.bind_eq_some_iff.1 h
  obtain ⟨_, n, _, hn, _, hlen, _⟩ := takeS_spec hb h1
  have := uS_two hb hn
  have := mapO_len h2
  omega
theorem oneS_len {b : List Int} (hb : Byt b) {z : Int} {ps : List Pt} (h : oneS b z = some ps) : ps.length < 65536 := by
  obtain ⟨rows, h1, h2⟩ := Option.bind_eq_some_iff.1 h
  obtain ⟨_, n, _, hn, _, hlen, _⟩ := takeS_spec hb h1
  have := uS_two hb hn
  have := mapO_len h2
  omega
theorem trimS_len {b : List Int} {i z : Int} {ps : List Pt} (h : trimS b i z = some ps) : ps.length < 65536 := by
  obtain ⟨f, _, h⟩ := Option.bind_eq_some_iff.1 h
  obtain ⟨n, _, h⟩ := Option.bind_eq_some_iff.1 h
  split at h
  · obtain ⟨vs, _, rfl⟩ := Option.map_eq_some_iff.1 h
    split <;> simp
  · cases h
theorem lookS_len {b : List Int} (hb : Byt b) {g z : Int} {x : Int × List Pt} (h : lookS b g z = some x) : x.2.length < 2 ^ 31 := by
  unfold lookS at h
  obtain ⟨f, _, h⟩ := Option.bind_eq_some_iff.1 h
  obtain ⟨ps, h1, h⟩ := Option.bind_eq_some_iff.1 h
  split at h
  · injection h with h
    subst h
    dsimp only
    unfold partsS at h1
    split at h1
    · obtain ⟨vs, _, rfl⟩ := Option.map_eq_some_iff.1 h1
      simp
    split at h1
    · have := segS_len hb h1; omega
    split at h1
    · have := segS_len hb h1; omega
    split at h1
    · have := oneS_len hb h1; omega
    split at h1
    · have := trimS_len h1; omega
    split at h1
    · obtain ⟨u, _, h1⟩ := Option.bind_eq_some_iff.1 h1
      split at h1
      · have := trimS_len h1; omega
      · cases h1
    · cases h1
  · cases h
theorem risesS_get : ∀ {ps : List Pt}, risesS ps = true → (∀ p, p ∈ ps → p.ok) → ∀ (i j : Nat) (p q : Pt), i < j → ps[i]? = some p → ps[j]? = some q → p.last < q.first
  | [], _, _, i, j, p, q, _, hp, _ => by simp at hp
  | [_], _, _, i, j, p, q, hij, hp, hq => by
    have h1 := (List.getElem?_eq_some_iff.1 hq).1
    simp at h1
    omega
  | a :: b :: l, h, hok, i, j, p, q, hij, hp, hq => by
    simp only [risesS, Bool.and_eq_true, decide_eq_true_eq] at h
    obtain ⟨j, rfl⟩ : ∃ j', j = j' + 1 := ⟨j - 1, by omega⟩
    have hq : (b :: l)[j]? = some q := by simpa using hq
    have hok' : ∀ p, p ∈ b :: l → p.ok := fun p hp => hok p (by simp at hp ⊢; exact .inr hp)
    cases i with
    | succ i => exact risesS_get h.2 hok' i j p q (by omega) (by simpa using hp) hq
    | zero =>
      simp at hp
      subst hp
      cases j with
      | zero => simp at hq; subst hq; exact h.1
      | succ j =>
        have h1 := risesS_get h.2 hok' 0 (j + 1) b q (by omega) (by simp) hq
        have h2 := hok b (by simp)
        have := h2.2.1
        omega
theorem getS_first {ps : List Pt} (id : Int) (i : Nat) (h : IsFirst ps.length (fun j => (ps[j]?).elim false fun p => decide (id ≤ p.last)) i) : getS ps id = (ps[i]?).bind fun p => if p.first ≤ id then p.num id else none := by
  unfold getS
  rw [find_first _ ps i h]
theorem Pt.num_some {p : Pt} (h : p.ok) {id : Int} (hf : p.first ≤ id) : ∃ x, p.num id = some x ∧ 0 ≤ x ∧ x < 4294967296 := by
  obtain ⟨h1, h2, h3, h4, h5, h6⟩ := h
  have hl : 0 < p.vals.length := List.length_pos_iff.2 h4
  unfold Pt.num
  have hi : (min (id - p.first) ((p.vals.length : Int) - 1)).toNat < p.vals.length := by omega
  exact ⟨p.vals[(min (id - p.first) ((p.vals.length : Int) - 1)).toNat], List.getElem?_eq_getElem hi, h6 _ (List.getElem_mem _)⟩
end Go.Sw
end
section
namespace Go.Sw
open Go.RowKit
theorem pieceS_iff {b : List Int} {i n : Int} {r : List Int} : pieceS b i n = some r ↔ (0 ≤ i ∧ 0 ≤ n ∧ i ≤ b.length ∧ n ≤ b.length - i) ∧ r = (b.drop i.toNat).take n.toNat := by
  unfold pieceS
  split
  · rename_i h
    constructor
    · intro e; injection e with e; exact ⟨h, e.symm⟩
    · rintro ⟨_, rfl⟩; rfl
  · rename_i h
    constructor
    · intro e; cases e
    · rintro ⟨h', _⟩; exact absurd h' h
theorem uS_sub {b r : List Int} {p z : Int} (h : pieceS b p z = some r) {x y : Int} (hx : 0 ≤ x) (hy : 0 ≤ y) (hxy : x + y ≤ z) : uS r x y = uS b (p + x) y := by
  obtain ⟨⟨h1, h2, h3, h4⟩, rfl⟩ := pieceS_iff.1 h
  have hl : ((b.drop p.toNat).take z.toNat).length = z.toNat := by simp; omega
  unfold uS
  rw [pieceS_iff.2 ⟨by rw [hl]; omega, rfl⟩, pieceS_iff.2 ⟨by omega, rfl⟩, List.drop_take, List.take_take, List.drop_drop]
  rw [show min y.toNat (z.toNat - x.toNat) = y.toNat by omega, show p.toNat + x.toNat = (p + x).toNat by omega]
theorem rowsS_iff {b : List Int} {i n z : Int} {r : List Int} (hz : 0 < z) : rowsS b i n z = some r ↔ (0 ≤ i ∧ 0 ≤ n ∧ i ≤ b.length ∧ n * z ≤ b.length - i) ∧ r = (b.drop i.toNat).take (n * z).toNat := by
  unfold rowsS
  have k : n ≤ (b.length : Int) / z ↔ n * z ≤ b.length := Int.le_ediv_iff_mul_le hz
  split
  · rename_i h
    rw [pieceS_iff]
    constructor
    · rintro ⟨h1, h2⟩; exact ⟨⟨h1.1, h.1, h1.2.2.1, h1.2.2.2⟩, h2⟩
    · rintro ⟨h1, h2⟩; exact ⟨⟨h1.1, Int.mul_nonneg h.1 (by omega), h1.2.2.1, h1.2.2.2⟩, h2⟩
  · rename_i h
    constructor
    · intro e; cases e
    · rintro ⟨h1, _⟩
      exact absurd ⟨h1.2.1, by omega, .inr (k.2 (by omega))⟩ h
theorem rowsB_iff {s i n z : Int} (hz : 0 < z) : rowsB s i n z = true ↔ 0 ≤ i ∧ 0 ≤ n ∧ i ≤ s ∧ n * z ≤ s - i := by
  unfold rowsB
  have k : n ≤ (s - i) / z ↔ n * z ≤ s - i := Int.le_ediv_iff_mul_le hz
  rw [decide_eq_true_eq, k]
  constructor
  · rintro ⟨h1, h2, h3, h4, h5⟩; exact ⟨h1, h2, h4, by rcases h5 with h5 | h5 <;> omega⟩
  · rintro ⟨h1, h2, h3, h4⟩; exact ⟨h1, h2, by omega, h3, .inr h4⟩
theorem listS_isSome {b : List Int} {i n z : Int} (hz : 0 < z) : (listS b i n z).isSome = rowsB b.length i n z := by
  rw [Bool.eq_iff_iff, rowsB_iff hz, listS, Option.isSome_map, Option.isSome_iff_exists]
  constructor
  · rintro ⟨r, hr⟩; exact ((rowsS_iff hz).1 hr).1
  · intro h; exact ⟨_, (rowsS_iff hz).2 ⟨h, rfl⟩⟩
theorem listS_get {b : List Int} {i n z : Int} {vs : List Int} (hz : 0 < z) (h : listS b i n z = some vs) (j : Nat) (hj : (j : Int) < n) : vs[j]? = uS b (i + j * z) z := by
  unfold listS at h
  obtain ⟨r, hr, rfl⟩ := Option.map_eq_some_iff.1 h
  obtain ⟨⟨h1, h2, h3, h4⟩, rfl⟩ := (rowsS_iff hz).1 hr
  obtain ⟨i, rfl⟩ := Int.eq_ofNat_of_zero_le h1
  obtain ⟨n, rfl⟩ := Int.eq_ofNat_of_zero_le h2
  obtain ⟨z, rfl⟩ := Int.eq_ofNat_of_zero_le (Int.le_of_lt hz)
  have hj' : j < n := by omega
  have e : j * z + z ≤ n * z := by
    rw [← Nat.succ_mul]; exact Nat.mul_le_mul_right _ hj'
  have h4' : n * z ≤ b.length - i := by omega
  simp only [Int.toNat_natCast]
  rw [List.getElem?_map, cutRows_get _ _ _ _ hj', Option.map_some]
  unfold uS
  rw [pieceS_iff.2 ⟨⟨by omega, by omega, by
    have : ((j * z : Nat) : Int) = (j : Int) * z := by simp
    omega, by
    have : ((j * z : Nat) : Int) = (j : Int) * z := by simp
    omega⟩, rfl⟩, Option.map_some]
  congr 2
  rw [show ((n : Int) * z).toNat = n * z by rw [← Int.natCast_mul, Int.toNat_natCast], show ((i : Int) + j * z).toNat = i + j * z by rw [← Int.natCast_mul, ← Int.natCast_add, Int.toNat_natCast], Int.toNat_natCast]
  rw [List.drop_take, List.take_take, List.drop_drop, Nat.mul_comm z j]
  rw [show min z (n * z - j * z) = z by omega]
theorem rowsS_row {b : List Int} {i : Int} {n z : Nat} {r : List Int} (h : rowsS b i n z = some r) {j : Nat} (hj : j < n) : pieceS b (i + z * j) z = some ((r.drop (z * j)).take z) := by
  have hn := rowsS_n h
  obtain ⟨i', hi'⟩ := Int.eq_ofNat_of_zero_le hn.2.2.1
  have e : z * j + z ≤ n * z := by
    rw [← Nat.mul_succ, Nat.mul_comm]; exact Nat.mul_le_mul_right _ (by omega)
  have e1 : ((z * j : Nat) : Int) = (z : Int) * j := by simp
  have e2 : ((n * z : Nat) : Int) = (n : Int) * z := by simp
  rw [pieceS_iff]
  refine ⟨⟨by omega, by omega, by omega, by omega⟩, ?_⟩
  rw [hn.2.2.2.2.2, hi', show ((n : Int) * z).toNat = n * z by rw [← e2, Int.toNat_natCast], show ((i' : Int) + z * j).toNat = i' + z * j by rw [← e1, ← Int.natCast_add, Int.toNat_natCast]]
  simp only [Int.toNat_natCast]
  rw [List.drop_take, List.take_take, List.drop_drop]
  rw [show min z (n * z - z * j) = z by omega]
theorem takeS_get {b : List Int} {i need : Int} {keys : Nat} {rows : List (List Int)} (h : takeS b i need keys = some rows) :
    ∃ z n : Int, uS b i 2 = some z ∧ uS b (i + 2) 2 = some n ∧ need ≤ z ∧ 0 ≤ z ∧ (rows.length : Int) ≤ n ∧ ∀ (j : Nat) row, rows[j]? = some row → pieceS b (i + 10 + z * j) z = some row := by
  unfold takeS at h
  split at h
  · rename_i z n h1 h2
    split at h
    · rename_i hc
      obtain ⟨r, hr, rfl⟩ := Option.map_eq_some_iff.1 h
      have hn := rowsS_n hr
      refine ⟨z, n, h1, h2, hc.2, hn.2.1, ?_, fun j row hrow => ?_⟩
      · unfold endRows
        split <;> simp <;> omega
      · have hm : (cutRows r z.toNat n.toNat)[j]? = some row := by
          unfold endRows at hrow
          split at hrow
          · have hlt := (List.getElem?_eq_some_iff.1 hrow).1
            simp at hlt
            rw [cutRows_get _ _ _ _ (by omega)] at hrow
            rw [cutRows_get _ _ _ _ (by omega)]
            exact hrow
          · exact hrow
        have hlt := (List.getElem?_eq_some_iff.1 hm).1
        simp at hlt
        rw [cutRows_get _ _ _ _ (by omega)] at hm
        injection hm with hm
        obtain ⟨z', rfl⟩ := Int.eq_ofNat_of_zero_le hn.2.1
        obtain ⟨n', rfl⟩ := Int.eq_ofNat_of_zero_le hn.1
        obtain ⟨i', hi'⟩ := Int.eq_ofNat_of_zero_le hn.2.2.1
        simp only [Int.toNat_natCast] at hlt hm
        have e : z' * j + z' ≤ n' * z' := by
          rw [← Nat.mul_succ, Nat.mul_comm]; exact Nat.mul_le_mul_right _ (by omega)
        have e1 : ((z' * j : Nat) : Int) = (z' : Int) * j := by simp
        have e2 : ((n' * z' : Nat) : Int) = (n' : Int) * z' := by simp
        rw [pieceS_iff]
        refine ⟨⟨by omega, by omega, by omega, by omega⟩, ?_⟩
        rw [← hm, hn.2.2.2.2.2, hi', show ((n' : Int) * z').toNat = n' * z' by rw [← e2, Int.toNat_natCast], show ((i' : Int) + z' * j).toNat = i' + z' * j by rw [← e1, ← Int.natCast_add, Int.toNat_natCast]]
        simp only [Int.toNat_natCast]
        rw [List.drop_take, List.take_take, List.drop_drop]
        rw [show min z' (n' * z' - z' * j) = z' by omega]
    · cases h
  · cases h
def gU (b : List Int) (i n : Int) : Int := (uS b i n).getD (-1)
theorem gU_two {b : List Int} (hb : Byt b) (i : Int) : -1 ≤ gU b i 2 ∧ gU b i 2 < 65536 := by
  unfold gU
  cases h : uS b i 2 with
  | none => simp
  | some x => have := uS_two hb h; simp; omega
structure RP where
  first : Int
  last : Int
  pos : Int
  size : Int
  step : Int
def posS (i z : Int) (n : Nat) : List Int := (List.range n).map fun j => i + 10 + z * (j : Nat)
theorem posS_get (i z : Int) (n j : Nat) (h : j < n) : (posS i z n)[j]? = some (i + 10 + z * j) := by simp [posS, h]
@[simp] theorem posS_len (i z : Int) (n : Nat) : (posS i z n).length = n := by simp [posS]
def segR (b : List Int) (z : Int) (each : Bool) (p : Int) : Option RP :=
  if each then (if rowsB b.length (gU b (p + 4) 2) (gU b p 2 - gU b (p + 2) 2 + 1) z then some ⟨gU b (p + 2) 2, gU b p 2, gU b (p + 4) 2, z, z⟩ else none)
  else some ⟨gU b (p + 2) 2, gU b p 2, p + 4, z, 0⟩
def refSegS (b : List Int) (z : Int) (each : Bool) : Option (List RP) :=
  (takeS b 2 (if each then 6 else 4 + z) 2).bind fun rows => mapO (segR b z each) (posS 2 (gU b 2 2) rows.length)
def oneR (b : List Int) (z : Int) (p : Int) : RP := ⟨gU b p 2, gU b p 2, p + 2, z, 0⟩
def refOneS (b : List Int) (z : Int) : Option (List RP) :=
  (takeS b 2 (2 + z) 1).map fun rows => (posS 2 (gU b 2 2) rows.length).map (oneR b z)
def refTrimS (b : List Int) (i z : Int) : Option (List RP) :=
  (uS b i 2).bind fun f => (uS b (i + 2) 2).bind fun n =>
    if f + n ≤ 65536 ∧ rowsB b.length (i + 4) n z = true then some (if n = 0 then [] else [⟨f, f + n - 1, i + 4, z, z⟩]) else none
def refPartsS (b : List Int) (glyphs z fmt : Int) : Option (List RP) :=
  if fmt = 0 then (if rowsB b.length 2 glyphs z then some [⟨0, glyphs - 1, 2, z, z⟩] else none) else
  if fmt = 2 then refSegS b z false else
  if fmt = 4 then refSegS b z true else
  if fmt = 6 then refOneS b z else
  if fmt = 8 then refTrimS b 2 z else
  if fmt = 10 then (uS b 2 2).bind fun u => if u = 1 ∨ u = 2 ∨ u = 4 then refTrimS b 4 u else none
  else none
def goodR : List RP → Bool
  | [] => true
  | [r] => decide (r.first ≤ r.last)
  | r :: q :: l => decide (r.first ≤ r.last) && decide (r.last < q.first) && goodR (q :: l)
def refReadS (b : List Int) (glyphs z : Int) : Option (List RP) :=
  (refPartsS b glyphs z (gU b 0 2)).bind fun rs => if goodR rs then some rs else none
def refGetS (b : List Int) (rs : List RP) (id : Int) : Option Int :=
  (rs.find? fun r => decide (r.first ≤ id ∧ id ≤ r.last)).map fun r => gU b (r.pos + (id - r.first) * r.step) r.size
def PR (b : List Int) (p : Pt) (r : RP) : Prop := p.first = r.first ∧ p.last = r.last ∧ ∀ id, r.first ≤ id → id ≤ r.last → p.num id = uS b (r.pos + (id - r.first) * r.step) r.size
def Rel (b : List Int) : List Pt → List RP → Prop
  | [], [] => True
  | p :: ps, r :: rs => PR b p r ∧ Rel b ps rs
  | _, _ => False
def Bad (rs : List RP) : Prop := ∃ r, r ∈ rs ∧ r.last < r.first
theorem Bad.good {rs : List RP} (h : Bad rs) : goodR rs = false := by
  obtain ⟨r, hr, hlt⟩ := h
  induction rs with
  | nil => cases hr
  | cons a l ih =>
    rcases List.mem_cons.1 hr with rfl | hr
    · cases l with
      | nil => simp [goodR]; omega
      | cons q l => simp only [goodR, Bool.and_eq_false_iff, decide_eq_false_iff_not]; exact .inl (.inl (by omega))
    · have := ih hr
      cases l with
      | nil => cases hr
      | cons q l => simp only [goodR, this, Bool.and_false]
theorem mapO_rel {b : List Int} {f : List Int → Option Pt} {g : Int → Option RP} : ∀ (rows : List (List Int)) (ps : List Int), rows.length = ps.length →
    (∀ (j : Nat) row p, rows[j]? = some row → ps[j]? = some p → (∀ x, f row = some x → ∃ r, g p = some r ∧ PR b x r) ∧ (f row = none → g p = none ∨ ∃ r, g p = some r ∧ r.last < r.first)) →
    (∀ xs, mapO f rows = some xs → ∃ rs, mapO g ps = some rs ∧ Rel b xs rs) ∧ (mapO f rows = none → ∀ rs, mapO g ps = some rs → Bad rs)
  | [], [], _, _ => ⟨fun xs h => ⟨[], rfl, by injection h with h; subst h; trivial⟩, fun h => by cases h⟩
  | [], _ :: _, h, _ => by simp at h
  | _ :: _, [], h, _ => by simp at h
  | row :: rows, p :: ps, h, hs => by
    have h0 := hs 0 row p (by simp) (by simp)
    have ih := mapO_rel rows ps (by simpa using h) fun j r q h1 h2 => hs (j + 1) r q (by simpa using h1) (by simpa using h2)
    constructor
    · intro xs hx
      simp only [mapO] at hx
      obtain ⟨x, e1, hx⟩ := Option.bind_eq_some_iff.1 hx
      obtain ⟨xs', e2, rfl⟩ := Option.map_eq_some_iff.1 hx
      obtain ⟨r, g1, p1⟩ := h0.1 x e1
      obtain ⟨rs, g2, p2⟩ := ih.1 xs' e2
      exact ⟨r :: rs, by simp [mapO, g1, g2], p1, p2⟩
    · intro hn rs hr
      simp only [mapO] at hr
      obtain ⟨r, e1, hr⟩ := Option.bind_eq_some_iff.1 hr
      obtain ⟨rs', e2, rfl⟩ := Option.map_eq_some_iff.1 hr
      cases hf : f row with
      | none =>
        rcases h0.2 hf with h1 | ⟨r', h1, h2⟩
        · rw [h1] at e1; cases e1
        · rw [h1] at e1; injection e1 with e1; subst e1
          exact ⟨r', by simp, h2⟩
      | some x =>
        simp only [mapO, hf, Option.bind_some, Option.map_eq_none_iff] at hn
        obtain ⟨q, hq, hlt⟩ := ih.2 hn rs' e2
        exact ⟨q, by simp [hq], hlt⟩
theorem mapO_pure {α β : Type} (f : α → β) : ∀ l : List α, mapO (fun x => some (f x)) l = some (l.map f)
  | [] => rfl
  | x :: l => by simp [mapO, mapO_pure f l]
theorem gU_some {b : List Int} {i n x : Int} (h : uS b i n = some x) : gU b i n = x := by unfold gU; rw [h]; rfl
theorem row_two {b row : List Int} {p z : Int} (h : pieceS b p z = some row) {x : Int} (hx : 0 ≤ x) {y : Int} (hy : 0 ≤ y) (hxy : x + y ≤ z) : uS row x y = uS b (p + x) y ∧ ∃ n, uS b (p + x) y = some n := by
  refine ⟨uS_sub h hx hy hxy, ?_⟩
  obtain ⟨⟨h1, h2, h3, h4⟩, _⟩ := pieceS_iff.1 h
  unfold uS
  rw [pieceS_iff.2 ⟨by omega, rfl⟩]
  exact ⟨_, rfl⟩
theorem list_num {b : List Int} {i f l z : Int} {vs : List Int} (hz : 0 < z) (h : listS b i (l - f + 1) z = some vs) (hlen : (vs.length : Int) = l - f + 1) : PR b ⟨f, l, vs⟩ ⟨f, l, i, z, z⟩ := by
  refine ⟨rfl, rfl, fun id h1 h2 => ?_⟩
  dsimp only at h1 h2 ⊢
  unfold Pt.num
  dsimp only
  rw [hlen, show min (id - f) (l - f + 1 - 1) = id - f by omega]
  have := listS_get hz h (id - f).toNat (by omega)
  rw [this]
  congr 2
  rw [show (((id - f).toNat : Nat) : Int) = id - f by omega]
theorem seg_rel {b row : List Int} {p z s : Int} {each : Bool} (hb : Byt b) (hz : z = 2 ∨ z = 4) (hrow : pieceS b p s = some row) (hs : (if each then 6 else 4 + z) ≤ s) :
    (∀ x, segP b z each row = some x → ∃ r, segR b z each p = some r ∧ PR b x r) ∧ (segP b z each row = none → segR b z each p = none ∨ ∃ r, segR b z each p = some r ∧ r.last < r.first) := by
  have hs6 : 6 ≤ s := by cases each <;> simp at hs <;> omega
  obtain ⟨e2, f, hf⟩ := row_two hrow (x := 2) (y := 2) (by omega) (by omega) (by omega)
  obtain ⟨e0, l, hl⟩ := row_two hrow (x := 0) (y := 2) (by omega) (by omega) (by omega)
  obtain ⟨e4, a, ha⟩ := row_two hrow (x := 4) (y := 2) (by omega) (by omega) (by omega)
  rw [Int.add_zero] at e0 hl
  unfold segP segR
  rw [e2, e0, hf, hl, gU_some hf, gU_some hl]
  simp only [Option.bind_some]
  cases each with
  | false =>
    simp at hs
    obtain ⟨ez, x, hx⟩ := row_two hrow (x := 4) (y := z) (by omega) (by omega) (by omega)
    simp only [Bool.false_eq_true, if_false]
    by_cases h : f ≤ l
    · rw [if_pos h, ez, hx]
      refine ⟨fun y hy => ?_, fun hn => by cases hn⟩
      injection hy with hy
      subst hy
      refine ⟨_, rfl, rfl, rfl, fun id h1 h2 => ?_⟩
      dsimp only at h1 h2 ⊢
      rw [Int.mul_zero, Int.add_zero, hx]
      unfold Pt.num
      simp
      rw [show (min (id - f) 0).toNat = 0 by omega]
      rfl
    · rw [if_neg h]
      exact ⟨fun y hy => (by cases hy), fun _ => .inr ⟨_, rfl, by dsimp only; omega⟩⟩
  | true =>
    simp only [if_true]
    rw [e4, ha, gU_some ha]
    simp only [Option.bind_some]
    have hbl := listS_isSome (b := b) (i := a) (n := l - f + 1) (z := z) (by omega)
    by_cases h : f ≤ l
    · rw [if_pos h]
      cases hv : listS b a (l - f + 1) z with
      | none =>
        rw [hv] at hbl
        rw [if_neg (by rw [← hbl]; simp)]
        exact ⟨fun y hy => (by cases hy), fun _ => .inl rfl⟩
      | some vs =>
        rw [hv] at hbl
        rw [if_pos (by rw [← hbl]; rfl)]
        refine ⟨fun y hy => ?_, fun hn => by cases hn⟩
        injection hy with hy
        subst hy
        exact ⟨_, rfl, list_num (by omega) hv (listS_spec hb (by omega) hv).2.1⟩
    · rw [if_neg h]
      refine ⟨fun y hy => (by cases hy), fun _ => ?_⟩
      split
      · exact .inr ⟨_, rfl, by dsimp only; omega⟩
      · exact .inl rfl
def Alike (b : List Int) (o : Option (List Pt)) (q : Option (List RP)) : Prop := (∀ xs, o = some xs → ∃ rs, q = some rs ∧ Rel b xs rs) ∧ (o = none → ∀ rs, q = some rs → Bad rs)
theorem Alike.none {b : List Int} : Alike b none none := ⟨fun xs h => (by cases h), fun _ rs h => by cases h⟩
theorem Alike.one {b : List Int} {p : Pt} {r : RP} (h : PR b p r) : Alike b (some [p]) (some [r]) := ⟨fun xs h' => ⟨_, rfl, by injection h' with h'; subst h'; exact ⟨h, trivial⟩⟩, fun h => by cases h⟩
theorem segs_rel {b : List Int} (hb : Byt b) {z : Int} (hz : z = 2 ∨ z = 4) (each : Bool) : Alike b (segS b z each) (refSegS b z each) := by
  unfold segS refSegS
  cases h : takeS b 2 (if each then 6 else 4 + z) 2 with
  | none => exact .none
  | some rows =>
    obtain ⟨s, n, h1, h2, h3, h4, h5, h6⟩ := takeS_get h
    simp only [Option.bind_some]
    rw [gU_some h1]
    refine mapO_rel rows _ (by simp) fun j row p hr hp => ?_
    have hlt := (List.getElem?_eq_some_iff.1 hr).1
    rw [posS_get _ _ _ _ hlt] at hp
    injection hp with hp
    subst hp
    exact seg_rel hb hz (h6 j row hr) h3
theorem ones_rel {b : List Int} {z : Int} (hz : z = 2 ∨ z = 4) : Alike b (oneS b z) (refOneS b z) := by
  unfold oneS refOneS
  cases h : takeS b 2 (2 + z) 1 with
  | none => exact .none
  | some rows =>
    obtain ⟨s, n, h1, h2, h3, h4, h5, h6⟩ := takeS_get h
    simp only [Option.bind_some, Option.map_some]
    rw [gU_some h1, ← mapO_pure]
    refine mapO_rel rows _ (by simp) fun j row p hr hp => ?_
    have hlt := (List.getElem?_eq_some_iff.1 hr).1
    rw [posS_get _ _ _ _ hlt] at hp
    injection hp with hp
    subst hp
    have hp := h6 j row hr
    obtain ⟨e0, f, hf⟩ := row_two hp (x := 0) (y := 2) (by omega) (by omega) (by omega)
    obtain ⟨e2, x, hx⟩ := row_two hp (x := 2) (y := z) (by omega) (by omega) (by omega)
    rw [Int.add_zero] at e0 hf
    unfold oneP oneR
    rw [e0, e2, hf, hx, gU_some hf]
    refine ⟨fun y hy => ?_, fun hn => by cases hn⟩
    simp at hy
    subst hy
    refine ⟨_, rfl, rfl, rfl, fun id h1 h2 => ?_⟩
    dsimp only at h1 h2 ⊢
    rw [Int.mul_zero, Int.add_zero, hx]
    unfold Pt.num
    simp
    rw [show (min (id - f) 0).toNat = 0 by omega]
    rfl
theorem trims_rel {b : List Int} (hb : Byt b) {i z : Int} (hz : z = 1 ∨ z = 2 ∨ z = 4) : Alike b (trimS b i z) (refTrimS b i z) := by
  unfold trimS refTrimS
  cases h1 : uS b i 2 with
  | none => exact .none
  | some f =>
    cases h2 : uS b (i + 2) 2 with
    | none => exact .none
    | some n =>
      simp only [Option.bind_some]
      have hbl := listS_isSome (b := b) (i := i + 4) (n := n) (z := z) (by omega)
      by_cases h : f + n ≤ 65536
      · rw [if_pos h]
        cases hv : listS b (i + 4) n z with
        | none =>
          rw [hv] at hbl
          rw [if_neg (by rw [← hbl]; simp)]
          exact .none
        | some vs =>
          rw [hv] at hbl
          rw [if_pos ⟨h, by rw [← hbl]; rfl⟩]
          simp only [Option.map_some]
          by_cases h0 : n = 0
          · rw [if_pos h0, if_pos h0]
            exact ⟨fun xs hx => ⟨[], rfl, by injection hx with hx; subst hx; trivial⟩, fun h => by cases h⟩
          · rw [if_neg h0, if_neg h0]
            have hlen := (listS_spec hb (by omega) hv).2.1
            exact .one (list_num (by omega) (by rw [show f + n - 1 - f + 1 = n by omega]; exact hv) (by omega))
      · rw [if_neg h, if_neg (fun hc => h hc.1)]
        exact .none
theorem parts_rel {b : List Int} (hb : Byt b) {g z : Int} (fmt : Int) (hz : z = 2 ∨ z = 4) : Alike b (partsS b g z fmt) (refPartsS b g z fmt) := by
  unfold partsS refPartsS
  split
  · have hbl := listS_isSome (b := b) (i := 2) (n := g) (z := z) (by omega)
    cases hv : listS b 2 g z with
    | none =>
      rw [hv] at hbl
      rw [if_neg (by rw [← hbl]; simp)]
      exact .none
    | some vs =>
      rw [hv] at hbl
      rw [if_pos (by rw [← hbl]; rfl)]
      have hlen := (listS_spec hb (by omega) hv).2.1
      exact .one (list_num (by omega) (by rw [show g - 1 - 0 + 1 = g by omega]; exact hv) (by omega))
  split
  · exact segs_rel hb hz false
  split
  · exact segs_rel hb hz true
  split
  · exact ones_rel hz
  split
  · exact trims_rel hb (by omega)
  split
  · cases h : uS b 2 2 with
    | none => exact .none
    | some u =>
      simp only [Option.bind_some]
      by_cases hu : u = 1 ∨ u = 2 ∨ u = 4
      · rw [if_pos hu, if_pos hu]; exact trims_rel hb hu
      · rw [if_neg hu, if_neg hu]; exact .none
  · exact .none
theorem Rel.good {b : List Int} : ∀ {ps : List Pt} {rs : List RP}, Rel b ps rs → (∀ p, p ∈ ps → p.ok) → goodR rs = risesS ps
  | [], [], _, _ => rfl
  | [], _ :: _, h, _ => by cases h
  | _ :: _, [], h, _ => by cases h
  | [p], [r], h, hok => by
    have h1 := (hok p (by simp)).2.1
    have h2 := h.1
    rw [h2.1, h2.2.1] at h1
    simp [goodR, risesS, h1]
  | [p], _ :: _ :: _, h, _ => by cases h.2
  | _ :: _ :: _, [_], h, _ => by cases h.2
  | p :: p' :: ps, r :: r' :: rs, h, hok => by
    have ih := Rel.good (ps := p' :: ps) (rs := r' :: rs) h.2 fun q hq => hok q (by simp at hq ⊢; exact .inr hq)
    have h1 := (hok p (by simp)).2.1
    have h2 := h.1
    have h3 := h.2.1
    rw [h2.1, h2.2.1] at h1
    rw [← h2.2.1] at h1
    simp only [goodR, risesS, ih, ← h2.2.1, ← h3.1, decide_eq_true h1, Bool.true_and]
theorem look_ref {b : List Int} (hb : Byt b) {g z : Int} (h1 : 1 ≤ g) (h2 : g ≤ 65535) (hz : z = 2 ∨ z = 4) :
    (∀ x, lookS b g z = some x → ∃ rs, refReadS b g z = some rs ∧ Rel b x.2 rs) ∧ (lookS b g z = none → refReadS b g z = none) := by
  unfold lookS refReadS
  cases h : uS b 0 2 with
  | none =>
    have : gU b 0 2 = -1 := by unfold gU; rw [h]; rfl
    rw [this]
    exact ⟨fun x hx => (by cases hx), fun _ => rfl⟩
  | some fmt =>
    rw [gU_some h]
    have hr := parts_rel hb (g := g) fmt hz
    simp only [Option.bind_some]
    cases hp : partsS b g z fmt with
    | none =>
      refine ⟨fun x hx => by simp at hx, fun _ => ?_⟩
      cases hq : refPartsS b g z fmt with
      | none => rfl
      | some rs =>
        have := (hr.2 hp rs hq).good
        simp [this]
    | some ps =>
      obtain ⟨rs, hq, hrel⟩ := hr.1 ps hp
      have hg := hrel.good (partsS_ok hb h1 h2 hz hp)
      rw [hq]
      simp only [Option.bind_some, hg]
      cases risesS ps with
      | true => exact ⟨fun x hx => by simp at hx; subst hx; exact ⟨rs, rfl, hrel⟩, fun hn => by simp at hn⟩
      | false => exact ⟨fun x hx => by simp at hx, fun _ => rfl⟩
theorem get_ref {b : List Int} {id : Int} : ∀ {ps : List Pt} {rs : List RP}, Rel b ps rs → (∀ p, p ∈ ps → p.ok) → risesS ps = true → getS ps id = refGetS b rs id
  | [], [], _, _, _ => rfl
  | [], _ :: _, h, _, _ => by cases h
  | _ :: _, [], h, _, _ => by cases h
  | p :: ps, r :: rs, h, hok, hr => by
    have hp := hok p (by simp)
    have hrs : risesS ps = true := by
      cases ps with
      | nil => rfl
      | cons q l => simp only [risesS, Bool.and_eq_true] at hr; exact hr.2
    have ih := get_ref (id := id) h.2 (fun q hq => hok q (by simp [hq])) hrs
    obtain ⟨e1, e2, e3⟩ := h.1
    unfold getS refGetS at ih ⊢
    rw [List.find?_cons, List.find?_cons]
    by_cases hl : id ≤ p.last
    · rw [decide_eq_true hl]
      dsimp only
      rw [Option.bind_some]
      by_cases hf : p.first ≤ id
      · rw [if_pos hf, decide_eq_true (by rw [← e1, ← e2]; exact ⟨hf, hl⟩)]
        dsimp only
        rw [Option.map_some]
        obtain ⟨x, hx, _⟩ := Pt.num_some hp hf
        have := e3 id (by rw [← e1]; exact hf) (by rw [← e2]; exact hl)
        rw [hx] at this ⊢
        rw [gU_some this.symm]
      · rw [if_neg hf, decide_eq_false (by rw [← e1]; exact fun hc => hf hc.1)]
        dsimp only
        rw [← ih]
        cases hfd : ps.find? (fun p => decide (id ≤ p.last)) with
        | none => rfl
        | some q =>
          have hq := List.mem_of_find?_eq_some hfd
          obtain ⟨j, hj⟩ := List.getElem?_of_mem hq
          have := risesS_get hr hok 0 (j + 1) p q (by omega) (by simp) (by simpa using hj)
          rw [Option.bind_some, if_neg (by have := hp.2.1; omega)]
    · rw [decide_eq_false hl, decide_eq_false (by rw [← e2]; exact fun hc => hl hc.2)]
      exact ih
end Go.Sw
end
section
namespace Go.Sw
open Go.RowKit
def bytesOf (n : Int) : Nat → List Int
  | 0 => []
  | k + 1 => (n / 256 ^ k) % 256 :: bytesOf n k
@[simp] theorem bytesOf_len (n : Int) : ∀ k, (bytesOf n k).length = k
  | 0 => rfl
  | k + 1 => by simp [bytesOf, bytesOf_len n k]
def headS (fmt z n : Int) : List Int := bytesOf fmt 2 ++ (bytesOf z 2 ++ (bytesOf n 2 ++ [0, 0, 0, 0, 0, 0]))
@[simp] theorem headS_len (fmt z n : Int) : (headS fmt z n).length = 12 := by simp [headS]
theorem Byt.nil : Byt [] := fun x hx => by cases hx
structure Pr where
  id : Int
  x : Int
def Pr.ok (p : Pr) : Prop := 0 ≤ p.id ∧ p.id < 65536 ∧ 0 ≤ p.x ∧ p.x < 65536
end Go.Sw
end
section
namespace Go.Sw
open Go.RowKit
structure En where
  next : Int
  flags : Int
  a : Int
  b : Int
theorem mapO_append {α β : Type} (f : α → Option β) : ∀ (l m : List α), mapO f (l ++ m) = (mapO f l).bind fun x => (mapO f m).map fun y => x ++ y
  | [], m => by
    simp only [List.nil_append, mapO, Option.bind_some]
    cases mapO f m <;> rfl
  | x :: l, m => by
    simp only [List.cons_append, mapO, mapO_append f l m]
    cases f x with
    | none => rfl
    | some y =>
      simp only [Option.bind_some]
      cases mapO f l with
      | none => rfl
      | some r =>
        simp only [Option.bind_some, Option.map_some]
        cases mapO f m <;> rfl
theorem mapO_range {β : Type} (f : Nat → Option β) (n : Nat) : mapO f (List.range (n + 1)) = (mapO f (List.range n)).bind fun r => (f n).map fun y => r ++ [y] := by
  rw [List.range_succ, mapO_append]
  congr 1
  funext r
  simp only [mapO]
  cases f n <;> rfl
theorem mapO_prefix {β : Type} {f : Nat → Option β} {n m : Nat} (h : n ≤ m) {r : List β} (hr : mapO f (List.range m) = some r) : mapO f (List.range n) = some (r.take n) := by
  obtain ⟨d, rfl⟩ := Nat.exists_eq_add_of_le h
  rw [List.range_add, mapO_append] at hr
  obtain ⟨x, hx, hr⟩ := Option.bind_eq_some_iff.1 hr
  obtain ⟨y, hy, rfl⟩ := Option.map_eq_some_iff.1 hr
  have := mapO_len hx
  rw [hx, List.take_left' (by simpa using this)]
theorem mapO_at {β : Type} {f : Nat → Option β} {n : Nat} {r : List β} (hr : mapO f (List.range n) = some r) {i : Nat} (hi : i < n) : ∃ y, f i = some y ∧ r[i]? = some y := by
  have hl := mapO_len hr
  have hlt : i < r.length := by rw [hl, List.length_range]; exact hi
  obtain ⟨x, hx, hf⟩ := mapO_get hr (List.getElem?_eq_getElem hlt)
  rw [List.getElem?_range hi] at hx
  injection hx with hx
  subst hx
  exact ⟨_, hf, List.getElem?_eq_getElem hlt⟩
theorem mapO_all_some {β : Type} {f : Nat → Option β} : ∀ {n : Nat}, (∀ i, i < n → (f i).isSome = true) → ∃ r, mapO f (List.range n) = some r
  | 0, _ => ⟨[], rfl⟩
  | n + 1, h => by
    obtain ⟨r, hr⟩ := mapO_all_some (n := n) fun i hi => h i (by omega)
    obtain ⟨y, hy⟩ := Option.isSome_iff_exists.1 (h n (by omega))
    exact ⟨r ++ [y], by rw [mapO_range, hr, Option.bind_some, hy, Option.map_some]⟩
def needL (l : List Int) : Int := l.foldl (fun m x => max m (x + 1)) 0
theorem foldl_max1 (l : List Int) : ∀ m : Int, l.foldl (fun m x => max m (x + 1)) m = max m (l.foldl (fun m x => max m (x + 1)) (0 : Int)) ∨ m < 0 := by
  induction l with
  | nil => intro m; simp; omega
  | cons x l ih =>
    intro m
    rcases Int.lt_or_le m 0 with h | h
    · exact .inr h
    · left
      simp only [List.foldl_cons]
      rcases ih (max m (x + 1)) with h1 | h1
      · rcases ih (max 0 (x + 1)) with h2 | h2
        · rw [h1, h2]; omega
        · omega
      · omega
theorem needL_snoc (l : List Int) (x : Int) : needL (l ++ [x]) = max (needL l) (x + 1) := by simp [needL]
theorem needL_nonneg : ∀ l : List Int, 0 ≤ needL l := fun l => by
  have : ∀ (l : List Int) (m : Int), m ≤ l.foldl (fun m x => max m (x + 1)) m := by
    intro l
    induction l with
    | nil => intro m; exact Int.le_refl _
    | cons x l ih => intro m; exact Int.le_trans (by omega) (ih (max m (x + 1)))
  exact this l 0
theorem needL_append (l m : List Int) : needL (l ++ m) = max (needL l) (needL m) := by
  unfold needL
  rw [List.foldl_append]
  have h0 := needL_nonneg l
  unfold needL at h0
  rcases foldl_max1 m (l.foldl (fun m x => max m (x + 1)) 0) with h | h
  · exact h
  · omega
theorem needL_le {l : List Int} {x : Int} (h : x ∈ l) : x < needL l := by
  obtain ⟨a, b, rfl⟩ := List.append_of_mem h
  rw [needL_append, needL_append' (x := x) (b := b)]
  omega
where needL_append' {x : Int} {b : List Int} : needL (x :: b) = max (x + 1) (needL b) := by
        have := needL_append [x] b
        rw [List.singleton_append] at this
        rw [this]
        have : needL [x] = max 0 (x + 1) := rfl
        have := needL_nonneg b
        omega
theorem needL_lt {l : List Int} {n : Int} (hn : 0 ≤ n) (h : ∀ x, x ∈ l → x < n) : needL l ≤ n := by
  induction l with
  | nil => exact hn
  | cons x l ih =>
    have h1 := h x (by simp)
    have h2 := ih fun y hy => h y (by simp [hy])
    have := needL_append [x] l
    rw [List.singleton_append] at this
    rw [this]
    have : needL [x] = max 0 (x + 1) := rfl
    omega
def rowK (rv : List Int) (n : Int) (k : Nat) : Option (List Int) := listS rv (2 * n * k) n 2
def entOf (w : Int) (r : List Int) : En := ⟨gU r 0 2, gU r 2 2, if 0 < w then gU r 4 2 else 0, if 1 < w then gU r 6 2 else 0⟩
def entK (ev : List Int) (w : Int) (k : Nat) : Option En := (pieceS ev ((4 + 2 * w) * k) (4 + 2 * w)).map (entOf w)
def rowsTo (rv : List Int) (n : Int) (m : Nat) : Option (List (List Int)) := mapO (rowK rv n) (List.range m)
def entsTo (ev : List Int) (w : Int) (m : Nat) : Option (List En) := mapO (entK ev w) (List.range m)
def needR (rs : List (List Int)) : Int := needL rs.flatten
def needE (es : List En) : Int := max 2 (needL (es.map En.next))
def closeS (rv ev : List Int) (n w : Int) : Nat → Nat → Option (List (List Int) × List En)
  | 0, _ => none
  | f + 1, s => (rowsTo rv n s).bind fun rs => (entsTo ev w (needR rs).toNat).bind fun es => if (needE es).toNat ≤ s then some (rs, es) else closeS rv ev n w f (needE es).toNat
def closeA (rv ev : List Int) (n w : Int) (s : Nat) : Option (List (List Int) × List En) := closeS rv ev n w (65538 - s) s
theorem entK_next {ev : List Int} (hb : Byt ev) {w : Int} {k : Nat} {e : En} (h : entK ev w k = some e) : -1 ≤ e.next ∧ e.next < 65536 := by
  unfold entK at h
  obtain ⟨r, hr, rfl⟩ := Option.map_eq_some_iff.1 h
  exact gU_two (hb.piece hr).1 0
theorem needE_le {ev : List Int} (hb : Byt ev) {w : Int} {m : Nat} {es : List En} (h : entsTo ev w m = some es) : 2 ≤ needE es ∧ needE es ≤ 65536 := by
  refine ⟨by unfold needE; omega, ?_⟩
  have : needL (es.map En.next) ≤ 65536 := needL_lt (by omega) fun x hx => by
    obtain ⟨e, he, rfl⟩ := List.mem_map.1 hx
    obtain ⟨i, hi⟩ := List.getElem?_of_mem he
    obtain ⟨k, _, hk⟩ := mapO_get h hi
    exact (entK_next hb hk).2
  unfold needE
  omega
theorem closeS_fuel {rv ev : List Int} (hb : Byt ev) {n w : Int} : ∀ (f g s : Nat), 65537 - s ≤ f → 65537 - s ≤ g → s ≤ 65536 → closeS rv ev n w f s = closeS rv ev n w g s
  | 0, _, s, h1, _, h3 => by omega
  | _ + 1, 0, s, _, h2, h3 => by omega
  | f + 1, g + 1, s, h1, h2, h3 => by
    simp only [closeS]
    cases rowsTo rv n s with
    | none => rfl
    | some rs =>
      simp only [Option.bind_some]
      cases he : entsTo ev w (needR rs).toNat with
      | none => rfl
      | some es =>
        simp only [Option.bind_some]
        have := needE_le hb he
        split
        · rfl
        · exact closeS_fuel hb f g _ (by omega) (by omega) (by omega)
theorem closeA_eq {rv ev : List Int} (hb : Byt ev) {n w : Int} {s : Nat} (hs : s ≤ 65536) : closeA rv ev n w s =
    (rowsTo rv n s).bind fun rs => (entsTo ev w (needR rs).toNat).bind fun es => if (needE es).toNat ≤ s then some (rs, es) else closeA rv ev n w (needE es).toNat := by
  unfold closeA
  rw [show 65538 - s = (65537 - s) + 1 by omega]
  simp only [closeS]
  cases rowsTo rv n s with
  | none => rfl
  | some rs =>
    simp only [Option.bind_some]
    cases he : entsTo ev w (needR rs).toNat with
    | none => rfl
    | some es =>
      simp only [Option.bind_some]
      have := needE_le hb he
      split
      · rfl
      · exact closeS_fuel hb _ _ _ (by omega) (by omega) (by omega)
structure Mach where
  classes : Int
  tab : Int × List Pt
  rows : List (List Int)
  ents : List En
def machS (b : List Int) (g w : Int) : Option Mach :=
  (uS b 0 4).bind fun n => if 4 ≤ n ∧ n ≤ 65535 then
    (uS b 4 4).bind fun i => (restS b i).bind fun tb => (lookS tb g 2).bind fun tab =>
    (uS b 8 4).bind fun j => (restS b j).bind fun rv => (uS b 12 4).bind fun k => (restS b k).bind fun ev =>
    (closeA rv ev n w 2).map fun x => ⟨n, tab, x.1, x.2⟩
  else none
def classS (m : Mach) (id : Int) : Int := if id = 65535 then 2 else match getS m.tab.2 id with | some c => if c < m.classes then c else 1 | none => 1
def stepS (m : Mach) (s c : Int) : Option En := if 0 ≤ s ∧ s < m.rows.length ∧ 0 ≤ c ∧ c < m.classes then (m.rows[s.toNat]?).bind fun r => (r[c.toNat]?).bind fun x => m.ents[x.toNat]? else none
structure Mach.ok (m : Mach) : Prop where
  cl : 4 ≤ m.classes ∧ m.classes ≤ 65535
  pts : ∀ p, p ∈ m.tab.2 → p.ok
  rise : risesS m.tab.2 = true
  plen : m.tab.2.length < 2 ^ 31
  two : 2 ≤ m.rows.length ∧ m.rows.length ≤ 65536
  row : ∀ r, r ∈ m.rows → (r.length : Int) = m.classes ∧ ∀ x, x ∈ r → 0 ≤ x ∧ x < m.ents.length
  ent : ∀ e, e ∈ m.ents → 0 ≤ e.next ∧ e.next < m.rows.length ∧ 0 ≤ e.flags ∧ e.flags < 65536 ∧ 0 ≤ e.a ∧ e.a < 65536 ∧ 0 ≤ e.b ∧ e.b < 65536
  elen : m.ents.length ≤ 65536
theorem piece_gU {b r : List Int} (hb : Byt b) {p z : Int} (h : pieceS b p z = some r) {i : Int} (h0 : 0 ≤ i) (hi : i + 2 ≤ z) : uS r i 2 = some (gU r i 2) ∧ 0 ≤ gU r i 2 ∧ gU r i 2 < 65536 := by
  obtain ⟨e, x, hx⟩ := row_two h h0 (y := 2) (by omega) hi
  rw [hx] at e
  rw [gU_some e]
  have := uS_two (hb.piece h).1 e
  exact ⟨e, this⟩
theorem entK_ok {ev : List Int} (hb : Byt ev) {w : Int} (hw : 0 ≤ w ∧ w ≤ 2) {k : Nat} {e : En} (h : entK ev w k = some e) : 0 ≤ e.next ∧ 0 ≤ e.flags ∧ e.flags < 65536 ∧ 0 ≤ e.a ∧ e.a < 65536 ∧ 0 ≤ e.b ∧ e.b < 65536 := by
  unfold entK at h
  obtain ⟨r, hr, rfl⟩ := Option.map_eq_some_iff.1 h
  have g := fun i h0 h1 => (piece_gU hb hr (i := i) h0 h1).2
  unfold entOf
  dsimp only
  have g0 := g 0 (by omega) (by omega)
  have g2 := g 2 (by omega) (by omega)
  refine ⟨g0.1, g2.1, g2.2, ?_⟩
  by_cases h1 : 0 < w
  · have g4 := g 4 (by omega) (by omega)
    rw [if_pos h1]
    by_cases h2 : 1 < w
    · have g6 := g 6 (by omega) (by omega)
      rw [if_pos h2]
      omega
    · rw [if_neg h2]; omega
  · rw [if_neg h1, if_neg (by omega)]; omega
theorem closeS_ok {rv ev : List Int} (hr : Byt rv) (hb : Byt ev) {n w : Int} (hn : 0 ≤ n) (hw : 0 ≤ w ∧ w ≤ 2) : ∀ (f s : Nat) x, 2 ≤ s → s ≤ 65536 → closeS rv ev n w f s = some x →
    (2 ≤ x.1.length ∧ x.1.length ≤ 65536) ∧ (∀ r, r ∈ x.1 → (r.length : Int) = n ∧ ∀ y, y ∈ r → 0 ≤ y ∧ y < x.2.length) ∧ (∀ e, e ∈ x.2 → e.next < x.1.length) ∧ (∀ e, e ∈ x.2 → ∃ k, entK ev w k = some e) ∧ x.2.length ≤ 65536 ∧
    rowsTo rv n x.1.length = some x.1 ∧ entsTo ev w x.2.length = some x.2 ∧ (x.2.length : Int) = needR x.1 ∧ needE x.2 ≤ x.1.length
  | 0, _, _, _, _, h => by cases h
  | f + 1, s, x, h2, h3, h => by
    simp only [closeS] at h
    obtain ⟨rs, e1, h⟩ := Option.bind_eq_some_iff.1 h
    obtain ⟨es, e2, h⟩ := Option.bind_eq_some_iff.1 h
    have hE := needE_le hb e2
    split at h
    · rename_i hs
      injection h with h
      subst h
      dsimp only
      have l1 : rs.length = s := by rw [mapO_len e1, List.length_range]
      have l2 : es.length = (needR rs).toNat := by rw [mapO_len e2, List.length_range]
      have hnn := needL_nonneg rs.flatten
      have hrow : ∀ r, r ∈ rs → (r.length : Int) = n ∧ ∀ y, y ∈ r → 0 ≤ y ∧ y < 65536 := fun r hrm => by
        obtain ⟨i, hi⟩ := List.getElem?_of_mem hrm
        obtain ⟨k, _, hk⟩ := mapO_get e1 hi
        unfold rowK listS at hk
        obtain ⟨q, hq, rfl⟩ := Option.map_eq_some_iff.1 hk
        have hqb := (hr.piece (rowsS_piece hq)).1
        refine ⟨by simp; omega, fun y hy => ?_⟩
        obtain ⟨c, hc, rfl⟩ := List.mem_map.1 hy
        obtain ⟨h5, h6⟩ := cutRows_byt hqb _ _ hc
        have := num_bound c h5
        have hp : (256 : Int) ^ c.length ≤ 256 ^ 2 := by
          have : c.length ≤ 2 := h6
          match hcl : c.length, this with
          | 0, _ => decide
          | 1, _ => decide
          | 2, _ => decide
        omega
      refine ⟨⟨by omega, by omega⟩, fun r hrm => ⟨(hrow r hrm).1, fun y hy => ⟨((hrow r hrm).2 y hy).1, ?_⟩⟩, fun e he => ?_, fun e he => ?_, ?_, by rw [l1]; exact e1, by rw [l2]; exact e2, by unfold needR at l2 ⊢; omega, by omega⟩
      · have : y < needL rs.flatten := needL_le (List.mem_flatten.2 ⟨r, hrm, hy⟩)
        rw [l2]; unfold needR; omega
      · have : e.next < needL (es.map En.next) := needL_le (List.mem_map.2 ⟨e, he, rfl⟩)
        unfold needE at hs
        omega
      · obtain ⟨i, hi⟩ := List.getElem?_of_mem he
        obtain ⟨k, _, hk⟩ := mapO_get e2 hi
        exact ⟨_, hk⟩
      · rw [l2]
        have : needL rs.flatten ≤ 65536 := needL_lt (by omega) fun y hy => by
          obtain ⟨r, hrm, hy⟩ := List.mem_flatten.1 hy
          exact ((hrow r hrm).2 y hy).2
        unfold needR
        omega
    · exact closeS_ok hr hb hn hw f _ x (by omega) (by omega) h
theorem Byt.rest {b r : List Int} (hb : Byt b) {i : Int} (h : restS b i = some r) : Byt r := by
  unfold restS at h
  split at h
  · injection h with h
    subst h
    exact fun x hx => hb x (List.mem_of_mem_drop hx)
  · cases h
theorem machS_ok {b : List Int} (hb : Byt b) {g w : Int} (h1 : 1 ≤ g) (h2 : g ≤ 65535) (hw : 0 ≤ w ∧ w ≤ 2) {m : Mach} (h : machS b g w = some m) : m.ok := by
  unfold machS at h
  obtain ⟨n, _, h⟩ := Option.bind_eq_some_iff.1 h
  split at h
  rotate_left
  · cases h
  rename_i hn
  obtain ⟨i, _, h⟩ := Option.bind_eq_some_iff.1 h
  obtain ⟨tb, htb, h⟩ := Option.bind_eq_some_iff.1 h
  obtain ⟨tab, htab, h⟩ := Option.bind_eq_some_iff.1 h
  obtain ⟨j, _, h⟩ := Option.bind_eq_some_iff.1 h
  obtain ⟨rv, hrv, h⟩ := Option.bind_eq_some_iff.1 h
  obtain ⟨k, _, h⟩ := Option.bind_eq_some_iff.1 h
  obtain ⟨ev, hev, h⟩ := Option.bind_eq_some_iff.1 h
  obtain ⟨x, hx, rfl⟩ := Option.map_eq_some_iff.1 h
  have hl := lookS_ok (hb.rest htb) h1 h2 (.inl rfl) htab
  have hpl := lookS_len (hb.rest htb) htab
  obtain ⟨c1, c2, c3, c4, c5, _⟩ := closeS_ok (hb.rest hrv) (hb.rest hev) (by omega) hw _ _ x (by omega) (by omega) hx
  refine ⟨hn, hl.2.1, hl.2.2, hpl, c1, c2, fun e he => ?_, c5⟩
  obtain ⟨k, hk⟩ := c4 e he
  have := entK_ok (hb.rest hev) hw hk
  exact ⟨this.1, c3 e he, this.2⟩
end Go.Sw
end
section
namespace Go.Sw
open Go.RowKit
@[simp] theorem neb_4 (a b : Bool) (h : Heap) : binR Prog .neq 4 (.bool a) (.bool b) h = .ok (.bool (a != b)) h := by cases a <;> cases b <;> kernel_rfl
@[simp] theorem eqb_4 (a b : Bool) (h : Heap) : binR Prog .eql 4 (.bool a) (.bool b) h = .ok (.bool (a == b)) h := by cases a <;> cases b <;> kernel_rfl
section
variable {α β γ δ : Type} {E : Heap → Prop} {o : Option β} {f : β → Value} {r : Res Value} {H : Heap} {Q : δ → γ → Heap → Prop}
theorem Cp.call {K : Value → Heap → Res γ} {g : β → Option δ} (hr : r = orF o f H) (hE : E H) (hk : ∀ b, o = some b → Cp failV E (K (f b) H) (g b) Q) : Cp failV E (r.bind K) (o.bind g) Q := by
  subst hr
  cases o with
  | none => exact ⟨H, rfl, hE⟩
  | some b => exact hk b rfl
theorem Cp.callM {K : Value → Heap → Res γ} {g : β → δ} (hr : r = orF o f H) (hE : E H) (hk : ∀ b, o = some b → Cp failV E (K (f b) H) (some (g b)) Q) : Cp failV E (r.bind K) (o.map g) Q := by
  subst hr
  cases o with
  | none => exact ⟨H, rfl, hE⟩
  | some b => exact hk b rfl
theorem Cp.callL {Q : β → γ → Heap → Prop} {K : Value → Heap → Res γ} (hr : r = orF o f H) (hE : E H) (hk : ∀ b, o = some b → Cp failV E (K (f b) H) (some b) Q) : Cp failV E (r.bind K) o Q := by
  subst hr
  cases o with
  | none => exact ⟨H, rfl, hE⟩
  | some b => exact hk b rfl
theorem Cp.callT {G : Value → Heap → Res γ} {K : Value → Heap → Res γ} {g : β → Option δ} (hr : r = orF o f H) (hp : o = none → ∃ H', G failV H = .panic failV H' ∧ E H') (hk : ∀ b, o = some b → Cp failV E (K (f b) H) (g b) Q) : Cp failV E (r.bindT G K) (o.bind g) Q := by
  subst hr
  cases o with
  | none => exact hp rfl
  | some b => exact hk b rfl
theorem Cp.callTM {G : Value → Heap → Res γ} {K : Value → Heap → Res γ} {g : β → δ} (hr : r = orF o f H) (hp : o = none → ∃ H', G failV H = .panic failV H' ∧ E H') (hk : ∀ b, o = some b → Cp failV E (K (f b) H) (some (g b)) Q) : Cp failV E (r.bindT G K) (o.map g) Q := by
  subst hr
  cases o with
  | none => exact hp rfl
  | some b => exact hk b rfl
theorem Cp.need {k : Nat} {p : Prop} [Decidable p] {K : Value → Heap → Res γ} {g : Option δ} (hE : E H) (hk : p → Cp failV E (K (.tuple #[]) H) g Q) : Cp failV E ((R (T k) F.view_Need [.bool (decide p)] H).bind K) (if p then g else none) Q := by
  by_cases h : p
  · rw [if_pos h, decide_eq_true h, Need_true]
    exact hk h
  · rw [if_neg h, decide_eq_false h, Need_false]
    exact ⟨H, rfl, hE⟩
end
section
variable {β : Type} {H : Heap} {r : Res Value} {o : Option β} {f : β → Value}
theorem gc_orF (h : Cp failV (Ext H) r o fun b v _ => v = f b) (ha : ∀ b, o = some b → Alive H (f b)) : nrm .gc H r = orF o f H := by
  rw [nrm_gc_cp h ha Flat.fail.alive]
  cases o <;> rfl
theorem fz_orF (h : Cp failV (Ext H) r o fun b v H' => ∃ L, fzV H.n H' fzDepth v = some (f b, L)) (ha : ∀ b, o = some b → Alive H (f b)) : nrm .fz H r = orF o f H := by
  rw [nrm_fz_cp h ha Flat.fail.alive]
  cases o <;> rfl
end
end Go.Sw
end
section
set_option maxRecDepth 100000
set_option linter.unusedVariables false
namespace Go.Sw
noncomputable section
def lookup_Table_Get (k : Nat) (call : Caller) (a0 a1 : Value) (h : Heap) : Res Value :=
  (boxR a0 h).bind fun v1 h2 =>
  (boxR a1 h2).bind fun v3 h4 =>
  (loadR Prog 68 v1 h4).bind fun v5 h6 =>
  (nilR v5 h6).bind fun v7 h8 =>
  (fieldAddrR Prog 228 v7 1 h8).bind fun v9 h10 =>
  (loadR Prog 226 v9 h10).bind fun v11 h12 =>
  (builtinV Prog .len [226] [v11] h12).bind fun v13 h14 =>
  (call F.seek_First [v13, (.func (.func F.lookup_Table_Get_in1) #[] #[v1, v3])] h14).bind fun v15 h16 =>
  (loadR Prog 68 v1 h16).bindN fun v17 h18 =>
  (nilR v17 h18).bindN fun v19 h20 =>
  (fieldAddrR Prog 228 v19 1 h20).bindN fun v21 h22 =>
  (loadR Prog 226 v21 h22).bindN fun v23 h24 =>
  (builtinV Prog .len [226] [v23] h24).bindN fun v25 h26 =>
  (binR Prog .eql 3 v15 v25 h26).bindN fun v27 h28 =>
  ((bif wantVal v27 false then loadR Prog 68 v1 h28 else Res.ok undef h28)).bindN fun v29 h30 =>
  ((bif wantVal v27 false then nilR v29 h30 else Res.ok undef h30)).bindN fun v31 h32 =>
  ((bif wantVal v27 false then fieldAddrR Prog 228 v31 1 h32 else Res.ok undef h32)).bindN fun v33 h34 =>
  ((bif wantVal v27 false then loadR Prog 226 v33 h34 else Res.ok undef h34)).bindN fun v35 h36 =>
  ((bif wantVal v27 false then Res.ok v15 h36 else Res.ok undef h36)).bindN fun v37 h38 =>
  ((bif wantVal v27 false then indexAddrR Prog 226 v35 v37 h38 else Res.ok undef h38)).bindN fun v39 h40 =>
  ((bif wantVal v27 false then fieldAddrR Prog 230 v39 0 h40 else Res.ok undef h40)).bindN fun v41 h42 =>
  ((bif wantVal v27 false then loadR Prog 3 v41 h42 else Res.ok undef h42)).bindN fun v43 h44 =>
  ((bif wantVal v27 false then loadR Prog 3 v3 h44 else Res.ok undef h44)).bindN fun v45 h46 =>
  ((bif wantVal v27 false then binR Prog .gtr 3 v43 v45 h46 else Res.ok undef h46)).bindN fun v47 h48 =>
  (condV (some v27) (Res.ok (.bool true) h48) (Res.ok v47 h48)).bindN fun v49 h50 =>
  condV (some v49) (
    .ok (.tuple #[(.int .i64 0), (.bool false)]) h50)
  (
    (loadR Prog 68 v1 h50).bindN fun v51 h52 =>
    (nilR v51 h52).bindN fun v53 h54 =>
    (fieldAddrR Prog 228 v53 1 h54).bindN fun v55 h56 =>
    (loadR Prog 226 v55 h56).bindN fun v57 h58 =>
    (indexAddrR Prog 226 v57 v15 h58).bindN fun v59 h60 =>
    (loadR Prog 230 v59 h60).bindN fun v61 h62 =>
    (loadR Prog 3 v3 h62).bindN fun v63 h64 =>
    (call F.lookup_part_at [v61, v63] h64).bindT (fun p67 h68 => .panic p67 h68) fun v65 h66 =>
    .ok (.tuple #[v65, (.bool true)]) h66)
theorem lookup_Table_Get_R (k : Nat) (a0 a1 : Value) (h : Heap) : R (T k) F.lookup_Table_Get [a0, a1] h = nrm .gc h (lookup_Table_Get k (R (T k)) a0 a1 h) :=
  (R_body (t := T k) (T_scott k) (by kernel_rfl) _ _).trans (by kernel_rfl)
def lookup_Take_j1 (k : Nat) (call : Caller) (a8 : Value) (h : Heap) : Res Value :=
  kSeq (pieceK (C k) call F.lookup_Take [1, 1, 1, 1]) (kDone Prog (resOf Prog F.lookup_Take)) .normal [(8, a8)] h
def lookup_Take_l1 (k : Nat) (call : Caller) : Env → Heap → Res (AExit × Env) := loopB (C k) call F.lookup_Take [1, 1, 1, 1, 0, 1, 0, 0]
def lookup_Take_l1k (k : Nat) (call : Caller) : Kont Value := kBlock 1 (kSeq (pieceK (C k) call F.lookup_Take [1, 1, 1, 1, 1]) (kDone Prog (resOf Prog F.lookup_Take)))
def lookup_Take (k : Nat) (call : Caller) (a0 a1 a2 : Value) (h : Heap) : Res Value :=
  (boxR a0 h).bind fun v1 h2 =>
  (loadR Prog 83 v1 h2).bind fun v3 h4 =>
  (buildR Prog 235 [(0, v3), (1, a1), (2, a2)] h4).bind fun v5 h6 =>
  (allocR Prog 235 h6).bind fun v7 h8 =>
  (storeR Prog 235 v7 v5 h8).bind fun _v9 h10 =>
  (loadR Prog 83 v1 h10).bind fun v11 h12 =>
  (call F.view_View_U16 [v11, (.int .i64 0)] h12).bind fun v13 h14 =>
  (buildR Prog 228 [(0, v13)] h14).bind fun v15 h16 =>
  (boxR v15 h16).bind fun v17 h18 =>
  (nilR v17 h18).bind fun v19 h20 =>
  (fieldAddrR Prog 228 v19 0 h20).bind fun v21 h22 =>
  (loadR Prog 3 v21 h22).bind fun v23 h24 =>
  (binR Prog .eql 3 v23 (.int .i64 0) h24).bind fun v25 h26 =>
  condV (some v25) (
    (binR Prog .sub 3 a1 (.int .i64 1) h26).bind fun v27 h28 =>
    (loadR Prog 83 v1 h28).bind fun v29 h30 =>
    (call F.lookup_list [v29, (.int .i64 2), a1, a2] h30).bind fun v31 h32 =>
    (buildR Prog 230 [(0, (.int .i64 0)), (1, v27), (2, v31)] h32).bind fun v33 h34 =>
    (buildSliceR Prog 226 1 [(0, v33)] h34).bind fun v35 h36 =>
    (nilR v17 h36).bind fun v37 h38 =>
    (fieldAddrR Prog 228 v37 1 h38).bind fun v39 h40 =>
    (storeR Prog 226 v39 v35 h40).bind fun _v41 h42 =>
    lookup_Take_j1 k call v17 h42)
  (
    (binR Prog .eql 3 v23 (.int .i64 2) h26).bind fun v43 h44 =>
    condV (some v43) (
      (loadR Prog 235 v7 h44).bind fun v45 h46 =>
      (call F.lookup_reader_segments [v45, (.bool false)] h46).bind fun v47 h48 =>
      (nilR v17 h48).bind fun v49 h50 =>
      (fieldAddrR Prog 228 v49 1 h50).bind fun v51 h52 =>
      (storeR Prog 226 v51 v47 h52).bind fun _v53 h54 =>
      lookup_Take_j1 k call v17 h54)
    (
      (binR Prog .eql 3 v23 (.int .i64 4) h44).bind fun v55 h56 =>
      condV (some v55) (
        (loadR Prog 235 v7 h56).bind fun v57 h58 =>
        (call F.lookup_reader_segments [v57, (.bool true)] h58).bind fun v59 h60 =>
        (nilR v17 h60).bind fun v61 h62 =>
        (fieldAddrR Prog 228 v61 1 h62).bind fun v63 h64 =>
        (storeR Prog 226 v63 v59 h64).bind fun _v65 h66 =>
        lookup_Take_j1 k call v17 h66)
      (
        (binR Prog .eql 3 v23 (.int .i64 6) h56).bind fun v67 h68 =>
        condV (some v67) (
          (loadR Prog 235 v7 h68).bind fun v69 h70 =>
          (call F.lookup_reader_single [v69] h70).bind fun v71 h72 =>
          (nilR v17 h72).bind fun v73 h74 =>
          (fieldAddrR Prog 228 v73 1 h74).bind fun v75 h76 =>
          (storeR Prog 226 v75 v71 h76).bind fun _v77 h78 =>
          lookup_Take_j1 k call v17 h78)
        (
          (binR Prog .eql 3 v23 (.int .i64 8) h68).bind fun v79 h80 =>
          condV (some v79) (
            (loadR Prog 235 v7 h80).bind fun v81 h82 =>
            (call F.lookup_reader_trimmed [v81, (.int .i64 2), a2] h82).bind fun v83 h84 =>
            (nilR v17 h84).bind fun v85 h86 =>
            (fieldAddrR Prog 228 v85 1 h86).bind fun v87 h88 =>
            (storeR Prog 226 v87 v83 h88).bind fun _v89 h90 =>
            lookup_Take_j1 k call v17 h90)
          (
            (binR Prog .eql 3 v23 (.int .i64 10) h80).bind fun v91 h92 =>
            condV (some v91) (
              (loadR Prog 83 v1 h92).bind fun v93 h94 =>
              (call F.view_View_U16 [v93, (.int .i64 2)] h94).bind fun v95 h96 =>
              (binR Prog .eql 3 v95 (.int .i64 1) h96).bind fun v97 h98 =>
              ((bif wantVal v97 false then Res.ok v95 h98 else Res.ok undef h98)).bind fun v99 h100 =>
              ((bif wantVal v97 false then binR Prog .eql 3 v99 (.int .i64 2) h100 else Res.ok undef h100)).bind fun v101 h102 =>
              (condV (some v97) (Res.ok (.bool true) h102) (Res.ok v101 h102)).bind fun v103 h104 =>
              ((bif wantVal v103 false then Res.ok v95 h104 else Res.ok undef h104)).bind fun v105 h106 =>
              ((bif wantVal v103 false then binR Prog .eql 3 v105 (.int .i64 4) h106 else Res.ok undef h106)).bind fun v107 h108 =>
              (condV (some v103) (Res.ok (.bool true) h108) (Res.ok v107 h108)).bind fun v109 h110 =>
              (call F.view_Need [v109] h110).bind fun v111 h112 =>
              (loadR Prog 235 v7 h112).bind fun v113 h114 =>
              (call F.lookup_reader_trimmed [v113, (.int .i64 4), v95] h114).bind fun v115 h116 =>
              (nilR v17 h116).bind fun v117 h118 =>
              (fieldAddrR Prog 228 v117 1 h118).bind fun v119 h120 =>
              (storeR Prog 226 v119 v115 h120).bind fun _v121 h122 =>
              lookup_Take_j1 k call v17 h122)
            (
              (call F.view_Fail [] h92).bind fun v123 h124 =>
              lookup_Take_j1 k call v17 h124))))))
theorem lookup_Take_R (k : Nat) (a0 a1 a2 : Value) (h : Heap) : R (T k) F.lookup_Take [a0, a1, a2] h = nrm .fz h (lookup_Take k (R (T k)) a0 a1 a2 h) :=
  (R_body (t := T k) (T_scott k) (by kernel_rfl) _ _).trans (by kernel_rfl)
theorem lookup_Take_j1_eq (k : Nat) (call : Caller) (a8 : Value) (h : Heap) : lookup_Take_j1 k call a8 h =
  (loopN (lookup_Take_l1 k call) loopFuel [(8, a8), (10, (.int .i64 1))] h).bind fun r125 h126 =>
  lookup_Take_l1k k call r125.1 r125.2 h126 := by kernel_rfl
theorem lookup_Take_l1_eq (k : Nat) (call : Caller) (a8 a10 : Value) (h : Heap) : lookup_Take_l1 k call [(8, a8), (10, a10)] h =
  (nilR a8 h).bind fun v127 h128 =>
  (fieldAddrR Prog 228 v127 1 h128).bind fun v129 h130 =>
  (loadR Prog 226 v129 h130).bind fun v131 h132 =>
  (builtinV Prog .len [226] [v131] h132).bind fun v133 h134 =>
  (binR Prog .lss 3 a10 v133 h134).bind fun v135 h136 =>
  condV (some v135) (
    (nilR a8 h136).bindN fun v137 h138 =>
    (fieldAddrR Prog 228 v137 1 h138).bindN fun v139 h140 =>
    (loadR Prog 226 v139 h140).bindN fun v141 h142 =>
    (binR Prog .sub 3 a10 (.int .i64 1) h142).bindN fun v143 h144 =>
    (indexAddrR Prog 226 v141 v143 h144).bindN fun v145 h146 =>
    (fieldAddrR Prog 230 v145 1 h146).bindN fun v147 h148 =>
    (loadR Prog 3 v147 h148).bindN fun v149 h150 =>
    (nilR a8 h150).bindN fun v151 h152 =>
    (fieldAddrR Prog 228 v151 1 h152).bindN fun v153 h154 =>
    (loadR Prog 226 v153 h154).bindN fun v155 h156 =>
    (indexAddrR Prog 226 v155 a10 h156).bindN fun v157 h158 =>
    (fieldAddrR Prog 230 v157 0 h158).bindN fun v159 h160 =>
    (loadR Prog 3 v159 h160).bindN fun v161 h162 =>
    (binR Prog .lss 3 v149 v161 h162).bindN fun v163 h164 =>
    (call F.view_Need [v163] h164).bindT (fun p167 h168 => .panic p167 h168) fun v165 h166 =>
    (binR Prog .add 3 a10 (.int .i64 1) h166).bind fun v169 h170 =>
    .ok (.normal, [(8, a8), (10, v169)]) h170)
  (
    .ok ((.exit 1), [(8, a8), (10, a10), (93, v135)]) h136) :=
  (loopB_eq _ _).trans (by kernel_rfl)
theorem lookup_Take_l1k_x1 (k : Nat) (call : Caller) (a8 a10 a93 : Value) (h : Heap) : lookup_Take_l1k k call (.exit 1) [(8, a8), (10, a10), (93, a93)] h =
  .ok a8 h := by kernel_rfl
def lookup_Table_Get_in1 (k : Nat) (call : Caller) (a0 a1 a2 : Value) (h : Heap) : Res Value :=
  (loadR Prog 68 a1 h).bindN fun v1 h2 =>
  (nilR v1 h2).bindN fun v3 h4 =>
  (fieldAddrR Prog 228 v3 1 h4).bindN fun v5 h6 =>
  (loadR Prog 226 v5 h6).bindN fun v7 h8 =>
  (indexAddrR Prog 226 v7 a0 h8).bindN fun v9 h10 =>
  (fieldAddrR Prog 230 v9 1 h10).bindN fun v11 h12 =>
  (loadR Prog 3 v11 h12).bindN fun v13 h14 =>
  (loadR Prog 3 a2 h14).bindN fun v15 h16 =>
  (binR Prog .geq 3 v13 v15 h16).bindN fun v17 h18 =>
  .ok v17 h18
theorem lookup_Table_Get_in1_R (k : Nat) (a0 a1 a2 : Value) (h : Heap) : R (T k) F.lookup_Table_Get_in1 [a0, a1, a2] h = nrm .gc h (lookup_Table_Get_in1 k (R (T k)) a0 a1 a2 h) :=
  (R_body (t := T k) (T_scott k) (by kernel_rfl) _ _).trans (by kernel_rfl)
def lookup_part_at (k : Nat) (call : Caller) (a0 a1 : Value) (h : Heap) : Res Value :=
  (boxR a0 h).bind fun v1 h2 =>
  (fieldAddrR Prog 230 v1 2 h2).bind fun v3 h4 =>
  (loadR Prog 28 v3 h4).bind fun v5 h6 =>
  (fieldAddrR Prog 230 v1 0 h6).bind fun v7 h8 =>
  (loadR Prog 3 v7 h8).bind fun v9 h10 =>
  (binR Prog .sub 3 a1 v9 h10).bind fun v11 h12 =>
  (fieldAddrR Prog 230 v1 2 h12).bind fun v13 h14 =>
  (loadR Prog 28 v13 h14).bind fun v15 h16 =>
  (builtinV Prog .len [28] [v15] h16).bind fun v17 h18 =>
  (binR Prog .sub 3 v17 (.int .i64 1) h18).bind fun v19 h20 =>
  (builtinV Prog .min [3, 3] [v11, v19] h20).bind fun v21 h22 =>
  (indexAddrR Prog 28 v5 v21 h22).bind fun v23 h24 =>
  (loadR Prog 3 v23 h24).bind fun v25 h26 =>
  .ok v25 h26
theorem lookup_part_at_R (k : Nat) (a0 a1 : Value) (h : Heap) : R (T k) F.lookup_part_at [a0, a1] h = nrm .gc h (lookup_part_at k (R (T k)) a0 a1 h) :=
  (R_body (t := T k) (T_scott k) (by kernel_rfl) _ _).trans (by kernel_rfl)
def lookup_list_l1 (k : Nat) (call : Caller) : Env → Heap → Res (AExit × Env) := loopB (C k) call F.lookup_list [1, 1, 1, 0, 1, 0, 0]
def lookup_list_l1k (k : Nat) (call : Caller) : Kont Value := kBlock 0 (kSeq (pieceK (C k) call F.lookup_list [1, 1, 1, 1]) (kDone Prog (resOf Prog F.lookup_list)))
def lookup_list (k : Nat) (call : Caller) (a0 a1 a2 a3 : Value) (h : Heap) : Res Value :=
  (boxR a0 h).bind fun v1 h2 =>
  (loadR Prog 83 v1 h2).bind fun v3 h4 =>
  (call F.view_View_Rows [v3, a1, a2, a3] h4).bind fun v5 h6 =>
  (allocR Prog 83 h6).bind fun v7 h8 =>
  (storeR Prog 83 v7 v5 h8).bind fun _v9 h10 =>
  (makeSliceV Prog 28 a2 a2 h10).bind fun v11 h12 =>
  (builtinV Prog .len [28] [v11] h12).bind fun v13 h14 =>
  (loopN (lookup_list_l1 k call) loopFuel [(3, a3), (9, v7), (10, v11), (20, v13), (21, (.int .i64 0))] h14).bind fun r15 h16 =>
  lookup_list_l1k k call r15.1 r15.2 h16
theorem lookup_list_R (k : Nat) (a0 a1 a2 a3 : Value) (h : Heap) : R (T k) F.lookup_list [a0, a1, a2, a3] h = nrm .fz h (lookup_list k (R (T k)) a0 a1 a2 a3 h) :=
  (R_body (t := T k) (T_scott k) (by kernel_rfl) _ _).trans (by kernel_rfl)
theorem lookup_list_l1_eq (k : Nat) (call : Caller) (a3 a9 a10 a20 a21 : Value) (h : Heap) : lookup_list_l1 k call [(3, a3), (9, a9), (10, a10), (20, a20), (21, a21)] h =
  (binR Prog .lss 3 a21 a20 h).bind fun v17 h18 =>
  condV (some v17) (
    (loadR Prog 83 a9 h18).bind fun v19 h20 =>
    (binR Prog .mul 3 a3 a21 h20).bind fun v21 h22 =>
    (call F.lookup_number [v19, v21, a3] h22).bind fun v23 h24 =>
    (indexAddrR Prog 28 a10 a21 h24).bind fun v25 h26 =>
    (storeR Prog 3 v25 v23 h26).bind fun _v27 h28 =>
    (binR Prog .add 3 a21 (.int .i64 1) h28).bind fun v29 h30 =>
    .ok (.normal, [(3, a3), (9, a9), (10, a10), (20, a20), (21, v29)]) h30)
  (
    .ok ((.exit 0), [(3, a3), (9, a9), (10, a10), (20, a20), (21, a21), (22, v17)]) h18) :=
  (loopB_eq _ _).trans (by kernel_rfl)
theorem lookup_list_l1k_x0 (k : Nat) (call : Caller) (a3 a9 a10 a20 a21 a22 : Value) (h : Heap) : lookup_list_l1k k call (.exit 0) [(3, a3), (9, a9), (10, a10), (20, a20), (21, a21), (22, a22)] h =
  .ok a10 h := by kernel_rfl
def lookup_reader_segments_j1 (k : Nat) (call : Caller) (a1 a2 a5 : Value) (h : Heap) : Res Value :=
  kSeq (pieceK (C k) call F.lookup_reader_segments [1, 1, 1]) (kDone Prog (resOf Prog F.lookup_reader_segments)) .normal [(1, a1), (2, a2), (5, a5)] h
def lookup_reader_segments_j2 (k : Nat) (call : Caller) (a1 a2 a5 a13 : Value) (h : Heap) : Res Value :=
  kSeq (pieceK (C k) call F.lookup_reader_segments [1, 1, 1]) (kDone Prog (resOf Prog F.lookup_reader_segments)) .normal [(1, a1), (2, a2), (5, a5), (13, a13)] h
def lookup_reader_segments_l1 (k : Nat) (call : Caller) : Env → Heap → Res (AExit × Env) := loopB (C k) call F.lookup_reader_segments [1, 1, 1, 1, 0, 1, 0, 0]
def lookup_reader_segments_l1k (k : Nat) (call : Caller) : Kont Value := kBlock 0 (kSeq (pieceK (C k) call F.lookup_reader_segments [1, 1, 1, 1, 1]) (kDone Prog (resOf Prog F.lookup_reader_segments)))
def lookup_reader_segments_j3 (k : Nat) (call : Caller) (a1 a2 a6 a9 a17 a18 a19 : Value) (h : Heap) : Res (AExit × Env) :=
  kSeq (pieceK (C k) call F.lookup_reader_segments [1, 1, 1, 1, 0, 1, 0, 0, 1, 1, 0, 0, 1, 1, 1, 1]) (kBlock 1 (kSeq (pieceK (C k) call F.lookup_reader_segments [1, 1, 1, 1, 0, 1, 0, 0, 1, 1, 1]) (kRound (ownOf (C k) F.lookup_reader_segments [1, 1, 1, 1, 0, 1, 0, 0])))) .normal [(1, a1), (2, a2), (6, a6), (9, a9), (17, a17), (18, a18), (19, a19)] h
def lookup_reader_segments (k : Nat) (call : Caller) (a0 a1 : Value) (h : Heap) : Res Value :=
  (boxR a0 h).bind fun v1 h2 =>
  (fieldAddrR Prog 235 v1 2 h2).bind fun v3 h4 =>
  (loadR Prog 3 v3 h4).bind fun v5 h6 =>
  (binR Prog .add 3 (.int .i64 4) v5 h6).bind fun v7 h8 =>
  condV (some a1) (
    lookup_reader_segments_j1 k call a1 v1 (.int .i64 6) h8)
  (
    lookup_reader_segments_j2 k call a1 v1 v7 a1 h8)
theorem lookup_reader_segments_R (k : Nat) (a0 a1 : Value) (h : Heap) : R (T k) F.lookup_reader_segments [a0, a1] h = nrm .fz h (lookup_reader_segments k (R (T k)) a0 a1 h) :=
  (R_body (t := T k) (T_scott k) (by kernel_rfl) _ _).trans (by kernel_rfl)
theorem lookup_reader_segments_j1_eq (k : Nat) (call : Caller) (a1 a2 a5 : Value) (h : Heap) : lookup_reader_segments_j1 k call a1 a2 a5 h =
  (fieldAddrR Prog 235 a2 0 h).bind fun v9 h10 =>
  (loadR Prog 83 v9 h10).bind fun v11 h12 =>
  (call F.seek_Take [v11, (.int .i64 2), a5, (.int .i64 2)] h12).bind fun v13 h14 =>
  (builtinV Prog .len [301] [v13] h14).bind fun v15 h16 =>
  (loopN (lookup_reader_segments_l1 k call) loopFuel [(1, a1), (2, a2), (6, (.slice none 0 0)), (17, v13), (18, v15), (19, (.int .i64 0))] h16).bind fun r17 h18 =>
  lookup_reader_segments_l1k k call r17.1 r17.2 h18 := by kernel_rfl
theorem lookup_reader_segments_j2_eq (k : Nat) (call : Caller) (a1 a2 a5 a13 : Value) (h : Heap) : lookup_reader_segments_j2 k call a1 a2 a5 a13 h =
  (fieldAddrR Prog 235 a2 0 h).bind fun v19 h20 =>
  (loadR Prog 83 v19 h20).bind fun v21 h22 =>
  (call F.seek_Take [v21, (.int .i64 2), a5, (.int .i64 2)] h22).bind fun v23 h24 =>
  (builtinV Prog .len [301] [v23] h24).bind fun v25 h26 =>
  (loopN (lookup_reader_segments_l1 k call) loopFuel [(1, a1), (2, a2), (6, (.slice none 0 0)), (17, v23), (18, v25), (19, (.int .i64 0))] h26).bind fun r27 h28 =>
  lookup_reader_segments_l1k k call r27.1 r27.2 h28 := by kernel_rfl
theorem lookup_reader_segments_l1_eq (k : Nat) (call : Caller) (a1 a2 a6 a17 a18 a19 : Value) (h : Heap) : lookup_reader_segments_l1 k call [(1, a1), (2, a2), (6, a6), (17, a17), (18, a18), (19, a19)] h =
  (binR Prog .lss 3 a19 a18 h).bind fun v29 h30 =>
  condV (some v29) (
    (indexAddrR Prog 301 a17 a19 h30).bind fun v31 h32 =>
    (loadR Prog 83 v31 h32).bind fun v33 h34 =>
    (allocR Prog 83 h34).bind fun v35 h36 =>
    (storeR Prog 83 v35 v33 h36).bind fun _v37 h38 =>
    (loadR Prog 83 v35 h38).bindN fun v39 h40 =>
    (call F.view_View_U16 [v39, (.int .i64 2)] h40).bindT (fun p43 h44 => (loadR Prog 83 v35 h40).bindN fun v45 h46 => (allocR Prog 230 h46).bindN fun v47 h48 => chkR ((okVal (loadR Prog 83 v35 h38) v45 && true) && true) (.panic p43 h44)) fun v41 h42 =>
    (loadR Prog 83 v35 h42).bindN fun v49 h50 =>
    (call F.view_View_U16 [v49, (.int .i64 0)] h50).bindT (fun p53 h54 => (allocR Prog 230 h50).bindN fun v55 h56 => chkR ((okVal (loadR Prog 83 v35 h38) v49 && true) && true) (.panic p53 h54)) fun v51 h52 =>
    (buildR Prog 230 [(0, v41), (1, v51)] h52).bindN fun v57 h58 =>
    (allocR Prog 230 h58).bindN fun v59 h60 =>
    (storeR Prog 230 v59 v57 h60).bindN fun _v61 h62 =>
    chkR ((okVal (loadR Prog 83 v35 h38) v49 && true) && true) (
    (fieldAddrR Prog 230 v59 0 h62).bind fun v63 h64 =>
    (loadR Prog 3 v63 h64).bind fun v65 h66 =>
    (fieldAddrR Prog 230 v59 1 h66).bind fun v67 h68 =>
    (loadR Prog 3 v67 h68).bind fun v69 h70 =>
    (binR Prog .leq 3 v65 v69 h70).bind fun v71 h72 =>
    (call F.view_Need [v71] h72).bind fun v73 h74 =>
    condV (some a1) (
      (fieldAddrR Prog 235 a2 0 h74).bindN fun v75 h76 =>
      (loadR Prog 83 v75 h76).bindN fun v77 h78 =>
      (loadR Prog 83 v35 h78).bindN fun v79 h80 =>
      (call F.view_View_U16 [v79, (.int .i64 4)] h80).bindT (fun p83 h84 => (fieldAddrR Prog 230 v59 1 h80).bindN fun v85 h86 => (loadR Prog 3 v85 h86).bindN fun v87 h88 => (fieldAddrR Prog 230 v59 0 h88).bindN fun v89 h90 => (loadR Prog 3 v89 h90).bindN fun v91 h92 => (binR Prog .sub 3 v87 v91 h92).bindN fun v93 h94 => (binR Prog .add 3 v93 (.int .i64 1) h94).bindN fun v95 h96 => (fieldAddrR Prog 235 a2 2 h96).bindN fun v97 h98 => (loadR Prog 3 v97 h98).bindN fun v99 h100 => chkR ((okVal (loadR Prog 3 v85 h74) v87 && true) && ((okVal (loadR Prog 3 v89 h74) v91 && true) && ((okVal (loadR Prog 3 v97 h74) v99 && true) && true))) (.panic p83 h84)) fun v81 h82 =>
      (fieldAddrR Prog 230 v59 1 h82).bindN fun v101 h102 =>
      (loadR Prog 3 v101 h102).bindN fun v103 h104 =>
      (fieldAddrR Prog 230 v59 0 h104).bindN fun v105 h106 =>
      (loadR Prog 3 v105 h106).bindN fun v107 h108 =>
      (binR Prog .sub 3 v103 v107 h108).bindN fun v109 h110 =>
      (binR Prog .add 3 v109 (.int .i64 1) h110).bindN fun v111 h112 =>
      (fieldAddrR Prog 235 a2 2 h112).bindN fun v113 h114 =>
      (loadR Prog 3 v113 h114).bindN fun v115 h116 =>
      (call F.lookup_list [v77, v81, v111, v115] h116).bindT (fun p119 h120 => chkR ((okVal (loadR Prog 83 v75 h82) v77 && true) && ((okVal (loadR Prog 3 v101 h74) v103 && true) && ((okVal (loadR Prog 3 v105 h74) v107 && true) && ((okVal (loadR Prog 3 v113 h74) v115 && true) && true)))) (.panic p119 h120)) fun v117 h118 =>
      (fieldAddrR Prog 230 v59 2 h118).bindN fun v121 h122 =>
      (storeR Prog 28 v121 v117 h122).bindN fun _v123 h124 =>
      chkR ((okVal (loadR Prog 83 v75 h82) v77 && true) && ((okVal (loadR Prog 3 v101 h74) v103 && true) && ((okVal (loadR Prog 3 v105 h74) v107 && true) && ((okVal (loadR Prog 3 v113 h74) v115 && true) && true)))) (
      lookup_reader_segments_j3 k call a1 a2 a6 v59 a17 a18 a19 h124))
    (
      (loadR Prog 83 v35 h74).bind fun v125 h126 =>
      (fieldAddrR Prog 235 a2 2 h126).bind fun v127 h128 =>
      (loadR Prog 3 v127 h128).bind fun v129 h130 =>
      (call F.lookup_number [v125, (.int .i64 4), v129] h130).bind fun v131 h132 =>
      (buildSliceR Prog 28 1 [(0, v131)] h132).bind fun v133 h134 =>
      (fieldAddrR Prog 230 v59 2 h134).bind fun v135 h136 =>
      (storeR Prog 28 v135 v133 h136).bind fun _v137 h138 =>
      lookup_reader_segments_j3 k call a1 a2 a6 v59 a17 a18 a19 h138)))
  (
    .ok ((.exit 0), [(1, a1), (2, a2), (6, a6), (17, a17), (18, a18), (19, a19), (20, v29)]) h30) :=
  (loopB_eq _ _).trans (by kernel_rfl)
theorem lookup_reader_segments_j3_eq (k : Nat) (call : Caller) (a1 a2 a6 a9 a17 a18 a19 : Value) (h : Heap) : lookup_reader_segments_j3 k call a1 a2 a6 a9 a17 a18 a19 h =
  (loadR Prog 230 a9 h).bind fun v139 h140 =>
  (buildSliceR Prog 226 1 [(0, v139)] h140).bind fun v141 h142 =>
  (builtinV Prog .append [226, 226] [a6, v141] h142).bind fun v143 h144 =>
  (binR Prog .add 3 a19 (.int .i64 1) h144).bind fun v145 h146 =>
  .ok (.normal, [(1, a1), (2, a2), (6, v143), (17, a17), (18, a18), (19, v145)]) h146 := by kernel_rfl
theorem lookup_reader_segments_l1k_x0 (k : Nat) (call : Caller) (a1 a2 a6 a17 a18 a19 a20 : Value) (h : Heap) : lookup_reader_segments_l1k k call (.exit 0) [(1, a1), (2, a2), (6, a6), (17, a17), (18, a18), (19, a19), (20, a20)] h =
  .ok a6 h := by kernel_rfl
def lookup_reader_single_l1 (k : Nat) (call : Caller) : Env → Heap → Res (AExit × Env) := loopB (C k) call F.lookup_reader_single [1, 1, 0, 1, 0, 0]
def lookup_reader_single_l1k (k : Nat) (call : Caller) : Kont Value := kBlock 0 (kSeq (pieceK (C k) call F.lookup_reader_single [1, 1, 1]) (kDone Prog (resOf Prog F.lookup_reader_single)))
def lookup_reader_single (k : Nat) (call : Caller) (a0 : Value) (h : Heap) : Res Value :=
  (boxR a0 h).bind fun v1 h2 =>
  (fieldAddrR Prog 235 v1 0 h2).bind fun v3 h4 =>
  (loadR Prog 83 v3 h4).bind fun v5 h6 =>
  (fieldAddrR Prog 235 v1 2 h6).bind fun v7 h8 =>
  (loadR Prog 3 v7 h8).bind fun v9 h10 =>
  (binR Prog .add 3 (.int .i64 2) v9 h10).bind fun v11 h12 =>
  (call F.seek_Take [v5, (.int .i64 2), v11, (.int .i64 1)] h12).bind fun v13 h14 =>
  (builtinV Prog .len [301] [v13] h14).bind fun v15 h16 =>
  (loopN (lookup_reader_single_l1 k call) loopFuel [(1, v1), (3, (.slice none 0 0)), (12, v13), (13, v15), (14, (.int .i64 0))] h16).bind fun r17 h18 =>
  lookup_reader_single_l1k k call r17.1 r17.2 h18
theorem lookup_reader_single_R (k : Nat) (a0 : Value) (h : Heap) : R (T k) F.lookup_reader_single [a0] h = nrm .fz h (lookup_reader_single k (R (T k)) a0 h) :=
  (R_body (t := T k) (T_scott k) (by kernel_rfl) _ _).trans (by kernel_rfl)
theorem lookup_reader_single_l1_eq (k : Nat) (call : Caller) (a1 a3 a12 a13 a14 : Value) (h : Heap) : lookup_reader_single_l1 k call [(1, a1), (3, a3), (12, a12), (13, a13), (14, a14)] h =
  (binR Prog .lss 3 a14 a13 h).bind fun v19 h20 =>
  condV (some v19) (
    (indexAddrR Prog 301 a12 a14 h20).bind fun v21 h22 =>
    (loadR Prog 83 v21 h22).bind fun v23 h24 =>
    (allocR Prog 83 h24).bind fun v25 h26 =>
    (storeR Prog 83 v25 v23 h26).bind fun _v27 h28 =>
    (loadR Prog 83 v25 h28).bind fun v29 h30 =>
    (call F.view_View_U16 [v29, (.int .i64 0)] h30).bind fun v31 h32 =>
    (loadR Prog 83 v25 h32).bind fun v33 h34 =>
    (fieldAddrR Prog 235 a1 2 h34).bind fun v35 h36 =>
    (loadR Prog 3 v35 h36).bind fun v37 h38 =>
    (call F.lookup_number [v33, (.int .i64 2), v37] h38).bind fun v39 h40 =>
    (buildSliceR Prog 28 1 [(0, v39)] h40).bind fun v41 h42 =>
    (buildR Prog 230 [(0, v31), (1, v31), (2, v41)] h42).bind fun v43 h44 =>
    (buildSliceR Prog 226 1 [(0, v43)] h44).bind fun v45 h46 =>
    (builtinV Prog .append [226, 226] [a3, v45] h46).bind fun v47 h48 =>
    (binR Prog .add 3 a14 (.int .i64 1) h48).bind fun v49 h50 =>
    .ok (.normal, [(1, a1), (3, v47), (12, a12), (13, a13), (14, v49)]) h50)
  (
    .ok ((.exit 0), [(1, a1), (3, a3), (12, a12), (13, a13), (14, a14), (15, v19)]) h20) :=
  (loopB_eq _ _).trans (by kernel_rfl)
theorem lookup_reader_single_l1k_x0 (k : Nat) (call : Caller) (a1 a3 a12 a13 a14 a15 : Value) (h : Heap) : lookup_reader_single_l1k k call (.exit 0) [(1, a1), (3, a3), (12, a12), (13, a13), (14, a14), (15, a15)] h =
  .ok a3 h := by kernel_rfl
def lookup_reader_trimmed (k : Nat) (call : Caller) (a0 a1 a2 : Value) (h : Heap) : Res Value :=
  (boxR a0 h).bind fun v1 h2 =>
  (fieldAddrR Prog 235 v1 0 h2).bindN fun v3 h4 =>
  (loadR Prog 83 v3 h4).bindN fun v5 h6 =>
  (call F.view_View_U16 [v5, a1] h6).bindT (fun p9 h10 => (fieldAddrR Prog 235 v1 0 h6).bindN fun v11 h12 => (loadR Prog 83 v11 h12).bindN fun v13 h14 => (binR Prog .add 3 a1 (.int .i64 2) h14).bindN fun v15 h16 => chkR ((okVal (loadR Prog 83 v11 h2) v13 && true) && true) (.panic p9 h10)) fun v7 h8 =>
  (fieldAddrR Prog 235 v1 0 h8).bindN fun v17 h18 =>
  (loadR Prog 83 v17 h18).bindN fun v19 h20 =>
  (binR Prog .add 3 a1 (.int .i64 2) h20).bindN fun v21 h22 =>
  (call F.view_View_U16 [v19, v21] h22).bindT (fun p25 h26 => chkR ((okVal (loadR Prog 83 v17 h2) v19 && true) && true) (.panic p25 h26)) fun v23 h24 =>
  chkR ((okVal (loadR Prog 83 v17 h2) v19 && true) && true) (
  (binR Prog .add 3 v7 v23 h24).bind fun v27 h28 =>
  (binR Prog .leq 3 v27 (.int .i64 65536) h28).bind fun v29 h30 =>
  (call F.view_Need [v29] h30).bind fun v31 h32 =>
  (fieldAddrR Prog 235 v1 0 h32).bind fun v33 h34 =>
  (loadR Prog 83 v33 h34).bind fun v35 h36 =>
  (binR Prog .add 3 a1 (.int .i64 4) h36).bind fun v37 h38 =>
  (call F.lookup_list [v35, v37, v23, a2] h38).bind fun v39 h40 =>
  (binR Prog .eql 3 v23 (.int .i64 0) h40).bind fun v41 h42 =>
  condV (some v41) (
    .ok (.slice none 0 0) h42)
  (
    (binR Prog .add 3 v7 v23 h42).bind fun v43 h44 =>
    (binR Prog .sub 3 v43 (.int .i64 1) h44).bind fun v45 h46 =>
    (buildR Prog 230 [(0, v7), (1, v45), (2, v39)] h46).bind fun v47 h48 =>
    (buildSliceR Prog 226 1 [(0, v47)] h48).bind fun v49 h50 =>
    .ok v49 h50))
theorem lookup_reader_trimmed_R (k : Nat) (a0 a1 a2 : Value) (h : Heap) : R (T k) F.lookup_reader_trimmed [a0, a1, a2] h = nrm .fz h (lookup_reader_trimmed k (R (T k)) a0 a1 a2 h) :=
  (R_body (t := T k) (T_scott k) (by kernel_rfl) _ _).trans (by kernel_rfl)
def lookup_number (k : Nat) (call : Caller) (a0 a1 a2 : Value) (h : Heap) : Res Value :=
  (boxR a0 h).bind fun v1 h2 =>
  (binR Prog .eql 3 a2 (.int .i64 1) h2).bind fun v3 h4 =>
  condV (some v3) (
    (loadR Prog 83 v1 h4).bind fun v5 h6 =>
    (call F.view_View_U8 [v5, a1] h6).bind fun v7 h8 =>
    .ok v7 h8)
  (
    (binR Prog .eql 3 a2 (.int .i64 2) h4).bind fun v9 h10 =>
    condV (some v9) (
      (loadR Prog 83 v1 h10).bind fun v11 h12 =>
      (call F.view_View_U16 [v11, a1] h12).bind fun v13 h14 =>
      .ok v13 h14)
    (
      (loadR Prog 83 v1 h10).bind fun v15 h16 =>
      (call F.view_View_U32 [v15, a1] h16).bind fun v17 h18 =>
      .ok v17 h18))
theorem lookup_number_R (k : Nat) (a0 a1 a2 : Value) (h : Heap) : R (T k) F.lookup_number [a0, a1, a2] h = nrm .gc h (lookup_number k (R (T k)) a0 a1 a2 h) :=
  (R_body (t := T k) (T_scott k) (by kernel_rfl) _ _).trans (by kernel_rfl)
end
end Go.Sw
end
section
namespace Go.Sw
open Go.RowKit
theorem number_run (k : Nat) {H : Heap} {v : Value} {b : List Int} (hv : Sl H 1 v encB b) (hb : Byt b) (i z : Int) (hz : z = 1 ∨ z = 2 ∨ z = 4) (hl : b.length < 2 ^ 62) : R (T k) F.lookup_number [.agg #[v], .int .i64 i, .int .i64 z] H = orF (uS b i z) (.int .i64) H := by
  rw [lookup_number_R]
  have hx : Ext H (H.push ⟨[v], 1, false⟩) := (Ext.refl H).push _
  refine gc_orF ?_ fun _ _ => .int _ _
  rcases hz with rfl | rfl | rfl
  · simp -implicitDefEqProofs [lookup_number]
    exact Cp.callL (U8_run k (hv.up hx) hb i hl) hx fun n hn => .ok hx rfl
  · simp -implicitDefEqProofs [lookup_number]
    exact Cp.callL (U16_run k (hv.up hx) hb i hl) hx fun n hn => .ok hx rfl
  · simp -implicitDefEqProofs [lookup_number]
    exact Cp.callL (U32_run k (hv.up hx) hb i hl) hx fun n hn => .ok hx rfl
theorem repeat_I : ∀ n, repeatCells [Value.int .i64 0] n = rows encI (List.replicate n 0)
  | 0 => rfl
  | n + 1 => by
    have := repeat_I n
    simp only [repeatCells, List.replicate_succ] at this ⊢
    simp [rows, this]
theorem uS_cut {r : List Int} {z n j : Nat} (hr : r.length = n * z) (hj : j < n) : uS r ((z : Int) * j) z = some (num ((r.drop (z * j)).take z)) := by
  have : z * j + z ≤ r.length := by
    rw [hr, ← Nat.mul_succ, Nat.mul_comm]
    exact Nat.mul_le_mul_right _ hj
  have e1 : ((z : Int) * j) = ((z * j : Nat) : Int) := by simp
  unfold uS
  rw [e1, pieceS, if_pos (by omega), Int.toNat_natCast, Int.toNat_natCast]
  rfl
theorem list_run (k : Nat) {H : Heap} {v : Value} {b : List Int} (hv : Sl H 1 v encB b) (hb : Byt b) (i n z : Int) (hz : z = 1 ∨ z = 2 ∨ z = 4) (hl : b.length < 2 ^ 31) : R (T k) F.lookup_list [.agg #[v], .int .i64 i, .int .i64 n, .int .i64 z] H = orF (listS b i n z) (lv encI) H := by
  rw [lookup_list_R]
  have hx1 : Ext H (H.push ⟨[v], 1, false⟩) := (Ext.refl H).push _
  refine fz_orF ?_ fun _ _ => (Flat.I _).alive
  simp -implicitDefEqProofs [lookup_list]
  unfold listS
  refine Cp.callM (Rows_run k (hv.up hx1) i n z (by omega)) hx1 fun r hr => ?_
  have hn := rowsS_n hr
  have hp := rowsS_piece hr
  have hs := pieceS_sl hv hp
  have hrb := (hb.piece hp).1
  have hrl := pieceS_len hp
  obtain ⟨n, rfl⟩ := Int.eq_ofNat_of_zero_le hn.1
  obtain ⟨z, rfl⟩ := Int.eq_ofNat_of_zero_le hn.2.1
  have hrl : r.length = n * z := by exact_mod_cast hrl
  have hnl : n ≤ 2 ^ 31 := by
    have h1 : n * 1 ≤ n * z := Nat.mul_le_mul_left n (by omega)
    have h2 : (n : Int) * z ≤ b.length := by omega
    have h3 : n * z ≤ b.length := by exact_mod_cast h2
    omega
  simp only [Int.toNat_natCast]
  generalize subV 1 v i.toNat ((n : Int) * z).toNat = rv at hs
  have hx2 : Ext H ((H.push ⟨[v], 1, false⟩).push ⟨[rv], 1, false⟩) := hx1.push _
  obtain ⟨x, e', H1, hr', rfl, rfl, ho, hx⟩ := loop_up (body := lookup_list_l1 k (R (T k))) n
    (fun j e H' => e = [(3, .int .i64 z), (9, .pointer (some ⟨H.n + 1, 0, none⟩)), (10, .slice (some ⟨H.n + 2, 0, none⟩) n n), (20, .int .i64 n), (21, .int .i64 j)] ∧
      Own H H' 1 (.slice (some ⟨H.n + 2, 0, none⟩) n n) encI (((cutRows r z n).map num).take j ++ List.replicate (n - j) 0) ∧ Ext H H' ∧ H'.get (H.n + 1) = some ⟨[rv], 1, false⟩)
    (fun x e H' => x = .exit 0 ∧ e = [(3, .int .i64 z), (9, .pointer (some ⟨H.n + 1, 0, none⟩)), (10, .slice (some ⟨H.n + 2, 0, none⟩) n n), (20, .int .i64 n), (21, .int .i64 n), (22, .bool false)] ∧
      Own H H' 1 (.slice (some ⟨H.n + 2, 0, none⟩) n n) encI ((cutRows r z n).map num) ∧ Ext H H')
    (e0 := [(3, .int .i64 z), (9, .pointer (some ⟨H.n + 1, 0, none⟩)), (10, .slice (some ⟨H.n + 2, 0, none⟩) n n), (20, .int .i64 n), (21, .int .i64 0)])
    (H0 := ((H.push ⟨[v], 1, false⟩).push ⟨[rv], 1, false⟩).push ⟨repeatCells [Value.int .i64 0] n, 1, false⟩)
    ⟨rfl, .inr ⟨H.n + 2, by simp, by omega, by rw [get_push_eq _ _ _ (by simp), repeat_I]; simp⟩, hx2.push _, by rw [get_push_lt _ _ _ (by simp), get_push_eq _ _ _ (by simp)]⟩ (by omega)
    (fun j e H' hj ⟨he, ho, hx, hg⟩ => by
      subst he
      have hlt : (j : Int) < n := by omega
      have hnum := number_run k (hs.up hx) hrb ((z : Int) * j) z hz (by omega)
      rw [uS_cut hrl hj, orF_some] at hnum
      have hz4 : (z : Int) * j ≤ 4 * 2147483648 := Int.mul_le_mul (by omega) (by omega) (by omega) (by omega)
      have hz0 : 0 ≤ (z : Int) * j := Int.mul_nonneg (by omega) (by omega)
      have hlen : ((cutRows r z n).map num).length = n := by simp
      have hy : ((cutRows r z n).map num)[j]? = some (num ((r.drop (z * j)).take z)) := by rw [List.getElem?_map, cutRows_get _ _ _ _ hj]; rfl
      obtain ⟨b, H2, e1, h1, h2, h3, h4, h5, h6⟩ := ho.set encI_len j 0 1 0 (num ((r.drop (z * j)).take z)) (.int .i64 (num ((r.drop (z * j)).take z))) (fill_get _ _ hlen hj) rfl rfl (by decide) rfl
      rw [fill_step _ _ hlen hj _ hy] at h4
      simp at e1
      obtain ⟨rfl, _⟩ := e1
      generalize num ((r.drop (z * j)).take z) = y at hnum h3 h4
      have hx' : Ext H H2 := ⟨by rw [h6]; exact hx.n, fun c hc hs => by rw [h5 c (by omega)]; exact hx.2 c hc hs⟩
      refine .inl ⟨_, H2, ?_, rfl, h4, hx', by rw [h5 _ (by omega)]; exact hg⟩
      simp only [Nat.add_zero, Nat.mul_one] at h3
      rw [lookup_list_l1_eq]
      simp -implicitDefEqProofs (disch := omega) [-stR_ptr, hlt, hg, hnum, ixS_slice, h3])
    (fun e H' ⟨he, ho, hx, hg⟩ => by
      subst he
      refine ⟨.exit 0, _, H', ?_, by simp, rfl, rfl, by simpa [List.take_of_length_le] using ho, hx⟩
      rw [lookup_list_l1_eq]
      simp -implicitDefEqProofs)
  obtain ⟨L, hf⟩ := ho.freeze encI_len (encI_still _) 6
  simp -implicitDefEqProofs (disch := omega) [mkR_nat, hr', lookup_list_l1k_x0]
  exact .ok hx ⟨L, hf⟩
end Go.Sw
end
section
namespace Go.Sw
open Go.RowKit
abbrev encPt (p : Pt) : List Value := [.int .i64 p.first, .int .i64 p.last, lv encI p.vals]
theorem encPt_len (p : Pt) : (encPt p).length = 3 := rfl
theorem encPt_flats (l : List Pt) : ∀ p, p ∈ l → Flats (encPt p) := fun _ _ => .cons (.int _ _) (.cons (.int _ _) (.cons (Flat.I _) .nil))
theorem Flat.Pts (l : List Pt) : Flat (Go.Sw.lv encPt l) := .lv (encPt_flats l)
theorem encPt_still (l : List Pt) : ∀ p, p ∈ l → ∀ v, v ∈ encPt p → Still v := fun p _ v hv => by
  simp [encPt] at hv
  rcases hv with rfl | rfl | rfl <;> trivial
theorem rd_vw {H : Heap} {v : Value} {b : List Int} (hv : Sl H 1 v encB b) : Go.Sw.veq v v = true := hv.veq fun n _ u hu => by simp at hu; subst hu; simp
theorem trimmed_run (k : Nat) {H : Heap} {v : Value} {b : List Int} (hv : Sl H 1 v encB b) (hb : Byt b) (g z0 : Value) (i z : Int) (hz : z = 1 ∨ z = 2 ∨ z = 4) (hl : b.length < 2 ^ 31) (hi : 0 ≤ i ∧ i ≤ 4) :
    R (T k) F.lookup_reader_trimmed [.agg #[v, g, z0], .int .i64 i, .int .i64 z] H = orF (trimS b i z) (lv encPt) H := by
  rw [lookup_reader_trimmed_R]
  have hx : Ext H (H.push ⟨[v, g, z0], 1, false⟩) := (Ext.refl H).push _
  have hq := rd_vw hv
  have hqa : veq (.agg #[v]) (.agg #[v]) = true := veq_agg (l := [v]) fun u hu => by simp at hu; subst hu; exact hq
  refine fz_orF ?_ fun _ _ => (Flat.Pts _).alive
  simp -implicitDefEqProofs [lookup_reader_trimmed]
  unfold trimS
  refine Cp.callT (U16_run k (hv.up hx) hb i (by omega)) (fun _ => ⟨_, by simp -implicitDefEqProofs (disch := omega) [hqa], hx⟩) fun f hf => ?_
  have hf := uS_two hb hf
  simp -implicitDefEqProofs (disch := omega)
  refine Cp.callT (U16_run k (hv.up hx) hb (i + 2) (by omega)) (fun _ => ⟨_, by simp -implicitDefEqProofs (disch := omega) [hqa], hx⟩) fun n hn => ?_
  have hn := uS_two hb hn
  simp -implicitDefEqProofs (disch := omega) [hqa]
  refine Cp.need hx fun hfn => ?_
  simp -implicitDefEqProofs (disch := omega)
  refine Cp.callM (list_run k (hv.up hx) hb (i + 4) n z hz hl) hx fun vs hvs => ?_
  by_cases h0 : n = 0
  · subst h0
    simp -implicitDefEqProofs
    exact .ok hx ⟨_, rfl⟩
  · have h0' : (n == 0) = false := by simpa using h0
    simp -implicitDefEqProofs (disch := omega) [h0, h0']
    refine .ok (hx.push _) ?_
    exact Own.freeze (l := [⟨f, f + n - 1, vs⟩]) encPt_len (.inr ⟨H.n + 1, rfl, by omega, by rw [get_push_eq _ _ _ (by simp)]; rfl⟩) (encPt_still _) 6
def encPR (x : Pt × Value) : List Value := [.int .i64 x.1.first, .int .i64 x.1.last, x.2]
theorem encPR_len (x : Pt × Value) : (encPR x).length = 3 := rfl
def InnerOk (H0 H : Heap) (x : Pt × Value) : Prop := x.2 = lv encI x.1.vals ∨ ∃ b, x.2 = .slice (some ⟨b, 0, none⟩) x.1.vals.length x.1.vals.length ∧ H0.n ≤ b ∧ H.get b = some ⟨rows encI x.1.vals, 1, false⟩
def PtsOwn (H0 H : Heap) (s : Value) (ps : List Pt) : Prop := ∃ l : List (Pt × Value), l.map Prod.fst = ps ∧ Own H0 H 3 s encPR l ∧ ∀ x, x ∈ l → InnerOk H0 H x
theorem InnerOk.keep {H0 H H' : Heap} {x : Pt × Value} (h : InnerOk H0 H x) (hk : ∀ c k, H.get c = some k → k.esz ≠ 3 → H'.get c = some k) : InnerOk H0 H' x := by
  rcases h with h | ⟨b, h1, h2, h3⟩
  · exact .inl h
  · exact .inr ⟨b, h1, h2, hk b _ h3 (by simp)⟩
theorem InnerOk.fz {H0 H : Heap} {x : Pt × Value} (h : InnerOk H0 H x) (d : Nat) : ∃ L, mapF (fzV H0.n H (d + 2)) (encPR x) = some (encPt x.1, L) := by
  have h2 : ∃ L, fzV H0.n H (d + 2) x.2 = some (lv encI x.1.vals, L) := by
    rcases h with h | ⟨b, h1, h2, h3⟩
    · rw [h]; exact ⟨[], rfl⟩
    · exact Own.freeze encI_len (.inr ⟨b, h1, h2, h3⟩) (encI_still _) d
  obtain ⟨L, hL⟩ := h2
  exact ⟨_, mapF_cons (v := .int .i64 x.1.first) (u := .int .i64 x.1.first) (L1 := []) rfl (mapF_cons (v := .int .i64 x.1.last) (u := .int .i64 x.1.last) (L1 := []) rfl (mapF_cons hL (L2 := []) rfl))⟩
theorem PtsOwn.nil (H0 H : Heap) : PtsOwn H0 H (.slice none 0 0) [] := ⟨[], rfl, Own.nil _ _ _, fun x h => by simp at h⟩
theorem PtsOwn.keep {H0 H H' : Heap} {s : Value} {ps : List Pt} (h : PtsOwn H0 H s ps) (hx : Ext H H') : PtsOwn H0 H' s ps := by
  obtain ⟨l, h1, h2, h3⟩ := h
  exact ⟨l, h1, h2.up hx, fun x hm => (h3 x hm).keep fun c k hc _ => hx.get hc⟩
theorem PtsOwn.push {H0 H : Heap} {s : Value} {ps : List Pt} (h : PtsOwn H0 H s ps) (hx : Ext H0 H) (p : Pt) (u : Value) (hi : InnerOk H0 H (p, u)) (hl : ps.length < 2 ^ 31) :
    ∃ s' H', apR 3 40 s (.slice (some ⟨H.n, 0, none⟩) 1 1) (H.push ⟨[.int .i64 p.first, .int .i64 p.last, u], 3, false⟩) = .ok s' H' ∧ PtsOwn H0 H' s' (ps ++ [p]) ∧ Ext H0 H' ∧ ∀ c k, H.get c = some k → k.esz ≠ 3 → H'.get c = some k := by
  obtain ⟨l, h1, h2, h3⟩ := h
  subst h1
  obtain ⟨s', H', e1, e2, e3, e4⟩ := apR_own (bytes := 40) encPR_len (b := .slice (some ⟨H.n, 0, none⟩) 1 1) (l2 := [(p, u)]) (h2.up ((Ext.refl H).push ⟨encPR (p, u), 3, false⟩)) (hx.push _) rfl (by
    unfold firstV
    dsimp only
    rw [if_neg (by simp), cellsAt_eq, get_push_eq H ⟨encPR (p, u), 3, false⟩ H.n rfl]
    rfl) (by simp at hl ⊢; omega) (by decide)
  have hk : ∀ c k, H.get c = some k → k.esz ≠ 3 → H'.get c = some k := fun c k hc hne => by
    have hlt := Heap.get_lt hc
    rw [e4 c (by simp; omega) fun o n m hs => ?_]
    · rw [get_push_lt _ _ _ hlt]; exact hc
    · rcases h2 with ⟨_, h | h | h⟩ | ⟨b, h, _, hb⟩
      · rw [h] at hs; simp at hs
      · rw [h] at hs; simp [bareV] at hs
      · rw [h] at hs; simp [emptyV] at hs
      · rw [h] at hs
        simp at hs
        obtain ⟨⟨rfl, _⟩, _⟩ := hs
        rw [hb] at hc
        injection hc with hc
        subst hc
        exact hne rfl
  refine ⟨s', H', e1, ⟨l ++ [(p, u)], by simp, e2, fun x hm => ?_⟩, e3, hk⟩
  rcases List.mem_append.1 hm with hm | hm
  · exact (h3 x hm).keep hk
  · simp at hm
    subst hm
    exact hi.keep hk
theorem rows_fst (l : List (Pt × Value)) : rows (fun x : Pt × Value => encPt x.1) l = rows encPt (l.map Prod.fst) := by
  induction l with
  | nil => rfl
  | cons x l ih => rw [List.map_cons, rows_cons, rows_cons, ih]
theorem PtsOwn.freeze {H0 H : Heap} {s : Value} {ps : List Pt} (h : PtsOwn H0 H s ps) (d : Nat) : ∃ L, fzV H0.n H (d + 3) s = some (lv encPt ps, L) := by
  obtain ⟨l, h1, h2, h3⟩ := h
  subst h1
  obtain ⟨L, hL⟩ := h2.freezeG (enc' := fun x : Pt × Value => encPt x.1) encPR_len (d + 1) fun x hm => (h3 x hm).fz d
  refine ⟨L, hL.trans ?_⟩
  unfold lv
  rw [rows_fst]
  simp
theorem takeS_row {H : Heap} {v : Value} {b : List Int} (hv : Sl H 1 v encB b) {i need : Int} {keys : Nat} {rows : List (List Int)} (h : takeS b i need keys = some rows) {j : Nat} {row : List Int} (hj : rows[j]? = some row) :
    ∃ u, (cutV (rowsV v b i) (rowZ b i) rows.length)[j]? = some u ∧ Sl H 1 u encB row := by
  have hlt := (List.getElem?_eq_some_iff.1 hj).1
  refine ⟨_, cutV_get _ _ _ _ hlt, ?_⟩
  unfold takeS at h
  split at h
  · rename_i z n h1 h2
    split at h
    · rename_i hc
      obtain ⟨r, hr, rfl⟩ := Option.map_eq_some_iff.1 h
      have hn := rowsS_n hr
      have hrl : (r.length : Int) = n * z := pieceS_len (rowsS_piece hr)
      have hsl := pieceS_sl hv (rowsS_piece hr)
      obtain ⟨z, rfl⟩ := Int.eq_ofNat_of_zero_le hn.2.1
      obtain ⟨n, rfl⟩ := Int.eq_ofNat_of_zero_le hn.1
      have hrl : r.length = n * z := by exact_mod_cast hrl
      have e1 : rowsV v b i = subV 1 v (i + 10).toNat ((n : Int) * z).toNat := by unfold rowsV; rw [h1, h2]; rfl
      have e2 : rowZ b i = z := by unfold rowZ; rw [h1]; simp
      rw [e1, e2]
      simp only [Int.toNat_natCast] at hj hlt
      have hm : (cutRows r z n)[j]? = some row := by
        unfold endRows at hj
        split at hj
        · have hlt2 := (List.getElem?_eq_some_iff.1 hj).1
          simp at hlt2
          rw [cutRows_get _ _ _ _ hlt2] at hj
          rw [cutRows_get _ _ _ _ (by omega)]
          exact hj
        · exact hj
      have hlt2 := (List.getElem?_eq_some_iff.1 hm).1
      simp at hlt2
      rw [cutRows_get _ _ _ _ hlt2] at hm
      injection hm with hm
      subst hm
      exact cutV_sl hsl z n j hrl hlt2
    · cases h
  · cases h
theorem single_run (k : Nat) {H : Heap} {v : Value} {b : List Int} (hv : Sl H 1 v encB b) (hb : Byt b) (g : Value) (z : Int) (hz : z = 2 ∨ z = 4) (hl : b.length < 2 ^ 31) :
    R (T k) F.lookup_reader_single [.agg #[v, g, .int .i64 z]] H = orF (oneS b z) (lv encPt) H := by
  rw [lookup_reader_single_R]
  have hx : Ext H (H.push ⟨[v, g, .int .i64 z], 1, false⟩) := (Ext.refl H).push _
  refine fz_orF ?_ fun _ _ => (Flat.Pts _).alive
  simp -implicitDefEqProofs (disch := omega) [lookup_reader_single]
  unfold oneS
  refine Cp.call (Take_run k (hv.up hx) hb 2 (2 + z) 1 hl (by omega) (by omega) (by omega)) hx fun rows hrows => ?_
  obtain ⟨zr, nr, hz1, hn1, hneed, hlen, hrow⟩ := takeS_spec hb hrows
  have hnr := uS_two hb hn1
  have hzr := uS_two hb hz1
  have htk := fun H' (hx' : Ext H H') j row (hj : rows[j]? = some row) => takeS_row (hv.up hx') hrows hj
  have hll : (cutV (rowsV v b 2) (rowZ b 2) rows.length).length = rows.length := by simp
  generalize cutV (rowsV v b 2) (rowZ b 2) rows.length = us at htk hll
  simp -implicitDefEqProofs (disch := omega) [hll]
  refine Cp.bindL (Cp.mapLoop (oneP z) rows
    (fun i acc e H' => ∃ s, e = [(1, .pointer (some ⟨H.n, 0, none⟩)), (3, s), (12, lv encW us), (13, .int .i64 rows.length), (14, .int .i64 i)] ∧ PtsOwn H H' s acc ∧ H'.get H.n = some ⟨[v, g, .int .i64 z], 1, false⟩)
    (fun acc x e H' => x = .exit 0 ∧ ∃ s, e = [(1, .pointer (some ⟨H.n, 0, none⟩)), (3, s), (12, lv encW us), (13, .int .i64 rows.length), (14, .int .i64 rows.length), (15, .bool false)] ∧ PtsOwn H H' s acc)
    (by omega) hx ⟨_, rfl, PtsOwn.nil _ _, get_push_eq _ _ _ rfl⟩ ?_ ?_) ?_
  · intro i row acc e H' hi ha hx' ⟨s, he, ho, hg⟩
    subst he
    have hilt := (List.getElem?_eq_some_iff.1 hi).1
    have hlt : (i : Int) < rows.length := by omega
    obtain ⟨u, hu, hsu⟩ := htk H' hx' i row hi
    have hrb := hrow row (List.mem_of_getElem? hi)
    have hgn : H.n < H'.n := Heap.get_lt hg
    have hne : ¬ H.n = H'.n := by omega
    have hx1 : Ext H' (H'.push ⟨[u], 1, false⟩) := (Ext.refl H').push _
    have hst := hsu.storable
    have hce := hsu.cells
    rw [lookup_reader_single_l1_eq]
    simp -implicitDefEqProofs (disch := omega) [hlt, ixS_lvN encW_len us .i64 i u hu]
    unfold oneP
    refine Cp.call (U16_run k (hsu.up hx1) hrb.1 0 (by omega)) (hx'.trans hx1) fun id hid => ?_
    simp -implicitDefEqProofs (disch := omega) [hg, hne]
    refine Cp.callM (number_run k (hsu.up hx1) hrb.1 2 z (by omega) (by omega)) (hx'.trans hx1) fun n hn => ?_
    have hx2 : Ext H' ((H'.push ⟨[u], 1, false⟩).push ⟨[.int .i64 n], 1, false⟩) := hx1.push _
    obtain ⟨s', H2, e1, e2, e3, e4⟩ := (ho.keep hx2).push (hx'.trans hx2) ⟨id, id, [n]⟩ (.slice (some ⟨H'.n + 1, 0, none⟩) 1 1) (.inr ⟨H'.n + 1, rfl, by omega, by rw [get_push_eq _ _ _ (by simp)]; rfl⟩) (by omega)
    simp at e1
    simp -implicitDefEqProofs (disch := omega) [e1]
    exact .ok e3 ⟨rfl, s', rfl, e2, e4 _ _ (hx2.get hg) (by simp)⟩
  · intro acc e H' ha hx' ⟨s, he, ho, _⟩
    subst he
    refine ⟨.exit 0, _, H', ?_, by simp, hx', rfl, s, rfl, ho⟩
    rw [lookup_reader_single_l1_eq]
    simp -implicitDefEqProofs
  · rintro acc ⟨x, e⟩ H' _ hx' ⟨rfl, s, rfl, ho⟩
    simp only [lookup_reader_single_l1k_x0]
    exact .ok hx' (ho.freeze 5)
end Go.Sw
end
