/-
  Functions' forms, and what is proved of them, part 1.
-/
import Derived.Test.YtanfippcmdialaaSwCfg
import Derived.Test.YtanfippcmdialaaSwLib8
import Derived.Test.YtanfippcmdialaaSwLib9
set_option linter.unusedSimpArgs false
set_option linter.unusedVariables false
set_option linter.unusedSectionVars false
section
set_option maxRecDepth 100000
set_option linter.unusedVariables false
namespace Go.Sw
noncomputable section
def view_Of (k : Nat) (call : Caller) (a0 : Value) (h : Heap) : Res Value :=
 (allocR Prog 75 h).bind fun v1 h2 =>
 (buildR Prog 75 [(0, a0)] h2).bind fun v3 h4 =>
 (storeR Prog 75 v1 v3 h4).bind fun _v5 h6 =>
 (loadR Prog 75 v1 h6).bind fun v7 h8 =>
 .ok v7 h8
theorem view_Of_R (k : Nat) (a0 : Value) (h : Heap) : R (T k) F.view_Of [a0] h = nrm .gc h (view_Of k (R (T k)) a0 h) :=
 (R_body (t := T k) (T_scott k) (by kernel_rfl) (by kernel_rfl) _ _).trans (by kernel_rfl)
def view_View_U32 (k : Nat) (call : Caller) (a0 a1 : Value) (h : Heap) : Res Value :=
 (boxR a0 h).bind fun v1 h2 =>
 (loadR Prog 75 v1 h2).bind fun v3 h4 =>
 (call F.view_View_piece [v3, a1, (.int .i64 4)] h4).bind fun v5 h6 =>
 (indexAddrR Prog 31 v5 (.int .i64 0) h6).bindN fun v7 h8 =>
 (loadR Prog 5 v7 h8).bindN fun v9 h10 =>
 (convR Prog 5 3 v9 h10).bindN fun v11 h12 =>
 (binR Prog .shl 3 v11 (.int .u64 24) h12).bindN fun v13 h14 =>
 (indexAddrR Prog 31 v5 (.int .i64 1) h14).bindN fun v15 h16 =>
 (loadR Prog 5 v15 h16).bindN fun v17 h18 =>
 (convR Prog 5 3 v17 h18).bindN fun v19 h20 =>
 (binR Prog .shl 3 v19 (.int .u64 16) h20).bindN fun v21 h22 =>
 (binR Prog .or 3 v13 v21 h22).bindN fun v23 h24 =>
 (indexAddrR Prog 31 v5 (.int .i64 2) h24).bindN fun v25 h26 =>
 (loadR Prog 5 v25 h26).bindN fun v27 h28 =>
 (convR Prog 5 3 v27 h28).bindN fun v29 h30 =>
 (binR Prog .shl 3 v29 (.int .u64 8) h30).bindN fun v31 h32 =>
 (binR Prog .or 3 v23 v31 h32).bindN fun v33 h34 =>
 (indexAddrR Prog 31 v5 (.int .i64 3) h34).bindN fun v35 h36 =>
 (loadR Prog 5 v35 h36).bindN fun v37 h38 =>
 (convR Prog 5 3 v37 h38).bindN fun v39 h40 =>
 (binR Prog .or 3 v33 v39 h40).bindN fun v41 h42 =>
 .ok v41 h42
theorem view_View_U32_R (k : Nat) (a0 a1 : Value) (h : Heap) : R (T k) F.view_View_U32 [a0, a1] h = nrm .gc h (view_View_U32 k (R (T k)) a0 a1 h) :=
 (R_body (t := T k) (T_scott k) (by kernel_rfl) (by kernel_rfl) _ _).trans (by kernel_rfl)
def view_Need (k : Nat) (call : Caller) (a0 : Value) (h : Heap) : Res Value :=
 (unR .not a0 h).bind fun v1 h2 =>
 condV (some v1) (
 (call F.view_Fail [] h2).bind fun v3 h4 =>
 .ok (.tuple #[]) h4)
 (
 .ok (.tuple #[]) h2)
theorem view_Need_R (k : Nat) (a0 : Value) (h : Heap) : R (T k) F.view_Need [a0] h = nrm .gc h (view_Need k (R (T k)) a0 h) :=
 (R_body (t := T k) (T_scott k) (by kernel_rfl) (by kernel_rfl) _ _).trans (by kernel_rfl)
def view_View_U16 (k : Nat) (call : Caller) (a0 a1 : Value) (h : Heap) : Res Value :=
 (boxR a0 h).bind fun v1 h2 =>
 (loadR Prog 75 v1 h2).bind fun v3 h4 =>
 (call F.view_View_piece [v3, a1, (.int .i64 2)] h4).bind fun v5 h6 =>
 (indexAddrR Prog 31 v5 (.int .i64 0) h6).bindN fun v7 h8 =>
 (loadR Prog 5 v7 h8).bindN fun v9 h10 =>
 (convR Prog 5 3 v9 h10).bindN fun v11 h12 =>
 (binR Prog .shl 3 v11 (.int .u64 8) h12).bindN fun v13 h14 =>
 (indexAddrR Prog 31 v5 (.int .i64 1) h14).bindN fun v15 h16 =>
 (loadR Prog 5 v15 h16).bindN fun v17 h18 =>
 (convR Prog 5 3 v17 h18).bindN fun v19 h20 =>
 (binR Prog .or 3 v13 v19 h20).bindN fun v21 h22 =>
 .ok v21 h22
theorem view_View_U16_R (k : Nat) (a0 a1 : Value) (h : Heap) : R (T k) F.view_View_U16 [a0, a1] h = nrm .gc h (view_View_U16 k (R (T k)) a0 a1 h) :=
 (R_body (t := T k) (T_scott k) (by kernel_rfl) (by kernel_rfl) _ _).trans (by kernel_rfl)
def view_View_Rows (k : Nat) (call : Caller) (a0 a1 a2 a3 : Value) (h : Heap) : Res Value :=
 (boxR a0 h).bind fun v1 h2 =>
 (allocR Prog 75 h2).bind fun v3 h4 =>
 (binR Prog .geq 3 a2 (.int .i64 0) h4).bind fun v5 h6 =>
 ((bif wantVal v5 true then Res.ok a3 h6 else Res.ok undef h6)).bind fun v7 h8 =>
 ((bif wantVal v5 true then binR Prog .geq 3 v7 (.int .i64 0) h8 else Res.ok undef h8)).bind fun v9 h10 =>
 (condV (some v5) (Res.ok v9 h10) (Res.ok (.bool false) h10)).bind fun v11 h12 =>
 ((bif wantVal v11 true then Res.ok a3 h12 else Res.ok undef h12)).bind fun v13 h14 =>
 ((bif wantVal v11 true then binR Prog .eql 3 v13 (.int .i64 0) h14 else Res.ok undef h14)).bind fun v15 h16 =>
 ((bif wantVal v11 true then Res.ok v15 h16 else Res.ok undef h16)).bind fun v17 h18 =>
 ((bif wantVal v17 false then Res.ok a2 h18 else Res.ok undef h18)).bind fun v19 h20 =>
 ((bif wantVal v17 false then fieldAddrR Prog 75 v1 0 h20 else Res.ok undef h20)).bind fun v21 h22 =>
 ((bif wantVal v17 false then loadR Prog 31 v21 h22 else Res.ok undef h22)).bind fun v23 h24 =>
 ((bif wantVal v17 false then builtinV Prog .len [31] [v23] h24 else Res.ok undef h24)).bind fun v25 h26 =>
 ((bif wantVal v17 false then Res.ok a3 h26 else Res.ok undef h26)).bind fun v27 h28 =>
 ((bif wantVal v17 false then binR Prog .quo 3 v25 v27 h28 else Res.ok undef h28)).bind fun v29 h30 =>
 ((bif wantVal v17 false then binR Prog .leq 3 v19 v29 h30 else Res.ok undef h30)).bind fun v31 h32 =>
 ((bif wantVal v11 true then condV (some v17) (Res.ok (.bool true) h32) (Res.ok v31 h32) else Res.ok undef h32)).bind fun v33 h34 =>
 (condV (some v11) (Res.ok v33 h34) (Res.ok (.bool false) h34)).bind fun v35 h36 =>
 (call F.view_Need [v35] h36).bind fun v37 h38 =>
 (loadR Prog 75 v1 h38).bind fun v39 h40 =>
 (binR Prog .mul 3 a2 a3 h40).bind fun v41 h42 =>
 (call F.view_View_Cut [v39, a1, v41] h42).bind fun v43 h44 =>
 (storeR Prog 75 v3 v43 h44).bind fun _v45 h46 =>
 (loadR Prog 75 v3 h46).bind fun v47 h48 =>
 .ok v47 h48
theorem view_View_Rows_R (k : Nat) (a0 a1 a2 a3 : Value) (h : Heap) : R (T k) F.view_View_Rows [a0, a1, a2, a3] h = nrm .gc h (view_View_Rows k (R (T k)) a0 a1 a2 a3 h) :=
 (R_body (t := T k) (T_scott k) (by kernel_rfl) (by kernel_rfl) _ _).trans (by kernel_rfl)
def view_View_Cut (k : Nat) (call : Caller) (a0 a1 a2 : Value) (h : Heap) : Res Value :=
 (boxR a0 h).bind fun v1 h2 =>
 (allocR Prog 75 h2).bind fun v3 h4 =>
 (loadR Prog 75 v1 h4).bind fun v5 h6 =>
 (call F.view_View_piece [v5, a1, a2] h6).bind fun v7 h8 =>
 (buildR Prog 75 [(0, v7)] h8).bind fun v9 h10 =>
 (storeR Prog 75 v3 v9 h10).bind fun _v11 h12 =>
 (loadR Prog 75 v3 h12).bind fun v13 h14 =>
 .ok v13 h14
theorem view_View_Cut_R (k : Nat) (a0 a1 a2 : Value) (h : Heap) : R (T k) F.view_View_Cut [a0, a1, a2] h = nrm .gc h (view_View_Cut k (R (T k)) a0 a1 a2 h) :=
 (R_body (t := T k) (T_scott k) (by kernel_rfl) (by kernel_rfl) _ _).trans (by kernel_rfl)
def view_Fail (k : Nat) (call : Caller) (h : Heap) : Res Value :=
 (buildR Prog 190 [] h).bind fun v1 h2 =>
 (ifaceR Prog 190 v1 h2).bind fun v3 h4 =>
 (panicR v3 h4).bind fun _v5 h6 =>
 .ok (.tuple #[]) h6
theorem view_Fail_R (k : Nat) (h : Heap) : R (T k) F.view_Fail [] h = nrm .gc h (view_Fail k (R (T k)) h) :=
 (R_body (t := T k) (T_scott k) (by kernel_rfl) (by kernel_rfl) _ _).trans (by kernel_rfl)
def view_View_piece (k : Nat) (call : Caller) (a0 a1 a2 : Value) (h : Heap) : Res Value :=
 (boxR a0 h).bind fun v1 h2 =>
 (binR Prog .geq 3 a1 (.int .i64 0) h2).bind fun v3 h4 =>
 ((bif wantVal v3 true then Res.ok a2 h4 else Res.ok undef h4)).bind fun v5 h6 =>
 ((bif wantVal v3 true then binR Prog .geq 3 v5 (.int .i64 0) h6 else Res.ok undef h6)).bind fun v7 h8 =>
 (condV (some v3) (Res.ok v7 h8) (Res.ok (.bool false) h8)).bind fun v9 h10 =>
 ((bif wantVal v9 true then Res.ok a1 h10 else Res.ok undef h10)).bind fun v11 h12 =>
 ((bif wantVal v9 true then fieldAddrR Prog 75 v1 0 h12 else Res.ok undef h12)).bind fun v13 h14 =>
 ((bif wantVal v9 true then loadR Prog 31 v13 h14 else Res.ok undef h14)).bind fun v15 h16 =>
 ((bif wantVal v9 true then builtinV Prog .len [31] [v15] h16 else Res.ok undef h16)).bind fun v17 h18 =>
 ((bif wantVal v9 true then binR Prog .leq 3 v11 v17 h18 else Res.ok undef h18)).bind fun v19 h20 =>
 (condV (some v9) (Res.ok v19 h20) (Res.ok (.bool false) h20)).bind fun v21 h22 =>
 ((bif wantVal v21 true then Res.ok a2 h22 else Res.ok undef h22)).bind fun v23 h24 =>
 ((bif wantVal v21 true then fieldAddrR Prog 75 v1 0 h24 else Res.ok undef h24)).bind fun v25 h26 =>
 ((bif wantVal v21 true then loadR Prog 31 v25 h26 else Res.ok undef h26)).bind fun v27 h28 =>
 ((bif wantVal v21 true then builtinV Prog .len [31] [v27] h28 else Res.ok undef h28)).bind fun v29 h30 =>
 ((bif wantVal v21 true then Res.ok a1 h30 else Res.ok undef h30)).bind fun v31 h32 =>
 ((bif wantVal v21 true then binR Prog .sub 3 v29 v31 h32 else Res.ok undef h32)).bind fun v33 h34 =>
 ((bif wantVal v21 true then binR Prog .leq 3 v23 v33 h34 else Res.ok undef h34)).bind fun v35 h36 =>
 (condV (some v21) (Res.ok v35 h36) (Res.ok (.bool false) h36)).bind fun v37 h38 =>
 (call F.view_Need [v37] h38).bind fun v39 h40 =>
 (fieldAddrR Prog 75 v1 0 h40).bind fun v41 h42 =>
 (loadR Prog 31 v41 h42).bind fun v43 h44 =>
 (binR Prog .add 3 a1 a2 h44).bind fun v45 h46 =>
 (binR Prog .add 3 a1 a2 h46).bind fun v47 h48 =>
 (sliceR Prog 31 v43 (some a1) (some v45) (some v47) h48).bind fun v49 h50 =>
 .ok v49 h50
theorem view_View_piece_R (k : Nat) (a0 a1 a2 : Value) (h : Heap) : R (T k) F.view_View_piece [a0, a1, a2] h = nrm .gc h (view_View_piece k (R (T k)) a0 a1 a2 h) :=
 (R_body (t := T k) (T_scott k) (by kernel_rfl) (by kernel_rfl) _ _).trans (by kernel_rfl)
def view_View_U8 (k : Nat) (call : Caller) (a0 a1 : Value) (h : Heap) : Res Value :=
 (boxR a0 h).bind fun v1 h2 =>
 (loadR Prog 75 v1 h2).bind fun v3 h4 =>
 (call F.view_View_piece [v3, a1, (.int .i64 1)] h4).bind fun v5 h6 =>
 (indexAddrR Prog 31 v5 (.int .i64 0) h6).bind fun v7 h8 =>
 (loadR Prog 5 v7 h8).bind fun v9 h10 =>
 (convR Prog 5 3 v9 h10).bind fun v11 h12 =>
 .ok v11 h12
theorem view_View_U8_R (k : Nat) (a0 a1 : Value) (h : Heap) : R (T k) F.view_View_U8 [a0, a1] h = nrm .gc h (view_View_U8 k (R (T k)) a0 a1 h) :=
 (R_body (t := T k) (T_scott k) (by kernel_rfl) (by kernel_rfl) _ _).trans (by kernel_rfl)
end
end Go.Sw
end
section
namespace Go.Sw
open Go.RowKit
abbrev encB (n : Int) : List Value := [.int .u8 n]
theorem encB_len (n : Int) : (encB n).length = 1 := rfl
def Byt (b : List Int) : Prop := ∀ n, n ∈ b → 0 ≤ n ∧ n < 256
abbrev failV : Value := .iface shortT (.agg #[])
abbrev vw (b : List Int) : Value := .agg #[lv encB b]
def orF {α : Type} (o : Option α) (f : α → Value) (H : Heap) : Res Value := match o with
 | some a => .ok (f a) H
 | none => .panic failV H
@[simp] theorem orF_some {α : Type} (a : α) (f : α → Value) (H : Heap) : orF (some a) f H = .ok (f a) H := rfl
@[simp] theorem orF_none {α : Type} (f : α → Value) (H : Heap) : orF (none : Option α) f H = .panic failV H := rfl
def pieceS (b : List Int) (i n : Int) : Option (List Int) := if 0 ≤ i ∧ 0 ≤ n ∧ i ≤ b.length ∧ n ≤ b.length - i then some ((b.drop i.toNat).take n.toNat) else none
def num (l : List Int) : Int := l.foldl (fun x y => 256 * x + y) 0
def uS (b : List Int) (i n : Int) : Option Int := (pieceS b i n).map num
theorem Byt.piece {b : List Int} (h : Byt b) {i n : Int} {l : List Int} (hl : pieceS b i n = some l) : Byt l ∧ (l.length : Int) = n := by
 unfold pieceS at hl;split at hl
 ·rename_i hc;injection hl with hl; subst hl;refine ⟨fun x hx => h x (List.mem_of_mem_drop (List.mem_of_mem_take hx)), ?_⟩;simp;omega
 ·cases hl
theorem Flat.fail : Flat failV := .iface _ _ (.aggL .nil)
theorem Flat.unit : Flat (.tuple #[]) := .tupleL .nil
theorem Flat.B (b : List Int) : Flat (Go.Sw.lv encB b) := .lv fun n _ => .cons (.int _ _) .nil
theorem Flat.vw (b : List Int) : Flat (Go.Sw.vw b) := .aggL (.cons (.B b) .nil)
@[simp] theorem Fail_run (k : Nat) (H : Heap) : R (T k) F.view_Fail [] H = .panic failV H := by
 rw [view_Fail_R];refine nrm_throw ⟨H, ?_, Ext.refl H⟩ Flat.fail.alive;simp -implicitDefEqProofs [view_Fail]
theorem Need_true (k : Nat) (H : Heap) : R (T k) F.view_Need [.bool true] H = .ok (.tuple #[]) H := by
 rw [view_Need_R];refine nrm_gc (Pure.of ?_) Flat.unit.alive;simp -implicitDefEqProofs [view_Need]
theorem Need_false (k : Nat) (H : Heap) : R (T k) F.view_Need [.bool false] H = .panic failV H := by
 rw [view_Need_R];refine nrm_throw ⟨H, ?_, Ext.refl H⟩ Flat.fail.alive;simp -implicitDefEqProofs [view_Need]
attribute [simp] Need_true Need_false
theorem pieceS_sl {H : Heap} {v : Value} {b l : List Int} (hv : Sl H 1 v encB b) {i n : Int} (h : pieceS b i n = some l) : Sl H 1 (subV 1 v i.toNat n.toNat) encB l := by
 unfold pieceS at h;split at h
 ·injection h with h; subst h;exact (hv.sub encB_len .i64 .i64 .i64 i.toNat n.toNat (by omega)).2
 ·cases h
theorem piece_run (k : Nat) {H : Heap} {v : Value} {b : List Int} (hv : Sl H 1 v encB b) (i n : Int) (hl : b.length < 2 ^ 62) : R (T k) F.view_View_piece [.agg #[v], .int .i64 i, .int .i64 n] H = orF (pieceS b i n) (fun _ => subV 1 v i.toNat n.toNat) H := by
 rw [view_View_piece_R];have bx : ∀ H : Heap, boxR (.agg #[v]) H = newP [v] H := fun _ => rfl;have hlen := hv.len;by_cases h1 : 0 ≤ i
 ·by_cases h2 : 0 ≤ n
  ·by_cases h3 : i ≤ b.length
   ·by_cases h4 : n ≤ b.length - i
    ·have hp : pieceS b i n = some ((b.drop i.toNat).take n.toNat) := by rw [pieceS, if_pos ⟨h1, h2, h3, h4⟩]
     rw [hp];obtain ⟨i', rfl⟩ := Int.eq_ofNat_of_zero_le h1;obtain ⟨n', rfl⟩ := Int.eq_ofNat_of_zero_le h2;rw [Int.toNat_natCast, Int.toNat_natCast];obtain ⟨hs, hs2⟩ := hv.sub encB_len .i64 .i64 .i64 i' n' (by omega);have hs := hs _ ((Ext.refl H).push ⟨[v], 1, false⟩);rw [show (((i' + n' : Nat) : Nat) : Int) = (i' : Int) + n' by omega] at hs;refine nrm_gc ⟨H.push ⟨[v], 1, false⟩, ?_, (Ext.refl H).push _⟩ (hs2.alive fun _ _ => .cons (.int _ _) .nil);simp -implicitDefEqProofs (disch := omega) [view_View_piece, bx, hlen, h3, h4, hs]
    ·have hp : pieceS b i n = none := by rw [pieceS, if_neg (fun h => h4 h.2.2.2)]
     rw [hp];refine nrm_throw ⟨H.push ⟨[v], 1, false⟩, ?_, (Ext.refl H).push _⟩ Flat.fail.alive;simp -implicitDefEqProofs (disch := omega) [view_View_piece, bx, hlen, h1, h2, h3, h4]
   ·have hp : pieceS b i n = none := by rw [pieceS, if_neg (fun h => h3 h.2.2.1)]
    rw [hp];refine nrm_throw ⟨H.push ⟨[v], 1, false⟩, ?_, (Ext.refl H).push _⟩ Flat.fail.alive;simp -implicitDefEqProofs (disch := omega) [view_View_piece, bx, hlen, h1, h2, h3]
  ·have hp : pieceS b i n = none := by rw [pieceS, if_neg (fun h => h2 h.2.1)]
   rw [hp];refine nrm_throw ⟨H.push ⟨[v], 1, false⟩, ?_, (Ext.refl H).push _⟩ Flat.fail.alive;simp -implicitDefEqProofs (disch := omega) [view_View_piece, bx, hlen, h1, h2]
 ·have hp : pieceS b i n = none := by rw [pieceS, if_neg (fun h => h1 h.1)]
  rw [hp];refine nrm_throw ⟨H.push ⟨[v], 1, false⟩, ?_, (Ext.refl H).push _⟩ Flat.fail.alive;simp -implicitDefEqProofs (disch := omega) [view_View_piece, bx, hlen, h1]
theorem pieceS_len {b : List Int} {i n : Int} {l : List Int} (h : pieceS b i n = some l) : (l.length : Int) = n := by
 unfold pieceS at h;split at h
 ·injection h with h; subst h;simp;omega
 ·cases h
theorem boxR_vw (v : Value) (H : Heap) : boxR (.agg #[v]) H = newP [v] H := rfl
theorem two_of {l : List Int} (h : (l.length : Int) = 2) : ∃ x y, l = [x, y] := by
 match l, h with
 | [x, y], _ => exact ⟨x, y, rfl⟩
theorem four_of {l : List Int} (h : (l.length : Int) = 4) : ∃ x y z u, l = [x, y, z, u] := by
 match l, h with
 | [x, y, z, u], _ => exact ⟨x, y, z, u, rfl⟩
theorem one_of {l : List Int} (h : (l.length : Int) = 1) : ∃ x, l = [x] := by
 match l, h with
 | [x], _ => exact ⟨x, rfl⟩
theorem U16_run (k : Nat) {H : Heap} {v : Value} {b : List Int} (hv : Sl H 1 v encB b) (hb : Byt b) (i : Int) (hl : b.length < 2 ^ 62) : R (T k) F.view_View_U16 [.agg #[v], .int .i64 i] H = orF (uS b i 2) (.int .i64) H := by
 rw [view_View_U16_R];have hx1 : Ext H (H.push ⟨[v], 1, false⟩) := (Ext.refl H).push _;have hp := piece_run k (hv.up hx1) i 2 hl;unfold uS;cases h : pieceS b i 2 with
 | none =>
  rw [h] at hp;refine nrm_throw ⟨_, ?_, hx1⟩ Flat.fail.alive;simp -implicitDefEqProofs (disch := omega) [view_View_U16, hp]
 | some l =>
  have hsl := pieceS_sl (hv.up hx1) h;generalize subV 1 v i.toNat (2 : Int).toNat = v' at hp hsl;obtain ⟨x, y, rfl⟩ := two_of (pieceS_len h);rw [h] at hp;have hx := (hb.piece h).1 x (by simp);have hy := (hb.piece h).1 y (by simp);obtain ⟨p0, i0, d0⟩ := hsl.ix1 encB_len 0 x rfl _ rfl;obtain ⟨p1, i1, d1⟩ := hsl.ix1 encB_len 1 y rfl _ rfl;have i0 : ∀ H', ixS 1 v' (.int .i64 0) H' = .ok p0 H' := i0 .i64;have i1 : ∀ H', ixS 1 v' (.int .i64 1) H' = .ok p1 H' := i1 .i64;have d0 := d0 _ (Ext.refl _);have d1 := d1 _ (Ext.refl _);refine nrm_gc ⟨_, ?_, hx1⟩ (.int _ _);have or1 := fun H => bin_or Prog 3 H (x * 256) y 8 (by omega) (by omega) (by omega) (by omega) (by omega);simp -implicitDefEqProofs (disch := omega) [view_View_U16, hp, i0, i1, d0, d1, or1, num];omega
theorem U8_run (k : Nat) {H : Heap} {v : Value} {b : List Int} (hv : Sl H 1 v encB b) (hb : Byt b) (i : Int) (hl : b.length < 2 ^ 62) : R (T k) F.view_View_U8 [.agg #[v], .int .i64 i] H = orF (uS b i 1) (.int .i64) H := by
 rw [view_View_U8_R];have hx1 : Ext H (H.push ⟨[v], 1, false⟩) := (Ext.refl H).push _;have hp := piece_run k (hv.up hx1) i 1 hl;unfold uS;cases h : pieceS b i 1 with
 | none =>
  rw [h] at hp;refine nrm_throw ⟨_, ?_, hx1⟩ Flat.fail.alive;simp -implicitDefEqProofs (disch := omega) [view_View_U8, hp]
 | some l =>
  have hsl := pieceS_sl (hv.up hx1) h;generalize subV 1 v i.toNat (1 : Int).toNat = v' at hp hsl;obtain ⟨x, rfl⟩ := one_of (pieceS_len h);rw [h] at hp;have hx := (hb.piece h).1 x (by simp);obtain ⟨p0, i0, d0⟩ := hsl.ix1 encB_len 0 x rfl _ rfl;have i0 : ∀ H', ixS 1 v' (.int .i64 0) H' = .ok p0 H' := i0 .i64;have d0 := d0 _ (Ext.refl _);refine nrm_gc ⟨_, ?_, hx1⟩ (.int _ _);simp -implicitDefEqProofs (disch := omega) [view_View_U8, hp, i0, d0, num]
theorem U32_run (k : Nat) {H : Heap} {v : Value} {b : List Int} (hv : Sl H 1 v encB b) (hb : Byt b) (i : Int) (hl : b.length < 2 ^ 62) : R (T k) F.view_View_U32 [.agg #[v], .int .i64 i] H = orF (uS b i 4) (.int .i64) H := by
 rw [view_View_U32_R];have hx1 : Ext H (H.push ⟨[v], 1, false⟩) := (Ext.refl H).push _;have hp := piece_run k (hv.up hx1) i 4 hl;unfold uS;cases h : pieceS b i 4 with
 | none =>
  rw [h] at hp;refine nrm_throw ⟨_, ?_, hx1⟩ Flat.fail.alive;simp -implicitDefEqProofs (disch := omega) [view_View_U32, hp]
 | some l =>
  have hsl := pieceS_sl (hv.up hx1) h;generalize subV 1 v i.toNat (4 : Int).toNat = v' at hp hsl;obtain ⟨x, y, z, u, rfl⟩ := four_of (pieceS_len h);rw [h] at hp;have hx := (hb.piece h).1 x (by simp);have hy := (hb.piece h).1 y (by simp);have hz := (hb.piece h).1 z (by simp);have hu := (hb.piece h).1 u (by simp);obtain ⟨p0, i0, d0⟩ := hsl.ix1 encB_len 0 x rfl _ rfl;have i0 : ∀ H', ixS 1 v' (.int .i64 0) H' = .ok p0 H' := i0 .i64;have d0 := d0 _ (Ext.refl _);obtain ⟨p1, i1, d1⟩ := hsl.ix1 encB_len 1 y rfl _ rfl;have i1 : ∀ H', ixS 1 v' (.int .i64 1) H' = .ok p1 H' := i1 .i64;have d1 := d1 _ (Ext.refl _);obtain ⟨p2, i2, d2⟩ := hsl.ix1 encB_len 2 z rfl _ rfl;have i2 : ∀ H', ixS 1 v' (.int .i64 2) H' = .ok p2 H' := i2 .i64;have d2 := d2 _ (Ext.refl _);obtain ⟨p3, i3, d3⟩ := hsl.ix1 encB_len 3 u rfl _ rfl;have i3 : ∀ H', ixS 1 v' (.int .i64 3) H' = .ok p3 H' := i3 .i64;have d3 := d3 _ (Ext.refl _);refine nrm_gc ⟨_, ?_, hx1⟩ (.int _ _);have or1 := fun H => bin_or Prog 3 H (x * 16777216) (y * 65536) 24 (by omega) (by omega) (by omega) (by omega) (by omega);have or2 := fun H => bin_or Prog 3 H (x * 16777216 + y * 65536) (z * 256) 16 (by omega) (by omega) (by omega) (by omega) (by omega);have or3 := fun H => bin_or Prog 3 H (x * 16777216 + y * 65536 + z * 256) u 8 (by omega) (by omega) (by omega) (by omega) (by omega);simp -implicitDefEqProofs (disch := omega) [view_View_U32, hp, i0, i1, i2, i3, d0, d1, d2, d3, or1, or2, or3, num];omega
theorem uS_two {b : List Int} (hb : Byt b) {i x : Int} (h : uS b i 2 = some x) : 0 ≤ x ∧ x < 65536 := by
 unfold uS at h;obtain ⟨l, hl, rfl⟩ := Option.map_eq_some_iff.1 h;obtain ⟨x, y, rfl⟩ := two_of (pieceS_len hl);have hx := (hb.piece hl).1 x (by simp);have hy := (hb.piece hl).1 y (by simp);simp [num];omega
theorem uS_four {b : List Int} (hb : Byt b) {i x : Int} (h : uS b i 4 = some x) : 0 ≤ x ∧ x < 4294967296 := by
 unfold uS at h;obtain ⟨l, hl, rfl⟩ := Option.map_eq_some_iff.1 h;obtain ⟨x, y, z, u, rfl⟩ := four_of (pieceS_len hl);have hx := (hb.piece hl).1 x (by simp);have hy := (hb.piece hl).1 y (by simp);have hz := (hb.piece hl).1 z (by simp);have hu := (hb.piece hl).1 u (by simp);simp [num];omega
theorem Cut_run (k : Nat) {H : Heap} {v : Value} {b : List Int} (hv : Sl H 1 v encB b) (i n : Int) (hl : b.length < 2 ^ 62) : R (T k) F.view_View_Cut [.agg #[v], .int .i64 i, .int .i64 n] H = orF (pieceS b i n) (fun _ => .agg #[subV 1 v i.toNat n.toNat]) H := by
 rw [view_View_Cut_R];have hx2 : Ext H ((H.push ⟨[v], 1, false⟩).push ⟨[.slice none 0 0], 1, false⟩) := ((Ext.refl H).push _).push _;have hp := piece_run k (hv.up hx2) i n hl;cases h : pieceS b i n with
 | none =>
  rw [h] at hp;refine nrm_throw ⟨_, ?_, hx2⟩ Flat.fail.alive;simp -implicitDefEqProofs (disch := omega) [view_View_Cut, hp]
 | some l =>
  rw [h] at hp;have hs := pieceS_sl hv h;generalize subV 1 v i.toNat n.toNat = v' at hp hs ⊢;refine nrm_gc ⟨_, ?_, ((Ext.refl H).push ⟨[v], 1, false⟩).push ⟨[v'], 1, false⟩⟩ (.agg _ fun i u hu => ?_)
  ·simp -implicitDefEqProofs (disch := omega) [view_View_Cut, hp, hs.storable, hs.cells]
  ·match i, hu with
   | 0, hu => simp at hu; subst hu; exact hs.alive fun _ _ => .cons (.int _ _) .nil
   | i + 1, hu => simp at hu
theorem alive_agg {H : Heap} {v : Value} (h : Alive H v) : Alive H (.agg #[v]) := .agg _ fun i u hu => by
 match i, hu with
 | 0, hu => simp at hu; subst hu; exact h
 | i + 1, hu => simp at hu
theorem Sl.vw {H : Heap} {v : Value} {b : List Int} (hv : Sl H 1 v encB b) : Alive H (.agg #[v]) := alive_agg (hv.alive fun _ _ => .cons (.int _ _) .nil)
def behind (b : List Int) (i : Int) : Int := if 0 > IntKind.i64.wrap ((b.length : Int) - i) then 0 else IntKind.i64.wrap ((b.length : Int) - i)
def rowsS (b : List Int) (i n s : Int) : Option (List Int) := if 0 ≤ n ∧ 0 ≤ s ∧ (s = 0 ∨ n ≤ (b.length : Int) / s) then pieceS b i (n * s) else none
theorem rowsS_piece {b : List Int} {i n s : Int} {l : List Int} (h : rowsS b i n s = some l) : pieceS b i (n * s) = some l := by
 unfold rowsS at h;split at h
 ·exact h
 ·cases h
theorem Rows_run (k : Nat) {H : Heap} {v : Value} {b : List Int} (hv : Sl H 1 v encB b) (i n s : Int) (hl : b.length < 2 ^ 62) : R (T k) F.view_View_Rows [.agg #[v], .int .i64 i, .int .i64 n, .int .i64 s] H = orF (rowsS b i n s) (fun _ => .agg #[subV 1 v i.toNat (n * s).toNat]) H := by
 rw [view_View_Rows_R];have ext : Ext H ((H.push ⟨[v], 1, false⟩).push ⟨[.slice none 0 0], 1, false⟩) := ((Ext.refl H).push _).push _;have hlen := hv.len;by_cases h1 : 0 ≤ n
 ·by_cases h2 : 0 ≤ s
  ·have hcut := Cut_run k (hv.up ext) i (n * s) hl;by_cases h3 : s = 0
   ·subst h3;have e : rowsS b i n 0 = pieceS b i (n * 0) := by rw [rowsS, if_pos ⟨h1, h2, .inl rfl⟩]
    rw [e];cases h : pieceS b i (n * 0) with
    | none =>
     rw [h] at hcut;rw [Int.mul_zero] at hcut;refine nrm_throw ⟨_, ?_, ext⟩ Flat.fail.alive;simp -implicitDefEqProofs (disch := omega) [view_View_Rows, h1, hcut]
    | some l =>
     have hs := pieceS_sl hv h;rw [h] at hcut;generalize subV 1 v i.toNat (n * 0).toNat = v' at hcut hs ⊢;rw [Int.mul_zero] at hcut;refine nrm_gc ⟨_, ?_, ((Ext.refl H).push ⟨[v], 1, false⟩).push ⟨[v'], 1, false⟩⟩ hs.vw;simp -implicitDefEqProofs (disch := omega) [view_View_Rows, h1, hcut]
   ·have hq : ((b.length : Int).tdiv s) = (b.length : Int) / s := Int.tdiv_eq_ediv_of_nonneg (by omega);have hq0 : 0 ≤ (b.length : Int) / s := Int.ediv_nonneg (by omega) h2;have hq1 : (b.length : Int) / s ≤ b.length := Int.ediv_le_self _ (by omega);have hb3 : (s == 0) = false := by simpa using h3
    have qr := fun H => bin_quo Prog 3 H .i64 (b.length : Int) s h3;rw [hq] at qr;by_cases h4 : n ≤ (b.length : Int) / s
    ·have e : rowsS b i n s = pieceS b i (n * s) := by rw [rowsS, if_pos ⟨h1, h2, .inr h4⟩]
     have hm : n * s ≤ b.length := Int.le_trans (Int.mul_le_mul_of_nonneg_right h4 h2) (Int.ediv_mul_le _ h3);have hm0 : 0 ≤ n * s := Int.mul_nonneg h1 h2;rw [e];cases h : pieceS b i (n * s) with
     | none =>
      rw [h] at hcut;refine nrm_throw ⟨_, ?_, ext⟩ Flat.fail.alive;simp -implicitDefEqProofs (disch := omega) [view_View_Rows, hlen, h1, h2, hb3, qr, h4, hcut]
     | some l =>
      have hs := pieceS_sl hv h;rw [h] at hcut;generalize subV 1 v i.toNat (n * s).toNat = v' at hcut hs ⊢;refine nrm_gc ⟨_, ?_, ((Ext.refl H).push ⟨[v], 1, false⟩).push ⟨[v'], 1, false⟩⟩ hs.vw;simp -implicitDefEqProofs (disch := omega) [view_View_Rows, hlen, h1, h2, hb3, qr, h4, hcut]
    ·have e : rowsS b i n s = none := by rw [rowsS, if_neg (by omega)]
     rw [e];refine nrm_throw ⟨_, ?_, ext⟩ Flat.fail.alive;simp -implicitDefEqProofs (disch := omega) [view_View_Rows, hlen, h1, h2, hb3, qr, h4]
  ·have e : rowsS b i n s = none := by rw [rowsS, if_neg (by omega)]
   rw [e];refine nrm_throw ⟨_, ?_, ext⟩ Flat.fail.alive;simp -implicitDefEqProofs (disch := omega) [view_View_Rows, h1, h2]
 ·have e : rowsS b i n s = none := by rw [rowsS, if_neg (by omega)]
  rw [e];refine nrm_throw ⟨_, ?_, ext⟩ Flat.fail.alive;simp -implicitDefEqProofs (disch := omega) [view_View_Rows, h1]
theorem Of_run (k : Nat) {H : Heap} {v : Value} {b : List Int} (hv : Sl H 1 v encB b) : R (T k) F.view_Of [v] H = .ok (.agg #[v]) H := by
 rw [view_Of_R];refine nrm_gc ⟨_, ?_, (Ext.refl H).push ⟨[v], 1, false⟩⟩ hv.vw;simp -implicitDefEqProofs [view_Of, hv.storable, hv.cells]
end Go.Sw
end
section
namespace Go.Sw
open Go.RowKit
@[simp] theorem neb_4 (a b : Bool) (h : Heap) : binR Prog .neq 4 (.bool a) (.bool b) h = .ok (.bool (a != b)) h := by cases a <;> cases b <;> kernel_rfl
@[simp] theorem eqb_4 (a b : Bool) (h : Heap) : binR Prog .eql 4 (.bool a) (.bool b) h = .ok (.bool (a == b)) h := by cases a <;> cases b <;> kernel_rfl
section
variable {α β γ δ : Type} {E : Heap → Prop} {o : Option β} {f : β → Value} {r : Res Value} {H : Heap} {Q : δ → γ → Heap → Prop}
theorem Cp.call {K : Value → Heap → Res γ} {g : β → Option δ} (hr : r = orF o f H) (hE : E H) (hk : ∀ b, o = some b → Cp failV E (K (f b) H) (g b) Q) : Cp failV E (r.bind K) (o.bind g) Q := by
 subst hr;cases o with
 | none => exact ⟨H, rfl, hE⟩
 | some b => exact hk b rfl
theorem Cp.callM {K : Value → Heap → Res γ} {g : β → δ} (hr : r = orF o f H) (hE : E H) (hk : ∀ b, o = some b → Cp failV E (K (f b) H) (some (g b)) Q) : Cp failV E (r.bind K) (o.map g) Q := by
 subst hr;cases o with
 | none => exact ⟨H, rfl, hE⟩
 | some b => exact hk b rfl
theorem Cp.callL {Q : β → γ → Heap → Prop} {K : Value → Heap → Res γ} (hr : r = orF o f H) (hE : E H) (hk : ∀ b, o = some b → Cp failV E (K (f b) H) (some b) Q) : Cp failV E (r.bind K) o Q := by
 subst hr;cases o with
 | none => exact ⟨H, rfl, hE⟩
 | some b => exact hk b rfl
theorem Cp.callT {G : Value → Heap → Res γ} {K : Value → Heap → Res γ} {g : β → Option δ} (hr : r = orF o f H) (hp : o = none → ∃ H', G failV H = .panic failV H' ∧ E H') (hk : ∀ b, o = some b → Cp failV E (K (f b) H) (g b) Q) : Cp failV E (r.bindT G K) (o.bind g) Q := by
 subst hr;cases o with
 | none => exact hp rfl
 | some b => exact hk b rfl
theorem Cp.callTM {G : Value → Heap → Res γ} {K : Value → Heap → Res γ} {g : β → δ} (hr : r = orF o f H) (hp : o = none → ∃ H', G failV H = .panic failV H' ∧ E H') (hk : ∀ b, o = some b → Cp failV E (K (f b) H) (some (g b)) Q) : Cp failV E (r.bindT G K) (o.map g) Q := by
 subst hr;cases o with
 | none => exact hp rfl
 | some b => exact hk b rfl
theorem Cp.need {k : Nat} {p : Prop} [Decidable p] {K : Value → Heap → Res γ} {g : Option δ} (hE : E H) (hk : p → Cp failV E (K (.tuple #[]) H) g Q) : Cp failV E ((R (T k) F.view_Need [.bool (decide p)] H).bind K) (if p then g else none) Q := by
 by_cases h : p
 ·rw [if_pos h, decide_eq_true h, Need_true];exact hk h
 ·rw [if_neg h, decide_eq_false h, Need_false];exact ⟨H, rfl, hE⟩
end
section
variable {β : Type} {H : Heap} {r : Res Value} {o : Option β} {f : β → Value}
theorem gc_orF (h : Cp failV (Ext H) r o fun b v _ => v = f b) (ha : ∀ b, o = some b → Alive H (f b)) : nrm .gc H r = orF o f H := by
 rw [nrm_gc_cp h ha Flat.fail.alive];cases o <;> rfl
theorem fz_orF (h : Cp failV (Ext H) r o fun b v H' => ∃ L, fzV H.n H' fzDepth v = some (f b, L)) (ha : ∀ b, o = some b → Alive H (f b)) : nrm .fz H r = orF o f H := by
 rw [nrm_fz_cp h ha Flat.fail.alive];cases o <;> rfl
end
end Go.Sw
end
section
namespace Go.Sw
open Go.RowKit
theorem iv1_get {len : Nat} {cs : Array Value} {k : IntKind} {j : Nat} {v : Value} (hj : j < len) (h : cs[j]? = some v) (H : Heap) : iv1 len 1 (.agg cs) (.int k (j : Nat)) H = .ok v H := by
 unfold iv1;dsimp only;rw [if_pos ⟨by omega, by omega⟩, Int.toNat_natCast, Nat.mul_one, h];rfl
section
variable {α : Type} {enc : α → List Value}
theorem Star.stRow {H0 H : Heap} {L : List It} (h : Star H0 H L) (i : Nat) {b m : Nat} {s : Value} {l : List α} (hi : L[i]? = some (itRow (some b) m s enc l)) (he : ∀ x, (enc x).length = m) {j c n : Nat} {x : α} (y : α) {v : Value} (hx : l[j]? = some x)
  (hn : v.cells.size = n) (hs : storable v = true) (hc : c + n ≤ m) (hy : enc y = splice (enc x) c v.cells.toList) :
  ∃ H', stR n (.pointer (some ⟨b, j * m + c, none⟩)) v H = .ok undef H' ∧ Star H0 H' (L.set i (itRow (some b) m s enc (l.set j y))) ∧ H'.n = H.n := by
 rcases h.row i hi with ⟨h0, _⟩ | ⟨b', h0, h1, h2⟩
 ·cases h0
 ·injection h0 with h0;subst h0;obtain ⟨H', e1, e2, e3, e4⟩ := st_row he h2 y hx hn hs hc hy;exact ⟨H', e1, h.step i hi (by omega) (fun d _ hd => e3 d fun e => hd (show d ∈ [b] from List.mem_singleton.2 e)) _ (.inr ⟨b, rfl, by rw [List.length_set]; exact h1, e2⟩) fun b hb => .inl hb, e4⟩
theorem Star.stBox {H0 H : Heap} {L : List It} (h : Star H0 H L) (i : Nat) {p b m : Nat} {pre : List Value} {l : List α} (hi : L[i]? = some (itBox p pre (some b) m enc l)) (he : ∀ x, (enc x).length = m) {j c n : Nat} {x : α} (y : α) {v : Value} (hx : l[j]? = some x)
  (hn : v.cells.size = n) (hs : storable v = true) (hc : c + n ≤ m) (hy : enc y = splice (enc x) c v.cells.toList) :
  ∃ H', stR n (.pointer (some ⟨b, j * m + c, none⟩)) v H = .ok undef H' ∧ Star H0 H' (L.set i (itBox p pre (some b) m enc (l.set j y))) ∧ H'.n = H.n := by
 obtain ⟨hne, s, g1, g2⟩ := h.box i hi;rcases g2 with ⟨h0, _⟩ | ⟨b', h0, h1, h2⟩
 ·cases h0
 ·injection h0 with h0;subst h0;obtain ⟨H', e1, e2, e3, e4⟩ := st_row he h2 y hx hn hs hc hy;refine ⟨H', e1, h.step i hi (by omega) (fun d _ hd => e3 d fun e => hd (show d ∈ [p, b] from by rw [e]; simp)) _ ⟨hne, s, ?_, .inr ⟨b, rfl, by rw [List.length_set]; exact h1, e2⟩⟩ (fun b hb => .inl hb), e4⟩;rw [e3 p fun e => hne (by rw [e])];exact g1
theorem Star.ix {H0 H : Heap} {L : List It} (h : Star H0 H L) (i : Nat) {o : Option Nat} {m : Nat} {s : Value} {l : List α} (hi : L[i]? = some (itRow o m s enc l)) (k : IntKind) (j : Nat) (hj : j < l.length) :
  ∃ b, o = some b ∧ H.get b = some ⟨rows enc l, m, false⟩ ∧ ∀ H', ixS m s (.int k j) H' = .ok (.pointer (some ⟨b, j * m, none⟩)) H' := by
 obtain ⟨b, h1, _, h3, h4⟩ := (h.row i hi).ix k j hj;exact ⟨b, h1, h3, h4⟩
end
section
variable {α : Type} {enc : α → List Value}
theorem Sl.lenL {H : Heap} {m : Nat} {v : Value} {l : List α} (h : Sl H m v enc l) : Go.Sw.lenL v = some l.length := by
 rcases h with rfl | ⟨rfl, rfl | rfl | rfl⟩ | ⟨b, off, cap, k, rfl, _⟩ <;> rfl
theorem Sl.first {H : Heap} {m : Nat} {v : Value} {l : List α} (he : ∀ x, (enc x).length = m) (h : Sl H m v enc l) : firstV m l.length v H = some (rows enc l) := by
 rcases h with rfl | ⟨rfl, rfl | rfl | rfl⟩ | ⟨b, off, cap, k, rfl, hc, hk, hr⟩
 ·exact lv_first he l H
 ·rfl
 ·rfl
 ·rfl
 ·unfold firstV;dsimp only;have hl := rows_length he l;split
  ·rename_i h0;rw [List.length_eq_zero_iff.1 (hl.trans h0)]
  ·rename_i h0;rw [cellsAt_eq, hk, Option.bind_some, hr, if_pos];have := congrArg List.length hr;rw [hl] at this;simp at this;omega
theorem Sl.rd {H : Heap} {m : Nat} (hm : 0 < m) {v : Value} {l : List α} (he : ∀ x, (enc x).length = m) (h : Sl H m v enc l) : Rd H m v enc l := by
 have hlen := h.len;rcases h with rfl | ⟨rfl, _⟩ | ⟨b, off, cap, k, rfl, hc, hk, hr⟩
 ·exact Rd.lv he H l
 ·exact ⟨hlen, fun i x hx => by simp at hx⟩
 ·refine ⟨hlen, fun i x hx => ?_⟩;have hi := (List.getElem?_eq_some_iff.1 hx).1;refine ⟨.pointer (some ⟨b, off + i * m, none⟩), fun k H' => ixS_slice m b off l.length cap k i H' hi, ?_⟩;have hl := rows_length he l;have hle : i * m + m ≤ l.length * m := by rw [← Nat.succ_mul]; exact Nat.mul_le_mul_right _ hi
  have hkl := congrArg List.length hr;rw [hl] at hkl;have hpos : 0 < l.length * m := Nat.mul_pos (by omega) hm;rw [List.length_take, List.length_drop] at hkl;have hfit : off + i * m + m ≤ k.cells.length := by omega
  simp only [ldA_ptr, hk, Option.bind_some];rw [if_pos hfit];have := rows_at he l i x hx;rw [← hr, List.drop_take, List.take_take, List.drop_drop] at this;rw [show min m (l.length * m - i * m) = m by omega] at this;rw [this];rfl
theorem clone_sl {m bytes : Nat} (he : ∀ x, (enc x).length = m) {H : Heap} {v : Value} {l : List α} (h : Sl H m v enc l) (h31 : l.length ≤ 2 ^ 31) (hby : bytes ≤ 2 ^ 10) :
  ∃ s' H', cloneV m bytes [v] H = .ok s' H' ∧ Own H H' m s' enc l ∧ Ext H H' := by
 unfold cloneV;dsimp only;rw [h.lenL];cases hl : l.length with
 | zero =>
  have := List.length_eq_zero_iff.1 hl;subst this;exact ⟨_, _, rfl, .inl ⟨rfl, .inr (.inr rfl)⟩, Ext.refl H⟩
 | succ n =>
  obtain ⟨s', H', h1, h2, h3, _⟩ := apR_own (bytes := bytes) he (Own.bare H H m) (Ext.refl H) (b := v) (l2 := l) (lenL_lenV h.lenL) (h.first he) (by simp; omega) hby;exact ⟨s', H', h1, by simpa using h2, h3⟩
theorem Star.more_own {H0 H H' : Heap} {L : List It} (h : Star H0 H L) {m : Nat} {s : Value} {l : List α} (ho : Own H H' m s enc l) (he : Ext H H') : ∃ o, Star H0 H' (L ++ [itRow o m s enc l]) := by
 obtain ⟨o, h1, h2⟩ := ho.toO;exact ⟨o, h.more_row he h1 fun b hb => ⟨h2 b hb, h1.lt b hb⟩⟩
end
theorem at2_0 (L : List It) (a b : It) : (L ++ [a, b])[L.length]? = some a := by simp
theorem at2_1 (L : List It) (a b : It) : (L ++ [a, b])[L.length + 1]? = some b := by rw [List.getElem?_append_right (by omega)]; simp
theorem set2_0 (L : List It) (a b x : It) : (L ++ [a, b]).set L.length x = L ++ [x, b] := by rw [List.set_append_right _ _ (by omega)]; simp
theorem set2_1 (L : List It) (a b x : It) : (L ++ [a, b]).set (L.length + 1) x = L ++ [a, x] := by rw [List.set_append_right _ _ (by omega)]; simp
theorem take_snoc {α : Type} {l : List α} {j : Nat} {p : α} (h : l[j]? = some p) : l.take (j + 1) = l.take j ++ [p] := by
 rw [List.take_add_one, h]; rfl
theorem nrm_of {H H' : Heap} {r : Res Value} {v : Value} (h : r = .ok v H') : nrm .no H r = .ok v H' := by rw [h]; rfl
theorem Star.join2 {α : Type} {enc : α → List Value} {H0 H : Heap} {L : List It} {o : Option Nat} {m c : Nat} {s : Value} {l : List α} (pre : List Value) (h : Star H0 H (L ++ [itRow o m s enc l, itBlk c ⟨pre ++ [s], 1, false⟩])) : Star H0 H (L ++ [itBox c pre o m enc l]) := by
 have g := h.join L.length (L.length + 1) (L.length + 1) (by omega) (by omega) (at2_0 _ _ _) (at2_1 _ _ _);rw [show L ++ [itRow o m s enc l, itBlk c ⟨pre ++ [s], 1, false⟩] = (L ++ [itRow o m s enc l]) ++ [itBlk c ⟨pre ++ [s], 1, false⟩] by simp, List.take_left' (by simp), set_at_end] at g;exact g
theorem mapF_one {f : Value → Option (Value × List Nat)} {v u : Value} {L : List Nat} (h : f v = some (u, L)) : mapF f [v] = some ([u], L) := by
 have := mapF_cons (f := f) h mapF_nil;simpa using this
end Go.Sw
end
section
set_option maxRecDepth 100000
set_option linter.unusedVariables false
namespace Go.Sw
noncomputable section
def line_Line_Turn (k : Nat) (call : Caller) (a0 : Value) (h : Heap) : Res Value :=
 (nilR a0 h).bind fun v1 h2 =>
 (fieldAddrR Prog 164 v1 0 h2).bind fun v3 h4 =>
 (loadR Prog 22 v3 h4).bind fun v5 h6 =>
 (call F.slices_Reverse_of_api_Glyph_api_Glyph [v5] h6).bind fun v7 h8 =>
 .ok (.tuple #[]) h8
theorem line_Line_Turn_R (k : Nat) (a0 : Value) (h : Heap) : R (T k) F.line_Line_Turn [a0] h = nrm .no h (line_Line_Turn k (R (T k)) a0 h) :=
 (R_body (t := T k) (T_scott k) (by kernel_rfl) (by kernel_rfl) _ _).trans (by kernel_rfl)
def line_Line_Glyphs (k : Nat) (call : Caller) (a0 : Value) (h : Heap) : Res Value :=
 (nilR a0 h).bind fun v1 h2 =>
 (fieldAddrR Prog 164 v1 0 h2).bind fun v3 h4 =>
 (loadR Prog 22 v3 h4).bind fun v5 h6 =>
 (call F.slices_Clone_of_api_Glyph_api_Glyph [v5] h6).bind fun v7 h8 =>
 .ok v7 h8
theorem line_Line_Glyphs_R (k : Nat) (a0 : Value) (h : Heap) : R (T k) F.line_Line_Glyphs [a0] h = nrm (own k) h (line_Line_Glyphs k (R (T k)) a0 h) :=
 (R_body (t := T k) (T_scott k) (by kernel_rfl) (by kernel_rfl) _ _).trans (by kernel_rfl)
def line_Line_Clean (k : Nat) (call : Caller) (a0 : Value) (h : Heap) : Res Value :=
 (nilR a0 h).bind fun v1 h2 =>
 (fieldAddrR Prog 164 v1 0 h2).bind fun v3 h4 =>
 (loadR Prog 22 v3 h4).bind fun v5 h6 =>
 (call F.slices_DeleteFunc_of_api_Glyph_api_Glyph [v5, (.func (.func F.line_Line_Clean_in1) #[] #[])] h6).bind fun v7 h8 =>
 (nilR a0 h8).bind fun v9 h10 =>
 (fieldAddrR Prog 164 v9 0 h10).bind fun v11 h12 =>
 (storeR Prog 22 v11 v7 h12).bind fun _v13 h14 =>
 .ok (.tuple #[]) h14
theorem line_Line_Clean_R (k : Nat) (a0 : Value) (h : Heap) : R (T k) F.line_Line_Clean [a0] h = nrm .no h (line_Line_Clean k (R (T k)) a0 h) :=
 (R_body (t := T k) (T_scott k) (by kernel_rfl) (by kernel_rfl) _ _).trans (by kernel_rfl)
def line_Line_Insert_j1 (k : Nat) (call : Caller) (a0 a1 a2 a7 : Value) (h : Heap) : Res Value :=
 kSeq (pieceK (C k) call F.line_Line_Insert [1, 1, 1, 1]) (kDone Prog (resOf Prog F.line_Line_Insert)) .normal [(0, a0), (1, a1), (2, a2), (7, a7)] h
def line_Line_Insert_j2 (k : Nat) (call : Caller) (a0 a1 a2 a7 a30 : Value) (h : Heap) : Res Value :=
 kSeq (pieceK (C k) call F.line_Line_Insert [1, 1, 1, 1]) (kDone Prog (resOf Prog F.line_Line_Insert)) .normal [(0, a0), (1, a1), (2, a2), (7, a7), (30, a30)] h
def line_Line_Insert_l1 (k : Nat) (call : Caller) : Env → Heap → Res (AExit × Env) := loopB (C k) call F.line_Line_Insert [1, 1, 1, 1, 1, 0, 1, 0, 0]
def line_Line_Insert_l1k (k : Nat) (call : Caller) : Kont Value := kBlock 0 (kSeq (pieceK (C k) call F.line_Line_Insert [1, 1, 1, 1, 1, 1]) (kDone Prog (resOf Prog F.line_Line_Insert)))
def line_Line_Insert (k : Nat) (call : Caller) (a0 a1 a2 : Value) (h : Heap) : Res Value :=
 (binR Prog .lss 3 a1 (.int .i64 0) h).bind fun v1 h2 =>
 ((bif wantVal v1 false then Res.ok a1 h2 else Res.ok undef h2)).bind fun v3 h4 =>
 ((bif wantVal v1 false then Res.ok a0 h4 else Res.ok undef h4)).bind fun v5 h6 =>
 ((bif wantVal v1 false then nilR v5 h6 else Res.ok undef h6)).bind fun v7 h8 =>
 ((bif wantVal v1 false then fieldAddrR Prog 164 v7 0 h8 else Res.ok undef h8)).bind fun v9 h10 =>
 ((bif wantVal v1 false then loadR Prog 22 v9 h10 else Res.ok undef h10)).bind fun v11 h12 =>
 ((bif wantVal v1 false then builtinV Prog .len [22] [v11] h12 else Res.ok undef h12)).bind fun v13 h14 =>
 ((bif wantVal v1 false then binR Prog .gtr 3 v3 v13 h14 else Res.ok undef h14)).bind fun v15 h16 =>
 (condV (some v1) (Res.ok (.bool true) h16) (Res.ok v15 h16)).bind fun v17 h18 =>
 condV (some v17) (
 .ok (.bool false) h18)
 (
 (call F.line_Line_At [a0, a1] h18).bind fun v19 h20 =>
 (extractR v19 0 h20).bind fun v21 h22 =>
 (extractR v19 1 h22).bind fun v23 h24 =>
 (allocR Prog 57 h24).bind fun v25 h26 =>
 (storeR Prog 57 v25 v21 h26).bind fun _v27 h28 =>
 (unR .not v23 h28).bind fun v29 h30 =>
 condV (some v29) (
 (binR Prog .sub 3 a1 (.int .i64 1) h30).bind fun v31 h32 =>
 (call F.line_Line_At [a0, v31] h32).bind fun v33 h34 =>
 (extractR v33 0 h34).bind fun v35 h36 =>
 (extractR v33 1 h36).bind fun v37 h38 =>
 (storeR Prog 57 v25 v35 h38).bind fun _v39 h40 =>
 line_Line_Insert_j1 k call a0 a1 a2 v25 h40)
 (
 line_Line_Insert_j2 k call a0 a1 a2 v25 v29 h30))
theorem line_Line_Insert_R (k : Nat) (a0 a1 a2 : Value) (h : Heap) : R (T k) F.line_Line_Insert [a0, a1, a2] h = nrm .no h (line_Line_Insert k (R (T k)) a0 a1 a2 h) :=
 (R_body (t := T k) (T_scott k) (by kernel_rfl) (by kernel_rfl) _ _).trans (by kernel_rfl)
theorem line_Line_Insert_j1_eq (k : Nat) (call : Caller) (a0 a1 a2 a7 : Value) (h : Heap) : line_Line_Insert_j1 k call a0 a1 a2 a7 h =
 (builtinV Prog .len [23] [a2] h).bind fun v41 h42 =>
 (loopN (line_Line_Insert_l1 k call) loopFuel [(0, a0), (1, a1), (7, a7), (9, (.slice none 0 0)), (38, a2), (39, v41), (40, (.int .i64 0))] h42).bind fun r43 h44 =>
 line_Line_Insert_l1k k call r43.1 r43.2 h44 := by kernel_rfl
theorem line_Line_Insert_j2_eq (k : Nat) (call : Caller) (a0 a1 a2 a7 a30 : Value) (h : Heap) : line_Line_Insert_j2 k call a0 a1 a2 a7 a30 h =
 (builtinV Prog .len [23] [a2] h).bind fun v45 h46 =>
 (loopN (line_Line_Insert_l1 k call) loopFuel [(0, a0), (1, a1), (7, a7), (9, (.slice none 0 0)), (38, a2), (39, v45), (40, (.int .i64 0))] h46).bind fun r47 h48 =>
 line_Line_Insert_l1k k call r47.1 r47.2 h48 := by kernel_rfl
theorem line_Line_Insert_l1_eq (k : Nat) (call : Caller) (a0 a1 a7 a9 a38 a39 a40 : Value) (h : Heap) : line_Line_Insert_l1 k call [(0, a0), (1, a1), (7, a7), (9, a9), (38, a38), (39, a39), (40, a40)] h =
 (binR Prog .lss 3 a40 a39 h).bind fun v49 h50 =>
 condV (some v49) (
 (indexAddrR Prog 23 a38 a40 h50).bind fun v51 h52 =>
 (loadR Prog 3 v51 h52).bind fun v53 h54 =>
 (fieldAddrR Prog 57 a7 1 h54).bind fun v55 h56 =>
 (loadR Prog 3 v55 h56).bind fun v57 h58 =>
 (buildR Prog 57 [(0, v53), (1, v57)] h58).bind fun v59 h60 =>
 (buildSliceR Prog 22 1 [(0, v59)] h60).bind fun v61 h62 =>
 (builtinV Prog .append [22, 22] [a9, v61] h62).bind fun v63 h64 =>
 (binR Prog .add 3 a40 (.int .i64 1) h64).bind fun v65 h66 =>
 .ok (.normal, [(0, a0), (1, a1), (7, a7), (9, v63), (38, a38), (39, a39), (40, v65)]) h66)
 (
 .ok ((.exit 0), [(0, a0), (1, a1), (7, a7), (9, a9), (38, a38), (39, a39), (40, a40), (41, v49)]) h50) :=
 (loopB_eq _ _).trans (by kernel_rfl)
theorem line_Line_Insert_l1k_x0 (k : Nat) (call : Caller) (a0 a1 a7 a9 a38 a39 a40 a41 : Value) (h : Heap) : line_Line_Insert_l1k k call (.exit 0) [(0, a0), (1, a1), (7, a7), (9, a9), (38, a38), (39, a39), (40, a40), (41, a41)] h =
 (nilR a0 h).bind fun v67 h68 =>
 (fieldAddrR Prog 164 v67 0 h68).bind fun v69 h70 =>
 (loadR Prog 22 v69 h70).bind fun v71 h72 =>
 (call F.slices_Insert_of_api_Glyph_api_Glyph [v71, a1, a9] h72).bind fun v73 h74 =>
 (nilR a0 h74).bind fun v75 h76 =>
 (fieldAddrR Prog 164 v75 0 h76).bind fun v77 h78 =>
 (storeR Prog 22 v77 v73 h78).bind fun _v79 h80 =>
 .ok (.bool true) h80 := by kernel_rfl
def line_New_l1 (k : Nat) (call : Caller) : Env → Heap → Res (AExit × Env) := loopB (C k) call F.line_New [1, 1, 0, 1, 0, 0]
def line_New_l1k (k : Nat) (call : Caller) : Kont Value := kBlock 0 (kSeq (pieceK (C k) call F.line_New [1, 1, 1]) (kDone Prog (resOf Prog F.line_New)))
def line_New (k : Nat) (call : Caller) (a0 : Value) (h : Heap) : Res Value :=
 (buildR Prog 164 [] h).bind fun v1 h2 =>
 (boxR v1 h2).bind fun v3 h4 =>
 (builtinV Prog .len [23] [a0] h4).bind fun v5 h6 =>
 (loopN (line_New_l1 k call) loopFuel [(3, v3), (8, a0), (9, v5), (10, (.int .i64 0))] h6).bind fun r7 h8 =>
 line_New_l1k k call r7.1 r7.2 h8
theorem line_New_R (k : Nat) (a0 : Value) (h : Heap) : R (T k) F.line_New [a0] h = nrm .no h (line_New k (R (T k)) a0 h) :=
 (R_body (t := T k) (T_scott k) (by kernel_rfl) (by kernel_rfl) _ _).trans (by kernel_rfl)
theorem line_New_l1_eq (k : Nat) (call : Caller) (a3 a8 a9 a10 : Value) (h : Heap) : line_New_l1 k call [(3, a3), (8, a8), (9, a9), (10, a10)] h =
 (binR Prog .lss 3 a10 a9 h).bind fun v9 h10 =>
 condV (some v9) (
 (indexAddrR Prog 23 a8 a10 h10).bind fun v11 h12 =>
 (loadR Prog 3 v11 h12).bind fun v13 h14 =>
 (nilR a3 h14).bind fun v15 h16 =>
 (fieldAddrR Prog 164 v15 0 h16).bind fun v17 h18 =>
 (loadR Prog 22 v17 h18).bind fun v19 h20 =>
 (buildR Prog 57 [(0, v13), (1, a10)] h20).bind fun v21 h22 =>
 (buildSliceR Prog 22 1 [(0, v21)] h22).bind fun v23 h24 =>
 (builtinV Prog .append [22, 22] [v19, v23] h24).bind fun v25 h26 =>
 (nilR a3 h26).bind fun v27 h28 =>
 (fieldAddrR Prog 164 v27 0 h28).bind fun v29 h30 =>
 (storeR Prog 22 v29 v25 h30).bind fun _v31 h32 =>
 (binR Prog .add 3 a10 (.int .i64 1) h32).bind fun v33 h34 =>
 .ok (.normal, [(3, a3), (8, a8), (9, a9), (10, v33)]) h34)
 (
 .ok ((.exit 0), [(3, a3), (8, a8), (9, a9), (10, a10), (11, v9)]) h10) :=
 (loopB_eq _ _).trans (by kernel_rfl)
theorem line_New_l1k_x0 (k : Nat) (call : Caller) (a3 a8 a9 a10 a11 : Value) (h : Heap) : line_New_l1k k call (.exit 0) [(3, a3), (8, a8), (9, a9), (10, a10), (11, a11)] h =
 .ok a3 h := by kernel_rfl
def line_Line_Len (k : Nat) (call : Caller) (a0 : Value) (h : Heap) : Res Value :=
 (nilR a0 h).bind fun v1 h2 =>
 (fieldAddrR Prog 164 v1 0 h2).bind fun v3 h4 =>
 (loadR Prog 22 v3 h4).bind fun v5 h6 =>
 (builtinV Prog .len [22] [v5] h6).bind fun v7 h8 =>
 .ok v7 h8
theorem line_Line_Len_R (k : Nat) (a0 : Value) (h : Heap) : R (T k) F.line_Line_Len [a0] h = nrm .gc h (line_Line_Len k (R (T k)) a0 h) :=
 (R_body (t := T k) (T_scott k) (by kernel_rfl) (by kernel_rfl) _ _).trans (by kernel_rfl)
def line_Line_At (k : Nat) (call : Caller) (a0 a1 : Value) (h : Heap) : Res Value :=
 (allocR Prog 57 h).bind fun v1 h2 =>
 (call F.line_Line_in [a0, a1] h2).bind fun v3 h4 =>
 (unR .not v3 h4).bind fun v5 h6 =>
 condV (some v5) (
 (buildR Prog 57 [] h6).bind fun v7 h8 =>
 (storeR Prog 57 v1 v7 h8).bind fun _v9 h10 =>
 (loadR Prog 57 v1 h10).bind fun v11 h12 =>
 .ok (.tuple #[v11, (.bool false)]) h12)
 (
 (nilR a0 h6).bind fun v13 h14 =>
 (fieldAddrR Prog 164 v13 0 h14).bind fun v15 h16 =>
 (loadR Prog 22 v15 h16).bind fun v17 h18 =>
 (indexAddrR Prog 22 v17 a1 h18).bind fun v19 h20 =>
 (loadR Prog 57 v19 h20).bind fun v21 h22 =>
 (storeR Prog 57 v1 v21 h22).bind fun _v23 h24 =>
 (loadR Prog 57 v1 h24).bind fun v25 h26 =>
 .ok (.tuple #[v25, (.bool true)]) h26)
theorem line_Line_At_R (k : Nat) (a0 a1 : Value) (h : Heap) : R (T k) F.line_Line_At [a0, a1] h = nrm .gc h (line_Line_At k (R (T k)) a0 a1 h) :=
 (R_body (t := T k) (T_scott k) (by kernel_rfl) (by kernel_rfl) _ _).trans (by kernel_rfl)
def line_Line_Clean_in1 (k : Nat) (call : Caller) (a0 : Value) (h : Heap) : Res Value :=
 (boxR a0 h).bind fun v1 h2 =>
 (fieldAddrR Prog 57 v1 0 h2).bind fun v3 h4 =>
 (loadR Prog 3 v3 h4).bind fun v5 h6 =>
 (binR Prog .eql 3 v5 (.int .i64 65535) h6).bind fun v7 h8 =>
 .ok v7 h8
theorem line_Line_Clean_in1_R (k : Nat) (a0 : Value) (h : Heap) : R (T k) F.line_Line_Clean_in1 [a0] h = nrm .no h (line_Line_Clean_in1 k (R (T k)) a0 h) :=
 (R_body (t := T k) (T_scott k) (by kernel_rfl) (by kernel_rfl) _ _).trans (by kernel_rfl)
def line_Line_Set (k : Nat) (call : Caller) (a0 a1 a2 : Value) (h : Heap) : Res Value :=
 (call F.line_Line_in [a0, a1] h).bind fun v1 h2 =>
 (unR .not v1 h2).bind fun v3 h4 =>
 condV (some v3) (
 .ok (.bool false) h4)
 (
 (nilR a0 h4).bind fun v5 h6 =>
 (fieldAddrR Prog 164 v5 0 h6).bind fun v7 h8 =>
 (loadR Prog 22 v7 h8).bind fun v9 h10 =>
 (indexAddrR Prog 22 v9 a1 h10).bind fun v11 h12 =>
 (fieldAddrR Prog 57 v11 0 h12).bind fun v13 h14 =>
 (storeR Prog 3 v13 a2 h14).bind fun _v15 h16 =>
 .ok (.bool true) h16)
theorem line_Line_Set_R (k : Nat) (a0 a1 a2 : Value) (h : Heap) : R (T k) F.line_Line_Set [a0, a1, a2] h = nrm .no h (line_Line_Set k (R (T k)) a0 a1 a2 h) :=
 (R_body (t := T k) (T_scott k) (by kernel_rfl) (by kernel_rfl) _ _).trans (by kernel_rfl)
def line_Line_Order_l1 (k : Nat) (call : Caller) : Env → Heap → Res (AExit × Env) := loopB (C k) call F.line_Line_Order [1, 1, 1, 1, 0, 1, 0, 0]
def line_Line_Order_l1k (k : Nat) (call : Caller) : Kont Value := kBlock 0 (kSeq (pieceK (C k) call F.line_Line_Order [1, 1, 1, 1, 1]) (kDone Prog (resOf Prog F.line_Line_Order)))
def line_Line_Order_l2 (k : Nat) (call : Caller) : Env → Heap → Res (AExit × Env) := loopB (C k) call F.line_Line_Order [1, 1, 1, 1, 1, 0, 1, 0, 0]
def line_Line_Order_l2k (k : Nat) (call : Caller) : Kont Value := kBlock 2 (kSeq (pieceK (C k) call F.line_Line_Order [1, 1, 1, 1, 1, 1]) (kDone Prog (resOf Prog F.line_Line_Order)))
def line_Line_Order (k : Nat) (call : Caller) (a0 a1 a2 : Value) (h : Heap) : Res Value :=
 (binR Prog .lss 3 a1 (.int .i64 0) h).bind fun v1 h2 =>
 ((bif wantVal v1 false then Res.ok a1 h2 else Res.ok undef h2)).bind fun v3 h4 =>
 ((bif wantVal v1 false then Res.ok a0 h4 else Res.ok undef h4)).bind fun v5 h6 =>
 ((bif wantVal v1 false then nilR v5 h6 else Res.ok undef h6)).bind fun v7 h8 =>
 ((bif wantVal v1 false then fieldAddrR Prog 164 v7 0 h8 else Res.ok undef h8)).bind fun v9 h10 =>
 ((bif wantVal v1 false then loadR Prog 22 v9 h10 else Res.ok undef h10)).bind fun v11 h12 =>
 ((bif wantVal v1 false then builtinV Prog .len [22] [v11] h12 else Res.ok undef h12)).bind fun v13 h14 =>
 ((bif wantVal v1 false then binR Prog .gtr 3 v3 v13 h14 else Res.ok undef h14)).bind fun v15 h16 =>
 (condV (some v1) (Res.ok (.bool true) h16) (Res.ok v15 h16)).bind fun v17 h18 =>
 ((bif wantVal v17 false then Res.ok a2 h18 else Res.ok undef h18)).bind fun v19 h20 =>
 ((bif wantVal v17 false then builtinV Prog .len [23] [v19] h20 else Res.ok undef h20)).bind fun v21 h22 =>
 ((bif wantVal v17 false then Res.ok a0 h22 else Res.ok undef h22)).bind fun v23 h24 =>
 ((bif wantVal v17 false then nilR v23 h24 else Res.ok undef h24)).bind fun v25 h26 =>
 ((bif wantVal v17 false then fieldAddrR Prog 164 v25 0 h26 else Res.ok undef h26)).bind fun v27 h28 =>
 ((bif wantVal v17 false then loadR Prog 22 v27 h28 else Res.ok undef h28)).bind fun v29 h30 =>
 ((bif wantVal v17 false then builtinV Prog .len [22] [v29] h30 else Res.ok undef h30)).bind fun v31 h32 =>
 ((bif wantVal v17 false then Res.ok a1 h32 else Res.ok undef h32)).bind fun v33 h34 =>
 ((bif wantVal v17 false then binR Prog .sub 3 v31 v33 h34 else Res.ok undef h34)).bind fun v35 h36 =>
 ((bif wantVal v17 false then binR Prog .gtr 3 v21 v35 h36 else Res.ok undef h36)).bind fun v37 h38 =>
 (condV (some v17) (Res.ok (.bool true) h38) (Res.ok v37 h38)).bind fun v39 h40 =>
 condV (some v39) (
 .ok (.bool false) h40)
 (
 (nilR a0 h40).bind fun v41 h42 =>
 (fieldAddrR Prog 164 v41 0 h42).bind fun v43 h44 =>
 (loadR Prog 22 v43 h44).bind fun v45 h46 =>
 (builtinV Prog .len [23] [a2] h46).bind fun v47 h48 =>
 (binR Prog .add 3 a1 v47 h48).bind fun v49 h50 =>
 (sliceR Prog 22 v45 (some a1) (some v49) none h50).bind fun v51 h52 =>
 (call F.slices_Clone_of_api_Glyph_api_Glyph [v51] h52).bind fun v53 h54 =>
 (builtinV Prog .len [23] [a2] h54).bind fun v55 h56 =>
 (makeSliceV Prog 272 v55 v55 h56).bind fun v57 h58 =>
 (builtinV Prog .len [23] [a2] h58).bind fun v59 h60 =>
 (loopN (line_Line_Order_l1 k call) loopFuel [(0, a0), (1, a1), (2, a2), (7, v53), (8, v57), (50, a2), (51, v59), (52, (.int .i64 0))] h60).bind fun r61 h62 =>
 line_Line_Order_l1k k call r61.1 r61.2 h62)
theorem line_Line_Order_R (k : Nat) (a0 a1 a2 : Value) (h : Heap) : R (T k) F.line_Line_Order [a0, a1, a2] h = nrm .no h (line_Line_Order k (R (T k)) a0 a1 a2 h) :=
 (R_body (t := T k) (T_scott k) (by kernel_rfl) (by kernel_rfl) _ _).trans (by kernel_rfl)
theorem line_Line_Order_l1_eq (k : Nat) (call : Caller) (a0 a1 a2 a7 a8 a50 a51 a52 : Value) (h : Heap) : line_Line_Order_l1 k call [(0, a0), (1, a1), (2, a2), (7, a7), (8, a8), (50, a50), (51, a51), (52, a52)] h =
 (binR Prog .lss 3 a52 a51 h).bind fun v63 h64 =>
 condV (some v63) (
 (indexAddrR Prog 23 a50 a52 h64).bind fun v65 h66 =>
 (loadR Prog 3 v65 h66).bind fun v67 h68 =>
 (binR Prog .lss 3 v67 (.int .i64 0) h68).bind fun v69 h70 =>
 ((bif wantVal v69 false then Res.ok v67 h70 else Res.ok undef h70)).bind fun v71 h72 =>
 ((bif wantVal v69 false then Res.ok a2 h72 else Res.ok undef h72)).bind fun v73 h74 =>
 ((bif wantVal v69 false then builtinV Prog .len [23] [v73] h74 else Res.ok undef h74)).bind fun v75 h76 =>
 ((bif wantVal v69 false then binR Prog .geq 3 v71 v75 h76 else Res.ok undef h76)).bind fun v77 h78 =>
 (condV (some v69) (Res.ok (.bool true) h78) (Res.ok v77 h78)).bind fun v79 h80 =>
 ((bif wantVal v79 false then Res.ok a8 h80 else Res.ok undef h80)).bind fun v81 h82 =>
 ((bif wantVal v79 false then Res.ok v67 h82 else Res.ok undef h82)).bind fun v83 h84 =>
 ((bif wantVal v79 false then indexAddrR Prog 272 v81 v83 h84 else Res.ok undef h84)).bind fun v85 h86 =>
 ((bif wantVal v79 false then loadR Prog 4 v85 h86 else Res.ok undef h86)).bind fun v87 h88 =>
 (condV (some v79) (Res.ok (.bool true) h88) (Res.ok v87 h88)).bind fun v89 h90 =>
 condV (some v89) (
 .ok (.ret, [(6, (.bool false))]) h90)
 (
 (indexAddrR Prog 272 a8 v67 h90).bind fun v91 h92 =>
 (storeR Prog 4 v91 (.bool true) h92).bind fun _v93 h94 =>
 (binR Prog .add 3 a52 (.int .i64 1) h94).bind fun v95 h96 =>
 .ok (.normal, [(0, a0), (1, a1), (2, a2), (7, a7), (8, a8), (50, a50), (51, a51), (52, v95)]) h96))
 (
 .ok ((.exit 0), [(0, a0), (1, a1), (2, a2), (7, a7), (8, a8), (50, a50), (51, a51), (52, a52), (53, v63)]) h64) :=
 (loopB_eq _ _).trans (by kernel_rfl)
theorem line_Line_Order_l1k_r (k : Nat) (call : Caller) (a6 : Value) (h : Heap) : line_Line_Order_l1k k call .ret [(6, a6)] h =
 .ok a6 h := by kernel_rfl
theorem line_Line_Order_l1k_x0 (k : Nat) (call : Caller) (a0 a1 a2 a7 a8 a50 a51 a52 a53 : Value) (h : Heap) : line_Line_Order_l1k k call (.exit 0) [(0, a0), (1, a1), (2, a2), (7, a7), (8, a8), (50, a50), (51, a51), (52, a52), (53, a53)] h =
 (builtinV Prog .len [23] [a2] h).bind fun v97 h98 =>
 (loopN (line_Line_Order_l2 k call) loopFuel [(0, a0), (1, a1), (7, a7), (74, a2), (75, v97), (76, (.int .i64 0))] h98).bind fun r99 h100 =>
 line_Line_Order_l2k k call r99.1 r99.2 h100 := by kernel_rfl
theorem line_Line_Order_l2_eq (k : Nat) (call : Caller) (a0 a1 a7 a74 a75 a76 : Value) (h : Heap) : line_Line_Order_l2 k call [(0, a0), (1, a1), (7, a7), (74, a74), (75, a75), (76, a76)] h =
 (binR Prog .lss 3 a76 a75 h).bind fun v101 h102 =>
 condV (some v101) (
 (indexAddrR Prog 23 a74 a76 h102).bind fun v103 h104 =>
 (loadR Prog 3 v103 h104).bind fun v105 h106 =>
 (nilR a0 h106).bindN fun v107 h108 =>
 (fieldAddrR Prog 164 v107 0 h108).bindN fun v109 h110 =>
 (loadR Prog 22 v109 h110).bindN fun v111 h112 =>
 (binR Prog .add 3 a1 a76 h112).bindN fun v113 h114 =>
 (indexAddrR Prog 22 a7 v105 h114).bindN fun v115 h116 =>
 (loadR Prog 57 v115 h116).bindN fun v117 h118 =>
 (indexAddrR Prog 22 v111 v113 h118).bindN fun v119 h120 =>
 (storeR Prog 57 v119 v117 h120).bindN fun _v121 h122 =>
 (binR Prog .add 3 a76 (.int .i64 1) h122).bind fun v123 h124 =>
 .ok (.normal, [(0, a0), (1, a1), (7, a7), (74, a74), (75, a75), (76, v123)]) h124)
 (
 .ok ((.exit 2), [(0, a0), (1, a1), (7, a7), (74, a74), (75, a75), (76, a76), (77, v101)]) h102) :=
 (loopB_eq _ _).trans (by kernel_rfl)
theorem line_Line_Order_l2k_x2 (k : Nat) (call : Caller) (a0 a1 a7 a74 a75 a76 a77 : Value) (h : Heap) : line_Line_Order_l2k k call (.exit 2) [(0, a0), (1, a1), (7, a7), (74, a74), (75, a75), (76, a76), (77, a77)] h =
 .ok (.bool true) h := by kernel_rfl
def line_Line_Join_l1 (k : Nat) (call : Caller) : Env → Heap → Res (AExit × Env) := loopB (C k) call F.line_Line_Join [1, 1, 0, 0]
def line_Line_Join_l1k (k : Nat) (call : Caller) : Kont Value := kBlock 0 (kDone Prog (resOf Prog F.line_Line_Join))
def line_Line_Join_j1 (k : Nat) (call : Caller) (a0 a1 a14 a15 a16 : Value) (h : Heap) : Res (AExit × Env) :=
 kSeq (pieceK (C k) call F.line_Line_Join [1, 1, 0, 0, 1, 1, 1]) (kRound (ownOf (C k) F.line_Line_Join [1, 1, 0, 0])) .normal [(0, a0), (1, a1), (14, a14), (15, a15), (16, a16)] h
def line_Line_Join_j2 (k : Nat) (call : Caller) (a0 a1 a8 a14 a15 a16 a26 : Value) (h : Heap) : Res (AExit × Env) :=
 kSeq (pieceK (C k) call F.line_Line_Join [1, 1, 0, 0, 1, 1, 1]) (kRound (ownOf (C k) F.line_Line_Join [1, 1, 0, 0])) .normal [(0, a0), (1, a1), (8, a8), (14, a14), (15, a15), (16, a16), (26, a26)] h
def line_Line_Join (k : Nat) (call : Caller) (a0 a1 a2 : Value) (h : Heap) : Res Value :=
 (call F.line_Line_in [a0, a1] h).bind fun v1 h2 =>
 (unR .not v1 h2).bind fun v3 h4 =>
 condV (some v3) (
 .ok (.tuple #[]) h4)
 (
 (builtinV Prog .len [23] [a2] h4).bind fun v5 h6 =>
 (loopN (line_Line_Join_l1 k call) loopFuel [(0, a0), (1, a1), (14, a2), (15, v5), (16, (.int .i64 0))] h6).bind fun r7 h8 =>
 line_Line_Join_l1k k call r7.1 r7.2 h8)
theorem line_Line_Join_R (k : Nat) (a0 a1 a2 : Value) (h : Heap) : R (T k) F.line_Line_Join [a0, a1, a2] h = nrm .no h (line_Line_Join k (R (T k)) a0 a1 a2 h) :=
 (R_body (t := T k) (T_scott k) (by kernel_rfl) (by kernel_rfl) _ _).trans (by kernel_rfl)
theorem line_Line_Join_l1_eq (k : Nat) (call : Caller) (a0 a1 a14 a15 a16 : Value) (h : Heap) : line_Line_Join_l1 k call [(0, a0), (1, a1), (14, a14), (15, a15), (16, a16)] h =
 (binR Prog .lss 3 a16 a15 h).bind fun v9 h10 =>
 condV (some v9) (
 (indexAddrR Prog 23 a14 a16 h10).bind fun v11 h12 =>
 (loadR Prog 3 v11 h12).bind fun v13 h14 =>
 (call F.line_Line_At [a0, v13] h14).bind fun v15 h16 =>
 (extractR v15 0 h16).bind fun v17 h18 =>
 (extractR v15 1 h18).bind fun v19 h20 =>
 (allocR Prog 57 h20).bind fun v21 h22 =>
 (storeR Prog 57 v21 v17 h22).bind fun _v23 h24 =>
 condV (some v19) (
 (nilR a0 h24).bindN fun v25 h26 =>
 (fieldAddrR Prog 164 v25 0 h26).bindN fun v27 h28 =>
 (loadR Prog 22 v27 h28).bindN fun v29 h30 =>
 (nilR a0 h30).bindN fun v31 h32 =>
 (fieldAddrR Prog 164 v31 0 h32).bindN fun v33 h34 =>
 (loadR Prog 22 v33 h34).bindN fun v35 h36 =>
 (indexAddrR Prog 22 v35 a1 h36).bindN fun v37 h38 =>
 (fieldAddrR Prog 57 v37 1 h38).bindN fun v39 h40 =>
 (loadR Prog 3 v39 h40).bindN fun v41 h42 =>
 (fieldAddrR Prog 57 v21 1 h42).bindN fun v43 h44 =>
 (loadR Prog 3 v43 h44).bindN fun v45 h46 =>
 (builtinV Prog .min [3, 3] [v41, v45] h46).bindN fun v47 h48 =>
 (indexAddrR Prog 22 v29 a1 h48).bindN fun v49 h50 =>
 (fieldAddrR Prog 57 v49 1 h50).bindN fun v51 h52 =>
 (storeR Prog 3 v51 v47 h52).bindN fun _v53 h54 =>
 line_Line_Join_j1 k call a0 a1 a14 a15 a16 h54)
 (
 line_Line_Join_j2 k call a0 a1 v21 a14 a15 a16 v19 h24))
 (
 .ok ((.exit 0), [(0, a0), (1, a1), (14, a14), (15, a15), (16, a16), (17, v9)]) h10) :=
 (loopB_eq _ _).trans (by kernel_rfl)
theorem line_Line_Join_j1_eq (k : Nat) (call : Caller) (a0 a1 a14 a15 a16 : Value) (h : Heap) : line_Line_Join_j1 k call a0 a1 a14 a15 a16 h =
 (binR Prog .add 3 a16 (.int .i64 1) h).bind fun v55 h56 =>
 .ok (.normal, [(0, a0), (1, a1), (14, a14), (15, a15), (16, v55)]) h56 := by kernel_rfl
theorem line_Line_Join_j2_eq (k : Nat) (call : Caller) (a0 a1 a8 a14 a15 a16 a26 : Value) (h : Heap) : line_Line_Join_j2 k call a0 a1 a8 a14 a15 a16 a26 h =
 (binR Prog .add 3 a16 (.int .i64 1) h).bind fun v57 h58 =>
 .ok (.normal, [(0, a0), (1, a1), (14, a14), (15, a15), (16, v57)]) h58 := by kernel_rfl
theorem line_Line_Join_l1k_x0 (k : Nat) (call : Caller) (a0 a1 a14 a15 a16 a17 : Value) (h : Heap) : line_Line_Join_l1k k call (.exit 0) [(0, a0), (1, a1), (14, a14), (15, a15), (16, a16), (17, a17)] h =
 .ok (.tuple #[]) h := by kernel_rfl
def line_Line_in (k : Nat) (call : Caller) (a0 a1 : Value) (h : Heap) : Res Value :=
 (binR Prog .geq 3 a1 (.int .i64 0) h).bind fun v1 h2 =>
 ((bif wantVal v1 true then Res.ok a1 h2 else Res.ok undef h2)).bind fun v3 h4 =>
 ((bif wantVal v1 true then Res.ok a0 h4 else Res.ok undef h4)).bind fun v5 h6 =>
 ((bif wantVal v1 true then nilR v5 h6 else Res.ok undef h6)).bind fun v7 h8 =>
 ((bif wantVal v1 true then fieldAddrR Prog 164 v7 0 h8 else Res.ok undef h8)).bind fun v9 h10 =>
 ((bif wantVal v1 true then loadR Prog 22 v9 h10 else Res.ok undef h10)).bind fun v11 h12 =>
 ((bif wantVal v1 true then builtinV Prog .len [22] [v11] h12 else Res.ok undef h12)).bind fun v13 h14 =>
 ((bif wantVal v1 true then binR Prog .lss 3 v3 v13 h14 else Res.ok undef h14)).bind fun v15 h16 =>
 (condV (some v1) (Res.ok v15 h16) (Res.ok (.bool false) h16)).bind fun v17 h18 =>
 .ok v17 h18
theorem line_Line_in_R (k : Nat) (a0 a1 : Value) (h : Heap) : R (T k) F.line_Line_in [a0, a1] h = nrm .gc h (line_Line_in k (R (T k)) a0 a1 h) :=
 (R_body (t := T k) (T_scott k) (by kernel_rfl) (by kernel_rfl) _ _).trans (by kernel_rfl)
end
end Go.Sw
end
section
set_option maxRecDepth 100000
set_option linter.unusedVariables false
namespace Go.Sw
noncomputable section
def slices_Clone_of_api_Glyph_api_Glyph (k : Nat) (call : Caller) (a0 : Value) (h : Heap) : Res Value :=
 (binR Prog .eql 22 a0 (.slice none 0 0) h).bind fun v1 h2 =>
 condV (some v1) (
 .ok (.slice none 0 0) h2)
 (
 (buildSliceR Prog 22 0 [] h2).bind fun v3 h4 =>
 (builtinV Prog .append [22, 22] [v3, a0] h4).bind fun v5 h6 =>
 .ok v5 h6)
theorem slices_Clone_of_api_Glyph_api_Glyph_body (k : Nat) (sp : FuncId → Option Sp) (call : Caller) (a0 : Value) (h : Heap) : bodyK { P := Prog, kp := kpS, sp := sp } call F.slices_Clone_of_api_Glyph_api_Glyph [a0] h = slices_Clone_of_api_Glyph_api_Glyph k call a0 h := by kernel_rfl
def slices_Reverse_of_api_Glyph_api_Glyph_l1 (k : Nat) (call : Caller) : Env → Heap → Res (AExit × Env) := loopB (C k) call F.slices_Reverse_of_api_Glyph_api_Glyph [1, 0, 0]
def slices_Reverse_of_api_Glyph_api_Glyph_l1k (k : Nat) (call : Caller) : Kont Value := kBlock 0 (kDone Prog (resOf Prog F.slices_Reverse_of_api_Glyph_api_Glyph))
def slices_Reverse_of_api_Glyph_api_Glyph (k : Nat) (call : Caller) (a0 : Value) (h : Heap) : Res Value :=
 (builtinV Prog .len [22] [a0] h).bind fun v1 h2 =>
 (binR Prog .sub 3 v1 (.int .i64 1) h2).bind fun v3 h4 =>
 (loopN (slices_Reverse_of_api_Glyph_api_Glyph_l1 k call) loopFuel [(0, a0), (2, (.int .i64 0)), (3, v3)] h4).bind fun r5 h6 =>
 slices_Reverse_of_api_Glyph_api_Glyph_l1k k call r5.1 r5.2 h6
theorem slices_Reverse_of_api_Glyph_api_Glyph_R (k : Nat) (a0 : Value) (h : Heap) : R (T k) F.slices_Reverse_of_api_Glyph_api_Glyph [a0] h = nrm .no h (slices_Reverse_of_api_Glyph_api_Glyph k (R (T k)) a0 h) :=
 (R_body (t := T k) (T_scott k) (by kernel_rfl) (by kernel_rfl) _ _).trans (by kernel_rfl)
theorem slices_Reverse_of_api_Glyph_api_Glyph_l1_eq (k : Nat) (call : Caller) (a0 a2 a3 : Value) (h : Heap) : slices_Reverse_of_api_Glyph_api_Glyph_l1 k call [(0, a0), (2, a2), (3, a3)] h =
 (binR Prog .lss 3 a2 a3 h).bind fun v7 h8 =>
 condV (some v7) (
 (indexAddrR Prog 22 a0 a3 h8).bindN fun v9 h10 =>
 (loadR Prog 57 v9 h10).bindN fun v11 h12 =>
 (indexAddrR Prog 22 a0 a2 h12).bindN fun v13 h14 =>
 (loadR Prog 57 v13 h14).bindN fun v15 h16 =>
 (indexAddrR Prog 22 a0 a2 h16).bindN fun v17 h18 =>
 (storeR Prog 57 v17 v11 h18).bindN fun _v19 h20 =>
 (indexAddrR Prog 22 a0 a3 h20).bindN fun v21 h22 =>
 (storeR Prog 57 v21 v15 h22).bindN fun _v23 h24 =>
 (binR Prog .add 3 a2 (.int .i64 1) h24).bind fun v25 h26 =>
 (binR Prog .sub 3 a3 (.int .i64 1) h26).bind fun v27 h28 =>
 .ok (.normal, [(0, a0), (2, v25), (3, v27)]) h28)
 (
 .ok ((.exit 0), [(0, a0), (2, a2), (3, a3), (9, v7)]) h8) :=
 (loopB_eq _ _).trans (by kernel_rfl)
theorem slices_Reverse_of_api_Glyph_api_Glyph_l1k_x0 (k : Nat) (call : Caller) (a0 a2 a3 a9 : Value) (h : Heap) : slices_Reverse_of_api_Glyph_api_Glyph_l1k k call (.exit 0) [(0, a0), (2, a2), (3, a3), (9, a9)] h =
 .ok (.tuple #[]) h := by kernel_rfl
def slices_DeleteFunc_of_api_Glyph_api_Glyph_l1 (k : Nat) (call : Caller) : Env → Heap → Res (AExit × Env) := loopB (C k) call F.slices_DeleteFunc_of_api_Glyph_api_Glyph [1, 1, 1, 0, 1, 0, 0]
def slices_DeleteFunc_of_api_Glyph_api_Glyph_l1k (k : Nat) (call : Caller) : Kont Value := kBlock 0 (kSeq (pieceK (C k) call F.slices_DeleteFunc_of_api_Glyph_api_Glyph [1, 1, 1, 1]) (kDone Prog (resOf Prog F.slices_DeleteFunc_of_api_Glyph_api_Glyph)))
def slices_DeleteFunc_of_api_Glyph_api_Glyph_j1 (k : Nat) (call : Caller) (a0 a1 a5 a6 : Value) (h : Heap) : Res (AExit × Env) :=
 kSeq (pieceK (C k) call F.slices_DeleteFunc_of_api_Glyph_api_Glyph [1, 1, 1, 0, 1, 0, 0, 1, 1]) (kRound (ownOf (C k) F.slices_DeleteFunc_of_api_Glyph_api_Glyph [1, 1, 1, 0, 1, 0, 0])) .normal [(0, a0), (1, a1), (5, a5), (6, a6)] h
def slices_DeleteFunc_of_api_Glyph_api_Glyph_j2 (k : Nat) (call : Caller) (a0 a1 a5 a6 a7 a29 : Value) (h : Heap) : Res (AExit × Env) :=
 kSeq (pieceK (C k) call F.slices_DeleteFunc_of_api_Glyph_api_Glyph [1, 1, 1, 0, 1, 0, 0, 1, 1]) (kRound (ownOf (C k) F.slices_DeleteFunc_of_api_Glyph_api_Glyph [1, 1, 1, 0, 1, 0, 0])) .normal [(0, a0), (1, a1), (5, a5), (6, a6), (7, a7), (29, a29)] h
def slices_DeleteFunc_of_api_Glyph_api_Glyph (k : Nat) (call : Caller) (a0 a1 : Value) (h : Heap) : Res Value :=
 (call F.slices_IndexFunc_of_api_Glyph_api_Glyph [a0, a1] h).bind fun v1 h2 =>
 (binR Prog .eql 3 v1 (.int .i64 (-1)) h2).bind fun v3 h4 =>
 condV (some v3) (
 .ok a0 h4)
 (
 (binR Prog .add 3 v1 (.int .i64 1) h4).bind fun v5 h6 =>
 (loopN (slices_DeleteFunc_of_api_Glyph_api_Glyph_l1 k call) loopFuel [(0, a0), (1, a1), (5, v1), (6, v5)] h6).bind fun r7 h8 =>
 slices_DeleteFunc_of_api_Glyph_api_Glyph_l1k k call r7.1 r7.2 h8)
theorem slices_DeleteFunc_of_api_Glyph_api_Glyph_body (k : Nat) (sp : FuncId → Option Sp) (call : Caller) (a0 a1 : Value) (h : Heap) : bodyK { P := Prog, kp := kpS, sp := sp } call F.slices_DeleteFunc_of_api_Glyph_api_Glyph [a0, a1] h = slices_DeleteFunc_of_api_Glyph_api_Glyph k call a0 a1 h := by kernel_rfl
theorem slices_DeleteFunc_of_api_Glyph_api_Glyph_l1_eq (k : Nat) (call : Caller) (a0 a1 a5 a6 : Value) (h : Heap) : slices_DeleteFunc_of_api_Glyph_api_Glyph_l1 k call [(0, a0), (1, a1), (5, a5), (6, a6)] h =
 (builtinV Prog .len [22] [a0] h).bind fun v9 h10 =>
 (binR Prog .lss 3 a6 v9 h10).bind fun v11 h12 =>
 condV (some v11) (
 (indexAddrR Prog 22 a0 a6 h12).bind fun v13 h14 =>
 (loadR Prog 57 v13 h14).bind fun v15 h16 =>
 (allocR Prog 57 h16).bind fun v17 h18 =>
 (storeR Prog 57 v17 v15 h18).bind fun _v19 h20 =>
 (loadR Prog 57 v17 h20).bind fun v21 h22 =>
 (callV call a1 [v21] h22).bind fun v23 h24 =>
 (unR .not v23 h24).bind fun v25 h26 =>
 condV (some v25) (
 (loadR Prog 57 v17 h26).bind fun v27 h28 =>
 (indexAddrR Prog 22 a0 a5 h28).bind fun v29 h30 =>
 (storeR Prog 57 v29 v27 h30).bind fun _v31 h32 =>
 (binR Prog .add 3 a5 (.int .i64 1) h32).bind fun v33 h34 =>
 slices_DeleteFunc_of_api_Glyph_api_Glyph_j1 k call a0 a1 v33 a6 h34)
 (
 slices_DeleteFunc_of_api_Glyph_api_Glyph_j2 k call a0 a1 a5 a6 v17 v25 h26))
 (
 .ok ((.exit 0), [(0, a0), (1, a1), (5, a5), (6, a6), (19, v11)]) h12) :=
 (loopB_eq _ _).trans (by kernel_rfl)
theorem slices_DeleteFunc_of_api_Glyph_api_Glyph_j1_eq (k : Nat) (call : Caller) (a0 a1 a5 a6 : Value) (h : Heap) : slices_DeleteFunc_of_api_Glyph_api_Glyph_j1 k call a0 a1 a5 a6 h =
 (binR Prog .add 3 a6 (.int .i64 1) h).bind fun v35 h36 =>
 .ok (.normal, [(0, a0), (1, a1), (5, a5), (6, v35)]) h36 := by kernel_rfl
theorem slices_DeleteFunc_of_api_Glyph_api_Glyph_j2_eq (k : Nat) (call : Caller) (a0 a1 a5 a6 a7 a29 : Value) (h : Heap) : slices_DeleteFunc_of_api_Glyph_api_Glyph_j2 k call a0 a1 a5 a6 a7 a29 h =
 (binR Prog .add 3 a6 (.int .i64 1) h).bind fun v37 h38 =>
 .ok (.normal, [(0, a0), (1, a1), (5, a5), (6, v37)]) h38 := by kernel_rfl
theorem slices_DeleteFunc_of_api_Glyph_api_Glyph_l1k_x0 (k : Nat) (call : Caller) (a0 a1 a5 a6 a19 : Value) (h : Heap) : slices_DeleteFunc_of_api_Glyph_api_Glyph_l1k k call (.exit 0) [(0, a0), (1, a1), (5, a5), (6, a6), (19, a19)] h =
 (sliceR Prog 22 a0 (some a5) none none h).bind fun v39 h40 =>
 (builtinV Prog .clear [22] [v39] h40).bind fun _v41 h42 =>
 (sliceR Prog 22 a0 none (some a5) none h42).bind fun v43 h44 =>
 .ok v43 h44 := by kernel_rfl
def slices_Clone_of_api_Place_api_Place (k : Nat) (call : Caller) (a0 : Value) (h : Heap) : Res Value :=
 (binR Prog .eql 98 a0 (.slice none 0 0) h).bind fun v1 h2 =>
 condV (some v1) (
 .ok (.slice none 0 0) h2)
 (
 (buildSliceR Prog 98 0 [] h2).bind fun v3 h4 =>
 (builtinV Prog .append [98, 98] [v3, a0] h4).bind fun v5 h6 =>
 .ok v5 h6)
theorem slices_Clone_of_api_Place_api_Place_body (k : Nat) (sp : FuncId → Option Sp) (call : Caller) (a0 : Value) (h : Heap) : bodyK { P := Prog, kp := kpS, sp := sp } call F.slices_Clone_of_api_Place_api_Place [a0] h = slices_Clone_of_api_Place_api_Place k call a0 h := by kernel_rfl
def slices_Clone_of_sfnt_Part_sfnt_Part (k : Nat) (call : Caller) (a0 : Value) (h : Heap) : Res Value :=
 (binR Prog .eql 142 a0 (.slice none 0 0) h).bind fun v1 h2 =>
 condV (some v1) (
 .ok (.slice none 0 0) h2)
 (
 (buildSliceR Prog 142 0 [] h2).bind fun v3 h4 =>
 (builtinV Prog .append [142, 142] [v3, a0] h4).bind fun v5 h6 =>
 .ok v5 h6)
theorem slices_Clone_of_sfnt_Part_sfnt_Part_body (k : Nat) (sp : FuncId → Option Sp) (call : Caller) (a0 : Value) (h : Heap) : bodyK { P := Prog, kp := kpS, sp := sp } call F.slices_Clone_of_sfnt_Part_sfnt_Part [a0] h = slices_Clone_of_sfnt_Part_sfnt_Part k call a0 h := by kernel_rfl
def slices_IndexFunc_of_api_Glyph_api_Glyph_l1 (k : Nat) (call : Caller) : Env → Heap → Res (AExit × Env) := loopB (C k) call F.slices_IndexFunc_of_api_Glyph_api_Glyph [1, 0, 1, 0, 0]
def slices_IndexFunc_of_api_Glyph_api_Glyph_l1k (k : Nat) (call : Caller) : Kont Value := kBlock 0 (kSeq (pieceK (C k) call F.slices_IndexFunc_of_api_Glyph_api_Glyph [1, 1]) (kDone Prog (resOf Prog F.slices_IndexFunc_of_api_Glyph_api_Glyph)))
def slices_IndexFunc_of_api_Glyph_api_Glyph (k : Nat) (call : Caller) (a0 a1 : Value) (h : Heap) : Res Value :=
 (builtinV Prog .len [22] [a0] h).bind fun v1 h2 =>
 (loopN (slices_IndexFunc_of_api_Glyph_api_Glyph_l1 k call) loopFuel [(0, a0), (1, a1), (7, v1), (8, (.int .i64 0))] h2).bind fun r3 h4 =>
 slices_IndexFunc_of_api_Glyph_api_Glyph_l1k k call r3.1 r3.2 h4
theorem slices_IndexFunc_of_api_Glyph_api_Glyph_R (k : Nat) (a0 a1 : Value) (h : Heap) : R (T k) F.slices_IndexFunc_of_api_Glyph_api_Glyph [a0, a1] h = nrm .no h (slices_IndexFunc_of_api_Glyph_api_Glyph k (R (T k)) a0 a1 h) :=
 (R_body (t := T k) (T_scott k) (by kernel_rfl) (by kernel_rfl) _ _).trans (by kernel_rfl)
theorem slices_IndexFunc_of_api_Glyph_api_Glyph_l1_eq (k : Nat) (call : Caller) (a0 a1 a7 a8 : Value) (h : Heap) : slices_IndexFunc_of_api_Glyph_api_Glyph_l1 k call [(0, a0), (1, a1), (7, a7), (8, a8)] h =
 (binR Prog .lss 3 a8 a7 h).bind fun v5 h6 =>
 condV (some v5) (
 (indexAddrR Prog 22 a0 a8 h6).bind fun v7 h8 =>
 (loadR Prog 57 v7 h8).bind fun v9 h10 =>
 (callV call a1 [v9] h10).bind fun v11 h12 =>
 condV (some v11) (
 .ok (.ret, [(4, a8)]) h12)
 (
 (binR Prog .add 3 a8 (.int .i64 1) h12).bind fun v13 h14 =>
 .ok (.normal, [(0, a0), (1, a1), (7, a7), (8, v13)]) h14))
 (
 .ok ((.exit 0), [(0, a0), (1, a1), (7, a7), (8, a8), (9, v5)]) h6) :=
 (loopB_eq _ _).trans (by kernel_rfl)
theorem slices_IndexFunc_of_api_Glyph_api_Glyph_l1k_r (k : Nat) (call : Caller) (a4 : Value) (h : Heap) : slices_IndexFunc_of_api_Glyph_api_Glyph_l1k k call .ret [(4, a4)] h =
 .ok a4 h := by kernel_rfl
theorem slices_IndexFunc_of_api_Glyph_api_Glyph_l1k_x0 (k : Nat) (call : Caller) (a0 a1 a7 a8 a9 : Value) (h : Heap) : slices_IndexFunc_of_api_Glyph_api_Glyph_l1k k call (.exit 0) [(0, a0), (1, a1), (7, a7), (8, a8), (9, a9)] h =
 .ok (.int .i64 (-1)) h := by kernel_rfl
end
end Go.Sw
end
