/-
  Bytes that are looked at: what view makes of them.
-/
import Derived.Test.YtnaodjnimkndbaaSwLib8
import Derived.Test.YtnaodjnimkndbaaSwGview
namespace Go.Sw
open Go.RowKit

abbrev encB (n : Int) : List Value := [.int .u8 n]
theorem encB_len (n : Int) : (encB n).length = 1 := rfl
/-- Numbers of one byte. -/
def Byt (b : List Int) : Prop := ∀ n, n ∈ b → 0 ≤ n ∧ n < 256
/-- What view throws. -/
abbrev failV : Value := .iface shortT (.agg #[])
/-- A View. -/
abbrev vw (b : List Int) : Value := .agg #[lv encB b]
/-- Something, or it is thrown. -/
def orF {α : Type} (o : Option α) (f : α → Value) (H : Heap) : Res Value := match o with
  | some a => .ok (f a) H
  | none => .panic failV H
@[simp] theorem orF_some {α : Type} (a : α) (f : α → Value) (H : Heap) : orF (some a) f H = .ok (f a) H := rfl
@[simp] theorem orF_none {α : Type} (f : α → Value) (H : Heap) : orF (none : Option α) f H = .panic failV H := rfl

theorem nrm_orF {md : Mode} {H : Heap} {α : Type} {r : Res Value} {o : Option α} {f : α → Value} (h1 : ∀ a, o = some a → nrm md H r = .ok (f a) H) (h2 : o = none → nrm md H r = .panic failV H) : nrm md H r = orF o f H := by
  cases o with
  | some a => exact h1 a rfl
  | none => exact h2 rfl

/-- The bytes from a place on. -/
def pieceS (b : List Int) (i n : Int) : Option (List Int) := if 0 ≤ i ∧ 0 ≤ n ∧ i ≤ b.length ∧ n ≤ b.length - i then some ((b.drop i.toNat).take n.toNat) else none
/-- The number that bytes are. -/
def num (l : List Int) : Int := l.foldl (fun x y => 256 * x + y) 0
def uS (b : List Int) (i n : Int) : Option Int := (pieceS b i n).map num

theorem Byt.piece {b : List Int} (h : Byt b) {i n : Int} {l : List Int} (hl : pieceS b i n = some l) : Byt l ∧ (l.length : Int) = n := by
  unfold pieceS at hl
  split at hl
  · rename_i hc
    injection hl with hl; subst hl
    refine ⟨fun x hx => h x (List.mem_of_mem_drop (List.mem_of_mem_take hx)), ?_⟩
    simp
    omega
  · cases hl

theorem Flat.fail : Flat failV := .iface _ _ (.aggL .nil)
theorem Flat.unit : Flat (.tuple #[]) := .tupleL .nil
theorem Flat.B (b : List Int) : Flat (Go.Sw.lv encB b) := .lv fun n _ => .cons (.int _ _) .nil
theorem Flat.vw (b : List Int) : Flat (Go.Sw.vw b) := .aggL (.cons (.B b) .nil)

@[simp] theorem veq_B (b : List Int) : veq (Go.Sw.lv encB b) (Go.Sw.lv encB b) = true := veq_lv fun n _ v hv => by simp at hv; subst hv; simp
@[simp] theorem veq_vw (b : List Int) : veq (.agg #[Go.Sw.lv encB b]) (.agg #[Go.Sw.lv encB b]) = true := veq_agg (l := [Go.Sw.lv encB b]) fun v hv => by simp at hv; subst hv; simp

@[simp] theorem Fail_run (k : Nat) (H : Heap) : R (T k) F.view_Fail [] H = .panic failV H := by
  rw [view_Fail_R]
  refine nrm_throw ⟨H, ?_, Ext.refl H⟩ Flat.fail.alive
  simp -implicitDefEqProofs [view_Fail]
theorem Need_true (k : Nat) (H : Heap) : R (T k) F.view_Need [.bool true] H = .ok (.tuple #[]) H := by
  rw [view_Need_R]
  refine nrm_gc (Pure.of ?_) Flat.unit.alive
  simp -implicitDefEqProofs [view_Need]
theorem Need_false (k : Nat) (H : Heap) : R (T k) F.view_Need [.bool false] H = .panic failV H := by
  rw [view_Need_R]
  refine nrm_throw ⟨H, ?_, Ext.refl H⟩ Flat.fail.alive
  simp -implicitDefEqProofs [view_Need]
attribute [simp] Need_true Need_false

theorem pieceS_sl {H : Heap} {v : Value} {b l : List Int} (hv : Sl H 1 v encB b) {i n : Int} (h : pieceS b i n = some l) : Sl H 1 (subV 1 v i.toNat n.toNat) encB l := by
  unfold pieceS at h
  split at h
  · injection h with h; subst h
    exact (hv.sub encB_len .i64 .i64 .i64 i.toNat n.toNat (by omega)).2
  · cases h

theorem piece_run (k : Nat) {H : Heap} {v : Value} {b : List Int} (hv : Sl H 1 v encB b) (i n : Int) (hl : b.length < 2 ^ 62) : R (T k) F.view_View_piece [.agg #[v], .int .i64 i, .int .i64 n] H = orF (pieceS b i n) (fun _ => subV 1 v i.toNat n.toNat) H := by
  rw [view_View_piece_R]
  have bx : ∀ H : Heap, boxR (.agg #[v]) H = newP [v] H := fun _ => rfl
  have hlen := hv.len
  by_cases h1 : 0 ≤ i
  · by_cases h2 : 0 ≤ n
    · by_cases h3 : i ≤ b.length
      · by_cases h4 : n ≤ b.length - i
        · have hp : pieceS b i n = some ((b.drop i.toNat).take n.toNat) := by rw [pieceS, if_pos ⟨h1, h2, h3, h4⟩]
          rw [hp]
          obtain ⟨i', rfl⟩ := Int.eq_ofNat_of_zero_le h1
          obtain ⟨n', rfl⟩ := Int.eq_ofNat_of_zero_le h2
          rw [Int.toNat_natCast, Int.toNat_natCast]
          obtain ⟨hs, hs2⟩ := hv.sub encB_len .i64 .i64 .i64 i' n' (by omega)
          have hs := hs _ ((Ext.refl H).push ⟨[v], 1, false⟩)
          rw [show (((i' + n' : Nat) : Nat) : Int) = (i' : Int) + n' by omega] at hs
          refine nrm_gc ⟨H.push ⟨[v], 1, false⟩, ?_, (Ext.refl H).push _⟩ (hs2.alive fun _ _ => .cons (.int _ _) .nil)
          simp -implicitDefEqProofs (disch := omega) [view_View_piece, bx, hlen, h3, h4, hs]
        · have hp : pieceS b i n = none := by rw [pieceS, if_neg (fun h => h4 h.2.2.2)]
          rw [hp]
          refine nrm_throw ⟨H.push ⟨[v], 1, false⟩, ?_, (Ext.refl H).push _⟩ Flat.fail.alive
          simp -implicitDefEqProofs (disch := omega) [view_View_piece, bx, hlen, h1, h2, h3, h4]
      · have hp : pieceS b i n = none := by rw [pieceS, if_neg (fun h => h3 h.2.2.1)]
        rw [hp]
        refine nrm_throw ⟨H.push ⟨[v], 1, false⟩, ?_, (Ext.refl H).push _⟩ Flat.fail.alive
        simp -implicitDefEqProofs (disch := omega) [view_View_piece, bx, hlen, h1, h2, h3]
    · have hp : pieceS b i n = none := by rw [pieceS, if_neg (fun h => h2 h.2.1)]
      rw [hp]
      refine nrm_throw ⟨H.push ⟨[v], 1, false⟩, ?_, (Ext.refl H).push _⟩ Flat.fail.alive
      simp -implicitDefEqProofs (disch := omega) [view_View_piece, bx, hlen, h1, h2]
  · have hp : pieceS b i n = none := by rw [pieceS, if_neg (fun h => h1 h.1)]
    rw [hp]
    refine nrm_throw ⟨H.push ⟨[v], 1, false⟩, ?_, (Ext.refl H).push _⟩ Flat.fail.alive
    simp -implicitDefEqProofs (disch := omega) [view_View_piece, bx, hlen, h1]

theorem pieceS_len {b : List Int} {i n : Int} {l : List Int} (h : pieceS b i n = some l) : (l.length : Int) = n := by
  unfold pieceS at h
  split at h
  · injection h with h; subst h
    simp
    omega
  · cases h
theorem boxR_vw (v : Value) (H : Heap) : boxR (.agg #[v]) H = newP [v] H := rfl
theorem two_of {l : List Int} (h : (l.length : Int) = 2) : ∃ x y, l = [x, y] := by
  match l, h with
  | [x, y], _ => exact ⟨x, y, rfl⟩
theorem four_of {l : List Int} (h : (l.length : Int) = 4) : ∃ x y z u, l = [x, y, z, u] := by
  match l, h with
  | [x, y, z, u], _ => exact ⟨x, y, z, u, rfl⟩
theorem one_of {l : List Int} (h : (l.length : Int) = 1) : ∃ x, l = [x] := by
  match l, h with
  | [x], _ => exact ⟨x, rfl⟩


theorem U16_run (k : Nat) {H : Heap} {v : Value} {b : List Int} (hv : Sl H 1 v encB b) (hb : Byt b) (i : Int) (hl : b.length < 2 ^ 62) : R (T k) F.view_View_U16 [.agg #[v], .int .i64 i] H = orF (uS b i 2) (.int .i64) H := by
  rw [view_View_U16_R]
  have hx1 : Ext H (H.push ⟨[v], 1, false⟩) := (Ext.refl H).push _
  have hp := piece_run k (hv.up hx1) i 2 hl
  unfold uS
  cases h : pieceS b i 2 with
  | none =>
    rw [h] at hp
    refine nrm_throw ⟨_, ?_, hx1⟩ Flat.fail.alive
    simp -implicitDefEqProofs (disch := omega) [view_View_U16, hp]
  | some l =>
    have hsl := pieceS_sl (hv.up hx1) h
    generalize subV 1 v i.toNat (2 : Int).toNat = v' at hp hsl
    obtain ⟨x, y, rfl⟩ := two_of (pieceS_len h)
    rw [h] at hp
    have hx := (hb.piece h).1 x (by simp)
    have hy := (hb.piece h).1 y (by simp)
    obtain ⟨p0, i0, d0⟩ := hsl.ix1 encB_len 0 x rfl _ rfl
    obtain ⟨p1, i1, d1⟩ := hsl.ix1 encB_len 1 y rfl _ rfl
    have i0 : ∀ H', ixS 1 v' (.int .i64 0) H' = .ok p0 H' := i0 .i64
    have i1 : ∀ H', ixS 1 v' (.int .i64 1) H' = .ok p1 H' := i1 .i64
    have d0 := d0 _ (Ext.refl _)
    have d1 := d1 _ (Ext.refl _)
    refine nrm_gc ⟨_, ?_, hx1⟩ (.int _ _)
    have or1 := fun H => bin_or Prog 3 H (x * 256) y 8 (by omega) (by omega) (by omega) (by omega) (by omega)
    simp -implicitDefEqProofs (disch := omega) [view_View_U16, hp, i0, i1, d0, d1, or1, num]
    omega
theorem U8_run (k : Nat) {H : Heap} {v : Value} {b : List Int} (hv : Sl H 1 v encB b) (hb : Byt b) (i : Int) (hl : b.length < 2 ^ 62) : R (T k) F.view_View_U8 [.agg #[v], .int .i64 i] H = orF (uS b i 1) (.int .i64) H := by
  rw [view_View_U8_R]
  have hx1 : Ext H (H.push ⟨[v], 1, false⟩) := (Ext.refl H).push _
  have hp := piece_run k (hv.up hx1) i 1 hl
  unfold uS
  cases h : pieceS b i 1 with
  | none =>
    rw [h] at hp
    refine nrm_throw ⟨_, ?_, hx1⟩ Flat.fail.alive
    simp -implicitDefEqProofs (disch := omega) [view_View_U8, hp]
  | some l =>
    have hsl := pieceS_sl (hv.up hx1) h
    generalize subV 1 v i.toNat (1 : Int).toNat = v' at hp hsl
    obtain ⟨x, rfl⟩ := one_of (pieceS_len h)
    rw [h] at hp
    have hx := (hb.piece h).1 x (by simp)
    obtain ⟨p0, i0, d0⟩ := hsl.ix1 encB_len 0 x rfl _ rfl
    have i0 : ∀ H', ixS 1 v' (.int .i64 0) H' = .ok p0 H' := i0 .i64
    have d0 := d0 _ (Ext.refl _)
    refine nrm_gc ⟨_, ?_, hx1⟩ (.int _ _)
    simp -implicitDefEqProofs (disch := omega) [view_View_U8, hp, i0, d0, num]

theorem U32_run (k : Nat) {H : Heap} {v : Value} {b : List Int} (hv : Sl H 1 v encB b) (hb : Byt b) (i : Int) (hl : b.length < 2 ^ 62) : R (T k) F.view_View_U32 [.agg #[v], .int .i64 i] H = orF (uS b i 4) (.int .i64) H := by
  rw [view_View_U32_R]
  have hx1 : Ext H (H.push ⟨[v], 1, false⟩) := (Ext.refl H).push _
  have hp := piece_run k (hv.up hx1) i 4 hl
  unfold uS
  cases h : pieceS b i 4 with
  | none =>
    rw [h] at hp
    refine nrm_throw ⟨_, ?_, hx1⟩ Flat.fail.alive
    simp -implicitDefEqProofs (disch := omega) [view_View_U32, hp]
  | some l =>
    have hsl := pieceS_sl (hv.up hx1) h
    generalize subV 1 v i.toNat (4 : Int).toNat = v' at hp hsl
    obtain ⟨x, y, z, u, rfl⟩ := four_of (pieceS_len h)
    rw [h] at hp
    have hx := (hb.piece h).1 x (by simp)
    have hy := (hb.piece h).1 y (by simp)
    have hz := (hb.piece h).1 z (by simp)
    have hu := (hb.piece h).1 u (by simp)
    obtain ⟨p0, i0, d0⟩ := hsl.ix1 encB_len 0 x rfl _ rfl
    have i0 : ∀ H', ixS 1 v' (.int .i64 0) H' = .ok p0 H' := i0 .i64
    have d0 := d0 _ (Ext.refl _)
    obtain ⟨p1, i1, d1⟩ := hsl.ix1 encB_len 1 y rfl _ rfl
    have i1 : ∀ H', ixS 1 v' (.int .i64 1) H' = .ok p1 H' := i1 .i64
    have d1 := d1 _ (Ext.refl _)
    obtain ⟨p2, i2, d2⟩ := hsl.ix1 encB_len 2 z rfl _ rfl
    have i2 : ∀ H', ixS 1 v' (.int .i64 2) H' = .ok p2 H' := i2 .i64
    have d2 := d2 _ (Ext.refl _)
    obtain ⟨p3, i3, d3⟩ := hsl.ix1 encB_len 3 u rfl _ rfl
    have i3 : ∀ H', ixS 1 v' (.int .i64 3) H' = .ok p3 H' := i3 .i64
    have d3 := d3 _ (Ext.refl _)
    refine nrm_gc ⟨_, ?_, hx1⟩ (.int _ _)
    have or1 := fun H => bin_or Prog 3 H (x * 16777216) (y * 65536) 24 (by omega) (by omega) (by omega) (by omega) (by omega)
    have or2 := fun H => bin_or Prog 3 H (x * 16777216 + y * 65536) (z * 256) 16 (by omega) (by omega) (by omega) (by omega) (by omega)
    have or3 := fun H => bin_or Prog 3 H (x * 16777216 + y * 65536 + z * 256) u 8 (by omega) (by omega) (by omega) (by omega) (by omega)
    simp -implicitDefEqProofs (disch := omega) [view_View_U32, hp, i0, i1, i2, i3, d0, d1, d2, d3, or1, or2, or3, num]
    omega

/-- A number of two bytes, of four, below nought too. -/
def s16 (n : Int) : Int := if n ≥ 32768 then n - 65536 else n
def s32 (n : Int) : Int := if n ≥ 2147483648 then n - 4294967296 else n
theorem wrap_s16 {n : Int} (h1 : 0 ≤ n) (h2 : n < 65536) : IntKind.i16.wrap n = s16 n := by
  unfold IntKind.wrap s16
  simp [IntKind.signed, IntKind.bits]
  omega
theorem wrap_s32 {n : Int} (h1 : 0 ≤ n) (h2 : n < 4294967296) : IntKind.i32.wrap n = s32 n := by
  unfold IntKind.wrap s32
  simp [IntKind.signed, IntKind.bits]
  omega
theorem uS_two {b : List Int} (hb : Byt b) {i x : Int} (h : uS b i 2 = some x) : 0 ≤ x ∧ x < 65536 := by
  unfold uS at h
  obtain ⟨l, hl, rfl⟩ := Option.map_eq_some_iff.1 h
  obtain ⟨x, y, rfl⟩ := two_of (pieceS_len hl)
  have hx := (hb.piece hl).1 x (by simp)
  have hy := (hb.piece hl).1 y (by simp)
  simp [num]
  omega
theorem uS_one {b : List Int} (hb : Byt b) {i x : Int} (h : uS b i 1 = some x) : 0 ≤ x ∧ x < 256 := by
  unfold uS at h
  obtain ⟨l, hl, rfl⟩ := Option.map_eq_some_iff.1 h
  obtain ⟨x, rfl⟩ := one_of (pieceS_len hl)
  have hx := (hb.piece hl).1 x (by simp)
  simp [num]
  omega
theorem uS_four {b : List Int} (hb : Byt b) {i x : Int} (h : uS b i 4 = some x) : 0 ≤ x ∧ x < 4294967296 := by
  unfold uS at h
  obtain ⟨l, hl, rfl⟩ := Option.map_eq_some_iff.1 h
  obtain ⟨x, y, z, u, rfl⟩ := four_of (pieceS_len hl)
  have hx := (hb.piece hl).1 x (by simp)
  have hy := (hb.piece hl).1 y (by simp)
  have hz := (hb.piece hl).1 z (by simp)
  have hu := (hb.piece hl).1 u (by simp)
  simp [num]
  omega

theorem I16_run (k : Nat) {H : Heap} {v : Value} {b : List Int} (hv : Sl H 1 v encB b) (hb : Byt b) (i : Int) (hl : b.length < 2 ^ 62) : R (T k) F.view_View_I16 [.agg #[v], .int .i64 i] H = orF ((uS b i 2).map s16) (.int .i64) H := by
  rw [view_View_I16_R]
  have hx1 : Ext H (H.push ⟨[v], 1, false⟩) := (Ext.refl H).push _
  have hp := U16_run k (hv.up hx1) hb i hl
  cases h : uS b i 2 with
  | none =>
    rw [h] at hp
    refine nrm_throw ⟨_, ?_, hx1⟩ Flat.fail.alive
    simp -implicitDefEqProofs (disch := omega) [view_View_I16, hp]
  | some x =>
    rw [h] at hp
    have hx := uS_two hb h
    have h1 : -32768 ≤ s16 x ∧ s16 x ≤ 32767 := by unfold s16; omega
    refine nrm_gc ⟨_, ?_, hx1⟩ (.int _ _)
    simp -implicitDefEqProofs (disch := omega) [view_View_I16, hp, wrap_s16 hx.1 hx.2]

theorem I32_run (k : Nat) {H : Heap} {v : Value} {b : List Int} (hv : Sl H 1 v encB b) (hb : Byt b) (i : Int) (hl : b.length < 2 ^ 62) : R (T k) F.view_View_I32 [.agg #[v], .int .i64 i] H = orF ((uS b i 4).map s32) (.int .i64) H := by
  rw [view_View_I32_R]
  have hx1 : Ext H (H.push ⟨[v], 1, false⟩) := (Ext.refl H).push _
  have hp := U32_run k (hv.up hx1) hb i hl
  cases h : uS b i 4 with
  | none =>
    rw [h] at hp
    refine nrm_throw ⟨_, ?_, hx1⟩ Flat.fail.alive
    simp -implicitDefEqProofs (disch := omega) [view_View_I32, hp]
  | some x =>
    rw [h] at hp
    have hx := uS_four hb h
    have h1 : -2147483648 ≤ s32 x ∧ s32 x ≤ 2147483647 := by unfold s32; omega
    refine nrm_gc ⟨_, ?_, hx1⟩ (.int _ _)
    simp -implicitDefEqProofs (disch := omega) [view_View_I32, hp, wrap_s32 hx.1 hx.2]

theorem Cut_run (k : Nat) {H : Heap} {v : Value} {b : List Int} (hv : Sl H 1 v encB b) (i n : Int) (hl : b.length < 2 ^ 62) : R (T k) F.view_View_Cut [.agg #[v], .int .i64 i, .int .i64 n] H = orF (pieceS b i n) (fun _ => .agg #[subV 1 v i.toNat n.toNat]) H := by
  rw [view_View_Cut_R]
  have hx2 : Ext H ((H.push ⟨[v], 1, false⟩).push ⟨[.slice none 0 0], 1, false⟩) := ((Ext.refl H).push _).push _
  have hp := piece_run k (hv.up hx2) i n hl
  cases h : pieceS b i n with
  | none =>
    rw [h] at hp
    refine nrm_throw ⟨_, ?_, hx2⟩ Flat.fail.alive
    simp -implicitDefEqProofs (disch := omega) [view_View_Cut, hp]
  | some l =>
    rw [h] at hp
    have hs := pieceS_sl hv h
    generalize subV 1 v i.toNat n.toNat = v' at hp hs ⊢
    refine nrm_gc ⟨_, ?_, ((Ext.refl H).push ⟨[v], 1, false⟩).push ⟨[v'], 1, false⟩⟩ (.agg _ fun i u hu => ?_)
    · simp -implicitDefEqProofs (disch := omega) [view_View_Cut, hp, hs.storable, hs.cells]
    · match i, hu with
      | 0, hu => simp at hu; subst hu; exact hs.alive fun _ _ => .cons (.int _ _) .nil
      | i + 1, hu => simp at hu
def restS (b : List Int) (i : Int) : Option (List Int) := if 0 ≤ i ∧ i ≤ b.length then some (b.drop i.toNat) else none
theorem restS_piece (b : List Int) (i n : Int) (hn : 0 ≤ n) (h : 0 ≤ i → n = max (b.length - i) 0) : pieceS b i n = restS b i := by
  unfold pieceS restS
  by_cases h0 : 0 ≤ i
  · have := h h0
    subst this
    by_cases h1 : i ≤ b.length
    · rw [if_pos ⟨h0, by omega, h1, by omega⟩, if_pos ⟨h0, h1⟩, List.take_of_length_le (by simp; omega)]
    · rw [if_neg (by omega), if_neg (by omega)]
  · rw [if_neg (by omega), if_neg (by omega)]

theorem alive_agg {H : Heap} {v : Value} (h : Alive H v) : Alive H (.agg #[v]) := .agg _ fun i u hu => by
  match i, hu with
  | 0, hu => simp at hu; subst hu; exact h
  | i + 1, hu => simp at hu
theorem Sl.vw {H : Heap} {v : Value} {b : List Int} (hv : Sl H 1 v encB b) : Alive H (.agg #[v]) := alive_agg (hv.alive fun _ _ => .cons (.int _ _) .nil)

/-- How many bytes stand behind a place. -/
def behind (b : List Int) (i : Int) : Int := if 0 > IntKind.i64.wrap ((b.length : Int) - i) then 0 else IntKind.i64.wrap ((b.length : Int) - i)
theorem behind_piece (b : List Int) (i : Int) (hl : b.length < 2 ^ 62) (hi : i ≤ 9223372036854775807) : pieceS b i (behind b i) = restS b i := by
  unfold behind
  exact restS_piece b i _ (by split <;> omega) (fun h0 => by rw [wrap_i64 (by omega) (by omega)]; omega)
theorem Rest_run (k : Nat) {H : Heap} {v : Value} {b : List Int} (hv : Sl H 1 v encB b) (i : Int) (hl : b.length < 2 ^ 62) (hi : i ≤ 9223372036854775807) : R (T k) F.view_View_Rest [.agg #[v], .int .i64 i] H = orF (restS b i) (fun _ => .agg #[subV 1 v i.toNat (behind b i).toNat]) H := by
  rw [view_View_Rest_R]
  have hx2 : Ext H ((H.push ⟨[v], 1, false⟩).push ⟨[.slice none 0 0], 1, false⟩) := ((Ext.refl H).push _).push _
  have hp := piece_run k (hv.up hx2) i (behind b i) hl
  have hlen := hv.len
  have hbp := behind_piece b i hl hi
  cases h : restS b i with
  | none =>
    rw [hbp, h] at hp
    unfold behind at hp
    refine nrm_throw ⟨_, ?_, hx2⟩ Flat.fail.alive
    simp -implicitDefEqProofs [view_View_Rest, -wrap_i64, hlen, hp]
  | some l =>
    rw [h] at hbp
    have hs := pieceS_sl hv hbp
    rw [hbp] at hp
    generalize subV 1 v i.toNat (behind b i).toNat = v' at hp hs ⊢
    unfold behind at hp
    refine nrm_gc ⟨_, ?_, ((Ext.refl H).push ⟨[v], 1, false⟩).push ⟨[v'], 1, false⟩⟩ hs.vw
    simp -implicitDefEqProofs [view_View_Rest, -wrap_i64, hlen, hp, hs.storable, hs.cells]

/-- A view of so many rows. -/
def rowsS (b : List Int) (i n s : Int) : Option (List Int) := if 0 ≤ n ∧ 0 ≤ s ∧ (s = 0 ∨ n ≤ (b.length : Int) / s) then pieceS b i (n * s) else none
theorem rowsS_piece {b : List Int} {i n s : Int} {l : List Int} (h : rowsS b i n s = some l) : pieceS b i (n * s) = some l := by
  unfold rowsS at h
  split at h
  · exact h
  · cases h

theorem Rows_run (k : Nat) {H : Heap} {v : Value} {b : List Int} (hv : Sl H 1 v encB b) (i n s : Int) (hl : b.length < 2 ^ 62) : R (T k) F.view_View_Rows [.agg #[v], .int .i64 i, .int .i64 n, .int .i64 s] H = orF (rowsS b i n s) (fun _ => .agg #[subV 1 v i.toNat (n * s).toNat]) H := by
  rw [view_View_Rows_R]
  have ext : Ext H ((H.push ⟨[v], 1, false⟩).push ⟨[.slice none 0 0], 1, false⟩) := ((Ext.refl H).push _).push _
  have hlen := hv.len
  by_cases h1 : 0 ≤ n
  · by_cases h2 : 0 ≤ s
    · have hcut := Cut_run k (hv.up ext) i (n * s) hl
      by_cases h3 : s = 0
      · subst h3
        have e : rowsS b i n 0 = pieceS b i (n * 0) := by rw [rowsS, if_pos ⟨h1, h2, .inl rfl⟩]
        rw [e]
        cases h : pieceS b i (n * 0) with
        | none =>
          rw [h] at hcut
          rw [Int.mul_zero] at hcut
          refine nrm_throw ⟨_, ?_, ext⟩ Flat.fail.alive
          simp -implicitDefEqProofs (disch := omega) [view_View_Rows, h1, hcut]
        | some l =>
          have hs := pieceS_sl hv h
          rw [h] at hcut
          generalize subV 1 v i.toNat (n * 0).toNat = v' at hcut hs ⊢
          rw [Int.mul_zero] at hcut
          refine nrm_gc ⟨_, ?_, ((Ext.refl H).push ⟨[v], 1, false⟩).push ⟨[v'], 1, false⟩⟩ hs.vw
          simp -implicitDefEqProofs (disch := omega) [view_View_Rows, h1, hcut]
      · have hq : ((b.length : Int).tdiv s) = (b.length : Int) / s := Int.tdiv_eq_ediv_of_nonneg (by omega)
        have hq0 : 0 ≤ (b.length : Int) / s := Int.ediv_nonneg (by omega) h2
        have hq1 : (b.length : Int) / s ≤ b.length := Int.ediv_le_self _ (by omega)
        have hb3 : (s == 0) = false := by simpa using h3
        have qr := fun H => bin_quo Prog 3 H .i64 (b.length : Int) s h3
        rw [hq] at qr
        by_cases h4 : n ≤ (b.length : Int) / s
        · have e : rowsS b i n s = pieceS b i (n * s) := by rw [rowsS, if_pos ⟨h1, h2, .inr h4⟩]
          have hm : n * s ≤ b.length := Int.le_trans (Int.mul_le_mul_of_nonneg_right h4 h2) (Int.ediv_mul_le _ h3)
          have hm0 : 0 ≤ n * s := Int.mul_nonneg h1 h2
          rw [e]
          cases h : pieceS b i (n * s) with
          | none =>
            rw [h] at hcut
            refine nrm_throw ⟨_, ?_, ext⟩ Flat.fail.alive
            simp -implicitDefEqProofs (disch := omega) [view_View_Rows, hlen, h1, h2, hb3, qr, h4, hcut]
          | some l =>
            have hs := pieceS_sl hv h
            rw [h] at hcut
            generalize subV 1 v i.toNat (n * s).toNat = v' at hcut hs ⊢
            refine nrm_gc ⟨_, ?_, ((Ext.refl H).push ⟨[v], 1, false⟩).push ⟨[v'], 1, false⟩⟩ hs.vw
            simp -implicitDefEqProofs (disch := omega) [view_View_Rows, hlen, h1, h2, hb3, qr, h4, hcut]
        · have e : rowsS b i n s = none := by rw [rowsS, if_neg (by omega)]
          rw [e]
          refine nrm_throw ⟨_, ?_, ext⟩ Flat.fail.alive
          simp -implicitDefEqProofs (disch := omega) [view_View_Rows, hlen, h1, h2, hb3, qr, h4]
    · have e : rowsS b i n s = none := by rw [rowsS, if_neg (by omega)]
      rw [e]
      refine nrm_throw ⟨_, ?_, ext⟩ Flat.fail.alive
      simp -implicitDefEqProofs (disch := omega) [view_View_Rows, h1, h2]
  · have e : rowsS b i n s = none := by rw [rowsS, if_neg (by omega)]
    rw [e]
    refine nrm_throw ⟨_, ?_, ext⟩ Flat.fail.alive
    simp -implicitDefEqProofs (disch := omega) [view_View_Rows, h1]

theorem Of_run (k : Nat) {H : Heap} {v : Value} {b : List Int} (hv : Sl H 1 v encB b) : R (T k) F.view_Of [v] H = .ok (.agg #[v]) H := by
  rw [view_Of_R]
  refine nrm_gc ⟨_, ?_, (Ext.refl H).push ⟨[v], 1, false⟩⟩ hv.vw
  simp -implicitDefEqProofs [view_Of, hv.storable, hv.cells]
end Go.Sw
