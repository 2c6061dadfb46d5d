/-
  Functions' forms, and what is proved of them, part 6.
-/
import Derived.Test.YtnaodjnimkndbaaSwW4
import Derived.Test.YtnaodjnimkndbaaSwW5
set_option linter.unusedSimpArgs false
set_option linter.unusedVariables false
set_option linter.unusedSectionVars false
section
namespace Go.Sw
open Go.RowKit
def placeS (l : List Int) (x : Int) : Option Nat := l.findIdx? fun y => decide (y = x)
theorem upS_get : ∀ {l : List Int}, upS l = true → ∀ (i j : Nat) (a b : Int), i < j → l[i]? = some a → l[j]? = some b → a < b
  | [], _, i, j, a, b, _, h, _ => by simp at h
  | [_], _, i, j, a, b, hij, ha, hb => by
    have := (List.getElem?_eq_some_iff.1 hb).1
    simp at this; omega
  | x :: y :: l, h, i, j, a, b, hij, ha, hb => by
    simp only [upS, Bool.and_eq_true, decide_eq_true_eq] at h
    obtain ⟨j, rfl⟩ : ∃ j', j = j' + 1 := ⟨j - 1, by omega⟩
    have hb : (y :: l)[j]? = some b := by simpa using hb
    cases i with
    | succ i => exact upS_get h.2 i j a b (by omega) (by simpa using ha) hb
    | zero =>
      simp at ha
      subst ha
      cases j with
      | zero => simp at hb; subst hb; exact h.1
      | succ j => have := upS_get h.2 0 (j + 1) y b (by omega) (by simp) hb; omega
theorem placeS_at {l : List Int} {x : Int} {i : Nat} (h : l[i]? = some x) (hup : upS l = true) : placeS l x = some i := by
  unfold placeS
  obtain ⟨hi, hg⟩ := List.getElem?_eq_some_iff.1 h
  rw [List.findIdx?_eq_some_iff_getElem]
  refine ⟨hi, by simpa using hg, fun j hj => ?_⟩
  have hjl : j < l.length := by omega
  have := upS_get hup j i l[j] x hj (List.getElem?_eq_getElem hjl) h
  simp; omega
theorem placeS_none {l : List Int} {x : Int} (h : ∀ y, y ∈ l → y ≠ x) : placeS l x = none := by
  unfold placeS
  rw [List.findIdx?_eq_none_iff]
  intro y hy
  simpa using h y hy
theorem Place_in1_run (k : Nat) {H : Heap} (l : List Int) (x : Int) (p1 p2 : Nat) (h1 : H.get p1 = some ⟨[lv encI l], 1, false⟩) (h2 : H.get p2 = some ⟨[.int .i64 x], 1, false⟩) (j : Nat) (y : Int) (hj : l[j]? = some y) :
    R (T k) F.seek_Place_in1 [.int .i64 j, ptrV p1, ptrV p2] H = .ok (.bool (decide (x ≤ y))) H := by
  rw [seek_Place_in1_R]
  refine nrm_gc (Pure.of ?_) (.bool _)
  have i1 := fun H' => ixS_lvN encI_len l .i64 j y hj H'
  simp -implicitDefEqProofs (disch := omega) [seek_Place_in1, h1, h2, i1]
theorem Place_run (k : Nat) (l : List Int) (hup : upS l = true) (hl : l.length < 2 ^ 31) (x : Int) (H : Heap) :
    R (T k) F.seek_Place [lv encI l, .int .i64 x] H = .ok (.tuple #[.int .i64 (((placeS l x).getD 0 : Nat) : Int), .bool (placeS l x).isSome]) H := by
  rw [seek_Place_R]
  have hx : Ext H ((H.push ⟨[lv encI l], 1, false⟩).push ⟨[.int .i64 x], 1, false⟩) := ((Ext.refl H).push _).push _
  have fl : ∀ (n : Int) b, Flat (.tuple #[.int .i64 n, .bool b]) := fun n b => .tupleL (.cons (.int _ _) (.cons (.bool _) .nil))
  have hmono : ∀ i j : Nat, i ≤ j → j < l.length → (l[i]?).elim false (fun y => decide (x ≤ y)) = true → (l[j]?).elim false (fun y => decide (x ≤ y)) = true := by
    intro i j hij hj hi
    by_cases he : i = j
    · subst he; exact hi
    · obtain ⟨p, hp⟩ : ∃ p, l[i]? = some p := ⟨_, List.getElem?_eq_getElem (by omega)⟩
      obtain ⟨q, hq⟩ : ∃ q, l[j]? = some q := ⟨_, List.getElem?_eq_getElem hj⟩
      have := upS_get hup i j p q (by omega) hp hq
      rw [hp] at hi
      rw [hq]
      simp at hi ⊢
      omega
  obtain ⟨i, hfi⟩ := isFirst_ex l.length (fun j => (l[j]?).elim false fun y => decide (x ≤ y)) hmono
  have hfirst := First_run k l.length (.func (.func F.seek_Place_in1) #[] #[ptrV H.n, ptrV (H.n + 1)]) (fun j => (l[j]?).elim false fun y => decide (x ≤ y)) ((H.push ⟨[lv encI l], 1, false⟩).push ⟨[.int .i64 x], 1, false⟩) (by omega)
    (fun j hj => by
      obtain ⟨y, hy⟩ : ∃ y, l[j]? = some y := ⟨_, List.getElem?_eq_getElem hj⟩
      have := Place_in1_run k (H := (H.push ⟨[lv encI l], 1, false⟩).push ⟨[.int .i64 x], 1, false⟩) l x H.n (H.n + 1) (by simp) (by simp) j y hy
      simp only [callV, List.nil_append, List.cons_append]
      rw [hy]
      simpa using this)
    hmono i hfi
  by_cases hil : i < l.length
  · obtain ⟨y, hy⟩ : ∃ y, l[i]? = some y := ⟨_, List.getElem?_eq_getElem hil⟩
    have hne : ((i : Int) == (l.length : Int)) = false := by simp; omega
    have i1 := fun H' => ixS_lvN encI_len l .i64 i y hy H'
    have hxy : x ≤ y := by
      have := hfi.2.2 i (Nat.le_refl _) hil
      simp only [hy] at this
      simpa using this
    by_cases he : y = x
    · subst he
      rw [placeS_at hy hup]
      refine nrm_gc ⟨_, ?_, hx⟩ (fl _ _).alive
      simp -implicitDefEqProofs (disch := omega) [seek_Place, hfirst, hne, i1, bne]
    · have hno : placeS l x = none := placeS_none fun z hz e => by
        subst e
        obtain ⟨j, hj⟩ := List.getElem?_of_mem hz
        have hjl := (List.getElem?_eq_some_iff.1 hj).1
        by_cases hji : j < i
        · have := hfi.2.1 j hji
          simp [hj] at this
        · by_cases hji2 : j = i
          · subst hji2; rw [hj] at hy; injection hy with hy; exact he hy.symm
          · have := upS_get hup i j y z (by omega) hy hj; omega
      rw [hno]
      have he' : (y == x) = false := by simpa using he
      refine nrm_gc ⟨_, ?_, hx⟩ (fl _ _).alive
      simp -implicitDefEqProofs (disch := omega) [seek_Place, hfirst, hne, i1, bne, he']
  · have hie : i = l.length := by have := hfi.1; omega
    have hno : placeS l x = none := placeS_none fun z hz e => by
      subst e
      obtain ⟨j, hj⟩ := List.getElem?_of_mem hz
      have hjl := (List.getElem?_eq_some_iff.1 hj).1
      have := hfi.2.1 j (by omega)
      simp [hj] at this
    rw [hno]
    subst hie
    refine nrm_gc ⟨_, ?_, hx⟩ (fl _ _).alive
    simp -implicitDefEqProofs (disch := omega) [seek_Place, hfirst, bne]
structure PTab.ok (t : PTab) : Prop where
  byt : Byt t.vb
  len : t.vb.length < 2 ^ 31
  body : (t.rows = none ∧ t.cols = none ∧ t.size = 2 ∧ t.vb.length = t.pairs.length * 6 ∧ upS t.pairs = true ∧ t.pairs.length < 2 ^ 31) ∨
    ∃ r c, t.rows = some r ∧ t.cols = some c ∧ ((∀ p, p ∈ r.2 → p.ok) ∧ risesS r.2 = true ∧ r.2.length < 2 ^ 31) ∧ ((∀ p, p ∈ c.2 → p.ok) ∧ risesS c.2 = true ∧ c.2.length < 2 ^ 31) ∧
      (t.size = 2 ∨ t.size = 4) ∧ (t.step = 1 ∨ t.step = 2 ∨ t.step = 4) ∧ (pieceS t.vb (t.step * (max (mostS r.2) 0 + max (mostS c.2) 0)) t.size).isSome = true
theorem pTabS_ok {b : List Int} (hb : Byt b) (hl : b.length < 2 ^ 31) {i g z step : Int} (hg : 1 ≤ g ∧ g ≤ 65535) (hz : z = 2 ∨ z = 4) (hst : step = 1 ∨ step = 2 ∨ step = 4) {t : PTab} (h : pTabS b i g z step = some t) : t.ok := by
  unfold pTabS at h
  obtain ⟨p, _, h⟩ := Option.bind_eq_some_iff.1 h
  obtain ⟨rb, hrb, h⟩ := Option.bind_eq_some_iff.1 h
  obtain ⟨rows, hrows, h⟩ := Option.bind_eq_some_iff.1 h
  obtain ⟨q, _, h⟩ := Option.bind_eq_some_iff.1 h
  obtain ⟨cb, hcb, h⟩ := Option.bind_eq_some_iff.1 h
  obtain ⟨cols, hcols, h⟩ := Option.bind_eq_some_iff.1 h
  obtain ⟨o, _, h⟩ := Option.bind_eq_some_iff.1 h
  obtain ⟨vb, hvb, h⟩ := Option.bind_eq_some_iff.1 h
  obtain ⟨r, hr, rfl⟩ := Option.map_eq_some_iff.1 h
  have ok1 := lookS_ok (hb.rest hrb) hg.1 hg.2 hz hrows
  have ok2 := lookS_ok (hb.rest hcb) hg.1 hg.2 hz hcols
  have := restS_len hvb
  exact ⟨hb.rest hvb, by dsimp only; omega, .inr ⟨rows, cols, rfl, rfl, ⟨ok1.2.1, ok1.2.2, lookS_len (hb.rest hrb) hrows⟩, ⟨ok2.2.1, ok2.2.2, lookS_len (hb.rest hcb) hcols⟩, hz, hst, by dsimp only; rw [hr]; rfl⟩⟩
theorem pListS_ok {b : List Int} (hb : Byt b) (hl : b.length < 2 ^ 31) {t : PTab} (h : pListS b = some t) : t.ok := by
  unfold pListS at h
  obtain ⟨n, _, h⟩ := Option.bind_eq_some_iff.1 h
  obtain ⟨c, _, h⟩ := Option.bind_eq_some_iff.1 h
  obtain ⟨r, hr, h⟩ := Option.bind_eq_some_iff.1 h
  split at h
  · rename_i hup
    injection h with h
    subst h
    have hn := rowsS_n hr
    have hrl := pieceS_len (rowsS_piece hr)
    have hkl : (keysS r n).length = n.toNat := by unfold keysS; simp
    exact ⟨(hb.piece (rowsS_piece hr)).1, by dsimp only; omega, .inl ⟨rfl, rfl, rfl, by dsimp only; omega, hup, by dsimp only; omega⟩⟩
  · cases h
theorem pTakeS_ok {kind : Int} {b : List Int} (hb : Byt b) (hl : b.length < 2 ^ 31) {g : Int} (hg : 1 ≤ g ∧ g ≤ 65535) {t : PTab} (h : pTakeS kind b g = some t) : t.ok := by
  unfold pTakeS at h
  split at h
  · exact pListS_ok hb hl h
  split at h
  · exact pTabS_ok hb hl hg (by omega) (by omega) h
  split at h
  · obtain ⟨f, _, h⟩ := Option.bind_eq_some_iff.1 h
    split at h
    · exact pTabS_ok hb hl hg (by omega) (by omega) h
    · exact pTabS_ok hb hl hg (by omega) (by omega) h
  · cases h
def pvalS (t : PTab) (i : Int) : Int := if t.size = 4 then s32 (gU t.vb i 4) else s16 (gU t.vb i 2)
def pgetS (t : PTab) (l r : Int) : Int :=
  match t.rows, t.cols with
  | some a, some c => pvalS t (t.step * ((getS a.2 l).getD 0 + (getS c.2 r).getD 0))
  | _, _ => if l < 0 ∨ l > 65535 ∨ r < 0 ∨ r > 65535 then 0 else match placeS t.pairs (l * 65536 + r) with | some i => pvalS t (6 * (i : Int) + 4) | none => 0
theorem pval_run (k : Nat) (t : PTab) (hb : Byt t.vb) (hl : t.vb.length < 2 ^ 31) (hz : t.size = 2 ∨ t.size = 4) (i : Int) (h : (pieceS t.vb i t.size).isSome = true) (H : Heap) : R (T k) F.pair_Table_value [ptabV t, .int .i64 i] H = .ok (.int .i64 (pvalS t i)) H := by
  rw [pair_Table_value_R]
  refine nrm_gc (Pure.of ?_) (.int _ _)
  obtain ⟨r, hr⟩ := Option.isSome_iff_exists.1 h
  unfold pvalS
  rcases hz with hz | hz
  · rw [hz] at hr ⊢
    have hu : uS t.vb i 2 = some (num r) := by unfold uS; rw [hr]; rfl
    have h16 := I16_run k (Sl.lv H 1 t.vb) hb i (by omega)
    rw [hu, Option.map_some, orF_some'] at h16
    rw [gU_some hu]
    simp -implicitDefEqProofs (disch := omega) [pair_Table_value, hz, h16]
  · rw [hz] at hr ⊢
    have hu : uS t.vb i 4 = some (num r) := by unfold uS; rw [hr]; rfl
    have h32 := I32_run k (Sl.lv H 1 t.vb) hb i (by omega)
    rw [hu, Option.map_some, orF_some'] at h32
    rw [gU_some hu]
    simp -implicitDefEqProofs (disch := omega) [pair_Table_value, hz, h32]
theorem piece_less {vb : List Int} {i j z : Int} (h0 : 0 ≤ i) (hij : i ≤ j) (h : (pieceS vb j z).isSome = true) : (pieceS vb i z).isSome = true := by
  rw [inS_piece] at h ⊢
  unfold inS at h ⊢
  rw [decide_eq_true_eq] at h ⊢
  omega
theorem pGet_run (k : Nat) (t : PTab) (ht : t.ok) (l r : Int) (H : Heap) : R (T k) F.pair_Table_Get [ptabV t, .int .i64 l, .int .i64 r] H = .ok (.int .i64 (pgetS t l r)) H := by
  rw [pair_Table_Get_R]
  refine nrm_gc (Pure.of ?_) (.int _ _)
  have hval := fun hz i h H => pval_run k t ht.byt ht.len hz i h H
  obtain ⟨pairs, vb, rows, cols, step, size⟩ := t
  obtain ⟨hb, hl, hbody⟩ := ht
  dsimp only at hb hl hbody hval
  rcases hbody with ⟨rfl, rfl, hz, hvl, hup, hpl⟩ | ⟨a, c, rfl, rfl, ha, hc, hz, hst, hp⟩
  · unfold pgetS
    dsimp only
    by_cases c1 : l < 0
    · rw [if_pos (.inl c1)]
      simp -implicitDefEqProofs (disch := omega) [pair_Table_Get, lookV, c1]
    by_cases c2 : l > 65535
    · rw [if_pos (.inr (.inl c2))]
      simp -implicitDefEqProofs (disch := omega) [pair_Table_Get, lookV, c1, c2]
    by_cases c3 : r < 0
    · rw [if_pos (.inr (.inr (.inl c3)))]
      simp -implicitDefEqProofs (disch := omega) [pair_Table_Get, lookV, c1, c2, c3]
    by_cases c4 : r > 65535
    · rw [if_pos (.inr (.inr (.inr c4)))]
      simp -implicitDefEqProofs (disch := omega) [pair_Table_Get, lookV, c1, c2, c3, c4]
    rw [if_neg (by omega)]
    have hor := fun H => bin_or Prog 3 H (l * 65536) r 16 (by omega) (by omega) (by omega) (by omega) (by omega)
    have hpl2 := fun H => Place_run k pairs hup hpl (l * 65536 + r) H
    cases hpp : placeS pairs (l * 65536 + r) with
    | none =>
      rw [hpp] at hpl2
      simp at hpl2
      simp -implicitDefEqProofs (disch := omega) [pair_Table_Get, lookV, c1, c2, c3, c4, hor, hpl2]
    | some i =>
      rw [hpp] at hpl2
      simp at hpl2
      have hi : i < pairs.length := by
        unfold placeS at hpp
        obtain ⟨h, _⟩ := List.findIdx?_eq_some_iff_getElem.1 hpp
        exact h
      have hv := fun H => hval (.inl hz) (6 * (i : Int) + 4) (by rw [hz, inS_piece]; unfold inS; rw [decide_eq_true_eq]; omega) H
      simp -implicitDefEqProofs (disch := omega) [pair_Table_Get, lookV, c1, c2, c3, c4, hor, hpl2, hv]
  · have g1 := fun H => Get_run k a ha.1 ha.2.1 l ha.2.2 H
    have g2 := fun H => Get_run k c hc.1 hc.2.1 r hc.2.2 H
    unfold pgetS
    dsimp only
    have b1 := mostS_bound ha.1
    have b2 := mostS_bound hc.1
    have x1 : 0 ≤ (getS a.2 l).getD 0 ∧ (getS a.2 l).getD 0 ≤ max (mostS a.2) 0 := by
      cases h : getS a.2 l with
      | none => simp; omega
      | some x => have := getS_most h; have := getS_nonneg ha.1 h; simp; omega
    have x2 : 0 ≤ (getS c.2 r).getD 0 ∧ (getS c.2 r).getD 0 ≤ max (mostS c.2) 0 := by
      cases h : getS c.2 r with
      | none => simp; omega
      | some x => have := getS_most h; have := getS_nonneg hc.1 h; simp; omega
    generalize (getS a.2 l).getD 0 = u at g1 x1 ⊢
    generalize (getS c.2 r).getD 0 = v at g2 x2 ⊢
    have s0 : 0 ≤ step * (u + v) := Int.mul_nonneg (by omega) (by omega)
    have s1 : step * (u + v) ≤ step * (max (mostS a.2) 0 + max (mostS c.2) 0) := Int.mul_le_mul_of_nonneg_left (by omega) (by omega)
    have s2 : step * (u + v) ≤ 4 * 8589934592 := Int.mul_le_mul (by omega) (by omega) (by omega) (by omega)
    have hv := fun H => hval hz (step * (u + v)) (piece_less s0 s1 hp) H
    simp -implicitDefEqProofs (disch := omega) [pair_Table_Get, lookV, g1, g2, hv]
end Go.Sw
end
