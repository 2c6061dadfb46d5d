/-
  Turning a row about, in place.
-/
import Derived.Test.YtnaodjnimkndbaaSwAH
namespace Go.Sw
open Go.RowKit

/-- The first i, and the last i, have changed places. -/
def RevTo {α : Type} (l r : List α) (i : Nat) : Prop :=
  r.length = l.length ∧ ∀ j, j < l.length → r[j]? = if j < i ∨ l.length - i ≤ j then l[l.length - 1 - j]? else l[j]?

theorem RevTo.zero {α : Type} (l : List α) : RevTo l l 0 := ⟨rfl, fun j hj => by rw [if_neg (by omega)]⟩

theorem RevTo.step {α : Type} {l r : List α} {i : Nat} (h : RevTo l r i) (hi : i + i + 1 < l.length) :
    ∃ x y, r[l.length - 1 - i]? = some x ∧ r[i]? = some y ∧ RevTo l ((r.set i x).set (l.length - 1 - i) y) (i + 1) := by
  obtain ⟨h1, h2⟩ := h
  have e1 := h2 (l.length - 1 - i) (by omega)
  have e2 := h2 i (by omega)
  rw [if_neg (by omega)] at e1 e2
  have g1 : l[l.length - 1 - i]? = some l[l.length - 1 - i] := List.getElem?_eq_getElem _
  have g2 : l[i]? = some l[i] := List.getElem?_eq_getElem _
  refine ⟨l[l.length - 1 - i], l[i], by rw [e1, g1], by rw [e2, g2], by simp [h1], fun j hj => ?_⟩
  by_cases hj1 : j = l.length - 1 - i
  · subst hj1
    rw [List.getElem?_set_self (by simp [h1]; omega), if_pos (by omega), show l.length - 1 - (l.length - 1 - i) = i by omega, g2]
  · rw [List.getElem?_set_ne (by omega)]
    by_cases hj2 : j = i
    · subst hj2
      rw [List.getElem?_set_self (by omega), if_pos (by omega), g1]
    · rw [List.getElem?_set_ne (by omega), h2 j hj]
      by_cases hc : j < i ∨ l.length - i ≤ j
      · rw [if_pos hc, if_pos (by omega)]
      · rw [if_neg hc, if_neg (by omega)]

theorem RevTo.done {α : Type} {l r : List α} (h : RevTo l r (l.length / 2)) : r = l.reverse := by
  obtain ⟨h1, h2⟩ := h
  apply List.ext_getElem?
  intro j
  by_cases hj : j < l.length
  · rw [h2 j hj, List.getElem?_reverse hj]
    by_cases hc : j < l.length / 2 ∨ l.length - l.length / 2 ≤ j
    · rw [if_pos hc]
    · rw [if_neg hc, show l.length - 1 - j = j by omega]
  · rw [List.getElem?_eq_none (by omega), List.getElem?_eq_none (by simp; omega)]

/-- Two elements of a row change places: what the heap is behind it. -/
theorem swap_row {α : Type} {enc : α → List Value} {m e : Nat} (he : ∀ x, (enc x).length = m) (hst : ∀ x, storable (.agg (enc x).toArray) = true) {H : Heap} {b : Nat} {l : List α} (hb : H.get b = some ⟨rows enc l, e, false⟩) {i j : Nat} {x y : α} (hj : l[j]? = some x) (hi : l[i]? = some y) :
    ∃ H1 H2, stR m (.pointer (some ⟨b, i * m, none⟩)) (.agg (enc x).toArray) H = .ok undef H1 ∧ stR m (.pointer (some ⟨b, j * m, none⟩)) (.agg (enc y).toArray) H1 = .ok undef H2 ∧ H2.get b = some ⟨rows enc ((l.set i x).set j y), e, false⟩ ∧ (∀ d, d ≠ b → H2.get d = H.get d) ∧ H2.n = H.n := by
  have sp : ∀ x y, enc y = splice (enc x) 0 (Value.cells (.agg (enc y).toArray)).toList := fun x y => by
    show enc y = splice (enc x) 0 (enc y)
    unfold splice
    simp [he]
  have hsz : ∀ y, (Value.cells (.agg (enc y).toArray)).size = m := fun y => by
    show (enc y).toArray.size = m
    simp [he]
  obtain ⟨H1, a1, a2, a3, a4⟩ := st_row he hb (c := 0) (n := m) x (v := .agg (enc x).toArray) hi (hsz x) (hst x) (by omega) (sp _ _)
  have hjlt := (List.getElem?_eq_some_iff.1 hj).1
  obtain ⟨z, hz⟩ : ∃ z, (l.set i x)[j]? = some z := ⟨(l.set i x)[j]'(by simpa using hjlt), List.getElem?_eq_getElem _⟩
  obtain ⟨H2, b1, b2, b3, b4⟩ := st_row he a2 (c := 0) (n := m) y (v := .agg (enc y).toArray) hz (hsz y) (hst y) (by omega) (sp _ _)
  rw [Nat.add_zero] at a1 b1
  exact ⟨H1, H2, a1, b1, b2, fun d hd => by rw [b3 d hd, a3 d hd], by rw [b4, a4]⟩
end Go.Sw
