/-
  Rows of elements in a block's cells; slices that a run owns; what append, copy, load and store make of them.
-/
import Derived.Test.YtnaodjnimkndbaaSwH
namespace Go.Sw

/-- Elements, cell by cell. -/
def rows {α : Type} (enc : α → List Value) (l : List α) : List Value := l.flatMap enc
theorem rows_nil {α : Type} (enc : α → List Value) : rows enc [] = [] := rfl
theorem rows_cons {α : Type} (enc : α → List Value) (x : α) (l : List α) : rows enc (x :: l) = enc x ++ rows enc l := List.flatMap_cons
theorem rows_append {α : Type} (enc : α → List Value) (a b : List α) : rows enc (a ++ b) = rows enc a ++ rows enc b := List.flatMap_append
theorem rows_one {α : Type} (enc : α → List Value) (x : α) : rows enc [x] = enc x := by simp [rows]

section
variable {α : Type} {enc : α → List Value} {m : Nat} (he : ∀ x, (enc x).length = m)
include he
theorem rows_length (l : List α) : (rows enc l).length = l.length * m := by
  induction l with
  | nil => simp [rows]
  | cons x l ih => rw [rows_cons, List.length_append, ih, he, List.length_cons, Nat.add_mul]; omega

theorem rows_drop : ∀ (l : List α) (i : Nat), (rows enc l).drop (i * m) = rows enc (l.drop i)
  | [], i => by simp [rows]
  | x :: l, 0 => by simp
  | x :: l, i + 1 => by
    rw [rows_cons, Nat.add_mul, Nat.one_mul, List.drop_succ_cons, Nat.add_comm, ← List.drop_drop]
    rw [List.drop_append_of_le_length (by rw [he]; exact Nat.le_refl _)]
    have e0 : (enc x).drop m = [] := List.drop_of_length_le (by rw [he]; exact Nat.le_refl _)
    rw [e0, List.nil_append]
    exact rows_drop l i

theorem rows_take : ∀ (l : List α) (i : Nat), (rows enc l).take (i * m) = rows enc (l.take i)
  | [], i => by simp [rows]
  | x :: l, 0 => by simp [rows]
  | x :: l, i + 1 => by
    rw [rows_cons, Nat.add_mul, Nat.one_mul, List.take_succ_cons, rows_cons, Nat.add_comm, List.take_add]
    rw [List.take_append_of_le_length (by rw [he]; exact Nat.le_refl _), List.take_of_length_le (by rw [he]; exact Nat.le_refl _)]
    have e0 : (enc x).drop m = [] := List.drop_of_length_le (by rw [he]; exact Nat.le_refl _)
    rw [List.drop_append_of_le_length (by rw [he]; exact Nat.le_refl _), e0, List.nil_append, rows_take l i]

/-- An element as a row. -/
theorem rows_at (l : List α) (i : Nat) (x : α) (h : l[i]? = some x) : ((rows enc l).drop (i * m)).take m = enc x := by
  rw [rows_drop he]
  obtain ⟨hi, hx⟩ := List.getElem?_eq_some_iff.1 h
  rw [List.drop_eq_getElem_cons hi, hx, rows_cons, List.take_append_of_le_length (by rw [he]; exact Nat.le_refl _), List.take_of_length_le (by rw [he]; exact Nat.le_refl _)]

/-- A cell of an element. -/
theorem rows_cell (l : List α) (i c : Nat) (x : α) (h : l[i]? = some x) (hc : c < m) : (rows enc l)[i * m + c]? = (enc x)[c]? := by
  rw [← rows_at he l i x h, List.getElem?_take, if_pos hc, List.getElem?_drop]

/-- A cell of an element is written. -/
theorem rows_put (l : List α) (i c : Nat) (x y : α) (vs : List Value) (h : l[i]? = some x) (hc : c + vs.length ≤ m) (hy : enc y = splice (enc x) c vs) : splice (rows enc l) (i * m + c) vs = rows enc (l.set i y) := by
  obtain ⟨hi, hx⟩ := List.getElem?_eq_some_iff.1 h
  have e1 : l = l.take i ++ (x :: l.drop (i + 1)) := by
    rw [← hx, List.getElem_cons_drop, List.take_append_drop]
  have e2 : l.set i y = l.take i ++ (y :: l.drop (i + 1)) := by
    rw [List.set_eq_take_append_cons_drop, if_pos hi]
  have hl : (rows enc (l.take i)).length = i * m := by
    rw [rows_length he, List.length_take, Nat.min_eq_left (by omega)]
  rw [e2, rows_append, rows_cons, hy]
  conv => lhs; rw [e1]
  rw [rows_append, rows_cons]
  unfold splice
  rw [List.take_append, List.drop_append, hl]
  simp only [Nat.add_sub_cancel_left, Nat.add_assoc]
  rw [List.take_of_length_le (l := rows enc (l.take i)) (by omega), List.drop_of_length_le (l := rows enc (l.take i)) (by omega)]
  rw [List.take_append_of_le_length (by rw [he]; omega)]
  rw [List.nil_append, List.drop_append_of_le_length (by rw [he]; omega)]
  simp [List.append_assoc]
end
end Go.Sw
