/-
  Small laws of operations.
-/
import Derived.Test.YtnaodjnimkndbaaSwCp
import Derived.Test.YtnaodjnimkndbaaSwLib9
namespace Go.Sw
open Go.RowKit

/-- An element of an array, of one cell. -/
theorem iv1_get {len : Nat} {cs : Array Value} {k : IntKind} {j : Nat} {v : Value} (hj : j < len) (h : cs[j]? = some v) (H : Heap) : iv1 len 1 (.agg cs) (.int k (j : Nat)) H = .ok v H := by
  unfold iv1
  dsimp only
  rw [if_pos ⟨by omega, by omega⟩, Int.toNat_natCast, Nat.mul_one, h]
  rfl
theorem ixA_get {len m b off : Nat} {k : IntKind} {j : Nat} (hj : j < len) (H : Heap) : ixA len m (.pointer (some ⟨b, off, none⟩)) (.int k (j : Nat)) H = .ok (.pointer (some ⟨b, off + j * m, none⟩)) H := by
  unfold ixA
  dsimp only
  rw [if_pos ⟨by omega, by omega⟩, Int.toNat_natCast]

section
variable {α : Type} {enc : α → List Value}
/-- Cells of an element of a row are written. -/
theorem Star.stRow {H0 H : Heap} {L : List It} (h : Star H0 H L) (i : Nat) {b m : Nat} {s : Value} {l : List α} (hi : L[i]? = some (itRow (some b) m s enc l)) (he : ∀ x, (enc x).length = m) {j c n : Nat} {x : α} (y : α) {v : Value} (hx : l[j]? = some x)
    (hn : v.cells.size = n) (hs : storable v = true) (hc : c + n ≤ m) (hy : enc y = splice (enc x) c v.cells.toList) :
    ∃ H', stR n (.pointer (some ⟨b, j * m + c, none⟩)) v H = .ok undef H' ∧ Star H0 H' (L.set i (itRow (some b) m s enc (l.set j y))) ∧ H'.n = H.n := by
  rcases h.row i hi with ⟨h0, _⟩ | ⟨b', h0, h1, h2⟩
  · cases h0
  · injection h0 with h0
    subst h0
    obtain ⟨H', e1, e2, e3, e4⟩ := st_row he h2 y hx hn hs hc hy
    exact ⟨H', e1, h.step i hi (by omega) (fun d _ hd => e3 d fun e => hd (show d ∈ [b] from List.mem_singleton.2 e)) _ (.inr ⟨b, rfl, by rw [List.length_set]; exact h1, e2⟩) fun b hb => .inl hb, e4⟩
/-- .. of a box's row. -/
theorem Star.stBox {H0 H : Heap} {L : List It} (h : Star H0 H L) (i : Nat) {p b m : Nat} {pre : List Value} {l : List α} (hi : L[i]? = some (itBox p pre (some b) m enc l)) (he : ∀ x, (enc x).length = m) {j c n : Nat} {x : α} (y : α) {v : Value} (hx : l[j]? = some x)
    (hn : v.cells.size = n) (hs : storable v = true) (hc : c + n ≤ m) (hy : enc y = splice (enc x) c v.cells.toList) :
    ∃ H', stR n (.pointer (some ⟨b, j * m + c, none⟩)) v H = .ok undef H' ∧ Star H0 H' (L.set i (itBox p pre (some b) m enc (l.set j y))) ∧ H'.n = H.n := by
  obtain ⟨hne, s, g1, g2⟩ := h.box i hi
  rcases g2 with ⟨h0, _⟩ | ⟨b', h0, h1, h2⟩
  · cases h0
  · injection h0 with h0
    subst h0
    obtain ⟨H', e1, e2, e3, e4⟩ := st_row he h2 y hx hn hs hc hy
    refine ⟨H', e1, h.step i hi (by omega) (fun d _ hd => e3 d fun e => hd (show d ∈ [p, b] from by rw [e]; simp)) _ ⟨hne, s, ?_, .inr ⟨b, rfl, by rw [List.length_set]; exact h1, e2⟩⟩ (fun b hb => .inl hb), e4⟩
    rw [e3 p fun e => hne (by rw [e])]
    exact g1
/-- .. of a block. -/
theorem Star.stBlk {H0 H : Heap} {L : List It} (h : Star H0 H L) (i : Nat) {b m e : Nat} {l : List α} (hi : L[i]? = some (itBlk b ⟨rows enc l, e, false⟩)) (he : ∀ x, (enc x).length = m) {j c n : Nat} {x : α} (y : α) {v : Value} (hx : l[j]? = some x)
    (hn : v.cells.size = n) (hs : storable v = true) (hc : c + n ≤ m) (hy : enc y = splice (enc x) c v.cells.toList) :
    ∃ H', stR n (.pointer (some ⟨b, j * m + c, none⟩)) v H = .ok undef H' ∧ Star H0 H' (L.set i (itBlk b ⟨rows enc (l.set j y), e, false⟩)) ∧ H'.n = H.n := by
  obtain ⟨H', e1, e2, e3, e4⟩ := st_row he (h.get i hi) y hx hn hs hc hy
  exact ⟨H', e1, h.step i hi (by omega) (fun d _ hd => e3 d fun e => hd (show d ∈ [b] from List.mem_singleton.2 e)) _ e2 fun b hb => .inl hb, e4⟩
/-- A row is read, and written, where it lies. -/
theorem Star.ix {H0 H : Heap} {L : List It} (h : Star H0 H L) (i : Nat) {o : Option Nat} {m : Nat} {s : Value} {l : List α} (hi : L[i]? = some (itRow o m s enc l)) (k : IntKind) (j : Nat) (hj : j < l.length) :
    ∃ b, o = some b ∧ H.get b = some ⟨rows enc l, m, false⟩ ∧ ∀ H', ixS m s (.int k j) H' = .ok (.pointer (some ⟨b, j * m, none⟩)) H' := by
  obtain ⟨b, h1, _, h3, h4⟩ := (h.row i hi).ix k j hj
  exact ⟨b, h1, h3, h4⟩
end

section
variable {α : Type} {enc : α → List Value}
theorem Sl.lenL {H : Heap} {m : Nat} {v : Value} {l : List α} (h : Sl H m v enc l) : Go.Sw.lenL v = some l.length := by
  rcases h with rfl | ⟨rfl, rfl | rfl | rfl⟩ | ⟨b, off, cap, k, rfl, _⟩ <;> rfl
theorem Sl.first {H : Heap} {m : Nat} {v : Value} {l : List α} (he : ∀ x, (enc x).length = m) (h : Sl H m v enc l) : firstV m l.length v H = some (rows enc l) := by
  rcases h with rfl | ⟨rfl, rfl | rfl | rfl⟩ | ⟨b, off, cap, k, rfl, hc, hk, hr⟩
  · exact lv_first he l H
  · rfl
  · rfl
  · rfl
  · unfold firstV
    dsimp only
    have hl := rows_length he l
    split
    · rename_i h0
      rw [List.length_eq_zero_iff.1 (hl.trans h0)]
    · rename_i h0
      rw [cellsAt_eq, hk, Option.bind_some, hr, if_pos]
      have := congrArg List.length hr
      rw [hl] at this
      simp at this
      omega
theorem Sl.rd {H : Heap} {m : Nat} (hm : 0 < m) {v : Value} {l : List α} (he : ∀ x, (enc x).length = m) (h : Sl H m v enc l) : Rd H m v enc l := by
  have hlen := h.len
  rcases h with rfl | ⟨rfl, _⟩ | ⟨b, off, cap, k, rfl, hc, hk, hr⟩
  · exact Rd.lv he H l
  · exact ⟨hlen, fun i x hx => by simp at hx⟩
  · refine ⟨hlen, fun i x hx => ?_⟩
    have hi := (List.getElem?_eq_some_iff.1 hx).1
    refine ⟨.pointer (some ⟨b, off + i * m, none⟩), fun k H' => ixS_slice m b off l.length cap k i H' hi, ?_⟩
    have hl := rows_length he l
    have hle : i * m + m ≤ l.length * m := by rw [← Nat.succ_mul]; exact Nat.mul_le_mul_right _ hi
    have hkl := congrArg List.length hr
    rw [hl] at hkl
    have hpos : 0 < l.length * m := Nat.mul_pos (by omega) hm
    rw [List.length_take, List.length_drop] at hkl
    have hfit : off + i * m + m ≤ k.cells.length := by omega
    simp only [ldA_ptr, hk, Option.bind_some]
    rw [if_pos hfit]
    have := rows_at he l i x hx
    rw [← hr, List.drop_take, List.take_take, List.drop_drop] at this
    rw [show min m (l.length * m - i * m) = m by omega] at this
    rw [this]
    rfl
theorem clone_sl {m bytes : Nat} (he : ∀ x, (enc x).length = m) {H : Heap} {v : Value} {l : List α} (h : Sl H m v enc l) (h31 : l.length ≤ 2 ^ 31) (hby : bytes ≤ 2 ^ 10) :
    ∃ s' H', cloneV m bytes [v] H = .ok s' H' ∧ Own H H' m s' enc l ∧ Ext H H' := by
  unfold cloneV
  dsimp only
  rw [h.lenL]
  cases hl : l.length with
  | zero =>
    have := List.length_eq_zero_iff.1 hl
    subst this
    exact ⟨_, _, rfl, .inl ⟨rfl, .inr (.inr rfl)⟩, Ext.refl H⟩
  | succ n =>
    obtain ⟨s', H', h1, h2, h3, _⟩ := apR_own (bytes := bytes) he (Own.bare H H m) (Ext.refl H) (b := v) (l2 := l) (lenL_lenV h.lenL) (h.first he) (by simp; omega) hby
    exact ⟨s', H', h1, by simpa using h2, h3⟩
/-- New memory that is owned. -/
theorem Star.more_own {H0 H H' : Heap} {L : List It} (h : Star H0 H L) {m : Nat} {s : Value} {l : List α} (ho : Own H H' m s enc l) (he : Ext H H') : ∃ o, Star H0 H' (L ++ [itRow o m s enc l]) := by
  obtain ⟨o, h1, h2⟩ := ho.toO
  exact ⟨o, h.more_row he h1 fun b hb => ⟨h2 b hb, h1.lt b hb⟩⟩
end

theorem at2_0 (L : List It) (a b : It) : (L ++ [a, b])[L.length]? = some a := by simp
theorem at2_1 (L : List It) (a b : It) : (L ++ [a, b])[L.length + 1]? = some b := by rw [List.getElem?_append_right (by omega)]; simp
theorem set2_0 (L : List It) (a b x : It) : (L ++ [a, b]).set L.length x = L ++ [x, b] := by rw [List.set_append_right _ _ (by omega)]; simp
theorem set2_1 (L : List It) (a b x : It) : (L ++ [a, b]).set (L.length + 1) x = L ++ [a, x] := by rw [List.set_append_right _ _ (by omega)]; simp
theorem take_snoc {α : Type} {l : List α} {j : Nat} {p : α} (h : l[j]? = some p) : l.take (j + 1) = l.take j ++ [p] := by
  rw [List.take_add_one, h]; rfl

/-- A slice that is told by value, or owned. -/
def itV {α : Type} (o : Option Nat) (m : Nat) (v : Value) (enc : α → List Value) (l : List α) : It :=
  ⟨o.toList, fun H => v = lv enc l ∨ OwnO H o m v enc l, fun H H' h hk => h.imp id fun h => h.up fun b hb => hk b (Option.mem_toList.2 hb)⟩
theorem Star.sl {α : Type} {enc : α → List Value} {H0 H : Heap} {L : List It} (h : Star H0 H L) (i : Nat) {o : Option Nat} {m : Nat} {v : Value} {l : List α} (he : ∀ x, (enc x).length = m) (hi : L[i]? = some (itV o m v enc l)) : Sl H m v enc l := by
  rcases h.at i hi with h | h
  · rw [h]; exact Sl.lv _ _ _
  · exact h.sl he
theorem Star.more_lv {α : Type} {enc : α → List Value} {H0 H H' : Heap} {L : List It} (h : Star H0 H L) (he : Ext H H') (m : Nat) (l : List α) : Star H0 H' (L ++ [itV none m (lv enc l) enc l]) :=
  h.more he _ (.inl rfl) fun b hb => by simp [itV] at hb
theorem Star.more_v {α : Type} {enc : α → List Value} {H0 H H' : Heap} {L : List It} (h : Star H0 H L) {m : Nat} {s : Value} {l : List α} (ho : Own H H' m s enc l) (he : Ext H H') : ∃ o, Star H0 H' (L ++ [itV o m s enc l]) := by
  obtain ⟨o, h1, h2⟩ := ho.toO
  exact ⟨o, h.more he _ (.inr h1) fun b hb => by have hb := Option.mem_toList.1 hb; exact ⟨h2 b hb, h1.lt b hb⟩⟩
/-- One behind the other is made into another one. -/
theorem map_at {α : Type} {f : α → α} {l : List α} {j : Nat} {g : α} (h : l[j]? = some g) : ((l.take j).map f ++ l.drop j)[j]? = some g := by
  have hj := (List.getElem?_eq_some_iff.1 h).1
  rw [List.getElem?_append_right (by simp; omega), List.getElem?_drop]
  simp only [List.length_map, List.length_take]
  rw [show j + (j - min j l.length) = j by omega]
  exact h
theorem map_step {α : Type} {f : α → α} {l : List α} {j : Nat} {g : α} (h : l[j]? = some g) : ((l.take j).map f ++ l.drop j).set j (f g) = (l.take (j + 1)).map f ++ l.drop (j + 1) := by
  obtain ⟨hj, hg⟩ := List.getElem?_eq_some_iff.1 h
  rw [take_snoc h, List.map_append, List.drop_eq_getElem_cons hj, hg, List.set_append_right _ _ (by simp; omega)]
  simp only [List.length_map, List.length_take]
  rw [show j - min j l.length = 0 by omega]
  simp
theorem map_keep {α : Type} {f : α → α} {l : List α} {j : Nat} {g : α} (h : l[j]? = some g) (hf : f g = g) : (l.take j).map f ++ l.drop j = (l.take (j + 1)).map f ++ l.drop (j + 1) := by
  rw [← map_step h, hf]
  have := map_at (f := f) h
  obtain ⟨h1, h2⟩ := List.getElem?_eq_some_iff.1 this
  conv => lhs; rw [← List.set_getElem_self h1, h2]

theorem nrm_of {H H' : Heap} {r : Res Value} {v : Value} (h : r = .ok v H') : nrm .no H r = .ok v H' := by rw [h]; rfl
/-- A row, and a block that leads to it, at the end: a box. -/
theorem Star.join2 {α : Type} {enc : α → List Value} {H0 H : Heap} {L : List It} {o : Option Nat} {m c : Nat} {s : Value} {l : List α} (pre : List Value) (h : Star H0 H (L ++ [itRow o m s enc l, itBlk c ⟨pre ++ [s], 1, false⟩])) : Star H0 H (L ++ [itBox c pre o m enc l]) := by
  have g := h.join L.length (L.length + 1) (L.length + 1) (by omega) (by omega) (at2_0 _ _ _) (at2_1 _ _ _)
  rw [show L ++ [itRow o m s enc l, itBlk c ⟨pre ++ [s], 1, false⟩] = (L ++ [itRow o m s enc l]) ++ [itBlk c ⟨pre ++ [s], 1, false⟩] by simp, List.take_left' (by simp), set_at_end] at g
  exact g

/-- A block of one's own is frozen. -/
theorem fz_box {n0 : Nat} {H : Heap} {d c e : Nat} {cells r : List Value} {L : List Nat} (hn : n0 ≤ c) (hc : H.get c = some ⟨cells, e, false⟩) (h : mapF (fzV n0 H d) cells = some (r, L)) : fzV n0 H (d + 1) (.pointer (some ⟨c, 0, none⟩)) = some (boxV r.toArray, c :: L) := by
  have h1 : Nat.blt c n0 = false := by
    cases hb : Nat.blt c n0 with
    | false => rfl
    | true => exact absurd (Nat.le_of_ble_eq_true hb) (by omega)
  simp only [fzV, h1, cond_false, hc, List.drop_zero, h]
  rfl
theorem mapF_one {f : Value → Option (Value × List Nat)} {v u : Value} {L : List Nat} (h : f v = some (u, L)) : mapF f [v] = some ([u], L) := by
  have := mapF_cons (f := f) h mapF_nil
  simpa using this
end Go.Sw
