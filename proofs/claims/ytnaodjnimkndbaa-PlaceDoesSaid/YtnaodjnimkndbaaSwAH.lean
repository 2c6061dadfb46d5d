/-
  Lists told by value; rows under construction; loops.
-/
import Derived.Test.YtnaodjnimkndbaaSwAG
import Derived.Test.YtnaodjnimkndbaaSwC
namespace Go.Sw
open Go.RowKit

section
variable {α : Type} {enc : α → List Value}

/-- A list told by value. -/
def lv (enc : α → List Value) (l : List α) : Value := listV l.length (rows enc l).toArray
theorem lnS_lv (l : List α) (h : Heap) : lnS (lv enc l) h = .ok (.int .i64 l.length) h := rfl
theorem boxR_lv (l : List α) (h : Heap) : boxR (lv enc l) h = newP [lv enc l] h := rfl
theorem storable_lv (l : List α) : storable (lv enc l) = true := rfl
theorem cells_lv (l : List α) : (lv enc l).cells = #[lv enc l] := rfl
attribute [simp] lnS_lv boxR_lv storable_lv cells_lv

theorem rows_arr_extract {m : Nat} (he : ∀ x, (enc x).length = m) (l : List α) (i : Nat) (x : α) (h : l[i]? = some x) : (rows enc l).toArray.extract (i * m) (i * m + m) = (enc x).toArray := by
  apply Array.ext'
  rw [Array.toList_extract]
  show ((rows enc l).drop (i * m)).take (i * m + m - i * m) = enc x
  rw [Nat.add_sub_cancel_left]
  exact rows_at he l i x h

/-- An element of a list told by value is pointed to. -/
theorem ixS_lv {m : Nat} (he : ∀ x, (enc x).length = m) (l : List α) (k : IntKind) (i : Int) (x : α) (h0 : 0 ≤ i) (h : l[i.toNat]? = some x) (H : Heap) : ixS m (lv enc l) (.int k i) H = .ok (boxV (enc x).toArray) H := by
  have hlt : i.toNat < l.length := (List.getElem?_eq_some_iff.1 h).1
  unfold ixS lv listV
  dsimp only
  have hs : (rows enc l).toArray.size = l.length * m := by simp [rows_length he]
  have hle : i.toNat * m + m ≤ l.length * m := by rw [← Nat.succ_mul]; exact Nat.mul_le_mul_right _ hlt
  rw [if_pos ⟨h0, by omega, by rw [hs]; exact hle⟩, rows_arr_extract he l _ x h]
theorem ixS_lvN {m : Nat} (he : ∀ x, (enc x).length = m) (l : List α) (k : IntKind) (i : Nat) (x : α) (h : l[i]? = some x) (H : Heap) : ixS m (lv enc l) (.int k i) H = .ok (boxV (enc x).toArray) H :=
  ixS_lv he l k i x (by omega) (by simpa using h) H

/-- A piece of a list told by value. -/
theorem slS_lv {m : Nat} (he : ∀ x, (enc x).length = m) (l : List α) (lo hi mx : Option Value) (a b c : Nat) (h1 : boundOf lo 0 = some a) (h2 : boundOf hi l.length = some b) (h3 : boundOf mx l.length = some c) (h4 : mx.isSome → hi.isSome) (h5 : a ≤ b) (h6 : b ≤ c) (h7 : c ≤ l.length) (H : Heap) :
    slS m (lv enc l) lo hi mx H = .ok (lv enc ((l.take b).drop a)) H := by
  unfold slS lv listV
  dsimp only
  rw [h1, h2, h3]
  dsimp only
  have hs : (rows enc l).toArray.size = l.length * m := by simp [rows_length he]
  rw [if_pos ⟨h7, h6, h5, h4, by rw [hs]; exact Nat.mul_le_mul_right _ (by omega)⟩]
  congr 1
  have e1 : ((l.take b).drop a).length = b - a := by simp; omega
  rw [e1]
  congr 1
  apply Array.ext'
  rw [Array.toList_extract]
  show ((rows enc l).drop (a * m)).take (b * m - a * m) = rows enc ((l.take b).drop a)
  rw [← rows_drop he, ← rows_take he, ← Nat.sub_mul]
  rw [List.drop_take, Nat.sub_mul]

theorem rows_mem {l : List α} {v : Value} (h : v ∈ rows enc l) : ∃ x, x ∈ l ∧ v ∈ enc x := List.mem_flatMap.1 h
theorem Flat.lv {l : List α} (h : ∀ x, x ∈ l → Flats (enc x)) : Flat (lv enc l) := Flat.listV _ fun v hv => by
  obtain ⟨x, hx, hm⟩ := rows_mem hv
  exact h x hx v hm
theorem rows_still {l : List α} (h : ∀ x, x ∈ l → ∀ v, v ∈ enc x → Still v) : ∀ v, v ∈ rows enc l → Still v := fun v hv => by
  obtain ⟨x, hx, hm⟩ := rows_mem hv
  exact h x hx v hm

/-- A row that a run has made itself: nil, an empty literal, or all of a block. -/
def Own (H0 H : Heap) (m : Nat) (s : Value) (enc : α → List Value) (l : List α) : Prop :=
  (l = [] ∧ (s = .slice none 0 0 ∨ s = bareV ∨ s = emptyV)) ∨ ∃ b, s = .slice (some ⟨b, 0, none⟩) l.length l.length ∧ H0.n ≤ b ∧ H.get b = some ⟨rows enc l, m, false⟩

theorem Own.nil (H0 H : Heap) (m : Nat) : Own H0 H m (.slice none 0 0) enc [] := .inl ⟨rfl, .inl rfl⟩
theorem Own.bare (H0 H : Heap) (m : Nat) : Own H0 H m bareV enc [] := .inl ⟨rfl, .inr (.inl rfl)⟩
theorem Own.up {H0 H H' : Heap} {m : Nat} {s : Value} {l : List α} (h : Own H0 H m s enc l) (he : Ext H H') : Own H0 H' m s enc l := by
  rcases h with h | ⟨b, h1, h2, h3⟩
  · exact .inl h
  · exact .inr ⟨b, h1, h2, he.get h3⟩
theorem Own.len {H0 H : Heap} {m : Nat} {s : Value} {l : List α} (h : Own H0 H m s enc l) (H' : Heap) : lnS s H' = .ok (.int .i64 l.length) H' := by
  rcases h with ⟨rfl, rfl | rfl | rfl⟩ | ⟨b, rfl, _⟩ <;> rfl
theorem Own.lenL {H0 H : Heap} {m : Nat} {s : Value} {l : List α} (h : Own H0 H m s enc l) : lenL s = some l.length := by
  rcases h with ⟨rfl, rfl | rfl | rfl⟩ | ⟨b, rfl, _⟩ <;> rfl
theorem Own.lenV {H0 H : Heap} {m : Nat} {s : Value} {l : List α} (h : Own H0 H m s enc l) : lenV s = some l.length := lenL_lenV h.lenL
theorem Own.first {H0 H : Heap} {m : Nat} {s : Value} {l : List α} (he : ∀ x, (enc x).length = m) (h : Own H0 H m s enc l) : firstV m l.length s H = some (rows enc l) := by
  rcases h with ⟨rfl, rfl | rfl | rfl⟩ | ⟨b, rfl, _, hb⟩
  · rfl
  · rfl
  · rfl
  · unfold firstV
    dsimp only
    split
    · rename_i h0
      have : rows enc l = [] := List.length_eq_zero_iff.1 (by rw [rows_length he]; exact h0)
      rw [this]
    · rw [cellsAt_eq, hb]
      simp [rows_length he]
      exact List.take_of_length_le (by rw [rows_length he]; exact Nat.le_refl _)

theorem lv_first {m : Nat} (he : ∀ x, (enc x).length = m) (l : List α) (H : Heap) : firstV m l.length (lv enc l) H = some (rows enc l) := by
  unfold firstV lv listV
  dsimp only
  have hs : (rows enc l).toArray.size = l.length * m := by simp [rows_length he]
  rw [if_pos (by rw [hs]; exact Nat.le_refl _)]
  congr 1
  rw [Array.toList_extract]
  show ((rows enc l).drop 0).take (l.length * m - 0) = rows enc l
  simp
  exact List.take_of_length_le (by rw [rows_length he]; exact Nat.le_refl _)

/-- append onto a row of one's own. -/
theorem apR_own {m bytes : Nat} (he : ∀ x, (enc x).length = m) {H0 H : Heap} {s b : Value} {l l2 : List α} (h : Own H0 H m s enc l) (hx : Ext H0 H) (hl : Go.Sw.lenV b = some l2.length) (hf : firstV m l2.length b H = some (rows enc l2)) (h31 : l.length + l2.length ≤ 2 ^ 31) (hby : bytes ≤ 2 ^ 10) :
    ∃ s' H', apR m bytes s b H = .ok s' H' ∧ Own H0 H' m s' enc (l ++ l2) ∧ Ext H0 H' ∧ (∀ c, c < H.n → (∀ o n k, s ≠ .slice (some ⟨c, o, none⟩) n k) → H'.get c = H.get c) := by
  have hshape : ∃ base, s = .slice base l.length l.length ∧ (base = none ∨ (∃ x, base = some ⟨0, 0, some x⟩ ∧ l = []) ∨ ∃ c, base = some ⟨c, 0, none⟩ ∧ H0.n ≤ c ∧ H.get c = some ⟨rows enc l, m, false⟩) ∧ (base = none → l = []) := by
    rcases h with ⟨rfl, rfl | rfl | rfl⟩ | ⟨c, rfl, h1, h2⟩
    · exact ⟨none, rfl, .inl rfl, fun _ => rfl⟩
    · exact ⟨_, rfl, .inr (.inl ⟨0, rfl, rfl⟩), fun h => by cases h⟩
    · exact ⟨_, rfl, .inr (.inl ⟨1, rfl, rfl⟩), fun h => by cases h⟩
    · exact ⟨_, rfl, .inr (.inr ⟨c, rfl, h1, h2⟩), fun h => by cases h⟩
  obtain ⟨base, rfl, hb, hnil⟩ := hshape
  unfold apR
  dsimp only
  rw [hl]
  dsimp only
  by_cases h0 : l2.length = 0
  · have e2 := List.length_eq_zero_iff.1 h0
    subst e2
    refine ⟨_, H, by unfold appendK; rw [if_pos h0], by rw [List.append_nil]; exact h, hx, fun _ _ _ => rfl⟩
  · unfold appendK
    rw [if_neg h0, if_pos ⟨h31, hby, rfl⟩, hf]
    dsimp only
    rcases hb with rfl | ⟨x, rfl, rfl⟩ | ⟨c, rfl, h1, h2⟩
    · have := hnil rfl
      subst this
      refine ⟨_, _, rfl, .inr ⟨H.n, by simp, hx.n, by rw [get_push_eq _ _ _ rfl]; simp⟩, hx.push _, fun c hc _ => get_push_lt _ _ _ hc⟩
    · dsimp only
      rw [if_pos ⟨rfl, rfl⟩]
      refine ⟨_, _, rfl, .inr ⟨H.n, by simp, hx.n, by rw [get_push_eq _ _ _ rfl]; simp⟩, hx.push _, fun c hc _ => get_push_lt _ _ _ hc⟩
    · dsimp only
      rw [h2]
      dsimp only
      have hlen : (rows enc l).length = l.length * m := rows_length he l
      rw [if_pos (by simp [hlen])]
      refine ⟨_, _, rfl, .inr ⟨H.n, by simp, hx.n, ?_⟩, (hx.set h1 none).push _, fun d hd hs => ?_⟩
      · rw [get_push_eq _ _ _ (by simp)]
        rw [List.drop_zero, List.take_of_length_le (by rw [hlen]; exact Nat.le_refl _), rows_append]
      · rw [get_push_lt _ _ _ (by simpa using hd), get_set_ne]
        intro he
        subst he
        exact hs _ _ _ rfl

/-- One element more onto a row of one's own. -/
theorem ap1_own {m bytes : Nat} (he : ∀ x, (enc x).length = m) {H0 H : Heap} {s : Value} {l : List α} (h : Own H0 H m s enc l) (hx : Ext H0 H) (x : α) (hl : l.length < 2 ^ 31) (hby : bytes ≤ 2 ^ 10) :
    ∃ s' H', apR m bytes s (.slice (some ⟨H.n, 0, none⟩) 1 1) (H.push ⟨enc x, m, false⟩) = .ok s' H' ∧ Own H0 H' m s' enc (l ++ [x]) ∧ Ext H0 H' := by
  obtain ⟨s', H', h1, h2, h3, _⟩ := apR_own (bytes := bytes) he (b := .slice (some ⟨H.n, 0, none⟩) 1 1) (l2 := [x]) (h.up ((Ext.refl H).push _)) (hx.push _) rfl (by
    unfold firstV
    dsimp only
    split
    · rename_i h0
      have : rows enc [x] = [] := List.length_eq_zero_iff.1 (by rw [rows_length he]; simpa using h0)
      rw [this]
    · have hx := he x
      rw [cellsAt_eq, get_push_eq H ⟨enc x, m, false⟩ H.n rfl, rows_one]
      have h1 : 0 + [x].length * m ≤ (enc x).length := by simp [hx]
      show (if 0 + [x].length * m ≤ (enc x).length then some (((enc x).drop 0).take ([x].length * m)) else none) = some (enc x)
      rw [if_pos h1, List.drop_zero, List.take_of_length_le (by simp [hx])]) (by simp; omega) hby
  exact ⟨s', H', h1, h2, h3⟩

/-- An element of a row of one's own. -/
theorem ixS_own {m : Nat} {H0 H : Heap} {s : Value} {l : List α} (h : Own H0 H m s enc l) (k : IntKind) (i : Nat) (hi : i < l.length) (H' : Heap) : ∃ b, s = .slice (some ⟨b, 0, none⟩) l.length l.length ∧ H0.n ≤ b ∧ H.get b = some ⟨rows enc l, m, false⟩ ∧ ixS m s (.int k i) H' = .ok (.pointer (some ⟨b, i * m, none⟩)) H' := by
  rcases h with ⟨rfl, _⟩ | ⟨b, rfl, h1, h2⟩
  · simp at hi
  · refine ⟨b, rfl, h1, h2, ?_⟩
    unfold ixS
    dsimp only
    rw [if_pos ⟨by omega, by omega⟩]
    simp

/-- A cell of an element is read. -/
theorem ld1_row {m e : Nat} (he : ∀ x, (enc x).length = m) {H : Heap} {b : Nat} {ro : Bool} {l : List α} (hb : H.get b = some ⟨rows enc l, e, ro⟩) {i c : Nat} {x : α} {v : Value} (hx : l[i]? = some x) (hc : c < m) (hv : (enc x)[c]? = some v) :
    ld1 (.pointer (some ⟨b, i * m + c, none⟩)) H = .ok v H := by
  simp only [ld1_ptr, hb, Option.bind_some, rows_cell he l i c x hx hc, hv]
  rfl
/-- An element is read. -/
theorem ldA_row {m e : Nat} (he : ∀ x, (enc x).length = m) {H : Heap} {b : Nat} {ro : Bool} {l : List α} (hb : H.get b = some ⟨rows enc l, e, ro⟩) {i : Nat} {x : α} (hx : l[i]? = some x) :
    ldA m (.pointer (some ⟨b, i * m, none⟩)) H = .ok (.agg (enc x).toArray) H := by
  have hlt : i < l.length := (List.getElem?_eq_some_iff.1 hx).1
  have hle : i * m + m ≤ (rows enc l).length := by rw [rows_length he, ← Nat.succ_mul]; exact Nat.mul_le_mul_right _ hlt
  simp only [ldA_ptr, hb, Option.bind_some, hle, if_true, rows_at he l i x hx]
  rfl
/-- Cells of an element are written. -/
theorem st_row {m e : Nat} (he : ∀ x, (enc x).length = m) {H : Heap} {b : Nat} {l : List α} (hb : H.get b = some ⟨rows enc l, e, false⟩) {i c n : Nat} {x : α} (y : α) {v : Value} (hx : l[i]? = some x) (hn : v.cells.size = n) (hs : storable v = true) (hc : c + n ≤ m) (hy : enc y = splice (enc x) c v.cells.toList) :
    ∃ H', stR n (.pointer (some ⟨b, i * m + c, none⟩)) v H = .ok undef H' ∧ H'.get b = some ⟨rows enc (l.set i y), e, false⟩ ∧ (∀ d, d ≠ b → H'.get d = H.get d) ∧ H'.n = H.n := by
  have hlt : i < l.length := (List.getElem?_eq_some_iff.1 hx).1
  have hle : i * m + c + v.cells.toList.length ≤ (rows enc l).length := by
    have : i * m + m ≤ l.length * m := by rw [← Nat.succ_mul]; exact Nat.mul_le_mul_right _ hlt
    rw [rows_length he]; simp; omega
  refine ⟨H.set b (some ⟨rows enc (l.set i y), e, false⟩), ?_, ?_, fun d hd => get_set_ne _ _ _ _ hd, Heap.n_set _ _ _⟩
  · rw [stR_ptr, if_pos ⟨hs, hn⟩, put_eq, hb]
    simp only [hle, true_and, if_true]
    rw [rows_put he l i c x y v.cells.toList hx (by simp [hn]; omega) hy]
    rfl
  · rw [Heap.get_set hb, if_pos rfl]

/-- A row of one's own is frozen. -/
theorem Own.freeze {H0 H : Heap} {m : Nat} {s : Value} {l : List α} (he : ∀ x, (enc x).length = m) (h : Own H0 H m s enc l) (hs : ∀ x, x ∈ l → ∀ v, v ∈ enc x → Still v) (d : Nat) : ∃ L, fzV H0.n H (d + 2) s = some (lv enc l, L) := by
  rcases h with ⟨rfl, rfl | rfl | rfl⟩ | ⟨b, rfl, h1, h2⟩
  · exact ⟨[], rfl⟩
  · exact ⟨[], rfl⟩
  · exact ⟨[], rfl⟩
  · refine ⟨b :: [], ?_⟩
    have hlt : Nat.blt b H0.n = false := by
      cases hb : Nat.blt b H0.n with
      | false => rfl
      | true => have := Nat.le_of_ble_eq_true hb; omega
    unfold fzV
    dsimp only
    rw [hlt, cond_false, h2]
    dsimp only
    have hlen : (rows enc l).length = l.length * m := rows_length he l
    rw [show (false || !Nat.ble (0 + l.length * m) (rows enc l).length) = false from by rw [hlen, Nat.zero_add]; simp, cond_false, List.drop_zero, List.take_of_length_le (by rw [hlen]; exact Nat.le_refl _)]
    rw [mapF_still (rows_still hs)]
    rfl
end

section
variable {α : Type} {enc : α → List Value}
/-- A row that somebody owns: nothing, or all of a block. -/
def OwnO (H : Heap) (o : Option Nat) (m : Nat) (s : Value) (enc : α → List Value) (l : List α) : Prop :=
  (o = none ∧ l = [] ∧ (s = .slice none 0 0 ∨ s = bareV ∨ s = emptyV)) ∨ ∃ b, o = some b ∧ s = .slice (some ⟨b, 0, none⟩) l.length l.length ∧ H.get b = some ⟨rows enc l, m, false⟩
theorem Own.toO {H0 H : Heap} {m : Nat} {s : Value} {l : List α} (h : Own H0 H m s enc l) : ∃ o, OwnO H o m s enc l ∧ ∀ b, o = some b → H0.n ≤ b := by
  rcases h with ⟨h1, h2⟩ | ⟨b, h1, h2, h3⟩
  · exact ⟨none, .inl ⟨rfl, h1, h2⟩, fun b h => by cases h⟩
  · exact ⟨some b, .inr ⟨b, rfl, h1, h3⟩, fun c h => by injection h with h; omega⟩
theorem OwnO.own {H : Heap} {o : Option Nat} {m : Nat} {s : Value} {l : List α} (h : OwnO H o m s enc l) (H0 : Heap) (hb : ∀ b, o = some b → H0.n ≤ b) : Own H0 H m s enc l := by
  rcases h with ⟨_, h1, h2⟩ | ⟨b, h0, h1, h2⟩
  · exact .inl ⟨h1, h2⟩
  · exact .inr ⟨b, h1, hb b h0, h2⟩
theorem OwnO.own0 {H : Heap} {o : Option Nat} {m : Nat} {s : Value} {l : List α} (h : OwnO H o m s enc l) : Own Heap.empty H m s enc l := h.own _ fun _ _ => Nat.zero_le _
theorem OwnO.up {H H' : Heap} {o : Option Nat} {m : Nat} {s : Value} {l : List α} (h : OwnO H o m s enc l) (hk : ∀ b, o = some b → H'.get b = H.get b) : OwnO H' o m s enc l := by
  rcases h with h | ⟨b, h0, h1, h2⟩
  · exact .inl h
  · exact .inr ⟨b, h0, h1, by rw [hk b h0]; exact h2⟩
theorem OwnO.shape {H : Heap} {o : Option Nat} {m : Nat} {s : Value} {l : List α} (h : OwnO H o m s enc l) : ∃ a n c, s = .slice a n c := by
  rcases h with ⟨_, _, rfl | rfl | rfl⟩ | ⟨b, _, rfl, _⟩ <;> exact ⟨_, _, _, rfl⟩
theorem OwnO.len {H : Heap} {o : Option Nat} {m : Nat} {s : Value} {l : List α} (h : OwnO H o m s enc l) (H' : Heap) : lnS s H' = .ok (.int .i64 l.length) H' := h.own0.len H'
theorem OwnO.lenL {H : Heap} {o : Option Nat} {m : Nat} {s : Value} {l : List α} (h : OwnO H o m s enc l) : lenL s = some l.length := h.own0.lenL
/-- An element of it. -/
theorem OwnO.ix {H : Heap} {o : Option Nat} {m : Nat} {s : Value} {l : List α} (h : OwnO H o m s enc l) (k : IntKind) (i : Nat) (hi : i < l.length) : ∃ b, o = some b ∧ s = .slice (some ⟨b, 0, none⟩) l.length l.length ∧ H.get b = some ⟨rows enc l, m, false⟩ ∧ ∀ H', ixS m s (.int k i) H' = .ok (.pointer (some ⟨b, i * m, none⟩)) H' := by
  rcases h with ⟨_, rfl, _⟩ | ⟨b, h0, rfl, h2⟩
  · simp at hi
  · refine ⟨b, h0, rfl, h2, fun H' => ?_⟩
    unfold ixS
    dsimp only
    rw [if_pos ⟨by omega, by omega⟩]
    simp
/-- append onto a row that somebody owns: a new block, and the old one is no more. -/
theorem apR_ownO {m bytes : Nat} (he : ∀ x, (enc x).length = m) {H : Heap} {o : Option Nat} {s b : Value} {l l2 : List α} (h : OwnO H o m s enc l) (hl : Go.Sw.lenV b = some l2.length) (hf : firstV m l2.length b H = some (rows enc l2)) (hne : l2.length ≠ 0) (h31 : l.length + l2.length ≤ 2 ^ 31) (hby : bytes ≤ 2 ^ 10) :
    ∃ s' H', apR m bytes s b H = .ok s' H' ∧ OwnO H' (some H.n) m s' enc (l ++ l2) ∧ H'.n = H.n + 1 ∧ (∀ c, c < H.n → o ≠ some c → H'.get c = H.get c) := by
  have hshape : ∃ base, s = .slice base l.length l.length ∧ (base = none ∨ (∃ x, base = some ⟨0, 0, some x⟩ ∧ l = []) ∨ ∃ c, base = some ⟨c, 0, none⟩ ∧ o = some c ∧ H.get c = some ⟨rows enc l, m, false⟩) ∧ (base = none → l = []) := by
    rcases h with ⟨_, rfl, rfl | rfl | rfl⟩ | ⟨c, h0, rfl, h2⟩
    · exact ⟨none, rfl, .inl rfl, fun _ => rfl⟩
    · exact ⟨_, rfl, .inr (.inl ⟨0, rfl, rfl⟩), fun h => by cases h⟩
    · exact ⟨_, rfl, .inr (.inl ⟨1, rfl, rfl⟩), fun h => by cases h⟩
    · exact ⟨_, rfl, .inr (.inr ⟨c, rfl, h0, h2⟩), fun h => by cases h⟩
  obtain ⟨base, rfl, hb, hnil⟩ := hshape
  unfold apR
  dsimp only
  rw [hl]
  dsimp only
  unfold appendK
  rw [if_neg hne, if_pos ⟨h31, hby, rfl⟩, hf]
  dsimp only
  rcases hb with rfl | ⟨x, rfl, rfl⟩ | ⟨c, rfl, h1, h2⟩
  · have := hnil rfl
    subst this
    exact ⟨_, _, rfl, .inr ⟨H.n, rfl, by simp, by rw [get_push_eq _ _ _ rfl]; simp⟩, by simp, fun c hc _ => get_push_lt _ _ _ hc⟩
  · dsimp only
    rw [if_pos ⟨rfl, rfl⟩]
    exact ⟨_, _, rfl, .inr ⟨H.n, rfl, by simp, by rw [get_push_eq _ _ _ rfl]; simp⟩, by simp, fun c hc _ => get_push_lt _ _ _ hc⟩
  · dsimp only
    rw [h2]
    dsimp only
    have hlen : (rows enc l).length = l.length * m := rows_length he l
    rw [if_pos (by simp [hlen])]
    refine ⟨_, _, rfl, .inr ⟨H.n, rfl, by simp, ?_⟩, by simp, fun d hd hs => ?_⟩
    · rw [get_push_eq _ _ _ (by simp)]
      rw [List.drop_zero, List.take_of_length_le (by rw [hlen]; exact Nat.le_refl _), rows_append]
    · rw [get_push_lt _ _ _ (by simpa using hd), get_set_ne]
      intro he
      subst he
      exact hs h1

/-- One element more onto a row that somebody owns. -/
theorem ap1_ownO {m bytes : Nat} (he : ∀ x, (enc x).length = m) {H : Heap} {o : Option Nat} {s : Value} {l : List α} (h : OwnO H o m s enc l) (ho : ∀ b, o = some b → b < H.n) (x : α) (hl : l.length < 2 ^ 31) (hby : bytes ≤ 2 ^ 10) :
    ∃ s' H', apR m bytes s (.slice (some ⟨H.n, 0, none⟩) 1 1) (H.push ⟨enc x, m, false⟩) = .ok s' H' ∧ OwnO H' (some (H.n + 1)) m s' enc (l ++ [x]) ∧ H'.n = H.n + 2 ∧ (∀ c, c < H.n → o ≠ some c → H'.get c = H.get c) := by
  obtain ⟨s', H', h1, h2, h3, h4⟩ := apR_ownO (bytes := bytes) he (H := H.push ⟨enc x, m, false⟩) (b := .slice (some ⟨H.n, 0, none⟩) 1 1) (l2 := [x]) (h.up fun b hb => get_push_lt _ _ _ (ho b hb)) rfl (by
    unfold firstV
    dsimp only
    split
    · rename_i h0
      have : rows enc [x] = [] := List.length_eq_zero_iff.1 (by rw [rows_length he]; simpa using h0)
      rw [this]
    · have hx := he x
      rw [cellsAt_eq, get_push_eq H ⟨enc x, m, false⟩ H.n rfl, rows_one]
      have h1 : 0 + [x].length * m ≤ (enc x).length := by simp [hx]
      show (if 0 + [x].length * m ≤ (enc x).length then some (((enc x).drop 0).take ([x].length * m)) else none) = some (enc x)
      rw [if_pos h1, List.drop_zero, List.take_of_length_le (by simp [hx])]) (by simp) (by simp; omega) hby
  rw [Heap.n_push] at h2 h3
  exact ⟨s', H', h1, h2, h3, fun c hc hs => by rw [h4 c (by simp; omega) hs, get_push_lt _ _ _ hc]⟩
/-- slices.Clone of it: a row of its own. -/
theorem clone_own {m bytes : Nat} (he : ∀ x, (enc x).length = m) {H : Heap} {o : Option Nat} {s : Value} {l : List α} (h : OwnO H o m s enc l) (h31 : l.length ≤ 2 ^ 31) (hby : bytes ≤ 2 ^ 10) :
    ∃ s' H', cloneV m bytes [s] H = .ok s' H' ∧ Own H H' m s' enc l ∧ Ext H H' := by
  unfold cloneV
  dsimp only
  rw [h.lenL]
  cases hl : l.length with
  | zero =>
    have := List.length_eq_zero_iff.1 hl
    subst this
    exact ⟨_, _, rfl, .inl ⟨rfl, .inr (.inr rfl)⟩, Ext.refl H⟩
  | succ n =>
    obtain ⟨s', H', h1, h2, h3, _⟩ := apR_own (bytes := bytes) he (Own.bare H H m) (Ext.refl H) (b := s) (l2 := l) h.own0.lenV (h.own0.first he) (by simp; omega) hby
    exact ⟨s', H', h1, by simpa using h2, h3⟩
/-- slices.Clone of a list told by value. -/
theorem clone_lv {m bytes : Nat} (he : ∀ x, (enc x).length = m) (H : Heap) (l : List α) (h31 : l.length ≤ 2 ^ 31) (hby : bytes ≤ 2 ^ 10) :
    ∃ s' H', cloneV m bytes [lv enc l] H = .ok s' H' ∧ Own H H' m s' enc l ∧ Ext H H' := by
  unfold cloneV
  dsimp only
  rw [show Go.Sw.lenL (lv enc l) = some l.length from rfl]
  cases hl : l.length with
  | zero =>
    have := List.length_eq_zero_iff.1 hl
    subst this
    exact ⟨_, _, rfl, .inl ⟨rfl, .inr (.inr rfl)⟩, Ext.refl H⟩
  | succ n =>
    obtain ⟨s', H', h1, h2, h3, _⟩ := apR_own (bytes := bytes) he (Own.bare H H m) (Ext.refl H) (b := lv enc l) (l2 := l) rfl (lv_first he l H) (by simp; omega) hby
    exact ⟨s', H', h1, by simpa using h2, h3⟩
end
/-- A slice is read as a list, whether it is told by value or lies in the heap. -/
def Rd {α : Type} (H : Heap) (m : Nat) (s : Value) (enc : α → List Value) (l : List α) : Prop :=
  (∀ H', lnS s H' = .ok (.int .i64 l.length) H') ∧ ∀ i x, l[i]? = some x → ∃ p, (∀ k H', ixS m s (.int k (i : Nat)) H' = .ok p H') ∧ ldA m p H = .ok (.agg (enc x).toArray) H
theorem Rd.lv {α : Type} {enc : α → List Value} {m : Nat} (he : ∀ x, (enc x).length = m) (H : Heap) (l : List α) : Rd H m (lv enc l) enc l :=
  ⟨lnS_lv l, fun i x hx => ⟨_, fun k H' => ixS_lvN he l k i x hx H', by
    have h : (enc x).toArray.size = m := by simp [he]
    rw [ldA_box, if_pos (by omega), Array.extract_eq_self_of_le (by omega)]⟩⟩
theorem OwnO.rd {α : Type} {enc : α → List Value} {m : Nat} (he : ∀ x, (enc x).length = m) {H : Heap} {o : Option Nat} {s : Value} {l : List α} (h : OwnO H o m s enc l) : Rd H m s enc l :=
  ⟨h.len, fun i x hx => by
    have hi := (List.getElem?_eq_some_iff.1 hx).1
    obtain ⟨b, _, _, hb, _⟩ := h.ix .i64 i hi
    refine ⟨.pointer (some ⟨b, i * m, none⟩), fun k H' => ?_, ldA_row he hb hx⟩
    obtain ⟨b', h1, _, _, h3⟩ := h.ix k i hi
    obtain ⟨b2, h4, _, _, h6⟩ := h.ix .i64 i hi
    have : b = b' := by simp_all
    subst this
    exact h3 H'⟩

@[simp] theorem okVal_ok (u v : Value) (H : Heap) : okVal (.ok u H) v = veq u v := rfl
@[simp] theorem veq_slice (a : Option Addr) (l c : Nat) : veq (.slice a l c) (.slice a l c) = true := by cases a <;> simp [veq]
@[simp] theorem veq_int (k : IntKind) (n : Int) : veq (.int k n) (.int k n) = true := by simp [veq]
@[simp] theorem veq_bool (b : Bool) : veq (.bool b) (.bool b) = true := by simp [veq]
@[simp] theorem veq_ptr (a : Option Addr) : veq (.pointer a) (.pointer a) = true := by cases a <;> simp [veq]
theorem OwnO.veq {α : Type} {enc : α → List Value} {H : Heap} {o : Option Nat} {m : Nat} {s : Value} {l : List α} (h : OwnO H o m s enc l) : veq s s = true := by
  obtain ⟨a, n, c, rfl⟩ := h.shape
  simp
theorem OwnO.storable {α : Type} {enc : α → List Value} {H : Heap} {o : Option Nat} {m : Nat} {s : Value} {l : List α} (h : OwnO H o m s enc l) : Go.Sw.storable s = true := by
  obtain ⟨a, n, c, rfl⟩ := h.shape
  rfl
theorem OwnO.cells {α : Type} {enc : α → List Value} {H : Heap} {o : Option Nat} {m : Nat} {s : Value} {l : List α} (h : OwnO H o m s enc l) : s.cells = #[s] := by
  obtain ⟨a, n, c, rfl⟩ := h.shape
  rfl

theorem modify_set {α : Type} (f : α → α) : ∀ (l : List α) (n : Nat) (p : α), l[n]? = some p → l.modify n f = l.set n (f p)
  | [], n, p, h => by simp at h
  | x :: l, 0, p, h => by simp at h; subst h; rfl
  | x :: l, n + 1, p, h => by
    have := modify_set f l n p (by simpa using h)
    simp [List.modify_succ_cons, this]
theorem modify_none {α : Type} (f : α → α) : ∀ (l : List α) (n : Nat), l.length ≤ n → l.modify n f = l
  | [], n, _ => by cases n <;> rfl
  | x :: l, 0, h => by simp at h
  | x :: l, n + 1, h => by simp [List.modify_succ_cons, modify_none f l n (by simpa using h)]

/-! ### loops -/

/-- A loop that counts up to a number, by an invariant. -/
theorem loop_to {body : Env → Heap → Res (AExit × Env)} (N : Nat) (Inv : Nat → Env → Heap → Prop) (Q : AExit × Env → Heap → Prop)
    (step : ∀ i e H, i < N → Inv i e H → ∃ r H', body e H = .ok r H' ∧ (match r.1 with | .normal => Inv (i + 1) r.2 H' | x => Q (x, r.2) H'))
    (stop : ∀ e H, Inv N e H → ∃ r H', body e H = .ok r H' ∧ r.1 ≠ .normal ∧ Q r H') :
    ∀ (fuel i : Nat) (e : Env) (H : Heap), i ≤ N → N - i < fuel → Inv i e H → ∃ r H', loopN body fuel e H = .ok r H' ∧ Q r H'
  | 0, i, e, H, _, hf, _ => by omega
  | fuel + 1, i, e, H, hi, hf, hinv => by
    simp only [loopN]
    by_cases hlt : i < N
    · obtain ⟨⟨x, e'⟩, H', h1, h2⟩ := step i e H hlt hinv
      rw [h1]
      simp only [Res.bind]
      cases x with
      | normal => exact loop_to N Inv Q step stop fuel (i + 1) e' H' (by omega) (by omega) h2
      | exit j => exact ⟨_, _, rfl, h2⟩
      | ret => exact ⟨_, _, rfl, h2⟩
    · have : i = N := by omega
      subst this
      obtain ⟨⟨x, e'⟩, H', h1, h2, h3⟩ := stop e H hinv
      rw [h1]
      simp only [Res.bind]
      cases x with
      | normal => exact absurd rfl h2
      | exit j => exact ⟨_, _, rfl, h3⟩
      | ret => exact ⟨_, _, rfl, h3⟩

/-- The same, and a round may throw. -/
theorem loop_upP {body : Env → Heap → Res (AExit × Env)} (N : Nat) (Inv : Nat → Env → Heap → Prop) (Q : AExit → Env → Heap → Prop) (Qp : Value → Heap → Prop)
    (step : ∀ i e H, i < N → Inv i e H → (∃ e' H', body e H = .ok (.normal, e') H' ∧ Inv (i + 1) e' H') ∨ (∃ x e' H', body e H = .ok (x, e') H' ∧ x ≠ .normal ∧ Q x e' H') ∨ (∃ v H', body e H = .panic v H' ∧ Qp v H'))
    (stop : ∀ e H, Inv N e H → (∃ x e' H', body e H = .ok (x, e') H' ∧ x ≠ .normal ∧ Q x e' H') ∨ (∃ v H', body e H = .panic v H' ∧ Qp v H')) :
    ∀ (fuel i : Nat) (e : Env) (H : Heap), i ≤ N → N - i < fuel → Inv i e H → (∃ x e' H', loopN body fuel e H = .ok (x, e') H' ∧ Q x e' H') ∨ (∃ v H', loopN body fuel e H = .panic v H' ∧ Qp v H')
  | 0, i, e, H, _, hf, _ => by omega
  | fuel + 1, i, e, H, hi, hf, hinv => by
    have fin : (∃ x e' H', body e H = .ok (x, e') H' ∧ x ≠ .normal ∧ Q x e' H') ∨ (∃ v H', body e H = .panic v H' ∧ Qp v H') → (∃ x e' H', loopN body (fuel + 1) e H = .ok (x, e') H' ∧ Q x e' H') ∨ (∃ v H', loopN body (fuel + 1) e H = .panic v H' ∧ Qp v H') := by
      rintro (⟨x, e', H', h1, h2, h3⟩ | ⟨v, H', h1, h2⟩)
      · refine .inl ⟨x, e', H', ?_, h3⟩
        cases x with
        | normal => exact absurd rfl h2
        | exit j => simp only [loopN, h1, Res.bind]
        | ret => simp only [loopN, h1, Res.bind]
      · exact .inr ⟨v, H', by simp only [loopN, h1, Res.bind], h2⟩
    by_cases hlt : i < N
    · rcases step i e H hlt hinv with ⟨e', H', h1, h2⟩ | h
      · simp only [loopN, h1, Res.bind]
        exact loop_upP N Inv Q Qp step stop fuel (i + 1) e' H' (by omega) (by omega) h2
      · exact fin h
    · have : i = N := by omega
      subst this
      exact fin (stop e H hinv)

/-- A loop that counts up to a number, from nought on. -/
theorem loop_up {body : Env → Heap → Res (AExit × Env)} (N : Nat) (Inv : Nat → Env → Heap → Prop) (Q : AExit → Env → Heap → Prop) {e0 : Env} {H0 : Heap} (h0 : Inv 0 e0 H0) (hN : N < 2 ^ 63)
    (step : ∀ i e H, i < N → Inv i e H → (∃ e' H', body e H = .ok (.normal, e') H' ∧ Inv (i + 1) e' H') ∨ (∃ x e' H', body e H = .ok (x, e') H' ∧ x ≠ .normal ∧ Q x e' H'))
    (stop : ∀ e H, Inv N e H → ∃ x e' H', body e H = .ok (x, e') H' ∧ x ≠ .normal ∧ Q x e' H') : ∃ x e' H', loopN body loopFuel e0 H0 = .ok (x, e') H' ∧ Q x e' H' := by
  rcases loop_upP N Inv Q (fun _ _ => False) (fun i e H hi h => by
    rcases step i e H hi h with h | h
    · exact .inl h
    · exact .inr (.inl h)) (fun e H h => .inl (stop e H h)) loopFuel 0 e0 H0 (Nat.zero_le _) (by unfold loopFuel; omega) h0 with h | ⟨_, _, _, h⟩
  · exact h
  · exact h.elim

theorem fuel_big {n : Nat} (h : n < 2 ^ 64) : n - 0 < loopFuel := by unfold loopFuel; omega
end Go.Sw
