/-
  How operations come out on values that are known: laws to simplify with.
-/
import Derived.Test.YtnaodjnimkndbaaSwAE
namespace Go.Sw
open Go.RowKit

@[simp] theorem g0 (a : Value) (l : List Value) : (a :: l)[0]? = some a := rfl
@[simp] theorem gS (a : Value) (l : List Value) (n : Nat) : (a :: l)[n + 1]? = l[n]? := rfl
@[simp] theorem gN (n : Nat) : ([] : List Value)[n]? = none := rfl
@[simp] theorem gp0 (a : Nat × Nat) (l : List (Nat × Nat)) : (a :: l)[0]? = some a := rfl
@[simp] theorem gpS (a : Nat × Nat) (l : List (Nat × Nat)) (n : Nat) : (a :: l)[n + 1]? = l[n]? := rfl

/-! ### the heap -/
@[simp] theorem hn_push (h : Heap) (k : Blk) : (h.push k).n = h.n + 1 := rfl
@[simp] theorem hn_set (h : Heap) (b : Nat) (x : Option Blk) : (h.set b x).n = h.n := Heap.n_set h b x
theorem get_push_eq (h : Heap) (k : Blk) (b : Nat) (hb : b = h.n) : (h.push k).get b = some k := by rw [Heap.get_push, if_pos hb]
theorem get_push_ne (h : Heap) (k : Blk) (b : Nat) (hb : ¬ b = h.n) : (h.push k).get b = h.get b := by rw [Heap.get_push, if_neg hb]
theorem get_push_lt (h : Heap) (k : Blk) (b : Nat) (hb : b < h.n) : (h.push k).get b = h.get b := get_push_ne h k b (by omega)
theorem get_set_ne (h : Heap) (b c : Nat) (x : Option Blk) (hc : ¬ c = b) : (h.set b x).get c = h.get c := by
  unfold Heap.set
  split
  · unfold Heap.get
    dsimp only
    split
    · rw [List.getElem?_set_ne (by omega)]
    · rfl
  · rfl
@[simp] theorem get_set_eq (h : Heap) (b : Nat) (x : Option Blk) (hb : (h.get b).isSome = true) : (h.set b x).get b = x := by
  obtain ⟨k, hk⟩ := Option.isSome_iff_exists.1 hb
  rw [Heap.get_set hk, if_pos rfl]
attribute [simp] Heap.get_push
@[simp] theorem set_push_some (h : Heap) (k k' : Blk) (b : Nat) : (h.push k).set b (some k') = if b = h.n then h.push k' else (h.set b (some k')).push k := by
  by_cases hb : b = h.n
  · subst hb
    rw [if_pos rfl]
    unfold Heap.set Heap.push
    dsimp only
    rw [if_pos (by omega)]
    simp
  · rw [if_neg hb]
    unfold Heap.set Heap.push
    dsimp only
    by_cases h1 : b < h.n
    · rw [if_pos h1, if_pos (by omega)]
      rw [show h.n + 1 - 1 - b = (h.n - 1 - b) + 1 by omega]
      rfl
    · rw [if_neg h1, if_neg (by omega)]
@[simp] theorem set_set (h : Heap) (b : Nat) (x y : Option Blk) : (h.set b x).set b y = h.set b y := by
  unfold Heap.set
  by_cases h1 : b < h.n
  · simp [h1]
  · simp [h1]
theorem get_isSome_lt {h : Heap} {b : Nat} {k : Blk} (hb : h.get b = some k) : (h.get b).isSome = true := by rw [hb]; rfl

@[simp] theorem newP_ok (cells : List Value) (h : Heap) : newP cells h = .ok (.pointer (some ⟨h.n, 0, none⟩)) (h.push ⟨cells, 1, false⟩) := rfl
@[simp] theorem boxR_int (k : IntKind) (n : Int) (h : Heap) : boxR (.int k n) h = newP [.int k n] h := rfl
@[simp] theorem boxR_bool (b : Bool) (h : Heap) : boxR (.bool b) h = newP [.bool b] h := rfl
@[simp] theorem boxR_ptr (a : Option Addr) (h : Heap) : boxR (.pointer a) h = newP [.pointer a] h := rfl
@[simp] theorem boxR_slice (a : Option Addr) (l c : Nat) (h : Heap) : boxR (.slice a l c) h = newP [.slice a l c] h := rfl
@[simp] theorem boxR_list (n : Nat) (cs : Array Value) (h : Heap) : boxR (listV n cs) h = newP [listV n cs] h := rfl
@[simp] theorem boxR_box (cs : Array Value) (h : Heap) : boxR (boxV cs) h = newP [boxV cs] h := rfl
@[simp] theorem boxR_func (f : Fn) (a b : Array Value) (h : Heap) : boxR (.func f a b) h = newP [.func f a b] h := rfl
@[simp] theorem boxR_agg (cs : Array Value) (h : Heap) : boxR (.agg cs) h = newP cs.toList h := rfl
@[simp] theorem storable_int (k : IntKind) (n : Int) : storable (.int k n) = true := rfl
@[simp] theorem storable_bool (b : Bool) : storable (.bool b) = true := rfl
@[simp] theorem storable_ptr (a : Option Addr) : storable (.pointer a) = true := rfl
@[simp] theorem storable_slice (a : Option Addr) (l c : Nat) : storable (.slice a l c) = true := rfl
@[simp] theorem storable_list (n : Nat) (cs : Array Value) : storable (listV n cs) = true := rfl
@[simp] theorem storable_box (cs : Array Value) : storable (boxV cs) = true := rfl
@[simp] theorem storable_func (f : Fn) (a b : Array Value) : storable (.func f a b) = true := rfl
@[simp] theorem storable_agg (cs : Array Value) : storable (.agg cs) = true := rfl
@[simp] theorem storable_iface (t : TypeId) (v : Value) : storable (.iface t v) = true := rfl
@[simp] theorem cells_int (k : IntKind) (n : Int) : (Value.int k n).cells = #[.int k n] := rfl
@[simp] theorem cells_bool (b : Bool) : (Value.bool b).cells = #[.bool b] := rfl
@[simp] theorem cells_ptr (a : Option Addr) : (Value.pointer a).cells = #[.pointer a] := rfl
@[simp] theorem cells_slice (a : Option Addr) (l c : Nat) : (Value.slice a l c).cells = #[.slice a l c] := rfl
@[simp] theorem cells_list (n : Nat) (cs : Array Value) : (listV n cs).cells = #[listV n cs] := rfl
@[simp] theorem cells_box (cs : Array Value) : (boxV cs).cells = #[boxV cs] := rfl
@[simp] theorem cells_func (f : Fn) (a b : Array Value) : (Value.func f a b).cells = #[.func f a b] := rfl
@[simp] theorem cells_agg (cs : Array Value) : (Value.agg cs).cells = cs := rfl

@[simp] theorem ld1_box (cs : Array Value) (h : Heap) : ld1 (boxV cs) h = opt cs[0]? h := rfl
@[simp] theorem ld1_ptr (b off : Nat) (h : Heap) : ld1 (.pointer (some ⟨b, off, none⟩)) h = opt ((h.get b).bind fun k => k.cells[off]?) h := rfl
@[simp] theorem ldA_box (n : Nat) (cs : Array Value) (h : Heap) : ldA n (boxV cs) h = if n ≤ cs.size then .ok (.agg (cs.extract 0 n)) h else .stuck := rfl
theorem cellsAt_eq (h : Heap) (b off n : Nat) : cellsAt h b off n = (h.get b).bind fun k => if off + n ≤ k.cells.length then some ((k.cells.drop off).take n) else none := by
  unfold cellsAt
  congr 1
  funext k
  by_cases hh : off + n ≤ k.cells.length
  · rw [if_pos hh, if_pos (Nat.ble_eq_true_of_le hh)]
  · rw [if_neg hh, if_neg]
    intro hb; exact hh (Nat.le_of_ble_eq_true hb)
@[simp] theorem ldA_ptr (n b off : Nat) (h : Heap) : ldA n (.pointer (some ⟨b, off, none⟩)) h = opt (((h.get b).bind fun k => if off + n ≤ k.cells.length then some ((k.cells.drop off).take n) else none).map fun cs => .agg cs.toArray) h := by
  show opt ((cellsAt h b off n).map _) h = _
  rw [cellsAt_eq]
@[simp] theorem faR_ptr (off n b o : Nat) (h : Heap) : faR off n (.pointer (some ⟨b, o, none⟩)) h = .ok (.pointer (some ⟨b, o + off, none⟩)) h := rfl
@[simp] theorem faR_box (off n : Nat) (cs : Array Value) (h : Heap) : faR off n (boxV cs) h = if off + n ≤ cs.size then .ok (boxV (cs.extract off (off + n))) h else .stuck := rfl
@[simp] theorem fvA_agg (off n : Nat) (cs : Array Value) (h : Heap) : fvA off n (.agg cs) h = .ok (.agg (cs.extract off (off + n))) h := rfl
@[simp] theorem fv1_agg (off : Nat) (cs : Array Value) (h : Heap) : fv1 off (.agg cs) h = opt cs[off]? h := rfl
@[simp] theorem nilR_ptr (a : Addr) (h : Heap) : nilR (.pointer (some a)) h = .ok (.pointer (some a)) h := rfl
@[simp] theorem nilR_box (cs : Array Value) (h : Heap) : nilR (boxV cs) h = .ok (boxV cs) h := rfl
@[simp] theorem lnS_slice (a : Option Addr) (n c : Nat) (h : Heap) : lnS (.slice a n c) h = .ok (.int .i64 n) h := rfl
@[simp] theorem lnS_list (n : Nat) (cs : Array Value) (h : Heap) : lnS (listV n cs) h = .ok (.int .i64 n) h := rfl
@[simp] theorem extractR_tuple (vs : Array Value) (i : Nat) (h : Heap) : extractR (.tuple vs) i h = opt vs[i]? h := rfl
@[simp] theorem panicR_iface (t : TypeId) (v : Value) (h : Heap) : panicR (.iface t v) h = .panic (.iface t v) h := rfl
@[simp] theorem optR_none {α : Type} (H : Heap) : (opt (none : Option α) H) = .stuck := rfl
@[simp] theorem Res.bind_stuck {α β : Type} (f : α → Heap → Res β) : (Res.stuck : Res α).bind f = .stuck := rfl
@[simp] theorem Res.bindN_stuck {α β : Type} (f : α → Heap → Res β) : (Res.stuck : Res α).bindN f = .stuck := rfl
@[simp] theorem Res.bindN_panic {α β : Type} (v : Value) (H : Heap) (f : α → Heap → Res β) : (Res.panic v H : Res α).bindN f = .stuck := rfl
@[simp] theorem Res.bindT_stuck {α β : Type} (g : Value → Heap → Res β) (f : α → Heap → Res β) : (Res.stuck : Res α).bindT g f = .stuck := rfl
@[simp] theorem bdR_nil (places : List (Nat × Nat)) (z : List Value) (h : Heap) : bdR places [] z h = .ok (.agg z.toArray) h := rfl
theorem ble_iff (a b : Nat) : (Nat.ble a b = true) ↔ a ≤ b := ⟨Nat.le_of_ble_eq_true, Nat.ble_eq_true_of_le⟩
@[simp] theorem bdR_cons (places : List (Nat × Nat)) (i : Nat) (v : Value) (ps : List (Nat × Value)) (z : List Value) (h : Heap) :
    bdR places ((i, v) :: ps) z h = match places[i]? with
      | some (off, size) => if storable v = true ∧ v.cells.size = size ∧ off + size ≤ z.length then bdR places ps (splice z off v.cells.toList) h else .stuck
      | none => .stuck := by
  rw [bdR]
  cases places[i]? with
  | none => rfl
  | some q =>
    obtain ⟨off, size⟩ := q
    dsimp only
    by_cases hc : storable v = true ∧ v.cells.size = size ∧ off + size ≤ z.length
    · rw [if_pos hc, if_pos (by rw [hc.1, hc.2.1, Nat.ble_eq_true_of_le hc.2.2]; simp)]
    · rw [if_neg hc, if_neg]
      intro hb
      simp only [Bool.and_eq_true, beq_iff_eq] at hb
      exact hc ⟨hb.1.1, hb.1.2, Nat.le_of_ble_eq_true hb.2⟩
@[simp] theorem baR_nil (size : Nat) (z : List Value) (h : Heap) : baR size [] z h = .ok (.agg z.toArray) h := rfl
@[simp] theorem baR_cons (size i : Nat) (v : Value) (ps : List (Nat × Value)) (z : List Value) (h : Heap) :
    baR size ((i, v) :: ps) z h = if storable v = true ∧ v.cells.size = size ∧ i * size + size ≤ z.length then baR size ps (splice z (i * size) v.cells.toList) h else .stuck := by
  rw [baR]
  by_cases hc : storable v = true ∧ v.cells.size = size ∧ i * size + size ≤ z.length
  · rw [if_pos hc, if_pos (by rw [hc.1, hc.2.1, Nat.ble_eq_true_of_le hc.2.2]; simp)]
  · rw [if_neg hc, if_neg]
    intro hb
    simp only [Bool.and_eq_true, beq_iff_eq] at hb
    exact hc ⟨hb.1.1, hb.1.2, Nat.le_of_ble_eq_true hb.2⟩
@[simp] theorem beR_nil (size len : Nat) (z : List Value) (h : Heap) : beR size (len + 1) [] z h = .ok (.slice (some ⟨h.n, 0, none⟩) (len + 1) (len + 1)) (h.push ⟨z, size, false⟩) := rfl
@[simp] theorem beR_bare (size : Nat) (z : List Value) (h : Heap) : beR size 0 [] z h = .ok bareV h := rfl
@[simp] theorem beR_cons (size len i : Nat) (v : Value) (ps : List (Nat × Value)) (z : List Value) (h : Heap) :
    beR size len ((i, v) :: ps) z h = if storable v = true ∧ v.cells.size = size ∧ i * size + size ≤ z.length then beR size len ps (splice z (i * size) v.cells.toList) h else .stuck := by
  rw [beR]
  by_cases hc : storable v = true ∧ v.cells.size = size ∧ i * size + size ≤ z.length
  · rw [if_pos hc, if_pos (by rw [hc.1, hc.2.1, Nat.ble_eq_true_of_le hc.2.2]; simp)]
  · rw [if_neg hc, if_neg]
    intro hb
    simp only [Bool.and_eq_true, beq_iff_eq] at hb
    exact hc ⟨hb.1.1, hb.1.2, Nat.le_of_ble_eq_true hb.2⟩
@[simp] theorem stR_ptr (n b off : Nat) (v : Value) (h : Heap) : stR n (.pointer (some ⟨b, off, none⟩)) v h = if storable v = true ∧ v.cells.size = n then (putCells h b off v.cells.toList).bind fun _ h' => .ok undef h' else .stuck := by
  unfold stR
  dsimp only
  by_cases hc : storable v = true ∧ v.cells.size = n
  · rw [if_pos hc, if_pos (by rw [hc.1, hc.2]; simp)]
  · rw [if_neg hc, if_neg]
    intro hb
    simp only [Bool.and_eq_true, beq_iff_eq] at hb
    exact hc ⟨hb.2, hb.1⟩
@[simp] theorem put_eq (h : Heap) (b off : Nat) (vs : List Value) : putCells h b off vs = match h.get b with
    | some k => if off + vs.length ≤ k.cells.length ∧ k.ro = false then .ok () (h.set b (some ⟨splice k.cells off vs, k.esz, k.ro⟩)) else .stuck
    | none => .stuck := by
  unfold putCells
  cases h.get b with
  | none => rfl
  | some k =>
    dsimp only
    by_cases hh : off + vs.length ≤ k.cells.length ∧ k.ro = false
    · rw [if_pos hh, if_pos (by rw [Nat.ble_eq_true_of_le hh.1, hh.2]; rfl)]
    · rw [if_neg hh, if_neg]
      intro hb
      simp only [Bool.and_eq_true, Bool.not_eq_true'] at hb
      exact hh ⟨Nat.le_of_ble_eq_true hb.1, hb.2⟩
@[simp] theorem splice_zero (z vs : List Value) : splice z 0 vs = vs ++ z.drop vs.length := by simp [splice]
@[simp] theorem splice_succ (a : Value) (z : List Value) (n : Nat) (vs : List Value) : splice (a :: z) (n + 1) vs = a :: splice z n vs := by
  unfold splice
  simp [Nat.add_right_comm]
attribute [simp] wrap_i64 wrap_i32

/-- A number whose kind has room for it stays. -/
theorem wrap_of {k : IntKind} {n : Int} (h1 : k.min ≤ n) (h2 : n ≤ k.max) : k.wrap n = n := by
  unfold IntKind.wrap
  unfold IntKind.min at h1
  unfold IntKind.max at h2
  cases k <;> simp [IntKind.signed, IntKind.bits] at h1 h2 ⊢ <;> omega
@[simp] theorem wrap_u8 {n : Int} (h1 : 0 ≤ n) (h2 : n ≤ 255) : IntKind.u8.wrap n = n := wrap_of (by simpa [IntKind.min, IntKind.signed] using h1) (by simpa [IntKind.max, IntKind.signed, IntKind.bits] using h2)
@[simp] theorem wrap_u16 {n : Int} (h1 : 0 ≤ n) (h2 : n ≤ 65535) : IntKind.u16.wrap n = n := wrap_of (by simpa [IntKind.min, IntKind.signed] using h1) (by simpa [IntKind.max, IntKind.signed, IntKind.bits] using h2)
@[simp] theorem wrap_u32 {n : Int} (h1 : 0 ≤ n) (h2 : n ≤ 4294967295) : IntKind.u32.wrap n = n := wrap_of (by simpa [IntKind.min, IntKind.signed] using h1) (by simpa [IntKind.max, IntKind.signed, IntKind.bits] using h2)
@[simp] theorem wrap_u64 {n : Int} (h1 : 0 ≤ n) (h2 : n ≤ 18446744073709551615) : IntKind.u64.wrap n = n := wrap_of (by simpa [IntKind.min, IntKind.signed] using h1) (by simpa [IntKind.max, IntKind.signed, IntKind.bits] using h2)
end Go.Sw
