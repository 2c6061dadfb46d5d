/-
  How a value and a heap of the evaluator stand to a value and a world of the model.
-/
import Derived.Test.YtnaodjnimkndbaaSwB
namespace Go.Sw
open Go.RowKit

/-- Where a block lies: in which block of the world, from which cell on, how many cells are its own, how many an element has, and whether it may only be read. -/
structure MB where
  blk : Nat
  base : Nat
  ext : Nat
  esz : Nat
  ro : Bool

/-- Where the evaluator's blocks lie; and which blocks of the world stay as they are for ever, and what they hold. -/
structure Mu where
  f : Nat → Option MB
  z : Nat → Option Obj
instance : CoeFun Mu (fun _ => Nat → Option MB) := ⟨Mu.f⟩

inductive VR (μ : Mu) : Value → Value → Prop
  | bool (b : Bool) : VR μ (.bool b) (.bool b)
  | int (k : IntKind) (n : Int) : VR μ (.int k n) (.int k n)
  | string (s : ByteArray) : VR μ (.string s) (.string s)
  | nilPtr : VR μ (.pointer none) (.pointer none)
  | ptr (b off : Nat) (m : MB) (h : μ b = some m) : VR μ (.pointer (some ⟨b, off, none⟩)) (.pointer (some ⟨m.blk, m.base + off, none⟩))
  | nilSlice : VR μ (.slice none 0 0) (.slice none 0 0)
  | slice (b off off' len cap cap' : Nat) (m : MB) (h : μ b = some m) (hl : len ≤ cap) (hc : cap ≤ cap') (ho : cap' = 0 ∨ off' = m.base + off) (hx : cap' = cap ∨ m.ro = true ∨ off + cap' * m.esz ≤ m.ext) :
      VR μ (.slice (some ⟨b, off, none⟩) len cap) (.slice (some ⟨m.blk, off', none⟩) len cap')
  | unsure (a : Option Addr) : VR μ (.slice (some ⟨0, 0, some 1⟩) 0 0) (.slice a 0 0)
  | list (len : Nat) (p : Array FieldStep) (g : FuncId) (cells ys : Array Value) (blk off cap : Nat) (cs : Array Value) (el : TypeId) (fz : Nat × Nat) (hz : μ.z blk = some (.cells cs el fz)) (hl : off + cells.size ≤ cs.size) (hc : len ≤ cap) (hg : g ≠ 2)
      (h0 : ∀ v, v ∈ cells.toList → v.oneCell' = true) (h2 : ∀ (i : Nat) (v v' : Value), cells[i]? = some v → cs[off + i]? = some v' → VR μ v v') :
      VR μ (.func (.via len p g false) cells ys) (.slice (some ⟨blk, off, none⟩) len cap)
  | empty (p : Array FieldStep) (g : FuncId) (cells ys : Array Value) (a : Option Addr) (cap : Nat) (hn : a = none → cap = 0 ∧ g ≠ 1) (hs : g = 2 → a = none) : VR μ (.func (.via 0 p g false) cells ys) (.slice a 0 cap)
  | box (n : Nat) (p : Array FieldStep) (g : FuncId) (cells ys : Array Value) (blk off : Nat) (cs : Array Value) (el : TypeId) (fz : Nat × Nat) (hz : μ.z blk = some (.cells cs el fz)) (hl : off + cells.size ≤ cs.size)
      (h0 : ∀ v, v ∈ cells.toList → v.oneCell' = true) (h2 : ∀ (i : Nat) (v v' : Value), cells[i]? = some v → cs[off + i]? = some v' → VR μ v v') :
      VR μ (.func (.via n p g true) cells ys) (.pointer (some ⟨blk, off, none⟩))
  | bare (a : Addr) : VR μ (.slice (some ⟨0, 0, some 0⟩) 0 0) (.slice (some a) 0 0)
  | nilMap : VR μ (.map none) (.map none)
  | map (b : Nat) (m : MB) (h : μ b = some m) : VR μ (.map (some b)) (.map (some m.blk))
  | nilFunc : VR μ .nilFunc .nilFunc
  | func (fn : FuncId) (xs xs' ys ys' : Array Value) (h1 : xs.size = xs'.size) (h2 : ∀ (i : Nat) (v v' : Value), xs[i]? = some v → xs'[i]? = some v' → VR μ v v')
      (h3 : ys.size = ys'.size) (h4 : ∀ (i : Nat) (v v' : Value), ys[i]? = some v → ys'[i]? = some v' → VR μ v v') : VR μ (.func (.func fn) xs ys) (.func (.func fn) xs' ys')
  | nilIface : VR μ .nilIface .nilIface
  | iface (t : TypeId) (v v' : Value) (h : VR μ v v') : VR μ (.iface t v) (.iface t v')
  | agg (xs xs' : Array Value) (h0 : ∀ v, v ∈ xs.toList → v.oneCell' = true) (h1 : xs.size = xs'.size) (h2 : ∀ (i : Nat) (v v' : Value), xs[i]? = some v → xs'[i]? = some v' → VR μ v v') : VR μ (.agg xs) (.agg xs')
  | tuple (xs xs' : Array Value) (h1 : xs.size = xs'.size) (h2 : ∀ (i : Nat) (v v' : Value), xs[i]? = some v → xs'[i]? = some v' → VR μ v v') : VR μ (.tuple xs) (.tuple xs')

/-- Values of one cell each. -/
def Ones (l : List Value) : Prop := ∀ v, v ∈ l → v.oneCell' = true

/-- Lists of values, place by place. -/
def VRs (μ : Mu) (l l' : List Value) : Prop := l.length = l'.length ∧ ∀ (i : Nat) v v', l[i]? = some v → l'[i]? = some v' → VR μ v v'

structure Mu.le (μ μ' : Mu) : Prop where
  f : ∀ b m, μ b = some m → μ' b = some m
  z : ∀ k o, μ.z k = some o → μ'.z k = some o
theorem Mu.le_refl (μ : Mu) : μ.le μ := ⟨fun _ _ h => h, fun _ _ h => h⟩
theorem Mu.le_trans {a b c : Mu} (h : a.le b) (k : b.le c) : a.le c := ⟨fun x m e => k.f x m (h.f x m e), fun x m e => k.z x m (h.z x m e)⟩

theorem VR.up {μ μ' : Mu} (hle : μ.le μ') {v v' : Value} (h : VR μ v v') : VR μ' v v' := by
  induction h with
  | bool b => exact .bool b
  | int k n => exact .int k n
  | string s => exact .string s
  | nilPtr => exact .nilPtr
  | ptr b off m h => exact .ptr b off m (hle.f _ _ h)
  | nilSlice => exact .nilSlice
  | slice b off off' len cap cap' m h hl hc ho hx => exact .slice b off off' len cap cap' m (hle.f _ _ h) hl hc ho hx
  | unsure a => exact .unsure a
  | list len p g cells ys blk off cap cs el fz hz hl hc hg h0 _ ih => exact .list len p g cells ys blk off cap cs el fz (hle.z _ _ hz) hl hc hg h0 ih
  | empty p g cells ys a cap hn hs => exact .empty p g cells ys a cap hn hs
  | box n p g cells ys blk off cs el fz hz hl h0 _ ih => exact .box n p g cells ys blk off cs el fz (hle.z _ _ hz) hl h0 ih
  | bare a => exact .bare a
  | nilMap => exact .nilMap
  | map b m h => exact .map b m (hle.f _ _ h)
  | nilFunc => exact .nilFunc
  | func fn xs xs' ys ys' h1 _ h3 _ ih1 ih2 => exact .func fn xs xs' ys ys' h1 ih1 h3 ih2
  | nilIface => exact .nilIface
  | iface t v v' _ ih => exact .iface t v v' ih
  | agg xs xs' h0 h1 _ ih => exact .agg xs xs' h0 h1 ih
  | tuple xs xs' h1 _ ih => exact .tuple xs xs' h1 ih

theorem VRs.up {μ μ' : Mu} (hle : μ.le μ') {l l' : List Value} (h : VRs μ l l') : VRs μ' l l' := ⟨h.1, fun i v v' a b => (h.2 i v v' a b).up hle⟩
theorem VRs.nil {μ : Mu} : VRs μ [] [] := ⟨rfl, fun i v v' h => by simp at h⟩
theorem VRs.cons {μ : Mu} {v v' : Value} {l l' : List Value} (h : VR μ v v') (hl : VRs μ l l') : VRs μ (v :: l) (v' :: l') := by
  refine ⟨by simp [hl.1], fun i a b ha hb => ?_⟩
  cases i with
  | zero => simp at ha hb; subst ha; subst hb; exact h
  | succ i => simp at ha hb; exact hl.2 i a b ha hb
theorem VRs.nil_inv {μ : Mu} {l' : List Value} (h : VRs μ [] l') : l' = [] := List.length_eq_zero_iff.1 h.1.symm
theorem VRs.cons_inv {μ : Mu} {v : Value} {l l' : List Value} (h : VRs μ (v :: l) l') : ∃ v' r', l' = v' :: r' ∧ VR μ v v' ∧ VRs μ l r' := by
  cases l' with
  | nil => have := h.1; simp at this
  | cons v' r' =>
    refine ⟨v', r', rfl, h.2 0 v v' rfl rfl, ?_, fun i a b ha hb => h.2 (i + 1) a b (by simpa using ha) (by simpa using hb)⟩
    have := h.1; simp at this; exact this
theorem VRs.get {μ : Mu} {l l' : List Value} (h : VRs μ l l') {i : Nat} {v : Value} (hv : l[i]? = some v) : ∃ v', l'[i]? = some v' ∧ VR μ v v' := by
  have hi : i < l.length := (List.getElem?_eq_some_iff.1 hv).1
  have hi' : i < l'.length := by rw [← h.1]; exact hi
  exact ⟨l'[i], List.getElem?_eq_getElem hi', h.2 i v _ hv (List.getElem?_eq_getElem hi')⟩
theorem VRs.get_none {μ : Mu} {l l' : List Value} (h : VRs μ l l') {i : Nat} (hv : l[i]? = none) : l'[i]? = none := by
  rw [List.getElem?_eq_none_iff] at hv ⊢
  rw [← h.1]; exact hv
theorem VRs.append {μ : Mu} {a a' b b' : List Value} (h : VRs μ a a') (k : VRs μ b b') : VRs μ (a ++ b) (a' ++ b') := by
  refine ⟨by simp [h.1, k.1], fun i v v' hv hv' => ?_⟩
  by_cases hi : i < a.length
  · rw [List.getElem?_append_left hi] at hv
    rw [List.getElem?_append_left (by rw [← h.1]; exact hi)] at hv'
    exact h.2 i v v' hv hv'
  · rw [List.getElem?_append_right (by omega)] at hv
    rw [List.getElem?_append_right (by rw [← h.1]; omega), ← h.1] at hv'
    exact k.2 _ v v' hv hv'
theorem VRs.take {μ : Mu} {a a' : List Value} (h : VRs μ a a') (n : Nat) : VRs μ (a.take n) (a'.take n) := by
  refine ⟨by simp [h.1], fun i v v' hv hv' => ?_⟩
  rw [List.getElem?_take] at hv hv'
  split at hv
  · rw [if_pos (by assumption)] at hv'; exact h.2 i v v' hv hv'
  · cases hv
theorem VRs.drop {μ : Mu} {a a' : List Value} (h : VRs μ a a') (n : Nat) : VRs μ (a.drop n) (a'.drop n) := by
  refine ⟨by simp [h.1], fun i v v' hv hv' => ?_⟩
  rw [List.getElem?_drop] at hv hv'
  exact h.2 _ v v' hv hv'
theorem VRs.of_arr {μ : Mu} {xs xs' : Array Value} (h1 : xs.size = xs'.size) (h2 : ∀ (i : Nat) v v', xs[i]? = some v → xs'[i]? = some v' → VR μ v v') : VRs μ xs.toList xs'.toList :=
  ⟨by simpa using h1, fun i v v' a b => h2 i v v' (by simpa using a) (by simpa using b)⟩
theorem VRs.arr {μ : Mu} {xs xs' : Array Value} (h : VRs μ xs.toList xs'.toList) : xs.size = xs'.size ∧ ∀ (i : Nat) v v', xs[i]? = some v → xs'[i]? = some v' → VR μ v v' :=
  ⟨by simpa using h.1, fun i v v' a b => h.2 i v v' (by simpa using a) (by simpa using b)⟩

theorem VR.agg' {μ : Mu} {l l' : List Value} (h : VRs μ l l') (h0 : Ones l) : VR μ (.agg l.toArray) (.agg l'.toArray) :=
  .agg _ _ (fun v hv => h0 v (by simpa using hv)) (by simpa using h.1) fun i v v' a b => h.2 i v v' (by simpa using a) (by simpa using b)

theorem Ones.nil : Ones [] := fun v h => by simp at h
theorem Ones.append {a b : List Value} (h : Ones a) (k : Ones b) : Ones (a ++ b) := fun v hv => (List.mem_append.1 hv).elim (h v) (k v)
theorem Ones.take {a : List Value} (h : Ones a) (n : Nat) : Ones (a.take n) := fun v hv => h v (List.mem_of_mem_take hv)
theorem Ones.drop {a : List Value} (h : Ones a) (n : Nat) : Ones (a.drop n) := fun v hv => h v (List.mem_of_mem_drop hv)
theorem Ones.get {a : List Value} (h : Ones a) {i : Nat} {v : Value} (hv : a[i]? = some v) : v.oneCell' = true := h v (List.mem_of_getElem? hv)

theorem VR.one {μ : Mu} {v v' : Value} (h : VR μ v v') : v'.oneCell' = v.oneCell' := by cases h <;> rfl
theorem VRs.ones {μ : Mu} {l l' : List Value} (h : VRs μ l l') (h0 : Ones l) : Ones l' := by
  intro v hv
  obtain ⟨i, hi⟩ := List.mem_iff_getElem?.1 hv
  have hlt : i < l.length := by rw [h.1]; exact (List.getElem?_eq_some_iff.1 hi).1
  rw [(h.2 i _ v (List.getElem?_eq_getElem hlt) hi).one]
  exact h0 _ (List.getElem_mem hlt)
theorem VR.cells_ones {μ : Mu} {v v' : Value} (h : VR μ v v') (hs : storable v = true) : Ones v.cells.toList := by
  have one : ∀ {u : Value}, u.oneCell' = true → Ones (#[u] : Array Value).toList := fun hu v hv => by simp at hv; subst hv; exact hu
  cases h with
  | agg xs xs' h0 h1 h2 => exact h0
  | tuple xs xs' h1 h2 => simp [storable] at hs
  | _ => exact one rfl

theorem VR.cells {μ : Mu} {v v' : Value} (h : VR μ v v') : VRs μ v.cells.toList v'.cells.toList := by
  have one : ∀ {u u' : Value}, VR μ u u' → VRs μ (#[u] : Array Value).toList (#[u'] : Array Value).toList := fun hu => VRs.cons hu VRs.nil
  cases h with
  | agg xs xs' h0 h1 h2 => exact VRs.of_arr h1 h2
  | bool b => exact one (.bool b)
  | int k n => exact one (.int k n)
  | string s => exact one (.string s)
  | nilPtr => exact one .nilPtr
  | ptr b off m h => exact one (.ptr b off m h)
  | nilSlice => exact one .nilSlice
  | slice b off off' len cap cap' m h hl hc ho hx => exact one (.slice b off off' len cap cap' m h hl hc ho hx)
  | bare a => exact one (.bare a)
  | unsure a => exact one (.unsure a)
  | list len p g cells ys blk off cap cs el fz hz hl hc hg h0 h2 => exact one (.list len p g cells ys blk off cap cs el fz hz hl hc hg h0 h2)
  | empty p g cells ys a cap hn hs => exact one (.empty p g cells ys a cap hn hs)
  | box n p g cells ys blk off cs el fz hz hl h0 h2 => exact one (.box n p g cells ys blk off cs el fz hz hl h0 h2)
  | nilMap => exact one .nilMap
  | map b m h => exact one (.map b m h)
  | nilFunc => exact one .nilFunc
  | func fn xs xs' ys ys' h1 h2 h3 h4 => exact one (.func fn xs xs' ys ys' h1 h2 h3 h4)
  | nilIface => exact one .nilIface
  | iface t v v' h => exact one (.iface t v v' h)
  | tuple xs xs' h1 h2 => exact one (.tuple xs xs' h1 h2)

theorem VR.of_plain1 {μ : Mu} {v : Value} (h : plain1 v = true) : VR μ v v := by
  unfold plain1 at h
  split at h <;> first | constructor | (simp at h)
theorem one_of_plain1 {v : Value} (h : plain1 v = true) : v.oneCell' = true := by
  unfold plain1 at h
  split at h <;> first | rfl | (simp at h)
theorem Ones.of_plain1 : ∀ {l : List Value}, plainList plain1 l = true → Ones l
  | [], _ => Ones.nil
  | v :: l, h => by
    simp only [plainList, Bool.and_eq_true] at h
    intro u hu
    rcases List.mem_cons.1 hu with rfl | hu
    · exact one_of_plain1 h.1
    · exact Ones.of_plain1 h.2 u hu
theorem VRs.of_plain1 {μ : Mu} : ∀ {l : List Value}, plainList plain1 l = true → VRs μ l l
  | [], _ => VRs.nil
  | v :: l, h => by
    simp only [plainList, Bool.and_eq_true] at h
    exact VRs.cons (VR.of_plain1 h.1) (VRs.of_plain1 h.2)
theorem VR.of_plain {μ : Mu} {v : Value} (h : plain v = true) : VR μ v v := by
  unfold plain at h
  split at h
  · rename_i cs; exact .agg _ _ (Ones.of_plain1 h) rfl (VRs.of_plain1 h).arr.2
  · rename_i cs; exact .tuple _ _ rfl (VRs.of_plain1 h).arr.2
  · rename_i fn a b
    simp only [Bool.and_eq_true] at h
    exact .func _ _ _ _ _ rfl (VRs.of_plain1 h.1).arr.2 rfl (VRs.of_plain1 h.2).arr.2
  · exact VR.of_plain1 h

/-- Whence a reckoning starts: a world, and the blocks of it that are not to be turned, and those among them that the evaluator may read. -/
structure Base where
  w : World
  S : Nat → Prop
  R : Nat → Prop
  Z : Nat → Prop

/-- What was to stay has stayed. -/
structure Stays (b : Base) (w : World) : Prop where
  os : w.os = b.w.os
  tape : w.tape = b.w.tape
  output : w.output = b.w.output
  size : b.w.heap.size ≤ w.heap.size
  block : ∀ k, b.S k → w.heap[k]? = b.w.heap[k]?
  lt : ∀ k, b.S k → k < b.w.heap.size
  sub : ∀ k, b.R k → b.S k

theorem Stays.step {b : Base} {w w' : World} (h : Stays b w) (ho : w'.os = w.os) (ht : w'.tape = w.tape) (hp : w'.output = w.output) (hs : w.heap.size ≤ w'.heap.size) (hb : ∀ k, b.S k → w'.heap[k]? = w.heap[k]?) : Stays b w' :=
  ⟨ho.trans h.os, ht.trans h.tape, hp.trans h.output, Nat.le_trans h.size hs, fun k hk => (hb k hk).trans (h.block k hk), h.lt, h.sub⟩

/-- A block of the evaluator's heap and the world. -/
structure BR (B0 : Base) (μ : Mu) (w : World) (k : Blk) (m : MB) : Prop where
  esz : m.esz = k.esz
  ro : m.ro = k.ro
  here : ∃ cs el fz, w.heap[m.blk]? = some (.cells cs el fz) ∧ (k.ro = false → fz = (0, 0)) ∧ m.base + m.ext ≤ cs.size ∧
    ∀ (i : Nat) v, k.cells[i]? = some v → ∃ v', cs[m.base + i]? = some v' ∧ VR μ v v'
  ones : Ones k.cells
  ext : k.cells.length ≤ m.ext
  own : k.ro = false → ¬ B0.S m.blk
  low : k.ro = true → B0.R m.blk

/-- Blocks that stay as they are are there as they were told, and are none of one's own. -/
structure ZR (w0 : Base) (μ : Mu) (H : Heap) (w : World) : Prop where
  at_ : ∀ k o, μ.z k = some o → w.heap[k]? = some o
  old : ∀ k o, μ.z k = some o → w0.S k → w0.Z k
  apart : ∀ k o b x m, μ.z k = some o → H.get b = some x → x.ro = false → μ b = some m → m.blk ≠ k

/-- The evaluator's heap and the world: w0 is the world in which the call began. -/
structure HR (w0 : Base) (μ : Mu) (H : Heap) (w : World) : Prop where
  dom : ∀ b m, μ b = some m → b < H.n
  blk : ∀ b k, H.get b = some k → ∃ m, μ b = some m ∧ BR w0 μ w k m
  inj : ∀ b b' k k' m m', H.get b = some k → H.get b' = some k' → k.ro = false → k'.ro = false → μ b = some m → μ b' = some m' → m.blk = m'.blk → b = b'
  below : Stays w0 w
  zr : ZR w0 μ H w

theorem ZR.lt {w0 : Base} {μ : Mu} {H : Heap} {w : World} (h : ZR w0 μ H w) {k : Nat} {o : Obj} (hz : μ.z k = some o) : k < w.heap.size := by
  have := h.at_ k o hz
  rcases Nat.lt_or_ge k w.heap.size with hlt | hge
  · exact hlt
  · rw [Array.getElem?_eq_none hge] at this; cases this

/-- Blocks that stay: where the world keeps them, and no new one's own is among them. -/
theorem ZR.step {w0 : Base} {μ μ' : Mu} {H H' : Heap} {w w' : World} (h : ZR w0 μ H w) (hz : μ'.z = μ.z) (hw : ∀ k o, μ.z k = some o → w'.heap[k]? = w.heap[k]?)
    (hb : ∀ b x m, H'.get b = some x → x.ro = false → μ' b = some m → (∃ b' x', H.get b' = some x' ∧ x'.ro = false ∧ ∃ m', μ b' = some m' ∧ m'.blk = m.blk) ∨ w.heap.size ≤ m.blk) : ZR w0 μ' H' w' := by
  constructor
  · intro k o hk
    rw [hz] at hk
    rw [hw k o hk]; exact h.at_ k o hk
  · intro k o hk
    rw [hz] at hk
    exact h.old k o hk
  · intro k o b x m hk hx hr hm
    rw [hz] at hk
    rcases hb b x m hx hr hm with ⟨b', x', h1, h2, m', h3, h4⟩ | hge
    · rw [← h4]; exact h.apart k o b' x' m' hk h1 h2 h3
    · have := h.lt hk; omega

def Mu.set (μ : Mu) (b : Nat) (m : MB) : Mu := ⟨fun c => if c = b then some m else μ c, μ.z⟩
theorem Mu.set_get (μ : Mu) (b : Nat) (m : MB) (c : Nat) : (μ.set b m) c = if c = b then some m else μ c := rfl
theorem Mu.set_z (μ : Mu) (b : Nat) (m : MB) : (μ.set b m).z = μ.z := rfl
theorem Mu.le_set {μ : Mu} {H : Heap} (dom : ∀ b m, μ b = some m → b < H.n) (m : MB) : μ.le (μ.set H.n m) := by
  refine ⟨fun b x h => ?_, fun _ _ h => h⟩
  have := dom b x h
  rw [Mu.set_get]
  rw [if_neg (by omega)]; exact h

/-- A block of the world that is not written, or a new one laid: what stood there stands. -/
theorem BR.keep {B0 : Base} {μ μ' : Mu} {w w' : World} {k : Blk} {m : MB} (h : BR B0 μ w k m) (hle : μ.le μ') (hw : w'.heap[m.blk]? = w.heap[m.blk]?) : BR B0 μ' w' k m := by
  obtain ⟨cs, el, fz, h1, h2, h3, h4⟩ := h.here
  refine ⟨h.esz, h.ro, ⟨cs, el, fz, hw.trans h1, h2, h3, fun i v hv => ?_⟩, h.ones, h.ext, h.own, h.low⟩
  obtain ⟨v', e, r⟩ := h4 i v hv
  exact ⟨v', e, r.up hle⟩

theorem BR.lt {B0 : Base} {μ : Mu} {w : World} {k : Blk} {m : MB} (h : BR B0 μ w k m) : m.blk < w.heap.size := by
  obtain ⟨cs, el, fz, h1, _⟩ := h.here
  rcases Nat.lt_or_ge m.blk w.heap.size with hlt | hge
  · exact hlt
  · rw [Array.getElem?_eq_none hge] at h1; cases h1

theorem heap_alloc_lt (w : World) (o : Obj) (k : Nat) (h : k < w.heap.size) : (w.alloc o).heap[k]? = w.heap[k]? := Below.heap_alloc w o k h
theorem heap_alloc_new' (w : World) (o : Obj) : (w.alloc o).heap[w.heap.size]? = some o := by
  show (w.heap.push o)[w.heap.size]? = _
  simp

/-- A new block is laid in both; μ knows where. -/
theorem HR.alloc {w0 : Base} {μ : Mu} {H : Heap} {w : World} (h : HR w0 μ H w) (cells : List Value) (cs : Array Value) (el : TypeId) (esz ext : Nat)
    (hsz : ext ≤ cs.size) (hext : cells.length ≤ ext) (h1 : Ones cells) (hv : ∀ (i : Nat) v, cells[i]? = some v → ∃ v', cs[i]? = some v' ∧ VR μ v v') :
    HR w0 (μ.set H.n ⟨w.heap.size, 0, ext, esz, false⟩) (H.push ⟨cells, esz, false⟩) (w.alloc (.cells cs el)) := by
  have hle := Mu.le_set h.dom (μ := μ) (H := H) ⟨w.heap.size, 0, ext, esz, false⟩
  have hs : ¬ w0.S w.heap.size := fun hq => by have h1 := h.below.lt _ hq; have h2 := h.below.size; omega
  constructor
  · intro b m hb
    rw [Heap.n_push]
    rw [Mu.set_get] at hb
    split at hb
    · omega
    · have := h.dom b m hb; omega
  · intro b k hk
    rw [Heap.get_push] at hk
    split at hk
    · rename_i hb
      injection hk with hk
      subst hk hb
      refine ⟨⟨w.heap.size, 0, ext, esz, false⟩, by simp [Mu.set], rfl, rfl, ⟨cs, el, (0, 0), heap_alloc_new' _ _, fun _ => rfl, by simpa using hsz, fun i v hi => ?_⟩, h1, hext, fun _ => hs, fun hf => by cases hf⟩
      obtain ⟨v', e, r⟩ := hv i v hi
      exact ⟨v', by simpa using e, r.up hle⟩
    · obtain ⟨m, hm, hb⟩ := h.blk b k hk
      exact ⟨m, hle.f _ _ hm, hb.keep hle (heap_alloc_lt _ _ _ hb.lt)⟩
  · intro b b' k k' m m' hk hk' r r' hm hm' he
    rw [Heap.get_push] at hk hk'
    rw [Mu.set_get] at hm hm'
    by_cases e1 : b = H.n <;> by_cases e2 : b' = H.n
    · omega
    · rw [if_neg e2] at hk' hm'
      rw [if_pos e1] at hm
      obtain ⟨m2, hm2, hb2⟩ := h.blk b' k' hk'
      rw [hm'] at hm2; injection hm2 with hm2; subst hm2
      injection hm with hm; subst hm
      have := hb2.lt
      dsimp only at he; omega
    · rw [if_neg e1] at hk hm
      rw [if_pos e2] at hm'
      obtain ⟨m2, hm2, hb2⟩ := h.blk b k hk
      rw [hm] at hm2; injection hm2 with hm2; subst hm2
      injection hm' with hm'; subst hm'
      have := hb2.lt
      dsimp only at he; omega
    · rw [if_neg e1] at hk hm
      rw [if_neg e2] at hk' hm'
      exact h.inj b b' k k' m m' hk hk' r r' hm hm' he
  · exact h.below.step rfl rfl rfl (by simp) fun k hk => heap_alloc_lt _ _ _ (by have h1 := h.below.lt _ hk; have h2 := h.below.size; omega)
  · refine h.zr.step rfl (fun k o hk => heap_alloc_lt _ _ _ (h.zr.lt hk)) fun b x m hx hr hm => ?_
    rw [Heap.get_push] at hx
    rw [Mu.set_get] at hm
    split at hx
    · rename_i hb
      rw [if_pos hb] at hm
      injection hm with hm; subst hm
      exact .inr (Nat.le_refl _)
    · rename_i hb
      rw [if_neg hb] at hm
      exact .inl ⟨b, x, hx, hr, m, hm, rfl⟩

/-- A block more that nobody knows. -/
theorem HR.extra {w0 : Base} {μ : Mu} {H : Heap} {w : World} (h : HR w0 μ H w) (o : Obj) : HR w0 μ H (w.alloc o) := by
  constructor
  · exact h.dom
  · intro b k hk
    obtain ⟨m, hm, hb⟩ := h.blk b k hk
    exact ⟨m, hm, hb.keep (Mu.le_refl _) (heap_alloc_lt _ _ _ hb.lt)⟩
  · exact h.inj
  · exact h.below.step rfl rfl rfl (by simp) fun k hk => heap_alloc_lt _ _ _ (by have h1 := h.below.lt _ hk; have h2 := h.below.size; omega)
  · exact h.zr.step rfl (fun k o hk => heap_alloc_lt _ _ _ (h.zr.lt hk)) fun b x m hx hr hm => .inl ⟨b, x, hx, hr, m, hm, rfl⟩

/-- A draw turns nothing. -/
theorem HR.drew {w0 : Base} {μ : Mu} {H : Heap} {w w' : World} (h : HR w0 μ H w) (hh : w'.heap = w.heap) (ho : w'.os = w.os) (ht : w'.tape = w.tape) (hp : w'.output = w.output) : HR w0 μ H w' := by
  constructor
  · exact h.dom
  · intro b k hk
    obtain ⟨m, hm, hb⟩ := h.blk b k hk
    exact ⟨m, hm, hb.keep (Mu.le_refl _) (by rw [hh])⟩
  · exact h.inj
  · exact h.below.step ho ht hp (by rw [hh]; exact Nat.le_refl _) fun k _ => by rw [hh]
  · exact h.zr.step rfl (fun k o _ => by rw [hh]) fun b x m hx hr hm => .inl ⟨b, x, hx, hr, m, hm, rfl⟩

/-- Blocks may be forgotten. -/
theorem HR.kill {w0 : Base} {μ : Mu} {H : Heap} {w : World} (h : HR w0 μ H w) {b : Nat} {k : Blk} (hb : H.get b = some k) : HR w0 μ (H.set b none) w := by
  constructor
  · intro c m hc; rw [Heap.n_set]; exact h.dom c m hc
  · intro c x hc
    rw [Heap.get_set hb] at hc
    split at hc
    · cases hc
    · exact h.blk c x hc
  · intro c c' x x' m m' hc hc'
    rw [Heap.get_set hb] at hc hc'
    split at hc
    · cases hc
    · split at hc'
      · cases hc'
      · exact h.inj c c' x x' m m' hc hc'
  · exact h.below
  · refine h.zr.step rfl (fun _ _ _ => rfl) fun c x m hx hr hm => ?_
    rw [Heap.get_set hb] at hx
    split at hx
    · cases hx
    · exact .inl ⟨c, x, hx, hr, m, hm, rfl⟩

/-- A cell is read. -/
theorem HR.cell {w0 : Base} {μ : Mu} {H : Heap} {w : World} (h : HR w0 μ H w) {b off : Nat} {k : Blk} {m : MB} {v : Value} (hk : H.get b = some k) (hm : μ b = some m) (hv : k.cells[off]? = some v) :
    ∃ v', w.cell? ⟨m.blk, m.base + off, none⟩ = some v' ∧ VR μ v v' ∧ v.oneCell' = true := by
  obtain ⟨m2, hm2, hb⟩ := h.blk b k hk
  rw [hm] at hm2; injection hm2 with hm2; subst hm2
  obtain ⟨cs, el, fz, h1, h2, h3, h4⟩ := hb.here
  obtain ⟨v', e, r⟩ := h4 off v hv
  exact ⟨v', by simp [World.cell?, h1, e], r, hb.ones.get hv⟩
theorem add_at (b off n : Nat) : (⟨b, off, none⟩ : Addr).add n = ⟨b, off + n, none⟩ := by unfold Addr.add; split <;> simp_all

/-- Cells in a row are read. -/
theorem HR.cells {w0 : Base} {μ : Mu} {H : Heap} {w : World} (h : HR w0 μ H w) {b off n : Nat} {m : MB} {vs : List Value} (hm : μ b = some m) (hv : cellsAt H b off n = some vs) :
    ∃ vs', vs'.length = n ∧ (∀ j v, vs'[j]? = some v → w.cell? ((⟨m.blk, m.base + off, none⟩ : Addr).add j) = some v) ∧ VRs μ vs vs' ∧ Ones vs := by
  unfold cellsAt at hv
  cases hk : H.get b with
  | none => simp [hk] at hv
  | some k =>
    simp only [hk, Option.bind_some] at hv
    split at hv
    · rename_i hle
      injection hv with hv
      subst hv
      have hle := Nat.le_of_ble_eq_true hle
      obtain ⟨m2, hm2, hb⟩ := h.blk b k hk
      rw [hm] at hm2; injection hm2 with hm2; subst hm2
      obtain ⟨cs, el, fz, h1, h2, h3, h4⟩ := hb.here
      have hx := hb.ext
      have hlen : ((k.cells.drop off).take n).length = n := by simp; omega
      have hlen' : ((cs.toList.drop (m.base + off)).take n).length = n := by simp; omega
      refine ⟨(cs.toList.drop (m.base + off)).take n, hlen', fun j v hj => ?_, ⟨hlen.trans hlen'.symm, fun j v v' hj hj' => ?_⟩, (hb.ones.drop _).take _⟩
      · rw [List.getElem?_take] at hj
        split at hj
        · rw [List.getElem?_drop] at hj
          rw [add_at]
          simp only [World.cell?, h1]
          simpa using hj
        · cases hj
      · rw [List.getElem?_take] at hj hj'
        split at hj
        · rename_i hjn
          rw [if_pos hjn, List.getElem?_drop] at hj'
          rw [List.getElem?_drop] at hj
          obtain ⟨u, e, r⟩ := h4 _ v hj
          rw [← Nat.add_assoc] at e
          have : u = v' := by
            have e2 : cs[m.base + off + j]? = some v' := by simpa using hj'
            rw [e] at e2; injection e2
          subst this
          exact r
        · cases hj
    · cases hv

end Go.Sw
