/-
  What is told of functions that are not read: view.Try. And runs whose heap nobody sees.
-/
import Derived.Test.YtnaodjnimkndbaaSwAC
namespace Go.Sw

/-- view.Try: it calls what it is given, and tells whether that ended without a throw of the type. -/
def tryV (short : TypeId) (call : Caller) (args : List Value) (H : Heap) : Res Value :=
  match args with
  | [.func (.func g) first captured] =>
    (call g (first.toList ++ captured.toList) H).bindP (fun _ H' => .ok (.bool true) H') fun v H' =>
      match v with
      | .iface t _ => bif Nat.beq t short then .ok (.bool false) H' else .stuck
      | _ => .stuck
  | _ => .stuck
theorem Scott.tryV (short : TypeId) : ∀ args H, Scott fun call => tryV short call args H := by
  intro args H
  unfold Go.Sw.tryV
  split
  · exact Scott.bindP (Scott.call _ _ _) (fun _ _ => Scott.const _) fun _ _ => Scott.const _
  · exact Scott.const _
/-- What is told of a function by a value alone. -/
theorem Scott.told {s : List Value → Heap → Res Value} : ∀ args H, Scott fun _ => s args H := fun _ _ => Scott.const _

/-- Of some laws what is answered stays one's own. -/
def own (k : Nat) : Mode := bif Nat.blt k 1000000 then .fz else .no

/-- New memory, and nothing that was there is turned. -/
abbrev Ext (H H' : Heap) : Prop := Keeps [] H H'
theorem Ext.refl (H : Heap) : Ext H H := Keeps.refl [] H
theorem Ext.trans {a b c : Heap} (h : Ext a b) (k : Ext b c) : Ext a c := Keeps.trans h k
theorem Ext.push {H H' : Heap} (h : Ext H H') (k : Blk) : Ext H (H'.push k) := h.trans (Keeps.push H' k)
theorem Ext.get {H H' : Heap} (h : Ext H H') {b : Nat} {k : Blk} (hb : H.get b = some k) : H'.get b = some k := Keeps.get h hb (by simp)
theorem Ext.set {H H' : Heap} (h : Ext H H') {b : Nat} (hb : H.n ≤ b) (x : Option Blk) : Ext H (H'.set b x) := by
  refine ⟨by rw [Heap.n_set]; exact h.1, fun c hc hs => ?_⟩
  rw [← h.2 c hc hs]
  unfold Heap.set
  split
  · unfold Heap.get
    dsimp only
    split
    · rw [List.getElem?_set_ne (by omega)]
    · rfl
  · rfl
theorem Ext.n {H H' : Heap} (h : Ext H H') : H.n ≤ H'.n := h.1

/-- It comes to that, whatever new memory it makes. -/
theorem Ext.empty (H : Heap) : Ext Heap.empty H := ⟨Nat.zero_le _, fun _ hc => absurd hc (Nat.not_lt_zero _)⟩
def Pure {α : Type} (H : Heap) (r : Res α) (a : α) : Prop := ∃ H', r = .ok a H' ∧ Ext H H'
def Throws {α : Type} (H : Heap) (r : Res α) (v : Value) : Prop := ∃ H', r = .panic v H' ∧ Ext H H'
theorem Pure.ret {α : Type} {H H' : Heap} {a : α} (h : Ext H H') : Pure H (.ok a H') a := ⟨H', rfl, h⟩
theorem Pure.of {α : Type} {H : Heap} {r : Res α} {a : α} (h : r = .ok a H) : Pure H r a := ⟨H, h, Ext.refl H⟩
theorem Pure.more {α : Type} {H H' : Heap} {r : Res α} {a : α} (h : Pure H' r a) (he : Ext H H') : Pure H r a := by
  obtain ⟨H2, h1, h2⟩ := h
  exact ⟨H2, h1, he.trans h2⟩
theorem Pure.bind {α β : Type} {H : Heap} {r : Res α} {a : α} {f : α → Heap → Res β} {b : β} (h : Pure H r a) (hf : ∀ H', Ext H H' → Pure H' (f a H') b) : Pure H (r.bind f) b := by
  obtain ⟨H1, rfl, h1⟩ := h
  obtain ⟨H2, h2, h3⟩ := hf H1 h1
  exact ⟨H2, h2, h1.trans h3⟩

theorem nrm_gc {H : Heap} {r : Res Value} {v : Value} (h : Pure H r v) (ha : Alive H v) : nrm .gc H r = .ok v H := by
  obtain ⟨H', rfl, he⟩ := h
  have hfr : frozen .gc H v H' = (v, H') := rfl
  unfold nrm
  dsimp only
  rw [if_pos (by rw [hfr]; exact ⟨he, ha⟩), hfr]
theorem nrm_fz {H H' : Heap} {r : Res Value} {v u : Value} {L : List Nat} (h : r = .ok v H') (hf : fzV H.n H' fzDepth v = some (u, L)) (he : Ext H H') (ha : Alive H u) : nrm .fz H r = .ok u H := by
  subst h
  have hfr : frozen .fz H v H' = (u, killAll H' L) := by unfold frozen; rw [hf]
  unfold nrm
  dsimp only
  rw [if_pos ?_, hfr]
  rw [hfr]
  refine ⟨?_, ha⟩
  refine ⟨by rw [killAll_n]; exact he.1, fun b hb hs => ?_⟩
  rw [killAll_get, if_neg, he.2 b hb hs]
  intro hm
  have := (fz_own _ _ _ _ hf b hm).1
  omega
theorem nrm_throw {H : Heap} {md : Mode} {r : Res Value} {v : Value} (h : Throws H r v) (ha : Alive H v) : nrm md H r = .panic v H := by
  obtain ⟨H', rfl, he⟩ := h
  unfold nrm
  dsimp only
  rw [if_pos ⟨he, ha⟩]
@[simp] theorem nrm_no (H : Heap) (v : Value) (H' : Heap) : nrm .no H (.ok v H') = .ok v H' := rfl

/-! ### values that are flat: numbers, bools, and what is frozen -/

inductive Flat : Value → Prop
  | bool (b : Bool) : Flat (.bool b)
  | int (k : IntKind) (n : Int) : Flat (.int k n)
  | string (s : ByteArray) : Flat (.string s)
  | nilPtr : Flat (.pointer none)
  | via (n : Nat) (p : Array FieldStep) (g : FuncId) (t : Bool) (cells ys : Array Value) (h : ∀ (i : Nat) (v : Value), cells[i]? = some v → Flat v) : Flat (.func (.via n p g t) cells ys)
  | nilFunc : Flat .nilFunc
  | nilIface : Flat .nilIface
  | iface (t : TypeId) (v : Value) (h : Flat v) : Flat (.iface t v)
  | agg (xs : Array Value) (h : ∀ (i : Nat) (v : Value), xs[i]? = some v → Flat v) : Flat (.agg xs)
  | tuple (xs : Array Value) (h : ∀ (i : Nat) (v : Value), xs[i]? = some v → Flat v) : Flat (.tuple xs)
theorem Flat.alive {H : Heap} {v : Value} (h : Flat v) : Alive H v := by
  induction h with
  | bool b => exact .bool b
  | int k n => exact .int k n
  | string s => exact .string s
  | nilPtr => exact .nilPtr
  | via n p g t cells ys _ ih => cases t with
    | false => exact .list n p g cells ys ih
    | true => exact .box n p g cells ys ih
  | nilFunc => exact .nilFunc
  | nilIface => exact .nilIface
  | iface t v _ ih => exact .iface t v ih
  | agg xs _ ih => exact .agg xs ih
  | tuple xs _ ih => exact .tuple xs ih
/-- All of a list are flat. -/
def Flats (l : List Value) : Prop := ∀ v, v ∈ l → Flat v
theorem Flats.nil : Flats [] := fun v h => by simp at h
theorem Flats.cons {v : Value} {l : List Value} (h : Flat v) (hl : Flats l) : Flats (v :: l) := fun u hu => by
  rcases List.mem_cons.1 hu with rfl | hu
  · exact h
  · exact hl u hu
theorem Flats.get {l : List Value} (h : Flats l) {i : Nat} {v : Value} (hv : l[i]? = some v) : Flat v := h v (List.mem_of_getElem? hv)
theorem Flat.listV (n : Nat) {l : List Value} (h : Flats l) : Flat (listV n l.toArray) := .via _ _ _ _ _ _ fun i v hv => h.get (i := i) (by simpa using hv)
theorem Flat.boxV {l : List Value} (h : Flats l) : Flat (boxV l.toArray) := .via _ _ _ _ _ _ fun i v hv => h.get (i := i) (by simpa using hv)
theorem Flat.tupleL {l : List Value} (h : Flats l) : Flat (.tuple l.toArray) := .tuple _ fun i v hv => h.get (i := i) (by simpa using hv)
theorem Flat.aggL {l : List Value} (h : Flats l) : Flat (.agg l.toArray) := .agg _ fun i v hv => h.get (i := i) (by simpa using hv)

/-- Cells that freezing leaves as they are. -/
def Still : Value → Prop
  | .bool _ | .int _ _ | .string _ | .pointer none | .func _ _ _ | .nilFunc | .nilIface => True
  | _ => False
theorem fzV_still {n0 : Nat} {H : Heap} {d : Nat} {v : Value} (h : Still v) : fzV n0 H (d + 1) v = some (v, []) := by
  unfold Still at h
  split at h <;> first | rfl | exact h.elim
theorem mapF_still {n0 : Nat} {H : Heap} {d : Nat} : ∀ {l : List Value}, (∀ v, v ∈ l → Still v) → mapF (fzV n0 H (d + 1)) l = some (l, [])
  | [], _ => rfl
  | v :: l, h => by simp only [mapF, fzV_still (h v (by simp)), mapF_still (l := l) fun u hu => h u (by simp [hu])]; rfl
end Go.Sw
