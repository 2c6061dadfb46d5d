/-
  Runs told by what they come to: the heap by its blocks, what a call may turn, loops by an invariant.
-/
import Derived.Test.YtnaodjnimkndbaaSwL
namespace Go.Sw

/-- It comes to an end, and that is so there. -/
def Ok {α : Type} (r : Res α) (Q : α → Heap → Prop) : Prop := ∃ a H, r = .ok a H ∧ Q a H
theorem Ok.ret {α : Type} {a : α} {H : Heap} {Q : α → Heap → Prop} (h : Q a H) : Ok (.ok a H) Q := ⟨a, H, rfl, h⟩
theorem Ok.mono {α : Type} {r : Res α} {Q Q' : α → Heap → Prop} (h : Ok r Q) (hq : ∀ a H, Q a H → Q' a H) : Ok r Q' := by
  obtain ⟨a, H, e, q⟩ := h
  exact ⟨a, H, e, hq a H q⟩
theorem Ok.bind {α β : Type} {r : Res α} {f : α → Heap → Res β} {Q : α → Heap → Prop} {Q' : β → Heap → Prop} (h : Ok r Q) (hf : ∀ a H, Q a H → Ok (f a H) Q') : Ok (r.bind f) Q' := by
  obtain ⟨a, H, rfl, q⟩ := h
  exact hf a H q
theorem Ok.bindN {α β : Type} {r : Res α} {f : α → Heap → Res β} {Q : α → Heap → Prop} {Q' : β → Heap → Prop} (h : Ok r Q) (hf : ∀ a H, Q a H → Ok (f a H) Q') : Ok (r.bindN f) Q' := by
  obtain ⟨a, H, rfl, q⟩ := h
  exact hf a H q
theorem Ok.eq {α : Type} {r r' : Res α} {Q : α → Heap → Prop} (e : r = r') (h : Ok r' Q) : Ok r Q := by rw [e]; exact h

/-- Of the blocks that were there only those of the list may have turned. -/
def Keeps (S : List Nat) (H H' : Heap) : Prop := H.n ≤ H'.n ∧ ∀ b, b < H.n → b ∉ S → H'.get b = H.get b
theorem Keeps.refl (S : List Nat) (H : Heap) : Keeps S H H := ⟨Nat.le_refl _, fun _ _ _ => rfl⟩
theorem Keeps.trans {S : List Nat} {a b c : Heap} (h : Keeps S a b) (k : Keeps S b c) : Keeps S a c :=
  ⟨Nat.le_trans h.1 k.1, fun x hx hs => (k.2 x (Nat.lt_of_lt_of_le hx h.1) hs).trans (h.2 x hx hs)⟩
theorem Keeps.get {S : List Nat} {H H' : Heap} (h : Keeps S H H') {b : Nat} {k : Blk} (hb : H.get b = some k) (hs : b ∉ S) : H'.get b = some k := by
  rw [h.2 b (Heap.get_lt hb) hs]; exact hb
theorem Keeps.push (H : Heap) (k : Blk) : Keeps [] H (H.push k) := by
  refine ⟨by rw [Heap.n_push]; omega, fun b hb _ => ?_⟩
  rw [Heap.get_push, if_neg (by omega)]
theorem Keeps.set {H : Heap} {b : Nat} {k : Blk} (h : H.get b = some k) (x : Option Blk) : Keeps [b] H (H.set b x) := by
  refine ⟨by rw [Heap.n_set]; omega, fun c hc hs => ?_⟩
  rw [Heap.get_set h, if_neg (by simpa using hs)]
/-- Blocks that are new may turn as they will. -/
theorem Keeps.fresh {S T : List Nat} {a b c : Heap} (h : Keeps S a b) (k : Keeps T b c) (ht : ∀ x, x ∈ T → x ∈ S ∨ a.n ≤ x) : Keeps S a c := by
  refine ⟨Nat.le_trans h.1 k.1, fun x hx hs => ?_⟩
  rw [k.2 x (Nat.lt_of_lt_of_le hx h.1) (fun hxt => ?_), h.2 x hx hs]
  rcases ht x hxt with h1 | h1
  · exact hs h1
  · omega
theorem Keeps.weaken {S T : List Nat} {a b : Heap} (h : Keeps S a b) (ht : ∀ x, x ∈ S → x ∈ T ∨ a.n ≤ x) : Keeps T a b := Keeps.fresh (Keeps.refl T a) h ht

/-- A loop by an invariant and a measure. -/
theorem loopN_ok {body : Env → Heap → Res (AExit × Env)} (Inv : Nat → Env → Heap → Prop) (Q : AExit × Env → Heap → Prop)
    (step : ∀ n e H, Inv n e H → Ok (body e H) fun r H' => match r.1 with | .normal => ∃ m, m < n ∧ Inv m r.2 H' | x => Q (x, r.2) H') :
    ∀ (n fuel : Nat) (e : Env) (H : Heap), n < fuel → Inv n e H → Ok (loopN body fuel e H) Q := by
  intro n
  induction n using Nat.strongRecOn with
  | _ n ih =>
    intro fuel e H hf hi
    obtain ⟨fuel, rfl⟩ : ∃ f, fuel = f + 1 := ⟨fuel - 1, by omega⟩
    obtain ⟨⟨x, e'⟩, H', he, hq⟩ := step n e H hi
    simp only [loopN, he, Res.bind]
    cases x with
    | normal =>
      obtain ⟨m, hm, hi'⟩ := hq
      exact ih m hm fuel e' H' (by omega) hi'
    | exit i => exact ⟨_, _, rfl, hq⟩
    | ret => exact ⟨_, _, rfl, hq⟩
end Go.Sw
