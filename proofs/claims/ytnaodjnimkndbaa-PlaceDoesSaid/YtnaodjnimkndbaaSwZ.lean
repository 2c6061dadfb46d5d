/-
  From the evaluator to the claim: functions that are told by a run of their own; a law's call.
-/
import Derived.Test.YtnaodjnimkndbaaSwF
namespace Go.Sw
open Go.RowKit

/-- Where a call begins: all that is there stays. -/
def Base.start (w : World) : Base := ⟨w, fun k => k < w.heap.size, fun k => k < w.heap.size, fun _ => True⟩
/-- Nothing is known; all that is there stays. -/
def Mu.start (w : World) : Mu := ⟨fun _ => none, fun k => w.heap[k]?⟩

theorem HR.empty (w : World) : HR (Base.start w) (Mu.start w) Heap.empty w := by
  constructor
  · intro b m h; cases h
  · intro b k h; simp [Heap.get, Heap.empty] at h
  · intro b b' k k' m m' h; simp [Heap.get, Heap.empty] at h
  · exact ⟨rfl, rfl, rfl, Nat.le_refl _, fun _ _ => rfl, fun _ h => h, fun _ h => h⟩
  · exact ⟨fun _ _ h => h, fun _ _ _ _ => trivial, fun k o b x m _ h => by simp [Heap.get, Heap.empty] at h⟩

theorem Stays.start (w : World) : Stays (Base.start w) w := ⟨rfl, rfl, rfl, Nat.le_refl _, fun _ _ => rfl, fun _ h => h, fun _ h => h⟩
theorem Stays.below {w w' : World} (h : Stays (Base.start w) w') : Below w.heap.size w w' := ⟨h.os, h.tape, h.output, h.size, fun k hk => h.block k hk⟩

/-- Whatever a call does that is given no memory: what was there is as it was. -/
theorem HR.over {w0 : Base} {μ : Mu} {H : Heap} {w w' : World} (h : HR w0 μ H w) (hs : Stays (Base.start w) w') : HR w0 μ H w' := by
  constructor
  · exact h.dom
  · intro b k hk
    obtain ⟨m, hm, hb⟩ := h.blk b k hk
    exact ⟨m, hm, hb.keep (Mu.le_refl _) (hs.block _ hb.lt)⟩
  · exact h.inj
  · exact h.below.step hs.os hs.tape hs.output hs.size fun k hk => hs.block k (by have h1 := h.below.lt _ hk; have h2 := h.below.size; show k < w.heap.size; omega)
  · exact h.zr.step rfl (fun k o hk => hs.block k (h.zr.lt hk)) fun b x m hx hr hm => .inl ⟨b, x, hx, hr, m, hm, rfl⟩

/-- A function without arguments that was run by itself, and answers a value that leads to no memory. -/
def constSp (v : Value) (_ : Caller) (args : List Value) (H : Heap) : Res Value :=
  match args with
  | [] => .ok v H
  | _ => .stuck

theorem VR.plain_eq {μ : Mu} {v v' : Value} (h : VR μ v v') (hp : plain1 v = true) : v' = v := by
  unfold plain1 at hp
  split at hp <;> first
    | (cases h; rfl; done)
    | exact (Bool.false_ne_true hp).elim

theorem constSp_ok {P : Program} {call0 : Caller} (h0 : CallOk P call0) {f : FuncId} {v : Value} {H1 : Heap} (hrun : call0 f [] Heap.empty = .ok v H1) (hp : plain1 v = true) :
    ∀ call : Caller, CallOk P call → ∀ args H, constSp v call args H ≠ .stuck →
      (∃ fn, P.funcs[f]? = some fn ∧ fn.body.isSome = true ∧ (fn.name == "runtime.NumGoroutine") = false) ∧
      ∀ w0 μ w args', HR w0 μ H w → VRs μ args args' → Calls P f args'.toArray w fun e w' => Ended w0 μ (constSp v call args H) e w' := by
  intro call _ args H hne
  obtain ⟨h1, h2⟩ := h0 f [] Heap.empty (by rw [hrun]; simp)
  refine ⟨h1, fun w0 μ w args' hH hargs => ?_⟩
  unfold constSp at hne ⊢
  split at hne
  · have := hargs.nil_inv
    subst this
    refine (h2 (Base.start w) _ w [] (HR.empty w) VRs.nil).mono fun e w' he => ?_
    rw [hrun] at he
    obtain ⟨μ', v', h3, h4, h5, rfl⟩ := he
    have := h5.plain_eq hp
    subst this
    exact ⟨μ, _, Mu.le_refl _, hH.over h4.below, VR.of_plain (by cases v' <;> simp_all [plain, plain1]), rfl⟩
  · exact absurd rfl hne

/-- A law: the evaluator says true; so does the call, and nothing that was there is turned. -/
theorem law_calls {P : Program} {call : Caller} (hc : CallOk P call) {f : FuncId} {args args' : List Value} {H H' : Heap} {μ : Mu} {w : World} (hH : HR (Base.start w) μ H w) (hargs : VRs μ args args') (hrun : call f args H = .ok (.bool true) H') :
    Calls P f args'.toArray w fun e w' => e = .returned (.bool true) ∧ Below w.heap.size w w' := by
  obtain ⟨_, h2⟩ := hc f args H (by rw [hrun]; simp)
  refine (h2 (Base.start w) μ w args' hH hargs).mono fun e w' he => ?_
  rw [hrun] at he
  obtain ⟨μ', v', h3, h4, h5, rfl⟩ := he
  cases h5
  exact ⟨rfl, h4.below.below⟩
end Go.Sw
