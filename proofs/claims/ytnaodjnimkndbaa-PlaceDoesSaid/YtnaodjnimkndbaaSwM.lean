/-
  What a law's claim asks for, from the evaluator's answer: of any program whose functions are told truly.
-/
import Derived.Test.YtnaodjnimkndbaaSwL
namespace Go.Sw
open Go.RowKit

/-- No function that has a body bears the one name that is read otherwise. -/
def namesB (P : Program) : Bool := P.funcs.toList.all fun fn => fn.body.isNone || !(fn.name == "runtime.NumGoroutine")
theorem NamesOk.of {P : Program} (h : namesB P = true) : NamesOk P := by
  intro f fn hf hb
  unfold namesB at h
  rw [List.all_eq_true] at h
  have hm : fn ∈ P.funcs.toList := List.mem_of_getElem? (i := f) (by rw [Array.getElem?_toList]; exact hf)
  have := h fn hm
  cases hbb : fn.body with
  | none => rw [hbb] at hb; cases hb
  | some code => rw [hbb] at this; simpa using this

theorem run_ok {c : Cfg} (hN : NamesOk c.P) (hmix : c.P.follows .mixedOrders = true) (hsp : SpOk c) (n : Nat) : CallOk c.P (run c n) :=
  callF_ok c (drawOf c) hN hsp (fun _ nt hc => draw_ok hc hmix nt) n

/-- A function that is told: what it does. -/
abbrev Sp := Caller → List Value → Heap → Res Value
/-- With no more told than that. -/
def baseCfg (P : Program) (kp : FuncId → Nat → List Nat) (more : FuncId → Option Sp) : Cfg := { P := P, kp := kp, sp := more }

def oneOf (f : Nat) : List Nat → Bool
  | [] => false
  | x :: xs => bif Nat.beq x f then true else oneOf f xs
def stuckSp : Caller → List Value → Heap → Res Value := fun _ _ _ => .stuck
/-- The functions that are told: of those that speak, the one that is asked for; and some more. -/
def spOf (speaks : List Nat) (more : FuncId → Option Sp) (k f : Nat) : Option Sp :=
  bif oneOf f speaks then (bif Nat.beq f k then some (constSp (.bool true)) else some stuckSp) else more f

def SpIs (P : Program) (f : FuncId) (s : Caller → List Value → Heap → Res Value) : Prop :=
  ∀ call, CallOk P call → ∀ args H, s call args H ≠ .stuck →
    (∃ fn, P.funcs[f]? = some fn ∧ fn.body.isSome = true ∧ (fn.name == "runtime.NumGoroutine") = false) ∧
    ∀ w0 μ w args', HR w0 μ H w → VRs μ args args' → Calls P f args'.toArray w fun e w' => Ended w0 μ (s call args H) e w'

theorem SpIs.stuck (P : Program) (f : FuncId) : SpIs P f stuckSp := fun _ _ _ _ h => absurd rfl h

def okTrue : Res Value → Bool
  | .ok (.bool true) _ => true
  | _ => false
theorem okTrue_spec {r : Res Value} (h : okTrue r = true) : ∃ H, r = .ok (.bool true) H := by
  unfold okTrue at h
  split at h
  · exact ⟨_, rfl⟩
  · cases h

theorem SpOk.base {P : Program} {kp : FuncId → Nat → List Nat} {more : FuncId → Option Sp} (hs : ∀ f s, more f = some s → SpIs P f s) : SpOk (baseCfg P kp more) := fun f s h => hs f s h

theorem SpOk.of {P : Program} {kp : FuncId → Nat → List Nat} {speaks : List Nat} {more : FuncId → Option Sp} {k : Nat} {call0 : Caller}
    (h0 : CallOk P call0) (hrun : okTrue (call0 k [] Heap.empty) = true) (hs : ∀ f s, more f = some s → SpIs P f s) : SpOk { P := P, kp := kp, sp := spOf speaks more k } := by
  intro f s' hf
  simp only [spOf] at hf
  cases h1 : oneOf f speaks with
  | true =>
    rw [h1, cond_true] at hf
    cases h2 : Nat.beq f k with
    | true =>
      rw [h2, cond_true, Option.some.injEq] at hf
      have := Nat.eq_of_beq_eq_true h2
      subst this
      subst hf
      obtain ⟨H1, hr⟩ := okTrue_spec hrun
      exact constSp_ok h0 hr rfl
    | false =>
      rw [h2, cond_false, Option.some.injEq] at hf
      subst hf
      exact SpIs.stuck P f
  | false =>
    rw [h1, cond_false] at hf
    exact hs f s' hf

theorem law_of {c : Cfg} (hN : NamesOk c.P) (hmix : c.P.follows .mixedOrders = true) (hsp : SpOk c) {n : Nat} {f : FuncId} {args args' : List Value} {H H' : Heap} {μ : Mu} {w : World}
    (hH : HR (Base.start w) μ H w) (hargs : VRs μ args args') (hrun : run c n f args H = .ok (.bool true) H') :
    Calls c.P f args'.toArray w fun e w' => e = .returned (.bool true) ∧ Below w.heap.size w w' :=
  law_calls (run_ok hN hmix hsp n) hH hargs hrun

end Go.Sw
