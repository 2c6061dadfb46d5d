/-
  Calls of the evaluator, each behind its mode; without fuel.
-/
import Derived.Test.YtnaodjnimkndbaaSwAB
namespace Go.Sw
open Go.RowKit

theorem Scott.runDraw (c : Cfg) (nt : Nat) (ops : Array Oper) (e : Env) (H : Heap) : Scott fun call => runDraw c call nt ops e H := by
  unfold Go.Sw.runDraw Go.Sw.runDrawK
  exact Scott.bif _ (Scott.drawK c ops _ H (fun rs H' => Scott.stableIf c ops _ _ H rs rs 0 (Scott.const _)) _ _ _ _ _) (Scott.const _)

theorem Scott.exec (c : Cfg) (nt : Nat) (kp : Nat → List Nat) : ∀ (code : Code) (e : Env) (H : Heap), Scott fun call => exec c call (Go.Sw.runDraw c call nt) nt kp code e H
  | .skip, e, H => Scott.const _
  | .label _, e, H => Scott.const _
  | .exit i, e, H => Scott.const _
  | .ret, e, H => Scott.const _
  | .scope _, e, H => Scott.const _
  | .rangeFunc _ _ _ _, e, H => Scott.const _
  | .goto _, e, H => Scott.const _
  | .refuse _, e, H => Scott.const _
  | .region id ops d, e, H => by
    simp only [Go.Sw.exec]
    exact Scott.bind (Scott.bif d (Scott.runDraw c nt ops e H) (Scott.runOps c nt ops ops.toList e H)) fun e' H' => Scott.const _
  | .seq a b, e, H => by
    simp only [Go.Sw.exec]
    refine Scott.bind (Scott.exec c nt kp a e H) fun r H' => ?_
    unfold seqK
    split
    · exact Scott.exec c nt kp b _ _
    · exact Scott.const _
  | .cond x a b, e, H => by
    simp only [Go.Sw.exec]
    exact Scott.condV _ (Scott.exec c nt kp a e H) (Scott.exec c nt kp b e H)
  | .block id a, e, H => by
    simp only [Go.Sw.exec]
    exact Scott.bind (Scott.exec c nt kp a e H) fun r H' => Scott.const _
  | .loop a, e, H => by
    simp only [Go.Sw.exec]
    exact Scott.loopN (F := fun call e H => (Go.Sw.exec c call (Go.Sw.runDraw c call nt) nt kp a e H).bind fun r H' => .ok (roundK (kp (headOf a)) r) H')
      (fun e H => Scott.bind (Scott.exec c nt kp a e H) fun r H' => Scott.const _) _ _ _

theorem Scott.bodyK (c : Cfg) (f : FuncId) (args : List Value) (H : Heap) : Scott fun call => bodyK c call f args H := by
  unfold Go.Sw.bodyK
  cases c.P.funcs[f]? with
  | none => exact Scott.const _
  | some fn =>
    dsimp only
    cases fn.body with
    | none => exact Scott.const _
    | some code =>
      dsimp only
      refine Scott.bif _ ?_ (Scott.const _)
      simp only [execK_eq]
      exact Scott.bind (Scott.exec c _ _ code _ H) fun r H' => Scott.const _

theorem Scott.nrm {F : Caller → Res Value} (hF : Scott F) (md : Mode) (H : Heap) : Scott fun call => nrm md H (F call) := by
  intro s lim h hne
  obtain ⟨n, hn⟩ := hF s lim h (nrm_stuck hne)
  exact ⟨n, fun m hm => by dsimp only; rw [hn m hm]⟩

/-- What is told of functions, and in which mode each is called. -/
structure Told where
  c : Cfg
  md : FuncId → Mode

noncomputable def stepG (t : Told) (call : Caller) : Caller := fun f args H =>
  match t.c.sp f with
  | some s => nrm (t.md f) H (s call args H)
  | none => nrm (t.md f) H (bodyK t.c call f args H)
noncomputable def callG (t : Told) : Nat → Caller
  | 0 => fun _ _ _ => .stuck
  | n + 1 => stepG t (callG t n)

/-- What is told of functions hangs on finitely many calls. -/
def SpScott (c : Cfg) : Prop := ∀ f s, c.sp f = some s → ∀ args H, Scott fun call => s call args H

theorem SpScott.of {P : Program} {kp : FuncId → Nat → List Nat} {speaks : List Nat} {more : FuncId → Option Sp} {k : Nat} (hs : ∀ f s, more f = some s → ∀ args H, Scott fun call => s call args H) :
    SpScott { P := P, kp := kp, sp := spOf speaks more k } := by
  intro f s' hf
  simp only [spOf] at hf
  cases h1 : oneOf f speaks with
  | true =>
    rw [h1, cond_true] at hf
    cases h2 : Nat.beq f k with
    | true =>
      rw [h2, cond_true, Option.some.injEq] at hf
      subst hf
      exact fun args H => Scott.const _
    | false =>
      rw [h2, cond_false, Option.some.injEq] at hf
      subst hf
      exact fun args H => Scott.const _
  | false =>
    rw [h1, cond_false] at hf
    exact hs f s' hf

theorem Scott.stepG {t : Told} (hs : SpScott t.c) (f : FuncId) (args : List Value) (H : Heap) : Scott fun call => stepG t call f args H := by
  unfold Go.Sw.stepG
  cases h : t.c.sp f with
  | some s => exact Scott.nrm (hs f s h args H) _ _
  | none => exact Scott.nrm (Scott.bodyK _ _ _ _) _ _

def Le (c1 c2 : Caller) : Prop := ∀ f a H, c1 f a H ≠ .stuck → c2 f a H = c1 f a H
theorem Scott.mono {α : Type} {F : Caller → Res α} (hF : Scott F) {c1 c2 : Caller} (h : Le c1 c2) (hne : F c1 ≠ .stuck) : F c2 = F c1 := by
  obtain ⟨n, hn⟩ := hF (fun _ => c2) c1 (fun f a H hn => ⟨0, fun m _ => h f a H hn⟩) hne
  exact hn n (Nat.le_refl _)

theorem callG_up {t : Told} (hs : SpScott t.c) : ∀ n, Le (callG t n) (callG t (n + 1))
  | 0 => fun _ _ _ h => absurd rfl h
  | n + 1 => fun f a H h => Scott.mono (Scott.stepG hs f a H) (callG_up hs n) h
theorem callG_le {t : Told} (hs : SpScott t.c) {n m : Nat} (h : n ≤ m) : Le (callG t n) (callG t m) := by
  induction h with
  | refl => exact fun _ _ _ _ => rfl
  | step _ ih =>
    intro f a H hn
    have h1 := ih f a H hn
    rw [← h1]
    exact callG_up hs _ f a H (by rw [h1]; exact hn)

open Classical in
/-- What a call comes to, however deep it goes. -/
noncomputable def R (t : Told) : Caller := fun f args H => if h : ∃ n, callG t n f args H ≠ .stuck then callG t (Classical.choose h) f args H else .stuck

theorem R_of {t : Told} (hs : SpScott t.c) {n : Nat} {f : FuncId} {args : List Value} {H : Heap} (h : callG t n f args H ≠ .stuck) : R t f args H = callG t n f args H := by
  unfold R
  have hex : ∃ n, callG t n f args H ≠ .stuck := ⟨n, h⟩
  rw [dif_pos hex]
  have h2 := Classical.choose_spec hex
  rcases Nat.le_total n (Classical.choose hex) with hl | hl
  · exact callG_le hs hl f args H h
  · exact (callG_le hs hl f args H h2).symm
theorem R_appr {t : Told} (hs : SpScott t.c) : Appr (callG t) (R t) := by
  intro f a H h
  unfold R at h
  by_cases hex : ∃ n, callG t n f a H ≠ .stuck
  · obtain ⟨n, hn⟩ := hex
    refine ⟨n, fun m hm => ?_⟩
    have := callG_le hs hm f a H hn
    rw [this, R_of hs hn]
  · rw [dif_neg hex] at h; exact absurd rfl h

theorem R_step {t : Told} (hs : SpScott t.c) (f : FuncId) (args : List Value) (H : Heap) : R t f args H = stepG t (R t) f args H := by
  by_cases h : stepG t (R t) f args H = .stuck
  · rw [h]
    by_cases hr : R t f args H = .stuck
    · exact hr
    · exfalso
      have hex : ∃ n, callG t n f args H ≠ .stuck := by
        unfold R at hr
        by_cases hex : ∃ n, callG t n f args H ≠ .stuck
        · exact hex
        · rw [dif_neg hex] at hr; exact absurd rfl hr
      obtain ⟨n, hn⟩ := hex
      cases n with
      | zero => exact hn rfl
      | succ n =>
        have hle : Le (callG t n) (R t) := fun f a H h => R_of hs h
        have := Scott.mono (Scott.stepG hs f args H) hle hn
        rw [h] at this
        exact hn this.symm
  · obtain ⟨n, hn⟩ := Scott.stepG hs f args H (callG t) (R t) (R_appr hs) h
    have h1 := hn n (Nat.le_refl _)
    dsimp only at h1
    have h2 : callG t (n + 1) f args H = stepG t (R t) f args H := h1
    rw [← h2]
    exact R_of hs (by rw [h2]; exact h)

theorem R_body {t : Told} (hs : SpScott t.c) {f : FuncId} (h : t.c.sp f = none) (args : List Value) (H : Heap) : R t f args H = nrm (t.md f) H (bodyK t.c (R t) f args H) := by
  rw [R_step hs]
  unfold stepG
  rw [h]
theorem R_sp {t : Told} (hs : SpScott t.c) {f : FuncId} {s : Caller → List Value → Heap → Res Value} (h : t.c.sp f = some s) (args : List Value) (H : Heap) : R t f args H = nrm (t.md f) H (s (R t) args H) := by
  rw [R_step hs]
  unfold stepG
  rw [h]

theorem nrm_ok {P : Program} {md : Mode} {f : FuncId} {args : List Value} {H : Heap} {r : Res Value}
    (h : r ≠ .stuck → (∃ fn, P.funcs[f]? = some fn ∧ fn.body.isSome = true ∧ (fn.name == "runtime.NumGoroutine") = false) ∧ ∀ w0 μ w args', HR w0 μ H w → VRs μ args args' → Calls P f args'.toArray w fun e w' => Ended w0 μ r e w')
    (hne : nrm md H r ≠ .stuck) :
    (∃ fn, P.funcs[f]? = some fn ∧ fn.body.isSome = true ∧ (fn.name == "runtime.NumGoroutine") = false) ∧ ∀ w0 μ w args', HR w0 μ H w → VRs μ args args' → Calls P f args'.toArray w fun e w' => Ended w0 μ (nrm md H r) e w' := by
  obtain ⟨h1, h2⟩ := h (nrm_stuck hne)
  exact ⟨h1, fun w0 μ w args' hH ha => (h2 w0 μ w args' hH ha).mono fun e w' he => nrm_sim md hH he⟩

theorem callG_ok {t : Told} (hN : NamesOk t.c.P) (hmix : t.c.P.follows .mixedOrders = true) (hsp : SpOk t.c) : ∀ n, CallOk t.c.P (callG t n)
  | 0 => fun _ _ _ h => absurd rfl h
  | n + 1 => by
    intro f args H hne
    have ih := callG_ok hN hmix hsp n
    simp only [callG, stepG] at hne ⊢
    cases hs : t.c.sp f with
    | some s =>
      rw [hs] at hne
      exact nrm_ok (fun h => hsp f s hs _ ih args H h) hne
    | none =>
      rw [hs] at hne
      refine nrm_ok (fun h => ?_) hne
      unfold bodyK at h ⊢
      cases hf : t.c.P.funcs[f]? with
      | none => rw [hf] at h; exact absurd rfl h
      | some fn =>
        rw [hf] at h
        dsimp only at h ⊢
        cases hb : fn.body with
        | none => rw [hb] at h; exact absurd rfl h
        | some code =>
          rw [hb] at h
          dsimp only at h ⊢
          cases hl : Nat.ble args.length fn.ntmps with
          | false => rw [hl] at h; exact absurd rfl h
          | true =>
            rw [hl] at h
            simp only [cond_true, execK_eq, kDone_eq] at h ⊢
            have := body_ok (draw := fun nt => runDraw t.c (callG t n) nt) hN ih (fun nt => draw_ok ih hmix nt) hf hb (Nat.le_of_ble_eq_true hl) h
            rw [hf] at this
            exact this

theorem R_ok {t : Told} (hN : NamesOk t.c.P) (hmix : t.c.P.follows .mixedOrders = true) (hsp : SpOk t.c) (hs : SpScott t.c) : CallOk t.c.P (R t) := by
  intro f args H hne
  obtain ⟨n, hn⟩ := R_appr hs f args H hne
  have h1 := hn n (Nat.le_refl _)
  rw [← h1]
  exact callG_ok hN hmix hsp n f args H (by rw [h1]; exact hne)

/-- A law's call: the evaluator answers true. -/
theorem law_of_R {t : Told} (hN : NamesOk t.c.P) (hmix : t.c.P.follows .mixedOrders = true) (hsp : SpOk t.c) (hs : SpScott t.c) {f : FuncId} {args args' : List Value} {H' : Heap} {w : World}
    (hargs : VRs (Mu.start w) args args') (hrun : R t f args Heap.empty = .ok (.bool true) H') :
    Calls t.c.P f args'.toArray w fun e w' => e = .returned (.bool true) ∧ Below w.heap.size w w' :=
  law_calls (R_ok hN hmix hsp hs) (HR.empty w) hargs hrun
end Go.Sw
