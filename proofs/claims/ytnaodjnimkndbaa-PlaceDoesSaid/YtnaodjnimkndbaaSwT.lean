/-
  One operation of the evaluator is what the model does at that operation, in whatever frame.
-/
import Derived.Test.YtnaodjnimkndbaaSwS
import Derived.LoopN
namespace Go.Sw
open Go.RowKit

/-- The evaluator's frame and the model's slots. -/
structure ER (μ : Mu) (nt : Nat) (e : Env) (tmps : Array Value) : Prop where
  size : nt ≤ tmps.size
  get : ∀ t v, e.get t = some v → ∃ v', tmps[t]? = some v' ∧ VR μ v v'

theorem ER.up {μ μ' : Mu} {nt : Nat} {e : Env} {tmps : Array Value} (hle : μ.le μ') (h : ER μ nt e tmps) : ER μ' nt e tmps :=
  ⟨h.size, fun t v hv => by obtain ⟨v', e, r⟩ := h.get t v hv; exact ⟨v', e, r.up hle⟩⟩

theorem Env.get_put (e : Env) (t : Nat) (v : Value) (s : Nat) : (e.put t v).get s = if s = t then some v else e.get s := by
  induction e with
  | nil =>
    simp only [Env.put, Env.get, beq_iff_eq]
    by_cases h : s = t
    · simp [h]
    · rw [if_neg (fun k => h k.symm), if_neg h]
  | cons x e ih =>
    obtain ⟨k, u⟩ := x
    simp only [Env.put]
    split
    · rename_i hk
      have hk : k = t := by simpa using hk
      subst hk
      simp only [Env.get, beq_iff_eq]
      by_cases h : s = k
      · simp [h]
      · rw [if_neg (fun q => h q.symm), if_neg h, if_neg (fun q => h q.symm)]
    · rename_i hk
      have hk : k ≠ t := by simpa using hk
      split
      · simp only [Env.get, beq_iff_eq]
        by_cases h : s = t
        · subst h; simp
        · rw [if_neg (fun q => h q.symm), if_neg h]
      · simp only [Env.get, beq_iff_eq]
        by_cases h : k = s
        · subst h; simp [hk]
        · rw [if_neg h, if_neg h, ih]

theorem Env.get_keep (ks : List Nat) (e : Env) {t : Nat} {v : Value} (h : (Env.keep ks e).get t = some v) : e.get t = some v := by
  induction e with
  | nil => exact h
  | cons x e ih =>
    obtain ⟨k, u⟩ := x
    simp only [Env.keep] at h
    split at h
    · simp only [Env.get] at h ⊢
      split
      · rename_i hk; rw [if_pos hk] at h; exact h
      · rename_i hk; rw [if_neg hk] at h; exact ih h
    · rename_i hc
      simp only [Env.get]
      split
      · rename_i hk
        have hk : k = t := by simpa using hk
        subst hk
        exfalso
        have : ∀ e' : Env, (Env.keep ks e').get k = none := by
          intro e'
          induction e' with
          | nil => rfl
          | cons y e' ih' =>
            obtain ⟨k', u'⟩ := y
            simp only [Env.keep]
            split
            · rename_i hk'
              simp only [Env.get]
              rw [if_neg]
              · exact ih'
              · intro q
                have q : k' = k := by simpa using q
                subst q
                exact hc hk'
            · exact ih'
        rw [this e] at h
        cases h
      · exact ih h

theorem ER.keep {μ : Mu} {nt : Nat} {e : Env} {tmps : Array Value} (h : ER μ nt e tmps) (ks : List Nat) : ER μ nt (Env.keep ks e) tmps :=
  ⟨h.size, fun t v hv => h.get t v (Env.get_keep ks e hv)⟩

theorem ER.put {μ : Mu} {nt : Nat} {e : Env} {a : Act} (h : ER μ nt e a.tmps) {d : Option Tmp} (hd : dstOk nt d = true) {v v' : Value} (hv : VR μ v v') : ER μ nt (putDst e d v) (a.put d v').tmps := by
  cases d with
  | none => exact h
  | some t =>
    have ht : @LT.lt Nat _ t nt := by
      simp only [dstOk] at hd
      exact Nat.le_of_ble_eq_true hd
    refine ⟨by simpa [Act.put] using h.size, fun s u hu => ?_⟩
    simp only [putDst, Env.get_put] at hu
    simp only [Act.put]
    have hsz := h.size
    by_cases hs : s = t
    · rw [if_pos hs] at hu
      injection hu with hu
      subst hu
      subst hs
      have hlt : s < a.tmps.size := by omega
      exact ⟨v', by simp [hlt], hv⟩
    · rw [if_neg hs] at hu
      obtain ⟨u', e1, r⟩ := h.get s u hu
      exact ⟨u', by rw [Array.getElem?_setIfInBounds_ne (fun q => hs q.symm)]; exact e1, r⟩

theorem opnd_sim {μ : Mu} {nt : Nat} {e : Env} {a : Act} (h : ER μ nt e a.tmps) {x : Operand} {v : Value} (hv : opnd e x = some v) : VR μ v (a.eval x) := by
  cases x with
  | tmp t =>
    obtain ⟨v', e1, r⟩ := h.get t v hv
    have : a.eval (.tmp t) = v' := by simp [Act.eval, e1]
    rw [this]; exact r
  | const c =>
    simp only [opnd] at hv
    split at hv
    · rename_i hp
      injection hv with hv
      subst hv
      exact VR.of_plain hp
    · cases hv
  | global g => simp [opnd] at hv
  | func f =>
    simp only [opnd] at hv
    injection hv with hv
    subst hv
    exact .func _ _ _ _ _ rfl (fun i v v' hv => by simp at hv) rfl (fun i v v' hv => by simp at hv)

theorem opnds_sim {μ : Mu} {nt : Nat} {e : Env} {a : Act} (h : ER μ nt e a.tmps) : ∀ {xs : List Operand} {vs : List Value}, opnds e xs = some vs → VRs μ vs (xs.map a.eval)
  | [], vs, hv => by simp only [opnds] at hv; injection hv with hv; subst hv; exact VRs.nil
  | x :: xs, vs, hv => by
    simp only [opnds] at hv
    cases hx : opnd e x with
    | none => simp [hx] at hv
    | some v =>
      simp only [hx, Option.bind_some] at hv
      obtain ⟨vs', h1, rfl⟩ := Option.map_eq_some_iff.1 hv
      exact VRs.cons (opnd_sim h hx) (opnds_sim h h1)

theorem opndsP_sim {μ : Mu} {nt : Nat} {e : Env} {a : Act} (h : ER μ nt e a.tmps) : ∀ {xs : List (Nat × Operand)} {vs : List (Nat × Value)}, opndsP e xs = some vs →
    vs.length = (xs.map fun (i, x) => (i, a.eval x)).length ∧ ∀ (i : Nat) (p p' : Nat × Value), vs[i]? = some p → (xs.map fun (i, x) => (i, a.eval x))[i]? = some p' → p.1 = p'.1 ∧ VR μ p.2 p'.2
  | [], vs, hv => by simp only [opndsP] at hv; injection hv with hv; subst hv; exact ⟨rfl, fun i p p' hp => by simp at hp⟩
  | (k, x) :: xs, vs, hv => by
    simp only [opndsP] at hv
    cases hx : opnd e x with
    | none => simp [hx] at hv
    | some v =>
      simp only [hx, Option.bind_some] at hv
      obtain ⟨vs', h1, rfl⟩ := Option.map_eq_some_iff.1 hv
      obtain ⟨i1, i2⟩ := opndsP_sim h h1
      refine ⟨by simpa using i1, fun i p p' hp hp' => ?_⟩
      cases i with
      | zero =>
        simp only [List.getElem?_cons_zero, Option.some.injEq] at hp
        simp only [List.map_cons, List.getElem?_cons_zero, Option.some.injEq] at hp'
        subst hp hp'
        exact ⟨rfl, opnd_sim h hx⟩
      | succ i =>
        simp only [List.getElem?_cons_succ] at hp
        simp only [List.map_cons, List.getElem?_cons_succ] at hp'
        exact i2 i p p' hp hp'

theorem partsV_some : ∀ {xs vs : List (Nat × Value)}, partsV xs = some vs → vs = xs ∧ ∀ (i : Nat) p, xs[i]? = some p → storable p.2 = true
  | [], vs, h => by simp only [partsV] at h; injection h with h; subst h; exact ⟨rfl, fun i p hp => by simp at hp⟩
  | (k, x) :: xs, vs, h => by
    simp only [partsV] at h
    split at h
    · rename_i hs
      obtain ⟨vs', h1, rfl⟩ := Option.map_eq_some_iff.1 h
      obtain ⟨rfl, h2⟩ := partsV_some h1
      refine ⟨rfl, fun i p hp => ?_⟩
      cases i with
      | zero => simp only [List.getElem?_cons_zero, Option.some.injEq] at hp; subst hp; exact hs
      | succ i => exact h2 i p (by simpa using hp)
    · cases h

theorem parts_sim {μ : Mu} {nt : Nat} {e : Env} {a : Act} (h : ER μ nt e a.tmps) {xs : List (Nat × Operand)} {us vs : List (Nat × Value)} (h1 : opndsP e xs = some us) (h2 : partsV us = some vs) :
    vs.length = (xs.map fun (i, x) => (i, a.eval x)).length ∧ ∀ (i : Nat) (p p' : Nat × Value), vs[i]? = some p → (xs.map fun (i, x) => (i, a.eval x))[i]? = some p' → p.1 = p'.1 ∧ VR μ p.2 p'.2 ∧ storable p.2 = true := by
  obtain ⟨rfl, h3⟩ := partsV_some h2
  obtain ⟨h4, h5⟩ := opndsP_sim h h1
  exact ⟨h4, fun i p p' hp hp' => ⟨(h5 i p p' hp hp').1, (h5 i p p' hp hp').2, h3 i p hp⟩⟩

theorem opndO_sim {μ : Mu} {nt : Nat} {e : Env} {a : Act} (h : ER μ nt e a.tmps) {x : Option Operand} {v : Option Value} (hv : opndO e x = some v) : VRo μ v (x.map a.eval) := by
  cases x with
  | none => simp only [opndO] at hv; injection hv with hv; subst hv; trivial
  | some x =>
    simp only [opndO] at hv
    obtain ⟨u, h1, rfl⟩ := Option.map_eq_some_iff.1 hv
    exact opnd_sim h h1

/-- What became of it, in both. -/
def EndV (w0 : Base) (μ : Mu) (r : Res Value) (K : Mu → Value → Value → Heap → World → Prop) (Kp : Mu → Value → Value → Heap → World → Prop) : Prop :=
  match r with
  | .ok v H' => ∃ μ' v' w', μ.le μ' ∧ HR w0 μ' H' w' ∧ VR μ' v v' ∧ K μ' v v' H' w'
  | .panic v H' => ∃ μ' v' w', μ.le μ' ∧ HR w0 μ' H' w' ∧ VR μ' v v' ∧ Kp μ' v v' H' w'
  | .stuck => False

/-- How a call ends, in both. -/
def Ended (w0 : Base) (μ : Mu) (r : Res Value) (e : Ending) (w' : World) : Prop :=
  match r with
  | .ok v H' => ∃ μ' v', μ.le μ' ∧ HR w0 μ' H' w' ∧ VR μ' v v' ∧ e = .returned v'
  | .panic v H' => ∃ μ' v', μ.le μ' ∧ HR w0 μ' H' w' ∧ VR μ' v v' ∧ e = .panicked [{ v := v', recovered := false }]
  | .stuck => False

/-- A caller of the evaluator is true to the model's calls. -/
def CallOk (P : Program) (call : Caller) : Prop :=
  ∀ f args H, call f args H ≠ .stuck →
    (∃ fn, P.funcs[f]? = some fn ∧ fn.body.isSome = true ∧ (fn.name == "runtime.NumGoroutine") = false) ∧
    ∀ w0 μ w args', HR w0 μ H w → VRs μ args args' → Calls P f args'.toArray w fun e w' => Ended w0 μ (call f args H) e w'

theorem Res.bind_ne {α β : Type} {r : Res α} {f : α → Heap → Res β} (h : r.bind f ≠ .stuck) : r ≠ .stuck := by
  intro e; subst e; exact h rfl

/-- What an operation of the model comes to, told by what the evaluator comes to. -/
def OpEnd (w0 : Base) (μ : Mu) (a : Act) (dst : Option Tmp) (r : Res Value) (K : Act → World → Prop) (Q : Exit → Act → World → Prop) : Prop :=
  match r with
  | .ok v H' => ∀ μ' v' w', μ.le μ' → HR w0 μ' H' w' → VR μ' v v' → K (a.put dst v') w'
  | .panic v H' => ∀ μ' v' w', μ.le μ' → HR w0 μ' H' w' → VR μ' v v' → Q (.panic [{ v := v', recovered := false }]) a w'
  | .stuck => False

section
variable {c : Cfg} {call : Caller}

theorem wp_value {P : Program} {o : Oper} {a : Act} {w w' : World} {v : Value} {K : Act → World → Prop} {Q : Exit → Act → World → Prop} (h : (execOp a.eval o).run P w = .ok (.value v) w') (hk : K (a.put o.dst v) w') : o.wp P a w K Q := by
  unfold Oper.wp; rw [h]; exact hk
theorem wp_skip' {P : Program} {o : Oper} {a : Act} {w w' : World} {K : Act → World → Prop} {Q : Exit → Act → World → Prop} (h : (execOp a.eval o).run P w = .ok .skip w') (hk : K (a.put o.dst undef) w') : o.wp P a w K Q := by
  unfold Oper.wp; rw [h]; exact hk

theorem VR.undef {μ : Mu} : VR μ undef undef := .tuple _ _ rfl (fun i v v' hv => by simp at hv)

theorem call_sim {P : Program} (hc : CallOk P call) {w0 : Base} {w : World} {μ : Mu} {H : Heap} (hH : HR w0 μ H w) {a : Act} {o : Oper} {f : FuncId} {args args' : List Value} (hargs : VRs μ args args') (hne : call f args H ≠ .stuck)
    {K : Act → World → Prop} {Q : Exit → Act → World → Prop} (hend : OpEnd w0 μ a o.dst (call f args H) K Q) (hrun : (execOp a.eval o).run P w = (callFunc f args'.toArray).run P w) : o.wp P a w K Q := by
  obtain ⟨⟨fn, hf, hb, hn⟩, hcalls⟩ := hc f args H hne
  have hc2 := hcalls w0 μ w args' hH hargs
  have hrun2 : (callFunc f args'.toArray).run P w = .ok (.enter f args'.toArray) w := by
    have hn' : fn.name ≠ "runtime.NumGoroutine" := by simpa using hn
    obtain ⟨code, hcode⟩ := Option.isSome_iff_exists.1 hb
    simp [callFunc, hf, hn', hcode]
  unfold Oper.wp
  rw [hrun, hrun2]
  refine hc2.mono fun e w' he => ?_
  unfold Ended at he
  unfold OpEnd at hend
  cases hr : call f args H with
  | stuck => rw [hr] at he; exact he.elim
  | ok v H' =>
    rw [hr] at he hend
    obtain ⟨μ', v', h1, h2, h3, rfl⟩ := he
    exact hend μ' v' w' h1 h2 h3
  | panic v H' =>
    rw [hr] at he hend
    obtain ⟨μ', v', h1, h2, h3, rfl⟩ := he
    exact hend μ' v' w' h1 h2 h3

theorem opt_ok {α : Type} {x : Option α} {H : Heap} (h : opt x H ≠ .stuck) : ∃ v, x = some v := by
  cases x with
  | none => exact absurd rfl h
  | some v => exact ⟨v, rfl⟩
theorem opt_some {α : Type} (v : α) (H : Heap) : opt (some v) H = .ok v H := rfl
theorem bind_ok {α β : Type} (v : α) (H : Heap) (f : α → Heap → Res β) : (Res.ok v H).bind f = f v H := rfl

end
end Go.Sw
