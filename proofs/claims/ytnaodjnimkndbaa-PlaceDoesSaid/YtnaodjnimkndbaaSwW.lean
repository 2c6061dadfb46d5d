/-
  Regions that do not draw, code, and calls: the evaluator's against the model's.
-/
import Derived.Test.YtnaodjnimkndbaaSwV
namespace Go.Sw
open Go.RowKit

section
variable {P : Program}

theorem Oper.upon_mono {o : Oper} {a : Act} {K K' : Act → World → Prop} {Q Q' : Exit → Act → World → Prop} (h : ∀ a w, K a w → K' a w) (hq : ∀ x a w, Q x a w → Q' x a w) (r : Result Next) (hh : o.upon P a K Q r) : o.upon P a K' Q' r := by
  unfold Oper.upon at *
  split at hh
  · exact h _ _ hh
  · exact h _ _ hh
  · exact h _ _ hh
  · refine Calls.mono hh fun e w'' he => ?_
    cases e with
    | returned v => exact h _ _ he
    | panicked ch => exact hq _ _ _ he
    | outgrown => obtain ⟨a₀, w₀, hx⟩ := he; exact ⟨a₀, w₀, hq _ _ _ hx⟩
  · exact Rows.mono hh fun v w'' he => h _ _ he
  · exact hq _ _ _ hh
  · exact hh.elim

theorem Oper.wp_mono2 {o : Oper} {a : Act} {w : World} {K K' : Act → World → Prop} {Q Q' : Exit → Act → World → Prop} (h : ∀ a w, K a w → K' a w) (hq : ∀ x a w, Q x a w → Q' x a w) (hh : o.wp P a w K Q) : o.wp P a w K' Q' :=
  Oper.upon_mono h hq _ hh
end

/-- How a region, or code, comes out, in both. -/
def Out (w0 : Base) (μ : Mu) (nt : Nat) (r : Res (AExit × Env)) (x : Exit) (a' : Act) (w' : World) : Prop :=
  match r with
  | .ok (y, e') H' => ∃ μ', μ.le μ' ∧ HR w0 μ' H' w' ∧ ER μ' nt e' a'.tmps ∧ a'.defers = [] ∧ (match y with | .normal => x = .normal | .exit i => x = .exit i | .ret => x = .ret)
  | .panic v H' => ∃ μ' v', μ.le μ' ∧ HR w0 μ' H' w' ∧ VR μ' v v' ∧ a'.defers = [] ∧ x = .panic [{ v := v', recovered := false }]
  | .stuck => False

theorem Out.up {w0 : Base} {μ μ' : Mu} {nt : Nat} {r : Res (AExit × Env)} {x : Exit} {a' : Act} {w' : World} (hle : μ.le μ') (h : Out w0 μ' nt r x a' w') : Out w0 μ nt r x a' w' := by
  unfold Out at *
  split at h
  · obtain ⟨μ2, h1, h2⟩ := h; exact ⟨μ2, Mu.le_trans hle h1, h2⟩
  · obtain ⟨μ2, v', h1, h2⟩ := h; exact ⟨μ2, v', Mu.le_trans hle h1, h2⟩
  · exact h

section
variable {c : Cfg} {call : Caller} {w0 : Base} {nt : Nat}

theorem put_defers {a : Act} (d : Option Tmp) (v : Value) : (a.put d v).defers = a.defers := by cases d <;> rfl

theorem wanted_sim {μ : Mu} {ops : Array Oper} {e : Env} {a : Act} (hE : ER μ nt e a.tmps) {o : Oper} {b : Bool} (h : wantedE ops e o = some b) : Region.wanted o (yielded ops a.tmps) = b := by
  unfold wantedE at h
  unfold Region.wanted
  split at h
  · rename_i hg
    injection h with h
    simp [hg, h]
  · rename_i j want hg
    simp only [hg]
    split at h
    · rename_i d hd
      obtain ⟨v, hv, hb⟩ := Option.map_eq_some_iff.1 h
      obtain ⟨v', e1, r⟩ := hE.get d v hv
      unfold yielded
      rw [hd]
      simp only [Option.bind_some, e1]
      subst hb
      cases r <;> simp [wantVal]
    · cases h

/-- The region's operations, one behind the other. -/
theorem runOps_sim (hc : CallOk c.P call) (ops : Array Oper) : ∀ (os : List Oper) (i : Nat) (e : Env) (H : Heap) (μ : Mu) (a : Act) (w : World), ops.toList.drop i = os →
    runOps c call nt ops os e H ≠ .stuck → HR w0 μ H w → ER μ nt e a.tmps → a.defers = [] →
    wpOps c.P ops (Out w0 μ nt ((runOps c call nt ops os e H).bind fun e' H' => .ok (.normal, e') H')) (List.range' i os.length) a w
  | [], i, e, H, μ, a, w, hd, hne, hH, hE, hdf => by
    simp only [runOps, Res.bind, List.length_nil, List.range'_zero, wpOps]
    exact ⟨μ, Mu.le_refl _, hH, hE, hdf, rfl⟩
  | o :: os, i, e, H, μ, a, w, hd, hne, hH, hE, hdf => by
    have hi : ops[i]? = some o := by
      rw [← Array.getElem?_toList]
      have : (ops.toList.drop i)[0]? = some o := by rw [hd]; rfl
      rwa [List.getElem?_drop, Nat.add_zero] at this
    have hd' : ops.toList.drop (i + 1) = os := by
      rw [← List.drop_drop, hd]; rfl
    simp only [List.length_cons, List.range'_succ]
    rw [wpOps_cons]
    unfold wpOp
    rw [hi]
    simp only
    simp only [runOps] at hne ⊢
    cases hdst : dstOk nt o.dst with
    | false => rw [hdst] at hne; exact absurd rfl hne
    | true =>
      rw [hdst] at hne
      simp only [cond_true] at hne ⊢
      have hst := Res.bind_ne hne
      unfold stepO at hne hst ⊢
      cases hw : wantedE ops e o with
      | none => rw [hw] at hst; exact absurd rfl hst
      | some b =>
        rw [hw] at hne hst
        simp only at hne hst ⊢
        have hwant := wanted_sim hE hw
        rw [hwant]
        cases b with
        | false =>
          simp only [cond_false, Res.bind, Bool.false_eq_true, if_false] at hne ⊢
          exact runOps_sim hc ops os (i + 1) _ _ μ _ _ hd' hne hH (hE.put hdst VR.undef) (by rw [put_defers]; exact hdf)
        | true =>
          simp only [cond_true, if_true] at hne hst ⊢
          refine .inl (step_sim hc hH hE rfl hst ?_)
          cases hs : stepOp c call e H o.op with
          | stuck => exact absurd hs hst
          | panic v H' =>
            intro μ' v' w' h1 h2 h3
            simp only [Res.bind]
            exact ⟨μ', v', h1, h2, h3, hdf, rfl⟩
          | ok v H' =>
            rw [hs] at hne
            intro μ' v' w' h1 h2 h3
            simp only [Res.bind] at hne ⊢
            have ih := runOps_sim hc ops os (i + 1) _ _ μ' (a.put o.dst v') w' hd' hne h2 ((hE.up h1).put hdst h3) (by rw [put_defers]; exact hdf)
            refine wpOps_mono _ ?_ ih
            intro x a2 w2 hx
            exact Out.up h1 hx
where
  wpOps_mono {Q Q' : Exit → Act → World → Prop} {ops : Array Oper} (l : List Nat) {a : Act} {w : World} (hq : ∀ x a w, Q x a w → Q' x a w) (h : wpOps c.P ops Q l a w) : wpOps c.P ops Q' l a w := by
    induction l generalizing a w with
    | nil => exact hq _ _ _ h
    | cons i l ih =>
      rw [wpOps_cons] at h ⊢
      unfold wpOp at h ⊢
      cases ho : ops[i]? with
      | none => rw [ho] at h; exact ih h
      | some o =>
        rw [ho] at h
        simp only at h ⊢
        split
        · rename_i hw
          rw [if_pos hw] at h
          rcases h with h | ⟨h1, a₀, w₀, h2⟩
          · exact .inl (Oper.wp_mono2 (fun a w => ih) hq h)
          · exact .inr ⟨h1, a₀, w₀, hq _ _ _ h2⟩
        · rename_i hw
          rw [if_neg hw] at h
          exact ih h
end
end Go.Sw
