/-
  Each operation: the step.
-/
import Derived.Test.YtnaodjnimkndbaaSwT
namespace Go.Sw
open Go.RowKit

theorem opt_bind {α β : Type} {x : Option α} {H : Heap} {f : α → Heap → Res β} (h : (opt x H).bind f ≠ .stuck) : ∃ v, x = some v ∧ (opt x H).bind f = f v H ∧ f v H ≠ .stuck := by
  cases x with
  | none => exact absurd rfl h
  | some v => exact ⟨v, rfl, rfl, h⟩

section
variable {c : Cfg} {call : Caller} {w0 : Base} {w : World} {μ : Mu} {H : Heap} {nt : Nat} {e : Env} {a : Act} {o : Oper} {K : Act → World → Prop} {Q : Exit → Act → World → Prop}

theorem end_value (hH : HR w0 μ H w) {v v' : Value} (hend : OpEnd w0 μ a o.dst (.ok v H) K Q) (hv : VR μ v v') (hrun : (execOp a.eval o).run c.P w = .ok (.value v') w) : o.wp c.P a w K Q :=
  wp_value hrun (hend μ v' w (Mu.le_refl _) hH hv)

theorem end_opt (hH : HR w0 μ H w) {x : Option Value} (hne : opt x H ≠ .stuck) (hend : OpEnd w0 μ a o.dst (opt x H) K Q) (h : ∀ v, x = some v → ∃ v', VR μ v v' ∧ (execOp a.eval o).run c.P w = .ok (.value v') w) : o.wp c.P a w K Q := by
  obtain ⟨v, rfl⟩ := opt_ok hne
  obtain ⟨v', h1, h2⟩ := h v rfl
  exact end_value hH hend h1 h2

theorem method_sim {P : Program} {μ : Mu} {t : TypeId} {name : String} {f : FuncId} {v v' : Value} (h : methodV P t name = some f) (_hv : VR μ v v') (w : World) : (method (P.types.size + Made.depth) t v' name).run P w = .ok (f, v') w := by
  unfold methodV at h
  split at h
  rotate_left
  · cases h
  rename_i i u hi hu
  split at h
  rotate_left
  · cases h
  rename_i m hm
  have hd : 0 < Made.depth := by decide
  obtain ⟨fuel, hfuel⟩ : ∃ fuel, P.types.size + Made.depth = fuel + 1 := ⟨P.types.size + Made.depth - 1, by omega⟩
  rw [hfuel]
  split at h
  · cases h
  · rename_i g hp hf hnp
    injection h with h
    subst h
    have hpl : m.path.toList = [] := by
      have : m.path = #[] := by simpa using hp
      rw [this]
    have hpe : m.path.isEmpty = true := hp
    simp only [method, Sem.run_bind, typeInfo, run_program, Result.andThen_ok, hi, Sem.run_pure, hm, hpl, follow, hf, receiverAt, run_underlying hu]
    simp [Place.get]
  · cases h

theorem mid_bind {β : Type} {r : Res Value} {f : Value → Heap → Res β} (h : r.bind f ≠ .stuck) : (∃ v H', r = .ok v H' ∧ r.bind f = f v H') ∨ (∃ v H', r = .panic v H' ∧ r.bind f = .panic v H') := by
  cases r with
  | ok v H' => exact .inl ⟨v, H', rfl, rfl⟩
  | panic v H' => exact .inr ⟨v, H', rfl, rfl⟩
  | stuck => exact absurd rfl h

theorem callV_sim (hc : CallOk c.P call) (hH : HR w0 μ H w) {f f' : Value} {args args' : List Value} (hf : VR μ f f') (hargs : VRs μ args args') (hne : callV call f args H ≠ .stuck) (hend : OpEnd w0 μ a o.dst (callV call f args H) K Q)
    (hrun : (execOp a.eval o).run c.P w = (do let d ← Deferred.ofValue f' args'.toArray; invoke d.target d.args : Sem Next).run c.P w) : o.wp c.P a w K Q := by
  unfold callV at hne hend
  split at hne
  · rename_i g xs ys
    cases hf with
    | func _ _ xs' _ ys' h1 h2 h3 h4 =>
      refine call_sim hc hH (((VRs.of_arr h1 h2).append hargs).append (VRs.of_arr h3 h4)) hne hend ?_
      rw [hrun]
      have harr : (xs'.toList ++ args' ++ ys'.toList).toArray = xs' ++ args'.toArray ++ ys' := by apply Array.ext'; simp
      rw [harr]
      simp [Deferred.ofValue, invoke]
  · exact absurd rfl hne

theorem builtin_sim {b : Builtin} {ts : Array TypeId} {args args' : List Value} (hH : HR w0 μ H w) (hargs : VRs μ args args') (hne : builtinV c.P b ts.toList args H ≠ .stuck) (hend : OpEnd w0 μ a o.dst (builtinV c.P b ts.toList args H) K Q)
    (hrun : ∃ ty consts, (execOp a.eval o).run c.P w = (builtin b ts ty consts args'.toArray).run c.P w) : o.wp c.P a w K Q := by
  obtain ⟨ty, consts, hrun⟩ := hrun
  have hargs' : VRs μ args (args'.toArray).toList := by simpa using hargs
  unfold builtinV at hne hend
  split at hne
  · -- append
    cases hr : appendV c.P ts.toList args H with
    | stuck => rw [hr] at hne; exact absurd rfl hne
    | panic v H' =>
      exfalso
      revert hr
      unfold appendV appendK
      repeat' split
      all_goals (intro h; cases h)
    | ok v H' =>
      rw [hr] at hend
      obtain ⟨μ', v', w', h1, h2, h3, h4⟩ := append_sim (ty := ty) hH hargs' hr
      refine wp_value (v := v') (w' := w') ?_ (hend μ' v' w' h2 h3 h4)
      rw [hrun]; simp [builtin, h1]
  · cases hr : copyV c.P ts.toList args H with
    | stuck => rw [hr] at hne; exact absurd rfl hne
    | panic v H' =>
      exfalso
      revert hr
      unfold copyV putCells
      repeat' split
      all_goals (intro h; first | (cases h; done) | (revert h; simp only [Res.bind]; repeat' split) <;> (intro h; cases h))
    | ok v H' =>
      rw [hr] at hend
      obtain ⟨v', w', h1, h3, h4⟩ := copy_sim (ty := ty) hH hargs' hr
      refine wp_value (v := v') (w' := w') ?_ (hend μ v' w' (Mu.le_refl _) h3 h4)
      rw [hrun]; simp [builtin, h1]
  · cases hr : clearV c.P ts.toList args H with
    | stuck => rw [hr] at hne; exact absurd rfl hne
    | panic v H' =>
      exfalso
      revert hr
      unfold clearV putCells
      repeat' split
      all_goals (intro h; first | (cases h; done) | (revert h; simp only [Res.bind]; repeat' split) <;> (intro h; cases h))
    | ok v H' =>
      rw [hr] at hend
      obtain ⟨v', w', h1, h3, h4⟩ := clear_sim (ty := ty) hH hargs' hr
      refine wp_value (v := v') (w' := w') ?_ (hend μ v' w' (Mu.le_refl _) h3 h4)
      rw [hrun]; simp [builtin, h1]
  · refine end_opt hH hne hend fun v hv => ?_
    obtain ⟨h1, h2⟩ := len_sim (ty := ty) hargs' hv w
    exact ⟨v, h2, by rw [hrun]; simp [builtin, h1]⟩
  · refine end_opt hH hne hend fun v hv => ?_
    obtain ⟨h1, h2⟩ := min_sim (P := c.P) (ts := ts) (ty := ty) hargs' hv w
    exact ⟨v, h2, by rw [hrun]; simp [builtin, h1]⟩
  · refine end_opt hH hne hend fun v hv => ?_
    obtain ⟨h1, h2⟩ := max_sim (P := c.P) (ts := ts) (ty := ty) hargs' hv w
    exact ⟨v, h2, by rw [hrun]; simp [builtin, h1]⟩
  · split at hne
    · rename_i t v
      obtain ⟨v', r', rfl, h1, h2⟩ := hargs.cons_inv
      cases h1 with
      | iface _ _ u' hu =>
        have hend2 := hend μ _ w (Mu.le_refl _) hH (.iface t v u' hu)
        unfold Oper.wp
        rw [hrun]
        simp [builtin, Instr.panic, Oper.upon_panic]
        exact hend2
    · exact absurd rfl hne
  · exact absurd rfl hne
end
end Go.Sw
