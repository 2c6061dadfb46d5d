/-
  Every operation: the step of the evaluator, and the operation of the model.
-/
import Derived.Test.YtnaodjnimkndbaaSwU
namespace Go.Sw
open Go.RowKit

section
variable {c : Cfg} {call : Caller} {w0 : Base} {w : World} {μ : Mu} {H : Heap} {nt : Nat} {e : Env} {a : Act} {o : Oper} {K : Act → World → Prop} {Q : Exit → Act → World → Prop}

theorem condV_ne {α : Type} {v : Option Value} {x y : Res α} (h : condV v x y ≠ .stuck) : ∃ b, v = some (.bool b) ∧ condV v x y = (if b then x else y) := by
  unfold condV at h
  split at h
  · exact ⟨true, rfl, rfl⟩
  · exact ⟨false, rfl, rfl⟩
  · exact absurd rfl h

theorem VR.bool_inv {b : Bool} {x : Value} (h : VR μ (.bool b) x) : x = .bool b := by cases h; rfl

theorem VRs.arr_map {xs : Array Operand} {vs : List Value} (h : VRs μ vs (xs.toList.map a.eval)) : vs.toArray.size = (xs.map a.eval).size ∧ ∀ (i : Nat) (v v' : Value), vs.toArray[i]? = some v → (xs.map a.eval)[i]? = some v' → VR μ v v' := by
  refine ⟨by have := h.1; simpa using this, fun i v v' hv hv' => h.2 i v v' (by simpa using hv) ?_⟩
  rw [← Array.getElem?_toList] at hv'
  simpa using hv'

set_option maxHeartbeats 1000000 in
theorem step_sim (hc : CallOk c.P call) (hH : HR w0 μ H w) (hE : ER μ nt e a.tmps) {op : Op} (ho : o.op = op) (hne : stepOp c call e H op ≠ .stuck) (hend : OpEnd w0 μ a o.dst (stepOp c call e H op) K Q) : o.wp c.P a w K Q := by
  cases op <;> simp only [stepOp, allocR, boxR, buildR, buildSliceR, loadR, storeR, nilR, binR, unR, convR, ifaceR, sliceR, fieldAddrR, fieldR, indexAddrR, indexR, extractR, invokeR, panicR] at hne hend
  case move x => exact end_opt hH hne hend fun v hv => ⟨_, opnd_sim hE hv, by simp [execOp, ho]⟩
  case assign x => exact end_opt hH hne hend fun v hv => ⟨_, opnd_sim hE hv, by simp [execOp, ho]⟩
  case pick b x y =>
    obtain ⟨t, hb, he⟩ := condV_ne hne
    rw [he] at hne hend
    have hb' := (opnd_sim hE hb).bool_inv
    cases t
    · exact end_opt hH hne hend fun v hv => ⟨_, opnd_sim hE hv, by simp [execOp, ho, hb', asBool]⟩
    · exact end_opt hH hne hend fun v hv => ⟨_, opnd_sim hE hv, by simp [execOp, ho, hb', asBool]⟩
  case alloc t =>
    split at hne
    · rename_i z hz
      simp only [hz] at hend
      obtain ⟨μ', w', h1, h2, h3, h4⟩ := newVar_sim (P := c.P) hH t (VR.zero hz μ) (zeroT_some hz).2.2
      refine wp_value ?_ (hend μ' _ w' h2 h3 h4)
      simp [execOp, ho, Instr.alloc, run_zeroT hz, h1]
    · exact absurd rfl hne
  case box t x =>
    obtain ⟨v, hv, he, hne⟩ := opt_bind hne
    rw [he] at hend
    cases hs : storable v with
    | false => rw [hs] at hne; exact absurd rfl hne
    | true =>
      rw [hs] at hend
      obtain ⟨μ', w', h1, h2, h3, h4⟩ := newVar_sim (P := c.P) hH t (opnd_sim hE hv) hs
      refine wp_value ?_ (hend μ' _ w' h2 h3 h4)
      simp [execOp, ho, Instr.box, h1]
  case build t ps =>
    obtain ⟨us, hv, he, hne⟩ := opt_bind hne
    rw [he] at hend
    obtain ⟨vs, hv1, he, hne⟩ := opt_bind hne
    rw [he] at hend
    refine end_opt hH hne hend fun v hv2 => ?_
    obtain ⟨h1, h2⟩ := parts_sim hE hv hv1
    obtain ⟨v', h3, h4⟩ := build_sim h1 h2 hv2 w
    refine ⟨v', h4, ?_⟩
    have harr : (ps.map fun (i, x) => (i, a.eval x)) = (ps.toList.map fun (i, x) => (i, a.eval x)).toArray := by apply Array.ext'; simp
    simp only [execOp, ho, Sem.run_bind]
    rw [harr, h3]
    rfl
  case buildSlice t n ps =>
    obtain ⟨us, hv, he, hne⟩ := opt_bind hne
    rw [he] at hend
    obtain ⟨vs, hv1, he, hne⟩ := opt_bind hne
    rw [he] at hend
    obtain ⟨h1, h2⟩ := parts_sim hE hv hv1
    have harr : (ps.map fun (i, x) => (i, a.eval x)) = (ps.toList.map fun (i, x) => (i, a.eval x)).toArray := by apply Array.ext'; simp
    cases hr : buildSliceV c.P t n vs H with
    | stuck => exact absurd hr hne
    | panic v H' =>
      exfalso
      revert hr
      unfold buildSliceV
      repeat' split
      all_goals first | (intro h; cases h; done) | (cases Nat.beq n 0 <;> (intro h; cases h))
    | ok v H' =>
      rw [hr] at hend
      obtain ⟨μ', v', w', h3, h4, h5, h6⟩ := buildSlice_sim hH h1 h2 hr
      refine wp_value (v := v') (w' := w') ?_ (hend μ' v' w' h4 h5 h6)
      simp only [execOp, ho, Sem.run_bind]
      rw [harr, h3]
      rfl
  case load t x =>
    obtain ⟨v, hv, he, hne⟩ := opt_bind hne
    rw [he] at hend
    refine end_opt hH hne hend fun u hu => ?_
    obtain ⟨u', h1, h2⟩ := load_sim (P := c.P) hH (opnd_sim hE hv) hu
    exact ⟨u', h2, by simp [execOp, ho, h1]⟩
  case store t x y =>
    obtain ⟨p, hp, he, hne⟩ := opt_bind hne
    rw [he] at hend
    obtain ⟨v, hv, he, hne⟩ := opt_bind hne
    rw [he] at hend
    cases hs : storeV c.P t p v H with
    | stuck => rw [hs] at hne; exact absurd rfl hne
    | panic q Hq =>
      exfalso
      revert hs
      unfold storeV putCells
      repeat' split
      all_goals (intro h; cases h)
    | ok u H' =>
      rw [hs] at hend
      obtain ⟨w', h1, h2⟩ := store_sim (P := c.P) hH (opnd_sim hE hp) (opnd_sim hE hv) hs
      refine wp_skip' (w' := w') ?_ (hend μ undef w' (Mu.le_refl _) h2 VR.undef)
      simp [execOp, ho, h1]
  case nilCheck x =>
    obtain ⟨v, hv, he, hne⟩ := opt_bind hne
    rw [he] at hend
    have hx := opnd_sim hE hv
    split at hne
    · rename_i p
      have hx' : ∃ q, a.eval x = .pointer (some q) := by
        generalize a.eval x = y at hx
        cases hx
        exact ⟨_, rfl⟩
      obtain ⟨q, hq⟩ := hx'
      rw [hq] at hx
      exact end_value hH hend hx (by simp [execOp, ho, hq])
    · rename_i n p f xs ys
      have hx' : ∃ q, a.eval x = .pointer (some q) := by
        generalize a.eval x = y at hx
        cases hx
        exact ⟨_, rfl⟩
      obtain ⟨q, hq⟩ := hx'
      rw [hq] at hx
      exact end_value hH hend hx (by simp [execOp, ho, hq])
    · exact absurd rfl hne
  case binOp b t x y yT =>
    obtain ⟨u, hu, he, hne⟩ := opt_bind hne
    rw [he] at hend
    obtain ⟨v, hv, he, hne⟩ := opt_bind hne
    rw [he] at hend
    refine end_opt hH hne hend fun r hr => ?_
    obtain ⟨r', h1, h2⟩ := bin_sim (P := c.P) (opnd_sim hE hu) (opnd_sim hE hv) hr x y w
    refine ⟨r', h2, ?_⟩
    simp only [execOp, ho]
    rw [Sem.run_bind, h1]
    rfl
  case unOp b t x =>
    obtain ⟨u, hu, he, hne⟩ := opt_bind hne
    rw [he] at hend
    refine end_opt hH hne hend fun r hr => ?_
    obtain ⟨h1, h2⟩ := un_sim (P := c.P) (opnd_sim hE hu) hr w
    exact ⟨r, h2, by simp [execOp, ho, h1]⟩
  case convert src dst x =>
    obtain ⟨u, hu, he, hne⟩ := opt_bind hne
    rw [he] at hend
    cases hs : (c.P.underlying src).isSome with
    | false => rw [hs] at hne; exact absurd rfl hne
    | true =>
      rw [hs] at hend hne
      refine end_opt hH hne hend fun r hr => ?_
      obtain ⟨h1, h2⟩ := conv_sim (P := c.P) (opnd_sim hE hu) hr hs w
      exact ⟨r, h2, by simp [execOp, ho, h1]⟩
  case makeInterface t x =>
    obtain ⟨u, hu, he, hne⟩ := opt_bind hne
    rw [he] at hend
    split at hne
    · exact absurd rfl hne
    · exact absurd rfl hne
    · rename_i d hni hd
      have hrun : (Instr.makeInterface t (a.eval x)).run c.P w = .ok (.iface t (a.eval x)) w := by
        simp only [Instr.makeInterface, Sem.run_bind, run_underlying hd, Result.andThen_ok]
        cases d <;> first | rfl | (exfalso; exact hni _ rfl)
      split at hend
      · rename_i ms heq
        rw [hd] at heq
        injection heq with heq
        exact (hni ms heq).elim
      · simp_all
      · exact end_value hH hend (.iface t u _ (opnd_sim hE hu)) (by simp [execOp, ho, hrun])
  case makeFunc fn xs ys =>
    obtain ⟨us, hu, he, hne⟩ := opt_bind hne
    rw [he] at hend
    obtain ⟨vs, hv, he, hne⟩ := opt_bind hne
    rw [he] at hend
    have h1 := VRs.arr_map (opnds_sim hE hu)
    have h2 := VRs.arr_map (opnds_sim hE hv)
    unfold makeFuncR at hne hend
    split at hne
    · exact end_value hH hend (.func _ _ _ _ _ h1.1 h1.2 h2.1 h2.2) (by simp [execOp, ho, Instr.makeFunc])
    · exact absurd rfl hne
  case makeSlice t l k =>
    obtain ⟨u, hu, he, hne⟩ := opt_bind hne
    rw [he] at hend
    obtain ⟨v, hv, he, hne⟩ := opt_bind hne
    rw [he] at hend
    cases hr : makeSliceV c.P t u v H with
    | stuck => exact absurd hr hne
    | panic q Hq =>
      exfalso
      revert hr
      unfold makeSliceV
      repeat' split
      all_goals (intro h; cases h)
    | ok r H' =>
      rw [hr] at hend
      obtain ⟨μ', v', w', h3, h4, h5, h6⟩ := makeSlice_sim hH (opnd_sim hE hu) (opnd_sim hE hv) hr
      refine wp_value (v := v') (w' := w') ?_ (hend μ' v' w' h4 h5 h6)
      simp [execOp, ho, h3]
  case slice t x lo hi mx =>
    obtain ⟨u, hu, he, hne⟩ := opt_bind hne
    rw [he] at hend
    obtain ⟨l, hl, he, hne⟩ := opt_bind hne
    rw [he] at hend
    obtain ⟨h, hh, he, hne⟩ := opt_bind hne
    rw [he] at hend
    obtain ⟨m, hm, he, hne⟩ := opt_bind hne
    rw [he] at hend
    refine end_opt hH hne hend fun r hr => ?_
    obtain ⟨r', h1, h2⟩ := slice_sim (P := c.P) hH (opnd_sim hE hu) (opndO_sim hE hl) (opndO_sim hE hh) (opndO_sim hE hm) hr
    exact ⟨r', h2, by simp [execOp, ho, h1]⟩
  case fieldAddr t x i =>
    obtain ⟨u, hu, he, hne⟩ := opt_bind hne
    rw [he] at hend
    refine end_opt hH hne hend fun r hr => ?_
    obtain ⟨r', h1, h2⟩ := fieldAddr_sim (P := c.P) (opnd_sim hE hu) hr w
    exact ⟨r', h2, by simp [execOp, ho, h1]⟩
  case field t x i =>
    obtain ⟨u, hu, he, hne⟩ := opt_bind hne
    rw [he] at hend
    refine end_opt hH hne hend fun r hr => ?_
    obtain ⟨r', h1, h2⟩ := field_sim (P := c.P) (opnd_sim hE hu) hr w
    exact ⟨r', h2, by simp [execOp, ho, h1]⟩
  case indexAddr t x i =>
    obtain ⟨u, hu, he, hne⟩ := opt_bind hne
    rw [he] at hend
    obtain ⟨v, hv, he, hne⟩ := opt_bind hne
    rw [he] at hend
    refine end_opt hH hne hend fun r hr => ?_
    obtain ⟨r', h1, h2⟩ := indexAddr_sim (P := c.P) (opnd_sim hE hu) (opnd_sim hE hv) hr w
    exact ⟨r', h2, by simp [execOp, ho, h1]⟩
  case index t x i =>
    obtain ⟨u, hu, he, hne⟩ := opt_bind hne
    rw [he] at hend
    obtain ⟨v, hv, he, hne⟩ := opt_bind hne
    rw [he] at hend
    refine end_opt hH hne hend fun r hr => ?_
    obtain ⟨r', h1, h2⟩ := index_sim (P := c.P) (opnd_sim hE hu) (opnd_sim hE hv) hr w
    exact ⟨r', h2, by simp [execOp, ho, h1]⟩
  case extract x i =>
    obtain ⟨u, hu, he, hne⟩ := opt_bind hne
    rw [he] at hend
    have hx := opnd_sim hE hu
    split at hne
    · rename_i vs
      generalize hy : a.eval x = y at hx
      cases hx with
      | tuple _ vs' h1 h2 =>
        refine end_opt hH hne hend fun r hr => ?_
        obtain ⟨r', h3, h4⟩ := (VRs.of_arr h1 h2).get (i := i) (v := r) (by simpa using hr)
        have h3 : vs'[i]? = some r' := by simpa using h3
        exact ⟨r', h4, by simp [execOp, ho, hy, Instr.extract, h3]⟩
    · exact absurd rfl hne
  case call k =>
    obtain ⟨args, hargs, he, hne⟩ := opt_bind hne
    rw [he] at hend
    have ha := opnds_sim hE hargs
    have harr : k.args.map a.eval = (k.args.toList.map a.eval).toArray := by apply Array.ext'; simp
    split at hne
    · rename_i b hb
      simp only [hb] at hend
      refine builtin_sim hH ha hne hend ⟨o.type, k.args.map fun | .const _ => true | _ => false, ?_⟩
      simp only [execOp, ho, resolve, hb, Sem.run_bind, Sem.run_pure, Result.andThen_ok, invoke]
      rw [harr]
      rfl
    · rename_i f hf
      simp only [hf] at hend
      obtain ⟨fv, hfv, he, hne⟩ := opt_bind hne
      rw [he] at hend
      refine callV_sim hc hH (opnd_sim hE hfv) ha hne hend ?_
      simp only [execOp, ho, resolve, hf]
      rw [harr]
    · rename_i r name hf
      simp only [hf] at hend
      obtain ⟨rv, hrv, he, hne⟩ := opt_bind hne
      rw [he] at hend
      have hx := opnd_sim hE hrv
      split at hne
      · rename_i t v
        obtain ⟨g, hg, he, hne⟩ := opt_bind hne
        dsimp only at hend
        rw [he] at hend
        generalize hy : a.eval r = y at hx
        cases hx with
        | iface _ _ v' hv =>
          refine call_sim hc hH (VRs.cons hv ha) hne hend ?_
          have hm := method_sim (P := c.P) hg hv w
          have hext : (#[Value.iface t v'] ++ k.args.map a.eval).extract 1 (#[Value.iface t v'] ++ k.args.map a.eval).size = k.args.map a.eval := by
            apply Array.ext'
            simp
            exact List.take_of_length_le (by simp)
          have harr2 : (v' :: (k.args.toList.map a.eval)).toArray = #[v'] ++ k.args.map a.eval := by rw [harr]; apply Array.ext'; rw [Array.toList_append]; rfl
          have hget : (#[Value.iface t v'] ++ k.args.map a.eval)[0]? = some (Value.iface t v') := by rw [← Array.getElem?_toList, Array.toList_append]; rfl
          simp only [execOp, ho, resolve, hf, hy, Sem.run_bind, Sem.run_pure, Result.andThen_ok, invoke, hget, hext, callMethod, run_program, hm, harr2]
      · exact absurd rfl hne
  case panic x =>
    obtain ⟨u, hu, he, hne⟩ := opt_bind hne
    rw [he] at hend
    have hx := opnd_sim hE hu
    split at hne
    · rename_i t v
      generalize hy : a.eval x = y at hx
      cases hx with
      | iface _ _ v' hv =>
        have hend2 := hend μ _ w (Mu.le_refl _) hH (.iface t v v' hv)
        unfold Oper.wp
        simp [execOp, ho, hy, Instr.panic, Oper.upon_panic]
        exact hend2
    · exact absurd rfl hne
  all_goals exact absurd rfl hne
end
end Go.Sw
