/-
  A law's arguments, told by value; and that what came in is read behind the call as it was.
-/
import Derived.Test.YtnaodjnimkndbaaSwI
import Derived.Test.YtnaodjnimkndbaaSwAH
import Derived.WideShapes
import Derived.Carry
import Derived.ChangeOld
import Derived.OpenShut
import Derived.Below
namespace Go.Sw
open Go.RowKit Go.ChangeShapes Go.WideShapes Go.ChangeAt

/-- What a value is like: one cell, or a row of cells. -/
inductive ASh where
  | one (s : Sh)
  | agg (ss : List Sh)
inductive ArgLay : ASh → Value → Prop
  | one (s : Sh) (d : Da) (v : Value) (h : Lay s d v) : ArgLay (.one s) v
  | agg (ss : List Sh) (ds : List Da) (vs : List Value) (h : LayRow ss ds vs) : ArgLay (.agg ss) (.agg vs.toArray)
inductive ArgsLay : List ASh → List Value → Prop
  | nil : ArgsLay [] []
  | cons (s : ASh) (v : Value) (ss : List ASh) (vs : List Value) (h : ArgLay s v) (hr : ArgsLay ss vs) : ArgsLay (s :: ss) (v :: vs)

/-- What a type's values are like. -/
def argSh (P : Program) (D : Nat) (t : TypeId) : Option ASh :=
  match P.underlying t with
  | some (.struct _) => (flatT P D t).map .agg
  | some (.array _ _) => (flatT P D t).map .agg
  | some .bool => some (.one .bool)
  | some (.int k) => some (.one (.int k))
  | some (.slice _) => match flatT P D t with
    | some [s] => some (.one s)
    | _ => none
  | _ => none
def argShs (P : Program) (D : Nat) : List TypeId → Option (List ASh)
  | [] => some []
  | t :: ts => match argSh P D t, argShs P D ts with
    | some s, some ss => some (s :: ss)
    | _, _ => none

def OpensV (w : World) (v : Value) (s : ASh) : Prop := ∃ v', VR (Mu.start w) v' v ∧ ArgLay s v'
def OpensA (w : World) (vs : List Value) (ss : List ASh) : Prop := ∃ vs', VRs (Mu.start w) vs' vs ∧ ArgsLay ss vs'

theorem OpensV.one {w : World} {v : Value} {s : Sh} (h : Opens w [v] [s]) : OpensV w v (.one s) := by
  obtain ⟨cs', ds, h4, h5⟩ := h
  cases h5 with
  | cons s d u ss ds vs k kr =>
    cases kr
    exact ⟨u, h4.2 0 u v rfl rfl, .one _ _ _ k⟩
theorem OpensV.agg {w : World} {cs : Array Value} {ss : List Sh} (h : Opens w cs.toList ss) : OpensV w (.agg cs) (.agg ss) := by
  obtain ⟨cs', ds, h4, h5⟩ := h
  refine ⟨.agg cs'.toArray, ?_, .agg _ _ _ h5⟩
  have := VR.agg' h4 h5.ones
  simpa using this
theorem OpensA.nil {w : World} : OpensA w [] [] := ⟨[], VRs.nil, .nil⟩
theorem OpensA.cons {w : World} {v : Value} {vs : List Value} {s : ASh} {ss : List ASh} (h : OpensV w v s) (k : OpensA w vs ss) : OpensA w (v :: vs) (s :: ss) := by
  obtain ⟨v1, h4, h5⟩ := h
  obtain ⟨v2, k4, k5⟩ := k
  exact ⟨v1 :: v2, VRs.cons h4 k4, .cons _ _ _ _ h5 k5⟩

variable {X : Type} {enc : TypeId × Value → X} {P : Program}

theorem OpensV.of {w : World} {base D : Nat} {t : TypeId} {v : Value} {s : ASh} {d : DataW X} {ps : List MemPlace} (hs : argSh P D t = some s) (hok : Value.okWide P w .any base t v)
    (h : DataW.Trod enc P w 0 (fun _ => true) true t v d ps) : OpensV w v s := by
  obtain ⟨fuel, h⟩ := h
  unfold argSh at hs
  split at hs
  · rename_i fs hu
    obtain ⟨cs, rfl, _⟩ := okWide_struct hu hok
    cases hf : flatT P D t with
    | none => rw [hf] at hs; cases hs
    | some l =>
      rw [hf] at hs; injection hs with hs; subst hs
      exact .agg (open_trod D fuel t l _ _ hf h)
  · rename_i n e hu
    obtain ⟨cs, rfl, _⟩ : ∃ cs, v = .agg cs ∧ cs.size = P.cellsOf t := by
      simp only [Value.okWide, hu] at hok
      obtain ⟨cs, h1, h2, _⟩ := hok
      exact ⟨cs, h1, h2⟩
    cases hf : flatT P D t with
    | none => rw [hf] at hs; cases hs
    | some l =>
      rw [hf] at hs; injection hs with hs; subst hs
      exact .agg (open_trod D fuel t l _ _ hf h)
  · rename_i hu
    injection hs with hs; subst hs
    obtain ⟨b, rfl⟩ := okWide_bool hu hok
    exact .one (Opens.bool b)
  · rename_i k hu
    injection hs with hs; subst hs
    obtain ⟨n, rfl⟩ := okWide_int hu hok
    exact .one (open_trod 1 fuel t [.int k] _ _ (by simp only [flatT, hu]) h)
  · rename_i e hu
    obtain ⟨a, len, cap, rfl⟩ := okWide_slice hu hok
    split at hs
    · rename_i s' hf
      injection hs with hs; subst hs
      exact .one (open_trod D fuel t [s'] _ _ hf h)
    · cases hs
  · cases hs

theorem OpensA.of {w : World} {base D : Nat} : ∀ {ts : List TypeId} {vs : List Value} {ds : List (DataW X)} {ps : List MemPlace} {ss : List ASh}, argShs P D ts = some ss →
    (∀ (j : Nat) t v, ts[j]? = some t → vs[j]? = some v → Value.okWide P w .any base t v) → DataW.TrodAll enc P w 0 (fun _ => true) true ts vs ds ps → OpensA w vs ss
  | [], vs, ds, ps, ss, hs, _, h => by
    obtain ⟨rfl, rfl, rfl⟩ := trodAll_nil h
    injection hs with hs; subst hs
    exact .nil
  | t :: ts, vs, ds, ps, ss, hs, hok, h => by
    obtain ⟨v, vs1, d, ds1, a, b, rfl, rfl, rfl, h1, h2⟩ := trodAll_cons h
    unfold argShs at hs
    split at hs
    · rename_i s ss1 e1 e2
      injection hs with hs; subst hs
      exact .cons (.of e1 (hok 0 t v rfl rfl) h1) (OpensA.of e2 (fun j t' v' h3 h4 => hok (j + 1) t' v' (by simpa using h3) (by simpa using h4)) h2)
    · cases hs

/-- All that came in is read behind the call as it was. -/
theorem trodAll_below {W W' : World} (hl : laidOutB P = true) (hb : Below W.heap.size W W') : ∀ {ts : List TypeId} {vs : List Value} {ds : List (DataW X)} {ps : List MemPlace}, (ts.all fun t => P.readableRec t && decide (t < P.types.size)) = true →
    DataW.TrodAll enc P W 0 (fun _ => true) true ts vs ds ps → DataW.TrodAll enc P W' 0 (fun b => decide (b < W.heap.size)) true ts vs ds ps
  | [], vs, ds, ps, _, h => by
    obtain ⟨rfl, rfl, rfl⟩ := trodAll_nil h
    exact trodAll_mk0
  | t :: ts, vs, ds, ps, hr, h => by
    obtain ⟨v, vs1, d, ds1, a, b, rfl, rfl, rfl, h1, h2⟩ := trodAll_cons h
    simp only [List.all_cons, Bool.and_eq_true, decide_eq_true_eq] at hr
    have hlt : ∀ x ∈ a, x.block < W.heap.size := by obtain ⟨m, hm⟩ := h1; exact DataW.trod_lt m _ _ _ hm
    exact trodAll_cons_mk (Below.trod hl hr.1.1 hr.1.2 h1 hb hlt) (trodAll_below hl hb hr.2 h2)

/-- A law's call, of arguments as they come in, by its evaluator's answer. -/
theorem law_of_args {t : Told} (hP : t.c.P = P) (hN : NamesOk P) (hmix : P.follows .mixedOrders = true) (hsp : SpOk t.c) (hs : SpScott t.c) {f D : Nat} {W : World} {base : Nat} {ts : List TypeId} {args : Array Value} {ds : List (DataW X)} {ps : List MemPlace} {ss : List ASh}
    (hts : argShs P D ts = some ss) (hok : ∀ (j : Nat) t v, ts[j]? = some t → args[j]? = some v → Value.okWide P W .any base t v)
    (h : DataW.TrodAll enc P W 0 (fun _ => true) true ts args.toList ds ps)
    (hlaw : ∀ vs, ArgsLay ss vs → ∃ H', R t f vs Heap.empty = .ok (.bool true) H') :
    Calls P f args W fun e w' => e = .returned (.bool true) ∧ Below W.heap.size W w' := by
  subst hP
  obtain ⟨vs, h1, h2⟩ := OpensA.of hts (fun j t v h1 h2 => hok j t v h1 (by rw [Array.getElem?_toList] at h2; exact h2)) h
  obtain ⟨H', h3⟩ := hlaw vs h2
  have := law_of_R (t := t) hN hmix hsp hs h1 h3
  simpa using this

/-! ### lists that came in -/
theorem LayRows.dec {e : List Sh} {α : Type} {enc : α → List Value} {ok : α → Prop} (hd : ∀ r cs, LayRow e r cs → ∃ x, cs = enc x ∧ ok x) : ∀ {rs : List (List Da)} {cells : List Value}, LayRows e rs cells → ∃ l : List α, cells = rows enc l ∧ l.length = rs.length ∧ ∀ x, x ∈ l → ok x
  | _, _, .nil _ => ⟨[], rfl, rfl, fun _ h => by cases h⟩
  | _, _, .cons _ row cs rs cells h hr => by
    obtain ⟨x, rfl, hx⟩ := hd row cs h
    obtain ⟨l, rfl, h2, h3⟩ := LayRows.dec hd hr
    exact ⟨x :: l, by simp [rows], by simp [h2], fun y hy => by
      rcases List.mem_cons.1 hy with rfl | hy
      · exact hx
      · exact h3 y hy⟩
/-- A slice that came in is a list told by value. -/
theorem Lay.list {e : List Sh} {α : Type} {enc : α → List Value} {ok : α → Prop} (hd : ∀ r cs, LayRow e r cs → ∃ x, cs = enc x ∧ ok x) {d : Da} {v : Value} (h : Lay (.slice e) d v) : ∃ l : List α, v = lv enc l ∧ ∀ x, x ∈ l → ok x := by
  cases h with
  | slice _ rs cells hr =>
    obtain ⟨l, rfl, h2, h3⟩ := LayRows.dec hd hr
    exact ⟨l, by rw [← h2]; rfl, h3⟩
theorem Lay.intv {k : IntKind} {d : Da} {v : Value} (h : Lay (.int k) d v) : ∃ n, v = .int k n ∧ (Lit.int k n).wf = true := by
  cases h with
  | int _ n h => exact ⟨n, rfl, h⟩
theorem Lay.boolv {d : Da} {v : Value} (h : Lay .bool d v) : ∃ b, v = .bool b := by
  cases h with
  | bool b => exact ⟨b, rfl⟩
theorem ArgLay.cell {s : Sh} {v : Value} (h : ArgLay (.one s) v) : ∃ d, Lay s d v := by
  cases h with
  | one _ d _ h => exact ⟨d, h⟩
theorem ArgLay.row {ss : List Sh} {v : Value} (h : ArgLay (.agg ss) v) : ∃ ds vs, v = .agg vs.toArray ∧ LayRow ss ds vs := by
  cases h with
  | agg _ ds vs h => exact ⟨ds, vs, rfl, h⟩
theorem ArgsLay.head {s : ASh} {ss : List ASh} {vs : List Value} (h : ArgsLay (s :: ss) vs) : ∃ v vs', vs = v :: vs' ∧ ArgLay s v ∧ ArgsLay ss vs' := by
  cases h with
  | cons _ v _ vs h hr => exact ⟨v, vs, rfl, h, hr⟩
theorem ArgsLay.done {vs : List Value} (h : ArgsLay [] vs) : vs = [] := by cases h; rfl
theorem LayRow.head {s : Sh} {ss : List Sh} {ds : List Da} {vs : List Value} (h : LayRow (s :: ss) ds vs) : ∃ d v ds' vs', vs = v :: vs' ∧ Lay s d v ∧ LayRow ss ds' vs' := by
  cases h with
  | cons _ d v _ ds vs h hr => exact ⟨d, v, ds, vs, rfl, h, hr⟩
theorem LayRow.done {ds : List Da} {vs : List Value} (h : LayRow [] ds vs) : vs = [] := by cases h; rfl
end Go.Sw
