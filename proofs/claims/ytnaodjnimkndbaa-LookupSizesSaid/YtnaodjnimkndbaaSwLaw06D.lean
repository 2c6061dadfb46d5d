/-
  The laws LookupForms and LookupSizes.
-/
import Derived.Test.YtnaodjnimkndbaaSwLaw06C
import Derived.Test.YtnaodjnimkndbaaSwMisc
namespace Go.Sw
open Go.RowKit

theorem wantS_snoc (l : List Pr) (p : Pr) (id : Int) : wantS (l ++ [p]) id = (wantS l id).or (if p.id = id then some p.x else none) := by
  unfold wantS
  rw [List.find?_append]
  cases l.find? (fun p => decide (p.id = id)) with
  | some q => rfl
  | none =>
    by_cases h : p.id = id
    · simp [h]
    · simp [h]
theorem wantS_take {l : List Pr} {n : Int} (hr : RiseTo l n) {j : Nat} {p : Pr} (hp : l[j]? = some p) : wantS (l.take j) p.id = none := by
  unfold wantS
  rw [Option.map_eq_none_iff, List.find?_eq_none]
  intro q hq
  obtain ⟨i, hi⟩ := List.getElem?_of_mem hq
  rw [List.getElem?_take] at hi
  split at hi
  · have := hr.1 i j q p (by omega) hi hp
    simp; omega
  · cases hi
theorem wantS_mem {l : List Pr} {n : Int} (hr : RiseTo l n) {p : Pr} (hp : p ∈ l) : wantS l p.id = some p.x := by
  obtain ⟨i, hi⟩ := List.getElem?_of_mem hp
  have h1 := wantS_take hr hi
  have h2 := take_snoc hi
  have h3 : wantS (l.take (i + 1)) p.id = some p.x := by rw [h2, wantS_snoc, h1, if_pos rfl]; rfl
  unfold wantS at h3 ⊢
  have : l.find? (fun q => decide (q.id = p.id)) = some p := by
    obtain ⟨q, hq, hx⟩ := Option.map_eq_some_iff.1 h3
    rw [h2, List.find?_append] at hq
    unfold wantS at h1
    rw [Option.map_eq_none_iff.1 h1] at hq
    simp at hq
    rw [← List.take_append_drop (i + 1) l, List.find?_append, h2, List.find?_append, Option.map_eq_none_iff.1 h1]
    simp
  rw [this]; rfl

theorem twoS_byt (l : List Pr) : Byt (twoS l) := (headS_byt _ _ _).app ((Byt.flat fun r hr => by
  obtain ⟨p, _, rfl⟩ := List.mem_map.1 hr
  exact (bytesOf_byt _ _).app ((bytesOf_byt _ _).app ((bytesOf_byt _ _).app Byt.nil))).app Byt.nil)
theorem sixS_byt (z : Nat) (l : List Pr) : Byt (sixS z l) := (headS_byt _ _ _).app ((Byt.flat fun r hr => by
  obtain ⟨p, _, rfl⟩ := List.mem_map.1 hr
  exact (bytesOf_byt _ _).app ((bytesOf_byt _ _).app Byt.nil)).app Byt.nil)
theorem fourS_byt (l : List Pr) : Byt (fourS l) := (headS_byt _ _ _).app ((Byt.flat fun r hr => by
  obtain ⟨i, hi⟩ := List.getElem?_of_mem hr
  have hlt := (List.getElem?_eq_some_iff.1 hi).1
  rw [fourRows_len] at hlt
  rw [fourRows_get l _ i _ (List.getElem?_eq_getElem hlt)] at hi
  injection hi with hi
  subst hi
  exact (bytesOf_byt _ _).app ((bytesOf_byt _ _).app ((bytesOf_byt _ _).app Byt.nil))).app (Byt.flat fun r hr => by
  obtain ⟨p, _, rfl⟩ := List.mem_map.1 hr
  exact bytesOf_byt _ _))
theorem eightS_byt (l : List Pr) : Byt (eightS l) := by
  unfold eightS
  split
  · exact (bytesOf_byt _ _).app ((bytesOf_byt _ _).app ((bytesOf_byt _ _).app ((bytesOf_byt _ _).app Byt.nil)))
  · exact (bytesOf_byt _ _).app ((bytesOf_byt _ _).app ((bytesOf_byt _ _).app Byt.nil))
theorem flat_map_len (f : Pr → List Int) (l : List Pr) (m : Nat) (hf : ∀ p, (f p).length = m) : ((l.map f).flatten).length = l.length * m := by
  rw [flat_len (z := m) (fun r hr => by obtain ⟨p, _, rfl⟩ := List.mem_map.1 hr; exact hf p), List.length_map]
theorem twoS_len (l : List Pr) : (twoS l).length = 12 + l.length * 6 := by
  simp only [twoS, List.length_append, headS_len, flat_map_len twoRow l 6 (fun p => by simp [twoRow]), List.length_nil, Nat.add_zero]
theorem sixS_len (z : Nat) (l : List Pr) : (sixS z l).length = 12 + l.length * (2 + z) := by
  simp only [sixS, List.length_append, headS_len, flat_map_len (sixRow z) l (2 + z) (fun p => by simp [sixRow]), List.length_nil, Nat.add_zero]
theorem fourS_len (l : List Pr) : (fourS l).length ≤ 12 + l.length * 8 := by
  have := four_take_len l l.length (12 + 6 * l.length)
  rw [List.take_length] at this
  simp only [fourS, List.length_append, headS_len, valS, flat_map_len (fun p => bytesOf p.x 2) l 2 (fun p => by simp)]
  omega
theorem eightS_len (l : List Pr) : (eightS l).length ≤ 8 := by
  unfold eightS
  split <;> simp

/-- What is told of a lookup of pairs. -/
structure FormOk (k : Nat) (id : Int) (r : List Pr) (v : Value) : Prop where
  rd : ∃ x : Int × List Pt, ∀ H : Heap, R (T k) F.lookup_Read [v, .int .i64 65535, .int .i64 2] H = .ok (.tuple #[tabV x, .int .i64 0]) H ∧
    ∀ id H, R (T k) F.lookup_Table_Get [tabV x, .int .i64 id] H = .ok (.tuple #[.int .i64 ((wantS r id).getD 0), .bool (wantS r id).isSome]) H

theorem form_of (k : Nat) (id : Int) {r : List Pr} (hok : ∀ p, p ∈ r → p.ok) (hr : RiseTo r 65535) (hl : r.length ≤ 1000) {b : List Int} {fmt : Int} (hb : Byt b) (hbl : b.length < 2 ^ 31) (h : lookS b 65535 2 = some (fmt, r.map Pr.pt)) : FormOk k id r (lv encB b) := by
  refine ⟨⟨(fmt, r.map Pr.pt), fun H => ⟨?_, fun id H => ?_⟩⟩⟩
  · rw [lookRead_run k (Sl.lv H 1 b) hb 65535 2 hbl]
    unfold lookO lookN
    rw [show badS 65535 2 = false from rfl, h]
    rfl
  · rw [Get_run k (fmt, r.map Pr.pt) (pts_ok hok) (rise_pts hr) id (by simp; omega) H, get_pts hr]

theorem forms_in (k : Nat) {H : Heap} (id : Int) {r : List Pr} (hok : ∀ p, p ∈ r → p.ok) (hr : RiseTo r 65535) (hl : r.length ≤ 1000) (a5 a6 a42 a43 tab : Value)
    (hg : ∀ id H, R (T k) F.lookup_Table_Get [tab, .int .i64 id] H = .ok (.tuple #[.int .i64 ((wantS r id).getD 0), .bool (wantS r id).isSome]) H) :
    ∃ H' e, loopN (swashlaw06_LookupForms_l3 k (R (T k))) loopFuel [(0, lv encPr r), (1, .int .i64 id), (5, a5), (6, a6), (11, tab), (42, a42), (43, a43), (79, lv encPr r), (80, .int .i64 r.length), (81, .int .i64 0)] H = .ok (.exit 4, [(0, lv encPr r), (1, .int .i64 id), (5, a5), (6, a6), (11, tab), (42, a42), (43, a43), (79, lv encPr r), (80, .int .i64 r.length), (81, .int .i64 r.length), (82, e)]) H' ∧ Ext H H' := by
  obtain ⟨x, e', H1, hr', rfl, ⟨e, rfl⟩, hx⟩ := loop_up (body := swashlaw06_LookupForms_l3 k (R (T k))) r.length
    (fun j e H' => e = [(0, lv encPr r), (1, .int .i64 id), (5, a5), (6, a6), (11, tab), (42, a42), (43, a43), (79, lv encPr r), (80, .int .i64 r.length), (81, .int .i64 j)] ∧ Ext H H')
    (fun x e H' => x = .exit 4 ∧ (∃ u, e = [(0, lv encPr r), (1, .int .i64 id), (5, a5), (6, a6), (11, tab), (42, a42), (43, a43), (79, lv encPr r), (80, .int .i64 r.length), (81, .int .i64 r.length), (82, u)]) ∧ Ext H H')
    (e0 := [(0, lv encPr r), (1, .int .i64 id), (5, a5), (6, a6), (11, tab), (42, a42), (43, a43), (79, lv encPr r), (80, .int .i64 r.length), (81, .int .i64 0)]) (H0 := H) ⟨rfl, Ext.refl _⟩ (by omega)
    (fun j e H' hj ⟨he, hx⟩ => by
      subst he
      have hlt : (j : Int) < r.length := by omega
      obtain ⟨p, hp⟩ : ∃ p, r[j]? = some p := ⟨_, List.getElem?_eq_getElem hj⟩
      have hpm := List.mem_of_getElem? hp
      obtain ⟨q1, q2, q3, q4⟩ := hok p hpm
      have i1 := fun H' => ixS_lvN encPr_len r .i64 j p hp H'
      have w1 : IntKind.i64.wrap p.id = p.id := wrap_i64 (by omega) (by omega)
      have w2 : IntKind.i64.wrap p.x = p.x := wrap_i64 (by omega) (by omega)
      have hw := wantS_mem hr hpm
      refine .inl ⟨_, _, ?_, rfl, hx.trans ((Ext.refl H').push ⟨[.int .u16 p.id, .int .u16 p.x], 1, false⟩)⟩
      rw [swashlaw06_LookupForms_l3_eq]
      simp -implicitDefEqProofs (disch := omega) [hlt, i1, w1, w2, hg, hw])
    (fun e H' ⟨he, hx⟩ => by
      subst he
      refine ⟨.exit 4, _, H', ?_, by simp, rfl, ⟨.bool false, rfl⟩, hx⟩
      rw [swashlaw06_LookupForms_l3_eq]
      simp -implicitDefEqProofs)
  exact ⟨H1, e, hr', hx⟩

theorem LookupForms_run (l : List Pr) (hok : ∀ p, p ∈ l → p.ok) (id : Int) : R (T 69) F.swashlaw06_LookupForms [lv encPr l, .int .i64 id] Heap.empty = .ok (.bool true) Heap.empty := by
  rw [swashlaw06_LookupForms_R]
  generalize Heap.empty = H
  by_cases hl : l.length > 30
  · have hl' : (l.length : Int) > 30 := by omega
    refine nrm_gc ⟨H, ?_, Ext.refl H⟩ (.bool _)
    simp -implicitDefEqProofs (disch := omega) [swashlaw06_LookupForms, speaks06_run, hl']
  have hl' : ¬ (l.length : Int) > 30 := by omega
  obtain ⟨r, hris, hr, hrok, hrl⟩ := rising_run 69 H l (by omega) hok
  have hF := fun H => Forms_run 69 H r (by omega) hrok
  obtain ⟨x, e', H1, hr1, rfl, ⟨a, rfl⟩, hx⟩ := loop_up (body := swashlaw06_LookupForms_l1 69 (R (T 69))) r.length
    (fun j e H' => e = [(0, lv encPr r), (1, .int .i64 id), (5, .int .i64 ((wantS (r.take j) id).getD 0)), (6, .bool (wantS (r.take j) id).isSome), (26, lv encPr r), (27, .int .i64 r.length), (28, .int .i64 j)] ∧ Ext H H')
    (fun x e H' => x = .exit 0 ∧ (∃ a, e = [(0, lv encPr r), (1, .int .i64 id), (5, .int .i64 ((wantS r id).getD 0)), (6, .bool (wantS r id).isSome), (26, lv encPr r), (27, .int .i64 r.length), (28, .int .i64 r.length), (29, a)]) ∧ Ext H H')
    (e0 := [(0, lv encPr r), (1, .int .i64 id), (5, .int .i64 0), (6, .bool false), (26, lv encPr r), (27, .int .i64 r.length), (28, .int .i64 0)]) (H0 := H) ⟨rfl, Ext.refl _⟩ (by omega)
    (fun j e H' hj ⟨he, hx⟩ => by
      subst he
      have hlt : (j : Int) < r.length := by omega
      obtain ⟨p, hp⟩ : ∃ p, r[j]? = some p := ⟨_, List.getElem?_eq_getElem hj⟩
      have hpm := List.mem_of_getElem? hp
      obtain ⟨q1, q2, q3, q4⟩ := hrok p hpm
      have i1 := fun H' => ixS_lvN encPr_len r .i64 j p hp H'
      have w1 : IntKind.i64.wrap p.id = p.id := wrap_i64 (by omega) (by omega)
      have w2 : IntKind.i64.wrap p.x = p.x := wrap_i64 (by omega) (by omega)
      refine .inl ⟨_, _, ?_, rfl, hx.trans ((Ext.refl H').push ⟨[.int .u16 p.id, .int .u16 p.x], 1, false⟩)⟩
      rw [swashlaw06_LookupForms_l1_eq, take_snoc hp, wantS_snoc]
      by_cases he : p.id = id
      · have hb : (p.id == id) = true := by simpa using he
        have := wantS_take hr hp
        rw [he] at this
        simp -implicitDefEqProofs (disch := omega) [hlt, i1, w1, w2, he, this, swashlaw06_LookupForms_j1_eq]
      · have hb : (p.id == id) = false := by simpa using he
        simp -implicitDefEqProofs (disch := omega) [hlt, i1, w1, w2, he, hb, swashlaw06_LookupForms_j2_eq])
    (fun e H' ⟨he, hx⟩ => by
      subst he
      refine ⟨.exit 0, _, H', ?_, by simp, rfl, ⟨.bool false, rfl⟩, hx⟩
      rw [swashlaw06_LookupForms_l1_eq]
      simp -implicitDefEqProofs)
  have f2 := form_of 69 id hrok hr (by omega) (twoS_byt r) (by rw [twoS_len]; omega) (two_look hrok hr (by omega) 65535)
  have f4 := form_of 69 id hrok hr (by omega) (fourS_byt r) (by have := fourS_len r; omega) (four_look hrok hr (by omega) 65535)
  have f6 := form_of 69 id hrok hr (by omega) (sixS_byt 2 r) (by rw [sixS_len]; omega) (six_look 2 (.inl rfl) hrok hr (by omega) 65535)
  have f8 : ¬ r.length > 1 → FormOk 69 id r (lv encB (eightS r)) := fun h => form_of 69 id hrok hr (by omega) (eightS_byt r) (by have := eightS_len r; omega) (eight_look hrok (by omega) 65535)
  have hsk : ∀ j : Nat, j < 4 → (j = 3 ∧ (r.length : Int) > 1) ∨ ∃ v, FormOk 69 id r v ∧ (#[lv encB (twoS r), lv encB (fourS r), lv encB (sixS 2 r), lv encB (eightS r)][j]? = some v) ∧ ¬ (j = 3 ∧ (r.length : Int) > 1) := fun j hj => by
    match j, hj with
    | 0, _ => exact .inr ⟨_, f2, rfl, by omega⟩
    | 1, _ => exact .inr ⟨_, f4, rfl, by omega⟩
    | 2, _ => exact .inr ⟨_, f6, rfl, by omega⟩
    | 3, _ =>
      by_cases h : r.length > 1
      · exact .inl ⟨rfl, by omega⟩
      · exact .inr ⟨_, f8 h, rfl, by omega⟩
  obtain ⟨y, e', H2, hr2, rfl, ⟨b, rfl⟩, hx2⟩ := loop_up (body := swashlaw06_LookupForms_l2 69 (R (T 69))) 4
    (fun j e H' => e = [(0, lv encPr r), (1, .int .i64 id), (5, .int .i64 ((wantS r id).getD 0)), (6, .bool (wantS r id).isSome), (42, .agg #[lv encB (twoS r), lv encB (fourS r), lv encB (sixS 2 r), lv encB (eightS r)]), (43, .int .i64 j)] ∧ Ext H H')
    (fun y e H' => y = .exit 2 ∧ (∃ b, e = [(0, lv encPr r), (1, .int .i64 id), (5, .int .i64 ((wantS r id).getD 0)), (6, .bool (wantS r id).isSome), (42, .agg #[lv encB (twoS r), lv encB (fourS r), lv encB (sixS 2 r), lv encB (eightS r)]), (43, .int .i64 4), (44, b)]) ∧ Ext H H')
    (e0 := [(0, lv encPr r), (1, .int .i64 id), (5, .int .i64 ((wantS r id).getD 0)), (6, .bool (wantS r id).isSome), (42, .agg #[lv encB (twoS r), lv encB (fourS r), lv encB (sixS 2 r), lv encB (eightS r)]), (43, .int .i64 0)]) (H0 := H1) ⟨rfl, hx⟩ (by omega)
    (fun j e H' hj ⟨he, hx⟩ => by
      subst he
      have hlt : (j : Int) < 4 := by omega
      rcases hsk j hj with ⟨rfl, hgt⟩ | ⟨v, ⟨tb, hv⟩, hget, hns⟩
      · refine .inl ⟨_, H', ?_, rfl, hx⟩
        rw [swashlaw06_LookupForms_l2_eq]
        have i2 := fun H' => iv1_get (k := .i64) (len := 4) (j := 3) (by decide) (show #[lv encB (twoS r), lv encB (fourS r), lv encB (sixS 2 r), lv encB (eightS r)][3]? = some (lv encB (eightS r)) from rfl) H'
        simp -implicitDefEqProofs (disch := omega) at i2
        simp -implicitDefEqProofs (disch := omega) [i2, hgt, swashlaw06_LookupForms_j3_eq]
      · obtain ⟨H3, e3, hin, hx3⟩ := forms_in 69 (H := H') id hrok hr (by omega) (.int .i64 ((wantS r id).getD 0)) (.bool (wantS r id).isSome) (.agg #[lv encB (twoS r), lv encB (fourS r), lv encB (sixS 2 r), lv encB (eightS r)]) (.int .i64 j) (tabV tb) (hv H').2
        refine .inl ⟨_, H3, ?_, rfl, hx.trans hx3⟩
        rw [swashlaw06_LookupForms_l2_eq]
        have i2 := fun H' => iv1_get (k := .i64) hj hget H'
        have hrd := fun H => (hv H).1
        have hgt := (hv H').2
        by_cases h3 : j = 3
        · have h3' : ((j : Int) == 3) = true := by simp; omega
          have hlen : ¬ (r.length : Int) > 1 := fun h => hns ⟨h3, h⟩
          simp -implicitDefEqProofs (disch := omega) [hlt, i2, h3', hlen, hrd, hgt, hin, bne, swashlaw06_LookupForms_l3k_x4, swashlaw06_LookupForms_j4_eq]
        · have h3' : ((j : Int) == 3) = false := by simp; omega
          simp -implicitDefEqProofs (disch := omega) [hlt, i2, h3', hrd, hgt, hin, bne, swashlaw06_LookupForms_l3k_x4, swashlaw06_LookupForms_j4_eq])
    (fun e H' ⟨he, hx⟩ => by
      subst he
      refine ⟨.exit 2, _, H', ?_, by simp, rfl, ⟨.bool false, rfl⟩, hx⟩
      rw [swashlaw06_LookupForms_l2_eq]
      simp -implicitDefEqProofs)
  refine nrm_gc ⟨H2, ?_, hx2⟩ (.bool _)
  simp -implicitDefEqProofs (disch := omega) [swashlaw06_LookupForms, speaks06_run, hl', hris, hr1, swashlaw06_LookupForms_l1k_x0, hF, hr2, swashlaw06_LookupForms_l2k_x2]

theorem row_Pr {r : List Da} {cs : List Value} (h : LayRow [.int .u16, .int .u16] r cs) : ∃ p : Pr, cs = encPr p ∧ p.ok := by
  obtain ⟨d, v, ds, vs, rfl, h1, h⟩ := h.head
  obtain ⟨d, u, ds, us, rfl, h2, h⟩ := h.head
  obtain rfl := h.done
  obtain ⟨a, rfl, w1⟩ := h1.intv
  obtain ⟨b, rfl, w2⟩ := h2.intv
  have w1 := wf_u16 w1
  have w2 := wf_u16 w2
  exact ⟨⟨a, b⟩, rfl, w1.1, w1.2, w2.1, w2.2⟩
theorem arg_Pr {v : Value} (h : ArgLay (.one (.slice [.int .u16, .int .u16])) v) : ∃ l, v = lv encPr l ∧ ∀ p, p ∈ l → p.ok := by
  obtain ⟨d, h1⟩ := h.cell
  exact Lay.list (enc := encPr) (ok := Pr.ok) (fun r cs h => row_Pr h) h1
theorem LookupForms_args (vs : List Value) (h : ArgsLay [.one (.slice [.int .u16, .int .u16]), .one (.int .i64)] vs) : ∃ H', R (T 69) F.swashlaw06_LookupForms vs Heap.empty = .ok (.bool true) H' := by
  obtain ⟨v1, _, rfl, h1, h⟩ := h.head
  obtain ⟨v2, _, rfl, h2, h⟩ := h.head
  obtain rfl := h.done
  obtain ⟨l, rfl, hl⟩ := arg_Pr h1
  obtain ⟨id, rfl, _⟩ := arg_i h2
  exact ⟨_, LookupForms_run l hl id⟩

/-! ### the same in four bytes each -/

theorem LookupSizes_run (l : List Pr) (hok : ∀ p, p ∈ l → p.ok) (id : Int) : R (T 69) F.swashlaw06_LookupSizes [lv encPr l, .int .i64 id] Heap.empty = .ok (.bool true) Heap.empty := by
  rw [swashlaw06_LookupSizes_R]
  generalize Heap.empty = H
  by_cases hl : l.length > 30
  · have hl' : (l.length : Int) > 30 := by omega
    refine nrm_gc ⟨H, ?_, Ext.refl H⟩ (.bool _)
    simp -implicitDefEqProofs (disch := omega) [swashlaw06_LookupSizes, speaks06_run, hl']
  have hl' : ¬ (l.length : Int) > 30 := by omega
  obtain ⟨r, hris, hr, hrok, hrl⟩ := rising_run 69 H l (by omega) hok
  obtain ⟨s1, o1, H1, e1, g⟩ := head_star 69 (Star.nil H) 6 4 r.length (by omega) (by omega) (by omega)
  obtain ⟨s2, o2, H2, e2, g⟩ := head_star 69 g 6 6 r.length (by omega) (by omega) (by omega)
  obtain ⟨x, e', H3, hr3, rfl, t1, t2, u1, u2, ⟨c, rfl⟩, g⟩ := loop_up (body := swashlaw06_LookupSizes_l1 69 (R (T 69))) r.length
    (fun j e H' => ∃ t1 t2 u1 u2, e = [(1, .int .i64 id), (5, t1), (6, t2), (30, lv encPr r), (31, .int .i64 r.length), (32, .int .i64 j)] ∧
      Star H H' [itRow u1 1 t1 encB (headS 6 4 r.length ++ ((r.take j).map (sixRow 2)).flatten), itRow u2 1 t2 encB (headS 6 6 r.length ++ ((r.take j).map (sixRow 4)).flatten)])
    (fun x e H' => x = .exit 0 ∧ ∃ t1 t2 u1 u2, (∃ c, e = [(1, .int .i64 id), (5, t1), (6, t2), (30, lv encPr r), (31, .int .i64 r.length), (32, .int .i64 r.length), (33, c)]) ∧
      Star H H' [itRow u1 1 t1 encB (headS 6 4 r.length ++ (r.map (sixRow 2)).flatten), itRow u2 1 t2 encB (headS 6 6 r.length ++ (r.map (sixRow 4)).flatten)])
    (e0 := [(1, .int .i64 id), (5, s1), (6, s2), (30, lv encPr r), (31, .int .i64 r.length), (32, .int .i64 0)]) (H0 := H2) ⟨s1, s2, o1, o2, rfl, by simpa using g⟩ (by omega)
    (fun j e H' hj ⟨t1, t2, u1, u2, he, g⟩ => by
      subst he
      have hlt : (j : Int) < r.length := by omega
      obtain ⟨p, hp⟩ : ∃ p, r[j]? = some p := ⟨_, List.getElem?_eq_getElem hj⟩
      obtain ⟨q1, q2, q3, q4⟩ := hrok p (List.mem_of_getElem? hp)
      have i1 := fun H' => ixS_lvN encPr_len r .i64 j p hp H'
      have w1 : IntKind.i64.wrap p.id = p.id := wrap_i64 (by omega) (by omega)
      have w2 : IntKind.i64.wrap p.x = p.x := wrap_i64 (by omega) (by omega)
      have l6 := flat_take_len (sixRow 2) r j 4 (fun p => by simp [sixRow])
      have l8 := flat_take_len (sixRow 4) r j 6 (fun p => by simp [sixRow])
      have hn := g.ext.1
      have hgp : H'.get H'.n = none := by unfold Heap.get; rw [if_neg (by omega)]
      have g := g.push ⟨[.int .u16 p.id, .int .u16 p.x], 1, false⟩
      obtain ⟨v1, y1, K1, e1, g⟩ := Put_star 69 g 0 rfl p.id 2 2 rfl q1 (by omega) (by decide) (by simp only [List.length_append, headS_len, bytesOf_len]; omega)
      have m1 := g.get 2 rfl
      obtain ⟨v2, y2, K2, e2, g⟩ := Put_star 69 g 0 rfl p.x 2 2 rfl q3 (by omega) (by decide) (by simp only [List.length_append, headS_len, bytesOf_len]; omega)
      have m2 := g.get 2 rfl
      obtain ⟨v3, y3, K3, e3, g⟩ := Put_star 69 g 1 rfl p.id 2 2 rfl q1 (by omega) (by decide) (by simp only [List.length_append, headS_len, bytesOf_len]; omega)
      have m3 := g.get 2 rfl
      obtain ⟨v4, y4, K4, e4, g⟩ := Put_star 69 g 1 rfl p.x 4 4 rfl q3 (by omega) (by decide) (by simp only [List.length_append, headS_len, bytesOf_len]; omega)
      refine .inl ⟨_, K4, ?_, v2, v4, y2, y4, rfl, ?_⟩
      · rw [swashlaw06_LookupSizes_l1_eq]
        simp -implicitDefEqProofs (disch := omega) [hlt, i1, w1, w2, e1, e2, e3, e4, m1, m2, m3]
      · rw [take_snoc hp]
        have g := g.take 2
        simpa [sixRow] using g)
    (fun e H' ⟨t1, t2, u1, u2, he, g⟩ => by
      subst he
      refine ⟨.exit 0, _, H', ?_, by simp, rfl, t1, t2, u1, u2, ⟨.bool false, rfl⟩, by simpa using g⟩
      rw [swashlaw06_LookupSizes_l1_eq]
      simp -implicitDefEqProofs)
  have f2 := six_look 2 (.inl rfl) hrok hr (by omega) 100
  have f4 := six_look 4 (.inr rfl) hrok hr (by omega) 100
  rw [show sixS 2 r = headS 6 4 r.length ++ (r.map (sixRow 2)).flatten by simp [sixS]] at f2
  rw [show sixS 4 r = headS 6 6 r.length ++ (r.map (sixRow 4)).flatten by simp [sixS]] at f4
  have y2 := sixS_byt 2 r
  have y4 := sixS_byt 4 r
  have z2 := sixS_len 2 r
  have z4 := sixS_len 4 r
  rw [show sixS 2 r = headS 6 4 r.length ++ (r.map (sixRow 2)).flatten by simp [sixS]] at y2 z2
  rw [show sixS 4 r = headS 6 6 r.length ++ (r.map (sixRow 4)).flatten by simp [sixS]] at y4 z4
  have r2 := lookRead_run 69 ((g.row 0 rfl).sl encB_len) y2 100 2 (by omega)
  have r4 := lookRead_run 69 ((g.row 1 rfl).sl encB_len) y4 100 4 (by omega)
  unfold lookO lookN at r2 r4
  rw [show badS 100 2 = false from rfl] at r2
  rw [show badS 100 4 = false from rfl] at r4
  have f2 : lookS (headS 6 4 r.length ++ (r.map (sixRow 2)).flatten) 100 2 = some (6, r.map Pr.pt) := f2
  have f4 : lookS (headS 6 6 r.length ++ (r.map (sixRow 4)).flatten) 100 4 = some (6, r.map Pr.pt) := f4
  rw [f2] at r2
  rw [f4] at r4
  simp [lookV] at r2 r4
  have hg := fun id H => Get_run 69 (6, r.map Pr.pt) (pts_ok hrok) (rise_pts hr) id (by simp; omega) H
  have hm := fun H => Most_run 69 (6, r.map Pr.pt) (pts_ok hrok) (by simp; omega) H
  refine nrm_gc ⟨H3, ?_, g.ext⟩ (.bool _)
  simp -implicitDefEqProofs (disch := omega) [swashlaw06_LookupSizes, speaks06_run, hl', hris, e1, e2, hr3, swashlaw06_LookupSizes_l1k_x0, r2, r4, hg, hm, bne]
theorem LookupSizes_args (vs : List Value) (h : ArgsLay [.one (.slice [.int .u16, .int .u16]), .one (.int .i64)] vs) : ∃ H', R (T 69) F.swashlaw06_LookupSizes vs Heap.empty = .ok (.bool true) H' := by
  obtain ⟨v1, _, rfl, h1, h⟩ := h.head
  obtain ⟨v2, _, rfl, h2, h⟩ := h.head
  obtain rfl := h.done
  obtain ⟨l, rfl, hl⟩ := arg_Pr h1
  obtain ⟨id, rfl, _⟩ := arg_i h2
  exact ⟨_, LookupSizes_run l hl id⟩
end Go.Sw
