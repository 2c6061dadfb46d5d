/-
  The laws SwapRuns and SwapGone.
-/
import Derived.Test.YtnaodjnimkndbaaSwLaw16B
import Derived.Test.YtnaodjnimkndbaaSwRef6D
namespace Go.Sw
open Go.RowKit

/-- What the document makes of a glyph. -/
def refG (b : List Int) (rs : List RP) (g : Gl) : Gl := if g.id = 65535 then g else match refGetS b rs g.id with | some y => ⟨y, g.cl⟩ | none => g
theorem swapG_ref {b : List Int} {ps : List Pt} {rs : List RP} (h : Rel b ps rs) (hok : ∀ p, p ∈ ps → p.ok) (hr : risesS ps = true) (g : Gl) : swapG ps g = refG b rs g := by
  unfold swapG refG
  rw [get_ref h hok hr]
  cases refGetS b rs g.id <;> rfl
theorem refRead_len {b : List Int} {g z : Int} {rs : List RP} (hb : Byt b) (hg : 1 ≤ g ∧ g ≤ 65535) (hz : z = 2 ∨ z = 4) {x : Int × List Pt} (hx : lookS b g z = some x) (h : refReadS b g z = some rs) : rs.length < 2 ^ 31 := by
  obtain ⟨rs', h1, h2⟩ := (look_ref hb hg.1 hg.2 hz).1 x hx
  rw [h] at h1
  injection h1 with h1
  subst h1
  have : ∀ (ps : List Pt) (rs : List RP), Rel b ps rs → rs.length = ps.length := by
    intro ps
    induction ps with
    | nil => intro rs h; cases rs with | nil => rfl | cons _ _ => cases h
    | cons p ps ih => intro rs h; cases rs with | nil => cases h | cons r rs => simp [ih rs h.2]
  rw [this _ _ h2]
  exact lookS_len hb hx

theorem SwapRuns_run (b : List Int) (hb : Byt b) (gl : Int) (hgl : -9223372036854775808 ≤ gl ∧ gl ≤ 9223372036854775807) (l : List Gl) : R (T F.swashlaw16_speaks) F.swashlaw16_SwapRuns [lv encB b, .int .i64 gl, lv encG l] Heap.empty = .ok (.bool true) Heap.empty := by
  generalize hk : F.swashlaw16_speaks = k
  have hs := speaks16_run k (by subst hk; rfl)
  have hklt : k < 1000000 := by subst hk; decide
  rw [swashlaw16_SwapRuns_R]
  generalize Heap.empty = H
  have hb1 := fun H' => big16_run k b l H'
  by_cases c1 : b.length > 600 ∨ l.length > 60
  · refine nrm_gc ⟨H, ?_, Ext.refl H⟩ (.bool _)
    simp -implicitDefEqProofs (disch := omega) [swashlaw16_SwapRuns, hs, hb1, c1]
  have hrd := fun H' => swapRead_run k (H := H') (Sl.lv H' 1 b) hb gl (by omega)
  unfold lookO lookN at hrd
  by_cases c2 : gl < 1
  · have e : badS gl 2 = true := by unfold badS; simp [c2]
    rw [e] at hrd
    simp [swapV] at hrd
    refine nrm_gc ⟨H, ?_, Ext.refl H⟩ (.bool _)
    simp -implicitDefEqProofs (disch := omega) [swashlaw16_SwapRuns, hs, hb1, c1, hrd, c2]
  by_cases c3 : gl > 65535
  · have e : badS gl 2 = true := by unfold badS; simp [c3]
    rw [e] at hrd
    simp [swapV] at hrd
    refine nrm_gc ⟨H, ?_, Ext.refl H⟩ (.bool _)
    simp -implicitDefEqProofs (disch := omega) [swashlaw16_SwapRuns, hs, hb1, c1, hrd, c2, c3]
  have e : badS gl 2 = false := by unfold badS; simp; omega
  rw [e] at hrd
  have hgg : 1 ≤ gl ∧ gl ≤ 65535 := by omega
  have hrr := fun H' => read06_run k b hb gl 2 hgg (.inl rfl) (by omega) H'
  have hlr := look_ref hb hgg.1 hgg.2 (.inl rfl : (2 : Int) = 2 ∨ (2 : Int) = 4)
  cases h : lookS b gl 2 with
  | none =>
    rw [hlr.2 h] at hrr
    rw [h] at hrd
    simp [swapV, tabRO] at hrd hrr
    refine nrm_gc ⟨_, ?_, (Ext.refl H).push ⟨[lv encB [], lv encRP []], 1, false⟩⟩ (.bool _)
    simp -implicitDefEqProofs (disch := omega) [swashlaw16_SwapRuns, hs, hb1, c1, hrd, c2, c3, hrr]
  | some x =>
    obtain ⟨rs, hrs, hrel⟩ := hlr.1 x h
    rw [hrs] at hrr
    rw [h] at hrd
    simp [swapV, tabRO] at hrd hrr
    have hok := lookS_ok hb hgg.1 hgg.2 (.inl rfl) h
    have hpl := lookS_len hb h
    have hrok := refRead_ok hb hgg (.inl rfl) hrs
    have hrl := refRead_len hb hgg (.inl rfl) h hrs
    have hget := fun id H' => get06_run k b hb rs hrok hrl (by omega) id H'
    have hsw : l.map (swapG x.2) = l.map (refG b rs) := List.map_congr_left fun g _ => swapG_ref hrel hok.2.1 hok.2.2 g
    have g := (Star.nil H).push ⟨[lv encB b, lv encRP rs], 1, false⟩
    have g := g.more_row (Ext.refl _) (OwnO.bare encG _ 2) (fun b hb => by cases hb)
    obtain ⟨s, o, H1, e1, g⟩ := g.append (bytes := 16) 1 encG_len rfl (b := lv encG l) (l2 := l) rfl (lv_first encG_len l _) (by simp; omega) (by decide)
    simp only [List.nil_append, List.cons_append, List.set_cons_zero, List.set_cons_succ] at g
    obtain ⟨y, e', H2, hr, rfl, rfl, ⟨o, g⟩⟩ := loop_up (body := swashlaw16_SwapRuns_l1 k (R (T k))) l.length
      (fun j e H' => e = [(2, lv encG l), (7, swapTab x), (9, ptrV H.n), (11, s), (63, lv encG l), (64, .int .i64 l.length), (65, .int .i64 j)] ∧ ∃ o, Star H H' [itBlk H.n ⟨[lv encB b, lv encRP rs], 1, false⟩, itRow o 2 s encG ((l.take j).map (refG b rs) ++ l.drop j)])
      (fun y e H' => y = .exit 0 ∧ e = [(2, lv encG l), (7, swapTab x), (9, ptrV H.n), (11, s), (63, lv encG l), (64, .int .i64 l.length), (65, .int .i64 l.length), (66, .bool false)] ∧ ∃ o, Star H H' [itBlk H.n ⟨[lv encB b, lv encRP rs], 1, false⟩, itRow o 2 s encG (l.map (refG b rs))])
      (e0 := [(2, lv encG l), (7, swapTab x), (9, ptrV H.n), (11, s), (63, lv encG l), (64, .int .i64 l.length), (65, .int .i64 0)]) (H0 := H1) ⟨rfl, o, by simpa using g⟩ (by omega)
      (fun j e H' hj ⟨he, o, g⟩ => by
        subst he
        have hlt : (j : Int) < l.length := by omega
        obtain ⟨q, hq⟩ : ∃ q, l[j]? = some q := ⟨_, List.getElem?_eq_getElem hj⟩
        have i1 := fun H' => ixS_lvN encG_len l .i64 j q hq H'
        have h0 := g.get 0 rfl
        have hne : ¬ H.n = H'.n := by have := Heap.get_lt h0; omega
        have hx1 : Ext H' (H'.push ⟨encG q, 1, false⟩) := (Ext.refl H').push _
        have hg := fun H' => hget q.id H'
        have g := g.rest hx1
        have keep : refG b rs q = q → (∃ e' H'', swashlaw16_SwapRuns_l1 k (R (T k)) [(2, lv encG l), (7, swapTab x), (9, ptrV H.n), (11, s), (63, lv encG l), (64, .int .i64 l.length), (65, .int .i64 j)] H' = .ok (.normal, e') (H'.push ⟨encG q, 1, false⟩) ∧ H'' = H'.push ⟨encG q, 1, false⟩ ∧
            e' = [(2, lv encG l), (7, swapTab x), (9, ptrV H.n), (11, s), (63, lv encG l), (64, .int .i64 l.length), (65, .int .i64 ((j + 1 : Nat) : Int))]) →
            (∃ e' H'', swashlaw16_SwapRuns_l1 k (R (T k)) [(2, lv encG l), (7, swapTab x), (9, ptrV H.n), (11, s), (63, lv encG l), (64, .int .i64 l.length), (65, .int .i64 j)] H' = .ok (.normal, e') H'' ∧ e' = [(2, lv encG l), (7, swapTab x), (9, ptrV H.n), (11, s), (63, lv encG l), (64, .int .i64 l.length), (65, .int .i64 ((j + 1 : Nat) : Int))] ∧ ∃ o, Star H H'' [itBlk H.n ⟨[lv encB b, lv encRP rs], 1, false⟩, itRow o 2 s encG ((l.take (j + 1)).map (refG b rs) ++ l.drop (j + 1))]) :=
          fun hk ⟨e', H'', h1, h2, h3⟩ => ⟨e', _, h1, h3, o, by rw [← map_keep hq hk]; exact g⟩
        cases hgq : refGetS b rs q.id with
        | none =>
          rw [hgq] at hg
          refine .inl (keep (by unfold refG; rw [hgq]; split <;> rfl) ⟨_, _, ?_, rfl, rfl⟩)
          rw [swashlaw16_SwapRuns_l1_eq]
          simp -implicitDefEqProofs (disch := omega) [hlt, i1, h0, hne, hg, swashlaw16_SwapRuns_j2_eq]
        | some n =>
          rw [hgq] at hg
          by_cases hid : q.id = 65535
          · refine .inl (keep (by unfold refG; rw [if_pos hid]) ⟨_, _, ?_, rfl, rfl⟩)
            obtain ⟨qi, qc⟩ := q
            dsimp only at hid hg
            subst hid
            rw [swashlaw16_SwapRuns_l1_eq]
            simp -implicitDefEqProofs (disch := omega) [hlt, i1, h0, hne, hg, swashlaw16_SwapRuns_j2_eq]
          · have hid' : (q.id == 65535) = false := by simpa using hid
            obtain ⟨c, hc, hgc, i2⟩ := g.ix 1 rfl .i64 j (by simp; omega)
            subst hc
            obtain ⟨H3, e3, g3, _⟩ := g.stRow 1 rfl encG_len (j := j) (c := 0) (n := 1) (⟨n, q.cl⟩ : Gl) (v := .int .i64 n) (map_at hq) rfl rfl (by decide) rfl
            rw [Nat.add_zero] at e3
            have e0 : stR 2 (.pointer (some ⟨H'.n, 0, none⟩)) (.agg #[.int .i64 q.id, .int .i64 q.cl]) (H'.push ⟨[.int .i64 0, .int .i64 0], 1, false⟩) = .ok undef (H'.push ⟨encG q, 1, false⟩) := by simp
            refine .inl ⟨_, H3, ?_, rfl, some c, ?_⟩
            · rw [swashlaw16_SwapRuns_l1_eq]
              simp -implicitDefEqProofs (disch := omega) [-stR_ptr, e0, hlt, i1, h0, hne, hg, hid', bne, i2, e3, swashlaw16_SwapRuns_j1_eq]
            · rw [← map_step hq, show refG b rs q = ⟨n, q.cl⟩ by unfold refG; rw [if_neg hid, hgq]]
              exact g3)
      (fun e H' ⟨he, o, g⟩ => by
        subst he
        refine ⟨.exit 0, _, H', ?_, by simp, rfl, rfl, o, by simpa using g⟩
        rw [swashlaw16_SwapRuns_l1_eq]
        simp -implicitDefEqProofs)
    obtain ⟨p3, o3, H3, e3, g⟩ := lineOf_star k g (Sl.lv H2 2 l) (by omega)
    obtain ⟨H4, e4, g⟩ := swapRun_star k g 2 rfl (by omega) x hok.2.1 hok.2.2 hpl
    have e5 := lineGlyphs_run k hklt g 2 rfl (by simp; omega)
    rw [hsw] at e5
    have e6 := Same_run k (Rd.lv encG_len H4 (l.map (refG b rs))) ((g.row 1 rfl).rd encG_len) (by simp; omega) (by simp; omega)
    refine nrm_gc ⟨H4, ?_, g.ext⟩ (.bool _)
    simp -implicitDefEqProofs (disch := omega) [swashlaw16_SwapRuns, hs, hb1, c1, hrd, c2, c3, hrr, bne, e1, hr, swashlaw16_SwapRuns_l1k_x0, e3, e4, e5, e6]

theorem SwapGone_run (b : List Int) (hb : Byt b) (l : List Gl) : R (T F.swashlaw16_speaks) F.swashlaw16_SwapGone [lv encB b, lv encG l] Heap.empty = .ok (.bool true) Heap.empty := by
  generalize hk : F.swashlaw16_speaks = k
  have hs := speaks16_run k (by subst hk; rfl)
  have hklt : k < 1000000 := by subst hk; decide
  rw [swashlaw16_SwapGone_R]
  generalize Heap.empty = H
  have hb1 := fun H' => big16_run k b l H'
  by_cases c1 : b.length > 600 ∨ l.length > 60
  · refine nrm_gc ⟨H, ?_, Ext.refl H⟩ (.bool _)
    simp -implicitDefEqProofs (disch := omega) [swashlaw16_SwapGone, hs, hb1, c1]
  have hrd := fun H' => swapRead_run k (H := H') (Sl.lv H' 1 b) hb 40 (by omega)
  unfold lookO lookN at hrd
  rw [show badS 40 2 = false from rfl] at hrd
  have hrr := fun H' => read06_run k b hb 40 2 (by omega) (.inl rfl) (by omega) H'
  have hlr := look_ref hb (show (1 : Int) ≤ 40 by omega) (by omega) (.inl rfl : (2 : Int) = 2 ∨ (2 : Int) = 4)
  cases h : lookS b 40 2 with
  | none =>
    rw [hlr.2 h] at hrr
    rw [h] at hrd
    simp [swapV, tabRO] at hrd hrr
    refine nrm_gc ⟨_, ?_, (Ext.refl H).push ⟨[lv encB [], lv encRP []], 1, false⟩⟩ (.bool _)
    simp -implicitDefEqProofs (disch := omega) [swashlaw16_SwapGone, hs, hb1, c1, hrd, hrr]
  | some x =>
    obtain ⟨rs, hrs, hrel⟩ := hlr.1 x h
    rw [hrs] at hrr
    rw [h] at hrd
    simp [swapV, tabRO] at hrd hrr
    have hok := lookS_ok hb (by omega) (by omega) (.inl rfl) h
    have hpl := lookS_len hb h
    have hrok := refRead_ok hb (by omega) (.inl rfl) hrs
    have hrl := refRead_len hb (by omega) (.inl rfl) h hrs
    have hget := fun id H' => get06_run k b hb rs hrok hrl (by omega) id H'
    have hsw : l.map (swapG x.2) = l.map (refG b rs) := List.map_congr_left fun g _ => swapG_ref hrel hok.2.1 hok.2.2 g
    have g := (Star.nil H).push ⟨[lv encB b, lv encRP rs], 1, false⟩
    obtain ⟨p3, o3, H3, e3, g⟩ := lineOf_star k g (Sl.lv _ 2 l) (by omega)
    obtain ⟨H4, e4, g⟩ := swapRun_star k g 1 rfl (by omega) x hok.2.1 hok.2.2 hpl
    have e5 := lineGlyphs_run k hklt g 1 rfl (by simp; omega)
    rw [hsw] at e5
    obtain ⟨y, e', H5, hr, rfl, rfl, hx⟩ := loop_up (body := swashlaw16_SwapGone_l1 k (R (T k))) l.length
      (fun j e H' => e = [(7, ptrV H.n), (10, lv encG (l.map (refG b rs))), (54, lv encG l), (55, .int .i64 l.length), (56, .int .i64 j)] ∧ Ext H4 H')
      (fun y e H' => y = .exit 0 ∧ e = [(7, ptrV H.n), (10, lv encG (l.map (refG b rs))), (54, lv encG l), (55, .int .i64 l.length), (56, .int .i64 l.length), (57, .bool false)] ∧ Ext H4 H')
      (e0 := [(7, ptrV H.n), (10, lv encG (l.map (refG b rs))), (54, lv encG l), (55, .int .i64 l.length), (56, .int .i64 0)]) (H0 := H4) ⟨rfl, Ext.refl _⟩ (by omega)
      (fun j e H' hj ⟨he, hx⟩ => by
        subst he
        have hlt : (j : Int) < l.length := by omega
        obtain ⟨q, hq⟩ : ∃ q, l[j]? = some q := ⟨_, List.getElem?_eq_getElem hj⟩
        have hq2 : (l.map (refG b rs))[j]? = some (refG b rs q) := by rw [List.getElem?_map, hq]; rfl
        have i1 := fun H' => ixS_lvN encG_len l .i64 j q hq H'
        have i2 := fun H' => ixS_lvN encG_len (l.map (refG b rs)) .i64 j _ hq2 H'
        have h0 := hx.get (g.get 0 rfl)
        have hne : ¬ H.n = H'.n := by have := Heap.get_lt h0; omega
        have hg := fun H' => hget q.id H'
        have hx1 : Ext H' (H'.push ⟨encG q, 1, false⟩) := (Ext.refl H').push _
        refine .inl ⟨_, H'.push ⟨encG q, 1, false⟩, ?_, rfl, hx.trans hx1⟩
        rw [swashlaw16_SwapGone_l1_eq]
        cases hgq : refGetS b rs q.id with
        | none =>
          rw [hgq] at hg
          have hk : refG b rs q = q := by unfold refG; rw [hgq]; split <;> rfl
          rw [hk] at i2
          by_cases hid : q.id = 65535
          · obtain ⟨qi, qc⟩ := q
            dsimp only at hid hg
            subst hid
            simp -implicitDefEqProofs (disch := omega) [hlt, i1, i2, h0, hne, hg, bne]
          · have hid' : (q.id == 65535) = false := by simpa using hid
            simp -implicitDefEqProofs (disch := omega) [hlt, i1, i2, h0, hne, hg, hid', bne]
        | some n =>
          rw [hgq] at hg
          by_cases hid : q.id = 65535
          · have hk : refG b rs q = q := by unfold refG; rw [if_pos hid]
            rw [hk] at i2
            obtain ⟨qi, qc⟩ := q
            dsimp only at hid hg
            subst hid
            simp -implicitDefEqProofs (disch := omega) [hlt, i1, i2, h0, hne, hg, bne]
          · have hid' : (q.id == 65535) = false := by simpa using hid
            have hk : refG b rs q = ⟨n, q.cl⟩ := by unfold refG; rw [if_neg hid, hgq]
            rw [hk] at i2
            simp -implicitDefEqProofs (disch := omega) [hlt, i1, i2, h0, hne, hg, hid', bne])
      (fun e H' ⟨he, hx⟩ => by
        subst he
        refine ⟨.exit 0, _, H', ?_, by simp, rfl, rfl, hx⟩
        rw [swashlaw16_SwapGone_l1_eq]
        simp -implicitDefEqProofs)
    refine nrm_gc ⟨H5, ?_, g.ext.trans hx⟩ (.bool _)
    simp -implicitDefEqProofs (disch := omega) [swashlaw16_SwapGone, hs, hb1, c1, hrd, hrr, bne, e3, e4, e5, hr, swashlaw16_SwapGone_l1k_x0]

theorem SwapRuns_args (vs : List Value) (h : ArgsLay [.one (.slice [.int .u8]), .one (.int .i64), .one (.slice [.int .i64, .int .i64])] vs) : ∃ H', R (T F.swashlaw16_speaks) F.swashlaw16_SwapRuns vs Heap.empty = .ok (.bool true) H' := by
  obtain ⟨v1, _, rfl, h1, h⟩ := h.head
  obtain ⟨v2, _, rfl, h2, h⟩ := h.head
  obtain ⟨v3, _, rfl, h3, h⟩ := h.head
  obtain rfl := h.done
  obtain ⟨b, rfl, hb⟩ := arg_B h1
  obtain ⟨n, rfl, hn⟩ := arg_i h2
  obtain ⟨l, rfl, _⟩ := arg_G h3
  exact ⟨_, SwapRuns_run b hb n (wf_i64 hn) l⟩
theorem SwapGone_args (vs : List Value) (h : ArgsLay [.one (.slice [.int .u8]), .one (.slice [.int .i64, .int .i64])] vs) : ∃ H', R (T F.swashlaw16_speaks) F.swashlaw16_SwapGone vs Heap.empty = .ok (.bool true) H' := by
  obtain ⟨v1, _, rfl, h1, h⟩ := h.head
  obtain ⟨v2, _, rfl, h2, h⟩ := h.head
  obtain rfl := h.done
  obtain ⟨b, rfl, hb⟩ := arg_B h1
  obtain ⟨l, rfl, _⟩ := arg_G h2
  exact ⟨_, SwapGone_run b hb l⟩
end Go.Sw
