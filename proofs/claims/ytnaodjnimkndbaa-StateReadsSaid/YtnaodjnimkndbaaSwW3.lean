/-
  Functions' forms, and what is proved of them, part 3.
-/
import Derived.Test.YtnaodjnimkndbaaSwW2
import Derived.Test.YtnaodjnimkndbaaSwCfg
import Derived.Test.YtnaodjnimkndbaaSwW1
import Derived.Test.YtnaodjnimkndbaaSwLib8
import Derived.Tactics
import Derived.Tactics2
import Derived.Defers
import Derived.Recover
import Derived.Laws.Pointers
import Derived.Eval
section
namespace Go.Sw
open Go.RowKit
theorem refNo {H : Heap} {r : Res Value} (h : r = .ok (.tuple #[.slice none 0 0, .bool false]) H) : nrm .fz H r = .ok (.tuple #[lv encRP [], .bool false]) H :=
  nrm_fz (L := []) h rfl (Ext.refl H) (parts_flat [] false).alive
theorem PartsAre.no : PartsAre none (.tuple #[lv encRP [], .bool false]) := ⟨[], rfl, fun x h => (by cases h), by simp⟩
theorem trim06_run (k : Nat) (b : List Int) (hb : Byt b) (i z : Int) (hz : z = 1 ∨ z = 2 ∨ z = 4) (hi : 0 ≤ i ∧ i ≤ 4) (hl : b.length < 2 ^ 31) (H : Heap) :
    ∃ v, R (T k) F.swashref06_trimmed [lv encB b, .int .i64 i, .int .i64 z] H = .ok v H ∧ PartsAre (refTrimS b i z) v := by
  have hU := fun j H' => refU_run k (H := H') (Sl.lv H' 1 b) hb j 2 (by omega) (by omega)
  have hR := fun n H' => refRows_run k b.length (i + 4) n z (by omega) (by omega) H'
  rw [swashref06_trimmed_R]
  unfold refTrimS
  cases h1 : uS b i 2 with
  | none =>
    refine ⟨_, refNo ?_, .no⟩
    have u1 := fun H' => hU i H'
    rw [h1] at u1
    have g2 := gU_two hb (i + 2)
    unfold gU at g2
    simp -implicitDefEqProofs (disch := omega) [swashref06_trimmed, u1, hU]
  | some f =>
    have u1 := fun H' => hU i H'
    rw [h1] at u1
    have hf := uS_two hb h1
    have hf' : ¬ f < 0 := by omega
    cases h2 : uS b (i + 2) 2 with
    | none =>
      refine ⟨_, refNo ?_, .no⟩
      have u2 := fun H' => hU (i + 2) H'
      rw [h2] at u2
      simp -implicitDefEqProofs (disch := omega) [swashref06_trimmed, u1, u2, hf']
    | some n =>
      have u2 := fun H' => hU (i + 2) H'
      rw [h2] at u2
      have hn := uS_two hb h2
      have hn' : ¬ n < 0 := by omega
      simp only [Option.bind_some, Option.getD_some] at u1 u2 ⊢
      by_cases h3 : f + n ≤ 65536
      · have h3' : ¬ f + n > 65536 := by omega
        cases h4 : rowsB b.length (i + 4) n z with
        | false =>
          rw [if_neg (by simp)]
          refine ⟨_, refNo ?_, .no⟩
          have hR4 := hR n
          rw [h4] at hR4
          simp -implicitDefEqProofs (disch := omega) [swashref06_trimmed, u1, u2, hf', hn', h3', hR4]
        | true =>
          rw [if_pos ⟨h3, rfl⟩]
          have hR4 := hR n
          rw [h4] at hR4
          by_cases h0 : n = 0
          · subst h0
            rw [if_pos rfl]
            have h3'' : ¬ 65536 < f := by omega
            refine ⟨.tuple #[lv encRP [], .bool true], nrm_fz (v := .tuple #[bareV, .bool true]) (H' := H) (L := []) ?_ rfl (Ext.refl H) (parts_flat [] true).alive, [], rfl, fun x h => (by injection h), by simp⟩
            simp -implicitDefEqProofs (disch := omega) [swashref06_trimmed, u1, u2, hf', h3'', hR4]
          · rw [if_neg h0]
            have h0' : (n == 0) = false := by simpa using h0
            obtain ⟨r, hr⟩ : ∃ r : RP, r = ⟨f, f + n - 1, i + 4, z, z⟩ := ⟨_, rfl⟩
            rw [← hr]
            have ho : Own H (H.push ⟨encRP r, 5, false⟩) 5 (.slice (some ⟨H.n, 0, none⟩) 1 1) encRP [r] := .inr ⟨H.n, rfl, by omega, get_push_eq _ _ _ rfl⟩
            obtain ⟨L, hfz⟩ := ho.freeze encRP_len (encRP_still _) 5
            refine ⟨.tuple #[lv encRP [r], .bool true], nrm_fz (v := .tuple #[.slice (some ⟨H.n, 0, none⟩) 1 1, .bool true]) (H' := H.push ⟨encRP r, 5, false⟩) ?_ (fz_tuple (l := [.slice (some ⟨H.n, 0, none⟩) 1 1, .bool true]) (mapF_cons hfz (mapF_one (L := []) rfl))) ((Ext.refl H).push _) (parts_flat [r] true).alive, [r], rfl, fun x h => (by injection h), by simp⟩
            subst hr
            simp -implicitDefEqProofs (disch := omega) [swashref06_trimmed, u1, u2, hf', hn', h3', hR4, h0']
      · rw [if_neg (fun h => h3 h.1)]
        have h3' : f + n > 65536 := by omega
        refine ⟨_, refNo ?_, .no⟩
        simp -implicitDefEqProofs (disch := omega) [swashref06_trimmed, u1, u2, hf', hn', h3']
theorem PartsAre.val {o : Option (List RP)} {v : Value} (h : PartsAre o v) : ∃ l ok, v = .tuple #[lv encRP l, .bool ok] ∧ o = (if ok then some l else none) ∧ l.length ≤ 65536 := by
  obtain ⟨l, rfl, h1, h2⟩ := h
  cases o with
  | none => exact ⟨l, false, rfl, rfl, h2⟩
  | some x => exact ⟨l, true, rfl, by simp [h1 x rfl], h2⟩
theorem PartsAre.pass {o : Option (List RP)} {l : List RP} {ok : Bool} (h : o = (if ok then some l else none)) (hl : l.length ≤ 65536) : PartsAre o (.tuple #[lv encRP l, .bool ok]) := by
  subst h
  cases ok with
  | true => exact ⟨l, rfl, fun x h => (by injection h), hl⟩
  | false => exact ⟨l, rfl, fun x h => (by cases h), hl⟩
theorem nrm_parts {H : Heap} {r : Res Value} {l : List RP} {ok : Bool} (h : r = .ok (.tuple #[lv encRP l, .bool ok]) H) : nrm .fz H r = .ok (.tuple #[lv encRP l, .bool ok]) H :=
  nrm_fz (L := []) h rfl (Ext.refl H) (parts_flat l ok).alive
theorem parts06_run (k : Nat) (b : List Int) (hb : Byt b) (g z : Int) (hg : 1 ≤ g ∧ g ≤ 65535) (hz : z = 2 ∨ z = 4) (hl : b.length < 2 ^ 31) (H : Heap) :
    ∃ v, R (T k) F.swashref06_parts [lv encB b, .int .i64 g, .int .i64 z] H = .ok v H ∧ PartsAre (refPartsS b g z (gU b 0 2)) v := by
  have hU := fun j H' => refU_run k (H := H') (Sl.lv H' 1 b) hb j 2 (by omega) (by omega)
  have hR := fun H' => refRows_run k b.length 2 g z (by omega) (by omega) H'
  rw [swashref06_parts_R]
  have hu0 : ∀ H', R (T k) F.swashref01_U [lv encB b, .int .i64 0, .int .i64 2] H' = .ok (.int .i64 (gU b 0 2)) H' := fun H' => hU 0 H'
  have hu2 : ∀ H', R (T k) F.swashref01_U [lv encB b, .int .i64 2, .int .i64 2] H' = .ok (.int .i64 (gU b 2 2)) H' := fun H' => hU 2 H'
  generalize gU b 0 2 = fmt at hu0 ⊢
  unfold refPartsS
  by_cases h0 : fmt = 0
  · subst h0
    rw [if_pos rfl]
    obtain ⟨r, hr⟩ : ∃ r : RP, r = ⟨0, g - 1, 2, z, z⟩ := ⟨_, rfl⟩
    rw [← hr]
    have ho : Own H (H.push ⟨encRP r, 5, false⟩) 5 (.slice (some ⟨H.n, 0, none⟩) 1 1) encRP [r] := .inr ⟨H.n, rfl, by omega, get_push_eq _ _ _ rfl⟩
    obtain ⟨L, hfz⟩ := ho.freeze encRP_len (encRP_still _) 5
    refine ⟨.tuple #[lv encRP [r], .bool (rowsB b.length 2 g z)], nrm_fz (v := .tuple #[.slice (some ⟨H.n, 0, none⟩) 1 1, .bool (rowsB b.length 2 g z)]) (H' := H.push ⟨encRP r, 5, false⟩) ?_ (fz_tuple (l := [.slice (some ⟨H.n, 0, none⟩) 1 1, .bool (rowsB b.length 2 g z)]) (mapF_cons hfz (mapF_one (L := []) rfl))) ((Ext.refl H).push _) (parts_flat [r] _).alive, .pass rfl (by simp)⟩
    subst hr
    simp -implicitDefEqProofs (disch := omega) [swashref06_parts, hu0, hR]
  rw [if_neg h0]
  have h0' : (fmt == 0) = false := by simpa using h0
  by_cases h2 : fmt = 2
  · subst h2
    rw [if_pos rfl]
    obtain ⟨v, e, hp⟩ := segs06_run k b hb z hz false hl H
    obtain ⟨l, ok, rfl, ho, hll⟩ := hp.val
    refine ⟨_, nrm_parts (l := l) (ok := ok) ?_, .pass ho hll⟩
    simp -implicitDefEqProofs (disch := omega) [swashref06_parts, hu0, e]
  rw [if_neg h2]
  have h2' : (fmt == 2) = false := by simpa using h2
  by_cases h4 : fmt = 4
  · subst h4
    rw [if_pos rfl]
    obtain ⟨v, e, hp⟩ := segs06_run k b hb z hz true hl H
    obtain ⟨l, ok, rfl, ho, hll⟩ := hp.val
    refine ⟨_, nrm_parts (l := l) (ok := ok) ?_, .pass ho hll⟩
    simp -implicitDefEqProofs (disch := omega) [swashref06_parts, hu0, e]
  rw [if_neg h4]
  have h4' : (fmt == 4) = false := by simpa using h4
  by_cases h6 : fmt = 6
  · subst h6
    rw [if_pos rfl]
    have hr5 := fun H' => rows05_run k b hb 2 (2 + z) 1 hl (by omega) (by omega) (by omega) (by omega) H'
    obtain ⟨ps, ok, zz, hrow, hps, hpl, hok⟩ : ∃ (ps : List Int) (ok : Bool) (zz : Int), rowsO b 2 (2 + z) 1 = .tuple #[lv encI ps, .int .i64 zz, .bool ok] ∧ (∀ p, p ∈ ps → 0 ≤ p ∧ p < 2 ^ 34) ∧
        ps.length < 65536 ∧ refOneS b z = (if ok then some (ps.map (oneR b z)) else none) := by
      unfold rowsO refOneS
      cases ht : takeS b 2 (2 + z) 1 with
      | none => exact ⟨[], false, 0, rfl, (fun p h => by cases h), by simp, rfl⟩
      | some rows =>
        obtain ⟨s, n, h1, h2, h3, h4, h5, h6⟩ := takeS_get ht
        have hs := uS_two hb h1
        have hn := uS_two hb h2
        rw [gU_some h1]
        refine ⟨posS 2 s rows.length, true, s, rfl, fun p hp => ?_, by simp; omega, by rw [Option.map_some]; rfl⟩
        obtain ⟨j, hj⟩ := List.getElem?_of_mem hp
        have hjl := (List.getElem?_eq_some_iff.1 hj).1
        rw [posS_len] at hjl
        rw [posS_get _ _ _ _ hjl] at hj
        injection hj with hj
        have h7 := Int.mul_nonneg hs.1 (show (0 : Int) ≤ (j : Int) by omega)
        have h8 : s * (j : Int) ≤ 65536 * 65536 := Int.mul_le_mul (by omega) (by omega) (by omega) (by omega)
        omega
    rw [hrow] at hr5
    rw [hok]
    obtain ⟨x, e', H1, hr, rfl, hx, a, s, rfl, ho⟩ := loop_up (body := swashref06_parts_l1 k (R (T k))) ps.length
      (fun j e H' => Ext H H' ∧ ∃ s, e = [(0, lv encB b), (2, .int .i64 z), (8, lv encI ps), (10, .bool ok), (11, s), (12, .int .i64 j)] ∧ Own H H' 5 s encRP ((ps.take j).map (oneR b z)))
      (fun x e H' => x = .exit 1 ∧ Ext H H' ∧ ∃ a s, e = [(0, lv encB b), (2, .int .i64 z), (8, lv encI ps), (10, .bool ok), (11, s), (12, a), (58, .bool false)] ∧ Own H H' 5 s encRP (ps.map (oneR b z)))
      (e0 := [(0, lv encB b), (2, .int .i64 z), (8, lv encI ps), (10, .bool ok), (11, bareV), (12, .int .i64 0)]) (H0 := H) ⟨Ext.refl H, _, rfl, Own.bare _ _ _⟩ (by omega)
      (fun j e H' hj ⟨hx, s, he, ho⟩ => by
        subst he
        have hlt : (j : Int) < ps.length := by omega
        obtain ⟨p, hp⟩ : ∃ p, ps[j]? = some p := ⟨_, List.getElem?_eq_getElem hj⟩
        have hpb := hps p (List.mem_of_getElem? hp)
        have i1 := fun H' => ixS_lvN encI_len ps .i64 j p hp H'
        have u0 : ∀ H', R (T k) F.swashref01_U [lv encB b, .int .i64 p, .int .i64 2] H' = .ok (.int .i64 (gU b p 2)) H' := fun H' => hU p H'
        obtain ⟨s2, H2, e2, o2, x2⟩ := ap1_own (bytes := 40) encRP_len ho hx (oneR b z p) (by simp; omega) (by decide)
        refine .inl ⟨_, H2, ?_, x2, s2, rfl, by rw [take_snoc hp, List.map_append]; exact o2⟩
        rw [swashref06_parts_l1_eq]
        unfold encRP oneR at e2
        simp -implicitDefEqProofs (disch := omega) [hlt, i1, u0, e2])
      (fun e H' ⟨hx, s, he, ho⟩ => by
        subst he
        refine ⟨.exit 1, _, H', ?_, by simp, rfl, hx, .int .i64 ps.length, s, rfl, by rw [List.take_length] at ho; exact ho⟩
        rw [swashref06_parts_l1_eq]
        simp -implicitDefEqProofs)
    obtain ⟨L, hf⟩ := ho.freeze encRP_len (encRP_still _) 5
    refine ⟨.tuple #[lv encRP (ps.map (oneR b z)), .bool ok], nrm_fz (v := .tuple #[s, .bool ok]) (H' := H1) ?_ (fz_tuple (l := [s, .bool ok]) (mapF_cons hf (mapF_one (L := []) rfl))) hx (parts_flat _ _).alive, .pass rfl (by simp; omega)⟩
    rcases hz with rfl | rfl <;> simp -implicitDefEqProofs (disch := omega) at hr5 <;> simp -implicitDefEqProofs (disch := omega) [swashref06_parts, hu0, hr5, hr, swashref06_parts_l1k_x1]
  rw [if_neg h6]
  have h6' : (fmt == 6) = false := by simpa using h6
  by_cases h8 : fmt = 8
  · subst h8
    rw [if_pos rfl]
    obtain ⟨v, e, hp⟩ := trim06_run k b hb 2 z (by omega) (by omega) hl H
    obtain ⟨l, ok, rfl, ho, hll⟩ := hp.val
    refine ⟨_, nrm_parts (l := l) (ok := ok) ?_, .pass ho hll⟩
    simp -implicitDefEqProofs (disch := omega) [swashref06_parts, hu0, e]
  rw [if_neg h8]
  have h8' : (fmt == 8) = false := by simpa using h8
  by_cases h10 : fmt = 10
  · subst h10
    rw [if_pos rfl]
    have hno : ¬ (gU b 2 2 = 1 ∨ gU b 2 2 = 2 ∨ gU b 2 2 = 4) → swashref06_parts k (R (T k)) (lv encB b) (.int .i64 g) (.int .i64 z) H = .ok (.tuple #[.slice none 0 0, .bool false]) H := fun hu => by
      have u1 : (gU b 2 2 == 1) = false := by simpa using fun h => hu (.inl h)
      have u2 : (gU b 2 2 == 2) = false := by simpa using fun h => hu (.inr (.inl h))
      have u4 : (gU b 2 2 == 4) = false := by simpa using fun h => hu (.inr (.inr h))
      simp -implicitDefEqProofs (disch := omega) [swashref06_parts, hu0, hu2, bne, u1, u2, u4]
    cases h : uS b 2 2 with
    | none =>
      have hg2 : gU b 2 2 = -1 := by unfold gU; rw [h]; rfl
      exact ⟨_, refNo (hno (by rw [hg2]; decide)), .no⟩
    | some u =>
      have hg2 := gU_some h
      rw [hg2] at hu2 hno
      simp only [Option.bind_some]
      by_cases hu : u = 1 ∨ u = 2 ∨ u = 4
      · rw [if_pos hu]
        obtain ⟨v, e, hp⟩ := trim06_run k b hb 4 u hu (by omega) hl H
        obtain ⟨l, ok, rfl, ho, hll⟩ := hp.val
        refine ⟨_, nrm_parts (l := l) (ok := ok) ?_, .pass ho hll⟩
        rcases hu with rfl | rfl | rfl <;> simp -implicitDefEqProofs (disch := omega) [swashref06_parts, hu0, hu2, bne, e]
      · rw [if_neg hu]
        exact ⟨_, refNo (hno hu), .no⟩
  rw [if_neg h10]
  have h10' : (fmt == 10) = false := by simpa using h10
  refine ⟨_, refNo ?_, .no⟩
  simp -implicitDefEqProofs (disch := omega) [swashref06_parts, hu0, h0', h2', h4', h6', h8', h10']
end Go.Sw
end
section
namespace Go.Sw
open Go.RowKit
theorem goodR_snoc (r : RP) : ∀ a : List RP, goodR (a ++ [r]) = (goodR a && decide (r.first ≤ r.last) && match a.getLast? with | some q => decide (q.last < r.first) | none => true)
  | [] => by simp [goodR]
  | [x] => by
    simp only [List.singleton_append, goodR, List.getLast?_singleton]
    cases decide (x.first ≤ x.last) <;> cases decide (x.last < r.first) <;> cases decide (r.first ≤ r.last) <;> rfl
  | x :: y :: t => by
    have ih := goodR_snoc r (y :: t)
    simp only [List.cons_append] at ih ⊢
    simp only [goodR, ih, List.getLast?_cons_cons]
    simp only [Bool.and_assoc]
abbrev tabRV (b : List Int) (rs : List RP) : Value := .agg #[lv encB b, lv encRP rs]
def tabRO (b : List Int) (o : Option (List RP)) : Value := match o with | some rs => tabRV b rs | none => tabRV [] []
theorem Flat.tabRV (b : List Int) (rs : List RP) : Flat (tabRV b rs) := .aggL (.cons (Flat.B _) (.cons (Flat.RPs _) .nil))
theorem tabRO_flat (b : List Int) (o : Option (List RP)) : Flat (tabRO b o) := by
  unfold tabRO
  split
  · exact Flat.tabRV _ _
  · exact Flat.tabRV _ _
theorem read06_run (k : Nat) (b : List Int) (hb : Byt b) (g z : Int) (hg : 1 ≤ g ∧ g ≤ 65535) (hz : z = 2 ∨ z = 4) (hl : b.length < 2 ^ 31) (H : Heap) :
    R (T k) F.swashref06_Read [lv encB b, .int .i64 g, .int .i64 z] H = .ok (.tuple #[tabRO b (refReadS b g z), .bool (refReadS b g z).isSome]) H := by
  have hx0 : Ext H (H.push ⟨[.slice none 0 0, .slice none 0 0], 1, false⟩) := (Ext.refl H).push _
  obtain ⟨v, e, hp⟩ := parts06_run k b hb g z hg hz hl (H.push ⟨[.slice none 0 0, .slice none 0 0], 1, false⟩)
  obtain ⟨l, ok, rfl, ho, hll⟩ := hp.val
  rw [swashref06_Read_R]
  obtain ⟨x, e', H1, hr, rfl, rfl, rfl⟩ := loop_up (body := swashref06_Read_l1 k (R (T k))) l.length
    (fun j e H' => H' = H.push ⟨[.slice none 0 0, .slice none 0 0], 1, false⟩ ∧ e = [(0, lv encB b), (6, .pointer (some ⟨H.n, 0, none⟩)), (8, lv encRP l), (9, .bool (ok && goodR (l.take j))), (10, .int .i64 j)])
    (fun x e H' => H' = H.push ⟨[.slice none 0 0, .slice none 0 0], 1, false⟩ ∧ x = .exit 0 ∧ e = [(0, lv encB b), (6, .pointer (some ⟨H.n, 0, none⟩)), (8, lv encRP l), (9, .bool (ok && goodR l)), (10, .int .i64 l.length), (21, .bool false)])
    (e0 := [(0, lv encB b), (6, .pointer (some ⟨H.n, 0, none⟩)), (8, lv encRP l), (9, .bool ok), (10, .int .i64 0)]) (H0 := H.push ⟨[.slice none 0 0, .slice none 0 0], 1, false⟩) ⟨rfl, by simp [goodR]⟩ (by omega)
    (fun j e H' hj ⟨hH, he⟩ => by
      subst he hH
      have hlt : (j : Int) < l.length := by omega
      obtain ⟨r, hr⟩ : ∃ r, l[j]? = some r := ⟨_, List.getElem?_eq_getElem hj⟩
      have i1 := fun H' => ixS_lvN encRP_len l .i64 j r hr H'
      refine .inl ⟨_, _, ?_, rfl, rfl⟩
      rw [swashref06_Read_l1_eq, take_snoc hr, goodR_snoc]
      by_cases h1 : r.last < r.first
      · have h1' : ¬ r.first ≤ r.last := by omega
        simp -implicitDefEqProofs (disch := omega) [hlt, i1, h1, h1', swashref06_Read_j1_eq]
      · have h1' : r.first ≤ r.last := by omega
        cases j with
        | zero =>
          simp -implicitDefEqProofs (disch := omega) at i1 hlt
          simp -implicitDefEqProofs (disch := omega) [hlt, i1, h1, h1', swashref06_Read_j2_eq, goodR]
        | succ j =>
          obtain ⟨q, hq⟩ : ∃ q, l[j]? = some q := ⟨_, List.getElem?_eq_getElem (by omega)⟩
          have i2 := fun H' => ixS_lvN encRP_len l .i64 j q hq H'
          have hlast : (l.take (j + 1)).getLast? = some q := by rw [take_snoc hq]; simp
          rw [hlast]
          have hj0 : (0 : Int) < (j : Int) + 1 := by omega
          simp -implicitDefEqProofs (disch := omega) at i1 hlt
          by_cases h2 : r.first ≤ q.last
          · have h2' : ¬ q.last < r.first := by omega
            simp -implicitDefEqProofs (disch := omega) [hlt, i1, i2, h1, h1', h2, h2', hj0, swashref06_Read_j1_eq]
          · have h2' : q.last < r.first := by omega
            simp -implicitDefEqProofs (disch := omega) [hlt, i1, i2, h1, h1', h2, h2', hj0, swashref06_Read_j2_eq])
    (fun e H' ⟨hH, he⟩ => by
      subst he hH
      refine ⟨.exit 0, _, _, ?_, by simp, rfl, rfl, rfl⟩
      rw [swashref06_Read_l1_eq, List.take_length]
      simp -implicitDefEqProofs)
  have hread : refReadS b g z = if (ok && goodR l) = true then some l else none := by
    unfold refReadS
    rw [ho]
    cases ok <;> simp
  rw [hread]
  cases hgood : (ok && goodR l) with
  | false =>
    rw [hgood] at hr
    refine nrm_fz (v := .tuple #[.agg #[.slice none 0 0, .slice none 0 0], .bool false]) (L := []) (H' := H.push ⟨[.slice none 0 0, .slice none 0 0], 1, false⟩) ?_ rfl hx0 (Flat.tupleL (.cons (tabRO_flat b none) (.cons (.bool _) .nil))).alive
    simp -implicitDefEqProofs [swashref06_Read, e, hr, swashref06_Read_l1k_x0]
  | true =>
    rw [hgood] at hr
    refine nrm_fz (v := .tuple #[tabRV b l, .bool true]) (L := []) (H' := H.push ⟨[lv encB b, lv encRP l], 1, false⟩) ?_ rfl ((Ext.refl H).push _) (Flat.tupleL (.cons (Flat.tabRV b l) (.cons (.bool _) .nil))).alive
    simp -implicitDefEqProofs [swashref06_Read, e, hr, swashref06_Read_l1k_x0]
def RP.ok (r : RP) : Prop := -1 ≤ r.first ∧ r.first ≤ 65536 ∧ -1 ≤ r.last ∧ r.last ≤ 65536 ∧ -1 ≤ r.pos ∧ r.pos < 2 ^ 35 ∧ 0 ≤ r.step ∧ r.step ≤ 4 ∧ 0 ≤ r.size ∧ r.size ≤ 4
theorem posS_bound {b : List Int} (hb : Byt b) {i need : Int} {keys : Nat} {rows : List (List Int)} (h : takeS b i need keys = some rows) (hi : 0 ≤ i ∧ i ≤ 65536) : ∀ p, p ∈ posS i (gU b i 2) rows.length → 0 ≤ p ∧ p < 2 ^ 34 := by
  obtain ⟨s, n, h1, h2, h3, h4, h5, h6⟩ := takeS_get h
  have hs := uS_two hb h1
  have hn := uS_two hb h2
  rw [gU_some h1]
  intro p hp
  obtain ⟨j, hj⟩ := List.getElem?_of_mem hp
  have hjl := (List.getElem?_eq_some_iff.1 hj).1
  rw [posS_len] at hjl
  rw [posS_get _ _ _ _ hjl] at hj
  injection hj with hj
  have h7 := Int.mul_nonneg hs.1 (show (0 : Int) ≤ (j : Int) by omega)
  have h8 : s * (j : Int) ≤ 65536 * 65536 := Int.mul_le_mul (by omega) (by omega) (by omega) (by omega)
  omega
theorem refTrim_ok {b : List Int} (hb : Byt b) {i z : Int} (hi : 0 ≤ i ∧ i ≤ 4) (hz : z = 1 ∨ z = 2 ∨ z = 4) {rs : List RP} (h : refTrimS b i z = some rs) : ∀ r, r ∈ rs → r.ok := by
  unfold refTrimS at h
  obtain ⟨f, hf, h⟩ := Option.bind_eq_some_iff.1 h
  obtain ⟨n, hn, h⟩ := Option.bind_eq_some_iff.1 h
  have hf := uS_two hb hf
  have hn := uS_two hb hn
  split at h
  · rename_i hc
    injection h with h
    subst h
    intro r hr
    split at hr
    · cases hr
    · rw [List.mem_singleton] at hr
      subst hr
      refine ⟨?_, ?_, ?_, ?_, ?_, ?_, ?_, ?_, ?_, ?_⟩ <;> dsimp only <;> omega
  · cases h
theorem refParts_ok {b : List Int} (hb : Byt b) {g z fmt : Int} (hg : 1 ≤ g ∧ g ≤ 65535) (hz : z = 2 ∨ z = 4) {rs : List RP} (h : refPartsS b g z fmt = some rs) : ∀ r, r ∈ rs → r.ok := by
  have seg : ∀ each rs, refSegS b z each = some rs → ∀ r, r ∈ rs → r.ok := fun each rs h => by
    unfold refSegS at h
    obtain ⟨rows, h1, h2⟩ := Option.bind_eq_some_iff.1 h
    refine mapO_all h2 fun p r hp hr => ?_
    have hpb := posS_bound hb h1 (by omega) p hp
    have g0 := gU_two hb p
    have g2 := gU_two hb (p + 2)
    have g4 := gU_two hb (p + 4)
    unfold segR at hr
    split at hr
    · split at hr
      · injection hr with hr
        subst hr
        refine ⟨?_, ?_, ?_, ?_, ?_, ?_, ?_, ?_, ?_, ?_⟩ <;> dsimp only <;> omega
      · cases hr
    · injection hr with hr
      subst hr
      refine ⟨?_, ?_, ?_, ?_, ?_, ?_, ?_, ?_, ?_, ?_⟩ <;> dsimp only <;> omega
  unfold refPartsS at h
  split at h
  · split at h
    · injection h with h
      subst h
      intro r hr
      rw [List.mem_singleton] at hr
      subst hr
      refine ⟨?_, ?_, ?_, ?_, ?_, ?_, ?_, ?_, ?_, ?_⟩ <;> dsimp only <;> omega
    · cases h
  split at h
  · exact seg _ _ h
  split at h
  · exact seg _ _ h
  split at h
  · unfold refOneS at h
    obtain ⟨rows, h1, rfl⟩ := Option.map_eq_some_iff.1 h
    intro r hr
    obtain ⟨p, hp, rfl⟩ := List.mem_map.1 hr
    have hpb := posS_bound hb h1 (by omega) p hp
    have g0 := gU_two hb p
    unfold oneR
    refine ⟨?_, ?_, ?_, ?_, ?_, ?_, ?_, ?_, ?_, ?_⟩ <;> dsimp only <;> omega
  split at h
  · exact refTrim_ok hb (by omega) (by omega) h
  split at h
  · obtain ⟨u, _, h⟩ := Option.bind_eq_some_iff.1 h
    split at h
    · rename_i hu
      exact refTrim_ok hb (by omega) hu h
    · cases h
  · cases h
theorem refRead_ok {b : List Int} (hb : Byt b) {g z : Int} (hg : 1 ≤ g ∧ g ≤ 65535) (hz : z = 2 ∨ z = 4) {rs : List RP} (h : refReadS b g z = some rs) : ∀ r, r ∈ rs → r.ok := by
  unfold refReadS at h
  obtain ⟨qs, h1, h⟩ := Option.bind_eq_some_iff.1 h
  split at h
  · injection h with h
    subst h
    exact refParts_ok hb hg hz h1
  · cases h
theorem refRead_len {b : List Int} {g z : Int} {rs : List RP} (hb : Byt b) (hg : 1 ≤ g ∧ g ≤ 65535) (hz : z = 2 ∨ z = 4) {x : Int × List Pt} (hx : lookS b g z = some x) (h : refReadS b g z = some rs) : rs.length < 2 ^ 31 := by
  obtain ⟨rs', h1, h2⟩ := (look_ref hb hg.1 hg.2 hz).1 x hx
  rw [h] at h1
  injection h1 with h1
  subst h1
  have : ∀ (ps : List Pt) (rs : List RP), Rel b ps rs → rs.length = ps.length := by
    intro ps
    induction ps with
    | nil => intro rs h; cases rs with | nil => rfl | cons _ _ => cases h
    | cons p ps ih => intro rs h; cases rs with | nil => cases h | cons r rs => simp [ih rs h.2]
  rw [this _ _ h2]
  exact lookS_len hb hx
theorem get06_run (k : Nat) (b : List Int) (hb : Byt b) (rs : List RP) (hok : ∀ r, r ∈ rs → r.ok) (hrl : rs.length < 2 ^ 31) (hl : b.length < 2 ^ 31) (id : Int) (H : Heap) :
    R (T k) F.swashref06_Get [tabRV b rs, .int .i64 id] H = .ok (.tuple #[.int .i64 ((refGetS b rs id).getD 0), .bool (refGetS b rs id).isSome]) H := by
  rw [swashref06_Get_R]
  obtain ⟨B, hB⟩ : ∃ B : Blk, B = ⟨[lv encB b, lv encRP rs], 1, false⟩ := ⟨_, rfl⟩
  have hx0 : Ext H (H.push B) := (Ext.refl H).push _
  obtain ⟨x, e', H1, hr, hx, hq⟩ := loop_up (body := swashref06_Get_l1 k (R (T k))) rs.length
    (fun j e H' => e = [(1, .int .i64 id), (2, .pointer (some ⟨H.n, 0, none⟩)), (6, .int .i64 j)] ∧ Ext (H.push B) H' ∧ refGetS b rs id = refGetS b (rs.drop j) id)
    (fun x e H' => Ext H H' ∧ ((x = .ret ∧ ∃ n, e = [(4, .int .i64 n), (5, .bool true)] ∧ refGetS b rs id = some n) ∨ (x = .exit 0 ∧ (∃ a c, e = [(1, .int .i64 id), (2, .pointer (some ⟨H.n, 0, none⟩)), (6, a), (12, c)]) ∧ refGetS b rs id = none)))
    (e0 := [(1, .int .i64 id), (2, .pointer (some ⟨H.n, 0, none⟩)), (6, .int .i64 0)]) (H0 := H.push B) ⟨rfl, Ext.refl _, rfl⟩ (by omega)
    (fun j e H' hj ⟨he, hx, hg⟩ => by
      subst he
      have hlt : (j : Int) < rs.length := by omega
      obtain ⟨r, hr⟩ : ∃ r, rs[j]? = some r := ⟨_, List.getElem?_eq_getElem hj⟩
      have hrok := hok r (List.mem_of_getElem? hr)
      obtain ⟨o1, o2, o3, o4, o5, o6, o7, o8, o9, o10⟩ := hrok
      have i1 := fun H' => ixS_lvN encRP_len rs .i64 j r hr H'
      have hget : H'.get H.n = some ⟨[lv encB b, lv encRP rs], 1, false⟩ := hx.get (by rw [get_push_eq _ _ _ rfl, hB])
      have hne : ¬ H.n = H'.n := by have := Heap.get_lt hget; omega
      have hx2 : Ext H' (H'.push ⟨encRP r, 1, false⟩) := (Ext.refl H').push _
      have hdrop : rs.drop j = r :: rs.drop (j + 1) := by
        obtain ⟨h1, h2⟩ := List.getElem?_eq_some_iff.1 hr
        rw [List.drop_eq_getElem_cons h1, h2]
      rw [hdrop] at hg
      unfold refGetS at hg
      rw [List.find?_cons] at hg
      by_cases h1 : r.first ≤ id
      · by_cases h2 : id ≤ r.last
        · rw [decide_eq_true (show r.first ≤ id ∧ id ≤ r.last from ⟨h1, h2⟩)] at hg
          dsimp only at hg
          have hm0 : 0 ≤ (id - r.first) * r.step := Int.mul_nonneg (by omega) o7
          have hm1 : (id - r.first) * r.step ≤ 65540 * 4 := Int.mul_le_mul (by omega) (by omega) (by omega) (by omega)
          have hu := fun H' => refU_run k (H := H') (Sl.lv H' 1 b) hb (r.pos + (id - r.first) * r.step) r.size (by omega) (by omega)
          refine .inr ⟨.ret, _, H'.push ⟨encRP r, 1, false⟩, ?_, by simp, hx0.trans (hx.trans hx2), .inl ⟨rfl, gU b (r.pos + (id - r.first) * r.step) r.size, rfl, hg⟩⟩
          rw [swashref06_Get_l1_eq]
          unfold gU
          simp -implicitDefEqProofs (disch := omega) [hlt, i1, hget, hne, h1, h2, hu]
        · rw [decide_eq_false (fun h => h2 h.2)] at hg
          refine .inl ⟨_, H'.push ⟨encRP r, 1, false⟩, ?_, rfl, hx.trans hx2, hg⟩
          rw [swashref06_Get_l1_eq]
          simp -implicitDefEqProofs (disch := omega) [hlt, i1, hget, hne, h1, h2]
      · rw [decide_eq_false (fun h => h1 h.1)] at hg
        refine .inl ⟨_, H'.push ⟨encRP r, 1, false⟩, ?_, rfl, hx.trans hx2, hg⟩
        rw [swashref06_Get_l1_eq]
        simp -implicitDefEqProofs (disch := omega) [hlt, i1, hget, hne, h1])
    (fun e H' ⟨he, hx, hg⟩ => by
      subst he
      have hget : H'.get H.n = some ⟨[lv encB b, lv encRP rs], 1, false⟩ := hx.get (by rw [get_push_eq _ _ _ rfl, hB])
      refine ⟨.exit 0, _, H', ?_, by simp, hx0.trans hx, .inr ⟨rfl, ⟨.int .i64 rs.length, .bool false, rfl⟩, by rw [hg, List.drop_length]; rfl⟩⟩
      rw [swashref06_Get_l1_eq]
      simp -implicitDefEqProofs [hget])
  rw [hB] at hr
  rcases hq with ⟨rfl, n, rfl, hg⟩ | ⟨rfl, ⟨a, c, rfl⟩, hg⟩
  · rw [hg]
    refine nrm_gc ⟨H1, ?_, hx⟩ (Flat.tupleL (.cons (.int _ _) (.cons (.bool _) .nil))).alive
    simp -implicitDefEqProofs [swashref06_Get, hr, swashref06_Get_l1k_r]
  · rw [hg]
    refine nrm_gc ⟨H1, ?_, hx⟩ (Flat.tupleL (.cons (.int _ _) (.cons (.bool _) .nil))).alive
    simp -implicitDefEqProofs [swashref06_Get, hr, swashref06_Get_l1k_x0]
end Go.Sw
end
section
namespace Go.Sw
open Go.RowKit
theorem restS_iff {b rv : List Int} {j : Int} : restS b j = some rv ↔ (0 ≤ j ∧ j ≤ b.length) ∧ rv = b.drop j.toNat := by
  unfold restS
  split
  · rename_i h
    exact ⟨fun e => by injection e with e; exact ⟨h, e.symm⟩, fun e => by rw [e.2]⟩
  · rename_i h
    exact ⟨fun e => (by cases e), fun e => absurd e.1 h⟩
theorem restS_length {b rv : List Int} {j : Int} (h : restS b j = some rv) : (rv.length : Int) = b.length - j := by
  obtain ⟨h1, rfl⟩ := restS_iff.1 h
  simp
  omega
theorem uS_rest {b rv : List Int} {j : Int} (h : restS b j = some rv) {x : Int} (hx : 0 ≤ x) (z : Int) : uS rv x z = uS b (j + x) z := by
  have hl := restS_length h
  obtain ⟨h1, rfl⟩ := restS_iff.1 h
  unfold uS pieceS
  by_cases hc : 0 ≤ z ∧ x ≤ b.length - j ∧ z ≤ b.length - j - x
  · rw [if_pos (by omega), if_pos (by omega), List.drop_drop, show j.toNat + x.toNat = (j + x).toNat by omega]
  · rw [if_neg (by omega), if_neg (by omega)]
def needsS (b : List Int) (i step : Int) (n : Nat) : Int := needL ((List.range n).map fun j => gU b (i + (j : Nat) * step) 2)
theorem rowK_iff {rv : List Int} {n : Int} (hn : 0 < n) {k : Nat} : (rowK rv n k).isSome = true ↔ 2 * n * (k + 1) ≤ rv.length := by
  unfold rowK
  rw [listS_isSome (by omega), rowsB_iff (by omega)]
  have h0 : 0 ≤ 2 * n * (k : Int) := Int.mul_nonneg (by omega) (by omega)
  have h1 : 2 * n * ((k : Int) + 1) = 2 * n * k + 2 * n := by rw [Int.mul_add]; omega
  constructor
  · rintro ⟨_, _, _, h⟩; omega
  · intro h; exact ⟨h0, by omega, by omega, by omega⟩
theorem row_at {b rv : List Int} {j : Int} (h : restS b j = some rv) {n : Int} {k : Nat} {r : List Int} (hn : 0 < n) (hr : rowK rv n k = some r) : r = (List.range n.toNat).map fun i => gU b (j + (n * k + (i : Nat)) * 2) 2 := by
  have hs := (rowK_iff (rv := rv) (k := k) hn).1 (by rw [hr]; rfl)
  have hr' := hr
  unfold rowK listS at hr'
  obtain ⟨q, hq, hqr⟩ := Option.map_eq_some_iff.1 hr'
  have hlen : r.length = n.toNat := by rw [← hqr]; simp
  have hk0 : 0 ≤ n * (k : Int) := Int.mul_nonneg (by omega) (by omega)
  apply List.ext_getElem?
  intro i
  by_cases hi : i < n.toNat
  · rw [listS_get (by omega) hr i (by omega), List.getElem?_map, List.getElem?_range hi, uS_rest h (by rw [Int.mul_assoc]; omega)]
    have e : j + (2 * n * (k : Int) + (i : Int) * 2) = j + (n * k + (i : Nat)) * 2 := by rw [Int.mul_assoc, Int.add_mul]; omega
    rw [e]
    have hlen := restS_length h
    have hj := (restS_iff.1 h).1
    have h1 : 2 * n * ((k : Int) + 1) = 2 * (n * k) + 2 * n := by rw [Int.mul_add, Int.mul_assoc]; omega
    obtain ⟨x, hx⟩ : ∃ x, uS b (j + (n * k + (i : Nat)) * 2) 2 = some x := uS_of_in (by unfold inS; exact decide_eq_true (by rw [Int.add_mul]; omega))
    rw [hx, Option.map_some, gU_some hx]
  · rw [List.getElem?_eq_none (by omega), List.getElem?_eq_none (by simp; omega)]
theorem rows_flat_at {b rv : List Int} {j : Int} (h : restS b j = some rv) {n : Int} (hn : 0 < n) : ∀ {s : Nat} {rs : List (List Int)}, rowsTo rv n s = some rs → rs.flatten = (List.range (s * n.toNat)).map fun (i : Nat) => gU b (j + (i : Int) * 2) 2
  | 0, rs, hr => by injection hr with hr; subst hr; simp
  | s + 1, rs, hr => by
    unfold rowsTo at hr
    rw [mapO_range] at hr
    obtain ⟨rs', h1, hr⟩ := Option.bind_eq_some_iff.1 hr
    obtain ⟨r, h2, rfl⟩ := Option.map_eq_some_iff.1 hr
    rw [List.flatten_append, rows_flat_at h hn h1, Nat.succ_mul, List.range_add, List.map_append]
    congr 1
    simp only [List.flatten_cons, List.flatten_nil, List.append_nil, row_at h hn h2, List.map_map]
    apply List.map_congr_left
    intro i _
    simp only [Function.comp]
    congr 2
    have : ((s * n.toNat + i : Nat) : Int) = n * s + i := by
      obtain ⟨m, rfl⟩ := Int.eq_ofNat_of_zero_le (Int.le_of_lt hn)
      simp [Int.mul_comm]
    rw [this]
theorem rows_needs {b rv : List Int} {j : Int} (h : restS b j = some rv) {n : Int} (hn : 0 < n) {s : Nat} {rs : List (List Int)} (hr : rowsTo rv n s = some rs) : needsS b j 2 (s * n.toNat) = needR rs := by
  unfold needsS needR
  rw [rows_flat_at h hn hr]
theorem rows_there {b rv : List Int} {j : Int} (h : restS b j = some rv) {n : Int} (hn : 0 < n) {s : Nat} (hs : 0 < s) : (rowsTo rv n s).isSome = rowsB b.length j s (2 * n) := by
  have hl := restS_length h
  have hj := (restS_iff.1 h).1
  rw [Bool.eq_iff_iff, rowsB_iff (by omega)]
  have e : (s : Int) * (2 * n) = 2 * n * s := Int.mul_comm _ _
  constructor
  · intro hsome
    obtain ⟨rs, hrs⟩ := Option.isSome_iff_exists.1 hsome
    obtain ⟨y, hy, _⟩ := mapO_at hrs (i := s - 1) (by omega)
    have := (rowK_iff (rv := rv) (k := s - 1) hn).1 (by rw [hy]; rfl)
    rw [show (((s - 1 : Nat) : Int) + 1) = s by omega] at this
    exact ⟨hj.1, by omega, hj.2, by omega⟩
  · rintro ⟨_, _, _, h4⟩
    obtain ⟨r, hr⟩ := mapO_all_some (f := rowK rv n) (n := s) fun i hi => by
      rw [rowK_iff hn]
      have : 2 * n * ((i : Int) + 1) ≤ 2 * n * s := Int.mul_le_mul_of_nonneg_left (by omega) (by omega)
      omega
    exact Option.isSome_iff_exists.2 ⟨r, hr⟩
theorem entK_iff {ev : List Int} {w : Int} (hw : 0 ≤ w) {k : Nat} : (entK ev w k).isSome = true ↔ (4 + 2 * w) * (k + 1) ≤ ev.length := by
  unfold entK
  rw [Option.isSome_map, inS_piece]
  unfold inS
  rw [decide_eq_true_eq]
  have h0 : 0 ≤ (4 + 2 * w) * (k : Int) := Int.mul_nonneg (by omega) (by omega)
  have h1 : (4 + 2 * w) * ((k : Int) + 1) = (4 + 2 * w) * k + (4 + 2 * w) := by rw [Int.mul_add]; omega
  omega
theorem ents_there {b ev : List Int} {q : Int} (h : restS b q = some ev) {w : Int} (hw : 0 ≤ w) (s : Nat) : (entsTo ev w s).isSome = rowsB b.length q s (4 + 2 * w) := by
  have hl := restS_length h
  have hj := (restS_iff.1 h).1
  rw [Bool.eq_iff_iff, rowsB_iff (by omega)]
  have e : (s : Int) * (4 + 2 * w) = (4 + 2 * w) * s := Int.mul_comm _ _
  constructor
  · intro hsome
    obtain ⟨rs, hrs⟩ := Option.isSome_iff_exists.1 hsome
    refine ⟨hj.1, by omega, hj.2, ?_⟩
    by_cases h0 : s = 0
    · subst h0; simp; omega
    · obtain ⟨y, hy, _⟩ := mapO_at hrs (i := s - 1) (by omega)
      have := (entK_iff (ev := ev) (k := s - 1) hw).1 (by rw [hy]; rfl)
      rw [show (((s - 1 : Nat) : Int) + 1) = s by omega] at this
      omega
  · rintro ⟨_, _, _, h4⟩
    obtain ⟨r, hr⟩ := mapO_all_some (f := entK ev w) (n := s) fun i hi => by
      rw [entK_iff hw]
      have : (4 + 2 * w) * ((i : Int) + 1) ≤ (4 + 2 * w) * s := Int.mul_le_mul_of_nonneg_left (by omega) (by omega)
      omega
    exact Option.isSome_iff_exists.2 ⟨r, hr⟩
theorem ent_at {b ev : List Int} {q : Int} (h : restS b q = some ev) {w : Int} (hw : 0 ≤ w ∧ w ≤ 2) {k : Nat} {e : En} (he : entK ev w k = some e) :
    e = ⟨gU b (q + (k : Int) * (4 + 2 * w)) 2, gU b (q + (k : Int) * (4 + 2 * w) + 2) 2, if 0 < w then gU b (q + (k : Int) * (4 + 2 * w) + 4) 2 else 0, if 1 < w then gU b (q + (k : Int) * (4 + 2 * w) + 6) 2 else 0⟩ := by
  unfold entK at he
  obtain ⟨r, hr, rfl⟩ := Option.map_eq_some_iff.1 he
  have h0 : 0 ≤ (4 + 2 * w) * (k : Int) := Int.mul_nonneg (by omega) (by omega)
  have sub : ∀ x, 0 ≤ x → x + 2 ≤ 4 + 2 * w → gU r x 2 = gU b (q + (k : Int) * (4 + 2 * w) + x) 2 := fun x hx hx2 => by
    unfold gU
    rw [uS_sub hr hx (by omega) hx2, uS_rest h (by omega), Int.mul_comm (k : Int), Int.add_assoc]
  have s0 := sub 0 (by omega) (by omega)
  rw [Int.add_zero] at s0
  unfold entOf
  rw [s0, sub 2 (by omega) (by omega)]
  congr 1
  · by_cases h1 : 0 < w
    · rw [if_pos h1, if_pos h1, sub 4 (by omega) (by omega)]
    · rw [if_neg h1, if_neg h1]
  · by_cases h1 : 1 < w
    · rw [if_pos h1, if_pos h1, sub 6 (by omega) (by omega)]
    · rw [if_neg h1, if_neg h1]
theorem ents_needs {b ev : List Int} {q : Int} (h : restS b q = some ev) {w : Int} (hw : 0 ≤ w ∧ w ≤ 2) {s : Nat} {es : List En} (hr : entsTo ev w s = some es) : needsS b q (4 + 2 * w) s = needL (es.map En.next) := by
  unfold needsS
  congr 1
  apply List.ext_getElem?
  intro i
  have hl := mapO_len hr
  rw [List.length_range] at hl
  by_cases hi : i < s
  · obtain ⟨y, h1, h2⟩ := mapO_at hr hi
    rw [List.getElem?_map, List.getElem?_map, List.getElem?_range hi, h2, Option.map_some, Option.map_some, ent_at h hw h1]
  · rw [List.getElem?_eq_none (by simp; omega), List.getElem?_eq_none (by simp; omega)]
theorem needR_mono {rv : List Int} {n : Int} {s t : Nat} (hst : s ≤ t) {rs rt : List (List Int)} (h1 : rowsTo rv n s = some rs) (h2 : rowsTo rv n t = some rt) : needR rs ≤ needR rt := by
  have h3 := mapO_prefix hst h2
  have h4 : mapO (rowK rv n) (List.range s) = some rs := h1
  rw [h4] at h3
  injection h3 with h3
  rw [h3]
  have := List.take_append_drop s rt
  conv => rhs; rw [← this]
  unfold needR
  rw [List.flatten_append, needL_append]
  omega
structure RMach where
  b : List Int
  cl : Int
  rowsAt : Int
  entsAt : Int
  states : Int
  n : Int
  words : Int
  tb : List Int
  parts : List RP
def rmOf (b : List Int) (g w : Int) (m : Mach) : RMach :=
  ⟨b, m.classes, gU b 8 4, gU b 12 4, m.rows.length, m.ents.length, w, b.drop (gU b 4 4).toNat, (refReadS (b.drop (gU b 4 4).toNat) g 2).getD []⟩
def refMachS (b : List Int) (g w : Int) : Option RMach := (machS b g w).map (rmOf b g w)
theorem machS_parts {b : List Int} {g w : Int} {m : Mach} (h : machS b g w = some m) : ∃ i j q tb rv ev x, uS b 0 4 = some m.classes ∧ 4 ≤ m.classes ∧ m.classes ≤ 65535 ∧ uS b 4 4 = some i ∧ restS b i = some tb ∧ lookS tb g 2 = some m.tab ∧
    uS b 8 4 = some j ∧ restS b j = some rv ∧ uS b 12 4 = some q ∧ restS b q = some ev ∧ closeA rv ev m.classes w 2 = some x ∧ m.rows = x.1 ∧ m.ents = x.2 := by
  unfold machS at h
  obtain ⟨n, h0, h⟩ := Option.bind_eq_some_iff.1 h
  split at h
  rotate_left
  · cases h
  rename_i hn
  obtain ⟨i, h1, h⟩ := Option.bind_eq_some_iff.1 h
  obtain ⟨tb, h2, h⟩ := Option.bind_eq_some_iff.1 h
  obtain ⟨tab, h3, h⟩ := Option.bind_eq_some_iff.1 h
  obtain ⟨j, h4, h⟩ := Option.bind_eq_some_iff.1 h
  obtain ⟨rv, h5, h⟩ := Option.bind_eq_some_iff.1 h
  obtain ⟨k, h6, h⟩ := Option.bind_eq_some_iff.1 h
  obtain ⟨ev, h7, h⟩ := Option.bind_eq_some_iff.1 h
  obtain ⟨x, h8, rfl⟩ := Option.map_eq_some_iff.1 h
  exact ⟨i, j, k, tb, rv, ev, x, h0, hn.1, hn.2, h1, h2, h3, h4, h5, h6, h7, h8, rfl, rfl⟩
end Go.Sw
end
section
namespace Go.Sw
open Go.RowKit
def machP (o : Option Mach) : Value := match o with | some x => machV x | none => .pointer none
theorem machP_flat (o : Option Mach) : Flat (machP o) := by
  cases o with
  | none => exact .nilPtr
  | some x => exact Flat.mach x
theorem state_in1_run (k : Nat) {H : Heap} {v : Value} {b : List Int} (hv : Sl H 1 v encB b) (hb : Byt b) (g w : Int) (hg1 : 1 ≤ g) (hg2 : g ≤ 65535) (hw : w = 0 ∨ w = 1 ∨ w = 2) (hl : b.length < 2 ^ 31) (p1 p2 p3 p4 : Nat) (old : Value)
    (h1 : H.get p1 = some ⟨[v], 1, false⟩) (h2 : H.get p2 = some ⟨[.int .i64 g], 1, false⟩) (h3 : H.get p3 = some ⟨[.int .i64 w], 1, false⟩) (h4 : H.get p4 = some ⟨[old], 1, false⟩) :
    R (T k) F.state_Read_in1 [ptrV p1, ptrV p2, ptrV p3, ptrV p4] H =
      match machS b g w with
      | some x => .ok (.tuple #[]) (H.set p4 (some ⟨[machV x], 1, false⟩))
      | none => .panic failV H := by
  rw [state_Read_in1_R]
  have ht := stateTake_run k hv hb g w hg1 hg2 hw hl
  cases h : machS b g w with
  | none =>
    rw [h] at ht
    refine nrm_throw ⟨H, ?_, Ext.refl H⟩ Flat.fail.alive
    simp -implicitDefEqProofs (disch := omega) [state_Read_in1, h1, h2, h3, Of_run k hv, ht]
  | some x =>
    rw [h] at ht
    simp -implicitDefEqProofs (disch := omega) [state_Read_in1, h1, h2, h3, h4, Of_run k hv, ht]
def badM (g w : Int) : Bool := decide (g < 1) || decide (g > 65535) || decide (w < 0) || decide (w > 2)
theorem badM_no {g w : Int} (h : badM g w = false) : 1 ≤ g ∧ g ≤ 65535 ∧ (w = 0 ∨ w = 1 ∨ w = 2) := by
  unfold badM at h
  simp at h
  omega
def machO (b : List Int) (g w : Int) : Option Mach := if badM g w then none else machS b g w
def machN (b : List Int) (g w : Int) : Int := if badM g w then 1 else if (machS b g w).isSome then 0 else 2
theorem stateRead_run (k : Nat) {H : Heap} {v : Value} {b : List Int} (hv : Sl H 1 v encB b) (hb : Byt b) (g w : Int) (hl : b.length < 2 ^ 31) :
    R (T k) F.state_Read [v, .int .i64 g, .int .i64 w] H = .ok (.tuple #[machP (machO b g w), .int .i64 (machN b g w)]) H := by
  rw [state_Read_R]
  have hbx := fun H' => hv.boxR H'
  have hx1 : Ext H (H.push ⟨[v], 1, false⟩) := (Ext.refl H).push _
  have hx2 := (hx1.push ⟨[.int .i64 g], 1, false⟩).push ⟨[.int .i64 w], 1, false⟩
  have al : ∀ o n, Alive H (.tuple #[machP o, .int .i64 n]) := fun o n => (Flat.tupleL (l := [machP o, .int .i64 n]) (.cons (machP_flat o) (.cons (.int _ _) .nil))).alive
  have fz : ∀ H' o n, fzV H.n H' fzDepth (.tuple #[machP o, .int .i64 n]) = some (.tuple #[machP o, .int .i64 n], []) := fun H' o n => by
    cases o <;> rfl
  cases hbad : badM g w with
  | true =>
    refine nrm_fz (H' := (((H.push ⟨[v], 1, false⟩).push ⟨[.int .i64 g], 1, false⟩).push ⟨[.int .i64 w], 1, false⟩).push ⟨[.pointer none], 1, false⟩) (v := .tuple #[machP none, .int .i64 1]) ?_ (by unfold machO machN; rw [hbad]; exact fz _ _ _) (hx2.push _) (al _ _)
    unfold badM at hbad
    by_cases c1 : g < 1
    · simp -implicitDefEqProofs (disch := omega) [state_Read, hbx, c1, machP]
    · by_cases c2 : g > 65535
      · simp -implicitDefEqProofs (disch := omega) [state_Read, hbx, c1, c2, machP]
      · by_cases c3 : w < 0
        · simp -implicitDefEqProofs (disch := omega) [state_Read, hbx, c1, c2, c3, machP]
        · have c4 : w > 2 := by simp [c1, c2, c3] at hbad; omega
          simp -implicitDefEqProofs (disch := omega) [state_Read, hbx, c1, c2, c3, c4, machP]
  | false =>
    obtain ⟨h1, h2, h3⟩ := badM_no hbad
    have c1 : ¬ g < 1 := by omega
    have c2 : ¬ g > 65535 := by omega
    have c3 : ¬ w < 0 := by omega
    have c4 : ¬ w > 2 := by omega
    have hx3 := hx2.push ⟨[.pointer none], 1, false⟩
    have hin := state_in1_run k (hv.up hx3) hb g w h1 h2 h3 hl H.n (H.n + 1) (H.n + 2) (H.n + 3) (.pointer none) (by simp) (by simp) (by simp) (by simp)
    cases hlk : machS b g w with
    | none =>
      rw [hlk] at hin
      have ht := Try_no k F.state_Read_in1 #[ptrV H.n, ptrV (H.n + 1), ptrV (H.n + 2), ptrV (H.n + 3)] hin
      refine nrm_fz (H' := (((H.push ⟨[v], 1, false⟩).push ⟨[.int .i64 g], 1, false⟩).push ⟨[.int .i64 w], 1, false⟩).push ⟨[.pointer none], 1, false⟩) (v := .tuple #[machP none, .int .i64 2]) ?_ (by unfold machO machN; rw [hbad, hlk]; exact fz _ _ _) hx3 (al _ _)
      simp -implicitDefEqProofs (disch := omega) [state_Read, hbx, c1, c2, c3, c4, ht, machP]
    | some x =>
      rw [hlk] at hin
      have ht := Try_ok k F.state_Read_in1 #[ptrV H.n, ptrV (H.n + 1), ptrV (H.n + 2), ptrV (H.n + 3)] hin
      refine nrm_fz (H' := (((H.push ⟨[v], 1, false⟩).push ⟨[.int .i64 g], 1, false⟩).push ⟨[.int .i64 w], 1, false⟩).push ⟨[machV x], 1, false⟩) (v := .tuple #[machP (some x), .int .i64 0]) ?_ (by unfold machO machN; rw [hbad, hlk]; exact fz _ _ _) (hx2.push _) (al _ _)
      simp at ht
      simp -implicitDefEqProofs (disch := omega) [state_Read, hbx, c1, c2, c3, c4, ht, machP]
theorem Class_run (k : Nat) (m : Mach) (hm : m.ok) (id : Int) (H : Heap) : R (T k) F.state_Machine_Class [machV m, .int .i64 id] H = .ok (.int .i64 (classS m id)) H := by
  rw [state_Machine_Class_R]
  refine nrm_gc (Pure.of ?_) (.int _ _)
  have hget := fun H => Get_run k m.tab hm.pts hm.rise id hm.plen H
  unfold classS
  by_cases h : id = 65535
  · subst h
    simp -implicitDefEqProofs (disch := omega) [state_Machine_Class]
  · have h' : (id == 65535) = false := by simpa using h
    rw [if_neg h]
    cases hg : getS m.tab.2 id with
    | none =>
      rw [hg] at hget
      simp -implicitDefEqProofs (disch := omega) [state_Machine_Class, h', hget]
    | some x =>
      rw [hg] at hget
      dsimp only
      by_cases hx : x < m.classes
      · simp -implicitDefEqProofs (disch := omega) [state_Machine_Class, h', hget, hx]
      · simp -implicitDefEqProofs (disch := omega) [state_Machine_Class, h', hget, hx]
theorem Classes_run (k : Nat) (m : Mach) (H : Heap) : R (T k) F.state_Machine_Classes [machV m] H = .ok (.int .i64 m.classes) H := by
  rw [state_Machine_Classes_R]
  refine nrm_gc (Pure.of ?_) (.int _ _)
  simp -implicitDefEqProofs (disch := omega) [state_Machine_Classes]
theorem States_run (k : Nat) (m : Mach) (H : Heap) : R (T k) F.state_Machine_States [machV m] H = .ok (.int .i64 m.rows.length) H := by
  rw [state_Machine_States_R]
  refine nrm_gc (Pure.of ?_) (.int _ _)
  simp -implicitDefEqProofs (disch := omega) [state_Machine_States]
def encEA (o : Option En) : Value := .agg (encEn (o.getD ⟨0, 0, 0, 0⟩)).toArray
theorem encEA_flat (o : Option En) : Flat (encEA o) := Flat.ofEn _
theorem stepS_some {m : Mach} (hm : m.ok) {s c : Int} (h : 0 ≤ s ∧ s < m.rows.length ∧ 0 ≤ c ∧ c < m.classes) :
    ∃ r x e, m.rows[s.toNat]? = some r ∧ r[c.toNat]? = some x ∧ 0 ≤ x ∧ m.ents[x.toNat]? = some e ∧ stepS m s c = some e := by
  obtain ⟨r, hr⟩ : ∃ r, m.rows[s.toNat]? = some r := ⟨_, List.getElem?_eq_getElem (by omega)⟩
  have hrm := hm.row r (List.mem_of_getElem? hr)
  obtain ⟨x, hx⟩ : ∃ x, r[c.toNat]? = some x := ⟨_, List.getElem?_eq_getElem (by omega)⟩
  have hxm := hrm.2 x (List.mem_of_getElem? hx)
  obtain ⟨e, he⟩ : ∃ e, m.ents[x.toNat]? = some e := ⟨_, List.getElem?_eq_getElem (by omega)⟩
  refine ⟨r, x, e, hr, hx, hxm.1, he, ?_⟩
  unfold stepS
  rw [if_pos h, hr, Option.bind_some, hx, Option.bind_some, he]
theorem Step_run (k : Nat) (m : Mach) (hm : m.ok) (s c : Int) (H : Heap) : R (T k) F.state_Machine_Step [machV m, .int .i64 s, .int .i64 c] H = .ok (.tuple #[encEA (stepS m s c), .bool (stepS m s c).isSome]) H := by
  rw [state_Machine_Step_R]
  have fl : Flat (.tuple #[encEA (stepS m s c), .bool (stepS m s c).isSome]) := .tupleL (.cons (encEA_flat _) (.cons (.bool _) .nil))
  have no : ¬ (0 ≤ s ∧ s < m.rows.length ∧ 0 ≤ c ∧ c < m.classes) → stepS m s c = none := fun h => by unfold stepS; rw [if_neg h]
  have hx : Ext H (H.push ⟨[.int .i64 0, .int .i64 0, .int .i64 0, .int .i64 0], 1, false⟩) := (Ext.refl H).push _
  by_cases h1 : s < 0
  · rw [no (by omega)] at fl ⊢
    refine nrm_gc ⟨_, ?_, hx⟩ fl.alive
    simp -implicitDefEqProofs (disch := omega) [state_Machine_Step, h1, encEA]
  by_cases h2 : s ≥ m.rows.length
  · rw [no (by omega)] at fl ⊢
    refine nrm_gc ⟨_, ?_, hx⟩ fl.alive
    simp -implicitDefEqProofs (disch := omega) [state_Machine_Step, h1, h2, encEA]
  by_cases h3 : c < 0
  · rw [no (by omega)] at fl ⊢
    refine nrm_gc ⟨_, ?_, hx⟩ fl.alive
    simp -implicitDefEqProofs (disch := omega) [state_Machine_Step, h1, h2, h3, encEA]
  by_cases h4 : c ≥ m.classes
  · rw [no (by omega)] at fl ⊢
    refine nrm_gc ⟨_, ?_, hx⟩ fl.alive
    simp -implicitDefEqProofs (disch := omega) [state_Machine_Step, h1, h2, h3, h4, encEA]
  obtain ⟨r, x, e, hr, hxx, hx0, he, hs⟩ := stepS_some hm (s := s) (c := c) (by omega)
  rw [hs] at fl ⊢
  have i1 := fun H' => ixS_lv encRow_len m.rows .i64 s r (by omega) hr H'
  have i2 := fun H' => ixS_lv encI_len r .i64 c x (by omega) hxx H'
  have i3 := fun H' => ixS_lv encEn_len m.ents .i64 x e hx0 he H'
  refine nrm_gc ⟨H.push ⟨encEn e, 1, false⟩, ?_, (Ext.refl H).push _⟩ fl.alive
  simp -implicitDefEqProofs (disch := omega) [state_Machine_Step, h1, h2, h3, h4, i1, i2, i3, encEA]
theorem Entries_run (k : Nat) (hk : k < 1000000) (m : Mach) (hl : m.ents.length ≤ 65536) (H : Heap) : R (T k) F.state_Machine_Entries [machV m] H = .ok (lv encEn m.ents) H := by
  have ho : own k = .fz := by unfold own; rw [show Nat.blt k 1000000 = true from Nat.ble_eq_true_of_le hk]; rfl
  rw [state_Machine_Entries_R, ho]
  have g := (Star.nil H).more_row (Ext.refl _) (OwnO.bare encEn _ 4) (fun b hb => by cases hb)
  obtain ⟨s, o, H1, e1, g⟩ := g.append (bytes := 32) 0 encEn_len rfl (b := lv encEn m.ents) (l2 := m.ents) rfl (lv_first encEn_len m.ents H) (by simp; omega) (by decide)
  simp only [List.nil_append, List.set_cons_zero] at g
  obtain ⟨L, hf⟩ := (g.own 0 rfl).freeze encEn_len (encEn_still _) 6
  refine nrm_fz (v := s) (H' := H1) ?_ hf g.ext (Flat.Ens _).alive
  simp -implicitDefEqProofs (disch := omega) [state_Machine_Entries, e1]
theorem Entries_own (k : Nat) (hk : 1000000 ≤ k) (m : Mach) (hl : m.ents.length ≤ 65536) {H0 H : Heap} {L : List It} (h : Star H0 H L) : ∃ s o H', R (T k) F.state_Machine_Entries [machV m] H = .ok s H' ∧ Star H0 H' (L ++ [itRow o 4 s encEn m.ents]) := by
  have ho : own k = .no := by
    unfold own
    rw [show Nat.blt k 1000000 = false from by
      cases hb : Nat.blt k 1000000 with
      | false => rfl
      | true => exact absurd (Nat.le_of_ble_eq_true hb) (by omega)]
    rfl
  rw [state_Machine_Entries_R, ho]
  have g := h.more_row (Ext.refl _) (OwnO.bare encEn _ 4) (fun b hb => by cases hb)
  obtain ⟨s, o, H1, e1, g⟩ := g.append (bytes := 32) L.length encEn_len (list_at_end _) (b := lv encEn m.ents) (l2 := m.ents) rfl (lv_first encEn_len m.ents H) (by simp; omega) (by decide)
  refine ⟨s, o, H1, nrm_of ?_, by simpa using g⟩
  simp -implicitDefEqProofs (disch := omega) [state_Machine_Entries, e1]
end Go.Sw
end
section
set_option maxRecDepth 100000
set_option linter.unusedVariables false
namespace Go.Sw
noncomputable section
def swashref07_Read_l1 (k : Nat) (call : Caller) : Env → Heap → Res (AExit × Env) := loopB (C k) call F.swashref07_Read [1, 1, 1, 1, 1, 1, 1, 0, 0, 0]
def swashref07_Read_l1k (k : Nat) (call : Caller) : Kont Value := kBlock 0 (kSeq (pieceK (C k) call F.swashref07_Read [1, 1, 1, 1, 1, 1, 1, 1]) (kDone Prog (resOf Prog F.swashref07_Read)))
def swashref07_Read_j1 (k : Nat) (call : Caller) (a0 a6 a8 a11 a12 a13 : Value) (h : Heap) : Res (AExit × Env) :=
  kSeq (pieceK (C k) call F.swashref07_Read [1, 1, 1, 1, 1, 1, 1, 0, 0, 0, 1, 0, 1, 1, 1]) (kBlock 1 (kRound (ownOf (C k) F.swashref07_Read [1, 1, 1, 1, 1, 1, 1, 0, 0, 0]))) .normal [(0, a0), (6, a6), (8, a8), (11, a11), (12, a12), (13, a13)] h
def swashref07_Read_j2 (k : Nat) (call : Caller) (a0 a6 a8 a11 a12 a13 a93 : Value) (h : Heap) : Res (AExit × Env) :=
  kSeq (pieceK (C k) call F.swashref07_Read [1, 1, 1, 1, 1, 1, 1, 0, 0, 0, 1, 0, 1, 1, 1]) (kBlock 1 (kRound (ownOf (C k) F.swashref07_Read [1, 1, 1, 1, 1, 1, 1, 0, 0, 0]))) .normal [(0, a0), (6, a6), (8, a8), (11, a11), (12, a12), (13, a13), (93, a93)] h
def swashref07_Read_j3 (k : Nat) (call : Caller) (a0 a6 a8 a11 a12 a13 : Value) (h : Heap) : Res (AExit × Env) :=
  kSeq (pieceK (C k) call F.swashref07_Read [1, 1, 1, 1, 1, 1, 1, 0, 0, 0, 1, 0, 1, 1, 1, 1]) (kBlock 1 (kRound (ownOf (C k) F.swashref07_Read [1, 1, 1, 1, 1, 1, 1, 0, 0, 0]))) .normal [(0, a0), (6, a6), (8, a8), (11, a11), (12, a12), (13, a13)] h
def swashref07_Read_j4 (k : Nat) (call : Caller) (a0 a6 a8 a11 a12 a13 a115 : Value) (h : Heap) : Res (AExit × Env) :=
  kSeq (pieceK (C k) call F.swashref07_Read [1, 1, 1, 1, 1, 1, 1, 0, 0, 0, 1, 0, 1, 1, 1, 1]) (kBlock 1 (kRound (ownOf (C k) F.swashref07_Read [1, 1, 1, 1, 1, 1, 1, 0, 0, 0]))) .normal [(0, a0), (6, a6), (8, a8), (11, a11), (12, a12), (13, a13), (115, a115)] h
def swashref07_Read (k : Nat) (call : Caller) (a0 a1 a2 : Value) (h : Heap) : Res Value :=
  (allocR Prog 137 h).bind fun v1 h2 =>
  (call F.swashref01_U [a0, (.int .i64 0), (.int .i64 4)] h2).bind fun v3 h4 =>
  (call F.swashref01_U [a0, (.int .i64 8), (.int .i64 4)] h4).bind fun v5 h6 =>
  (call F.swashref01_U [a0, (.int .i64 12), (.int .i64 4)] h6).bind fun v7 h8 =>
  (buildR Prog 137 [(0, a0), (1, v3), (2, v5), (3, v7), (4, (.int .i64 2)), (6, a2)] h8).bind fun v9 h10 =>
  (allocR Prog 137 h10).bind fun v11 h12 =>
  (storeR Prog 137 v11 v9 h12).bind fun _v13 h14 =>
  (call F.swashref01_U [a0, (.int .i64 4), (.int .i64 4)] h14).bind fun v15 h16 =>
  (fieldAddrR Prog 137 v11 1 h16).bind fun v17 h18 =>
  (loadR Prog 3 v17 h18).bind fun v19 h20 =>
  (binR Prog .lss 3 v19 (.int .i64 4) h20).bind fun v21 h22 =>
  ((bif wantVal v21 false then fieldAddrR Prog 137 v11 1 h22 else Res.ok undef h22)).bind fun v23 h24 =>
  ((bif wantVal v21 false then loadR Prog 3 v23 h24 else Res.ok undef h24)).bind fun v25 h26 =>
  ((bif wantVal v21 false then binR Prog .gtr 3 v25 (.int .i64 65535) h26 else Res.ok undef h26)).bind fun v27 h28 =>
  (condV (some v21) (Res.ok (.bool true) h28) (Res.ok v27 h28)).bind fun v29 h30 =>
  ((bif wantVal v29 false then fieldAddrR Prog 137 v11 2 h30 else Res.ok undef h30)).bind fun v31 h32 =>
  ((bif wantVal v29 false then loadR Prog 3 v31 h32 else Res.ok undef h32)).bind fun v33 h34 =>
  ((bif wantVal v29 false then binR Prog .lss 3 v33 (.int .i64 0) h34 else Res.ok undef h34)).bind fun v35 h36 =>
  (condV (some v29) (Res.ok (.bool true) h36) (Res.ok v35 h36)).bind fun v37 h38 =>
  ((bif wantVal v37 false then fieldAddrR Prog 137 v11 3 h38 else Res.ok undef h38)).bind fun v39 h40 =>
  ((bif wantVal v37 false then loadR Prog 3 v39 h40 else Res.ok undef h40)).bind fun v41 h42 =>
  ((bif wantVal v37 false then binR Prog .lss 3 v41 (.int .i64 0) h42 else Res.ok undef h42)).bind fun v43 h44 =>
  (condV (some v37) (Res.ok (.bool true) h44) (Res.ok v43 h44)).bind fun v45 h46 =>
  ((bif wantVal v45 false then fieldAddrR Prog 137 v11 2 h46 else Res.ok undef h46)).bind fun v47 h48 =>
  ((bif wantVal v45 false then loadR Prog 3 v47 h48 else Res.ok undef h48)).bind fun v49 h50 =>
  ((bif wantVal v45 false then Res.ok a0 h50 else Res.ok undef h50)).bind fun v51 h52 =>
  ((bif wantVal v45 false then builtinV Prog .len [65] [v51] h52 else Res.ok undef h52)).bind fun v53 h54 =>
  ((bif wantVal v45 false then binR Prog .gtr 3 v49 v53 h54 else Res.ok undef h54)).bind fun v55 h56 =>
  (condV (some v45) (Res.ok (.bool true) h56) (Res.ok v55 h56)).bind fun v57 h58 =>
  ((bif wantVal v57 false then fieldAddrR Prog 137 v11 3 h58 else Res.ok undef h58)).bind fun v59 h60 =>
  ((bif wantVal v57 false then loadR Prog 3 v59 h60 else Res.ok undef h60)).bind fun v61 h62 =>
  ((bif wantVal v57 false then Res.ok a0 h62 else Res.ok undef h62)).bind fun v63 h64 =>
  ((bif wantVal v57 false then builtinV Prog .len [65] [v63] h64 else Res.ok undef h64)).bind fun v65 h66 =>
  ((bif wantVal v57 false then binR Prog .gtr 3 v61 v65 h66 else Res.ok undef h66)).bind fun v67 h68 =>
  (condV (some v57) (Res.ok (.bool true) h68) (Res.ok v67 h68)).bind fun v69 h70 =>
  ((bif wantVal v69 false then Res.ok v15 h70 else Res.ok undef h70)).bind fun v71 h72 =>
  ((bif wantVal v69 false then binR Prog .lss 3 v71 (.int .i64 0) h72 else Res.ok undef h72)).bind fun v73 h74 =>
  (condV (some v69) (Res.ok (.bool true) h74) (Res.ok v73 h74)).bind fun v75 h76 =>
  ((bif wantVal v75 false then Res.ok v15 h76 else Res.ok undef h76)).bind fun v77 h78 =>
  ((bif wantVal v75 false then Res.ok a0 h78 else Res.ok undef h78)).bind fun v79 h80 =>
  ((bif wantVal v75 false then builtinV Prog .len [65] [v79] h80 else Res.ok undef h80)).bind fun v81 h82 =>
  ((bif wantVal v75 false then binR Prog .gtr 3 v77 v81 h82 else Res.ok undef h82)).bind fun v83 h84 =>
  (condV (some v75) (Res.ok (.bool true) h84) (Res.ok v83 h84)).bind fun v85 h86 =>
  condV (some v85) (
    (buildR Prog 137 [] h86).bind fun v87 h88 =>
    (storeR Prog 137 v1 v87 h88).bind fun _v89 h90 =>
    (loadR Prog 137 v1 h90).bind fun v91 h92 =>
    .ok (.tuple #[v91, (.bool false)]) h92)
  (
    (sliceR Prog 65 a0 (some v15) none none h86).bind fun v93 h94 =>
    (call F.swashref06_Read [v93, a1, (.int .i64 2)] h94).bind fun v95 h96 =>
    (extractR v95 0 h96).bind fun v97 h98 =>
    (extractR v95 1 h98).bind fun v99 h100 =>
    (allocR Prog 88 h100).bind fun v101 h102 =>
    (storeR Prog 88 v101 v97 h102).bind fun _v103 h104 =>
    (loadR Prog 88 v101 h104).bind fun v105 h106 =>
    (fieldAddrR Prog 137 v11 7 h106).bind fun v107 h108 =>
    (storeR Prog 88 v107 v105 h108).bind fun _v109 h110 =>
    (binR Prog .mul 3 (.int .i64 2) a2 h110).bind fun v111 h112 =>
    (binR Prog .add 3 (.int .i64 4) v111 h112).bind fun v113 h114 =>
    (loopN (swashref07_Read_l1 k call) loopFuel [(0, a0), (6, v1), (8, v11), (11, v99), (12, v113)] h114).bind fun r115 h116 =>
    swashref07_Read_l1k k call r115.1 r115.2 h116)
theorem swashref07_Read_R (k : Nat) (a0 a1 a2 : Value) (h : Heap) : R (T k) F.swashref07_Read [a0, a1, a2] h = nrm .fz h (swashref07_Read k (R (T k)) a0 a1 a2 h) :=
  (R_body (t := T k) (T_scott k) (by kernel_rfl) _ _).trans (by kernel_rfl)
theorem swashref07_Read_l1_eq (k : Nat) (call : Caller) (a0 a6 a8 a11 a12 : Value) (h : Heap) : swashref07_Read_l1 k call [(0, a0), (6, a6), (8, a8), (11, a11), (12, a12)] h =
  condV (some a11) (
    (loadR Prog 137 a8 h).bind fun v117 h118 =>
    (allocR Prog 137 h118).bind fun v119 h120 =>
    (storeR Prog 137 v119 v117 h120).bind fun _v121 h122 =>
    (builtinV Prog .len [65] [a0] h122).bind fun v123 h124 =>
    (fieldAddrR Prog 137 a8 2 h124).bind fun v125 h126 =>
    (loadR Prog 3 v125 h126).bind fun v127 h128 =>
    (fieldAddrR Prog 137 a8 4 h128).bind fun v129 h130 =>
    (loadR Prog 3 v129 h130).bind fun v131 h132 =>
    (fieldAddrR Prog 137 a8 1 h132).bind fun v133 h134 =>
    (loadR Prog 3 v133 h134).bind fun v135 h136 =>
    (binR Prog .mul 3 (.int .i64 2) v135 h136).bind fun v137 h138 =>
    (call F.swashref01_Rows [v123, v127, v131, v137] h138).bind fun v139 h140 =>
    condV (some v139) (
      (fieldAddrR Prog 137 a8 5 h140).bindN fun v141 h142 =>
      (loadR Prog 3 v141 h142).bindN fun v143 h144 =>
      (fieldAddrR Prog 137 a8 2 h144).bindN fun v145 h146 =>
      (loadR Prog 3 v145 h146).bindN fun v147 h148 =>
      (fieldAddrR Prog 137 a8 4 h148).bindN fun v149 h150 =>
      (loadR Prog 3 v149 h150).bindN fun v151 h152 =>
      (fieldAddrR Prog 137 a8 1 h152).bindN fun v153 h154 =>
      (loadR Prog 3 v153 h154).bindN fun v155 h156 =>
      (binR Prog .mul 3 v151 v155 h156).bindN fun v157 h158 =>
      (call F.swashref07_needs [a0, v147, v157, (.int .i64 2)] h158).bindT (fun p161 h162 => .panic p161 h162) fun v159 h160 =>
      (builtinV Prog .max [3, 3] [v143, v159] h160).bindN fun v163 h164 =>
      (fieldAddrR Prog 137 a8 5 h164).bindN fun v165 h166 =>
      (storeR Prog 3 v165 v163 h166).bindN fun _v167 h168 =>
      chkR ((okVal (loadR Prog 3 v141 h160) v143 && true) && true) (
      (builtinV Prog .len [65] [a0] h168).bind fun v169 h170 =>
      (fieldAddrR Prog 137 a8 3 h170).bind fun v171 h172 =>
      (loadR Prog 3 v171 h172).bind fun v173 h174 =>
      (fieldAddrR Prog 137 a8 5 h174).bind fun v175 h176 =>
      (loadR Prog 3 v175 h176).bind fun v177 h178 =>
      (call F.swashref01_Rows [v169, v173, v177, a12] h178).bind fun v179 h180 =>
      swashref07_Read_j1 k call a0 a6 a8 v179 a12 v119 h180))
    (
      swashref07_Read_j2 k call a0 a6 a8 v139 a12 v119 v139 h140))
  (
    .ok ((.exit 0), [(0, a0), (6, a6), (8, a8), (12, a12), (81, a11)]) h) :=
  (loopB_eq _ _).trans (by kernel_rfl)
theorem swashref07_Read_j1_eq (k : Nat) (call : Caller) (a0 a6 a8 a11 a12 a13 : Value) (h : Heap) : swashref07_Read_j1 k call a0 a6 a8 a11 a12 a13 h =
  condV (some a11) (
    (fieldAddrR Prog 137 a8 4 h).bindN fun v181 h182 =>
    (loadR Prog 3 v181 h182).bindN fun v183 h184 =>
    (fieldAddrR Prog 137 a8 3 h184).bindN fun v185 h186 =>
    (loadR Prog 3 v185 h186).bindN fun v187 h188 =>
    (fieldAddrR Prog 137 a8 5 h188).bindN fun v189 h190 =>
    (loadR Prog 3 v189 h190).bindN fun v191 h192 =>
    (call F.swashref07_needs [a0, v187, v191, a12] h192).bindT (fun p195 h196 => .panic p195 h196) fun v193 h194 =>
    (builtinV Prog .max [3, 3] [v183, v193] h194).bindN fun v197 h198 =>
    (fieldAddrR Prog 137 a8 4 h198).bindN fun v199 h200 =>
    (storeR Prog 3 v199 v197 h200).bindN fun _v201 h202 =>
    chkR ((okVal (loadR Prog 3 v181 h194) v183 && true) && true) (
    swashref07_Read_j3 k call a0 a6 a8 a11 a12 a13 h202))
  (
    swashref07_Read_j4 k call a0 a6 a8 a11 a12 a13 a11 h) := by kernel_rfl
theorem swashref07_Read_j2_eq (k : Nat) (call : Caller) (a0 a6 a8 a11 a12 a13 a93 : Value) (h : Heap) : swashref07_Read_j2 k call a0 a6 a8 a11 a12 a13 a93 h =
  condV (some a11) (
    (fieldAddrR Prog 137 a8 4 h).bindN fun v203 h204 =>
    (loadR Prog 3 v203 h204).bindN fun v205 h206 =>
    (fieldAddrR Prog 137 a8 3 h206).bindN fun v207 h208 =>
    (loadR Prog 3 v207 h208).bindN fun v209 h210 =>
    (fieldAddrR Prog 137 a8 5 h210).bindN fun v211 h212 =>
    (loadR Prog 3 v211 h212).bindN fun v213 h214 =>
    (call F.swashref07_needs [a0, v209, v213, a12] h214).bindT (fun p217 h218 => .panic p217 h218) fun v215 h216 =>
    (builtinV Prog .max [3, 3] [v205, v215] h216).bindN fun v219 h220 =>
    (fieldAddrR Prog 137 a8 4 h220).bindN fun v221 h222 =>
    (storeR Prog 3 v221 v219 h222).bindN fun _v223 h224 =>
    chkR ((okVal (loadR Prog 3 v203 h216) v205 && true) && true) (
    swashref07_Read_j3 k call a0 a6 a8 a11 a12 a13 h224))
  (
    swashref07_Read_j4 k call a0 a6 a8 a11 a12 a13 a11 h) := by kernel_rfl
theorem swashref07_Read_j3_eq (k : Nat) (call : Caller) (a0 a6 a8 a11 a12 a13 : Value) (h : Heap) : swashref07_Read_j3 k call a0 a6 a8 a11 a12 a13 h =
  ((bif wantVal a11 true then fieldAddrR Prog 137 a8 4 h else Res.ok undef h)).bind fun v225 h226 =>
  ((bif wantVal a11 true then loadR Prog 3 v225 h226 else Res.ok undef h226)).bind fun v227 h228 =>
  ((bif wantVal a11 true then fieldAddrR Prog 137 a13 4 h228 else Res.ok undef h228)).bind fun v229 h230 =>
  ((bif wantVal a11 true then loadR Prog 3 v229 h230 else Res.ok undef h230)).bind fun v231 h232 =>
  ((bif wantVal a11 true then binR Prog .eql 3 v227 v231 h232 else Res.ok undef h232)).bind fun v233 h234 =>
  (condV (some a11) (Res.ok v233 h234) (Res.ok (.bool false) h234)).bind fun v235 h236 =>
  ((bif wantVal v235 true then fieldAddrR Prog 137 a8 5 h236 else Res.ok undef h236)).bind fun v237 h238 =>
  ((bif wantVal v235 true then loadR Prog 3 v237 h238 else Res.ok undef h238)).bind fun v239 h240 =>
  ((bif wantVal v235 true then fieldAddrR Prog 137 a13 5 h240 else Res.ok undef h240)).bind fun v241 h242 =>
  ((bif wantVal v235 true then loadR Prog 3 v241 h242 else Res.ok undef h242)).bind fun v243 h244 =>
  ((bif wantVal v235 true then binR Prog .eql 3 v239 v243 h244 else Res.ok undef h244)).bind fun v245 h246 =>
  (condV (some v235) (Res.ok v245 h246) (Res.ok (.bool false) h246)).bind fun v247 h248 =>
  condV (some v247) (
    (loadR Prog 137 a8 h248).bind fun v249 h250 =>
    (storeR Prog 137 a6 v249 h250).bind fun _v251 h252 =>
    .ok (.ret, [(6, a6), (7, (.bool true))]) h252)
  (
    .ok (.normal, [(0, a0), (6, a6), (8, a8), (11, a11), (12, a12)]) h248) := by kernel_rfl
theorem swashref07_Read_j4_eq (k : Nat) (call : Caller) (a0 a6 a8 a11 a12 a13 a115 : Value) (h : Heap) : swashref07_Read_j4 k call a0 a6 a8 a11 a12 a13 a115 h =
  ((bif wantVal a11 true then fieldAddrR Prog 137 a8 4 h else Res.ok undef h)).bind fun v253 h254 =>
  ((bif wantVal a11 true then loadR Prog 3 v253 h254 else Res.ok undef h254)).bind fun v255 h256 =>
  ((bif wantVal a11 true then fieldAddrR Prog 137 a13 4 h256 else Res.ok undef h256)).bind fun v257 h258 =>
  ((bif wantVal a11 true then loadR Prog 3 v257 h258 else Res.ok undef h258)).bind fun v259 h260 =>
  ((bif wantVal a11 true then binR Prog .eql 3 v255 v259 h260 else Res.ok undef h260)).bind fun v261 h262 =>
  (condV (some a11) (Res.ok v261 h262) (Res.ok (.bool false) h262)).bind fun v263 h264 =>
  ((bif wantVal v263 true then fieldAddrR Prog 137 a8 5 h264 else Res.ok undef h264)).bind fun v265 h266 =>
  ((bif wantVal v263 true then loadR Prog 3 v265 h266 else Res.ok undef h266)).bind fun v267 h268 =>
  ((bif wantVal v263 true then fieldAddrR Prog 137 a13 5 h268 else Res.ok undef h268)).bind fun v269 h270 =>
  ((bif wantVal v263 true then loadR Prog 3 v269 h270 else Res.ok undef h270)).bind fun v271 h272 =>
  ((bif wantVal v263 true then binR Prog .eql 3 v267 v271 h272 else Res.ok undef h272)).bind fun v273 h274 =>
  (condV (some v263) (Res.ok v273 h274) (Res.ok (.bool false) h274)).bind fun v275 h276 =>
  condV (some v275) (
    (loadR Prog 137 a8 h276).bind fun v277 h278 =>
    (storeR Prog 137 a6 v277 h278).bind fun _v279 h280 =>
    .ok (.ret, [(6, a6), (7, (.bool true))]) h280)
  (
    .ok (.normal, [(0, a0), (6, a6), (8, a8), (11, a11), (12, a12)]) h276) := by kernel_rfl
theorem swashref07_Read_l1k_x0 (k : Nat) (call : Caller) (a0 a6 a8 a12 a81 : Value) (h : Heap) : swashref07_Read_l1k k call (.exit 0) [(0, a0), (6, a6), (8, a8), (12, a12), (81, a81)] h =
  (buildR Prog 137 [] h).bind fun v281 h282 =>
  (storeR Prog 137 a6 v281 h282).bind fun _v283 h284 =>
  (loadR Prog 137 a6 h284).bind fun v285 h286 =>
  .ok (.tuple #[v285, (.bool false)]) h286 := by kernel_rfl
theorem swashref07_Read_l1k_r (k : Nat) (call : Caller) (a6 a7 : Value) (h : Heap) : swashref07_Read_l1k k call .ret [(6, a6), (7, a7)] h =
  (loadR Prog 137 a6 h).bind fun v287 h288 =>
  .ok (.tuple #[v287, a7]) h288 := by kernel_rfl
def swashref07_Class (k : Nat) (call : Caller) (a0 a1 : Value) (h : Heap) : Res Value :=
  (boxR a0 h).bind fun v1 h2 =>
  (binR Prog .eql 3 a1 (.int .i64 65535) h2).bind fun v3 h4 =>
  condV (some v3) (
    .ok (.int .i64 2) h4)
  (
    (fieldAddrR Prog 137 v1 7 h4).bind fun v5 h6 =>
    (loadR Prog 88 v5 h6).bind fun v7 h8 =>
    (call F.swashref06_Get [v7, a1] h8).bind fun v9 h10 =>
    (extractR v9 0 h10).bind fun v11 h12 =>
    (extractR v9 1 h12).bind fun v13 h14 =>
    (unR .not v13 h14).bind fun v15 h16 =>
    ((bif wantVal v15 false then Res.ok v11 h16 else Res.ok undef h16)).bind fun v17 h18 =>
    ((bif wantVal v15 false then fieldAddrR Prog 137 v1 1 h18 else Res.ok undef h18)).bind fun v19 h20 =>
    ((bif wantVal v15 false then loadR Prog 3 v19 h20 else Res.ok undef h20)).bind fun v21 h22 =>
    ((bif wantVal v15 false then binR Prog .geq 3 v17 v21 h22 else Res.ok undef h22)).bind fun v23 h24 =>
    (condV (some v15) (Res.ok (.bool true) h24) (Res.ok v23 h24)).bind fun v25 h26 =>
    condV (some v25) (
      .ok (.int .i64 1) h26)
    (
      .ok v11 h26))
theorem swashref07_Class_R (k : Nat) (a0 a1 : Value) (h : Heap) : R (T k) F.swashref07_Class [a0, a1] h = nrm .gc h (swashref07_Class k (R (T k)) a0 a1 h) :=
  (R_body (t := T k) (T_scott k) (by kernel_rfl) _ _).trans (by kernel_rfl)
def swashref07_needs_l1 (k : Nat) (call : Caller) : Env → Heap → Res (AExit × Env) := loopB (C k) call F.swashref07_needs [1, 1, 0, 1, 0, 0]
def swashref07_needs_l1k (k : Nat) (call : Caller) : Kont Value := kBlock 0 (kSeq (pieceK (C k) call F.swashref07_needs [1, 1, 1]) (kDone Prog (resOf Prog F.swashref07_needs)))
def swashref07_needs (k : Nat) (call : Caller) (a0 a1 a2 a3 : Value) (h : Heap) : Res Value :=
  (loopN (swashref07_needs_l1 k call) loopFuel [(0, a0), (1, a1), (2, a2), (3, a3), (9, (.int .i64 0)), (10, (.int .i64 0))] h).bind fun r1 h2 =>
  swashref07_needs_l1k k call r1.1 r1.2 h2
theorem swashref07_needs_R (k : Nat) (a0 a1 a2 a3 : Value) (h : Heap) : R (T k) F.swashref07_needs [a0, a1, a2, a3] h = nrm .gc h (swashref07_needs k (R (T k)) a0 a1 a2 a3 h) :=
  (R_body (t := T k) (T_scott k) (by kernel_rfl) _ _).trans (by kernel_rfl)
theorem swashref07_needs_l1_eq (k : Nat) (call : Caller) (a0 a1 a2 a3 a9 a10 : Value) (h : Heap) : swashref07_needs_l1 k call [(0, a0), (1, a1), (2, a2), (3, a3), (9, a9), (10, a10)] h =
  (binR Prog .lss 3 a10 a2 h).bind fun v3 h4 =>
  condV (some v3) (
    (binR Prog .mul 3 a10 a3 h4).bind fun v5 h6 =>
    (binR Prog .add 3 a1 v5 h6).bind fun v7 h8 =>
    (call F.swashref01_U [a0, v7, (.int .i64 2)] h8).bind fun v9 h10 =>
    (binR Prog .add 3 v9 (.int .i64 1) h10).bind fun v11 h12 =>
    (builtinV Prog .max [3, 3] [a9, v11] h12).bind fun v13 h14 =>
    (binR Prog .add 3 a10 (.int .i64 1) h14).bind fun v15 h16 =>
    .ok (.normal, [(0, a0), (1, a1), (2, a2), (3, a3), (9, v13), (10, v15)]) h16)
  (
    .ok ((.exit 0), [(0, a0), (1, a1), (2, a2), (3, a3), (9, a9), (10, a10), (13, v3)]) h4) :=
  (loopB_eq _ _).trans (by kernel_rfl)
theorem swashref07_needs_l1k_x0 (k : Nat) (call : Caller) (a0 a1 a2 a3 a9 a10 a13 : Value) (h : Heap) : swashref07_needs_l1k k call (.exit 0) [(0, a0), (1, a1), (2, a2), (3, a3), (9, a9), (10, a10), (13, a13)] h =
  .ok a9 h := by kernel_rfl
def swashref07_Entry_j1 (k : Nat) (call : Caller) (a2 a4 a5 a6 : Value) (h : Heap) : Res Value :=
  kSeq (pieceK (C k) call F.swashref07_Entry [1, 1, 1, 1]) (kDone Prog (resOf Prog F.swashref07_Entry)) .normal [(2, a2), (4, a4), (5, a5), (6, a6)] h
def swashref07_Entry_j2 (k : Nat) (call : Caller) (a2 a4 a5 a6 a28 : Value) (h : Heap) : Res Value :=
  kSeq (pieceK (C k) call F.swashref07_Entry [1, 1, 1, 1]) (kDone Prog (resOf Prog F.swashref07_Entry)) .normal [(2, a2), (4, a4), (5, a5), (6, a6), (28, a28)] h
def swashref07_Entry_j3 (k : Nat) (call : Caller) (a4 a6 : Value) (h : Heap) : Res Value :=
  kSeq (pieceK (C k) call F.swashref07_Entry [1, 1, 1, 1, 1]) (kDone Prog (resOf Prog F.swashref07_Entry)) .normal [(4, a4), (6, a6)] h
def swashref07_Entry_j4 (k : Nat) (call : Caller) (a2 a4 a5 a6 a37 : Value) (h : Heap) : Res Value :=
  kSeq (pieceK (C k) call F.swashref07_Entry [1, 1, 1, 1, 1]) (kDone Prog (resOf Prog F.swashref07_Entry)) .normal [(2, a2), (4, a4), (5, a5), (6, a6), (37, a37)] h
def swashref07_Entry (k : Nat) (call : Caller) (a0 a1 : Value) (h : Heap) : Res Value :=
  (boxR a0 h).bind fun v1 h2 =>
  (allocR Prog 150 h2).bind fun v3 h4 =>
  (fieldAddrR Prog 137 v1 3 h4).bind fun v5 h6 =>
  (loadR Prog 3 v5 h6).bind fun v7 h8 =>
  (fieldAddrR Prog 137 v1 6 h8).bind fun v9 h10 =>
  (loadR Prog 3 v9 h10).bind fun v11 h12 =>
  (binR Prog .mul 3 (.int .i64 2) v11 h12).bind fun v13 h14 =>
  (binR Prog .add 3 (.int .i64 4) v13 h14).bind fun v15 h16 =>
  (binR Prog .mul 3 a1 v15 h16).bind fun v17 h18 =>
  (binR Prog .add 3 v7 v17 h18).bind fun v19 h20 =>
  (fieldAddrR Prog 137 v1 0 h20).bindN fun v21 h22 =>
  (loadR Prog 65 v21 h22).bindN fun v23 h24 =>
  (call F.swashref01_U [v23, v19, (.int .i64 2)] h24).bindT (fun p27 h28 => (fieldAddrR Prog 137 v1 0 h24).bindN fun v29 h30 => (loadR Prog 65 v29 h30).bindN fun v31 h32 => (binR Prog .add 3 v19 (.int .i64 2) h32).bindN fun v33 h34 => (allocR Prog 150 h34).bindN fun v35 h36 => chkR ((okVal (loadR Prog 65 v29 h20) v31 && true) && true) (.panic p27 h28)) fun v25 h26 =>
  (fieldAddrR Prog 137 v1 0 h26).bindN fun v37 h38 =>
  (loadR Prog 65 v37 h38).bindN fun v39 h40 =>
  (binR Prog .add 3 v19 (.int .i64 2) h40).bindN fun v41 h42 =>
  (call F.swashref01_U [v39, v41, (.int .i64 2)] h42).bindT (fun p45 h46 => (allocR Prog 150 h42).bindN fun v47 h48 => chkR ((okVal (loadR Prog 65 v37 h20) v39 && true) && true) (.panic p45 h46)) fun v43 h44 =>
  (buildR Prog 150 [(0, v25), (1, v43)] h44).bindN fun v49 h50 =>
  (allocR Prog 150 h50).bindN fun v51 h52 =>
  (storeR Prog 150 v51 v49 h52).bindN fun _v53 h54 =>
  chkR ((okVal (loadR Prog 65 v37 h20) v39 && true) && true) (
  (fieldAddrR Prog 137 v1 6 h54).bind fun v55 h56 =>
  (loadR Prog 3 v55 h56).bind fun v57 h58 =>
  (binR Prog .gtr 3 v57 (.int .i64 0) h58).bind fun v59 h60 =>
  condV (some v59) (
    (fieldAddrR Prog 137 v1 0 h60).bind fun v61 h62 =>
    (loadR Prog 65 v61 h62).bind fun v63 h64 =>
    (binR Prog .add 3 v19 (.int .i64 4) h64).bind fun v65 h66 =>
    (call F.swashref01_U [v63, v65, (.int .i64 2)] h66).bind fun v67 h68 =>
    (fieldAddrR Prog 150 v51 2 h68).bind fun v69 h70 =>
    (storeR Prog 3 v69 v67 h70).bind fun _v71 h72 =>
    swashref07_Entry_j1 k call v1 v3 v19 v51 h72)
  (
    swashref07_Entry_j2 k call v1 v3 v19 v51 v59 h60))
theorem swashref07_Entry_R (k : Nat) (a0 a1 : Value) (h : Heap) : R (T k) F.swashref07_Entry [a0, a1] h = nrm .gc h (swashref07_Entry k (R (T k)) a0 a1 h) :=
  (R_body (t := T k) (T_scott k) (by kernel_rfl) _ _).trans (by kernel_rfl)
theorem swashref07_Entry_j1_eq (k : Nat) (call : Caller) (a2 a4 a5 a6 : Value) (h : Heap) : swashref07_Entry_j1 k call a2 a4 a5 a6 h =
  (fieldAddrR Prog 137 a2 6 h).bind fun v73 h74 =>
  (loadR Prog 3 v73 h74).bind fun v75 h76 =>
  (binR Prog .gtr 3 v75 (.int .i64 1) h76).bind fun v77 h78 =>
  condV (some v77) (
    (fieldAddrR Prog 137 a2 0 h78).bind fun v79 h80 =>
    (loadR Prog 65 v79 h80).bind fun v81 h82 =>
    (binR Prog .add 3 a5 (.int .i64 6) h82).bind fun v83 h84 =>
    (call F.swashref01_U [v81, v83, (.int .i64 2)] h84).bind fun v85 h86 =>
    (fieldAddrR Prog 150 a6 3 h86).bind fun v87 h88 =>
    (storeR Prog 3 v87 v85 h88).bind fun _v89 h90 =>
    swashref07_Entry_j3 k call a4 a6 h90)
  (
    swashref07_Entry_j4 k call a2 a4 a5 a6 v77 h78) := by kernel_rfl
theorem swashref07_Entry_j2_eq (k : Nat) (call : Caller) (a2 a4 a5 a6 a28 : Value) (h : Heap) : swashref07_Entry_j2 k call a2 a4 a5 a6 a28 h =
  (fieldAddrR Prog 137 a2 6 h).bind fun v91 h92 =>
  (loadR Prog 3 v91 h92).bind fun v93 h94 =>
  (binR Prog .gtr 3 v93 (.int .i64 1) h94).bind fun v95 h96 =>
  condV (some v95) (
    (fieldAddrR Prog 137 a2 0 h96).bind fun v97 h98 =>
    (loadR Prog 65 v97 h98).bind fun v99 h100 =>
    (binR Prog .add 3 a5 (.int .i64 6) h100).bind fun v101 h102 =>
    (call F.swashref01_U [v99, v101, (.int .i64 2)] h102).bind fun v103 h104 =>
    (fieldAddrR Prog 150 a6 3 h104).bind fun v105 h106 =>
    (storeR Prog 3 v105 v103 h106).bind fun _v107 h108 =>
    swashref07_Entry_j3 k call a4 a6 h108)
  (
    swashref07_Entry_j4 k call a2 a4 a5 a6 v95 h96) := by kernel_rfl
theorem swashref07_Entry_j3_eq (k : Nat) (call : Caller) (a4 a6 : Value) (h : Heap) : swashref07_Entry_j3 k call a4 a6 h =
  (loadR Prog 150 a6 h).bind fun v109 h110 =>
  (storeR Prog 150 a4 v109 h110).bind fun _v111 h112 =>
  (loadR Prog 150 a4 h112).bind fun v113 h114 =>
  .ok v113 h114 := by kernel_rfl
theorem swashref07_Entry_j4_eq (k : Nat) (call : Caller) (a2 a4 a5 a6 a37 : Value) (h : Heap) : swashref07_Entry_j4 k call a2 a4 a5 a6 a37 h =
  (loadR Prog 150 a6 h).bind fun v115 h116 =>
  (storeR Prog 150 a4 v115 h116).bind fun _v117 h118 =>
  (loadR Prog 150 a4 h118).bind fun v119 h120 =>
  .ok v119 h120 := by kernel_rfl
def swashref07_Step (k : Nat) (call : Caller) (a0 a1 a2 : Value) (h : Heap) : Res Value :=
  (boxR a0 h).bind fun v1 h2 =>
  (allocR Prog 150 h2).bind fun v3 h4 =>
  (binR Prog .lss 3 a1 (.int .i64 0) h4).bind fun v5 h6 =>
  ((bif wantVal v5 false then Res.ok a1 h6 else Res.ok undef h6)).bind fun v7 h8 =>
  ((bif wantVal v5 false then fieldAddrR Prog 137 v1 4 h8 else Res.ok undef h8)).bind fun v9 h10 =>
  ((bif wantVal v5 false then loadR Prog 3 v9 h10 else Res.ok undef h10)).bind fun v11 h12 =>
  ((bif wantVal v5 false then binR Prog .geq 3 v7 v11 h12 else Res.ok undef h12)).bind fun v13 h14 =>
  (condV (some v5) (Res.ok (.bool true) h14) (Res.ok v13 h14)).bind fun v15 h16 =>
  ((bif wantVal v15 false then Res.ok a2 h16 else Res.ok undef h16)).bind fun v17 h18 =>
  ((bif wantVal v15 false then binR Prog .lss 3 v17 (.int .i64 0) h18 else Res.ok undef h18)).bind fun v19 h20 =>
  (condV (some v15) (Res.ok (.bool true) h20) (Res.ok v19 h20)).bind fun v21 h22 =>
  ((bif wantVal v21 false then Res.ok a2 h22 else Res.ok undef h22)).bind fun v23 h24 =>
  ((bif wantVal v21 false then fieldAddrR Prog 137 v1 1 h24 else Res.ok undef h24)).bind fun v25 h26 =>
  ((bif wantVal v21 false then loadR Prog 3 v25 h26 else Res.ok undef h26)).bind fun v27 h28 =>
  ((bif wantVal v21 false then binR Prog .geq 3 v23 v27 h28 else Res.ok undef h28)).bind fun v29 h30 =>
  (condV (some v21) (Res.ok (.bool true) h30) (Res.ok v29 h30)).bind fun v31 h32 =>
  condV (some v31) (
    (buildR Prog 150 [] h32).bind fun v33 h34 =>
    (storeR Prog 150 v3 v33 h34).bind fun _v35 h36 =>
    (loadR Prog 150 v3 h36).bind fun v37 h38 =>
    .ok (.tuple #[v37, (.bool false)]) h38)
  (
    (loadR Prog 137 v1 h32).bindN fun v39 h40 =>
    (fieldAddrR Prog 137 v1 0 h40).bindN fun v41 h42 =>
    (loadR Prog 65 v41 h42).bindN fun v43 h44 =>
    (fieldAddrR Prog 137 v1 2 h44).bindN fun v45 h46 =>
    (loadR Prog 3 v45 h46).bindN fun v47 h48 =>
    (fieldAddrR Prog 137 v1 1 h48).bindN fun v49 h50 =>
    (loadR Prog 3 v49 h50).bindN fun v51 h52 =>
    (binR Prog .mul 3 a1 v51 h52).bindN fun v53 h54 =>
    (binR Prog .add 3 v53 a2 h54).bindN fun v55 h56 =>
    (binR Prog .mul 3 (.int .i64 2) v55 h56).bindN fun v57 h58 =>
    (binR Prog .add 3 v47 v57 h58).bindN fun v59 h60 =>
    (call F.swashref01_U [v43, v59, (.int .i64 2)] h60).bindT (fun p63 h64 => .panic p63 h64) fun v61 h62 =>
    (call F.swashref07_Entry [v39, v61] h62).bindT (fun p67 h68 => chkR ((okVal (loadR Prog 137 v1 h62) v39 && true) && true) (.panic p67 h68)) fun v65 h66 =>
    (storeR Prog 150 v3 v65 h66).bindN fun _v69 h70 =>
    chkR ((okVal (loadR Prog 137 v1 h62) v39 && true) && true) (
    (loadR Prog 150 v3 h70).bind fun v71 h72 =>
    .ok (.tuple #[v71, (.bool true)]) h72))
theorem swashref07_Step_R (k : Nat) (a0 a1 a2 : Value) (h : Heap) : R (T k) F.swashref07_Step [a0, a1, a2] h = nrm .gc h (swashref07_Step k (R (T k)) a0 a1 a2 h) :=
  (R_body (t := T k) (T_scott k) (by kernel_rfl) _ _).trans (by kernel_rfl)
end
end Go.Sw
end
section
namespace Go.Sw
open Go.RowKit
theorem Star.stAll {H0 H : Heap} {L : List It} (h : Star H0 H L) (i : Nat) {c : Nat} {cells : List Value} {e : Nat} (hi : L[i]? = some (itBlk c ⟨cells, e, false⟩)) (vs : List Value) (n : Nat) (hn : cells.length = n) (hv : vs.length = n) :
    ∃ H', stR n (.pointer (some ⟨c, 0, none⟩)) (.agg vs.toArray) H = .ok undef H' ∧ Star H0 H' (L.set i (itBlk c ⟨vs, e, false⟩)) ∧ H'.n = H.n := by
  have hg := h.get i hi
  refine ⟨H.set c (some ⟨vs, e, false⟩), ?_, h.step i hi (by simp) (fun d _ hd => ?_) _ ?_ fun b hb => .inl hb, by simp⟩
  · have hd : cells.drop vs.length = [] := by rw [List.drop_eq_nil_iff]; omega
    simp [hg, hv, hd]
    rw [hv] at hd
    rw [if_pos (by omega), hd]
    simp
  · rw [get_set_ne]
    exact fun e => hd (show d ∈ [c] by simp [e])
  · exact get_set_eq _ _ _ (by rw [hg]; rfl)
theorem needs_run (k : Nat) (b : List Int) (hb : Byt b) (i step : Int) (n : Nat) (hi : 0 ≤ i ∧ i < 2 ^ 32) (hs : 0 ≤ step ∧ step ≤ 8) (hn : n < 2 ^ 33) (hl : b.length < 2 ^ 31) (H : Heap) :
    R (T k) F.swashref07_needs [lv encB b, .int .i64 i, .int .i64 n, .int .i64 step] H = .ok (.int .i64 (needsS b i step n)) H := by
  have hU := fun j H' => refU_run k (H := H') (Sl.lv H' 1 b) hb j 2 (by omega) (by omega)
  rw [swashref07_needs_R]
  obtain ⟨x, e', H1, hr, rfl, rfl, a, rfl⟩ := loop_up (body := swashref07_needs_l1 k (R (T k))) n
    (fun j e H' => H' = H ∧ e = [(0, lv encB b), (1, .int .i64 i), (2, .int .i64 n), (3, .int .i64 step), (9, .int .i64 (needsS b i step j)), (10, .int .i64 j)])
    (fun x e H' => H' = H ∧ x = .exit 0 ∧ ∃ a, e = [(0, lv encB b), (1, .int .i64 i), (2, .int .i64 n), (3, .int .i64 step), (9, .int .i64 (needsS b i step n)), (10, a), (13, .bool false)])
    (e0 := [(0, lv encB b), (1, .int .i64 i), (2, .int .i64 n), (3, .int .i64 step), (9, .int .i64 0), (10, .int .i64 0)]) (H0 := H) ⟨rfl, rfl⟩ (by omega)
    (fun j e H' hj ⟨hH, he⟩ => by
      subst he hH
      have hlt : (j : Int) < n := by omega
      have hm0 : 0 ≤ (j : Int) * step := Int.mul_nonneg (by omega) hs.1
      have hm1 : (j : Int) * step ≤ 8589934592 * 8 := Int.mul_le_mul (by omega) (by omega) (by omega) (by omega)
      have hu : ∀ H', R (T k) F.swashref01_U [lv encB b, .int .i64 (i + (j : Int) * step), .int .i64 2] H' = .ok (.int .i64 (gU b (i + (j : Int) * step) 2)) H' := fun H' => hU _ H'
      have hg := gU_two hb (i + (j : Int) * step)
      have hN : needsS b i step (j + 1) = (if gU b (i + (j : Int) * step) 2 + 1 > needsS b i step j then gU b (i + (j : Int) * step) 2 + 1 else needsS b i step j) := by
        unfold needsS
        rw [List.range_succ, List.map_append, List.map_singleton, needL_snoc]
        split <;> omega
      refine .inl ⟨_, H', ?_, rfl, rfl⟩
      rw [swashref07_needs_l1_eq, hN]
      generalize gU b (i + (j : Int) * step) 2 = y at *
      simp -implicitDefEqProofs (disch := omega) [hlt, hu])
    (fun e H' ⟨hH, he⟩ => by
      subst he hH
      refine ⟨.exit 0, _, H', ?_, by simp, rfl, rfl, .int .i64 n, rfl⟩
      rw [swashref07_needs_l1_eq]
      simp -implicitDefEqProofs)
  refine nrm_gc (Pure.of ?_) (.int _ _)
  simp -implicitDefEqProofs [swashref07_needs, hr, swashref07_needs_l1k_x0]
abbrev rmCells (b : List Int) (n j q S N w : Int) (tb : List Int) (ps : List RP) : List Value :=
  [lv encB b, .int .i64 n, .int .i64 j, .int .i64 q, .int .i64 S, .int .i64 N, .int .i64 w, lv encB tb, lv encRP ps]
abbrev rmV (r : RMach) : Value := .agg (rmCells r.b r.cl r.rowsAt r.entsAt r.states r.n r.words r.tb r.parts).toArray
theorem Flat.rm (r : RMach) : Flat (rmV r) := .aggL (.cons (Flat.B _) (.cons (.int _ _) (.cons (.int _ _) (.cons (.int _ _) (.cons (.int _ _) (.cons (.int _ _) (.cons (.int _ _) (.cons (Flat.B _) (.cons (Flat.RPs _) .nil)))))))))
abbrev rmZ : RMach := ⟨[], 0, 0, 0, 0, 0, 0, [], []⟩
def rmO (o : Option RMach) : Value := rmV (o.getD rmZ)
abbrev zCells : List Value := [.slice none 0 0, .int .i64 0, .int .i64 0, .int .i64 0, .int .i64 0, .int .i64 0, .int .i64 0, .slice none 0 0, .slice none 0 0]
set_option maxHeartbeats 1000000 in
theorem ref7_loop (k : Nat) (b : List Int) (hb : Byt b) (hl : b.length < 2 ^ 31) {n w j q : Int} (hn : 4 ≤ n ∧ n ≤ 65535) (hw : 0 ≤ w ∧ w ≤ 2) {rv ev : List Int} (hrv : restS b j = some rv) (hev : restS b q = some ev) (tb : List Int) (ps : List RP) {H0 H : Heap} {z c : Nat}
    (g : Star H0 H [itBlk z ⟨zCells, 1, false⟩, itBlk c ⟨rmCells b n j q 2 0 w tb ps, 1, false⟩]) :
    match closeA rv ev n w 2 with
    | some x => ∃ H' S N, loopN (swashref07_Read_l1 k (R (T k))) loopFuel [(0, lv encB b), (6, ptrV z), (8, ptrV c), (11, .bool true), (12, .int .i64 (4 + 2 * w))] H = .ok (.ret, [(6, ptrV z), (7, .bool true)]) H' ∧ Ext H0 H' ∧ H'.get z = some ⟨rmCells b n j q S N w tb ps, 1, false⟩ ∧ S = x.1.length ∧ N = x.2.length
    | none => ∃ H', loopN (swashref07_Read_l1 k (R (T k))) loopFuel [(0, lv encB b), (6, ptrV z), (8, ptrV c), (11, .bool true), (12, .int .i64 (4 + 2 * w))] H = .ok (.exit 0, [(0, lv encB b), (6, ptrV z), (8, ptrV c), (12, .int .i64 (4 + 2 * w)), (81, .bool false)]) H' ∧ Ext H0 H' ∧ H'.get z = some ⟨zCells, 1, false⟩ := by
  have hj := (restS_iff.1 hrv).1
  have hq := (restS_iff.1 hev).1
  have hbE := hb.rest hev
  have hbR := hb.rest hrv
  obtain ⟨n, rfl⟩ := Int.eq_ofNat_of_zero_le (show 0 ≤ n by omega)
  have hRows := fun i n z H' => refRows_run k b.length i n z (by omega) (by omega) H'
  obtain ⟨x, e', H1, hr, hQ⟩ := loopDec (body := swashref07_Read_l1 k (R (T k)))
    (fun m e H' => ∃ (S N : Nat) (fl : Bool), e = [(0, lv encB b), (6, ptrV z), (8, ptrV c), (11, .bool fl), (12, .int .i64 (4 + 2 * w))] ∧ 2 ≤ S ∧ S ≤ 65536 ∧ N ≤ 65536 ∧ Star H0 H' [itBlk z ⟨zCells, 1, false⟩, itBlk c ⟨rmCells b n j q S N w tb ps, 1, false⟩] ∧
      (fl = true → m = (65537 - S) * 65538 + (65537 - N) + 1 ∧ closeA rv ev n w 2 = closeA rv ev n w S ∧ ∀ rs, rowsTo rv n S = some rs → (N : Int) ≤ needR rs) ∧ (fl = false → m = 0 ∧ closeA rv ev n w 2 = none))
    (fun x e H' => (∃ (y : List (List Int) × List En) (S N : Int), closeA rv ev n w 2 = some y ∧ x = .ret ∧ e = [(6, ptrV z), (7, .bool true)] ∧ Ext H0 H' ∧ H'.get z = some ⟨rmCells b n j q S N w tb ps, 1, false⟩ ∧ S = y.1.length ∧ N = y.2.length) ∨
      (closeA rv ev n w 2 = none ∧ x = .exit 0 ∧ e = [(0, lv encB b), (6, ptrV z), (8, ptrV c), (12, .int .i64 (4 + 2 * w)), (81, .bool false)] ∧ Ext H0 H' ∧ H'.get z = some ⟨zCells, 1, false⟩))
    ((65537 - 2) * 65538 + 65537 + 1) (e0 := [(0, lv encB b), (6, ptrV z), (8, ptrV c), (11, .bool true), (12, .int .i64 (4 + 2 * w))]) (H0 := H) ⟨2, 0, true, rfl, by omega, by omega, by omega, g, fun _ => ⟨rfl, rfl, fun rs _ => needR_nonneg rs⟩, fun h => by cases h⟩ (by omega)
    (fun m e H' ⟨S, N, fl, he, hS2, hS6, hN6, g, ht, hf⟩ => by
      subst he
      cases fl with
      | false =>
        obtain ⟨hm, hc⟩ := hf rfl
        refine .inr ⟨.exit 0, _, H', ?_, by simp, .inr ⟨hc, rfl, rfl, g.ext, g.get 0 rfl⟩⟩
        rw [swashref07_Read_l1_eq]
        simp -implicitDefEqProofs
      | true =>
        obtain ⟨hm, hc, hNle⟩ := ht rfl
        clear hf ht
        have hcA := closeA_eq (rv := rv) hbE (n := (n : Int)) (w := w) hS6
        have hM := g.get 1 rfl
        have hcn : ¬ c = H'.n := by have := Heap.get_lt hM; omega
        have e0 : stR 9 (.pointer (some ⟨H'.n, 0, none⟩)) (.agg (rmCells b n j q S N w tb ps).toArray) (H'.push ⟨zCells, 1, false⟩) = .ok undef (H'.push ⟨rmCells b n j q S N w tb ps, 1, false⟩) := by simp
        have g1 := g.push ⟨rmCells b n j q S N w tb ps, 1, false⟩
        obtain ⟨P, hP⟩ : ∃ P, P = H'.push ⟨rmCells b n j q S N w tb ps, 1, false⟩ := ⟨_, rfl⟩
        rw [← hP] at g1 e0
        simp only [List.cons_append, List.nil_append] at g1
        have hMP := g1.get 1 rfl
        have hWP := g1.get 2 rfl
        have hre := rows_there hrv (show (0 : Int) < n by omega) (s := S) (by omega)
        have hR1 := fun H' => hRows j S (2 * n) H'
        cases hrt : rowsTo rv n S with
        | none =>
          rw [hrt] at hre
          simp at hre
          rw [hre] at hR1
          rw [hrt] at hcA
          refine .inl ⟨0, _, P, ?_, by omega, S, N, false, rfl, hS2, hS6, hN6, g1.take 2, (fun h => by cases h), fun _ => ⟨rfl, by rw [hc, hcA]; rfl⟩⟩
          rw [swashref07_Read_l1_eq]
          simp -implicitDefEqProofs (disch := omega) [-stR_ptr, hM, e0, hMP, hR1, swashref07_Read_j2_eq, swashref07_Read_j4_eq]
        | some rs =>
          rw [hrt] at hre
          simp at hre
          rw [hre] at hR1
          rw [hrt, Option.bind_some] at hcA
          have hrl : rs.length = S := by have := mapO_len hrt; simpa using this
          have hneed := rows_needs hrv (show (0 : Int) < n by omega) hrt
          have hNle := hNle rs hrt
          have hn6 := rowsTo_need hbR hrt
          have hn0 := needR_nonneg rs
          have hSn : (S : Int) * (n : Int) = ((S * n : Nat) : Int) := by simp
          have hSnb : S * n ≤ 65536 * 65535 := Nat.mul_le_mul (by omega) (by omega)
          rw [Int.toNat_natCast] at hneed
          have hnr := fun H' => needs_run k b hb j 2 (S * n) (by omega) (by omega) (by omega) hl H'
          rw [hneed, ← hSn] at hnr
          obtain ⟨N', hN'⟩ : ∃ N' : Nat, (N' : Int) = needR rs := ⟨(needR rs).toNat, by omega⟩
          have hmx : (if needR rs > N then needR rs else (N : Int)) = (N' : Int) := by rw [hN']; split <;> omega
          obtain ⟨P2, e2, g2, _⟩ := g1.stCell 1 rfl 5 (v := .int .i64 N') rfl rfl (by simp)
          simp only [List.set_cons_zero, List.set_cons_succ] at g2
          have hMP2 := g2.get 1 rfl
          have hWP2 := g2.get 2 rfl
          have hR2 := fun H' => hRows q N' (4 + 2 * w) H'
          have hee := ents_there hev hw.1 N'
          have hb1 : (S : Int) * (n : Int) ≤ 65536 * 65535 := by omega
          have hb0 : 0 ≤ (S : Int) * (n : Int) := by omega
          rw [show (needR rs).toNat = N' by omega] at hcA
          cases het : entsTo ev w N' with
          | none =>
            rw [het] at hee
            simp at hee
            rw [hee] at hR2
            rw [het] at hcA
            refine .inl ⟨0, _, P2, ?_, by omega, S, N', false, rfl, hS2, hS6, by omega, g2.take 2, (fun h => by cases h), fun _ => ⟨rfl, by rw [hc, hcA]; rfl⟩⟩
            rw [swashref07_Read_l1_eq]
            simp -implicitDefEqProofs (disch := omega) [-stR_ptr, hM, e0, hMP, hR1, hnr, hmx, e2, hMP2, hR2, swashref07_Read_j1_eq, swashref07_Read_j4_eq]
          | some es =>
            rw [het] at hee
            simp at hee
            rw [hee] at hR2
            rw [het, Option.bind_some] at hcA
            have hel : es.length = N' := by have := mapO_len het; simpa using this
            have hE := needE_le hbE het
            have hneed2 := ents_needs hev hw het
            have hnr2 := fun H' => needs_run k b hb q (4 + 2 * w) N' (by omega) (by omega) (by omega) hl H'
            rw [hneed2] at hnr2
            obtain ⟨S', hS'⟩ : ∃ S' : Nat, (S' : Int) = max (S : Int) (needE es) := ⟨(max (S : Int) (needE es)).toNat, by omega⟩
            have hEe : needE es = max 2 (needL (es.map En.next)) := rfl
            have hmx2 : (if needL (es.map En.next) > S then needL (es.map En.next) else (S : Int)) = (S' : Int) := by rw [hS', hEe]; split <;> omega
            have hL6 : needL (es.map En.next) ≤ 65536 := by omega
            obtain ⟨P3, e3, g3, _⟩ := g2.stCell 1 rfl 4 (v := .int .i64 S') rfl rfl (by simp)
            simp only [List.set_cons_zero, List.set_cons_succ] at g3
            have hMP3 := g3.get 1 rfl
            have hWP3 := g3.get 2 rfl
            by_cases hsame : S' = S ∧ N' = N
            · obtain ⟨rfl, rfl⟩ := hsame
              rw [if_pos (by omega)] at hcA
              obtain ⟨P4, e4, g4, _⟩ := g3.stAll 0 rfl (rmCells b n j q S' N' w tb ps) 9 rfl rfl
              simp only [List.set_cons_zero, List.set_cons_succ] at g4
              refine .inr ⟨.ret, _, P4, ?_, by simp, .inl ⟨_, S', N', by rw [hc, hcA], rfl, rfl, g4.ext, g4.get 0 rfl, by rw [hrl], by rw [hel]⟩⟩
              rw [swashref07_Read_l1_eq]
              simp -implicitDefEqProofs (disch := omega) [-stR_ptr, hM, e0, hMP, hR1, hnr, hmx, e2, hMP2, hR2, swashref07_Read_j1_eq, hnr2, hmx2, e3, hMP3, hWP3, swashref07_Read_j3_eq, e4]
            · refine .inl ⟨(65537 - S') * 65538 + (65537 - N') + 1, _, P3, ?_, ?_, S', N', true, rfl, by omega, by omega, by omega, g3.take 2, fun _ => ⟨rfl, ?_, ?_⟩, fun h => by cases h⟩
              · by_cases hs1 : S' = S
                · have hs2 : ((N' : Int) == (N : Int)) = false := by simp; omega
                  subst hs1
                  rw [swashref07_Read_l1_eq]
                  simp -implicitDefEqProofs (disch := omega) [-stR_ptr, hM, e0, hMP, hR1, hnr, hmx, e2, hMP2, hR2, swashref07_Read_j1_eq, hnr2, hmx2, e3, hMP3, hWP3, swashref07_Read_j3_eq, hs2]
                · have hs2 : ((S' : Int) == (S : Int)) = false := by simp; omega
                  rw [swashref07_Read_l1_eq]
                  simp -implicitDefEqProofs (disch := omega) [-stR_ptr, hM, e0, hMP, hR1, hnr, hmx, e2, hMP2, hR2, swashref07_Read_j1_eq, hnr2, hmx2, e3, hMP3, hWP3, swashref07_Read_j3_eq, hs2]
              · omega
              · rw [hc]
                by_cases hcl : (needE es).toNat ≤ S
                · rw [show S' = S by omega]
                · rw [hcA, if_neg hcl, show S' = (needE es).toNat by omega]
              · intro rt hrt2
                have := needR_mono (s := S) (t := S') (by omega) hrt hrt2
                omega)
  rcases hQ with ⟨y, S, N, h1, rfl, rfl, h2, h3, h4⟩ | ⟨h1, rfl, rfl, h2, h3⟩
  · rw [h1]; exact ⟨H1, S, N, hr, h2, h3, h4⟩
  · rw [h1]; exact ⟨H1, hr, h2, h3⟩
end Go.Sw
end
section
namespace Go.Sw
open Go.RowKit
theorem gU_four {b : List Int} (hb : Byt b) (i : Int) : -1 ≤ gU b i 4 ∧ gU b i 4 < 4294967296 := by
  unfold gU
  cases h : uS b i 4 with
  | none => simp
  | some x => have := uS_four hb h; simp; omega
theorem gU_lt {b : List Int} {i : Int} (h : ¬ gU b i 4 < 0) : uS b i 4 = some (gU b i 4) := by
  unfold gU at h ⊢
  cases hu : uS b i 4 with
  | none => rw [hu] at h; simp at h
  | some x => rfl
set_option maxHeartbeats 1000000 in
theorem ref7Read_run (k : Nat) (b : List Int) (hb : Byt b) (g w : Int) (hg : 1 ≤ g ∧ g ≤ 65535) (hw : w = 0 ∨ w = 1 ∨ w = 2) (hl : b.length < 2 ^ 31) (H : Heap) :
    R (T k) F.swashref07_Read [lv encB b, .int .i64 g, .int .i64 w] H = .ok (.tuple #[rmO (refMachS b g w), .bool (refMachS b g w).isSome]) H := by
  rw [swashref07_Read_R]
  have hU := fun j H' => refU_run k (H := H') (Sl.lv H' 1 b) hb j 4 (by omega) (by omega)
  have u0 : ∀ H', R (T k) F.swashref01_U [lv encB b, .int .i64 0, .int .i64 4] H' = .ok (.int .i64 (gU b 0 4)) H' := fun H' => hU _ H'
  have u4 : ∀ H', R (T k) F.swashref01_U [lv encB b, .int .i64 4, .int .i64 4] H' = .ok (.int .i64 (gU b 4 4)) H' := fun H' => hU _ H'
  have u8 : ∀ H', R (T k) F.swashref01_U [lv encB b, .int .i64 8, .int .i64 4] H' = .ok (.int .i64 (gU b 8 4)) H' := fun H' => hU _ H'
  have u12 : ∀ H', R (T k) F.swashref01_U [lv encB b, .int .i64 12, .int .i64 4] H' = .ok (.int .i64 (gU b 12 4)) H' := fun H' => hU _ H'
  have b0 := gU_four hb 0
  have b4 := gU_four hb 4
  have b8 := gU_four hb 8
  have b12 := gU_four hb 12
  have fl : ∀ o : Option RMach, Flat (.tuple #[rmO o, .bool o.isSome]) := fun o => .tupleL (.cons (Flat.rm _) (.cons (.bool _) .nil))
  obtain ⟨n, hn⟩ : ∃ n, gU b 0 4 = n := ⟨_, rfl⟩
  obtain ⟨i, hi⟩ : ∃ i, gU b 4 4 = i := ⟨_, rfl⟩
  obtain ⟨j, hj⟩ : ∃ j, gU b 8 4 = j := ⟨_, rfl⟩
  obtain ⟨q, hq⟩ : ∃ q, gU b 12 4 = q := ⟨_, rfl⟩
  rw [hn] at u0 b0
  rw [hi] at u4 b4
  rw [hj] at u8 b8
  rw [hq] at u12 b12
  obtain ⟨M1, hM1⟩ : ∃ M1 : Blk, M1 = ⟨[lv encB b, .int .i64 n, .int .i64 j, .int .i64 q, .int .i64 2, .int .i64 0, .int .i64 w, .slice none 0 0, .slice none 0 0], 1, false⟩ := ⟨_, rfl⟩
  have hx2 : Ext H ((H.push ⟨zCells, 1, false⟩).push M1) := ((Ext.refl H).push _).push _
  -- one thing is not as it should be
  have no : machS b g w = none → swashref07_Read k (R (T k)) (lv encB b) (.int .i64 g) (.int .i64 w) H = .ok (.tuple #[.agg zCells.toArray, .bool false]) ((H.push ⟨zCells, 1, false⟩).push M1) → nrm .fz H (swashref07_Read k (R (T k)) (lv encB b) (.int .i64 g) (.int .i64 w) H) = .ok (.tuple #[rmO (refMachS b g w), .bool (refMachS b g w).isSome]) H := fun h1 h2 => by
    have : refMachS b g w = none := by unfold refMachS; rw [h1]; rfl
    rw [this]
    exact nrm_fz (L := []) h2 rfl hx2 (fl none).alive
  have n0 : ∀ m, machS b g w = some m → (4 ≤ n ∧ n ≤ 65535) ∧ 0 ≤ i ∧ i ≤ b.length ∧ 0 ≤ j ∧ j ≤ b.length ∧ 0 ≤ q ∧ q ≤ b.length := fun m hm => by
    obtain ⟨i', j', q', tb, rv, ev, x, h0, h1, h2, h3, h4, h5, h6, h7, h8, h9, _⟩ := machS_parts hm
    have e0 := gU_some h0
    have e3 := gU_some h3
    have e6 := gU_some h6
    have e8 := gU_some h8
    rw [hn] at e0
    rw [hi] at e3
    rw [hj] at e6
    rw [hq] at e8
    have r4 := (restS_iff.1 h4).1
    have r7 := (restS_iff.1 h7).1
    have r9 := (restS_iff.1 h9).1
    omega
  have nn : ¬ ((4 ≤ n ∧ n ≤ 65535) ∧ 0 ≤ i ∧ i ≤ b.length ∧ 0 ≤ j ∧ j ≤ b.length ∧ 0 ≤ q ∧ q ≤ b.length) → machS b g w = none := fun h => by
    cases hm : machS b g w with
    | none => rfl
    | some m => exact absurd (n0 m hm) h
  by_cases c1 : n < 4
  · refine no (nn (by omega)) ?_
    rw [hM1]
    simp -implicitDefEqProofs (disch := omega) [swashref07_Read, u0, u4, u8, u12, c1]
  by_cases c2 : n > 65535
  · refine no (nn (by omega)) ?_
    rw [hM1]
    simp -implicitDefEqProofs (disch := omega) [swashref07_Read, u0, u4, u8, u12, c1, c2]
  by_cases c3 : j < 0
  · refine no (nn (by omega)) ?_
    rw [hM1]
    simp -implicitDefEqProofs (disch := omega) [swashref07_Read, u0, u4, u8, u12, c1, c2, c3]
  by_cases c4 : q < 0
  · refine no (nn (by omega)) ?_
    rw [hM1]
    simp -implicitDefEqProofs (disch := omega) [swashref07_Read, u0, u4, u8, u12, c1, c2, c3, c4]
  by_cases c5 : j > b.length
  · refine no (nn (by omega)) ?_
    rw [hM1]
    simp -implicitDefEqProofs (disch := omega) [swashref07_Read, u0, u4, u8, u12, c1, c2, c3, c4, c5]
  by_cases c6 : q > b.length
  · refine no (nn (by omega)) ?_
    rw [hM1]
    simp -implicitDefEqProofs (disch := omega) [swashref07_Read, u0, u4, u8, u12, c1, c2, c3, c4, c5, c6]
  by_cases c7 : i < 0
  · refine no (nn (by omega)) ?_
    rw [hM1]
    simp -implicitDefEqProofs (disch := omega) [swashref07_Read, u0, u4, u8, u12, c1, c2, c3, c4, c5, c6, c7]
  by_cases c8 : i > b.length
  · refine no (nn (by omega)) ?_
    rw [hM1]
    simp -implicitDefEqProofs (disch := omega) [swashref07_Read, u0, u4, u8, u12, c1, c2, c3, c4, c5, c6, c7, c8]
  clear no nn n0
  have hU0 := gU_lt (b := b) (i := 0) (by omega)
  have hU4 := gU_lt (b := b) (i := 4) (by omega)
  have hU8 := gU_lt (b := b) (i := 8) (by omega)
  have hU12 := gU_lt (b := b) (i := 12) (by omega)
  rw [hn] at hU0
  rw [hi] at hU4
  rw [hj] at hU8
  rw [hq] at hU12
  obtain ⟨tb, htb⟩ : ∃ tb, tb = b.drop i.toNat := ⟨_, rfl⟩
  have r4 : restS b i = some tb := restS_iff.2 ⟨by omega, htb⟩
  have r8 : restS b j = some (b.drop j.toNat) := restS_iff.2 ⟨by omega, rfl⟩
  have r12 : restS b q = some (b.drop q.toNat) := restS_iff.2 ⟨by omega, rfl⟩
  have hsl := fun H' => slS_lv encB_len b (some (.int .i64 i)) none none i.toNat b.length b.length (by unfold boundOf; dsimp only; rw [if_pos (by omega)]) rfl rfl (fun h => by cases h) (by omega) (Nat.le_refl _) (Nat.le_refl _) H'
  rw [List.take_length, ← htb] at hsl
  have htbb : Byt tb := hb.rest r4
  have htbl : tb.length < 2 ^ 31 := by rw [htb]; simp; omega
  have hrd := fun H' => read06_run k tb htbb g 2 hg (.inl rfl) htbl H'
  have hlr := look_ref htbb hg.1 hg.2 (.inl rfl : (2 : Int) = 2 ∨ (2 : Int) = 4)
  have hmach : machS b g w = (lookS tb g 2).bind fun tab => (closeA (b.drop j.toNat) (b.drop q.toNat) n w 2).map fun x => ⟨n, tab, x.1, x.2⟩ := by
    unfold machS
    rw [hU0, Option.bind_some, if_pos (by omega), hU4, Option.bind_some, r4, Option.bind_some]
    congr 1
    funext tab
    rw [hU8, Option.bind_some, r8, Option.bind_some, hU12, Option.bind_some, r12, Option.bind_some]
  cases hlk : lookS tb g 2 with
  | none =>
    have hm : refMachS b g w = none := by unfold refMachS; rw [hmach, hlk]; rfl
    rw [hm]
    have hrr := hlr.2 hlk
    rw [hrr] at hrd
    simp only [tabRO, Option.isSome_none] at hrd
    obtain ⟨x, e', H1, hr, rfl, rfl, rfl⟩ := loopDec (body := swashref07_Read_l1 k (R (T k)))
      (fun m e H' => H' = (((H.push ⟨zCells, 1, false⟩).push ⟨rmCells b n j q 2 0 w [] [], 1, false⟩).push ⟨[lv encB [], lv encRP []], 1, false⟩) ∧ e = [(0, lv encB b), (6, ptrV H.n), (8, ptrV (H.n + 1)), (11, .bool false), (12, .int .i64 (4 + 2 * w))])
      (fun x e H' => H' = (((H.push ⟨zCells, 1, false⟩).push ⟨rmCells b n j q 2 0 w [] [], 1, false⟩).push ⟨[lv encB [], lv encRP []], 1, false⟩) ∧ x = .exit 0 ∧ e = [(0, lv encB b), (6, ptrV H.n), (8, ptrV (H.n + 1)), (12, .int .i64 (4 + 2 * w)), (81, .bool false)])
      0 (e0 := [(0, lv encB b), (6, ptrV H.n), (8, ptrV (H.n + 1)), (11, .bool false), (12, .int .i64 (4 + 2 * w))]) (H0 := (((H.push ⟨zCells, 1, false⟩).push ⟨rmCells b n j q 2 0 w [] [], 1, false⟩).push ⟨[lv encB [], lv encRP []], 1, false⟩)) ⟨rfl, rfl⟩ (by omega)
      (fun m e H' ⟨hH, he⟩ => by
        subst hH he
        refine .inr ⟨.exit 0, _, _, ?_, by simp, rfl, rfl, rfl⟩
        rw [swashref07_Read_l1_eq]
        simp -implicitDefEqProofs)
    refine nrm_fz (L := []) (v := .tuple #[.agg zCells.toArray, .bool false]) (H' := ((H.push ⟨zCells, 1, false⟩).push ⟨rmCells b n j q 2 0 w [] [], 1, false⟩).push ⟨[lv encB [], lv encRP []], 1, false⟩) ?_ rfl ((((Ext.refl H).push _).push _).push _) (fl none).alive
    simp -implicitDefEqProofs (disch := omega) [swashref07_Read, u0, u4, u8, u12, c1, c2, c3, c4, c5, c6, c7, c8, hsl, hrd, hr, swashref07_Read_l1k_x0]
  | some tab =>
    obtain ⟨ps, hps, hrel⟩ := hlr.1 tab hlk
    rw [hps] at hrd
    simp only [tabRO, Option.isSome_some] at hrd
    have st := ((Star.nil H).push ⟨zCells, 1, false⟩).push ⟨rmCells b n j q 2 0 w tb ps, 1, false⟩
    have st := st.rest ((Ext.refl _).push ⟨[lv encB tb, lv encRP ps], 1, false⟩)
    have hlp := ref7_loop k b hb hl (n := n) (w := w) (by omega) (by omega) r8 r12 tb ps (by simpa using st)
    cases hcl : closeA (b.drop j.toNat) (b.drop q.toNat) n w 2 with
    | none =>
      have hm : refMachS b g w = none := by unfold refMachS; rw [hmach, hlk, Option.bind_some, hcl]; rfl
      rw [hm]
      rw [hcl] at hlp
      obtain ⟨H2, hr, hx, hz⟩ := hlp
      have hgs : (H2.set H.n (some ⟨zCells, 1, false⟩)).get H.n = some ⟨zCells, 1, false⟩ := get_set_eq _ _ _ (by rw [hz]; rfl)
      have hx3 : Ext H (H2.set H.n (some ⟨zCells, 1, false⟩)) := ⟨by simpa using hx.1, fun d hd hs => by rw [get_set_ne _ _ _ _ (by omega)]; exact hx.2 d hd hs⟩
      refine nrm_fz (L := []) (v := .tuple #[.agg zCells.toArray, .bool false]) (H' := H2.set H.n (some ⟨zCells, 1, false⟩)) ?_ rfl hx3 (fl none).alive
      simp -implicitDefEqProofs (disch := omega) [swashref07_Read, u0, u4, u8, u12, c1, c2, c3, c4, c5, c6, c7, c8, hsl, hrd, hr, swashref07_Read_l1k_x0, hz, hgs]
    | some x =>
      have hm : refMachS b g w = some (rmOf b g w ⟨n, tab, x.1, x.2⟩) := by unfold refMachS; rw [hmach, hlk, Option.bind_some, hcl]; rfl
      rw [hm]
      rw [hcl] at hlp
      obtain ⟨H2, S, N, hr, hx, hz, rfl, rfl⟩ := hlp
      have hrm : rmO (some (rmOf b g w ⟨n, tab, x.1, x.2⟩)) = .agg (rmCells b n j q x.1.length x.2.length w tb ps).toArray := by
        unfold rmO rmOf
        rw [hj, hq, hi, ← htb, hps]
        rfl
      have fl2 := fl (some (rmOf b g w ⟨n, tab, x.1, x.2⟩))
      rw [hrm] at fl2 ⊢
      refine nrm_fz (L := []) (v := .tuple #[.agg (rmCells b n j q x.1.length x.2.length w tb ps).toArray, .bool true]) (H' := H2) ?_ rfl hx fl2.alive
      simp -implicitDefEqProofs (disch := omega) [swashref07_Read, u0, u4, u8, u12, c1, c2, c3, c4, c5, c6, c7, c8, hsl, hrd, hr, swashref07_Read_l1k_r, hz]
theorem mach_at {b : List Int} (hb : Byt b) {g w : Int} (hw : 0 ≤ w ∧ w ≤ 2) {m : Mach} (h : machS b g w = some m) :
    (0 ≤ gU b 8 4 ∧ gU b 8 4 ≤ b.length) ∧ (0 ≤ gU b 12 4 ∧ gU b 12 4 ≤ b.length) ∧
    (∀ (i : Nat) e, m.ents[i]? = some e → e = ⟨gU b (gU b 12 4 + (i : Int) * (4 + 2 * w)) 2, gU b (gU b 12 4 + (i : Int) * (4 + 2 * w) + 2) 2, if 0 < w then gU b (gU b 12 4 + (i : Int) * (4 + 2 * w) + 4) 2 else 0, if 1 < w then gU b (gU b 12 4 + (i : Int) * (4 + 2 * w) + 6) 2 else 0⟩) ∧
    ∀ (s c : Nat) r x, m.rows[s]? = some r → r[c]? = some x → x = gU b (gU b 8 4 + (m.classes * s + (c : Nat)) * 2) 2 := by
  obtain ⟨i, j, q, tb, rv, ev, x, h0, h1, h2, h3, h4, h5, h6, h7, h8, h9, h10, h11, h12⟩ := machS_parts h
  have e6 := gU_some h6
  have e8 := gU_some h8
  rw [e6, e8]
  obtain ⟨c1, c2, c3, c4, c5, c6, c7, _⟩ := closeS_ok (hb.rest h7) (hb.rest h9) (by omega) hw _ _ x (by omega) (by omega) h10
  refine ⟨(restS_iff.1 h7).1, (restS_iff.1 h9).1, fun i e he => ?_, fun s c r x' hr hx => ?_⟩
  · rw [h12] at he
    obtain ⟨y, g1, g2⟩ := mapO_at c7 (List.getElem?_eq_some_iff.1 he).1
    rw [he] at g2
    injection g2 with g2
    subst g2
    exact ent_at h9 hw g1
  · rw [h11] at hr
    obtain ⟨y, g1, g2⟩ := mapO_at c6 (List.getElem?_eq_some_iff.1 hr).1
    rw [hr] at g2
    injection g2 with g2
    subst g2
    have hra := row_at h7 (by omega) g1
    have hlt := (List.getElem?_eq_some_iff.1 hx).1
    rw [hra] at hx hlt
    simp at hlt
    rw [List.getElem?_map, List.getElem?_range (by omega)] at hx
    injection hx with hx
    exact hx.symm
theorem entry7_run (k : Nat) {b : List Int} (hb : Byt b) {g w : Int} (hw : w = 0 ∨ w = 1 ∨ w = 2) (hl : b.length < 2 ^ 31) {m : Mach} (h : machS b g w = some m) {i : Int} (hi0 : 0 ≤ i) (hi6 : i ≤ 65536) {e : En} (he : m.ents[i.toNat]? = some e) (H : Heap) :
    R (T k) F.swashref07_Entry [rmV (rmOf b g w m), .int .i64 i] H = .ok (.agg (encEn e).toArray) H := by
  obtain ⟨_, hq, hat, _⟩ := mach_at hb (by omega) h
  have he := hat _ _ he
  clear hat
  obtain ⟨i, rfl⟩ := Int.eq_ofNat_of_zero_le hi0
  rw [Int.toNat_natCast] at he
  obtain ⟨p, hp⟩ : ∃ p, p = gU b 12 4 + (i : Int) * (4 + 2 * w) := ⟨_, rfl⟩
  have hm0 : 0 ≤ (i : Int) * (4 + 2 * w) := Int.mul_nonneg (by omega) (by omega)
  have hm1 : (i : Int) * (4 + 2 * w) ≤ 65536 * 8 := Int.mul_le_mul (by omega) (by omega) (by omega) (by omega)
  have hU := fun j H' => refU_run k (H := H') (Sl.lv H' 1 b) hb j 2 (by omega) (by omega)
  have hu : ∀ j H', R (T k) F.swashref01_U [lv encB b, .int .i64 j, .int .i64 2] H' = .ok (.int .i64 (gU b j 2)) H' := fun j H' => hU j H'
  rw [swashref07_Entry_R]
  rw [← hp] at he
  have hx : Ext H (((H.push ⟨rmCells b m.classes (gU b 8 4) (gU b 12 4) m.rows.length m.ents.length w (b.drop (gU b 4 4).toNat) ((refReadS (b.drop (gU b 4 4).toNat) g 2).getD []), 1, false⟩).push ⟨encEn e, 1, false⟩).push ⟨encEn e, 1, false⟩) := (((Ext.refl H).push _).push _).push _
  refine nrm_gc ⟨_, ?_, hx⟩ (Flat.ofEn e).alive
  subst he
  unfold rmOf
  rcases hw with rfl | rfl | rfl
  · simp -implicitDefEqProofs at hm0 hm1 hp
    simp -implicitDefEqProofs (disch := omega) [swashref07_Entry, ← hp, hu, swashref07_Entry_j2_eq, swashref07_Entry_j4_eq]
  · simp -implicitDefEqProofs at hm0 hm1 hp
    simp -implicitDefEqProofs (disch := omega) [swashref07_Entry, ← hp, hu, swashref07_Entry_j1_eq, swashref07_Entry_j4_eq]
  · simp -implicitDefEqProofs at hm0 hm1 hp
    simp -implicitDefEqProofs (disch := omega) [swashref07_Entry, ← hp, hu, swashref07_Entry_j1_eq, swashref07_Entry_j3_eq]
theorem class7_run (k : Nat) {b : List Int} (hb : Byt b) {g w : Int} (hg : 1 ≤ g ∧ g ≤ 65535) (hl : b.length < 2 ^ 31) {m : Mach} (hm : m.ok) (h : machS b g w = some m) (id : Int) (H : Heap) :
    R (T k) F.swashref07_Class [rmV (rmOf b g w m), .int .i64 id] H = .ok (.int .i64 (classS m id)) H := by
  obtain ⟨i, j, q, tb, rv, ev, x, h0, h1, h2, h3, h4, h5, _⟩ := machS_parts h
  have e3 := gU_some h3
  obtain ⟨hi, htb⟩ := restS_iff.1 h4
  have htbb : Byt tb := hb.rest h4
  have htbl := restS_len h4
  obtain ⟨ps, hps, hrel⟩ := (look_ref htbb hg.1 hg.2 (.inl rfl : (2 : Int) = 2 ∨ (2 : Int) = 4)).1 _ h5
  have hget := fun H' => get06_run k tb htbb ps (refRead_ok htbb hg (.inl rfl) hps) (refRead_len htbb hg (.inl rfl) h5 hps) (by omega) id H'
  rw [← get_ref (id := id) hrel hm.pts hm.rise] at hget
  have hrm : rmV (rmOf b g w m) = .agg (rmCells b m.classes (gU b 8 4) (gU b 12 4) m.rows.length m.ents.length w tb ps).toArray := by
    unfold rmOf
    rw [e3, ← htb, hps]
    rfl
  rw [hrm, swashref07_Class_R]
  refine nrm_gc ⟨_, ?_, (Ext.refl H).push ⟨rmCells b m.classes (gU b 8 4) (gU b 12 4) m.rows.length m.ents.length w tb ps, 1, false⟩⟩ (.int _ _)
  unfold classS
  by_cases h : id = 65535
  · subst h
    simp -implicitDefEqProofs (disch := omega) [swashref07_Class]
  · have h' : (id == 65535) = false := by simpa using h
    rw [if_neg h]
    cases hg : getS m.tab.2 id with
    | none =>
      rw [hg] at hget
      simp -implicitDefEqProofs (disch := omega) [swashref07_Class, h', hget]
    | some x =>
      rw [hg] at hget
      dsimp only
      by_cases hx : x < m.classes
      · have hx' : ¬ x ≥ m.classes := by omega
        simp -implicitDefEqProofs (disch := omega) [swashref07_Class, h', hget, hx, hx']
      · have hx' : x ≥ m.classes := by omega
        simp -implicitDefEqProofs (disch := omega) [swashref07_Class, h', hget, hx, hx']
end Go.Sw
end
section
set_option maxRecDepth 100000
set_option linter.unusedVariables false
namespace Go.Sw
noncomputable section
def swashlaw07_StateReads_l1 (k : Nat) (call : Caller) : Env → Heap → Res (AExit × Env) := loopB (C k) call F.swashlaw07_StateReads [1, 1, 1, 1, 1, 1, 1, 1, 0, 1, 0, 0]
def swashlaw07_StateReads_l1k (k : Nat) (call : Caller) : Kont Value := kBlock 0 (kSeq (pieceK (C k) call F.swashlaw07_StateReads [1, 1, 1, 1, 1, 1, 1, 1, 1]) (kDone Prog (resOf Prog F.swashlaw07_StateReads)))
def swashlaw07_StateReads (k : Nat) (call : Caller) (a0 a1 a2 : Value) (h : Heap) : Res Value :=
  (boxR a1 h).bind fun v1 h2 =>
  (call F.swashlaw07_speaks [] h2).bind fun v3 h4 =>
  (unR .not v3 h4).bind fun v5 h6 =>
  condV (some v5) (
    .ok (.bool false) h6)
  (
    (builtinV Prog .len [65] [a0] h6).bind fun v7 h8 =>
    (binR Prog .gtr 3 v7 (.int .i64 600) h8).bind fun v9 h10 =>
    condV (some v9) (
      .ok (.bool true) h10)
    (
      (indexAddrR Prog 79 v1 (.int .i64 0) h10).bind fun v11 h12 =>
      (loadR Prog 3 v11 h12).bind fun v13 h14 =>
      (indexAddrR Prog 79 v1 (.int .i64 1) h14).bind fun v15 h16 =>
      (loadR Prog 3 v15 h16).bind fun v17 h18 =>
      (call F.state_Read [a0, v13, v17] h18).bind fun v19 h20 =>
      (extractR v19 0 h20).bind fun v21 h22 =>
      (extractR v19 1 h22).bind fun v23 h24 =>
      (indexAddrR Prog 79 v1 (.int .i64 0) h24).bind fun v25 h26 =>
      (loadR Prog 3 v25 h26).bind fun v27 h28 =>
      (binR Prog .lss 3 v27 (.int .i64 1) h28).bind fun v29 h30 =>
      ((bif wantVal v29 false then indexAddrR Prog 79 v1 (.int .i64 0) h30 else Res.ok undef h30)).bind fun v31 h32 =>
      ((bif wantVal v29 false then loadR Prog 3 v31 h32 else Res.ok undef h32)).bind fun v33 h34 =>
      ((bif wantVal v29 false then binR Prog .gtr 3 v33 (.int .i64 65535) h34 else Res.ok undef h34)).bind fun v35 h36 =>
      (condV (some v29) (Res.ok (.bool true) h36) (Res.ok v35 h36)).bind fun v37 h38 =>
      ((bif wantVal v37 false then indexAddrR Prog 79 v1 (.int .i64 1) h38 else Res.ok undef h38)).bind fun v39 h40 =>
      ((bif wantVal v37 false then loadR Prog 3 v39 h40 else Res.ok undef h40)).bind fun v41 h42 =>
      ((bif wantVal v37 false then binR Prog .lss 3 v41 (.int .i64 0) h42 else Res.ok undef h42)).bind fun v43 h44 =>
      (condV (some v37) (Res.ok (.bool true) h44) (Res.ok v43 h44)).bind fun v45 h46 =>
      ((bif wantVal v45 false then indexAddrR Prog 79 v1 (.int .i64 1) h46 else Res.ok undef h46)).bind fun v47 h48 =>
      ((bif wantVal v45 false then loadR Prog 3 v47 h48 else Res.ok undef h48)).bind fun v49 h50 =>
      ((bif wantVal v45 false then binR Prog .gtr 3 v49 (.int .i64 2) h50 else Res.ok undef h50)).bind fun v51 h52 =>
      (condV (some v45) (Res.ok (.bool true) h52) (Res.ok v51 h52)).bind fun v53 h54 =>
      condV (some v53) (
        (binR Prog .eql 69 v23 (.int .i64 1) h54).bind fun v55 h56 =>
        ((bif wantVal v55 true then Res.ok v21 h56 else Res.ok undef h56)).bind fun v57 h58 =>
        ((bif wantVal v55 true then binR Prog .eql 133 v57 (.pointer none) h58 else Res.ok undef h58)).bind fun v59 h60 =>
        (condV (some v55) (Res.ok v59 h60) (Res.ok (.bool false) h60)).bind fun v61 h62 =>
        .ok v61 h62)
      (
        (indexAddrR Prog 79 v1 (.int .i64 0) h54).bind fun v63 h64 =>
        (loadR Prog 3 v63 h64).bind fun v65 h66 =>
        (indexAddrR Prog 79 v1 (.int .i64 1) h66).bind fun v67 h68 =>
        (loadR Prog 3 v67 h68).bind fun v69 h70 =>
        (call F.swashref07_Read [a0, v65, v69] h70).bind fun v71 h72 =>
        (extractR v71 0 h72).bind fun v73 h74 =>
        (extractR v71 1 h74).bind fun v75 h76 =>
        (allocR Prog 137 h76).bind fun v77 h78 =>
        (storeR Prog 137 v77 v73 h78).bind fun _v79 h80 =>
        (unR .not v75 h80).bind fun v81 h82 =>
        condV (some v81) (
          (binR Prog .eql 69 v23 (.int .i64 2) h82).bind fun v83 h84 =>
          ((bif wantVal v83 true then Res.ok v21 h84 else Res.ok undef h84)).bind fun v85 h86 =>
          ((bif wantVal v83 true then binR Prog .eql 133 v85 (.pointer none) h86 else Res.ok undef h86)).bind fun v87 h88 =>
          (condV (some v83) (Res.ok v87 h88) (Res.ok (.bool false) h88)).bind fun v89 h90 =>
          .ok v89 h90)
        (
          (binR Prog .neq 69 v23 (.int .i64 0) h82).bindN fun v91 h92 =>
          ((bif wantVal v91 false then Res.ok v21 h92 else Res.ok undef h92)).bindN fun v93 h94 =>
          ((bif wantVal v91 false then binR Prog .eql 133 v93 (.pointer none) h94 else Res.ok undef h94)).bindN fun v95 h96 =>
          (condV (some v91) (Res.ok (.bool true) h96) (Res.ok v95 h96)).bindN fun v97 h98 =>
          ((bif wantVal v97 false then Res.ok v21 h98 else Res.ok undef h98)).bindN fun v99 h100 =>
          ((bif wantVal v97 false then loadR Prog 137 v77 h100 else Res.ok undef h100)).bindN fun v101 h102 =>
          ((bif wantVal v97 false then call F.swashlaw07_same [v99, v101] h102 else Res.ok undef h102)).bindT (fun p105 h106 => .panic p105 h106) fun v103 h104 =>
          ((bif wantVal v97 false then unR .not v103 h104 else Res.ok undef h104)).bindN fun v107 h108 =>
          (condV (some v97) (Res.ok (.bool true) h108) (Res.ok v107 h108)).bindN fun v109 h110 =>
          ((bif wantVal v109 false then Res.ok v21 h110 else Res.ok undef h110)).bindN fun v111 h112 =>
          ((bif wantVal v109 false then Res.ok a2 h112 else Res.ok undef h112)).bindN fun v113 h114 =>
          ((bif wantVal v109 false then call F.state_Machine_Class [v111, v113] h114 else Res.ok undef h114)).bindT (fun p117 h118 => ((bif wantVal v109 false then loadR Prog 137 v77 h114 else Res.ok undef h114)).bindN fun v119 h120 => ((bif wantVal v109 false then Res.ok a2 h120 else Res.ok undef h120)).bindN fun v121 h122 => chkR ((okVal ((bif wantVal v109 false then loadR Prog 137 v77 h104 else Res.ok undef h104)) v119 && true) && true) (.panic p117 h118)) fun v115 h116 =>
          ((bif wantVal v109 false then loadR Prog 137 v77 h116 else Res.ok undef h116)).bindN fun v123 h124 =>
          ((bif wantVal v109 false then Res.ok a2 h124 else Res.ok undef h124)).bindN fun v125 h126 =>
          ((bif wantVal v109 false then call F.swashref07_Class [v123, v125] h126 else Res.ok undef h126)).bindT (fun p129 h130 => chkR ((okVal ((bif wantVal v109 false then loadR Prog 137 v77 h104 else Res.ok undef h104)) v123 && true) && true) (.panic p129 h130)) fun v127 h128 =>
          ((bif wantVal v109 false then binR Prog .neq 3 v115 v127 h128 else Res.ok undef h128)).bindN fun v131 h132 =>
          (condV (some v109) (Res.ok (.bool true) h132) (Res.ok v131 h132)).bindN fun v133 h134 =>
          chkR ((okVal ((bif wantVal v109 false then loadR Prog 137 v77 h104 else Res.ok undef h104)) v123 && true) && true) (
          condV (some v133) (
            .ok (.bool false) h134)
          (
            (loopN (swashlaw07_StateReads_l1 k call) loopFuel [(7, v21), (9, v77), (11, (.int .i64 (-1)))] h134).bind fun r135 h136 =>
            swashlaw07_StateReads_l1k k call r135.1 r135.2 h136))))))
theorem swashlaw07_StateReads_R (k : Nat) (a0 a1 a2 : Value) (h : Heap) : R (T k) F.swashlaw07_StateReads [a0, a1, a2] h = nrm .gc h (swashlaw07_StateReads k (R (T k)) a0 a1 a2 h) :=
  (R_body (t := T k) (T_scott k) (by kernel_rfl) _ _).trans (by kernel_rfl)
theorem swashlaw07_StateReads_l1_eq (k : Nat) (call : Caller) (a7 a9 a11 : Value) (h : Heap) : swashlaw07_StateReads_l1 k call [(7, a7), (9, a9), (11, a11)] h =
  (binR Prog .lss 3 a11 (.int .i64 40) h).bind fun v137 h138 =>
  condV (some v137) (
    (call F.state_Machine_Class [a7, a11] h138).bindT (fun p141 h142 => (loadR Prog 137 a9 h138).bindN fun v143 h144 => chkR ((okVal (loadR Prog 137 a9 h138) v143 && true) && true) (.panic p141 h142)) fun v139 h140 =>
    (loadR Prog 137 a9 h140).bindN fun v145 h146 =>
    (call F.swashref07_Class [v145, a11] h146).bindT (fun p149 h150 => chkR ((okVal (loadR Prog 137 a9 h138) v145 && true) && true) (.panic p149 h150)) fun v147 h148 =>
    (binR Prog .neq 3 v139 v147 h148).bindN fun v151 h152 =>
    chkR ((okVal (loadR Prog 137 a9 h138) v145 && true) && true) (
    condV (some v151) (
      .ok (.ret, [(6, (.bool false))]) h152)
    (
      (binR Prog .add 3 a11 (.int .i64 1) h152).bind fun v153 h154 =>
      .ok (.normal, [(7, a7), (9, a9), (11, v153)]) h154)))
  (
    .ok ((.exit 0), [(7, a7), (9, a9), (11, a11), (89, v137)]) h138) :=
  (loopB_eq _ _).trans (by kernel_rfl)
theorem swashlaw07_StateReads_l1k_x0 (k : Nat) (call : Caller) (a7 a9 a11 a89 : Value) (h : Heap) : swashlaw07_StateReads_l1k k call (.exit 0) [(7, a7), (9, a9), (11, a11), (89, a89)] h =
  .ok (.bool true) h := by kernel_rfl
def swashlaw07_same_l1 (k : Nat) (call : Caller) : Env → Heap → Res (AExit × Env) := loopB (C k) call F.swashlaw07_same [1, 1, 0, 1, 0, 0]
def swashlaw07_same_l1k (k : Nat) (call : Caller) : Kont Value := kBlock 0 (kSeq (pieceK (C k) call F.swashlaw07_same [1, 1, 1]) (kDone Prog (resOf Prog F.swashlaw07_same)))
def swashlaw07_same_l2 (k : Nat) (call : Caller) : Env → Heap → Res (AExit × Env) := loopB (C k) call F.swashlaw07_same [1, 1, 1, 0, 1, 0, 0]
def swashlaw07_same_l2k (k : Nat) (call : Caller) : Kont Value := kBlock 2 (kSeq (pieceK (C k) call F.swashlaw07_same [1, 1, 1, 1]) (kDone Prog (resOf Prog F.swashlaw07_same)))
def swashlaw07_same_l3 (k : Nat) (call : Caller) : Env → Heap → Res (AExit × Env) := loopB (C k) call F.swashlaw07_same [1, 1, 1, 0, 1, 0, 0, 1, 0, 0, 1, 0, 0]
def swashlaw07_same_l3k (k : Nat) (call : Caller) : Kont (AExit × Env) := kBlock 4 (kBlock 3 (kSeq (pieceK (C k) call F.swashlaw07_same [1, 1, 1, 0, 1, 0, 0, 1, 1]) (kRound (ownOf (C k) F.swashlaw07_same [1, 1, 1, 0, 1, 0, 0]))))
def swashlaw07_same (k : Nat) (call : Caller) (a0 a1 : Value) (h : Heap) : Res Value :=
  (boxR a1 h).bind fun v1 h2 =>
  (call F.state_Machine_Classes [a0] h2).bindT (fun p5 h6 => (fieldAddrR Prog 137 v1 1 h2).bindN fun v7 h8 => (loadR Prog 3 v7 h8).bindN fun v9 h10 => chkR ((okVal (loadR Prog 3 v7 h2) v9 && true) && true) (.panic p5 h6)) fun v3 h4 =>
  (fieldAddrR Prog 137 v1 1 h4).bindN fun v11 h12 =>
  (loadR Prog 3 v11 h12).bindN fun v13 h14 =>
  (binR Prog .neq 3 v3 v13 h14).bindN fun v15 h16 =>
  ((bif wantVal v15 false then Res.ok a0 h16 else Res.ok undef h16)).bindN fun v17 h18 =>
  ((bif wantVal v15 false then call F.state_Machine_States [v17] h18 else Res.ok undef h18)).bindT (fun p21 h22 => ((bif wantVal v15 false then fieldAddrR Prog 137 v1 4 h18 else Res.ok undef h18)).bindN fun v23 h24 => ((bif wantVal v15 false then loadR Prog 3 v23 h24 else Res.ok undef h24)).bindN fun v25 h26 => chkR ((okVal (loadR Prog 3 v11 h2) v13 && true) && ((okVal ((bif wantVal v15 false then loadR Prog 3 v23 h4 else Res.ok undef h4)) v25 && true) && true)) (.panic p21 h22)) fun v19 h20 =>
  ((bif wantVal v15 false then fieldAddrR Prog 137 v1 4 h20 else Res.ok undef h20)).bindN fun v27 h28 =>
  ((bif wantVal v15 false then loadR Prog 3 v27 h28 else Res.ok undef h28)).bindN fun v29 h30 =>
  ((bif wantVal v15 false then binR Prog .neq 3 v19 v29 h30 else Res.ok undef h30)).bindN fun v31 h32 =>
  (condV (some v15) (Res.ok (.bool true) h32) (Res.ok v31 h32)).bindN fun v33 h34 =>
  ((bif wantVal v33 false then Res.ok a0 h34 else Res.ok undef h34)).bindN fun v35 h36 =>
  ((bif wantVal v33 false then call F.state_Machine_Entries [v35] h36 else Res.ok undef h36)).bindT (fun p39 h40 => ((bif wantVal v33 false then fieldAddrR Prog 137 v1 5 h36 else Res.ok undef h36)).bindN fun v41 h42 => ((bif wantVal v33 false then loadR Prog 3 v41 h42 else Res.ok undef h42)).bindN fun v43 h44 => chkR ((okVal (loadR Prog 3 v11 h2) v13 && true) && ((okVal ((bif wantVal v15 false then loadR Prog 3 v27 h4 else Res.ok undef h4)) v29 && true) && ((okVal ((bif wantVal v33 false then loadR Prog 3 v41 h20 else Res.ok undef h20)) v43 && true) && true))) (.panic p39 h40)) fun v37 h38 =>
  ((bif wantVal v33 false then builtinV Prog .len [144] [v37] h38 else Res.ok undef h38)).bindN fun v45 h46 =>
  ((bif wantVal v33 false then fieldAddrR Prog 137 v1 5 h46 else Res.ok undef h46)).bindN fun v47 h48 =>
  ((bif wantVal v33 false then loadR Prog 3 v47 h48 else Res.ok undef h48)).bindN fun v49 h50 =>
  ((bif wantVal v33 false then binR Prog .neq 3 v45 v49 h50 else Res.ok undef h50)).bindN fun v51 h52 =>
  (condV (some v33) (Res.ok (.bool true) h52) (Res.ok v51 h52)).bindN fun v53 h54 =>
  chkR ((okVal (loadR Prog 3 v11 h2) v13 && true) && ((okVal ((bif wantVal v15 false then loadR Prog 3 v27 h4 else Res.ok undef h4)) v29 && true) && ((okVal ((bif wantVal v33 false then loadR Prog 3 v47 h20 else Res.ok undef h20)) v49 && true) && true))) (
  condV (some v53) (
    .ok (.bool false) h54)
  (
    (call F.state_Machine_Entries [a0] h54).bind fun v55 h56 =>
    (builtinV Prog .len [144] [v55] h56).bind fun v57 h58 =>
    (loopN (swashlaw07_same_l1 k call) loopFuel [(0, a0), (3, v1), (34, v55), (35, v57), (36, (.int .i64 0))] h58).bind fun r59 h60 =>
    swashlaw07_same_l1k k call r59.1 r59.2 h60))
theorem swashlaw07_same_R (k : Nat) (a0 a1 : Value) (h : Heap) : R (T k) F.swashlaw07_same [a0, a1] h = nrm .gc h (swashlaw07_same k (R (T k)) a0 a1 h) :=
  (R_body (t := T k) (T_scott k) (by kernel_rfl) _ _).trans (by kernel_rfl)
theorem swashlaw07_same_l1_eq (k : Nat) (call : Caller) (a0 a3 a34 a35 a36 : Value) (h : Heap) : swashlaw07_same_l1 k call [(0, a0), (3, a3), (34, a34), (35, a35), (36, a36)] h =
  (binR Prog .lss 3 a36 a35 h).bind fun v61 h62 =>
  condV (some v61) (
    (indexAddrR Prog 144 a34 a36 h62).bind fun v63 h64 =>
    (loadR Prog 150 v63 h64).bind fun v65 h66 =>
    (allocR Prog 150 h66).bind fun v67 h68 =>
    (storeR Prog 150 v67 v65 h68).bind fun _v69 h70 =>
    (loadR Prog 150 v67 h70).bindN fun v71 h72 =>
    (loadR Prog 137 a3 h72).bindN fun v73 h74 =>
    (call F.swashref07_Entry [v73, a36] h74).bindT (fun p77 h78 => .panic p77 h78) fun v75 h76 =>
    (binR Prog .neq 150 v71 v75 h76).bindN fun v79 h80 =>
    chkR ((okVal (loadR Prog 150 v67 h76) v71 && true) && true) (
    condV (some v79) (
      .ok (.ret, [(4, (.bool false))]) h80)
    (
      (binR Prog .add 3 a36 (.int .i64 1) h80).bind fun v81 h82 =>
      .ok (.normal, [(0, a0), (3, a3), (34, a34), (35, a35), (36, v81)]) h82)))
  (
    .ok ((.exit 0), [(0, a0), (3, a3), (34, a34), (35, a35), (36, a36), (37, v61)]) h62) :=
  (loopB_eq _ _).trans (by kernel_rfl)
theorem swashlaw07_same_l1k_x0 (k : Nat) (call : Caller) (a0 a3 a34 a35 a36 a37 : Value) (h : Heap) : swashlaw07_same_l1k k call (.exit 0) [(0, a0), (3, a3), (34, a34), (35, a35), (36, a36), (37, a37)] h =
  (loopN (swashlaw07_same_l2 k call) loopFuel [(0, a0), (3, a3), (7, (.int .i64 (-1)))] h).bind fun r83 h84 =>
  swashlaw07_same_l2k k call r83.1 r83.2 h84 := by kernel_rfl
theorem swashlaw07_same_l2_eq (k : Nat) (call : Caller) (a0 a3 a7 : Value) (h : Heap) : swashlaw07_same_l2 k call [(0, a0), (3, a3), (7, a7)] h =
  (fieldAddrR Prog 137 a3 4 h).bind fun v85 h86 =>
  (loadR Prog 3 v85 h86).bind fun v87 h88 =>
  (binR Prog .leq 3 a7 v87 h88).bind fun v89 h90 =>
  condV (some v89) (
    (loopN (swashlaw07_same_l3 k call) loopFuel [(0, a0), (3, a3), (7, a7), (8, (.int .i64 (-1)))] h90).bind fun r91 h92 =>
    swashlaw07_same_l3k k call r91.1 r91.2 h92)
  (
    .ok ((.exit 2), [(0, a0), (3, a3), (7, a7), (50, v89)]) h90) :=
  (loopB_eq _ _).trans (by kernel_rfl)
theorem swashlaw07_same_l3_eq (k : Nat) (call : Caller) (a0 a3 a7 a8 : Value) (h : Heap) : swashlaw07_same_l3 k call [(0, a0), (3, a3), (7, a7), (8, a8)] h =
  (fieldAddrR Prog 137 a3 1 h).bind fun v93 h94 =>
  (loadR Prog 3 v93 h94).bind fun v95 h96 =>
  (binR Prog .leq 3 a8 v95 h96).bind fun v97 h98 =>
  condV (some v97) (
    (call F.state_Machine_Step [a0, a7, a8] h98).bind fun v99 h100 =>
    (extractR v99 0 h100).bind fun v101 h102 =>
    (extractR v99 1 h102).bind fun v103 h104 =>
    (allocR Prog 150 h104).bind fun v105 h106 =>
    (storeR Prog 150 v105 v101 h106).bind fun _v107 h108 =>
    (loadR Prog 137 a3 h108).bind fun v109 h110 =>
    (call F.swashref07_Step [v109, a7, a8] h110).bind fun v111 h112 =>
    (extractR v111 0 h112).bind fun v113 h114 =>
    (extractR v111 1 h114).bind fun v115 h116 =>
    (allocR Prog 150 h116).bind fun v117 h118 =>
    (storeR Prog 150 v117 v113 h118).bind fun _v119 h120 =>
    (binR Prog .neq 4 v103 v115 h120).bind fun v121 h122 =>
    ((bif wantVal v121 false then loadR Prog 150 v105 h122 else Res.ok undef h122)).bind fun v123 h124 =>
    ((bif wantVal v121 false then loadR Prog 150 v117 h124 else Res.ok undef h124)).bind fun v125 h126 =>
    ((bif wantVal v121 false then binR Prog .neq 150 v123 v125 h126 else Res.ok undef h126)).bind fun v127 h128 =>
    (condV (some v121) (Res.ok (.bool true) h128) (Res.ok v127 h128)).bind fun v129 h130 =>
    condV (some v129) (
      .ok (.ret, [(4, (.bool false))]) h130)
    (
      (binR Prog .add 3 a8 (.int .i64 1) h130).bind fun v131 h132 =>
      .ok (.normal, [(0, a0), (3, a3), (7, a7), (8, v131)]) h132))
  (
    .ok ((.exit 4), [(0, a0), (3, a3), (7, a7), (8, a8), (56, v97)]) h98) :=
  (loopB_eq _ _).trans (by kernel_rfl)
theorem swashlaw07_same_l2k_x2 (k : Nat) (call : Caller) (a0 a3 a7 a50 : Value) (h : Heap) : swashlaw07_same_l2k k call (.exit 2) [(0, a0), (3, a3), (7, a7), (50, a50)] h =
  .ok (.bool true) h := by kernel_rfl
theorem swashlaw07_same_l3k_x4 (k : Nat) (call : Caller) (a0 a3 a7 a8 a56 : Value) (h : Heap) : swashlaw07_same_l3k k call (.exit 4) [(0, a0), (3, a3), (7, a7), (8, a8), (56, a56)] h =
  (binR Prog .add 3 a7 (.int .i64 1) h).bind fun v133 h134 =>
  .ok (.normal, [(0, a0), (3, a3), (7, v133)]) h134 := by kernel_rfl
end
end Go.Sw
end
section
namespace Go.Sw
theorem wf_u8 {n : Int} (h : (Lit.int .u8 n).wf = true) : 0 ≤ n ∧ n < 256 := by
  simp [Lit.wf, IntKind.min, IntKind.max, IntKind.signed, IntKind.bits] at h
  omega
theorem row_B {r : List Da} {cs : List Value} (h : LayRow [.int .u8] r cs) : ∃ n : Int, cs = encB n ∧ (0 ≤ n ∧ n < 256) := by
  obtain ⟨d, v, ds, vs, rfl, h1, h2⟩ := h.head
  obtain rfl := h2.done
  obtain ⟨n, rfl, w⟩ := h1.intv
  exact ⟨n, rfl, wf_u8 w⟩
theorem arg_B {v : Value} (h : ArgLay (.one (.slice [.int .u8])) v) : ∃ b, v = lv encB b ∧ Byt b := by
  obtain ⟨d, h1⟩ := h.cell
  obtain ⟨b, rfl, hb⟩ := Lay.list (enc := encB) (ok := fun n => 0 ≤ n ∧ n < 256) (fun r cs h => row_B h) h1
  exact ⟨b, rfl, hb⟩
theorem arg_i {k : IntKind} {v : Value} (h : ArgLay (.one (.int k)) v) : ∃ n, v = .int k n ∧ (Lit.int k n).wf = true := by
  obtain ⟨d, h1⟩ := h.cell
  exact h1.intv
theorem arg_ii {v : Value} (h : ArgLay (.agg [.int .i64, .int .i64]) v) : ∃ a b, v = .agg #[.int .i64 a, .int .i64 b] ∧ (Lit.int .i64 a).wf = true ∧ (Lit.int .i64 b).wf = true := by
  cases h with
  | agg ss ds vs h =>
    obtain ⟨_, v1, _, _, rfl, h1, h⟩ := h.head
    obtain ⟨_, v2, _, _, rfl, h2, h⟩ := h.head
    obtain rfl := h.done
    obtain ⟨a, rfl, wa⟩ := h1.intv
    obtain ⟨b, rfl, wb⟩ := h2.intv
    exact ⟨a, b, rfl, wa, wb⟩
end Go.Sw
end
section
namespace Go.Sw
open Go.RowKit
theorem speaks07_run (k : Nat) (hk : k % 1000000 = F.swashlaw07_speaks) (H : Heap) : R (T k) F.swashlaw07_speaks [] H = .ok (.bool true) H :=
  (R_sp (t := T k) (T_scott k) (s := constSp (.bool true)) (by unfold T C; dsimp only; rw [hk]; kernel_rfl) [] H).trans (nrm_gc (Pure.of rfl) (.bool _))
theorem veq_RP (l : List RP) : veq (lv encRP l) (lv encRP l) = true := veq_lv fun p _ v hv => by
  simp [encRP] at hv
  rcases hv with rfl | rfl | rfl | rfl | rfl <;> simp
theorem veq_rm (r : RMach) : veq (rmV r) (rmV r) = true := veq_agg fun v hv => by
  simp [rmCells] at hv
  rcases hv with rfl | rfl | rfl | rfl | rfl | rfl | rfl | rfl | rfl
  · simp
  · simp
  · simp
  · simp
  · simp
  · simp
  · simp
  · simp
  · exact veq_RP _
theorem veq_En (a b c d : Int) : veq (.agg #[.int .i64 a, .int .i64 b, .int .i64 c, .int .i64 d]) (.agg #[.int .i64 a, .int .i64 b, .int .i64 c, .int .i64 d]) = true := veq_agg (l := [.int .i64 a, .int .i64 b, .int .i64 c, .int .i64 d]) fun v hv => by
  simp at hv
  rcases hv with rfl | rfl | rfl | rfl <;> simp
theorem step7_run (k : Nat) {b : List Int} (hb : Byt b) {g w : Int} (hw : w = 0 ∨ w = 1 ∨ w = 2) (hl : b.length < 2 ^ 31) {m : Mach} (hm : m.ok) (h : machS b g w = some m) (s c : Int) (H : Heap) :
    R (T k) F.swashref07_Step [rmV (rmOf b g w m), .int .i64 s, .int .i64 c] H = .ok (.tuple #[encEA (stepS m s c), .bool (stepS m s c).isSome]) H := by
  rw [swashref07_Step_R]
  have fl : Flat (.tuple #[encEA (stepS m s c), .bool (stepS m s c).isSome]) := .tupleL (.cons (encEA_flat _) (.cons (.bool _) .nil))
  have no : ¬ (0 ≤ s ∧ s < m.rows.length ∧ 0 ≤ c ∧ c < m.classes) → stepS m s c = none := fun h => by unfold stepS; rw [if_neg h]
  have hx1 : Ext H (H.push ⟨rmCells b m.classes (gU b 8 4) (gU b 12 4) m.rows.length m.ents.length w (b.drop (gU b 4 4).toNat) ((refReadS (b.drop (gU b 4 4).toNat) g 2).getD []), 1, false⟩) := (Ext.refl H).push _
  have hx := hx1.push ⟨[.int .i64 0, .int .i64 0, .int .i64 0, .int .i64 0], 1, false⟩
  obtain ⟨r, hr⟩ : ∃ r, r = rmOf b g w m := ⟨_, rfl⟩
  have hent := fun i h0 h6 e he H => entry7_run k hb (g := g) hw hl h (i := i) h0 h6 (e := e) he H
  rw [← hr] at hent ⊢
  have r1 : r.states = m.rows.length := by rw [hr]; rfl
  have r2 : r.cl = m.classes := by rw [hr]; rfl
  have r3 : r.rowsAt = gU b 8 4 := by rw [hr]; rfl
  have r4 : r.b = b := by rw [hr]; rfl
  have hx1 : Ext H (H.push ⟨rmCells r.b r.cl r.rowsAt r.entsAt r.states r.n r.words r.tb r.parts, 1, false⟩) := (Ext.refl H).push _
  have hx := hx1.push ⟨[.int .i64 0, .int .i64 0, .int .i64 0, .int .i64 0], 1, false⟩
  have hcl := hm.cl
  by_cases h1 : s < 0
  · rw [no (by omega)] at fl ⊢
    refine nrm_gc ⟨_, ?_, hx⟩ fl.alive
    simp -implicitDefEqProofs (disch := omega) [swashref07_Step, h1, encEA]
  by_cases h2 : s ≥ m.rows.length
  · rw [no (by omega)] at fl ⊢
    refine nrm_gc ⟨_, ?_, hx⟩ fl.alive
    simp -implicitDefEqProofs (disch := omega) [swashref07_Step, h1, h2, r1, encEA]
  by_cases h3 : c < 0
  · rw [no (by omega)] at fl ⊢
    refine nrm_gc ⟨_, ?_, hx⟩ fl.alive
    simp -implicitDefEqProofs (disch := omega) [swashref07_Step, h1, h2, h3, r1, encEA]
  by_cases h4 : c ≥ m.classes
  · rw [no (by omega)] at fl ⊢
    refine nrm_gc ⟨_, ?_, hx⟩ fl.alive
    simp -implicitDefEqProofs (disch := omega) [swashref07_Step, h1, h2, h3, h4, r1, r2, encEA]
  obtain ⟨row, x, e, hrow, hxx, hx0, he, hs⟩ := stepS_some hm (s := s) (c := c) (by omega)
  rw [hs] at fl ⊢
  obtain ⟨hj, _, _, hat⟩ := mach_at hb (by omega) h
  have hpos := hat s.toNat c.toNat row x hrow hxx
  have hxm := (hm.row row (List.mem_of_getElem? hrow)).2 x (List.mem_of_getElem? hxx)
  have hel := hm.elen
  have htwo := hm.two
  obtain ⟨s, rfl⟩ := Int.eq_ofNat_of_zero_le (show 0 ≤ s by omega)
  obtain ⟨c, rfl⟩ := Int.eq_ofNat_of_zero_le (show 0 ≤ c by omega)
  simp only [Int.toNat_natCast] at hpos
  have hm0 : 0 ≤ (s : Int) * m.classes := Int.mul_nonneg (by omega) (by omega)
  have hm1 : (s : Int) * m.classes ≤ 65536 * 65535 := Int.mul_le_mul (by omega) (by omega) (by omega) (by omega)
  have hpe : gU b 8 4 + (m.classes * (s : Int) + (c : Nat)) * 2 = gU b 8 4 + 2 * ((s : Int) * m.classes + (c : Int)) := by rw [Int.mul_comm m.classes]; omega
  rw [hpe] at hpos
  have hU := fun j H' => refU_run k (H := H') (Sl.lv H' 1 b) hb j 2 (by omega) (by omega)
  have hu : ∀ H', R (T k) F.swashref01_U [lv encB b, .int .i64 (gU b 8 4 + 2 * ((s : Int) * m.classes + (c : Int))), .int .i64 2] H' = .ok (.int .i64 x) H' := fun H' => by
    rw [hU]; unfold gU at hpos; rw [hpos]; rfl
  have he' := hent x hx0 (by omega) e he
  have hq := veq_rm r
  refine nrm_gc ⟨(H.push ⟨rmCells r.b r.cl r.rowsAt r.entsAt r.states r.n r.words r.tb r.parts, 1, false⟩).push ⟨encEn e, 1, false⟩, ?_, hx1.push _⟩ fl.alive
  simp only [rmV, rmCells, r1, r2, r3, r4] at he' hq ⊢
  simp -implicitDefEqProofs (disch := omega) at he' hq ⊢
  simp -implicitDefEqProofs (disch := omega) [swashref07_Step, h1, h2, h3, h4, hu, he', hq, encEA]
theorem Entries_any (k : Nat) (m : Mach) (hl : m.ents.length ≤ 65536) (H : Heap) : ∃ s H', R (T k) F.state_Machine_Entries [machV m] H = .ok s H' ∧ Sl H' 4 s encEn m.ents ∧ Ext H H' := by
  by_cases hk : k < 1000000
  · exact ⟨_, H, Entries_run k hk m hl H, Sl.lv _ _ _, Ext.refl H⟩
  · obtain ⟨s, o, H', e, g⟩ := Entries_own k (by omega) m hl (Star.nil H)
    exact ⟨s, H', e, (g.own 0 rfl).sl encEn_len, g.ext⟩
theorem same_l3 (k : Nat) {b : List Int} (hb : Byt b) {g w : Int} (hw : w = 0 ∨ w = 1 ∨ w = 2) (hl : b.length < 2 ^ 31) {m : Mach} (hm : m.ok) (h : machS b g w = some m) (s : Int) {r : RMach} (hr : r = rmOf b g w m) (p : Nat) (H : Heap)
    (hp : H.get p = some ⟨rmCells r.b r.cl r.rowsAt r.entsAt r.states r.n r.words r.tb r.parts, 1, false⟩) :
    ∃ a H', loopN (swashlaw07_same_l3 k (R (T k))) loopFuel [(0, machV m), (3, ptrV p), (7, .int .i64 s), (8, .int .i64 (-1))] H = .ok (.exit 4, [(0, machV m), (3, ptrV p), (7, .int .i64 s), (8, a), (56, .bool false)]) H' ∧ Ext H H' := by
  have hcl := hm.cl
  have r2 : r.cl = m.classes := by rw [hr]; rfl
  obtain ⟨x, e', H1, hr', rfl, ⟨a, rfl⟩, hx⟩ := loop_up (body := swashlaw07_same_l3 k (R (T k))) (m.classes.toNat + 2)
    (fun j e H' => e = [(0, machV m), (3, ptrV p), (7, .int .i64 s), (8, .int .i64 ((j : Int) - 1))] ∧ Ext H H')
    (fun x e H' => x = .exit 4 ∧ (∃ a, e = [(0, machV m), (3, ptrV p), (7, .int .i64 s), (8, a), (56, .bool false)]) ∧ Ext H H')
    (e0 := [(0, machV m), (3, ptrV p), (7, .int .i64 s), (8, .int .i64 (-1))]) (H0 := H) ⟨rfl, Ext.refl H⟩ (by omega)
    (fun j e H' hj ⟨he, hx⟩ => by
      subst he
      have hlt : (j : Int) - 1 ≤ m.classes := by omega
      have hp' := hx.get hp
      have hpn : ¬ p = H'.n := by have := Heap.get_lt hp'; omega
      have h1 := fun H => Step_run k m hm s ((j : Int) - 1) H
      have h2 := fun H => step7_run k hb (g := g) hw hl hm h s ((j : Int) - 1) H
      rw [← hr] at h2
      generalize stepS m s ((j : Int) - 1) = o at h1 h2
      have hj1 : (j : Int) - 1 + 1 = ((j + 1 : Nat) : Int) - 1 := by omega
      refine .inl ⟨_, (H'.push ⟨encEn (o.getD ⟨0, 0, 0, 0⟩), 1, false⟩).push ⟨encEn (o.getD ⟨0, 0, 0, 0⟩), 1, false⟩, ?_, rfl, (hx.push _).push _⟩
      rw [swashlaw07_same_l3_eq, ← hj1]
      simp only [rmV, rmCells] at h2 hp'
      unfold encEA at h1 h2
      rw [r2] at h2 hp'
      simp -implicitDefEqProofs (disch := omega) [hp', hpn, r2, hlt, h1, h2, bne])
    (fun e H' ⟨he, hx⟩ => by
      subst he
      have hp' := hx.get hp
      have hlt : ¬ ((m.classes.toNat + 2 : Nat) : Int) - 1 ≤ m.classes := by omega
      refine ⟨.exit 4, _, H', ?_, by simp, rfl, ⟨.int .i64 (((m.classes.toNat + 2 : Nat) : Int) - 1), rfl⟩, hx⟩
      rw [swashlaw07_same_l3_eq]
      rw [r2] at hp'
      have e1 : ∀ H', ld1 (.pointer (some ⟨p, 0 + 1, none⟩)) H' = opt ((H'.get p).bind fun k => k.cells[0 + 1]?) H' := fun H' => rfl
      simp -implicitDefEqProofs (disch := omega) only [fa_137_1, faR_ptr, Res.bind_ok, ld_3, ld1_ptr, hp', Option.bind_some, bin_leq, hlt, decide_false, condV_bool, Bool.false_eq_true, if_false, rmCells, Nat.zero_add, gS, g0, optR_some])
  exact ⟨a, H1, hr', hx⟩
theorem same_run (k : Nat) {b : List Int} (hb : Byt b) {g w : Int} (hw : w = 0 ∨ w = 1 ∨ w = 2) (hl : b.length < 2 ^ 31) {m : Mach} (hm : m.ok) (h : machS b g w = some m) (H : Heap) :
    R (T k) F.swashlaw07_same [machV m, rmV (rmOf b g w m)] H = .ok (.bool true) H := by
  rw [swashlaw07_same_R]
  have hent := fun i h0 h6 e he H => entry7_run k hb (g := g) hw hl h (i := i) h0 h6 (e := e) he H
  obtain ⟨r, hr⟩ : ∃ r, r = rmOf b g w m := ⟨_, rfl⟩
  rw [← hr] at hent ⊢
  have r1 : r.states = m.rows.length := by rw [hr]; rfl
  have r2 : r.cl = m.classes := by rw [hr]; rfl
  have r5 : r.n = m.ents.length := by rw [hr]; rfl
  obtain ⟨B, hB⟩ : ∃ B : Blk, B = ⟨rmCells r.b r.cl r.rowsAt r.entsAt r.states r.n r.words r.tb r.parts, 1, false⟩ := ⟨_, rfl⟩
  have hx0 : Ext H (H.push B) := (Ext.refl H).push _
  obtain ⟨s1, H1, e1, l1, x1⟩ := Entries_any k m hm.elen (H.push B)
  obtain ⟨s2, H2, e2, l2, x2⟩ := Entries_any k m hm.elen H1
  have g1 : H1.get H.n = some B := x1.get (get_push_eq _ _ _ rfl)
  have g2 : H2.get H.n = some B := x2.get g1
  have hcl := fun H => Classes_run k m H
  have hst := fun H => States_run k m H
  have hel := hm.elen
  have htwo := hm.two
  -- the entries
  obtain ⟨x, e', H3, hr3, rfl, ⟨a, rfl⟩, x3⟩ := loop_up (body := swashlaw07_same_l1 k (R (T k))) m.ents.length
    (fun j e H' => e = [(0, machV m), (3, ptrV H.n), (34, s2), (35, .int .i64 m.ents.length), (36, .int .i64 j)] ∧ Ext H2 H')
    (fun x e H' => x = .exit 0 ∧ (∃ a, e = [(0, machV m), (3, ptrV H.n), (34, s2), (35, .int .i64 m.ents.length), (36, a), (37, .bool false)]) ∧ Ext H2 H')
    (e0 := [(0, machV m), (3, ptrV H.n), (34, s2), (35, .int .i64 m.ents.length), (36, .int .i64 0)]) (H0 := H2) ⟨rfl, Ext.refl _⟩ (by omega)
    (fun j e H' hj ⟨he, hx⟩ => by
      subst he
      have hlt : (j : Int) < m.ents.length := by omega
      obtain ⟨en, hen⟩ : ∃ en, m.ents[j]? = some en := ⟨_, List.getElem?_eq_getElem hj⟩
      obtain ⟨p, p1, p2⟩ := ((l2.up hx).rd (by decide) encEn_len).2 j en hen
      have hp := hx.get g2
      rw [hB] at hp
      have hpn : ¬ H.n = H'.n := by have := Heap.get_lt hp; omega
      have h2 := hent j (by omega) (by omega) en (by simpa using hen)
      simp only [rmV] at h2
      refine .inl ⟨_, H'.push ⟨encEn en, 1, false⟩, ?_, rfl, hx.push _⟩
      rw [swashlaw07_same_l1_eq]
      simp -implicitDefEqProofs (disch := omega) [hlt, p1, p2, hp, hpn, h2, bne, veq_En])
    (fun e H' ⟨he, hx⟩ => by
      subst he
      refine ⟨.exit 0, _, H', ?_, by simp, rfl, ⟨.int .i64 m.ents.length, rfl⟩, hx⟩
      rw [swashlaw07_same_l1_eq]
      simp -implicitDefEqProofs)
  have g3 := x3.get g2
  -- the steps
  obtain ⟨x, e', H4, hr4, rfl, ⟨a, rfl⟩, x4⟩ := loop_up (body := swashlaw07_same_l2 k (R (T k))) (m.rows.length + 2)
    (fun j e H' => e = [(0, machV m), (3, ptrV H.n), (7, .int .i64 ((j : Int) - 1))] ∧ Ext H3 H')
    (fun x e H' => x = .exit 2 ∧ (∃ a, e = [(0, machV m), (3, ptrV H.n), (7, a), (50, .bool false)]) ∧ Ext H3 H')
    (e0 := [(0, machV m), (3, ptrV H.n), (7, .int .i64 (-1))]) (H0 := H3) ⟨rfl, Ext.refl _⟩ (by omega)
    (fun j e H' hj ⟨he, hx⟩ => by
      subst he
      have hlt : (j : Int) - 1 ≤ m.rows.length := by omega
      have hp := hx.get g3
      rw [hB] at hp
      obtain ⟨a, H5, e5, x5⟩ := same_l3 k hb hw hl hm h ((j : Int) - 1) hr H.n H' hp
      have hj1 : (j : Int) - 1 + 1 = ((j + 1 : Nat) : Int) - 1 := by omega
      refine .inl ⟨_, H5, ?_, rfl, hx.trans x5⟩
      rw [swashlaw07_same_l2_eq, ← hj1]
      rw [r1] at hp
      simp -implicitDefEqProofs (disch := omega) [hp, hlt, e5, swashlaw07_same_l3k_x4])
    (fun e H' ⟨he, hx⟩ => by
      subst he
      have hp := hx.get g3
      rw [hB, r1] at hp
      have hlt : ¬ ((m.rows.length + 2 : Nat) : Int) - 1 ≤ m.rows.length := by omega
      refine ⟨.exit 2, _, H', ?_, by simp, rfl, ⟨.int .i64 (((m.rows.length + 2 : Nat) : Int) - 1), rfl⟩, hx⟩
      rw [swashlaw07_same_l2_eq]
      simp -implicitDefEqProofs (disch := omega) only [fa_137_4, faR_ptr, Res.bind_ok, ld_3, ld1_ptr, hp, Option.bind_some, bin_leq, hlt, decide_false, condV_bool, Bool.false_eq_true, if_false, rmCells, Nat.zero_add, gS, g0, optR_some])
  refine nrm_gc ⟨H4, ?_, hx0.trans (x1.trans (x2.trans (x3.trans x4)))⟩ (.bool _)
  rw [hB] at e1 g1
  have q1 := fun H' => l1.len H'
  have q2 := fun H' => l2.len H'
  rw [r1, r2, r5] at g1 e1
  simp only [rmV, rmCells, r1, r2, r5] at *
  simp -implicitDefEqProofs (disch := omega) [swashlaw07_same, hcl, hst, bne, e1, e2, g1, q1, q2, hr3, swashlaw07_same_l1k_x0, hr4, swashlaw07_same_l2k_x2]
theorem StateReads_run (b : List Int) (hb : Byt b) (g w id : Int) : R (T F.swashlaw07_speaks) F.swashlaw07_StateReads [lv encB b, .agg #[.int .i64 g, .int .i64 w], .int .i64 id] Heap.empty = .ok (.bool true) Heap.empty := by
  generalize hk : F.swashlaw07_speaks = k
  have hs := speaks07_run k (by subst hk; rfl)
  clear hk
  rw [swashlaw07_StateReads_R]
  generalize Heap.empty = H
  have hx1 : Ext H (H.push ⟨[.int .i64 g, .int .i64 w], 1, false⟩) := (Ext.refl H).push _
  have i0 := fun H' => ixA_get (len := 2) (m := 1) (b := H.n) (off := 0) (k := .i64) (j := 0) (by omega) H'
  have i1 := fun H' => ixA_get (len := 2) (m := 1) (b := H.n) (off := 0) (k := .i64) (j := 1) (by omega) H'
  simp at i0 i1
  by_cases hl : b.length > 600
  · have hl' : (b.length : Int) > 600 := by omega
    refine nrm_gc ⟨_, ?_, hx1⟩ (.bool _)
    simp -implicitDefEqProofs (disch := omega) [swashlaw07_StateReads, hs, hl']
  have hl' : ¬ (b.length : Int) > 600 := by omega
  have hrd := fun H' => stateRead_run k (H := H') (Sl.lv H' 1 b) hb g w (by omega)
  unfold machO machN at hrd
  by_cases c1 : g < 1
  · have e : badM g w = true := by unfold badM; simp [c1]
    rw [e] at hrd
    simp [machP] at hrd
    refine nrm_gc ⟨_, ?_, hx1⟩ (.bool _)
    simp -implicitDefEqProofs (disch := omega) [swashlaw07_StateReads, hs, hl', i0, i1, hrd, c1]
  by_cases c2 : g > 65535
  · have e : badM g w = true := by unfold badM; simp [c2]
    rw [e] at hrd
    simp [machP] at hrd
    refine nrm_gc ⟨_, ?_, hx1⟩ (.bool _)
    simp -implicitDefEqProofs (disch := omega) [swashlaw07_StateReads, hs, hl', i0, i1, hrd, c1, c2]
  by_cases c3 : w < 0
  · have e : badM g w = true := by unfold badM; simp [c3]
    rw [e] at hrd
    simp [machP] at hrd
    refine nrm_gc ⟨_, ?_, hx1⟩ (.bool _)
    simp -implicitDefEqProofs (disch := omega) [swashlaw07_StateReads, hs, hl', i0, i1, hrd, c1, c2, c3]
  by_cases c4 : w > 2
  · have e : badM g w = true := by unfold badM; simp [c4]
    rw [e] at hrd
    simp [machP] at hrd
    refine nrm_gc ⟨_, ?_, hx1⟩ (.bool _)
    simp -implicitDefEqProofs (disch := omega) [swashlaw07_StateReads, hs, hl', i0, i1, hrd, c1, c2, c3, c4]
  have e : badM g w = false := by unfold badM; simp; omega
  rw [e] at hrd
  have hw2 : w = 0 ∨ w = 1 ∨ w = 2 := by omega
  have hgg : 1 ≤ g ∧ g ≤ 65535 := by omega
  have hrr := fun H' => ref7Read_run k b hb g w hgg hw2 (by omega) H'
  unfold refMachS rmO at hrr
  cases h : machS b g w with
  | none =>
    rw [h] at hrd hrr
    simp [machP] at hrd hrr
    refine nrm_gc ⟨_, ?_, hx1.push ⟨rmCells [] 0 0 0 0 0 0 [] [], 1, false⟩⟩ (.bool _)
    simp -implicitDefEqProofs (disch := omega) [swashlaw07_StateReads, hs, hl', i0, i1, hrd, c1, c2, c3, c4, hrr]
  | some m =>
    rw [h] at hrd hrr
    simp [machP] at hrd hrr
    have hok := machS_ok hb hgg.1 hgg.2 (by omega) h
    have hsame := fun H => same_run k hb hw2 (by omega) hok h H
    have hc1 := fun id H => Class_run k m hok id H
    have hc2 := fun id H => class7_run k hb hgg (by omega) hok h id H
    have hq := veq_rm (rmOf b g w m)
    generalize rmOf b g w m = r at hsame hrr hc2 hq
    obtain ⟨B, hB⟩ : ∃ B : Blk, B = ⟨rmCells r.b r.cl r.rowsAt r.entsAt r.states r.n r.words r.tb r.parts, 1, false⟩ := ⟨_, rfl⟩
    have hx2 : Ext H ((H.push ⟨[.int .i64 g, .int .i64 w], 1, false⟩).push B) := hx1.push B
    obtain ⟨x, e', H4, hr4, rfl, ⟨a, rfl⟩, rfl⟩ := loop_up (body := swashlaw07_StateReads_l1 k (R (T k))) 41
      (fun j e H' => e = [(7, machV m), (9, ptrV (H.n + 1)), (11, .int .i64 ((j : Int) - 1))] ∧ H' = (H.push ⟨[.int .i64 g, .int .i64 w], 1, false⟩).push B)
      (fun x e H' => x = .exit 0 ∧ (∃ a, e = [(7, machV m), (9, ptrV (H.n + 1)), (11, a), (89, .bool false)]) ∧ H' = (H.push ⟨[.int .i64 g, .int .i64 w], 1, false⟩).push B)
      (e0 := [(7, machV m), (9, ptrV (H.n + 1)), (11, .int .i64 (-1))]) (H0 := (H.push ⟨[.int .i64 g, .int .i64 w], 1, false⟩).push B) ⟨rfl, rfl⟩ (by omega)
      (fun j e H' hj ⟨he, hx⟩ => by
        subst he hx
        have hlt : (j : Int) - 1 < 40 := by omega
        have hj1 : (j : Int) - 1 + 1 = ((j + 1 : Nat) : Int) - 1 := by omega
        refine .inl ⟨_, _, ?_, rfl, rfl⟩
        rw [swashlaw07_StateReads_l1_eq, ← hj1, hB]
        simp -implicitDefEqProofs (disch := omega) [hlt, hc1, hc2, hq, bne])
      (fun e H' ⟨he, hx⟩ => by
        subst he hx
        refine ⟨.exit 0, _, _, ?_, by simp, rfl, ⟨.int .i64 (((41 : Nat) : Int) - 1), rfl⟩, rfl⟩
        rw [swashlaw07_StateReads_l1_eq]
        simp -implicitDefEqProofs)
    rw [hB] at hr4
    refine nrm_gc ⟨_, ?_, hx2⟩ (.bool _)
    rw [hB]
    simp -implicitDefEqProofs (disch := omega) [swashlaw07_StateReads, hs, hl', i0, i1, hrd, c1, c2, c3, c4, hrr, hsame, hc1, hc2, hq, bne, hr4, swashlaw07_StateReads_l1k_x0]
theorem StateReads_args (vs : List Value) (h : ArgsLay [.one (.slice [.int .u8]), .agg [.int .i64, .int .i64], .one (.int .i64)] vs) : ∃ H', R (T F.swashlaw07_speaks) F.swashlaw07_StateReads vs Heap.empty = .ok (.bool true) H' := by
  obtain ⟨v1, _, rfl, h1, h⟩ := h.head
  obtain ⟨v2, _, rfl, h2, h⟩ := h.head
  obtain ⟨v3, _, rfl, h3, h⟩ := h.head
  obtain rfl := h.done
  obtain ⟨b, rfl, hb⟩ := arg_B h1
  obtain ⟨a, c, rfl, _, _⟩ := arg_ii h2
  obtain ⟨n, rfl, _⟩ := arg_i h3
  exact ⟨_, StateReads_run b hb a c n⟩
end Go.Sw
end
section
namespace Go.Sw
open Go.RowKit Go.Proofs
set_option maxRecDepth 20000 in
theorem catch_short (p : Addr) (b : Bool) (w : World) (hc : (w.alloc (.cells #[] 233)).cell? p = some (.bool b)) (hz : (w.alloc (.cells #[] 233)).frozen? p = false) :
    CallsD Prog 160 #[.pointer (some p)] (.panicking [{ v := .iface 233 (.agg #[]), recovered := false }]) w fun e u' w' =>
      e = .returned (.tuple #[]) ∧ u' = .panicking [{ v := .iface 233 (.agg #[]), recovered := true }] ∧ w' = (w.alloc (.cells #[] 233)).setCell p (.bool false) := by
  refine callsD_of_wpS Try.func160 rfl fun c₀ cs hu => ?_
  apply wpS_seq
  apply wpS_region
  simp [wpOpsS, go_sem, recoverD, hu, Try.ntmps160, Exit.thenS]
  have hta : ∀ w, (Instr.typeAssert (.iface 233 (.agg #[])) 20 233 true).run Prog w = .ok (.tuple #[.agg #[], .bool true]) w := fun w => by kernel_rfl
  refine wpS_of_wp ?_
  go_wp2
  cases c₀
  simp_all [bodyPostS, results, Try.results160]
theorem catch_idle (p : Addr) (w : World) :
    CallsD Prog 160 #[.pointer (some p)] .returning w fun e u' w' => e = .returned (.tuple #[]) ∧ u' = .returning ∧ w' = w := by
  refine callsD_of_wpS Try.func160 rfl fun c₀ cs hu => ?_
  apply wpS_seq
  apply wpS_region
  simp [wpOpsS, go_sem, recoverD, hu, Try.ntmps160, Exit.thenS]
  refine wpS_of_wp ?_
  go_wp2
  cases c₀
  simp_all [bodyPostS, results, Try.results160]
set_option maxRecDepth 20000 in
theorem try_walk (g : FuncId) (first cap : Array Value) (w : World) (R : Ending → World → Prop)
    (hcf : (callFunc g (first ++ cap)).run Prog (w.alloc (.cells #[.bool false] 4)) = .ok (.enter g (first ++ cap)) (w.alloc (.cells #[.bool false] 4)))
    (hcall : Calls Prog g (first ++ cap) (w.alloc (.cells #[.bool false] 4)) fun e w' => match e with
      | .returned _ => w'.heap[w.heap.size]? = some (.cells #[.bool false] 4 (0, 0)) ∧ R (.returned (.bool true)) (w'.setCell ⟨w.heap.size, 0, none⟩ (.bool true))
      | .panicked chain => chain = [{ v := .iface 233 (.agg #[]), recovered := false }] ∧ w'.heap[w.heap.size]? = some (.cells #[.bool false] 4 (0, 0)) ∧ R (.returned (.bool false)) ((w'.alloc (.cells #[] 233)).setCell ⟨w.heap.size, 0, none⟩ (.bool false))
      | .outgrown => False) :
    Calls Prog 77 #[.func (.func g) first cap] w R := by
  have hmf : ∀ (fn : Fn) (first cap : Array Value) (w : World), (Instr.makeFunc fn first cap).run Prog w = .ok (.func fn first cap) w := fun _ _ _ _ => rfl
  go_enter_defers Try.func77, Try.ntmps77
  go_wp2
  rename_i K2 hK2 K1 hK1
  refine hcall.mono fun e w' he => ?_
  cases e with
  | returned v =>
    obtain ⟨h1, h2⟩ := he
    have hc : w'.cell? ⟨w.heap.size, 0, none⟩ = some (.bool false) := by simp [World.cell?, h1]
    have hz : w'.frozen? ⟨w.heap.size, 0, none⟩ = false := by simp [World.frozen?, h1]
    apply hK1
    apply hK2
    go_wp2
    have hc2 : (w'.setCell ⟨w.heap.size, 0, none⟩ (.bool true)).cell? ⟨w.heap.size, 0, none⟩ = some (.bool true) := World.cell?_setCell_same _ _ _ hc
    refine leaves_cons (f := 160) (args := #[.pointer (some ⟨w.heap.size, 0, none⟩)]) (by simp) (by simp [go_sem]) ?_
    refine (catch_idle ⟨w.heap.size, 0, none⟩ _).mono ?_
    rintro e u' w'' ⟨rfl, rfl, rfl⟩
    simp [Leaves, settle, results, Try.results77, go_sem, hc2]
    exact h2
  | panicked chain =>
    obtain ⟨h0, h1, h2⟩ := he
    subst h0
    have hlt : w.heap.size < w'.heap.size := by
      rcases Nat.lt_or_ge w.heap.size w'.heap.size with h | h
      · exact h
      · rw [Array.getElem?_eq_none h] at h1; cases h1
    have h3 : (w'.alloc (.cells #[] 233)).heap[w.heap.size]? = some (.cells #[.bool false] 4 (0, 0)) := by
      rw [heap_alloc_lt _ _ _ hlt]; exact h1
    have hc : (w'.alloc (.cells #[] 233)).cell? ⟨w.heap.size, 0, none⟩ = some (.bool false) := by simp only [World.cell?, h3]; rfl
    have hz : (w'.alloc (.cells #[] 233)).frozen? ⟨w.heap.size, 0, none⟩ = false := by simp [World.frozen?, h3]
    have hc2 : ((w'.alloc (.cells #[] 233)).setCell ⟨w.heap.size, 0, none⟩ (.bool false)).cell? ⟨w.heap.size, 0, none⟩ = some (.bool false) := World.cell?_setCell_same _ _ _ hc
    show Leaves _ _ _ _ _ _ _
    refine leaves_cons (f := 160) (args := #[.pointer (some ⟨w.heap.size, 0, none⟩)]) (by simp) (by simp [go_sem]) ?_
    refine (catch_short ⟨w.heap.size, 0, none⟩ false _ hc hz).mono ?_
    rintro e u' w'' ⟨rfl, rfl, rfl⟩
    simp [Leaves, settle, results, Try.results77, go_sem, hc2]
    exact h2
  | outgrown => exact he.elim
theorem try_is : SpIs Prog 77 (tryV 233) := try_of (bt := 4) Try.func77 rfl (by kernel_rfl) try_walk
end Go.Sw
end
section
namespace Go.Sw
open Go.RowKit
theorem names_ok : NamesOk Prog := NamesOk.of (by kernel_rfl)
theorem mixed_ok : Prog.follows .mixedOrders = true := Checked.mixed Go.Proofs.Try.checked
theorem laid_ok : laidOutB Prog = true := by kernel_rfl
theorem cloneP_is : SpIs Prog F.slices_Clone_of_api_Place_api_Place fun _ args H => cloneV 3 12 args H :=
  clone_is (c := { P := Prog, kp := kpS, sp := fun _ => none }) names_ok mixed_ok (t := 31) (e := 34) (by kernel_rfl) fun call a H => (slices_Clone_of_api_Place_api_Place_body 0 _ call a H).trans (by
    unfold slices_Clone_of_api_Place_api_Place cloneF
    simp only [be_31_0, ap_31, beR_bare])
theorem cloneG_is : SpIs Prog F.slices_Clone_of_api_Glyph_api_Glyph fun _ args H => cloneV 2 16 args H :=
  clone_is (c := { P := Prog, kp := kpS, sp := fun _ => none }) names_ok mixed_ok (t := 50) (e := 55) (by kernel_rfl) fun call a H => (slices_Clone_of_api_Glyph_api_Glyph_body 0 _ call a H).trans (by
    unfold slices_Clone_of_api_Glyph_api_Glyph cloneF
    simp only [be_50_0, ap_50, beR_bare])
theorem more_is (f : FuncId) (s : Sp) (h : moreS f = some s) : SpIs Prog f s := by
  unfold moreS at h
  cases h1 : Nat.beq f 77 with
  | true => have := Nat.eq_of_beq_eq_true h1; subst this; rw [h1, cond_true] at h; injection h with h; subst h; exact try_is
  | false =>
  rw [h1, cond_false] at h
  cases h2 : Nat.beq f 147 with
  | true => have := Nat.eq_of_beq_eq_true h2; subst this; rw [h2, cond_true] at h; injection h with h; subst h; exact cloneP_is
  | false =>
  rw [h2, cond_false] at h
  cases h3 : Nat.beq f 151 with
  | true => have := Nat.eq_of_beq_eq_true h3; subst this; rw [h3, cond_true] at h; injection h with h; subst h; exact cloneG_is
  | false =>
  rw [h3, cond_false] at h
  cases h4 : Nat.beq f 152 with
  | true => rw [h4, cond_true] at h; injection h with h; subst h; exact SpIs.stuck _ _
  | false => rw [h4, cond_false] at h; cases h
theorem T_prog (k : Nat) : (T k).c.P = Prog := by unfold T C; rfl
theorem told_ok {k m : Nat} (hsp : okTrue (run (baseCfg Prog kpS moreS) m (k % 1000000) [] Heap.empty) = true) : SpOk (T k).c := by
  have h0 : CallOk Prog (run (baseCfg Prog kpS moreS) m) := run_ok (c := baseCfg Prog kpS moreS) names_ok mixed_ok (SpOk.base more_is) m
  have h1 : SpOk (C k) := by
    unfold C
    exact SpOk.of (P := Prog) (kp := kpS) (speaks := speaksT) (more := moreS) (k := k % 1000000) h0 hsp more_is
  exact h1
end Go.Sw
end
