/-
  Functions' forms, and what is proved of them, part 7.
-/
import Derived.Test.YtnaodjnimkndbaaSwW6
import Derived.Test.YtnaodjnimkndbaaSwW5
import Derived.Test.YtnaodjnimkndbaaSwCfg
set_option linter.unusedSimpArgs false
set_option linter.unusedVariables false
set_option linter.unusedSectionVars false
section
namespace Go.Sw
open Go.RowKit
theorem refNo {H : Heap} {r : Res Value} (h : r = .ok (.tuple #[.slice none 0 0, .bool false]) H) : nrm .fz H r = .ok (.tuple #[lv encRP [], .bool false]) H :=
 nrm_fz (L := []) h rfl (Ext.refl H) (parts_flat [] false).alive
theorem PartsAre.no : PartsAre none (.tuple #[lv encRP [], .bool false]) := ⟨[], rfl, fun x h => (by cases h), by simp⟩
theorem trim06_run (k : Nat) (b : List Int) (hb : Byt b) (i z : Int) (hz : z = 1 ∨ z = 2 ∨ z = 4) (hi : 0 ≤ i ∧ i ≤ 4) (hl : b.length < 2 ^ 31) (H : Heap) :
  ∃ v, R (T k) F.swashref06_trimmed [lv encB b, .int .i64 i, .int .i64 z] H = .ok v H ∧ PartsAre (refTrimS b i z) v := by
 have hU := fun j H' => refU_run k (H := H') (Sl.lv H' 1 b) hb j 2 (by omega) (by omega)
 have hR := fun n H' => refRows_run k b.length (i + 4) n z (by omega) (by omega) H'
 rw [swashref06_trimmed_R]
 unfold refTrimS
 cases h1 : uS b i 2 with
 | none =>
  refine ⟨_, refNo ?_, .no⟩
  have u1 := fun H' => hU i H'
  rw [h1] at u1
  have g2 := gU_two hb (i + 2)
  unfold gU at g2
  simp -implicitDefEqProofs (disch := omega) [swashref06_trimmed, u1, hU]
 | some f =>
  have u1 := fun H' => hU i H'
  rw [h1] at u1
  have hf := uS_two hb h1
  have hf' : ¬ f < 0 := by omega
  cases h2 : uS b (i + 2) 2 with
  | none =>
   refine ⟨_, refNo ?_, .no⟩
   have u2 := fun H' => hU (i + 2) H'
   rw [h2] at u2
   simp -implicitDefEqProofs (disch := omega) [swashref06_trimmed, u1, u2, hf']
  | some n =>
   have u2 := fun H' => hU (i + 2) H'
   rw [h2] at u2
   have hn := uS_two hb h2
   have hn' : ¬ n < 0 := by omega
   simp only [Option.bind_some, Option.getD_some] at u1 u2 ⊢
   by_cases h3 : f + n ≤ 65536
   ·have h3' : ¬ f + n > 65536 := by omega
    cases h4 : rowsB b.length (i + 4) n z with
    | false =>
     rw [if_neg (by simp)]
     refine ⟨_, refNo ?_, .no⟩
     have hR4 := hR n
     rw [h4] at hR4
     simp -implicitDefEqProofs (disch := omega) [swashref06_trimmed, u1, u2, hf', hn', h3', hR4]
    | true =>
     rw [if_pos ⟨h3, rfl⟩]
     have hR4 := hR n
     rw [h4] at hR4
     by_cases h0 : n = 0
     ·subst h0
      rw [if_pos rfl]
      have h3'' : ¬ 65536 < f := by omega
      refine ⟨.tuple #[lv encRP [], .bool true], nrm_fz (v := .tuple #[bareV, .bool true]) (H' := H) (L := []) ?_ rfl (Ext.refl H) (parts_flat [] true).alive, [], rfl, fun x h => (by injection h), by simp⟩
      simp -implicitDefEqProofs (disch := omega) [swashref06_trimmed, u1, u2, hf', h3'', hR4]
     ·rw [if_neg h0]
      have h0' : (n == 0) = false := by simpa using h0
      obtain ⟨r, hr⟩ : ∃ r : RP, r = ⟨f, f + n - 1, i + 4, z, z⟩ := ⟨_, rfl⟩
      rw [← hr]
      have ho : Own H (H.push ⟨encRP r, 5, false⟩) 5 (.slice (some ⟨H.n, 0, none⟩) 1 1) encRP [r] := .inr ⟨H.n, rfl, by omega, get_push_eq _ _ _ rfl⟩
      obtain ⟨L, hfz⟩ := ho.freeze encRP_len (encRP_still _) 5
      refine ⟨.tuple #[lv encRP [r], .bool true], nrm_fz (v := .tuple #[.slice (some ⟨H.n, 0, none⟩) 1 1, .bool true]) (H' := H.push ⟨encRP r, 5, false⟩) ?_ (fz_tuple (l := [.slice (some ⟨H.n, 0, none⟩) 1 1, .bool true]) (mapF_cons hfz (mapF_one (L := []) rfl))) ((Ext.refl H).push _) (parts_flat [r] true).alive, [r], rfl, fun x h => (by injection h), by simp⟩
      subst hr
      simp -implicitDefEqProofs (disch := omega) [swashref06_trimmed, u1, u2, hf', hn', h3', hR4, h0']
   ·rw [if_neg (fun h => h3 h.1)]
    have h3' : f + n > 65536 := by omega
    refine ⟨_, refNo ?_, .no⟩
    simp -implicitDefEqProofs (disch := omega) [swashref06_trimmed, u1, u2, hf', hn', h3']
theorem PartsAre.val {o : Option (List RP)} {v : Value} (h : PartsAre o v) : ∃ l ok, v = .tuple #[lv encRP l, .bool ok] ∧ o = (if ok then some l else none) ∧ l.length ≤ 65536 := by
 obtain ⟨l, rfl, h1, h2⟩ := h
 cases o with
 | none => exact ⟨l, false, rfl, rfl, h2⟩
 | some x => exact ⟨l, true, rfl, by simp [h1 x rfl], h2⟩
theorem PartsAre.pass {o : Option (List RP)} {l : List RP} {ok : Bool} (h : o = (if ok then some l else none)) (hl : l.length ≤ 65536) : PartsAre o (.tuple #[lv encRP l, .bool ok]) := by
 subst h
 cases ok with
 | true => exact ⟨l, rfl, fun x h => (by injection h), hl⟩
 | false => exact ⟨l, rfl, fun x h => (by cases h), hl⟩
theorem nrm_parts {H : Heap} {r : Res Value} {l : List RP} {ok : Bool} (h : r = .ok (.tuple #[lv encRP l, .bool ok]) H) : nrm .fz H r = .ok (.tuple #[lv encRP l, .bool ok]) H :=
 nrm_fz (L := []) h rfl (Ext.refl H) (parts_flat l ok).alive
theorem parts06_run (k : Nat) (b : List Int) (hb : Byt b) (g z : Int) (hg : 1 ≤ g ∧ g ≤ 65535) (hz : z = 2 ∨ z = 4) (hl : b.length < 2 ^ 31) (H : Heap) :
  ∃ v, R (T k) F.swashref06_parts [lv encB b, .int .i64 g, .int .i64 z] H = .ok v H ∧ PartsAre (refPartsS b g z (gU b 0 2)) v := by
 have hU := fun j H' => refU_run k (H := H') (Sl.lv H' 1 b) hb j 2 (by omega) (by omega)
 have hR := fun H' => refRows_run k b.length 2 g z (by omega) (by omega) H'
 rw [swashref06_parts_R]
 have hu0 : ∀ H', R (T k) F.swashref01_U [lv encB b, .int .i64 0, .int .i64 2] H' = .ok (.int .i64 (gU b 0 2)) H' := fun H' => hU 0 H'
 have hu2 : ∀ H', R (T k) F.swashref01_U [lv encB b, .int .i64 2, .int .i64 2] H' = .ok (.int .i64 (gU b 2 2)) H' := fun H' => hU 2 H'
 generalize gU b 0 2 = fmt at hu0 ⊢
 unfold refPartsS
 by_cases h0 : fmt = 0
 ·subst h0
  rw [if_pos rfl]
  obtain ⟨r, hr⟩ : ∃ r : RP, r = ⟨0, g - 1, 2, z, z⟩ := ⟨_, rfl⟩
  rw [← hr]
  have ho : Own H (H.push ⟨encRP r, 5, false⟩) 5 (.slice (some ⟨H.n, 0, none⟩) 1 1) encRP [r] := .inr ⟨H.n, rfl, by omega, get_push_eq _ _ _ rfl⟩
  obtain ⟨L, hfz⟩ := ho.freeze encRP_len (encRP_still _) 5
  refine ⟨.tuple #[lv encRP [r], .bool (rowsB b.length 2 g z)], nrm_fz (v := .tuple #[.slice (some ⟨H.n, 0, none⟩) 1 1, .bool (rowsB b.length 2 g z)]) (H' := H.push ⟨encRP r, 5, false⟩) ?_ (fz_tuple (l := [.slice (some ⟨H.n, 0, none⟩) 1 1, .bool (rowsB b.length 2 g z)]) (mapF_cons hfz (mapF_one (L := []) rfl))) ((Ext.refl H).push _) (parts_flat [r] _).alive, .pass rfl (by simp)⟩
  subst hr
  simp -implicitDefEqProofs (disch := omega) [swashref06_parts, hu0, hR]
 rw [if_neg h0]
 have h0' : (fmt == 0) = false := by simpa using h0
 by_cases h2 : fmt = 2
 ·subst h2
  rw [if_pos rfl]
  obtain ⟨v, e, hp⟩ := segs06_run k b hb z hz false hl H
  obtain ⟨l, ok, rfl, ho, hll⟩ := hp.val
  refine ⟨_, nrm_parts (l := l) (ok := ok) ?_, .pass ho hll⟩
  simp -implicitDefEqProofs (disch := omega) [swashref06_parts, hu0, e]
 rw [if_neg h2]
 have h2' : (fmt == 2) = false := by simpa using h2
 by_cases h4 : fmt = 4
 ·subst h4
  rw [if_pos rfl]
  obtain ⟨v, e, hp⟩ := segs06_run k b hb z hz true hl H
  obtain ⟨l, ok, rfl, ho, hll⟩ := hp.val
  refine ⟨_, nrm_parts (l := l) (ok := ok) ?_, .pass ho hll⟩
  simp -implicitDefEqProofs (disch := omega) [swashref06_parts, hu0, e]
 rw [if_neg h4]
 have h4' : (fmt == 4) = false := by simpa using h4
 by_cases h6 : fmt = 6
 ·subst h6
  rw [if_pos rfl]
  have hr5 := fun H' => rows05_run k b hb 2 (2 + z) 1 hl (by omega) (by omega) (by omega) (by omega) H'
  obtain ⟨ps, ok, zz, hrow, hps, hpl, hok⟩ : ∃ (ps : List Int) (ok : Bool) (zz : Int), rowsO b 2 (2 + z) 1 = .tuple #[lv encI ps, .int .i64 zz, .bool ok] ∧ (∀ p, p ∈ ps → 0 ≤ p ∧ p < 2 ^ 34) ∧
    ps.length < 65536 ∧ refOneS b z = (if ok then some (ps.map (oneR b z)) else none) := by
   unfold rowsO refOneS
   cases ht : takeS b 2 (2 + z) 1 with
   | none => exact ⟨[], false, 0, rfl, (fun p h => by cases h), by simp, rfl⟩
   | some rows =>
    obtain ⟨s, n, h1, h2, h3, h4, h5, h6⟩ := takeS_get ht
    have hs := uS_two hb h1
    have hn := uS_two hb h2
    rw [gU_some h1]
    refine ⟨posS 2 s rows.length, true, s, rfl, fun p hp => ?_, by simp; omega, by rw [Option.map_some]; rfl⟩
    obtain ⟨j, hj⟩ := List.getElem?_of_mem hp
    have hjl := (List.getElem?_eq_some_iff.1 hj).1
    rw [posS_len] at hjl
    rw [posS_get _ _ _ _ hjl] at hj
    injection hj with hj
    have h7 := Int.mul_nonneg hs.1 (show (0 : Int) ≤ (j : Int) by omega)
    have h8 : s * (j : Int) ≤ 65536 * 65536 := Int.mul_le_mul (by omega) (by omega) (by omega) (by omega)
    omega
  rw [hrow] at hr5
  rw [hok]
  obtain ⟨x, e', H1, hr, rfl, hx, a, s, rfl, ho⟩ := loop_up (body := swashref06_parts_l1 k (R (T k))) ps.length
   (fun j e H' => Ext H H' ∧ ∃ s, e = [(0, lv encB b), (2, .int .i64 z), (8, lv encI ps), (10, .bool ok), (11, s), (12, .int .i64 j)] ∧ Own H H' 5 s encRP ((ps.take j).map (oneR b z)))
   (fun x e H' => x = .exit 1 ∧ Ext H H' ∧ ∃ a s, e = [(0, lv encB b), (2, .int .i64 z), (8, lv encI ps), (10, .bool ok), (11, s), (12, a), (58, .bool false)] ∧ Own H H' 5 s encRP (ps.map (oneR b z)))
   (e0 := [(0, lv encB b), (2, .int .i64 z), (8, lv encI ps), (10, .bool ok), (11, bareV), (12, .int .i64 0)]) (H0 := H) ⟨Ext.refl H, _, rfl, Own.bare _ _ _⟩ (by omega)
   (fun j e H' hj ⟨hx, s, he, ho⟩ => by
    subst he
    have hlt : (j : Int) < ps.length := by omega
    obtain ⟨p, hp⟩ : ∃ p, ps[j]? = some p := ⟨_, List.getElem?_eq_getElem hj⟩
    have hpb := hps p (List.mem_of_getElem? hp)
    have i1 := fun H' => ixS_lvN encI_len ps .i64 j p hp H'
    have u0 : ∀ H', R (T k) F.swashref01_U [lv encB b, .int .i64 p, .int .i64 2] H' = .ok (.int .i64 (gU b p 2)) H' := fun H' => hU p H'
    obtain ⟨s2, H2, e2, o2, x2⟩ := ap1_own (bytes := 40) encRP_len ho hx (oneR b z p) (by simp; omega) (by decide)
    refine .inl ⟨_, H2, ?_, x2, s2, rfl, by rw [take_snoc hp, List.map_append]; exact o2⟩
    rw [swashref06_parts_l1_eq]
    unfold encRP oneR at e2
    simp -implicitDefEqProofs (disch := omega) [hlt, i1, u0, e2])
   (fun e H' ⟨hx, s, he, ho⟩ => by
    subst he
    refine ⟨.exit 1, _, H', ?_, by simp, rfl, hx, .int .i64 ps.length, s, rfl, by rw [List.take_length] at ho; exact ho⟩
    rw [swashref06_parts_l1_eq]
    simp -implicitDefEqProofs)
  obtain ⟨L, hf⟩ := ho.freeze encRP_len (encRP_still _) 5
  refine ⟨.tuple #[lv encRP (ps.map (oneR b z)), .bool ok], nrm_fz (v := .tuple #[s, .bool ok]) (H' := H1) ?_ (fz_tuple (l := [s, .bool ok]) (mapF_cons hf (mapF_one (L := []) rfl))) hx (parts_flat _ _).alive, .pass rfl (by simp; omega)⟩
  rcases hz with rfl | rfl <;> simp -implicitDefEqProofs (disch := omega) at hr5 <;> simp -implicitDefEqProofs (disch := omega) [swashref06_parts, hu0, hr5, hr, swashref06_parts_l1k_x1]
 rw [if_neg h6]
 have h6' : (fmt == 6) = false := by simpa using h6
 by_cases h8 : fmt = 8
 ·subst h8
  rw [if_pos rfl]
  obtain ⟨v, e, hp⟩ := trim06_run k b hb 2 z (by omega) (by omega) hl H
  obtain ⟨l, ok, rfl, ho, hll⟩ := hp.val
  refine ⟨_, nrm_parts (l := l) (ok := ok) ?_, .pass ho hll⟩
  simp -implicitDefEqProofs (disch := omega) [swashref06_parts, hu0, e]
 rw [if_neg h8]
 have h8' : (fmt == 8) = false := by simpa using h8
 by_cases h10 : fmt = 10
 ·subst h10
  rw [if_pos rfl]
  have hno : ¬ (gU b 2 2 = 1 ∨ gU b 2 2 = 2 ∨ gU b 2 2 = 4) → swashref06_parts k (R (T k)) (lv encB b) (.int .i64 g) (.int .i64 z) H = .ok (.tuple #[.slice none 0 0, .bool false]) H := fun hu => by
   have u1 : (gU b 2 2 == 1) = false := by simpa using fun h => hu (.inl h)
   have u2 : (gU b 2 2 == 2) = false := by simpa using fun h => hu (.inr (.inl h))
   have u4 : (gU b 2 2 == 4) = false := by simpa using fun h => hu (.inr (.inr h))
   simp -implicitDefEqProofs (disch := omega) [swashref06_parts, hu0, hu2, bne, u1, u2, u4]
  cases h : uS b 2 2 with
  | none =>
   have hg2 : gU b 2 2 = -1 := by unfold gU; rw [h]; rfl
   exact ⟨_, refNo (hno (by rw [hg2]; decide)), .no⟩
  | some u =>
   have hg2 := gU_some h
   rw [hg2] at hu2 hno
   simp only [Option.bind_some]
   by_cases hu : u = 1 ∨ u = 2 ∨ u = 4
   ·rw [if_pos hu]
    obtain ⟨v, e, hp⟩ := trim06_run k b hb 4 u hu (by omega) hl H
    obtain ⟨l, ok, rfl, ho, hll⟩ := hp.val
    refine ⟨_, nrm_parts (l := l) (ok := ok) ?_, .pass ho hll⟩
    rcases hu with rfl | rfl | rfl <;> simp -implicitDefEqProofs (disch := omega) [swashref06_parts, hu0, hu2, bne, e]
   ·rw [if_neg hu]
    exact ⟨_, refNo (hno hu), .no⟩
 rw [if_neg h10]
 have h10' : (fmt == 10) = false := by simpa using h10
 refine ⟨_, refNo ?_, .no⟩
 simp -implicitDefEqProofs (disch := omega) [swashref06_parts, hu0, h0', h2', h4', h6', h8', h10']
end Go.Sw
end
section
namespace Go.Sw
open Go.RowKit
theorem goodR_snoc (r : RP) : ∀ a : List RP, goodR (a ++ [r]) = (goodR a && decide (r.first ≤ r.last) && match a.getLast? with | some q => decide (q.last < r.first) | none => true)
 | [] => by simp [goodR]
 | [x] => by
  simp only [List.singleton_append, goodR, List.getLast?_singleton]
  cases decide (x.first ≤ x.last) <;> cases decide (x.last < r.first) <;> cases decide (r.first ≤ r.last) <;> rfl
 | x :: y :: t => by
  have ih := goodR_snoc r (y :: t)
  simp only [List.cons_append] at ih ⊢
  simp only [goodR, ih, List.getLast?_cons_cons]
  simp only [Bool.and_assoc]
abbrev tabRV (b : List Int) (rs : List RP) : Value := .agg #[lv encB b, lv encRP rs]
def tabRO (b : List Int) (o : Option (List RP)) : Value := match o with | some rs => tabRV b rs | none => tabRV [] []
theorem Flat.tabRV (b : List Int) (rs : List RP) : Flat (tabRV b rs) := .aggL (.cons (Flat.B _) (.cons (Flat.RPs _) .nil))
theorem tabRO_flat (b : List Int) (o : Option (List RP)) : Flat (tabRO b o) := by
 unfold tabRO
 split
 ·exact Flat.tabRV _ _
 ·exact Flat.tabRV _ _
theorem read06_run (k : Nat) (b : List Int) (hb : Byt b) (g z : Int) (hg : 1 ≤ g ∧ g ≤ 65535) (hz : z = 2 ∨ z = 4) (hl : b.length < 2 ^ 31) (H : Heap) :
  R (T k) F.swashref06_Read [lv encB b, .int .i64 g, .int .i64 z] H = .ok (.tuple #[tabRO b (refReadS b g z), .bool (refReadS b g z).isSome]) H := by
 have hx0 : Ext H (H.push ⟨[.slice none 0 0, .slice none 0 0], 1, false⟩) := (Ext.refl H).push _
 obtain ⟨v, e, hp⟩ := parts06_run k b hb g z hg hz hl (H.push ⟨[.slice none 0 0, .slice none 0 0], 1, false⟩)
 obtain ⟨l, ok, rfl, ho, hll⟩ := hp.val
 rw [swashref06_Read_R]
 obtain ⟨x, e', H1, hr, rfl, rfl, rfl⟩ := loop_up (body := swashref06_Read_l1 k (R (T k))) l.length
  (fun j e H' => H' = H.push ⟨[.slice none 0 0, .slice none 0 0], 1, false⟩ ∧ e = [(0, lv encB b), (6, .pointer (some ⟨H.n, 0, none⟩)), (8, lv encRP l), (9, .bool (ok && goodR (l.take j))), (10, .int .i64 j)])
  (fun x e H' => H' = H.push ⟨[.slice none 0 0, .slice none 0 0], 1, false⟩ ∧ x = .exit 0 ∧ e = [(0, lv encB b), (6, .pointer (some ⟨H.n, 0, none⟩)), (8, lv encRP l), (9, .bool (ok && goodR l)), (10, .int .i64 l.length), (21, .bool false)])
  (e0 := [(0, lv encB b), (6, .pointer (some ⟨H.n, 0, none⟩)), (8, lv encRP l), (9, .bool ok), (10, .int .i64 0)]) (H0 := H.push ⟨[.slice none 0 0, .slice none 0 0], 1, false⟩) ⟨rfl, by simp [goodR]⟩ (by omega)
  (fun j e H' hj ⟨hH, he⟩ => by
   subst he hH
   have hlt : (j : Int) < l.length := by omega
   obtain ⟨r, hr⟩ : ∃ r, l[j]? = some r := ⟨_, List.getElem?_eq_getElem hj⟩
   have i1 := fun H' => ixS_lvN encRP_len l .i64 j r hr H'
   refine .inl ⟨_, _, ?_, rfl, rfl⟩
   rw [swashref06_Read_l1_eq, take_snoc hr, goodR_snoc]
   by_cases h1 : r.last < r.first
   ·have h1' : ¬ r.first ≤ r.last := by omega
    simp -implicitDefEqProofs (disch := omega) [hlt, i1, h1, h1', swashref06_Read_j1_eq]
   ·have h1' : r.first ≤ r.last := by omega
    cases j with
    | zero =>
     simp -implicitDefEqProofs (disch := omega) at i1 hlt
     simp -implicitDefEqProofs (disch := omega) [hlt, i1, h1, h1', swashref06_Read_j2_eq, goodR]
    | succ j =>
     obtain ⟨q, hq⟩ : ∃ q, l[j]? = some q := ⟨_, List.getElem?_eq_getElem (by omega)⟩
     have i2 := fun H' => ixS_lvN encRP_len l .i64 j q hq H'
     have hlast : (l.take (j + 1)).getLast? = some q := by rw [take_snoc hq]; simp
     rw [hlast]
     have hj0 : (0 : Int) < (j : Int) + 1 := by omega
     simp -implicitDefEqProofs (disch := omega) at i1 hlt
     by_cases h2 : r.first ≤ q.last
     ·have h2' : ¬ q.last < r.first := by omega
      simp -implicitDefEqProofs (disch := omega) [hlt, i1, i2, h1, h1', h2, h2', hj0, swashref06_Read_j1_eq]
     ·have h2' : q.last < r.first := by omega
      simp -implicitDefEqProofs (disch := omega) [hlt, i1, i2, h1, h1', h2, h2', hj0, swashref06_Read_j2_eq])
  (fun e H' ⟨hH, he⟩ => by
   subst he hH
   refine ⟨.exit 0, _, _, ?_, by simp, rfl, rfl, rfl⟩
   rw [swashref06_Read_l1_eq, List.take_length]
   simp -implicitDefEqProofs)
 have hread : refReadS b g z = if (ok && goodR l) = true then some l else none := by
  unfold refReadS
  rw [ho]
  cases ok <;> simp
 rw [hread]
 cases hgood : (ok && goodR l) with
 | false =>
  rw [hgood] at hr
  refine nrm_fz (v := .tuple #[.agg #[.slice none 0 0, .slice none 0 0], .bool false]) (L := []) (H' := H.push ⟨[.slice none 0 0, .slice none 0 0], 1, false⟩) ?_ rfl hx0 (Flat.tupleL (.cons (tabRO_flat b none) (.cons (.bool _) .nil))).alive
  simp -implicitDefEqProofs [swashref06_Read, e, hr, swashref06_Read_l1k_x0]
 | true =>
  rw [hgood] at hr
  refine nrm_fz (v := .tuple #[tabRV b l, .bool true]) (L := []) (H' := H.push ⟨[lv encB b, lv encRP l], 1, false⟩) ?_ rfl ((Ext.refl H).push _) (Flat.tupleL (.cons (Flat.tabRV b l) (.cons (.bool _) .nil))).alive
  simp -implicitDefEqProofs [swashref06_Read, e, hr, swashref06_Read_l1k_x0]
def RP.ok (r : RP) : Prop := -1 ≤ r.first ∧ r.first ≤ 65536 ∧ -1 ≤ r.last ∧ r.last ≤ 65536 ∧ -1 ≤ r.pos ∧ r.pos < 2 ^ 35 ∧ 0 ≤ r.step ∧ r.step ≤ 4 ∧ 0 ≤ r.size ∧ r.size ≤ 4
theorem posS_bound {b : List Int} (hb : Byt b) {i need : Int} {keys : Nat} {rows : List (List Int)} (h : takeS b i need keys = some rows) (hi : 0 ≤ i ∧ i ≤ 65536) : ∀ p, p ∈ posS i (gU b i 2) rows.length → 0 ≤ p ∧ p < 2 ^ 34 := by
 obtain ⟨s, n, h1, h2, h3, h4, h5, h6⟩ := takeS_get h
 have hs := uS_two hb h1
 have hn := uS_two hb h2
 rw [gU_some h1]
 intro p hp
 obtain ⟨j, hj⟩ := List.getElem?_of_mem hp
 have hjl := (List.getElem?_eq_some_iff.1 hj).1
 rw [posS_len] at hjl
 rw [posS_get _ _ _ _ hjl] at hj
 injection hj with hj
 have h7 := Int.mul_nonneg hs.1 (show (0 : Int) ≤ (j : Int) by omega)
 have h8 : s * (j : Int) ≤ 65536 * 65536 := Int.mul_le_mul (by omega) (by omega) (by omega) (by omega)
 omega
theorem refTrim_ok {b : List Int} (hb : Byt b) {i z : Int} (hi : 0 ≤ i ∧ i ≤ 4) (hz : z = 1 ∨ z = 2 ∨ z = 4) {rs : List RP} (h : refTrimS b i z = some rs) : ∀ r, r ∈ rs → r.ok := by
 unfold refTrimS at h
 obtain ⟨f, hf, h⟩ := Option.bind_eq_some_iff.1 h
 obtain ⟨n, hn, h⟩ := Option.bind_eq_some_iff.1 h
 have hf := uS_two hb hf
 have hn := uS_two hb hn
 split at h
 ·rename_i hc
  injection h with h
  subst h
  intro r hr
  split at hr
  ·cases hr
  ·rw [List.mem_singleton] at hr
   subst hr
   refine ⟨?_, ?_, ?_, ?_, ?_, ?_, ?_, ?_, ?_, ?_⟩ <;> dsimp only <;> omega
 ·cases h
theorem refParts_ok {b : List Int} (hb : Byt b) {g z fmt : Int} (hg : 1 ≤ g ∧ g ≤ 65535) (hz : z = 2 ∨ z = 4) {rs : List RP} (h : refPartsS b g z fmt = some rs) : ∀ r, r ∈ rs → r.ok := by
 have seg : ∀ each rs, refSegS b z each = some rs → ∀ r, r ∈ rs → r.ok := fun each rs h => by
  unfold refSegS at h
  obtain ⟨rows, h1, h2⟩ := Option.bind_eq_some_iff.1 h
  refine mapO_all h2 fun p r hp hr => ?_
  have hpb := posS_bound hb h1 (by omega) p hp
  have g0 := gU_two hb p
  have g2 := gU_two hb (p + 2)
  have g4 := gU_two hb (p + 4)
  unfold segR at hr
  split at hr
  ·split at hr
   ·injection hr with hr
    subst hr
    refine ⟨?_, ?_, ?_, ?_, ?_, ?_, ?_, ?_, ?_, ?_⟩ <;> dsimp only <;> omega
   ·cases hr
  ·injection hr with hr
   subst hr
   refine ⟨?_, ?_, ?_, ?_, ?_, ?_, ?_, ?_, ?_, ?_⟩ <;> dsimp only <;> omega
 unfold refPartsS at h
 split at h
 ·split at h
  ·injection h with h
   subst h
   intro r hr
   rw [List.mem_singleton] at hr
   subst hr
   refine ⟨?_, ?_, ?_, ?_, ?_, ?_, ?_, ?_, ?_, ?_⟩ <;> dsimp only <;> omega
  ·cases h
 split at h
 ·exact seg _ _ h
 split at h
 ·exact seg _ _ h
 split at h
 ·unfold refOneS at h
  obtain ⟨rows, h1, rfl⟩ := Option.map_eq_some_iff.1 h
  intro r hr
  obtain ⟨p, hp, rfl⟩ := List.mem_map.1 hr
  have hpb := posS_bound hb h1 (by omega) p hp
  have g0 := gU_two hb p
  unfold oneR
  refine ⟨?_, ?_, ?_, ?_, ?_, ?_, ?_, ?_, ?_, ?_⟩ <;> dsimp only <;> omega
 split at h
 ·exact refTrim_ok hb (by omega) (by omega) h
 split at h
 ·obtain ⟨u, _, h⟩ := Option.bind_eq_some_iff.1 h
  split at h
  ·rename_i hu
   exact refTrim_ok hb (by omega) hu h
  ·cases h
 ·cases h
theorem refRead_ok {b : List Int} (hb : Byt b) {g z : Int} (hg : 1 ≤ g ∧ g ≤ 65535) (hz : z = 2 ∨ z = 4) {rs : List RP} (h : refReadS b g z = some rs) : ∀ r, r ∈ rs → r.ok := by
 unfold refReadS at h
 obtain ⟨qs, h1, h⟩ := Option.bind_eq_some_iff.1 h
 split at h
 ·injection h with h
  subst h
  exact refParts_ok hb hg hz h1
 ·cases h
theorem refRead_len {b : List Int} {g z : Int} {rs : List RP} (hb : Byt b) (hg : 1 ≤ g ∧ g ≤ 65535) (hz : z = 2 ∨ z = 4) {x : Int × List Pt} (hx : lookS b g z = some x) (h : refReadS b g z = some rs) : rs.length < 2 ^ 31 := by
 obtain ⟨rs', h1, h2⟩ := (look_ref hb hg.1 hg.2 hz).1 x hx
 rw [h] at h1
 injection h1 with h1
 subst h1
 have : ∀ (ps : List Pt) (rs : List RP), Rel b ps rs → rs.length = ps.length := by
  intro ps
  induction ps with
  | nil => intro rs h; cases rs with | nil => rfl | cons _ _ => cases h
  | cons p ps ih => intro rs h; cases rs with | nil => cases h | cons r rs => simp [ih rs h.2]
 rw [this _ _ h2]
 exact lookS_len hb hx
end Go.Sw
end
section
namespace Go.Sw
open Go.RowKit
theorem restS_iff {b rv : List Int} {j : Int} : restS b j = some rv ↔ (0 ≤ j ∧ j ≤ b.length) ∧ rv = b.drop j.toNat := by
 unfold restS
 split
 ·rename_i h
  exact ⟨fun e => by injection e with e; exact ⟨h, e.symm⟩, fun e => by rw [e.2]⟩
 ·rename_i h
  exact ⟨fun e => (by cases e), fun e => absurd e.1 h⟩
theorem restS_length {b rv : List Int} {j : Int} (h : restS b j = some rv) : (rv.length : Int) = b.length - j := by
 obtain ⟨h1, rfl⟩ := restS_iff.1 h
 simp
 omega
theorem uS_rest {b rv : List Int} {j : Int} (h : restS b j = some rv) {x : Int} (hx : 0 ≤ x) (z : Int) : uS rv x z = uS b (j + x) z := by
 have hl := restS_length h
 obtain ⟨h1, rfl⟩ := restS_iff.1 h
 unfold uS pieceS
 by_cases hc : 0 ≤ z ∧ x ≤ b.length - j ∧ z ≤ b.length - j - x
 ·rw [if_pos (by omega), if_pos (by omega), List.drop_drop, show j.toNat + x.toNat = (j + x).toNat by omega]
 ·rw [if_neg (by omega), if_neg (by omega)]
theorem rowK_iff {rv : List Int} {n : Int} (hn : 0 < n) {k : Nat} : (rowK rv n k).isSome = true ↔ 2 * n * (k + 1) ≤ rv.length := by
 unfold rowK
 rw [listS_isSome (by omega), rowsB_iff (by omega)]
 have h0 : 0 ≤ 2 * n * (k : Int) := Int.mul_nonneg (by omega) (by omega)
 have h1 : 2 * n * ((k : Int) + 1) = 2 * n * k + 2 * n := by rw [Int.mul_add]; omega
 constructor
 ·rintro ⟨_, _, _, h⟩; omega
 ·intro h; exact ⟨h0, by omega, by omega, by omega⟩
theorem row_at {b rv : List Int} {j : Int} (h : restS b j = some rv) {n : Int} {k : Nat} {r : List Int} (hn : 0 < n) (hr : rowK rv n k = some r) : r = (List.range n.toNat).map fun i => gU b (j + (n * k + (i : Nat)) * 2) 2 := by
 have hs := (rowK_iff (rv := rv) (k := k) hn).1 (by rw [hr]; rfl)
 have hr' := hr
 unfold rowK listS at hr'
 obtain ⟨q, hq, hqr⟩ := Option.map_eq_some_iff.1 hr'
 have hlen : r.length = n.toNat := by rw [← hqr]; simp
 have hk0 : 0 ≤ n * (k : Int) := Int.mul_nonneg (by omega) (by omega)
 apply List.ext_getElem?
 intro i
 by_cases hi : i < n.toNat
 ·rw [listS_get (by omega) hr i (by omega), List.getElem?_map, List.getElem?_range hi, uS_rest h (by rw [Int.mul_assoc]; omega)]
  have e : j + (2 * n * (k : Int) + (i : Int) * 2) = j + (n * k + (i : Nat)) * 2 := by rw [Int.mul_assoc, Int.add_mul]; omega
  rw [e]
  have hlen := restS_length h
  have hj := (restS_iff.1 h).1
  have h1 : 2 * n * ((k : Int) + 1) = 2 * (n * k) + 2 * n := by rw [Int.mul_add, Int.mul_assoc]; omega
  obtain ⟨x, hx⟩ : ∃ x, uS b (j + (n * k + (i : Nat)) * 2) 2 = some x := uS_of_in (by unfold inS; exact decide_eq_true (by rw [Int.add_mul]; omega))
  rw [hx, Option.map_some, gU_some hx]
 ·rw [List.getElem?_eq_none (by omega), List.getElem?_eq_none (by simp; omega)]
structure RMach where
 b : List Int
 cl : Int
 rowsAt : Int
 entsAt : Int
 states : Int
 n : Int
 words : Int
 tb : List Int
 parts : List RP
end Go.Sw
end
section
namespace Go.Sw
open Go.RowKit
theorem twos_get (l : List Int) (pre rest : List Int) (i : Nat) (x : Int) (hx : l[i]? = some x) (hb : 0 ≤ x ∧ x < 65536) (p : Int) (hp : p = pre.length + 2 * i) : uS (pre ++ (twos l ++ rest)) p 2 = some x := by
 obtain ⟨hi, hg⟩ := List.getElem?_eq_some_iff.1 hx
 have e : twos l = twos (l.take i) ++ (bytesOf x 2 ++ twos (l.drop (i + 1))) := by
  have : l = l.take i ++ ([x] ++ l.drop (i + 1)) := by
   rw [← hg, List.singleton_append, ← List.drop_eq_getElem_cons hi, List.take_append_drop]
  conv => lhs; rw [this]
  simp [twos]
 rw [e, ← List.append_assoc]
 have h := uS_at (pre ++ twos (l.take i)) (twos (l.drop (i + 1)) ++ rest) (n := x) (k := 2) p 2 (by rw [List.length_append, twos_len, List.length_take]; omega) rfl hb.1 (by simpa using hb.2)
 simpa [List.append_assoc] using h
theorem twos_flat (n : Nat) : ∀ rs : List (List Int), rowsL n rs = twos (rs.map (rowL n)).flatten
 | [] => rfl
 | r :: rs => by
  have ih := twos_flat n rs
  unfold rowsL at ih ⊢
  rw [List.map_cons, List.flatten_cons, ih]
  simp [twos]
theorem flat_get {n : Nat} : ∀ {rs : List (List Int)} {s i : Nat} {r : List Int}, (∀ r, r ∈ rs → r.length = n) → rs[s]? = some r → i < n → rs.flatten[n * s + i]? = r[i]?
 | [], s, i, r, _, h, _ => by simp at h
 | q :: rs, 0, i, r, hl, h, hi => by
  simp at h
  subst h
  have := hl q (by simp)
  rw [List.flatten_cons, Nat.mul_zero, Nat.zero_add, List.getElem?_append_left (by omega)]
 | q :: rs, s + 1, i, r, hl, h, hi => by
  have h1 := hl q (by simp)
  have := flat_get (s := s) (i := i) (fun r hr => hl r (List.mem_cons_of_mem _ hr)) (by simpa using h) hi
  rw [List.flatten_cons, List.getElem?_append_right (by rw [h1, Nat.mul_succ]; omega), h1, ← this]
  congr 1
  rw [Nat.mul_succ]; omega
theorem restS_all (b : List Int) : restS b 0 = some b := by
 unfold restS
 rw [if_pos ⟨Int.le_refl _, by omega⟩]
 rfl
theorem rowK_plan {n : Nat} (hn : 0 < n) {rs : List (List Int)} (hb : ∀ r, r ∈ rs → Byt r) (x : List Int) {s : Nat} {r : List Int} (hr : rs[s]? = some r) : rowK (rowsL n rs ++ x) n s = some (rowL n r) := by
 have hs := (List.getElem?_eq_some_iff.1 hr).1
 have hlen : (n * 2) * (s + 1) ≤ rs.length * (n * 2) := by rw [Nat.mul_comm]; exact Nat.mul_le_mul_right _ hs
 have hsome : (rowK (rowsL n rs ++ x) n s).isSome = true := by
  rw [rowK_iff (by omega), List.length_append, rowsL_len]
  have h2 : (2 * (n : Int) * ((s : Int) + 1)) = (((n * 2) * (s + 1) : Nat) : Int) := by simp [Int.mul_comm]
  rw [h2]
  omega
 obtain ⟨q, hq⟩ := Option.isSome_iff_exists.1 hsome
 have hat := row_at (restS_all _) (show (0 : Int) < n by omega) hq
 rw [hq, hat]
 congr 1
 rw [Int.toNat_natCast]
 unfold rowL
 apply List.map_congr_left
 intro i hi
 have hi := List.mem_range.1 hi
 have hg : (rs.map (rowL n)).flatten[n * s + i]? = some (r[i]?.getD 0) := by
  rw [flat_get (r := rowL n r) (fun q hq => by obtain ⟨p, _, rfl⟩ := List.mem_map.1 hq; exact rowL_len _ _) (by rw [List.getElem?_map, hr]; rfl) hi]
  unfold rowL
  rw [List.getElem?_map, List.getElem?_range hi]
  rfl
 have hbd : 0 ≤ r[i]?.getD 0 ∧ r[i]?.getD 0 < 256 := by
  cases h : r[i]? with
  | none => simp
  | some y => exact hb r (List.mem_of_getElem? hr) y (List.mem_of_getElem? h)
 rw [twos_flat]
 have := twos_get _ [] x (n * s + i) _ hg ⟨hbd.1, by omega⟩ (0 + ((n : Int) * s + i) * 2) (by simp; omega)
 rw [List.nil_append] at this
 rw [gU_some this]
def entM (w : Int) (e : En) : En := ⟨m16 e.next, m16 e.flags, if 0 < w then m16 e.a else 0, if 1 < w then m16 e.b else 0⟩
theorem entB_length {w : Int} (hw : w = 0 ∨ w = 1 ∨ w = 2) (e : En) : (entB w e).length = (4 + 2 * w).toNat := by
 unfold entB
 simp only [List.length_append, bytesOf_len]
 rcases hw with rfl | rfl | rfl <;> simp
theorem entK_plan {w : Int} (hw : w = 0 ∨ w = 1 ∨ w = 2) {es : List En} (x : List Int) {i : Nat} {e : En} (he : es[i]? = some e) : entK (entsB w es ++ x) w i = some (entM w e) := by
 obtain ⟨hi, hg⟩ := List.getElem?_eq_some_iff.1 he
 have hall : entsB w es = entsB w (es.take i) ++ (entB w e ++ entsB w (es.drop (i + 1))) := by
  have : es = es.take i ++ ([e] ++ es.drop (i + 1)) := by
   rw [← hg, List.singleton_append, ← List.drop_eq_getElem_cons hi, List.take_append_drop]
  conv => lhs; rw [this]
  simp [entsB]
 have hl : (entsB w (es.take i)).length = i * (4 + 2 * w).toNat := by
  unfold entsB
  rw [flat_len (z := (4 + 2 * w).toNat) (fun r hr => by obtain ⟨p, _, rfl⟩ := List.mem_map.1 hr; exact entB_length hw p), List.length_map, List.length_take, Nat.min_eq_left (by omega)]
 unfold entK
 have hp : pieceS (entsB w es ++ x) ((4 + 2 * w) * i) (4 + 2 * w) = some (entB w e) := by
  rw [hall, List.append_assoc, List.append_assoc]
  refine pieceS_at _ _ _ _ _ ?_ ?_
  ·rw [hl, Int.mul_comm]
   have : (((4 + 2 * w).toNat : Nat) : Int) = 4 + 2 * w := by omega
   rw [Int.natCast_mul, this]
  ·rw [entB_length hw]; omega
 rw [hp, Option.map_some]
 congr 1
 have b1 := m16_bound e.next
 have b2 := m16_bound e.flags
 have b3 := m16_bound e.a
 have b4 := m16_bound e.b
 have at_ : ∀ (p q : List Int) (n i : Int), i = p.length → 0 ≤ n → n < 65536 → gU (p ++ (bytesOf n 2 ++ q)) i 2 = n := fun p q n i hi h0 h1 => gU_some (uS_at p q i 2 hi rfl h0 (by simpa using h1))
 unfold entOf entM entB
 rcases hw with rfl | rfl | rfl
 ·simp
  exact ⟨at_ [] _ _ 0 (by simp) b1.1 b1.2, by simpa using at_ (bytesOf (m16 e.next) 2) [] _ 2 (by simp) b2.1 b2.2⟩
 ·simp
  exact ⟨at_ [] _ _ 0 (by simp) b1.1 b1.2, at_ (bytesOf (m16 e.next) 2) _ _ 2 (by simp) b2.1 b2.2, by simpa using at_ (bytesOf (m16 e.next) 2 ++ bytesOf (m16 e.flags) 2) [] _ 4 (by simp) b3.1 b3.2⟩
 ·simp
  exact ⟨at_ [] _ _ 0 (by simp) b1.1 b1.2, at_ (bytesOf (m16 e.next) 2) _ _ 2 (by simp) b2.1 b2.2, by simpa [List.append_assoc] using at_ (bytesOf (m16 e.next) 2 ++ bytesOf (m16 e.flags) 2) (bytesOf (m16 e.b) 2) _ 4 (by simp) b3.1 b3.2,
   by simpa [List.append_assoc] using at_ (bytesOf (m16 e.next) 2 ++ (bytesOf (m16 e.flags) 2 ++ bytesOf (m16 e.a) 2)) [] _ 6 (by simp) b4.1 b4.2⟩
def planRoom (p : Plan) (w : Int) (rm : List Int) : List Int :=
 bytesOf (planN p : Int) 4 ++ (bytesOf (16 + rm.length : Int) 4 ++ (bytesOf (16 + rm.length + (ofS p.cls).length : Int) 4 ++ (bytesOf (16 + rm.length + (ofS p.cls).length + (rowsL (planN p) p.rows).length : Int) 4 ++ (rm ++ (ofS p.cls ++ (rowsL (planN p) p.rows ++ entsB w p.ents))))))
theorem planBytes_room (p : Plan) (w : Int) (room : Nat) : planBytes p w room = planRoom p w (List.replicate room 0) := by
 unfold planBytes planRoom
 simp [List.append_assoc]
def tabOf (cls : List Int) : Int × List Pt := (8, if cls = [] then [] else [⟨0, (cls.length : Int) - 1, cls⟩])
theorem twos_list (l : List Int) (pre rest : List Int) (hb : ∀ x, x ∈ l → 0 ≤ x ∧ x < 65536) (i : Int) (hi : i = pre.length) : listS (pre ++ (twos l ++ rest)) i l.length 2 = some l := by
 have hs : (listS (pre ++ (twos l ++ rest)) i l.length 2).isSome = true := by
  rw [listS_isSome (by omega), rowsB_iff (by omega)]
  simp [twos_len]
  omega
 obtain ⟨vs, hv⟩ := Option.isSome_iff_exists.1 hs
 rw [hv]
 congr 1
 have hlen : vs.length = l.length := by
  unfold listS at hv
  obtain ⟨r, _, rfl⟩ := Option.map_eq_some_iff.1 hv
  simp
 apply List.ext_getElem?
 intro j
 by_cases hj : j < l.length
 ·obtain ⟨x, hx⟩ : ∃ x, l[j]? = some x := ⟨_, List.getElem?_eq_getElem hj⟩
  rw [listS_get (by omega) hv j (by omega), hx]
  exact twos_get l pre rest j x hx (hb x (List.mem_of_getElem? hx)) _ (by omega)
 ·rw [List.getElem?_eq_none (by omega), List.getElem?_eq_none (by omega)]
theorem look_ofS (cls : List Int) (hb : ∀ x, x ∈ cls → 0 ≤ x ∧ x < 65536) (hl : cls.length ≤ 65535) (rest : List Int) (g : Int) : lookS (ofS cls ++ rest) g 2 = some (tabOf cls) := by
 have h0 : uS (ofS cls ++ rest) 0 2 = some 8 := by
  have := uS_at [] (bytesOf 0 2 ++ (bytesOf cls.length 2 ++ (twos cls ++ rest))) (n := 8) (k := 2) 0 2 rfl rfl (by omega) (by decide)
  simpa [ofS, List.append_assoc] using this
 have h2 : uS (ofS cls ++ rest) 2 2 = some 0 := by
  have := uS_at (bytesOf 8 2) (bytesOf cls.length 2 ++ (twos cls ++ rest)) (n := 0) (k := 2) 2 2 (by simp) rfl (by omega) (by decide)
  simpa [ofS, List.append_assoc] using this
 have h4 : uS (ofS cls ++ rest) (2 + 2) 2 = some (cls.length : Int) := by
  have := uS_at (bytesOf 8 2 ++ bytesOf 0 2) (twos cls ++ rest) (n := cls.length) (k := 2) (2 + 2) 2 (by simp) rfl (by omega) (by simp; omega)
  simpa [ofS, List.append_assoc] using this
 have h6 : listS (ofS cls ++ rest) (2 + 4) cls.length 2 = some cls := by
  have := twos_list cls (bytesOf 8 2 ++ bytesOf 0 2 ++ bytesOf cls.length 2) rest hb (2 + 4) (by simp)
  simpa [ofS, List.append_assoc] using this
 unfold lookS partsS
 rw [h0, Option.bind_some]
 simp only [show ¬ ((8 : Int) = 0) by decide, show ¬ ((8 : Int) = 2) by decide, show ¬ ((8 : Int) = 4) by decide, show ¬ ((8 : Int) = 6) by decide, if_false, if_true]
 unfold trimS
 rw [h2, Option.bind_some, h4, Option.bind_some, if_pos (by omega), h6, Option.map_some, Option.bind_some]
 unfold tabOf
 by_cases hc : cls = []
 ·subst hc; rfl
 ·rw [if_neg hc, if_neg (show ¬ ((cls.length : Int) = 0) by have := List.length_pos_iff.2 hc; omega)]
  simp [risesS]
theorem pieces_of (p : Plan) (w : Int) (rm more : List Int) (hrm : rm.length ≤ 1000) (h1 : p.cls.length ≤ 1000) (h2 : p.rows.length ≤ 1000) (hn : planN p ≤ 11) :
  let b := planRoom p w rm ++ more
  uS b 0 4 = some (planN p : Int) ∧ uS b 4 4 = some (16 + rm.length : Int) ∧ restS b (16 + rm.length : Int) = some (ofS p.cls ++ (rowsL (planN p) p.rows ++ (entsB w p.ents ++ more))) ∧
  uS b 8 4 = some (16 + rm.length + (ofS p.cls).length : Int) ∧ restS b (16 + rm.length + (ofS p.cls).length : Int) = some (rowsL (planN p) p.rows ++ (entsB w p.ents ++ more)) ∧
  uS b 12 4 = some (16 + rm.length + (ofS p.cls).length + (rowsL (planN p) p.rows).length : Int) ∧ restS b (16 + rm.length + (ofS p.cls).length + (rowsL (planN p) p.rows).length : Int) = some (entsB w p.ents ++ more) := by
 intro b
 have hofl : (ofS p.cls).length = 6 + p.cls.length * 2 := by unfold ofS; simp [twos_len]; omega
 have hrl : (rowsL (planN p) p.rows).length ≤ 1000 * 22 := by rw [rowsL_len]; exact Nat.mul_le_mul h2 (by omega)
 have rest : ∀ (pre q : List Int) (i : Int), i = pre.length → restS (pre ++ q) i = some q := fun pre q i hi => by
  subst hi
  unfold restS
  rw [if_pos ⟨by omega, by simp; omega⟩]
  simp
 have hb : b = bytesOf (planN p : Int) 4 ++ (bytesOf (16 + rm.length : Int) 4 ++ (bytesOf (16 + rm.length + (ofS p.cls).length : Int) 4 ++ (bytesOf (16 + rm.length + (ofS p.cls).length + (rowsL (planN p) p.rows).length : Int) 4 ++ (rm ++ (ofS p.cls ++ (rowsL (planN p) p.rows ++ (entsB w p.ents ++ more))))))) := by
  show planRoom p w rm ++ more = _
  unfold planRoom
  simp only [List.append_assoc]
 rw [hb]
 refine ⟨?_, ?_, ?_, ?_, ?_, ?_, ?_⟩
 ·exact uS_at [] _ 0 4 rfl rfl (by omega) (by simp; omega)
 ·exact uS_at (bytesOf (planN p : Int) 4) _ 4 4 (by simp) rfl (by omega) (by simp; omega)
 ·have := rest (bytesOf (planN p : Int) 4 ++ (bytesOf (16 + rm.length : Int) 4 ++ (bytesOf (16 + rm.length + (ofS p.cls).length : Int) 4 ++ (bytesOf (16 + rm.length + (ofS p.cls).length + (rowsL (planN p) p.rows).length : Int) 4 ++ rm)))) (ofS p.cls ++ (rowsL (planN p) p.rows ++ (entsB w p.ents ++ more))) (16 + rm.length) (by simp; omega)
  simpa only [List.append_assoc] using this
 ·have := uS_at (bytesOf (planN p : Int) 4 ++ bytesOf (16 + rm.length : Int) 4) (bytesOf (16 + rm.length + (ofS p.cls).length + (rowsL (planN p) p.rows).length : Int) 4 ++ (rm ++ (ofS p.cls ++ (rowsL (planN p) p.rows ++ (entsB w p.ents ++ more))))) (n := 16 + rm.length + (ofS p.cls).length) (k := 4) 8 4 (by simp) rfl (by omega) (by simp; omega)
  simpa only [List.append_assoc] using this
 ·have := rest (bytesOf (planN p : Int) 4 ++ (bytesOf (16 + rm.length : Int) 4 ++ (bytesOf (16 + rm.length + (ofS p.cls).length : Int) 4 ++ (bytesOf (16 + rm.length + (ofS p.cls).length + (rowsL (planN p) p.rows).length : Int) 4 ++ (rm ++ ofS p.cls))))) (rowsL (planN p) p.rows ++ (entsB w p.ents ++ more)) (16 + rm.length + (ofS p.cls).length) (by simp; omega)
  simpa only [List.append_assoc] using this
 ·have := uS_at (bytesOf (planN p : Int) 4 ++ bytesOf (16 + rm.length : Int) 4 ++ bytesOf (16 + rm.length + (ofS p.cls).length : Int) 4) (rm ++ (ofS p.cls ++ (rowsL (planN p) p.rows ++ (entsB w p.ents ++ more)))) (n := 16 + rm.length + (ofS p.cls).length + (rowsL (planN p) p.rows).length) (k := 4) 12 4 (by simp) rfl (by omega) (by simp; omega)
  simpa only [List.append_assoc] using this
 ·have := rest (bytesOf (planN p : Int) 4 ++ (bytesOf (16 + rm.length : Int) 4 ++ (bytesOf (16 + rm.length + (ofS p.cls).length : Int) 4 ++ (bytesOf (16 + rm.length + (ofS p.cls).length + (rowsL (planN p) p.rows).length : Int) 4 ++ (rm ++ (ofS p.cls ++ rowsL (planN p) p.rows)))))) (entsB w p.ents ++ more) (16 + rm.length + (ofS p.cls).length + (rowsL (planN p) p.rows).length) (by simp; omega)
  simpa only [List.append_assoc] using this
theorem plan_mach (p : Plan) (hp : p.ok) (w : Int) (rm more : List Int) (hrm : rm.length ≤ 1000) (h1 : p.cls.length ≤ 1000) (h2 : p.rows.length ≤ 1000) (g : Int) :
  machS (planRoom p w rm ++ more) g w = (closeA (rowsL (planN p) p.rows ++ (entsB w p.ents ++ more)) (entsB w p.ents ++ more) (planN p) w 2).map fun x => ⟨planN p, tabOf p.cls, x.1, x.2⟩ := by
 have hN := planN_eq p hp.2.2
 obtain ⟨e1, e2, e3, e4, e5, e6, e7⟩ := pieces_of p w rm more hrm h1 h2 hN.2
 have hn4 : 4 ≤ planN p := by unfold planN; omega
 unfold machS
 rw [e1, Option.bind_some, if_pos (by omega), e2, Option.bind_some, e3, Option.bind_some, look_ofS p.cls (fun x hx => by have := hp.1 x hx; omega) (by omega) _ g, Option.bind_some, e4, Option.bind_some, e5, Option.bind_some, e6, Option.bind_some, e7, Option.bind_some]
end Go.Sw
end
section
namespace Go.Sw
open Go.RowKit
theorem subsS_succ (sb : List Int) (g : Int) (n : Nat) : subsS sb g (n + 1) = (subsS sb g n).bind fun l => (subS sb g n).map fun x => l ++ [x] := by
 unfold subsS
 rw [List.range_succ, mapO_append]
 cases mapO (subS sb g) (List.range n) with
 | none => rfl
 | some l =>
  simp only [Option.bind_some]
  cases h : subS sb g n with
  | none => simp [mapO, h]
  | some x => simp [mapO, h]
theorem subsS_len {sb : List Int} {g : Int} {n : Nat} {l} (h : subsS sb g n = some l) : l.length = n := by
 have := mapO_len h
 simpa using this
set_option maxHeartbeats 1000000 in
theorem ctx_l3 (k : Nat) (sb : List Int) (hb : Byt sb) (hl : sb.length < 2 ^ 31) (g : Int) (hg : 1 ≤ g ∧ g ≤ 65535) (m : Mach) (N : Nat) (hN : N ≤ 65536) {H0 H : Heap} (q p6 : Nat)
  (st : Star H0 H [itBlk q ⟨[machV m, .slice none 0 0], 1, false⟩, itBlk p6 ⟨[lv encB sb], 1, false⟩, itRow none 1 (.slice none 0 0) encT []]) :
  (∃ subs z s o H', subsS sb g N = some subs ∧ loopN (ctx_Take_l3 k (R (T k))) loopFuel [(1, .int .i64 g), (5, ptrV q), (6, ptrV p6), (50, .int .i64 N), (51, .int .i64 0)] H = .ok (.exit 4, [(1, .int .i64 g), (5, ptrV q), (6, ptrV p6), (50, .int .i64 N), (51, z), (52, .bool false)]) H' ∧
   Star H0 H' [itBlk q ⟨[machV m, s], 1, false⟩, itBlk p6 ⟨[lv encB sb], 1, false⟩, itRow o 1 s encT subs]) ∨
  (∃ H', subsS sb g N = none ∧ loopN (ctx_Take_l3 k (R (T k))) loopFuel [(1, .int .i64 g), (5, ptrV q), (6, ptrV p6), (50, .int .i64 N), (51, .int .i64 0)] H = .panic failV H' ∧ Ext H0 H') := by
 have hU := fun (j : Int) H' => U32_run k (Sl.lv H' 1 sb) hb j (by omega)
 have hR := fun j hj H' => Rest_lv k sb j (by omega) hj H'
 have hT := fun tb htb hl H' => lookTake_run k (Sl.lv H' 1 tb) htb g 2 hg.1 hg.2 (.inl rfl) hl
 have hvb := veq_B sb
 have prefixNone : ∀ j, j < N → subsS sb g (j + 1) = none → subsS sb g N = none := fun j hj h => by
  cases hn : subsS sb g N with
  | none => rfl
  | some l =>
   have := mapO_prefix (show j + 1 ≤ N by omega) hn
   unfold subsS at h
   rw [this] at h
   cases h
 rcases loop_upP (body := ctx_Take_l3 k (R (T k))) N
  (fun j e H' => e = [(1, .int .i64 g), (5, ptrV q), (6, ptrV p6), (50, .int .i64 N), (51, .int .i64 j)] ∧ ∃ l s o, subsS sb g j = some l ∧ Star H0 H' [itBlk q ⟨[machV m, s], 1, false⟩, itBlk p6 ⟨[lv encB sb], 1, false⟩, itRow o 1 s encT l])
  (fun x e H' => x = .exit 4 ∧ e = [(1, .int .i64 g), (5, ptrV q), (6, ptrV p6), (50, .int .i64 N), (51, .int .i64 N), (52, .bool false)] ∧ ∃ l s o, subsS sb g N = some l ∧ Star H0 H' [itBlk q ⟨[machV m, s], 1, false⟩, itBlk p6 ⟨[lv encB sb], 1, false⟩, itRow o 1 s encT l])
  (fun v H' => v = failV ∧ Ext H0 H' ∧ subsS sb g N = none)
  (fun j e H' hj ⟨he, l, s, o, hls, st⟩ => by
   subst he
   have hlt : (j : Int) < N := by omega
   have hq := st.get 0 rfl
   have h6 := st.get 1 rfl
   have hvs := (st.row 2 rfl).veq
   have hlen := subsS_len hls
   have hsucc := subsS_succ sb g j
   rw [hls, Option.bind_some] at hsucc
   have hu := fun H' => hU (4 * (j : Int)) H'
   cases e1 : uS sb (4 * (j : Int)) 4 with
   | none =>
    have hno : subsS sb g (j + 1) = none := by rw [hsucc]; unfold subS; rw [e1]; rfl
    simp only [e1] at hu
    refine .inr (.inr ⟨failV, H', ?_, rfl, st.ext, prefixNone j hj hno⟩)
    rw [ctx_Take_l3_eq]
    simp -implicitDefEqProofs (disch := omega) [hlt, hq, h6, hu, orF]
   | some p =>
    simp only [e1, orF_some'] at hu
    have hp := uS_four hb e1
    have hr := fun H' => hR p (by omega) H'
    cases e2 : restS sb p with
    | none =>
     have hno : subsS sb g (j + 1) = none := by rw [hsucc]; unfold subS; rw [e1, Option.bind_some, e2]; rfl
     simp only [e2] at hr
     refine .inr (.inr ⟨failV, H', ?_, rfl, st.ext, prefixNone j hj hno⟩)
     rw [ctx_Take_l3_eq]
     simp -implicitDefEqProofs (disch := omega) [hlt, hq, h6, hu, hr, hvs, hvb, orF]
    | some tb =>
     simp only [e2, orF_some'] at hr
     have htl := restS_len e2
     have ht := fun H' => hT tb (hb.rest e2) (by omega) H'
     cases e3 : lookS tb g 2 with
     | none =>
      have hno : subsS sb g (j + 1) = none := by rw [hsucc]; unfold subS; rw [e1, Option.bind_some, e2, Option.bind_some, e3]; rfl
      simp only [e3] at ht
      refine .inr (.inr ⟨failV, H', ?_, rfl, st.ext, prefixNone j hj hno⟩)
      rw [ctx_Take_l3_eq]
      simp -implicitDefEqProofs (disch := omega) [hlt, hq, h6, hu, hr, ht, hvs, hvb, orF]
     | some x =>
      simp only [e3, orF_some'] at ht
      have hyes : subsS sb g (j + 1) = some (l ++ [x]) := by rw [hsucc]; unfold subS; rw [e1, Option.bind_some, e2, Option.bind_some, e3]; rfl
      obtain ⟨s', o', H2, f2, st3⟩ := st.append1 (bytes := 8) 2 encT_len rfl x (by omega) (by decide)
      have hqn : ¬ q = H'.n := by have := Heap.get_lt hq; omega
      simp only [List.set_cons_zero, List.set_cons_succ] at st3
      obtain ⟨H3, f3, st4, _⟩ := st3.stCell 0 rfl 1 (st3.row 2 rfl).storable (st3.row 2 rfl).cells (by simp)
      simp only [List.set_cons_zero, List.set_cons_succ] at st4
      refine .inl ⟨_, H3, ?_, rfl, l ++ [x], s', o', hyes, st4⟩
      rw [ctx_Take_l3_eq]
      simp only [encT] at f2
      simp -implicitDefEqProofs (disch := omega) [-stR_ptr, hlt, hq, h6, hu, hr, ht, hvs, hvb, hqn, f2, f3])
  (fun e H' ⟨he, l, s, o, hls, st⟩ => by
   subst he
   refine .inl ⟨.exit 4, _, H', ?_, by simp, rfl, rfl, l, s, o, hls, st⟩
   rw [ctx_Take_l3_eq]
   simp -implicitDefEqProofs) loopFuel 0 [(1, .int .i64 g), (5, ptrV q), (6, ptrV p6), (50, .int .i64 N), (51, .int .i64 0)] H (by omega) (by unfold loopFuel; omega) ⟨rfl, [], .slice none 0 0, none, rfl, st⟩ with ⟨x, e', H1, hr1, rfl, rfl, l, s, o, hls, st⟩ | ⟨v, H1, hr1, rfl, hx, hno⟩
 ·exact .inl ⟨l, _, s, o, H1, hls, hr1, st⟩
 ·exact .inr ⟨H1, hno, hr1, hx⟩
end Go.Sw
end
section
namespace Go.Sw
open Go.RowKit
set_option maxHeartbeats 1000000 in
theorem ctxTake_run (k : Nat) (hk : k < 1000000) (b : List Int) (hb : Byt b) (g : Int) (hg : 1 ≤ g ∧ g ≤ 65535) (hl : b.length < 2 ^ 31) (H : Heap) : R (T k) F.ctx_Take [vwB b, .int .i64 g] H = orF (ctxS b g) ctxV H := by
 rw [ctx_Take_R]
 have hx : Ext H (H.push ⟨[lv encB b], 1, false⟩) := (Ext.refl H).push _
 have hvb : veq (vwB b) (vwB b) = true := veq_agg (l := [lv encB b]) fun u hu => by simp at hu; subst hu; exact veq_B b
 refine fz_orF ?_ fun _ _ => (Flat.ctx _).alive
 unfold ctxS
 simp -implicitDefEqProofs (disch := omega) [ctx_Take]
 refine Cp.call (stateTake_run k (Sl.lv _ 1 b) hb g 2 hg.1 hg.2 (.inr (.inr rfl)) hl) hx fun m hm => ?_
 have hok := machS_ok hb hg.1 hg.2 (by omega) hm
 have hx2 : Ext H ((H.push ⟨[lv encB b], 1, false⟩).push ⟨[machV m, .slice none 0 0], 1, false⟩) := hx.push _
 simp -implicitDefEqProofs (disch := omega)
 refine Cp.callT (U32_run k (Sl.lv _ 1 b) hb 16 (by omega)) (fun _ => ⟨_, by simp -implicitDefEqProofs (disch := omega), hx2⟩) fun p hp => ?_
 have hp := uS_four hb hp
 simp -implicitDefEqProofs (disch := omega)
 refine Cp.callT (Rest_lv k b p (by omega) (by omega) _) (fun _ => ⟨_, by simp -implicitDefEqProofs (disch := omega) [hvb], hx2⟩) fun sb hsb => ?_
 have lsb := restS_len hsb
 have hent := fun H' => Entries_run k hk m hok.elen H'
 have hx3 : Ext H (((H.push ⟨[lv encB b], 1, false⟩).push ⟨[machV m, .slice none 0 0], 1, false⟩).push ⟨[lv encB sb], 1, false⟩) := hx2.push _
 have hes : ∀ e, e ∈ m.ents → 0 ≤ e.a ∧ e.a < 65536 ∧ 0 ≤ e.b ∧ e.b < 65536 := fun e he => by have := hok.ent e he; omega
 obtain ⟨z, H1, l1, hx1⟩ := ctx_l1 k m.ents hes hok.elen (.int .i64 g) (ptrV (H.n + 1)) (ptrV (H.n + 2)) (((H.push ⟨[lv encB b], 1, false⟩).push ⟨[machV m, .slice none 0 0], 1, false⟩).push ⟨[lv encB sb], 1, false⟩)
 have mb := manyS_bound hes
 obtain ⟨N, hN⟩ : ∃ N, N = (manyS m.ents).toNat := ⟨_, rfl⟩
 have hNi : manyS m.ents = (N : Int) := by omega
 rw [hNi] at l1
 rw [← hN]
 have st := (((Star.nil H).rest hx).push ⟨[machV m, .slice none 0 0], 1, false⟩).push ⟨[lv encB sb], 1, false⟩
 have st := (st.rest hx1).more_row (Ext.refl _) (OwnO.nil encT _ 1) (fun b hb => by cases hb)
 simp only [List.nil_append, List.cons_append, hn_push] at st
 simp -implicitDefEqProofs (disch := omega) [hvb, hent, l1, ctx_Take_l1k_x0]
 rcases ctx_l3 k sb (hb.rest hsb) (by omega) g hg m N (by omega) _ _ st with ⟨subs, z3, s, o, H2, hsub, l3, st3⟩ | ⟨H2, hsub, l3, hx4⟩
 ·rw [hsub]
  have hlast := st3.get 0 rfl
  simp -implicitDefEqProofs (disch := omega) [l3, ctx_Take_l3k_x4]
  refine .ok st3.ext ?_
  obtain ⟨L, hf⟩ := (st3.own 2 rfl).freeze encT_len (fun n _ v hv => by simp at hv; subst hv; exact trivial) 5
  exact ⟨_, fz_box (by omega) hlast (mapF_cons (v := machV m) (u := machV m) (L1 := []) rfl (mapF_cons hf rfl))⟩
 ·rw [hsub]
  simp -implicitDefEqProofs (disch := omega) [l3]
  exact ⟨H2, rfl, hx4⟩
end Go.Sw
end
section
set_option maxRecDepth 100000
set_option linter.unusedVariables false
namespace Go.Sw
noncomputable section
def drive_Run_l1 (k : Nat) (call : Caller) : Env → Heap → Res (AExit × Env) := loopB (C k) call F.drive_Run [1, 1, 1, 0, 0, 0]
def drive_Run_l1k (k : Nat) (call : Caller) : Kont Value := kBlock 0 (kSeq (pieceK (C k) call F.drive_Run [1, 1, 1, 1]) (kDone Prog (resOf Prog F.drive_Run)))
def drive_Run (k : Nat) (call : Caller) (a0 a1 a2 : Value) (h : Heap) : Res Value :=
 (buildR Prog 281 [(0, a0), (1, a1)] h).bind fun v1 h2 =>
 (boxR v1 h2).bind fun v3 h4 =>
 (call F.line_Line_Len [a1] h4).bind fun v5 h6 =>
 (binR Prog .mul 3 (.int .i64 2) v5 h6).bind fun v7 h8 =>
 (binR Prog .add 3 v7 (.int .i64 128) h8).bind fun v9 h10 =>
 (loopN (drive_Run_l1 k call) loopFuel [(2, a2), (8, v3), (9, v9)] h10).bind fun r11 h12 =>
 drive_Run_l1k k call r11.1 r11.2 h12
theorem drive_Run_R (k : Nat) (a0 a1 a2 : Value) (h : Heap) : R (T k) F.drive_Run [a0, a1, a2] h = nrm .no h (drive_Run k (R (T k)) a0 a1 a2 h) :=
 (R_body (t := T k) (T_scott k) (by kernel_rfl) (by kernel_rfl) _ _).trans (by kernel_rfl)
theorem drive_Run_l1_eq (k : Nat) (call : Caller) (a2 a8 a9 : Value) (h : Heap) : drive_Run_l1 k call [(2, a2), (8, a8), (9, a9)] h =
 (nilR a8 h).bind fun v13 h14 =>
 (fieldAddrR Prog 281 v13 4 h14).bind fun v15 h16 =>
 (loadR Prog 3 v15 h16).bind fun v17 h18 =>
 (binR Prog .lss 3 v17 a9 h18).bind fun v19 h20 =>
 condV (some v19) (
 (call F.drive_driver_step [a8, a2] h20).bind fun v21 h22 =>
 condV (some v21) (
 (nilR a8 h22).bind fun v23 h24 =>
 (fieldAddrR Prog 281 v23 4 h24).bind fun v25 h26 =>
 (loadR Prog 3 v25 h26).bind fun v27 h28 =>
 .ok (.ret, [(6, v27), (7, (.int .i64 0))]) h28)
 (
 (nilR a8 h22).bind fun v29 h30 =>
 (fieldAddrR Prog 281 v29 5 h30).bind fun v31 h32 =>
 (loadR Prog 3 v31 h32).bind fun v33 h34 =>
 (binR Prog .gtr 3 v33 (.int .i64 64) h34).bind fun v35 h36 =>
 condV (some v35) (
 .ok ((.exit 0), [(2, a2), (8, a8), (9, a9), (35, v35)]) h36)
 (
 .ok (.normal, [(2, a2), (8, a8), (9, a9)]) h36)))
 (
 .ok ((.exit 0), [(2, a2), (8, a8), (9, a9), (23, v19)]) h20) :=
 (loopB_eq _ _).trans (by kernel_rfl)
theorem drive_Run_l1k_r (k : Nat) (call : Caller) (a6 a7 : Value) (h : Heap) : drive_Run_l1k k call .ret [(6, a6), (7, a7)] h =
 .ok (.tuple #[a6, a7]) h := by kernel_rfl
theorem drive_Run_l1k_x0 (k : Nat) (call : Caller) (a2 a8 a9 a35 : Value) (h : Heap) : drive_Run_l1k k call (.exit 0) [(2, a2), (8, a8), (9, a9), (35, a35)] h =
 (nilR a8 h).bind fun v37 h38 =>
 (fieldAddrR Prog 281 v37 4 h38).bind fun v39 h40 =>
 (loadR Prog 3 v39 h40).bind fun v41 h42 =>
 .ok (.tuple #[v41, (.int .i64 4)]) h42 := by kernel_rfl
theorem drive_Run_l1k_x0_1 (k : Nat) (call : Caller) (a2 a8 a9 a23 : Value) (h : Heap) : drive_Run_l1k k call (.exit 0) [(2, a2), (8, a8), (9, a9), (23, a23)] h =
 (nilR a8 h).bind fun v43 h44 =>
 (fieldAddrR Prog 281 v43 4 h44).bind fun v45 h46 =>
 (loadR Prog 3 v45 h46).bind fun v47 h48 =>
 .ok (.tuple #[v47, (.int .i64 4)]) h48 := by kernel_rfl
def drive_Plain (k : Nat) (call : Caller) (a0 : Value) (h : Heap) : Res Value :=
 (boxR a0 h).bind fun v1 h2 =>
 .ok (.func (.func F.drive_Plain_in1) #[] #[v1]) h2
theorem drive_Plain_R (k : Nat) (a0 : Value) (h : Heap) : R (T k) F.drive_Plain [a0] h = nrm .gc h (drive_Plain k (R (T k)) a0 h) :=
 (R_body (t := T k) (T_scott k) (by kernel_rfl) (by kernel_rfl) _ _).trans (by kernel_rfl)
def drive_driver_step (k : Nat) (call : Caller) (a0 a1 : Value) (h : Heap) : Res Value :=
 (call F.drive_driver_class [a0] h).bind fun v1 h2 =>
 (extractR v1 0 h2).bind fun v3 h4 =>
 (extractR v1 1 h4).bind fun v5 h6 =>
 (nilR a0 h6).bindN fun v7 h8 =>
 (fieldAddrR Prog 281 v7 0 h8).bindN fun v9 h10 =>
 (loadR Prog 133 v9 h10).bindN fun v11 h12 =>
 (nilR a0 h12).bindN fun v13 h14 =>
 (fieldAddrR Prog 281 v13 2 h14).bindN fun v15 h16 =>
 (loadR Prog 3 v15 h16).bindN fun v17 h18 =>
 (call F.state_Machine_Step [v11, v17, v3] h18).bindT (fun p21 h22 => (allocR Prog 150 h18).bindN fun v23 h24 => .panic p21 h22) fun v19 h20 =>
 (extractR v19 0 h20).bindN fun v25 h26 =>
 (extractR v19 1 h26).bindN fun v27 h28 =>
 (allocR Prog 150 h28).bindN fun v29 h30 =>
 (storeR Prog 150 v29 v25 h30).bindN fun _v31 h32 =>
 (nilR a0 h32).bind fun v33 h34 =>
 (fieldAddrR Prog 281 v33 4 h34).bind fun v35 h36 =>
 (loadR Prog 3 v35 h36).bind fun v37 h38 =>
 (binR Prog .add 3 v37 (.int .i64 1) h38).bind fun v39 h40 =>
 (nilR a0 h40).bind fun v41 h42 =>
 (fieldAddrR Prog 281 v41 4 h42).bind fun v43 h44 =>
 (storeR Prog 3 v43 v39 h44).bind fun _v45 h46 =>
 (fieldAddrR Prog 150 v29 0 h46).bind fun v47 h48 =>
 (loadR Prog 3 v47 h48).bind fun v49 h50 =>
 (nilR a0 h50).bind fun v51 h52 =>
 (fieldAddrR Prog 281 v51 2 h52).bind fun v53 h54 =>
 (storeR Prog 3 v53 v49 h54).bind fun _v55 h56 =>
 (nilR a0 h56).bindN fun v57 h58 =>
 (fieldAddrR Prog 281 v57 3 h58).bindN fun v59 h60 =>
 (loadR Prog 3 v59 h60).bindN fun v61 h62 =>
 (loadR Prog 150 v29 h62).bindN fun v63 h64 =>
 (callV call a1 [v61, v63] h64).bindT (fun p67 h68 => .panic p67 h68) fun v65 h66 =>
 (extractR v65 0 h66).bindN fun v69 h70 =>
 (extractR v65 1 h70).bindN fun v71 h72 =>
 (fieldAddrR Prog 150 v29 1 h72).bind fun v73 h74 =>
 (loadR Prog 3 v73 h74).bind fun v75 h76 =>
 (binR Prog .and 3 v75 (.int .i64 16384) h76).bind fun v77 h78 =>
 (binR Prog .neq 3 v77 (.int .i64 0) h78).bind fun v79 h80 =>
 condV (some v79) (
 (builtinV Prog .max [3, 3] [v69, (.int .i64 0)] h80).bind fun v81 h82 =>
 (nilR a0 h82).bind fun v83 h84 =>
 (fieldAddrR Prog 281 v83 3 h84).bind fun v85 h86 =>
 (storeR Prog 3 v85 v81 h86).bind fun _v87 h88 =>
 (nilR a0 h88).bind fun v89 h90 =>
 (fieldAddrR Prog 281 v89 5 h90).bind fun v91 h92 =>
 (loadR Prog 3 v91 h92).bind fun v93 h94 =>
 (binR Prog .add 3 v93 (.int .i64 1) h94).bind fun v95 h96 =>
 (nilR a0 h96).bind fun v97 h98 =>
 (fieldAddrR Prog 281 v97 5 h98).bind fun v99 h100 =>
 (storeR Prog 3 v99 v95 h100).bind fun _v101 h102 =>
 .ok (.bool false) h102)
 (
 (builtinV Prog .max [3, 3] [v71, (.int .i64 0)] h80).bind fun v103 h104 =>
 (nilR a0 h104).bind fun v105 h106 =>
 (fieldAddrR Prog 281 v105 3 h106).bind fun v107 h108 =>
 (storeR Prog 3 v107 v103 h108).bind fun _v109 h110 =>
 (nilR a0 h110).bind fun v111 h112 =>
 (fieldAddrR Prog 281 v111 5 h112).bind fun v113 h114 =>
 (storeR Prog 3 v113 (.int .i64 0) h114).bind fun _v115 h116 =>
 .ok v5 h116)
theorem drive_driver_step_R (k : Nat) (a0 a1 : Value) (h : Heap) : R (T k) F.drive_driver_step [a0, a1] h = nrm .no h (drive_driver_step k (R (T k)) a0 a1 h) :=
 (R_body (t := T k) (T_scott k) (by kernel_rfl) (by kernel_rfl) _ _).trans (by kernel_rfl)
def drive_Plain_in1 (k : Nat) (call : Caller) (a0 a1 a2 : Value) (h : Heap) : Res Value :=
 (boxR a1 h).bind fun v1 h2 =>
 (loadR Prog 187 a2 h2).bind fun v3 h4 =>
 (loadR Prog 150 v1 h4).bind fun v5 h6 =>
 (callV call v3 [a0, v5] h6).bind fun v7 h8 =>
 (binR Prog .add 3 a0 (.int .i64 1) h8).bind fun v9 h10 =>
 .ok (.tuple #[a0, v9]) h10
theorem drive_Plain_in1_R (k : Nat) (a0 a1 a2 : Value) (h : Heap) : R (T k) F.drive_Plain_in1 [a0, a1, a2] h = nrm .no h (drive_Plain_in1 k (R (T k)) a0 a1 a2 h) :=
 (R_body (t := T k) (T_scott k) (by kernel_rfl) (by kernel_rfl) _ _).trans (by kernel_rfl)
def drive_driver_class (k : Nat) (call : Caller) (a0 : Value) (h : Heap) : Res Value :=
 (nilR a0 h).bindN fun v1 h2 =>
 (fieldAddrR Prog 281 v1 1 h2).bindN fun v3 h4 =>
 (loadR Prog 51 v3 h4).bindN fun v5 h6 =>
 (nilR a0 h6).bindN fun v7 h8 =>
 (fieldAddrR Prog 281 v7 3 h8).bindN fun v9 h10 =>
 (loadR Prog 3 v9 h10).bindN fun v11 h12 =>
 (call F.line_Line_At [v5, v11] h12).bindT (fun p15 h16 => (allocR Prog 55 h12).bindN fun v17 h18 => .panic p15 h16) fun v13 h14 =>
 (extractR v13 0 h14).bindN fun v19 h20 =>
 (extractR v13 1 h20).bindN fun v21 h22 =>
 (allocR Prog 55 h22).bindN fun v23 h24 =>
 (storeR Prog 55 v23 v19 h24).bindN fun _v25 h26 =>
 (unR .not v21 h26).bind fun v27 h28 =>
 condV (some v27) (
 .ok (.tuple #[(.int .i64 0), (.bool true)]) h28)
 (
 (nilR a0 h28).bindN fun v29 h30 =>
 (fieldAddrR Prog 281 v29 0 h30).bindN fun v31 h32 =>
 (loadR Prog 133 v31 h32).bindN fun v33 h34 =>
 (fieldAddrR Prog 55 v23 0 h34).bindN fun v35 h36 =>
 (loadR Prog 3 v35 h36).bindN fun v37 h38 =>
 (call F.state_Machine_Class [v33, v37] h38).bindT (fun p41 h42 => .panic p41 h42) fun v39 h40 =>
 .ok (.tuple #[v39, (.bool false)]) h40)
theorem drive_driver_class_R (k : Nat) (a0 : Value) (h : Heap) : R (T k) F.drive_driver_class [a0] h = nrm .gc h (drive_driver_class k (R (T k)) a0 h) :=
 (R_body (t := T k) (T_scott k) (by kernel_rfl) (by kernel_rfl) _ _).trans (by kernel_rfl)
end
end Go.Sw
end
section
namespace Go.Sw
open Go.RowKit
theorem Star.stEnd {H0 H : Heap} {A B : List It} {c : Nat} {cells : List Value} {e : Nat} (h : Star H0 H (A ++ itBlk c ⟨cells, e, false⟩ :: B)) (off : Nat) {v : Value} (hs : storable v = true) (hc : v.cells = #[v]) (ho : off < cells.length) :
  ∃ H', stR 1 (.pointer (some ⟨c, off, none⟩)) v H = .ok undef H' ∧ Star H0 H' (A ++ itBlk c ⟨cells.set off v, e, false⟩ :: B) := by
 obtain ⟨H', h1, h2, _⟩ := h.stCell A.length (c := c) (cells := cells) (e := e) (by simp) off hs hc ho
 exact ⟨H', h1, by simpa using h2⟩
structure Drv where
 st : Int
 pl : Int
 stp : Int
 rest : Int
abbrev drvC (m : Mach) (c : Nat) (d : Drv) : List Value := [machV m, ptrV c, .int .i64 d.st, .int .i64 d.pl, .int .i64 d.stp, .int .i64 d.rest]
def clsS (m : Mach) (l : List Gl) (pl : Int) : Int × Bool := match atG l pl with | some g => (classS m g.id, false) | none => (0, true)
def entS (m : Mach) (l : List Gl) (d : Drv) : En := (stepS m d.st (clsS m l d.pl).1).getD ⟨0, 0, 0, 0⟩
abbrev encE (e : En) : Value := .agg (encEn e).toArray
theorem take_mid {α : Type} (x : α) (B : List α) : ∀ A : List α, (A ++ x :: B).take (A.length + 1) = A ++ [x]
 | [] => rfl
 | a :: A => by simp [take_mid x B A]
theorem and_two14 (n : Nat) : n &&& 2 ^ 14 = if n.testBit 14 then 2 ^ 14 else 0 := by
 apply Nat.eq_of_testBit_eq
 intro i
 rw [Nat.testBit_and, Nat.testBit_two_pow]
 by_cases h : 14 = i
 ·subst h
  cases hb : n.testBit 14 <;> simp <;> decide
 ·cases hb : n.testBit 14
  ·simp [h]
  ·simp only [h, decide_false, Bool.and_false, if_true, Nat.testBit_two_pow]
theorem and14 (P : Program) (t : TypeId) (H : Heap) {a : Int} (h0 : 0 ≤ a) (h1 : a < 65536) : binR P .and t (.int .i64 a) (.int .i64 16384) H = .ok (.int .i64 (if a / 16384 % 2 = 1 then 16384 else 0)) H := by
 have e : (BitVec.ofInt 64 a &&& BitVec.ofInt 64 16384).toNat = (if a / 16384 % 2 = 1 then 16384 else 0) := by
  rw [BitVec.toNat_and, BitVec.toNat_ofInt, BitVec.toNat_ofInt]
  rw [show ((16384 : Int) % ((2 ^ 64 : Nat) : Int)).toNat = 2 ^ 14 from by decide, and_two14, Nat.testBit_eq_decide_div_mod_eq]
  obtain ⟨n, rfl⟩ := Int.eq_ofNat_of_zero_le h0
  rw [show (((n : Int)) % ((2 ^ 64 : Nat) : Int)).toNat = n by omega]
  by_cases h : (n : Int) / 16384 % 2 = 1
  ·rw [if_pos h, decide_eq_true (show n / 2 ^ 14 % 2 = 1 by omega)]; rfl
  ·rw [if_neg h, decide_eq_false (show ¬ n / 2 ^ 14 % 2 = 1 by omega)]; rfl
 have e1 : binV P .and t (.int .i64 a) (.int .i64 16384) = some (.int .i64 (IntKind.i64.wrap (BitVec.ofInt 64 a &&& BitVec.ofInt 64 16384).toNat)) := rfl
 unfold binR
 rw [e1, e]
 by_cases h : a / 16384 % 2 = 1
 ·simp [h]
 ·simp [h]
theorem driverClass_run (k : Nat) (m : Mach) (hm : m.ok) {H0 H : Heap} {L : List It} (h : Star H0 H L) {c q : Nat} {o : Option Nat} {l : List Gl} {d : Drv} (i : Nat) (hi : L[i]? = some (itLine c o l)) (hq : H.get q = some ⟨drvC m c d, 1, false⟩) :
  R (T k) F.drive_driver_class [ptrV q] H = .ok (.tuple #[.int .i64 (clsS m l d.pl).1, .bool (clsS m l d.pl).2]) H := by
 rw [drive_driver_class_R]
 have hat := lineAt_run k h i hi d.pl
 have fl : ∀ (a : Int) b, Flat (.tuple #[.int .i64 a, .bool b]) := fun a b => .tupleL (.cons (.int _ _) (.cons (.bool _) .nil))
 unfold clsS
 have hqn : ¬ q = H.n := by have := Heap.get_lt hq; omega
 cases ha : atG l d.pl with
 | none =>
  rw [ha] at hat
  refine nrm_gc ⟨H.push ⟨[.int .i64 0, .int .i64 0], 1, false⟩, ?_, (Ext.refl H).push _⟩ (fl _ _).alive
  unfold encA at hat
  simp at hat
  simp -implicitDefEqProofs (disch := omega) [drive_driver_class, hq, hat]
 | some g =>
  rw [ha] at hat
  have hc := fun H' => Class_run k m hm g.id H'
  refine nrm_gc ⟨H.push ⟨encG g, 1, false⟩, ?_, (Ext.refl H).push _⟩ (fl _ _).alive
  unfold encA at hat
  simp at hat
  simp -implicitDefEqProofs (disch := omega) [drive_driver_class, hq, hqn, hat, hc]
theorem entS_bound {m : Mach} (hm : m.ok) (l : List Gl) (d : Drv) : let e := entS m l d; 0 ≤ e.next ∧ e.next < 65536 ∧ 0 ≤ e.flags ∧ e.flags < 65536 ∧ 0 ≤ e.a ∧ e.a < 65536 ∧ 0 ≤ e.b ∧ e.b < 65536 := by
 dsimp only
 unfold entS
 cases h : stepS m d.st (clsS m l d.pl).1 with
 | none => simp
 | some x =>
  have hx : x ∈ m.ents := by
   unfold stepS at h
   split at h
   ·obtain ⟨r, _, h⟩ := Option.bind_eq_some_iff.1 h
    obtain ⟨y, _, h⟩ := Option.bind_eq_some_iff.1 h
    exact List.mem_of_getElem? h
   ·cases h
  have := hm.ent x hx
  have := hm.two
  simp only [Option.getD_some]
  omega
theorem getS_pos {ps : List Pt} (hok : ∀ p, p ∈ ps → p.ok) {id x : Int} (h : getS ps id = some x) : 0 ≤ x := by
 unfold getS at h
 obtain ⟨p, hp, h⟩ := Option.bind_eq_some_iff.1 h
 split at h
 ·exact ((hok p (List.mem_of_find?_eq_some hp)).2.2.2.2.2 x (List.mem_of_getElem? h)).1
 ·cases h
theorem classS_bound {m : Mach} (hm : m.ok) (id : Int) : 0 ≤ classS m id ∧ classS m id < m.classes := by
 have := hm.cl
 unfold classS
 split
 ·omega
 ·split
  ·rename_i c hc
   have := getS_pos hm.pts hc
   split <;> omega
  ·omega
theorem clsS_bound {m : Mach} (hm : m.ok) (l : List Gl) (p : Int) : 0 ≤ (clsS m l p).1 ∧ (clsS m l p).1 < m.classes := by
 have := hm.cl
 unfold clsS
 split
 ·exact classS_bound hm _
 ·dsimp only; omega
theorem entS_mem {m : Mach} (hm : m.ok) (l : List Gl) (d : Drv) (h : 0 ≤ d.st ∧ d.st < m.rows.length) : entS m l d ∈ m.ents := by
 have hc := clsS_bound hm l d.pl
 obtain ⟨r, x, e, _, _, _, he, hs⟩ := stepS_some hm (s := d.st) (c := (clsS m l d.pl).1) ⟨h.1, h.2, hc.1, hc.2⟩
 unfold entS
 rw [hs]
 exact List.mem_of_getElem? he
variable {σ : Type}
def ActOk (k : Nat) (m : Mach) (H0 : Heap) (W : σ → List It) (Inv : σ → Prop) (a : Value) (f : σ → Int → En → σ × Int × Int) : Prop :=
 ∀ s i e H X, Inv s → Star H0 H (W s ++ X) → 0 ≤ i → i < 2 ^ 50 → e ∈ m.ents →
  ∃ H', callV (R (T k)) a [.int .i64 i, encE e] H = .ok (.tuple #[.int .i64 (f s i e).2.1, .int .i64 (f s i e).2.2]) H' ∧ Star H0 H' (W (f s i e).1 ++ X) ∧ Inv (f s i e).1 ∧ (f s i e).2.1 ≤ i + 128 ∧ (f s i e).2.2 ≤ i + 128
def stepD (m : Mach) (ln : σ → List Gl) (f : σ → Int → En → σ × Int × Int) (x : σ × Drv) : (σ × Drv) × Bool :=
 if (entS m (ln x.1) x.2).flags / 16384 % 2 = 1 then (((f x.1 x.2.pl (entS m (ln x.1) x.2)).1, ⟨(entS m (ln x.1) x.2).next, max (f x.1 x.2.pl (entS m (ln x.1) x.2)).2.1 0, x.2.stp + 1, x.2.rest + 1⟩), false)
 else (((f x.1 x.2.pl (entS m (ln x.1) x.2)).1, ⟨(entS m (ln x.1) x.2).next, max (f x.1 x.2.pl (entS m (ln x.1) x.2)).2.2 0, x.2.stp + 1, 0⟩), (clsS m (ln x.1) x.2.pl).2)
set_option maxHeartbeats 2000000 in
theorem driverStep_run (k : Nat) (m : Mach) (hm : m.ok) {H0 H : Heap} (W : σ → List It) (Inv : σ → Prop) (ln : σ → List Gl) (c : Nat) (hW : ∀ s, ∃ (i : Nat) (o : Option Nat), (W s)[i]? = some (itLine c o (ln s))) (a : Value) (f : σ → Int → En → σ × Int × Int) (ha : ActOk k m H0 W Inv a f)
  (X : List It) (q : Nat) (s : σ) (d : Drv) (hI : Inv s) (h : Star H0 H (W s ++ X ++ [itBlk q ⟨drvC m c d, 1, false⟩])) (hp : 0 ≤ d.pl ∧ d.pl < 2 ^ 50) (hst : 0 ≤ d.stp ∧ d.stp < 2 ^ 50) (hr : 0 ≤ d.rest ∧ d.rest < 2 ^ 50) (hse : 0 ≤ d.st ∧ d.st < m.rows.length) :
  ∃ H', R (T k) F.drive_driver_step [ptrV q, a] H = .ok (.bool (stepD m ln f (s, d)).2) H' ∧ Star H0 H' (W (stepD m ln f (s, d)).1.1 ++ X ++ [itBlk q ⟨drvC m c (stepD m ln f (s, d)).1.2, 1, false⟩]) ∧ Inv (stepD m ln f (s, d)).1.1 ∧ (stepD m ln f (s, d)).1.2.pl ≤ d.pl + 128 ∧ 0 ≤ (stepD m ln f (s, d)).1.2.st ∧ (stepD m ln f (s, d)).1.2.st < m.rows.length := by
 obtain ⟨i, o, ho⟩ := hW s
 have hq := h.memBlk (c := q) (k := ⟨drvC m c d, 1, false⟩) (by simp)
 have hline : (W s ++ X ++ [itBlk q ⟨drvC m c d, 1, false⟩])[i]? = some (itLine c o (ln s)) := by
  have h0 : i < (W s).length := (List.getElem?_eq_some_iff.1 ho).1
  rw [List.append_assoc, List.getElem?_append_left h0]
  exact ho
 have hcls := driverClass_run k m hm h i hline hq
 have hstep := fun H' => Step_run k m hm d.st (clsS m (ln s) d.pl).1 H'
 have heb := entS_bound hm (ln s) d
 have hmem := entS_mem hm (ln s) d hse
 have hnx := hm.ent _ hmem
 have hee : encEA (stepS m d.st (clsS m (ln s) d.pl).1) = encE (entS m (ln s) d) := rfl
 rw [hee] at hstep
 have hx := ha s d.pl (entS m (ln s) d)
 unfold stepD
 dsimp only
 generalize (stepS m d.st (clsS m (ln s) d.pl).1).isSome = z at hstep
 generalize (clsS m (ln s) d.pl) = cl at hcls hstep
 generalize entS m (ln s) d = e at hstep heb hx hmem hnx ⊢
 dsimp only at heb
 generalize f s d.pl e = r at hx ⊢
 have g := h.push ⟨encEn e, 1, false⟩
 rw [List.append_assoc, List.singleton_append] at g
 have hqn : ¬ q = H.n := by have := Heap.get_lt hq; omega
 obtain ⟨H2, e2, g⟩ := g.stEnd 4 (v := .int .i64 (d.stp + 1)) rfl rfl (by simp)
 simp only [List.set_cons_zero, List.set_cons_succ] at g
 have he2 := g.memBlk (c := H.n) (k := ⟨encEn e, 1, false⟩) (by simp)
 have hq2 := g.memBlk (c := q) (k := ⟨[machV m, ptrV c, .int .i64 d.st, .int .i64 d.pl, .int .i64 (d.stp + 1), .int .i64 d.rest], 1, false⟩) (by simp)
 obtain ⟨H3, e3, g⟩ := g.stEnd 2 (v := .int .i64 e.next) rfl rfl (by simp)
 simp only [List.set_cons_zero, List.set_cons_succ] at g
 have hq3 := g.memBlk (c := q) (k := ⟨[machV m, ptrV c, .int .i64 e.next, .int .i64 d.pl, .int .i64 (d.stp + 1), .int .i64 d.rest], 1, false⟩) (by simp)
 have he3 := g.memBlk (c := H.n) (k := ⟨encEn e, 1, false⟩) (by simp)
 rw [List.append_assoc] at g
 obtain ⟨H4, e4, g4, hI4, hs4, ho4⟩ := hx H3 _ hI g hp.1 hp.2 hmem
 rw [← List.append_assoc] at g4
 have hq4 := g4.memBlk (c := q) (k := ⟨[machV m, ptrV c, .int .i64 e.next, .int .i64 d.pl, .int .i64 (d.stp + 1), .int .i64 d.rest], 1, false⟩) (by simp)
 have he4 := g4.memBlk (c := H.n) (k := ⟨encEn e, 1, false⟩) (by simp)
 have han := fun H => and14 Prog 3 H heb.2.2.1 heb.2.2.2.1
 rw [List.append_assoc] at g4
 by_cases hfl : e.flags / 16384 % 2 = 1
 ·rw [if_pos hfl]
  rw [if_pos hfl] at han
  have hmx : (if 0 > r.2.1 then 0 else r.2.1) = max r.2.1 0 := by split <;> omega
  obtain ⟨H5, e5, g5⟩ := Star.stEnd (A := W r.1 ++ X) (by simpa using g4) 3 (v := .int .i64 (max r.2.1 0)) rfl rfl (by simp)
  simp only [List.set_cons_zero, List.set_cons_succ] at g5
  have hq5 := g5.memBlk (c := q) (k := ⟨[machV m, ptrV c, .int .i64 e.next, .int .i64 (max r.2.1 0), .int .i64 (d.stp + 1), .int .i64 d.rest], 1, false⟩) (by simp)
  obtain ⟨H6, e6, g6⟩ := g5.stEnd 5 (v := .int .i64 (d.rest + 1)) rfl rfl (by simp)
  simp only [List.set_cons_zero, List.set_cons_succ] at g6
  refine ⟨H6, ?_, ?_, hI4, by dsimp only; omega, hnx.1, hnx.2.1⟩
  ·rw [drive_driver_step_R]
   simp -implicitDefEqProofs (disch := omega) [-stR_ptr, drive_driver_step, hcls, hq, hqn, hstep, stR_ptr 4 H.n 0, e2, hq2, he2, e3, hq3, he3, e4, hq4, he4, han, hmx, e5, hq5, e6]
  ·have := g6.take ((W r.1 ++ X).length + 1)
   rw [take_mid] at this
   exact this
 ·rw [if_neg hfl]
  rw [if_neg hfl] at han
  have hmx : (if 0 > r.2.2 then 0 else r.2.2) = max r.2.2 0 := by split <;> omega
  obtain ⟨H5, e5, g5⟩ := Star.stEnd (A := W r.1 ++ X) (by simpa using g4) 3 (v := .int .i64 (max r.2.2 0)) rfl rfl (by simp)
  simp only [List.set_cons_zero, List.set_cons_succ] at g5
  have hq5 := g5.memBlk (c := q) (k := ⟨[machV m, ptrV c, .int .i64 e.next, .int .i64 (max r.2.2 0), .int .i64 (d.stp + 1), .int .i64 d.rest], 1, false⟩) (by simp)
  obtain ⟨H6, e6, g6⟩ := g5.stEnd 5 (v := .int .i64 0) rfl rfl (by simp)
  simp only [List.set_cons_zero, List.set_cons_succ] at g6
  refine ⟨H6, ?_, ?_, hI4, by dsimp only; omega, hnx.1, hnx.2.1⟩
  ·rw [drive_driver_step_R]
   simp -implicitDefEqProofs (disch := omega) [-stR_ptr, drive_driver_step, hcls, hq, hqn, hstep, stR_ptr 4 H.n 0, e2, hq2, he2, e3, hq3, he3, e4, hq4, he4, han, hmx, bne, e5, hq5, e6]
  ·have := g6.take ((W r.1 ++ X).length + 1)
   rw [take_mid] at this
   exact this
end Go.Sw
end
section
namespace Go.Sw
open Go.RowKit
variable {σ : Type}
def runD (m : Mach) (ln : σ → List Gl) (f : σ → Int → En → σ × Int × Int) (most : Int) : Nat → σ × Drv → Int × Int × σ
  | 0, x => (x.2.stp, 4, x.1)
  | n + 1, x => if x.2.stp < most then
      (if (stepD m ln f x).2 then ((stepD m ln f x).1.2.stp, 0, (stepD m ln f x).1.1)
       else if (stepD m ln f x).1.2.rest > 64 then ((stepD m ln f x).1.2.stp, 4, (stepD m ln f x).1.1)
       else runD m ln f most n (stepD m ln f x).1)
    else (x.2.stp, 4, x.1)
theorem stepD_stp (m : Mach) (ln : σ → List Gl) (f : σ → Int → En → σ × Int × Int) (x : σ × Drv) : (stepD m ln f x).1.2.stp = x.2.stp + 1 := by unfold stepD; split <;> rfl
theorem stepD_pl (m : Mach) (ln : σ → List Gl) (f : σ → Int → En → σ × Int × Int) (x : σ × Drv) : 0 ≤ (stepD m ln f x).1.2.pl := by unfold stepD; split <;> (dsimp only; omega)
theorem stepD_rest (m : Mach) (ln : σ → List Gl) (f : σ → Int → En → σ × Int × Int) (x : σ × Drv) (h : 0 ≤ x.2.rest) : 0 ≤ (stepD m ln f x).1.2.rest ∧ (stepD m ln f x).1.2.rest ≤ x.2.rest + 1 := by unfold stepD; split <;> (dsimp only; omega)
set_option maxHeartbeats 1000000 in
theorem driveRun_star (k : Nat) (m : Mach) (hm : m.ok) {H0 H : Heap} (W : σ → List It) (Inv : σ → Prop) (ln : σ → List Gl) (c : Nat) (hW : ∀ s, ∃ (i : Nat) (o : Option Nat), (W s)[i]? = some (itLine c o (ln s))) (a : Value) (f : σ → Int → En → σ × Int × Int) (ha : ActOk k m H0 W Inv a f)
  (X : List It) (s : σ) (hI : Inv s) (h : Star H0 H (W s ++ X)) (hl : (ln s).length < 2 ^ 40) :
  ∃ H', R (T k) F.drive_Run [machV m, ptrV c, a] H = .ok (.tuple #[.int .i64 (runD m ln f (2 * (ln s).length + 128) (2 * (ln s).length + 128) (s, ⟨0, 0, 0, 0⟩)).1, .int .i64 (runD m ln f (2 * (ln s).length + 128) (2 * (ln s).length + 128) (s, ⟨0, 0, 0, 0⟩)).2.1]) H' ∧
   Star H0 H' (W (runD m ln f (2 * (ln s).length + 128) (2 * (ln s).length + 128) (s, ⟨0, 0, 0, 0⟩)).2.2 ++ X) ∧ Inv (runD m ln f (2 * (ln s).length + 128) (2 * (ln s).length + 128) (s, ⟨0, 0, 0, 0⟩)).2.2 := by
 rw [drive_Run_R]
 obtain ⟨N, hN⟩ : ∃ N, N = 2 * (ln s).length + 128 := ⟨_, rfl⟩
 have hNi : (2 * ((ln s).length : Int) + 128) = (N : Int) := by omega
 obtain ⟨x0, hx0⟩ : ∃ x0 : σ × Drv, x0 = (s, ⟨0, 0, 0, 0⟩) := ⟨_, rfl⟩
 rw [← hN, hNi, ← hx0]
 generalize hR0 : runD m ln f (N : Int) N x0 = R0
 have g := h.push ⟨drvC m c ⟨0, 0, 0, 0⟩, 1, false⟩
 obtain ⟨i, o, ho⟩ := hW s
 have hline : (W s ++ X ++ [itBlk H.n ⟨drvC m c ⟨0, 0, 0, 0⟩, 1, false⟩])[i]? = some (itLine c o (ln s)) := by
  have h0 : i < (W s).length := (List.getElem?_eq_some_iff.1 ho).1
  rw [List.append_assoc, List.getElem?_append_left h0]
  exact ho
 have hlen := lineLen_run k g i hline
 obtain ⟨e, eE, H1, hr1, hQ⟩ := loop_up (body := drive_Run_l1 k (R (T k))) N
  (fun j e H' => e = [(2, a), (8, ptrV H.n), (9, .int .i64 N)] ∧ ∃ x : σ × Drv, Star H0 H' (W x.1 ++ X ++ [itBlk H.n ⟨drvC m c x.2, 1, false⟩]) ∧ Inv x.1 ∧ x.2.stp = j ∧ 0 ≤ x.2.pl ∧ x.2.pl ≤ 128 * j ∧ 0 ≤ x.2.rest ∧ x.2.rest ≤ j ∧ (0 ≤ x.2.st ∧ x.2.st < m.rows.length) ∧ runD m ln f N (N - j) x = R0)
  (fun x' e H' => ∃ r : Int × Int × σ, r = R0 ∧ ∃ d : Drv, Star H0 H' (W r.2.2 ++ X ++ [itBlk H.n ⟨drvC m c d, 1, false⟩]) ∧ Inv r.2.2 ∧
   ((x' = .ret ∧ e = [(6, .int .i64 r.1), (7, .int .i64 0)] ∧ r.2.1 = 0) ∨ (x' = .exit 0 ∧ d.stp = r.1 ∧ r.2.1 = 4 ∧ (e = [(2, a), (8, ptrV H.n), (9, .int .i64 N), (35, .bool true)] ∨ e = [(2, a), (8, ptrV H.n), (9, .int .i64 N), (23, .bool false)]))))
  (e0 := [(2, a), (8, ptrV H.n), (9, .int .i64 N)]) (H0 := H.push ⟨drvC m c ⟨0, 0, 0, 0⟩, 1, false⟩)
  ⟨rfl, x0, by rw [hx0]; exact g, by rw [hx0]; exact hI, by rw [hx0]; rfl, by rw [hx0]; exact Int.le_refl _, by rw [hx0]; exact Int.le_refl _, by rw [hx0]; exact Int.le_refl _, by rw [hx0]; exact Int.le_refl _, by rw [hx0]; have := hm.two; dsimp only; omega, by rw [Nat.sub_zero]; exact hR0⟩ (by omega)
  (fun j e H' hj ⟨he, x, g, hI, h1, h2, h3, h4, h5, hse, hrun⟩ => by
   subst he
   obtain ⟨H2, e2, g2, hI2, h6, h7⟩ := driverStep_run k m hm W Inv ln c hW a f ha X H.n x.1 x.2 hI g (by omega) (by omega) (by omega) hse
   have hq := g.memBlk (c := H.n) (k := ⟨drvC m c x.2, 1, false⟩) (by simp)
   have p1 := stepD_stp m ln f x
   have p2 := stepD_pl m ln f x
   have p3 := stepD_rest m ln f x h4
   have hlt : x.2.stp < (N : Int) := by omega
   have hNj : N - j = (N - (j + 1)) + 1 := by omega
   rw [hNj] at hrun
   unfold runD at hrun
   rw [if_pos hlt] at hrun
   have hxx : (x.1, x.2) = x := rfl
   rw [hxx] at e2 g2 hI2 h6 h7
   generalize stepD m ln f x = y at *
   have hq2 := g2.memBlk (c := H.n) (k := ⟨drvC m c y.1.2, 1, false⟩) (by simp)
   cases hy : y.2 with
   | true =>
    rw [hy] at hrun e2
    simp only [if_true] at hrun
    refine .inr ⟨.ret, _, H2, ?_, by simp, _, hrun, y.1.2, g2, hI2, .inl ⟨rfl, rfl, rfl⟩⟩
    rw [drive_Run_l1_eq]
    simp -implicitDefEqProofs (disch := omega) [hq, hlt, e2, hq2]
   | false =>
    rw [hy] at hrun e2
    simp only [Bool.false_eq_true, if_false] at hrun
    by_cases hr : y.1.2.rest > 64
    ·rw [if_pos hr] at hrun
     refine .inr ⟨.exit 0, _, H2, ?_, by simp, _, hrun, y.1.2, g2, hI2, .inr ⟨rfl, rfl, rfl, .inl rfl⟩⟩
     rw [drive_Run_l1_eq]
     simp -implicitDefEqProofs (disch := omega) [hq, hlt, e2, hq2, hr]
    ·rw [if_neg hr] at hrun
     refine .inl ⟨_, H2, ?_, rfl, y.1, g2, hI2, by omega, p2, by omega, p3.1, by omega, h7, hrun⟩
     rw [drive_Run_l1_eq]
     simp -implicitDefEqProofs (disch := omega) [hq, hlt, e2, hq2, hr])
  (fun e H' ⟨he, x, g, hI, h1, h2, h3, h4, h5, hse, hrun⟩ => by
   subst he
   rw [Nat.sub_self] at hrun
   have hq := g.memBlk (c := H.n) (k := ⟨drvC m c x.2, 1, false⟩) (by simp)
   refine ⟨.exit 0, _, H', ?_, by simp, _, hrun, x.2, g, hI, .inr ⟨rfl, rfl, rfl, .inr rfl⟩⟩
   have hnl : ¬ x.2.stp < (N : Int) := by omega
   rw [drive_Run_l1_eq]
   simp -implicitDefEqProofs (disch := omega) [hq, hnl])
 obtain ⟨r, hr, d, g, hIr, hcase⟩ := hQ
 subst hr
 have hq := g.memBlk (c := H.n) (k := ⟨drvC m c d, 1, false⟩) (by simp)
 have gX : Star H0 H1 (W r.2.2 ++ X) := g.drop_last
 refine ⟨H1, ?_, gX, hIr⟩
 rcases hcase with ⟨rfl, rfl, hc⟩ | ⟨rfl, hd, hc, rfl | rfl⟩
 ·rw [hc]
  simp -implicitDefEqProofs (disch := omega) [drive_Run, hlen, hNi, hr1, drive_Run_l1k_r]
 ·rw [hc]
  simp -implicitDefEqProofs (disch := omega) [drive_Run, hlen, hNi, hr1, drive_Run_l1k_x0, hq, hd]
 ·rw [hc]
  simp -implicitDefEqProofs (disch := omega) [drive_Run, hlen, hNi, hr1, drive_Run_l1k_x0_1, hq, hd]
end Go.Sw
end
