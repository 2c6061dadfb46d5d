/-
  The document's lookups: read, and asked.
-/
import Derived.Test.YtnaodjnimkndbaaSwRef6B
namespace Go.Sw
open Go.RowKit

theorem refNo {H : Heap} {r : Res Value} (h : r = .ok (.tuple #[.slice none 0 0, .bool false]) H) : nrm .fz H r = .ok (.tuple #[lv encRP [], .bool false]) H :=
  nrm_fz (L := []) h rfl (Ext.refl H) (parts_flat [] false).alive
theorem PartsAre.no : PartsAre none (.tuple #[lv encRP [], .bool false]) := ⟨[], rfl, fun x h => (by cases h), by simp⟩

theorem trim06_run (k : Nat) (b : List Int) (hb : Byt b) (i z : Int) (hz : z = 1 ∨ z = 2 ∨ z = 4) (hi : 0 ≤ i ∧ i ≤ 4) (hl : b.length < 2 ^ 31) (H : Heap) :
    ∃ v, R (T k) F.swashref06_trimmed [lv encB b, .int .i64 i, .int .i64 z] H = .ok v H ∧ PartsAre (refTrimS b i z) v := by
  have hU := fun j H' => refU_run k (H := H') (Sl.lv H' 1 b) hb j 2 (by omega) (by omega)
  have hR := fun n H' => refRows_run k b.length (i + 4) n z (by omega) (by omega) H'
  rw [swashref06_trimmed_R]
  unfold refTrimS
  cases h1 : uS b i 2 with
  | none =>
    refine ⟨_, refNo ?_, .no⟩
    have u1 := fun H' => hU i H'
    rw [h1] at u1
    have g2 := gU_two hb (i + 2)
    unfold gU at g2
    simp -implicitDefEqProofs (disch := omega) [swashref06_trimmed, u1, hU]
  | some f =>
    have u1 := fun H' => hU i H'
    rw [h1] at u1
    have hf := uS_two hb h1
    have hf' : ¬ f < 0 := by omega
    cases h2 : uS b (i + 2) 2 with
    | none =>
      refine ⟨_, refNo ?_, .no⟩
      have u2 := fun H' => hU (i + 2) H'
      rw [h2] at u2
      simp -implicitDefEqProofs (disch := omega) [swashref06_trimmed, u1, u2, hf']
    | some n =>
      have u2 := fun H' => hU (i + 2) H'
      rw [h2] at u2
      have hn := uS_two hb h2
      have hn' : ¬ n < 0 := by omega
      simp only [Option.bind_some, Option.getD_some] at u1 u2 ⊢
      by_cases h3 : f + n ≤ 65536
      · have h3' : ¬ f + n > 65536 := by omega
        cases h4 : rowsB b.length (i + 4) n z with
        | false =>
          rw [if_neg (by simp)]
          refine ⟨_, refNo ?_, .no⟩
          have hR4 := hR n
          rw [h4] at hR4
          simp -implicitDefEqProofs (disch := omega) [swashref06_trimmed, u1, u2, hf', hn', h3', hR4]
        | true =>
          rw [if_pos ⟨h3, rfl⟩]
          have hR4 := hR n
          rw [h4] at hR4
          by_cases h0 : n = 0
          · subst h0
            rw [if_pos rfl]
            have h3'' : ¬ 65536 < f := by omega
            refine ⟨.tuple #[lv encRP [], .bool true], nrm_fz (v := .tuple #[bareV, .bool true]) (H' := H) (L := []) ?_ rfl (Ext.refl H) (parts_flat [] true).alive, [], rfl, fun x h => (by injection h), by simp⟩
            simp -implicitDefEqProofs (disch := omega) [swashref06_trimmed, u1, u2, hf', h3'', hR4]
          · rw [if_neg h0]
            have h0' : (n == 0) = false := by simpa using h0
            obtain ⟨r, hr⟩ : ∃ r : RP, r = ⟨f, f + n - 1, i + 4, z, z⟩ := ⟨_, rfl⟩
            rw [← hr]
            have ho : Own H (H.push ⟨encRP r, 5, false⟩) 5 (.slice (some ⟨H.n, 0, none⟩) 1 1) encRP [r] := .inr ⟨H.n, rfl, by omega, get_push_eq _ _ _ rfl⟩
            obtain ⟨L, hfz⟩ := ho.freeze encRP_len (encRP_still _) 5
            refine ⟨.tuple #[lv encRP [r], .bool true], nrm_fz (v := .tuple #[.slice (some ⟨H.n, 0, none⟩) 1 1, .bool true]) (H' := H.push ⟨encRP r, 5, false⟩) ?_ (fz_tuple (l := [.slice (some ⟨H.n, 0, none⟩) 1 1, .bool true]) (mapF_cons hfz (mapF_one (L := []) rfl))) ((Ext.refl H).push _) (parts_flat [r] true).alive, [r], rfl, fun x h => (by injection h), by simp⟩
            subst hr
            simp -implicitDefEqProofs (disch := omega) [swashref06_trimmed, u1, u2, hf', hn', h3', hR4, h0']
      · rw [if_neg (fun h => h3 h.1)]
        have h3' : f + n > 65536 := by omega
        refine ⟨_, refNo ?_, .no⟩
        simp -implicitDefEqProofs (disch := omega) [swashref06_trimmed, u1, u2, hf', hn', h3']

theorem PartsAre.val {o : Option (List RP)} {v : Value} (h : PartsAre o v) : ∃ l ok, v = .tuple #[lv encRP l, .bool ok] ∧ o = (if ok then some l else none) ∧ l.length ≤ 65536 := by
  obtain ⟨l, rfl, h1, h2⟩ := h
  cases o with
  | none => exact ⟨l, false, rfl, rfl, h2⟩
  | some x => exact ⟨l, true, rfl, by simp [h1 x rfl], h2⟩
theorem PartsAre.pass {o : Option (List RP)} {l : List RP} {ok : Bool} (h : o = (if ok then some l else none)) (hl : l.length ≤ 65536) : PartsAre o (.tuple #[lv encRP l, .bool ok]) := by
  subst h
  cases ok with
  | true => exact ⟨l, rfl, fun x h => (by injection h), hl⟩
  | false => exact ⟨l, rfl, fun x h => (by cases h), hl⟩
theorem nrm_parts {H : Heap} {r : Res Value} {l : List RP} {ok : Bool} (h : r = .ok (.tuple #[lv encRP l, .bool ok]) H) : nrm .fz H r = .ok (.tuple #[lv encRP l, .bool ok]) H :=
  nrm_fz (L := []) h rfl (Ext.refl H) (parts_flat l ok).alive

theorem parts06_run (k : Nat) (b : List Int) (hb : Byt b) (g z : Int) (hg : 1 ≤ g ∧ g ≤ 65535) (hz : z = 2 ∨ z = 4) (hl : b.length < 2 ^ 31) (H : Heap) :
    ∃ v, R (T k) F.swashref06_parts [lv encB b, .int .i64 g, .int .i64 z] H = .ok v H ∧ PartsAre (refPartsS b g z (gU b 0 2)) v := by
  have hU := fun j H' => refU_run k (H := H') (Sl.lv H' 1 b) hb j 2 (by omega) (by omega)
  have hR := fun H' => refRows_run k b.length 2 g z (by omega) (by omega) H'
  rw [swashref06_parts_R]
  have hu0 : ∀ H', R (T k) F.swashref01_U [lv encB b, .int .i64 0, .int .i64 2] H' = .ok (.int .i64 (gU b 0 2)) H' := fun H' => hU 0 H'
  have hu2 : ∀ H', R (T k) F.swashref01_U [lv encB b, .int .i64 2, .int .i64 2] H' = .ok (.int .i64 (gU b 2 2)) H' := fun H' => hU 2 H'
  generalize gU b 0 2 = fmt at hu0 ⊢
  unfold refPartsS
  by_cases h0 : fmt = 0
  · subst h0
    rw [if_pos rfl]
    obtain ⟨r, hr⟩ : ∃ r : RP, r = ⟨0, g - 1, 2, z, z⟩ := ⟨_, rfl⟩
    rw [← hr]
    have ho : Own H (H.push ⟨encRP r, 5, false⟩) 5 (.slice (some ⟨H.n, 0, none⟩) 1 1) encRP [r] := .inr ⟨H.n, rfl, by omega, get_push_eq _ _ _ rfl⟩
    obtain ⟨L, hfz⟩ := ho.freeze encRP_len (encRP_still _) 5
    refine ⟨.tuple #[lv encRP [r], .bool (rowsB b.length 2 g z)], nrm_fz (v := .tuple #[.slice (some ⟨H.n, 0, none⟩) 1 1, .bool (rowsB b.length 2 g z)]) (H' := H.push ⟨encRP r, 5, false⟩) ?_ (fz_tuple (l := [.slice (some ⟨H.n, 0, none⟩) 1 1, .bool (rowsB b.length 2 g z)]) (mapF_cons hfz (mapF_one (L := []) rfl))) ((Ext.refl H).push _) (parts_flat [r] _).alive, .pass rfl (by simp)⟩
    subst hr
    simp -implicitDefEqProofs (disch := omega) [swashref06_parts, hu0, hR]
  rw [if_neg h0]
  have h0' : (fmt == 0) = false := by simpa using h0
  by_cases h2 : fmt = 2
  · subst h2
    rw [if_pos rfl]
    obtain ⟨v, e, hp⟩ := segs06_run k b hb z hz false hl H
    obtain ⟨l, ok, rfl, ho, hll⟩ := hp.val
    refine ⟨_, nrm_parts (l := l) (ok := ok) ?_, .pass ho hll⟩
    simp -implicitDefEqProofs (disch := omega) [swashref06_parts, hu0, e]
  rw [if_neg h2]
  have h2' : (fmt == 2) = false := by simpa using h2
  by_cases h4 : fmt = 4
  · subst h4
    rw [if_pos rfl]
    obtain ⟨v, e, hp⟩ := segs06_run k b hb z hz true hl H
    obtain ⟨l, ok, rfl, ho, hll⟩ := hp.val
    refine ⟨_, nrm_parts (l := l) (ok := ok) ?_, .pass ho hll⟩
    simp -implicitDefEqProofs (disch := omega) [swashref06_parts, hu0, e]
  rw [if_neg h4]
  have h4' : (fmt == 4) = false := by simpa using h4
  by_cases h6 : fmt = 6
  · subst h6
    rw [if_pos rfl]
    have hr5 := fun H' => rows05_run k b hb 2 (2 + z) 1 hl (by omega) (by omega) (by omega) (by omega) H'
    obtain ⟨ps, ok, zz, hrow, hps, hpl, hok⟩ : ∃ (ps : List Int) (ok : Bool) (zz : Int), rowsO b 2 (2 + z) 1 = .tuple #[lv encI ps, .int .i64 zz, .bool ok] ∧ (∀ p, p ∈ ps → 0 ≤ p ∧ p < 2 ^ 34) ∧
        ps.length < 65536 ∧ refOneS b z = (if ok then some (ps.map (oneR b z)) else none) := by
      unfold rowsO refOneS
      cases ht : takeS b 2 (2 + z) 1 with
      | none => exact ⟨[], false, 0, rfl, (fun p h => by cases h), by simp, rfl⟩
      | some rows =>
        obtain ⟨s, n, h1, h2, h3, h4, h5, h6⟩ := takeS_get ht
        have hs := uS_two hb h1
        have hn := uS_two hb h2
        rw [gU_some h1]
        refine ⟨posS 2 s rows.length, true, s, rfl, fun p hp => ?_, by simp; omega, by rw [Option.map_some]; rfl⟩
        obtain ⟨j, hj⟩ := List.getElem?_of_mem hp
        have hjl := (List.getElem?_eq_some_iff.1 hj).1
        rw [posS_len] at hjl
        rw [posS_get _ _ _ _ hjl] at hj
        injection hj with hj
        have h7 := Int.mul_nonneg hs.1 (show (0 : Int) ≤ (j : Int) by omega)
        have h8 : s * (j : Int) ≤ 65536 * 65536 := Int.mul_le_mul (by omega) (by omega) (by omega) (by omega)
        omega
    rw [hrow] at hr5
    rw [hok]
    obtain ⟨x, e', H1, hr, rfl, hx, a, s, rfl, ho⟩ := loop_up (body := swashref06_parts_l1 k (R (T k))) ps.length
      (fun j e H' => Ext H H' ∧ ∃ s, e = [(0, lv encB b), (2, .int .i64 z), (8, lv encI ps), (10, .bool ok), (11, s), (12, .int .i64 j)] ∧ Own H H' 5 s encRP ((ps.take j).map (oneR b z)))
      (fun x e H' => x = .exit 1 ∧ Ext H H' ∧ ∃ a s, e = [(0, lv encB b), (2, .int .i64 z), (8, lv encI ps), (10, .bool ok), (11, s), (12, a), (58, .bool false)] ∧ Own H H' 5 s encRP (ps.map (oneR b z)))
      (e0 := [(0, lv encB b), (2, .int .i64 z), (8, lv encI ps), (10, .bool ok), (11, bareV), (12, .int .i64 0)]) (H0 := H) ⟨Ext.refl H, _, rfl, Own.bare _ _ _⟩ (by omega)
      (fun j e H' hj ⟨hx, s, he, ho⟩ => by
        subst he
        have hlt : (j : Int) < ps.length := by omega
        obtain ⟨p, hp⟩ : ∃ p, ps[j]? = some p := ⟨_, List.getElem?_eq_getElem hj⟩
        have hpb := hps p (List.mem_of_getElem? hp)
        have i1 := fun H' => ixS_lvN encI_len ps .i64 j p hp H'
        have u0 : ∀ H', R (T k) F.swashref01_U [lv encB b, .int .i64 p, .int .i64 2] H' = .ok (.int .i64 (gU b p 2)) H' := fun H' => hU p H'
        obtain ⟨s2, H2, e2, o2, x2⟩ := ap1_own (bytes := 40) encRP_len ho hx (oneR b z p) (by simp; omega) (by decide)
        refine .inl ⟨_, H2, ?_, x2, s2, rfl, by rw [take_snoc hp, List.map_append]; exact o2⟩
        rw [swashref06_parts_l1_eq]
        unfold encRP oneR at e2
        simp -implicitDefEqProofs (disch := omega) [hlt, i1, u0, e2])
      (fun e H' ⟨hx, s, he, ho⟩ => by
        subst he
        refine ⟨.exit 1, _, H', ?_, by simp, rfl, hx, .int .i64 ps.length, s, rfl, by rw [List.take_length] at ho; exact ho⟩
        rw [swashref06_parts_l1_eq]
        simp -implicitDefEqProofs)
    obtain ⟨L, hf⟩ := ho.freeze encRP_len (encRP_still _) 5
    refine ⟨.tuple #[lv encRP (ps.map (oneR b z)), .bool ok], nrm_fz (v := .tuple #[s, .bool ok]) (H' := H1) ?_ (fz_tuple (l := [s, .bool ok]) (mapF_cons hf (mapF_one (L := []) rfl))) hx (parts_flat _ _).alive, .pass rfl (by simp; omega)⟩
    rcases hz with rfl | rfl <;> simp -implicitDefEqProofs (disch := omega) at hr5 <;> simp -implicitDefEqProofs (disch := omega) [swashref06_parts, hu0, hr5, hr, swashref06_parts_l1k_x1]
  rw [if_neg h6]
  have h6' : (fmt == 6) = false := by simpa using h6
  by_cases h8 : fmt = 8
  · subst h8
    rw [if_pos rfl]
    obtain ⟨v, e, hp⟩ := trim06_run k b hb 2 z (by omega) (by omega) hl H
    obtain ⟨l, ok, rfl, ho, hll⟩ := hp.val
    refine ⟨_, nrm_parts (l := l) (ok := ok) ?_, .pass ho hll⟩
    simp -implicitDefEqProofs (disch := omega) [swashref06_parts, hu0, e]
  rw [if_neg h8]
  have h8' : (fmt == 8) = false := by simpa using h8
  by_cases h10 : fmt = 10
  · subst h10
    rw [if_pos rfl]
    have hno : ¬ (gU b 2 2 = 1 ∨ gU b 2 2 = 2 ∨ gU b 2 2 = 4) → swashref06_parts k (R (T k)) (lv encB b) (.int .i64 g) (.int .i64 z) H = .ok (.tuple #[.slice none 0 0, .bool false]) H := fun hu => by
      have u1 : (gU b 2 2 == 1) = false := by simpa using fun h => hu (.inl h)
      have u2 : (gU b 2 2 == 2) = false := by simpa using fun h => hu (.inr (.inl h))
      have u4 : (gU b 2 2 == 4) = false := by simpa using fun h => hu (.inr (.inr h))
      simp -implicitDefEqProofs (disch := omega) [swashref06_parts, hu0, hu2, bne, u1, u2, u4]
    cases h : uS b 2 2 with
    | none =>
      have hg2 : gU b 2 2 = -1 := by unfold gU; rw [h]; rfl
      exact ⟨_, refNo (hno (by rw [hg2]; decide)), .no⟩
    | some u =>
      have hg2 := gU_some h
      rw [hg2] at hu2 hno
      simp only [Option.bind_some]
      by_cases hu : u = 1 ∨ u = 2 ∨ u = 4
      · rw [if_pos hu]
        obtain ⟨v, e, hp⟩ := trim06_run k b hb 4 u hu (by omega) hl H
        obtain ⟨l, ok, rfl, ho, hll⟩ := hp.val
        refine ⟨_, nrm_parts (l := l) (ok := ok) ?_, .pass ho hll⟩
        rcases hu with rfl | rfl | rfl <;> simp -implicitDefEqProofs (disch := omega) [swashref06_parts, hu0, hu2, bne, e]
      · rw [if_neg hu]
        exact ⟨_, refNo (hno hu), .no⟩
  rw [if_neg h10]
  have h10' : (fmt == 10) = false := by simpa using h10
  refine ⟨_, refNo ?_, .no⟩
  simp -implicitDefEqProofs (disch := omega) [swashref06_parts, hu0, h0', h2', h4', h6', h8', h10']
end Go.Sw

