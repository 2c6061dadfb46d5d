/-
  Functions' forms, and what is proved of them, part 10.
-/
import Derived.Test.YtnaodjnimkndbaaSwW9
import Derived.Test.YtnaodjnimkndbaaSwW8
set_option linter.unusedSimpArgs false
set_option linter.unusedVariables false
set_option linter.unusedSectionVars false
section
namespace Go.Sw
open Go.RowKit
theorem ref22Read_run (k : Nat) (kind : Int) (hkd : kind = 0 ∨ kind = 2 ∨ kind = 6) (b : List Int) (hb : Byt b) (g : Int) (hg : 1 ≤ g ∧ g ≤ 65535) (hl : b.length < 2 ^ 31) (H : Heap) :
    ∃ rt, R (T k) F.swashref22_Read [.int .i64 kind, lv encB b, .int .i64 g] H = .ok (.tuple #[rtV rt, .bool (pTakeS kind b g).isSome]) H ∧ ∀ t, pTakeS kind b g = some t → Is22 t rt := by
  rcases hkd with rfl | rfl | rfl
  · exact ref22_list k b hb g hl H
  · obtain ⟨rt, h1, h2⟩ := ref22_tail k b hb 2 (by omega) 4 g 2 1 (by omega) hg (by omega) (by omega) hl H
    refine ⟨rt, ?_, h2⟩
    rw [swashref22_Read_R, pTake_two]
    refine Eq.trans (congrArg _ ?_) h1
    simp -implicitDefEqProofs (disch := omega) [swashref22_Read, j3_j1]
  · rw [pTake_six hb]
    have hU := fun j H' => refU_run k (H := H') (Sl.lv H' 1 b) hb j 4 (by omega) (by omega)
    have u0 : ∀ H', R (T k) F.swashref01_U [lv encB b, .int .i64 0, .int .i64 4] H' = .ok (.int .i64 (gU b 0 4)) H' := fun H' => hU _ H'
    have bd := gU_four hb 0
    generalize gU b 0 4 = f at u0 bd ⊢
    by_cases c1 : f < 0
    · rw [if_pos c1]
      refine ⟨⟨6, 0, 2, 2, b, [], ([], []), ([], [])⟩, ?_, fun t ht => by cases ht⟩
      rw [swashref22_Read_R]
      refine nrm_fz (v := .tuple #[.agg (r0Cells 6 2 2 b).toArray, .bool false]) (L := []) (H' := (H.push ⟨r0Cells 6 2 2 b, 1, false⟩).push ⟨r0Cells 6 2 2 b, 1, false⟩) ?_ rfl (((Ext.refl H).push _).push _) (Flat.rtO ⟨6, 0, 2, 2, b, [], ([], []), ([], [])⟩ _).alive
      simp -implicitDefEqProofs (disch := omega) [swashref22_Read, u0, c1]
    · rw [if_neg c1]
      have hrem := fun H => bin_rem Prog 3 H .i64 f 2 (by decide)
      rw [Int.tmod_eq_emod_of_nonneg (by omega)] at hrem
      by_cases c2 : f % 2 = 1
      · rw [if_pos c2]
        obtain ⟨rt, h1, h2⟩ := ref22_tail k b hb 6 (by omega) 8 g 4 4 (by omega) hg (by omega) (by omega) hl H
        refine ⟨rt, ?_, h2⟩
        rw [swashref22_Read_R]
        refine Eq.trans (congrArg _ ?_) h1
        simp -implicitDefEqProofs (disch := omega) [swashref22_Read, u0, c1, hrem, c2]
      · rw [if_neg c2]
        obtain ⟨rt, h1, h2⟩ := ref22_tail k b hb 6 (by omega) 8 g 2 2 (by omega) hg (by omega) (by omega) hl H
        refine ⟨rt, ?_, h2⟩
        rw [swashref22_Read_R]
        refine Eq.trans (congrArg _ ?_) h1
        have c2' : (f % 2 == 1) = false := by simpa using c2
        simp -implicitDefEqProofs (disch := omega) [swashref22_Read, u0, c1, hrem, c2, c2', j2_j1]
theorem signed_run (k : Nat) (b : List Int) (hb : Byt b) (i z : Int) (hz : z = 2 ∨ z = 4) (hl : b.length < 2 ^ 31) (H : Heap) :
    R (T k) F.swashref22_signed [lv encB b, .int .i64 i, .int .i64 z] H = .ok (.int .i64 (if z = 4 then s32 (gU b i 4) else s16 (gU b i 2))) H := by
  rw [swashref22_signed_R]
  refine nrm_gc (Pure.of ?_) (.int _ _)
  have hU := fun n hn => refU_run k (H := H) (Sl.lv H 1 b) hb i n (by omega) hn
  rcases hz with rfl | rfl
  · have u : R (T k) F.swashref01_U [lv encB b, .int .i64 i, .int .i64 2] H = .ok (.int .i64 (gU b i 2)) H := hU 2 (by omega)
    have bd := gU_two hb i
    generalize gU b i 2 = x at u bd ⊢
    have s := refS16_run k x (by omega) (by omega) H
    simp -implicitDefEqProofs (disch := omega) [swashref22_signed, u, s]
  · have u : R (T k) F.swashref01_U [lv encB b, .int .i64 i, .int .i64 4] H = .ok (.int .i64 (gU b i 4)) H := hU 4 (by omega)
    have bd := gU_four hb i
    generalize gU b i 4 = x at u bd ⊢
    have s := refS32_run k x (by omega) (by omega) H
    simp -implicitDefEqProofs (disch := omega) [swashref22_signed, u, s]
theorem list_place {b : List Int} {n : Int} {r : List Int} (hr : rowsS b 16 n 6 = some r) (hb : Byt b) (x y : Int) (hx : 0 ≤ x ∧ x < 65536) (hy : 0 ≤ y ∧ y < 65536) (hup : upS (keysS r n) = true) {j : Nat} (hj : (j : Int) < n) (h1 : gU b (16 + 6 * j) 2 = x) (h2 : gU b (18 + 6 * j) 2 = y) :
    placeS (keysS r n) (x * 65536 + y) = some j := by
  obtain ⟨a, c, e1, e2, _, e4⟩ := key_two hr hj
  rw [show (16 + 6 * (j : Int) + 2) = 18 + 6 * j by omega] at e2
  rw [gU_some e1] at h1
  rw [gU_some e2] at h2
  subst h1 h2
  exact placeS_at e4 hup
set_option maxHeartbeats 1000000 in
theorem ref22Get_run (k : Nat) (t : PTab) (rt : RTab) (ht : t.ok) (h : Is22 t rt) (l r : Int) (H : Heap) : R (T k) F.swashref22_Get [rtV rt, .int .i64 l, .int .i64 r] H = .ok (.int .i64 (pgetS t l r)) H := by
  rw [swashref22_Get_R]
  obtain ⟨kind, n, rsize, rstep, b, rvb, rrows, rcols⟩ := rt
  obtain ⟨B, hB⟩ : ∃ B : Blk, B = ⟨rtC ⟨kind, n, rsize, rstep, b, rvb, rrows, rcols⟩, 1, false⟩ := ⟨_, rfl⟩
  have hx : Ext H (H.push B) := (Ext.refl H).push _
  rcases h with ⟨hk0, hb, hl, hpl, hn⟩ | ⟨hk0, a, c, e1, e2, e3, e4, e5, ⟨rb, rl, rr, ro, rn⟩, ⟨cb, cl, cr, co, cn⟩⟩
  · dsimp only at hk0 hb hl hpl hn
    subst hk0
    rcases pList_some (b := b) with ⟨m, q, hm, hm0, hr, hrb, hpl2⟩ | ⟨hrb, hpl2⟩
    · rw [hpl2] at hpl
      split at hpl
      · rename_i hup
        have hpl := Option.some.inj hpl
        subst hpl
        have hkl : (keysS q m).length = m.toNat := by unfold keysS; simp
        have hnm : n = m := by dsimp only at hn; omega
        subst hnm
        have hget : (H.push B).get H.n = some ⟨rtC ⟨0, n, rsize, rstep, b, rvb, rrows, rcols⟩, 1, false⟩ := by rw [get_push_eq _ _ _ rfl, hB]
        have hU := fun i H' => refU_run k (H := H') (Sl.lv H' 1 b) hb i 2 (by omega) (by omega)
        have hu16 : ∀ (j : Nat) H', R (T k) F.swashref01_U [lv encB b, .int .i64 (16 + 6 * (j : Int)), .int .i64 2] H' = .ok (.int .i64 (gU b (16 + 6 * (j : Int)) 2)) H' := fun j H' => hU _ H'
        have hu18 : ∀ (j : Nat) H', R (T k) F.swashref01_U [lv encB b, .int .i64 (18 + 6 * (j : Int)), .int .i64 2] H' = .ok (.int .i64 (gU b (18 + 6 * (j : Int)) 2)) H' := fun j H' => hU _ H'
        have hsg := fun i H' => signed_run k b hb i 2 (by omega) hl H'
        have b2 := fun i => gU_two hb i
        have hpc := rowsS_piece hr
        have hrl := pieceS_len hpc
        have hnb : n * 6 ≤ b.length - 16 := (rowsS_n hr).2.2.2.2.1
        have hnb2 : n < 2 ^ 31 := by omega
        -- the row's distance
        have val : ∀ j : Nat, (j : Int) < n → gU q (6 * (j : Int) + 4) 2 = gU b (20 + 6 * (j : Int)) 2 := fun j hj => by
          have := uS_sub hpc (x := 6 * (j : Int) + 4) (y := 2) (by omega) (by omega) (by omega)
          unfold gU
          rw [this, show 16 + (6 * (j : Int) + 4) = 20 + 6 * j by omega]
        obtain ⟨x', e', H1, hr1, hx1, hres⟩ := loop_up (body := swashref22_Get_l1 k (R (T k))) n.toNat
          (fun j e H' => e = [(1, .int .i64 l), (2, .int .i64 r), (3, ptrV H.n), (7, .int .i64 j)] ∧ H' = H.push B ∧ ∀ i : Nat, i < j → ¬ (gU b (16 + 6 * (i : Int)) 2 = l ∧ gU b (18 + 6 * (i : Int)) 2 = r))
          (fun x e H' => Ext H H' ∧ ((x = .ret ∧ e = [(6, .int .i64 (pgetS ⟨keysS q n, q, none, none, 0, 2⟩ l r))]) ∨ (x = .exit 0 ∧ (∃ z, e = [(1, .int .i64 l), (2, .int .i64 r), (3, ptrV H.n), (7, z), (18, .bool false)]) ∧ pgetS ⟨keysS q n, q, none, none, 0, 2⟩ l r = 0)))
          (e0 := [(1, .int .i64 l), (2, .int .i64 r), (3, ptrV H.n), (7, .int .i64 0)]) (H0 := H.push B) ⟨rfl, rfl, fun i hi => by omega⟩ (by omega)
          (fun j e H' hj ⟨he, hH, hno⟩ => by
            subst he hH
            have hlt : (j : Int) < n := by omega
            have u1 := hu16 j
            have u2 := hu18 j
            have b1 := b2 (16 + 6 * (j : Int))
            have b3 := b2 (18 + 6 * (j : Int))
            by_cases c1 : gU b (16 + 6 * (j : Int)) 2 = l
            · by_cases c2 : gU b (18 + 6 * (j : Int)) 2 = r
              · obtain ⟨x1, y1, k1, k2, _, _⟩ := key_two hr hlt
                rw [show (16 + 6 * (j : Int) + 2) = 18 + 6 * j by omega] at k2
                have g1 := gU_some k1
                have g2 := gU_some k2
                have n1 := uS_two hb k1
                have n2 := uS_two hb k2
                rw [g1] at c1
                rw [g2] at c2
                subst c1 c2
                have hpp := list_place hr hb x1 y1 n1 n2 hup hlt g1 g2
                have hres : pgetS ⟨keysS q n, q, none, none, 0, 2⟩ x1 y1 = s16 (gU b (20 + 6 * (j : Int)) 2) := by
                  unfold pgetS
                  dsimp only
                  rw [if_neg (by omega), hpp]
                  unfold pvalS
                  dsimp only
                  rw [if_neg (by omega), val j hlt]
                rw [g1] at u1
                rw [g2] at u2
                refine .inr ⟨.ret, _, _, ?_, by simp, hx, .inl ⟨rfl, rfl⟩⟩
                rw [swashref22_Get_l1_eq, hres]
                simp -implicitDefEqProofs (disch := omega) [hget, hlt, u1, u2, hsg]
              · have c2' : (gU b (18 + 6 * (j : Int)) 2 == r) = false := by simpa using c2
                have c1' : (gU b (16 + 6 * (j : Int)) 2 == l) = true := by simpa using c1
                refine .inl ⟨_, _, ?_, rfl, rfl, fun i hi => ?_⟩
                · rw [swashref22_Get_l1_eq]
                  simp -implicitDefEqProofs (disch := omega) [hget, hlt, u1, u2, c1', c2']
                · by_cases hij : i = j
                  · subst hij; exact fun h => c2 h.2
                  · exact hno i (by omega)
            · have c1' : (gU b (16 + 6 * (j : Int)) 2 == l) = false := by simpa using c1
              refine .inl ⟨_, _, ?_, rfl, rfl, fun i hi => ?_⟩
              · rw [swashref22_Get_l1_eq]
                simp -implicitDefEqProofs (disch := omega) [hget, hlt, u1, c1']
              · by_cases hij : i = j
                · subst hij; exact fun h => c1 h.1
                · exact hno i (by omega))
          (fun e H' ⟨he, hH, hno⟩ => by
            subst he hH
            refine ⟨.exit 0, _, _, ?_, by simp, hx, .inr ⟨rfl, ⟨.int .i64 (n.toNat : Int), rfl⟩, ?_⟩⟩
            · rw [swashref22_Get_l1_eq]
              rw [show ((n.toNat : Nat) : Int) = n by omega]
              have hnl : ¬ n < n := by omega
              simp -implicitDefEqProofs (disch := omega) [hget, hnl]
            · unfold pgetS
              dsimp only
              split
              · rfl
              · rename_i hrange
                have hno2 : placeS (keysS q n) (l * 65536 + r) = none := placeS_none fun z hz e => by
                  obtain ⟨i, hi⟩ := List.getElem?_of_mem hz
                  have hil := (List.getElem?_eq_some_iff.1 hi).1
                  obtain ⟨x1, y1, k1, k2, _, k4⟩ := key_two hr (j := i) (by omega)
                  rw [show (16 + 6 * (i : Int) + 2) = 18 + 6 * i by omega] at k2
                  have n1 := uS_two hb k1
                  have n2 := uS_two hb k2
                  rw [hi] at k4
                  injection k4 with k4
                  refine hno i (by omega) ?_
                  rw [gU_some k1, gU_some k2]
                  omega
                rw [hno2])
        rw [hB] at hr1
        rcases hres with ⟨rfl, rfl⟩ | ⟨rfl, ⟨z, rfl⟩, hz⟩
        · refine nrm_gc ⟨H1, ?_, hx1⟩ (.int _ _)
          simp -implicitDefEqProofs (disch := omega) [swashref22_Get, hr1, swashref22_Get_l1k_r]
        · rw [hz]
          refine nrm_gc ⟨H1, ?_, hx1⟩ (.int _ _)
          simp -implicitDefEqProofs (disch := omega) [swashref22_Get, hr1, swashref22_Get_l1k_x0]
      · cases hpl
    · rw [hpl2] at hpl; cases hpl
  · dsimp only at hk0 e3 e4 e5 rb rl rr ro rn cb cl cr co cn
    obtain ⟨hvb, hvl, hbody⟩ := ht
    rcases hbody with ⟨f1, _⟩ | ⟨a', c', f1, f2, oa, oc, hz, hst, hp⟩
    · rw [e1] at f1; cases f1
    rw [e1] at f1
    rw [e2] at f2
    obtain rfl := Option.some.inj f1
    obtain rfl := Option.some.inj f2
    rw [e3] at hvb hvl hp
    rw [e4] at hst hp
    rw [e5] at hz hp
    have hget : (H.push B).get H.n = some ⟨rtC ⟨kind, n, rsize, rstep, b, rvb, rrows, rcols⟩, 1, false⟩ := by rw [get_push_eq _ _ _ rfl, hB]
    have hk0' : (kind == 0) = false := by simpa using hk0
    have g1 := fun H' => get06_run k rrows.1 rb rrows.2 ro rn rl l H'
    have g2 := fun H' => get06_run k rcols.1 cb rcols.2 co cn cl r H'
    rw [← get_ref rr oa.1 oa.2.1] at g1
    rw [← get_ref cr oc.1 oc.2.1] at g2
    have hv : pgetS t l r = pvalS t (t.step * ((getS a.2 l).getD 0 + (getS c.2 r).getD 0)) := by unfold pgetS; rw [e1, e2]
    rw [hv]
    have b1 := mostS_bound oa.1
    have b2 := mostS_bound oc.1
    have x1 : 0 ≤ (getS a.2 l).getD 0 ∧ (getS a.2 l).getD 0 ≤ max (mostS a.2) 0 := by
      cases h : getS a.2 l with
      | none => simp; omega
      | some x => have := getS_most h; have := getS_nonneg oa.1 h; simp; omega
    have x2 : 0 ≤ (getS c.2 r).getD 0 ∧ (getS c.2 r).getD 0 ≤ max (mostS c.2) 0 := by
      cases h : getS c.2 r with
      | none => simp; omega
      | some x => have := getS_most h; have := getS_nonneg oc.1 h; simp; omega
    unfold pvalS
    rw [e3, e4, e5]
    generalize (getS a.2 l).getD 0 = u at g1 x1 ⊢
    generalize (getS c.2 r).getD 0 = v at g2 x2 ⊢
    generalize (getS a.2 l).isSome = s1 at g1
    generalize (getS c.2 r).isSome = s2 at g2
    have s0 : 0 ≤ rstep * (u + v) := Int.mul_nonneg (by omega) (by omega)
    have s2 : rstep * (u + v) ≤ 4 * 8589934592 := Int.mul_le_mul (by omega) (by omega) (by omega) (by omega)
    have hsg := fun H' => signed_run k rvb hvb (rstep * (u + v)) rsize hz hvl H'
    refine nrm_gc ⟨H.push B, ?_, hx⟩ (.int _ _)
    rw [hB] at hget ⊢
    simp -implicitDefEqProofs (disch := omega) [swashref22_Get, hk0', hget, g1, g2, hsg]
end Go.Sw
end
section
namespace Go.Sw
open Go.RowKit
theorem reads_l2 (k : Nat) (t : PTab) (rt : RTab) (ht : t.ok) (his : Is22 t rt) {H : Heap} (a5 : Value) (q : Nat) (hq : H.get q = some ⟨rtC rt, 1, false⟩) (i : Int) :
    ∃ z, loopN (swashlaw22_PairReads_l2 k (R (T k))) loopFuel [(5, a5), (7, ptabV t), (9, ptrV q), (11, .int .i64 i), (12, .int .i64 (-1))] H = .ok (.exit 2, [(5, a5), (7, ptabV t), (9, ptrV q), (11, .int .i64 i), (12, z), (84, .bool false)]) H := by
  have hget := fun l r H => pGet_run k t ht l r H
  have href := fun l r H => ref22Get_run k t rt ht his l r H
  have v := veq_rt rt
  obtain ⟨x, e', H1, hr1, rfl, ⟨z, rfl⟩, rfl⟩ := loop_up (body := swashlaw22_PairReads_l2 k (R (T k))) 13
    (fun j e H' => e = [(5, a5), (7, ptabV t), (9, ptrV q), (11, .int .i64 i), (12, .int .i64 ((j : Int) - 1))] ∧ H' = H)
    (fun x e H' => x = .exit 2 ∧ (∃ z, e = [(5, a5), (7, ptabV t), (9, ptrV q), (11, .int .i64 i), (12, z), (84, .bool false)]) ∧ H' = H)
    (e0 := [(5, a5), (7, ptabV t), (9, ptrV q), (11, .int .i64 i), (12, .int .i64 (-1))]) (H0 := H) ⟨rfl, rfl⟩ (by omega)
    (fun j e H' hj ⟨he, hH⟩ => by
      subst he hH
      have hlt : (j : Int) - 1 < 12 := by omega
      have hj1 : (j : Int) - 1 + 1 = ((j + 1 : Nat) : Int) - 1 := by omega
      refine .inl ⟨_, _, ?_, rfl, rfl⟩
      rw [swashlaw22_PairReads_l2_eq, ← hj1]
      simp -implicitDefEqProofs (disch := omega) [hlt, hget, href, hq, v, bne])
    (fun e H' ⟨he, hH⟩ => by
      subst he hH
      refine ⟨.exit 2, _, _, ?_, by simp, rfl, ⟨.int .i64 (((13 : Nat) : Int) - 1), rfl⟩, rfl⟩
      rw [swashlaw22_PairReads_l2_eq]
      simp -implicitDefEqProofs)
  exact ⟨z, hr1⟩
theorem reads_l1 (k : Nat) (t : PTab) (rt : RTab) (ht : t.ok) (his : Is22 t rt) {H : Heap} (a5 : Value) (q : Nat) (hq : H.get q = some ⟨rtC rt, 1, false⟩) :
    ∃ z, loopN (swashlaw22_PairReads_l1 k (R (T k))) loopFuel [(5, a5), (7, ptabV t), (9, ptrV q), (11, .int .i64 (-1))] H = .ok (.exit 0, [(5, a5), (7, ptabV t), (9, ptrV q), (11, z), (80, .bool false)]) H := by
  obtain ⟨x, e', H1, hr1, rfl, ⟨z, rfl⟩, rfl⟩ := loop_up (body := swashlaw22_PairReads_l1 k (R (T k))) 13
    (fun j e H' => e = [(5, a5), (7, ptabV t), (9, ptrV q), (11, .int .i64 ((j : Int) - 1))] ∧ H' = H)
    (fun x e H' => x = .exit 0 ∧ (∃ z, e = [(5, a5), (7, ptabV t), (9, ptrV q), (11, z), (80, .bool false)]) ∧ H' = H)
    (e0 := [(5, a5), (7, ptabV t), (9, ptrV q), (11, .int .i64 (-1))]) (H0 := H) ⟨rfl, rfl⟩ (by omega)
    (fun j e H' hj ⟨he, hH⟩ => by
      subst he hH
      have hlt : (j : Int) - 1 < 12 := by omega
      have hj1 : (j : Int) - 1 + 1 = ((j + 1 : Nat) : Int) - 1 := by omega
      obtain ⟨z, hz⟩ := reads_l2 k t rt ht his a5 q hq ((j : Int) - 1)
      refine .inl ⟨_, _, ?_, rfl, rfl⟩
      rw [swashlaw22_PairReads_l1_eq, ← hj1]
      simp -implicitDefEqProofs (disch := omega) [hlt, hz, swashlaw22_PairReads_l2k_x2])
    (fun e H' ⟨he, hH⟩ => by
      subst he hH
      refine ⟨.exit 0, _, _, ?_, by simp, rfl, ⟨.int .i64 (((13 : Nat) : Int) - 1), rfl⟩, rfl⟩
      rw [swashlaw22_PairReads_l1_eq]
      simp -implicitDefEqProofs)
  exact ⟨z, hr1⟩
theorem badP_iff {kind g : Int} : badP kind g = true ↔ ¬ ((kind = 0 ∨ kind = 2 ∨ kind = 6) ∧ 1 ≤ g ∧ g ≤ 65535) := by
  unfold badP
  simp
  omega
set_option maxHeartbeats 1000000 in
theorem PairReads_run (b : List Int) (hb : Byt b) (kind g x y : Int) : R (T F.swashlaw22_speaks) F.swashlaw22_PairReads [lv encB b, .agg #[.int .i64 kind, .int .i64 g], .agg #[.int .i64 x, .int .i64 y]] Heap.empty = .ok (.bool true) Heap.empty := by
  generalize hk : F.swashlaw22_speaks = k
  have hs := speaks22_run k (by subst hk; rfl)
  clear hk
  rw [swashlaw22_PairReads_R]
  generalize Heap.empty = H
  have hx2 : Ext H ((H.push ⟨[.int .i64 kind, .int .i64 g], 1, false⟩).push ⟨[.int .i64 x, .int .i64 y], 1, false⟩) := ((Ext.refl H).push _).push _
  by_cases hl : b.length > 600
  · have hl' : (b.length : Int) > 600 := by omega
    refine nrm_gc ⟨_, ?_, hx2⟩ (.bool _)
    simp -implicitDefEqProofs (disch := omega) [swashlaw22_PairReads, hs, hl']
  have hl' : ¬ (b.length : Int) > 600 := by omega
  have i0 : ∀ (q : Nat) H', ixA 2 1 (.pointer (some ⟨q, 0, none⟩)) (.int .i64 0) H' = .ok (.pointer (some ⟨q, 0, none⟩)) H' := fun q H' => rfl
  have i1 : ∀ (q : Nat) H', ixA 2 1 (.pointer (some ⟨q, 0, none⟩)) (.int .i64 1) H' = .ok (.pointer (some ⟨q, 1, none⟩)) H' := fun q H' => rfl
  have hrd := fun H' => pRead_run k kind (H := H') (Sl.lv H' 1 b) hb g (by omega)
  cases hbad : badP kind g with
  | true =>
    have hO : pairO kind b g = none := by unfold pairO; rw [hbad]; rfl
    have hN : pairN kind b g = 1 := by unfold pairN; rw [hbad]; rfl
    rw [hO, hN] at hrd
    have hc := badP_iff.1 hbad
    refine nrm_gc ⟨_, ?_, hx2⟩ (.bool _)
    by_cases c1 : g < 1
    · simp -implicitDefEqProofs (disch := omega) [swashlaw22_PairReads, hs, hl', i0, i1, hrd, pV, c1]
    by_cases c2 : g > 65535
    · simp -implicitDefEqProofs (disch := omega) [swashlaw22_PairReads, hs, hl', i0, i1, hrd, pV, c1, c2]
    have k0 : (kind == 0) = false := by simp; omega
    have k2 : (kind == 2) = false := by simp; omega
    have k6 : (kind == 6) = false := by simp; omega
    simp -implicitDefEqProofs (disch := omega) [swashlaw22_PairReads, hs, hl', i0, i1, hrd, pV, c1, c2, k0, k2, k6, bne]
  | false =>
    have hc : (kind = 0 ∨ kind = 2 ∨ kind = 6) ∧ 1 ≤ g ∧ g ≤ 65535 := by
      have := mt badP_iff.2 (by rw [hbad]; simp)
      omega
    obtain ⟨rt, hr, his⟩ := ref22Read_run k kind hc.1 b hb g hc.2 (by omega) ((H.push ⟨[.int .i64 kind, .int .i64 g], 1, false⟩).push ⟨[.int .i64 x, .int .i64 y], 1, false⟩)
    have hO : pairO kind b g = pTakeS kind b g := by unfold pairO; rw [hbad]; rfl
    have hN : pairN kind b g = if (pTakeS kind b g).isSome then 0 else 2 := by unfold pairN; rw [hbad]; rfl
    rw [hO, hN] at hrd
    have c1 : ¬ g < 1 := by omega
    have c2 : ¬ g > 65535 := by omega
    have hx3 := hx2.push ⟨rtC rt, 1, false⟩
    cases h : pTakeS kind b g with
    | none =>
      rw [h] at hrd hr
      simp only [Option.isSome_none, Bool.false_eq_true, if_false] at hrd hr
      refine nrm_gc ⟨_, ?_, hx3⟩ (.bool _)
      rcases hc.1 with rfl | rfl | rfl <;> simp -implicitDefEqProofs (disch := omega) [swashlaw22_PairReads, hs, hl', i0, i1, hrd, pV, c1, c2, bne, hr]
    | some t =>
      rw [h] at hrd hr
      simp only [Option.isSome_some, if_true] at hrd hr
      have htok := pTakeS_ok hb (by omega) hc.2 h
      have hist := his t h
      have hget := fun l r H => pGet_run k t htok l r H
      have href := fun l r H => ref22Get_run k t rt htok hist l r H
      have v := veq_rt rt
      obtain ⟨z, hz⟩ := reads_l1 k t rt htok hist (H := ((H.push ⟨[.int .i64 kind, .int .i64 g], 1, false⟩).push ⟨[.int .i64 x, .int .i64 y], 1, false⟩).push ⟨rtC rt, 1, false⟩) (ptrV (H.n + 1)) (H.n + 2) (by simp)
      refine nrm_gc ⟨_, ?_, hx3⟩ (.bool _)
      rcases hc.1 with rfl | rfl | rfl <;> simp -implicitDefEqProofs (disch := omega) [swashlaw22_PairReads, hs, hl', i0, i1, hrd, pV, c1, c2, bne, hr, hz, swashlaw22_PairReads_l1k_x0, hget, href, v]
theorem PairReads_args (vs : List Value) (h : ArgsLay [.one (.slice [.int .u8]), .agg [.int .i64, .int .i64], .agg [.int .i64, .int .i64]] vs) : ∃ H', R (T F.swashlaw22_speaks) F.swashlaw22_PairReads vs Heap.empty = .ok (.bool true) H' := by
  obtain ⟨v1, _, rfl, h1, h⟩ := h.head
  obtain ⟨v2, _, rfl, h2, h⟩ := h.head
  obtain ⟨v3, _, rfl, h3, h⟩ := h.head
  obtain rfl := h.done
  obtain ⟨b, rfl, hb⟩ := arg_B h1
  obtain ⟨a, c, rfl, _, _⟩ := arg_ii h2
  obtain ⟨x, y, rfl, _, _⟩ := arg_ii h3
  exact ⟨_, PairReads_run b hb a c x y⟩
end Go.Sw
end
section
namespace Go.Sw
open Go.RowKit
abbrev encH (n : Int) : List Value := [.int .i16 n]
theorem encH_len (n : Int) : (encH n).length = 1 := rfl
structure Grid where
  rows : List Int
  cols : List Int
  vals : List Int
abbrev gridC (g : Grid) : List Value := [lv encB g.rows, lv encB g.cols, lv encH g.vals]
abbrev gridV (g : Grid) : Value := .agg (gridC g).toArray
def Grid.ok (g : Grid) : Prop := Byt g.rows ∧ Byt g.cols ∧ ∀ x, x ∈ g.vals → -32768 ≤ x ∧ x < 32768
def nums (z : Nat) (l : List Int) : List Int := (l.map fun c => bytesOf c z).flatten
theorem nums_len (z : Nat) (l : List Int) : (nums z l).length = l.length * z := flat_len (z := z) (fun r hr => by obtain ⟨p, _, rfl⟩ := List.mem_map.1 hr; simp) |>.trans (by simp)
theorem nums_snoc (z : Nat) (l : List Int) (x : Int) : nums z (l ++ [x]) = nums z l ++ bytesOf x z := by simp [nums]
theorem nums_byt (z : Nat) (l : List Int) : Byt (nums z l) := Byt.flat fun r hr => by obtain ⟨p, _, rfl⟩ := List.mem_map.1 hr; exact bytesOf_byt _ _
def of8 (z : Nat) (l : List Int) : List Int := (bytesOf 8 2 ++ bytesOf 0 2 ++ bytesOf l.length 2) ++ nums z l
theorem of8_len (z : Nat) (l : List Int) : (of8 z l).length = 6 + l.length * z := by unfold of8; simp [nums_len]; omega
theorem of8_byt (z : Nat) (l : List Int) : Byt (of8 z l) := (((bytesOf_byt _ _).app (bytesOf_byt _ _)).app (bytesOf_byt _ _)).app (nums_byt _ _)
abbrev times (m : Int) (l : List Int) : List Int := l.map fun x => x * m
theorem of_run (k : Nat) (l : List Int) (hl : Byt l) (hn : l.length ≤ 1000) (z : Nat) (hz : z = 2 ∨ z = 4) (m : Int) (hm : m = 1 ∨ m = 2) (H : Heap) :
    R (T k) F.swashlaw22_of [lv encB l, .int .i64 z, .int .i64 m] H = .ok (lv encB (of8 z (times m l))) H := by
  rw [swashlaw22_of_R]
  have g := (Star.nil H).more_row (Ext.refl _) (OwnO.nil encB _ 1) (fun b hb => by cases hb)
  simp only [List.nil_append] at g
  obtain ⟨s1, o1, H1, e1, g⟩ := Put_star k g 0 rfl 8 2 2 rfl (by omega) (by omega) (by omega) (by simp)
  simp only [List.set_cons_zero, List.set_cons_succ] at g
  obtain ⟨s2, o2, H2, e2, g⟩ := Put_star k g 0 rfl 0 2 2 rfl (by omega) (by omega) (by omega) (by simp)
  simp only [List.set_cons_zero, List.set_cons_succ] at g
  obtain ⟨s3, o3, H3, e3, g⟩ := Put_star k g 0 rfl l.length 2 2 rfl (by omega) (by omega) (by omega) (by simp)
  simp only [List.set_cons_zero, List.set_cons_succ, List.nil_append] at g
  obtain ⟨x, e', H4, hr4, rfl, z4, s4, o4, rfl, g⟩ := loop_up (body := swashlaw22_of_l1 k (R (T k))) l.length
    (fun j e H' => ∃ s o, e = [(1, .int .i64 z), (2, .int .i64 m), (7, s), (15, lv encB l), (16, .int .i64 l.length), (17, .int .i64 j)] ∧ Star H H' [itRow o 1 s encB ((bytesOf 8 2 ++ bytesOf 0 2 ++ bytesOf l.length 2) ++ nums z (times m (l.take j)))])
    (fun x e H' => x = .exit 0 ∧ ∃ z' s o, e = [(1, .int .i64 z), (2, .int .i64 m), (7, s), (15, lv encB l), (16, .int .i64 l.length), (17, z'), (18, .bool false)] ∧ Star H H' [itRow o 1 s encB ((bytesOf 8 2 ++ bytesOf 0 2 ++ bytesOf l.length 2) ++ nums z (times m l))])
    (e0 := [(1, .int .i64 z), (2, .int .i64 m), (7, s3), (15, lv encB l), (16, .int .i64 l.length), (17, .int .i64 0)]) (H0 := H3) ⟨s3, o3, rfl, by simpa [nums] using g⟩ (by omega)
    (fun j e H' hj ⟨s, o, he, g⟩ => by
      subst he
      have hlt : (j : Int) < l.length := by omega
      obtain ⟨c, hc⟩ : ∃ c, l[j]? = some c := ⟨_, List.getElem?_eq_getElem hj⟩
      have i1 := fun H' => ixS_lvN encB_len l .i64 j c hc H'
      have hcb := hl c (List.mem_of_getElem? hc)
      have h0 : 0 ≤ c * m := by rcases hm with rfl | rfl <;> omega
      have h1 : c * m < 2 ^ 20 := by rcases hm with rfl | rfl <;> omega
      have hzn : (times m (l.take j)).length * z ≤ 1000 * 4 := Nat.mul_le_mul (by simp; omega) (by omega)
      obtain ⟨s', o', H2, e2, g2⟩ := Put_star k g 0 rfl (c * m) z z rfl h0 (by omega) (by omega) (by simp only [List.length_append, bytesOf_len, nums_len]; omega)
      simp only [List.set_cons_zero, List.set_cons_succ] at g2
      have ht : times m (l.take (j + 1)) = times m (l.take j) ++ [c * m] := by rw [take_snoc hc]; simp
      refine .inl ⟨_, H2, ?_, s', o', rfl, by rw [ht, nums_snoc, ← List.append_assoc]; exact g2⟩
      rw [swashlaw22_of_l1_eq]
      simp -implicitDefEqProofs (disch := omega) [hlt, i1, e2])
    (fun e H' ⟨s, o, he, g⟩ => by
      subst he
      rw [List.take_length] at g
      refine ⟨.exit 0, _, H', ?_, by simp, rfl, .int .i64 l.length, s, o, rfl, g⟩
      rw [swashlaw22_of_l1_eq]
      simp -implicitDefEqProofs)
  have hof : of8 z (times m l) = (bytesOf 8 2 ++ bytesOf 0 2 ++ bytesOf l.length 2) ++ nums z (times m l) := by unfold of8; simp
  rw [hof]
  obtain ⟨L, hf⟩ := (g.own 0 rfl).freeze encB_len (fun n _ v hv => by simp at hv; subst hv; trivial) 6
  refine nrm_fz (v := s4) (H' := H4) ?_ hf g.ext (Flat.B _).alive
  simp -implicitDefEqProofs (disch := omega) [swashlaw22_of, e1, e2, e3, hr4, swashlaw22_of_l1k_x0]
structure Form where
  pre : List Int
  head : Int
  z : Nat
  m : Int
def formOf (n : Int) : Form := if n = 0 then ⟨[0, 0, 0, 0], 16, 2, 2⟩ else if n = 1 then ⟨[0, 0, 0, 0, 0, 0, 0, 0], 20, 2, 1⟩ else ⟨[0, 0, 0, 1, 0, 0, 0, 0], 20, 4, 1⟩
def mz (z : Nat) (x : Int) : Int := if z = 4 then x % 4294967296 else x % 65536
def gridB (g : Grid) (f : Form) : List Int :=
  f.pre ++ bytesOf f.head 4 ++ bytesOf (f.head + (of8 f.z (times f.m g.rows)).length) 4 ++ bytesOf (f.head + (of8 f.z (times f.m g.rows)).length + (of8 f.z (times f.m g.cols)).length) 4 ++
    of8 f.z (times f.m g.rows) ++ of8 f.z (times f.m g.cols) ++ nums f.z (g.vals.map (mz f.z))
theorem wrap_m32 (n : Int) : IntKind.u32.wrap n = n % 4294967296 := by
  unfold IntKind.wrap
  simp [IntKind.signed, IntKind.bits]
theorem mz_bound (z : Nat) (x : Int) : 0 ≤ mz z x ∧ mz z x < 4294967296 := by unfold mz; split <;> omega
set_option maxHeartbeats 2000000 in
/-- The grid's end, behind the bytes ahead. -/
theorem grid_j1 (k : Nat) (g : Grid) (hg : g.ok) (h1 : g.rows.length ≤ 1000) (h2 : g.cols.length ≤ 1000) (h3 : g.vals.length ≤ 1000) (f : Form) (hz : f.z = 2 ∨ f.z = 4) (hm : f.m = 1 ∨ f.m = 2) (hh : f.head = 16 ∨ f.head = 20) (hp : f.pre.length ≤ 100)
    {H0 H : Heap} {q : Nat} (hq : H.get q = some ⟨gridC g, 1, false⟩) {s0 : Value} {o0 : Option Nat} (st : Star H0 H [itBlk q ⟨gridC g, 1, false⟩, itRow o0 1 s0 encB f.pre]) :
    ∃ s o H', swashlaw22_WriteGrid_j1 k (R (T k)) (ptrV q) (.int .i64 f.head) (.int .i64 f.z) (.int .i64 f.m) s0 H = .ok s H' ∧ Star H0 H' [itBlk q ⟨gridC g, 1, false⟩, itRow o 1 s encB (gridB g f)] := by
  obtain ⟨rows, cols, vals⟩ := g
  obtain ⟨pre, head, z, m⟩ := f
  dsimp only at h1 h2 h3 hz hm hh hp st hq ⊢
  have of1 := fun H' => of_run k rows hg.1 h1 z hz m hm H'
  have of2 := fun H' => of_run k cols hg.2.1 h2 z hz m hm H'
  have lr := of8_len z (times m rows)
  have lc := of8_len z (times m cols)
  have hr4 : (times m rows).length * z ≤ 1000 * 4 := Nat.mul_le_mul (by simpa using h1) (by omega)
  have hc4 : (times m cols).length * z ≤ 1000 * 4 := Nat.mul_le_mul (by simpa using h2) (by omega)
  unfold gridB
  dsimp only
  generalize of8 z (times m rows) = rb at of1 lr ⊢
  generalize of8 z (times m cols) = cb at of2 lc ⊢
  obtain ⟨s1, o1, H1, e1, st⟩ := Put_star k st 1 rfl head 4 4 rfl (by omega) (by omega) (by omega) (by simp; omega)
  simp only [List.set_cons_zero, List.set_cons_succ] at st
  obtain ⟨s2, o2, H2, e2, st⟩ := Put_star k st 1 rfl (head + rb.length) 4 4 rfl (by omega) (by omega) (by omega) (by simp; omega)
  simp only [List.set_cons_zero, List.set_cons_succ] at st
  obtain ⟨s3, o3, H3, e3, st⟩ := Put_star k st 1 rfl (head + rb.length + cb.length) 4 4 rfl (by omega) (by omega) (by omega) (by simp; omega)
  simp only [List.set_cons_zero, List.set_cons_succ] at st
  obtain ⟨s4, o4, H4, e4, st⟩ := st.append (bytes := 1) 1 encB_len rfl (b := lv encB rb) (l2 := rb) rfl (by have := lv_first encB_len rb H3; exact this) (by simp; omega) (by decide)
  simp only [List.set_cons_zero, List.set_cons_succ] at st
  obtain ⟨s5, o5, H5, e5, st⟩ := st.append (bytes := 1) 1 encB_len rfl (b := lv encB cb) (l2 := cb) rfl (by have := lv_first encB_len cb H4; exact this) (by simp; omega) (by decide)
  simp only [List.set_cons_zero, List.set_cons_succ] at st
  have g5 := st.get 0 rfl
  obtain ⟨B, hB⟩ : ∃ B : Blk, B = ⟨[lv encB rows, lv encB cols, lv encH vals], 1, false⟩ := ⟨_, rfl⟩
  obtain ⟨x, e', H6, hr6, rfl, z6, s6, o6, rfl, st⟩ := loop_up (body := swashlaw22_WriteGrid_l1 k (R (T k))) vals.length
    (fun j e H' => ∃ s o, e = [(6, .int .i64 z), (8, s), (56, lv encH vals), (57, .int .i64 vals.length), (58, .int .i64 j)] ∧ Star H0 H' [itBlk q ⟨[lv encB rows, lv encB cols, lv encH vals], 1, false⟩, itRow o 1 s encB (pre ++ bytesOf head 4 ++ bytesOf (head + rb.length) 4 ++ bytesOf (head + rb.length + cb.length) 4 ++ rb ++ cb ++ nums z ((vals.take j).map (mz z)))])
    (fun x e H' => x = .exit 1 ∧ ∃ z' s o, e = [(6, .int .i64 z), (8, s), (56, lv encH vals), (57, .int .i64 vals.length), (58, z'), (59, .bool false)] ∧ Star H0 H' [itBlk q ⟨[lv encB rows, lv encB cols, lv encH vals], 1, false⟩, itRow o 1 s encB (pre ++ bytesOf head 4 ++ bytesOf (head + rb.length) 4 ++ bytesOf (head + rb.length + cb.length) 4 ++ rb ++ cb ++ nums z (vals.map (mz z)))])
    (e0 := [(6, .int .i64 z), (8, s5), (56, lv encH vals), (57, .int .i64 vals.length), (58, .int .i64 0)]) (H0 := H5) ⟨s5, o5, rfl, by simpa [nums] using st⟩ (by omega)
    (fun j e H' hj ⟨s, o, he, st⟩ => by
      subst he
      have hlt : (j : Int) < vals.length := by omega
      obtain ⟨c, hc⟩ : ∃ c, vals[j]? = some c := ⟨_, List.getElem?_eq_getElem hj⟩
      have i1 := fun H' => ixS_lvN encH_len vals .i64 j c hc H'
      have hcb := hg.2.2 c (List.mem_of_getElem? hc)
      have hb := mz_bound z c
      have hzn : ((vals.take j).map (mz z)).length * z ≤ 1000 * 4 := Nat.mul_le_mul (by simp; omega) (by omega)
      obtain ⟨s', o', H2, e2, g2⟩ := Put_star k st 1 rfl (mz z c) z z rfl hb.1 (by omega) (by omega) (by simp only [List.length_append, bytesOf_len, nums_len]; omega)
      simp only [List.set_cons_zero, List.set_cons_succ] at g2
      have ht : (vals.take (j + 1)).map (mz z) = (vals.take j).map (mz z) ++ [mz z c] := by rw [take_snoc hc]; simp
      refine .inl ⟨_, H2, ?_, s', o', rfl, by rw [ht, nums_snoc, ← List.append_assoc]; exact g2⟩
      rw [swashlaw22_WriteGrid_l1_eq]
      have w16 := wrap_m16 c
      have w32 := wrap_m32 c
      rcases hz with rfl | rfl
      · have hmz : mz 2 c = m16 c := rfl
        rw [hmz] at e2
        have mb := m16_bound c
        simp at e2
        simp -implicitDefEqProofs (disch := omega) [hlt, i1, w16, e2, swashlaw22_WriteGrid_j3_eq]
      · have hmz : mz 4 c = c % 4294967296 := rfl
        rw [hmz] at e2
        have mb := m16_bound c
        simp at e2
        simp -implicitDefEqProofs (disch := omega) [hlt, i1, w16, w32, e2, swashlaw22_WriteGrid_j2_eq])
    (fun e H' ⟨s, o, he, st⟩ => by
      subst he
      rw [List.take_length] at st
      refine ⟨.exit 1, _, H', ?_, by simp, rfl, .int .i64 vals.length, s, o, rfl, st⟩
      rw [swashlaw22_WriteGrid_l1_eq]
      simp -implicitDefEqProofs)
  refine ⟨s6, o6, H6, ?_, st⟩
  rw [swashlaw22_WriteGrid_j1_eq]
  have vb := veq_B rows
  have vc := veq_B cols
  simp -implicitDefEqProofs (disch := omega) [hq, of1, of2, vb, vc, e1, e2, e3, e4, e5, g5, hr6, swashlaw22_WriteGrid_l1k_x1]
set_option maxHeartbeats 1000000 in
theorem grid_core (k : Nat) (g : Grid) (hg : g.ok) (h1 : g.rows.length ≤ 1000) (h2 : g.cols.length ≤ 1000) (h3 : g.vals.length ≤ 1000) (n : Int) {H0 H : Heap} {L : List It} (st0 : Star H0 H L) :
    ∃ s o H', swashlaw22_WriteGrid k (R (T k)) (gridV g) (.int .i64 n) H = .ok s H' ∧ Star H H' [itBlk H.n ⟨gridC g, 1, false⟩, itRow o 1 s encB (gridB g (formOf n))] := by
  have st := (Star.nil H).push ⟨gridC g, 1, false⟩
  simp only [List.nil_append] at st
  have hq : ∀ k, ((H.push ⟨gridC g, 1, false⟩).push k).get H.n = some ⟨gridC g, 1, false⟩ := fun k => by simp
  unfold formOf
  by_cases c0 : n = 0
  · rw [if_pos c0]
    have st1 := st.more_row (enc := encB) (m := 1) (o := some (H.n + 1)) (s := .slice (some ⟨H.n + 1, 0, none⟩) 4 4) (l := [0, 0, 0, 0]) (H' := (H.push ⟨gridC g, 1, false⟩).push ⟨repeatCells [.int .u8 0] 4, 1, false⟩) ((Ext.refl _).push _) (.inr ⟨_, rfl, rfl, by rw [get_push_eq _ _ _ (by simp)]; rfl⟩) (fun b hb => by injection hb with hb; subst hb; simp)
    simp only [List.cons_append, List.nil_append] at st1
    obtain ⟨s, o, H', e, st2⟩ := grid_j1 k g hg h1 h2 h3 ⟨[0, 0, 0, 0], 16, 2, 2⟩ (by simp) (by simp) (by simp) (by simp) (hq _) st1
    refine ⟨s, o, H', ?_, st2⟩
    subst c0
    have mk := fun H' => mkR_nat 1 1 [.int .u8 0] .i64 .i64 4 H' (by omega) (by omega)
    dsimp only at e
    simp at e mk
    simp -implicitDefEqProofs (disch := omega) [swashlaw22_WriteGrid, mk, e]
  rw [if_neg c0]
  by_cases c1 : n = 1
  · rw [if_pos c1]
    have st1 := st.more_row (enc := encB) (m := 1) (o := some (H.n + 1)) (s := .slice (some ⟨H.n + 1, 0, none⟩) 8 8) (l := [0, 0, 0, 0, 0, 0, 0, 0]) (H' := (H.push ⟨gridC g, 1, false⟩).push ⟨repeatCells [.int .u8 0] 8, 1, false⟩) ((Ext.refl _).push _) (.inr ⟨_, rfl, rfl, by rw [get_push_eq _ _ _ (by simp)]; rfl⟩) (fun b hb => by injection hb with hb; subst hb; simp)
    simp only [List.cons_append, List.nil_append] at st1
    obtain ⟨s, o, H', e, st2⟩ := grid_j1 k g hg h1 h2 h3 ⟨[0, 0, 0, 0, 0, 0, 0, 0], 20, 2, 1⟩ (by simp) (by simp) (by simp) (by simp) (hq _) st1
    refine ⟨s, o, H', ?_, st2⟩
    subst c1
    have mk := fun H' => mkR_nat 1 1 [.int .u8 0] .i64 .i64 8 H' (by omega) (by omega)
    dsimp only at e
    simp at e mk
    simp -implicitDefEqProofs (disch := omega) [swashlaw22_WriteGrid, mk, e]
  rw [if_neg c1]
  have c0' : (n == 0) = false := by simpa using c0
  have c1' : (n == 1) = false := by simpa using c1
  have st1 := st.more_row (enc := encB) (m := 1) (o := some (H.n + 1)) (s := .slice (some ⟨H.n + 1, 0, none⟩) 4 4) (l := [0, 0, 0, 1]) (H' := (H.push ⟨gridC g, 1, false⟩).push ⟨[.int .u8 0, .int .u8 0, .int .u8 0, .int .u8 1], 1, false⟩) ((Ext.refl _).push _) (.inr ⟨_, rfl, rfl, by rw [get_push_eq _ _ _ (by simp)]; rfl⟩) (fun b hb => by injection hb with hb; subst hb; simp)
  simp only [List.cons_append, List.nil_append] at st1
  have st2 := st1.more_row (enc := encB) (m := 1) (o := some (H.n + 2)) (s := .slice (some ⟨H.n + 2, 0, none⟩) 4 4) (l := [0, 0, 0, 0]) (H' := ((H.push ⟨gridC g, 1, false⟩).push ⟨[.int .u8 0, .int .u8 0, .int .u8 0, .int .u8 1], 1, false⟩).push ⟨[.int .u8 0, .int .u8 0, .int .u8 0, .int .u8 0], 1, false⟩) ((Ext.refl _).push _) (.inr ⟨_, rfl, rfl, by rw [get_push_eq _ _ _ (by simp)]; rfl⟩) (fun b hb => by injection hb with hb; subst hb; simp)
  simp only [List.cons_append, List.nil_append] at st2
  obtain ⟨s1, o1, H1, e1, st3⟩ := st2.appendRow (bytes := 1) 1 2 encB_len rfl rfl (by simp) (by decide)
  simp only [List.set_cons_zero, List.set_cons_succ] at st3
  have st3 := st3.take 2
  simp only [List.take_succ_cons, List.take_zero, List.cons_append, List.nil_append] at st3
  obtain ⟨s, o, H', e, st4⟩ := grid_j1 k g hg h1 h2 h3 ⟨[0, 0, 0, 1, 0, 0, 0, 0], 20, 4, 1⟩ (by simp) (by simp) (by simp) (by simp) (st3.get 0 rfl) st3
  refine ⟨s, o, H', ?_, st4⟩
  dsimp only at e
  simp at e
  simp -implicitDefEqProofs (disch := omega) [swashlaw22_WriteGrid, c0', c1', e1, e]
end Go.Sw
end
section
namespace Go.Sw
open Go.RowKit
theorem WriteGrid_run (k : Nat) (hk : k < 1000000) (g : Grid) (hg : g.ok) (h1 : g.rows.length ≤ 1000) (h2 : g.cols.length ≤ 1000) (h3 : g.vals.length ≤ 1000) (n : Int) (H : Heap) :
    R (T k) F.swashlaw22_WriteGrid [gridV g, .int .i64 n] H = .ok (lv encB (gridB g (formOf n))) H := by
  have ho : own k = .fz := by unfold own; rw [show Nat.blt k 1000000 = true from Nat.ble_eq_true_of_le hk]; rfl
  rw [swashlaw22_WriteGrid_R, ho]
  obtain ⟨s, o, H', e, st⟩ := grid_core k g hg h1 h2 h3 n (Star.nil H)
  obtain ⟨L, hf⟩ := (st.own 1 rfl).freeze encB_len (fun n _ v hv => by simp at hv; subst hv; trivial) 6
  exact nrm_fz e hf st.ext (Flat.B _).alive
theorem nums_get {z : Nat} (hz : z = 2 ∨ z = 4) (l : List Int) (pre rest : List Int) (i : Nat) (x : Int) (hx : l[i]? = some x) (hb : 0 ≤ x ∧ x < 256 ^ z) (p : Int) (hp : p = pre.length + z * i) : uS (pre ++ (nums z l ++ rest)) p z = some x := by
  have hi := (List.getElem?_eq_some_iff.1 hx).1
  have e : l = l.take i ++ x :: l.drop (i + 1) := by
    have h1 := List.take_append_drop i l
    have h2 : l.drop i = x :: l.drop (i + 1) := by
      rw [List.drop_eq_getElem_cons hi]
      have := (List.getElem?_eq_some_iff.1 hx).2
      rw [this]
    rw [h2] at h1
    exact h1.symm
  have e2 : pre ++ (nums z l ++ rest) = (pre ++ nums z (l.take i)) ++ (bytesOf x z ++ (nums z (l.drop (i + 1)) ++ rest)) := by
    conv => lhs; rw [e]
    simp [nums]
  rw [e2]
  refine uS_at _ _ p z ?_ rfl hb.1 hb.2
  rw [hp, List.length_append, nums_len, List.length_take, Nat.min_eq_left (by omega)]
  rcases hz with rfl | rfl <;> omega
theorem nums_list {z : Nat} (hz : z = 2 ∨ z = 4) (l : List Int) (pre rest : List Int) (hb : ∀ x, x ∈ l → 0 ≤ x ∧ x < 256 ^ z) (i : Int) (hi : i = pre.length) : listS (pre ++ (nums z l ++ rest)) i l.length z = some l := by
  have hs : (listS (pre ++ (nums z l ++ rest)) i l.length z).isSome = true := by
    rw [listS_isSome (by omega), rowsB_iff (by omega)]
    simp [nums_len]
    rcases hz with rfl | rfl <;> omega
  obtain ⟨vs, hv⟩ := Option.isSome_iff_exists.1 hs
  rw [hv]
  congr 1
  have hlen : vs.length = l.length := by
    unfold listS at hv
    obtain ⟨r, _, rfl⟩ := Option.map_eq_some_iff.1 hv
    simp
  apply List.ext_getElem?
  intro j
  by_cases hj : j < l.length
  · obtain ⟨x, hx⟩ : ∃ x, l[j]? = some x := ⟨_, List.getElem?_eq_getElem hj⟩
    rw [listS_get (by omega) hv j (by omega), hx]
    exact nums_get hz l pre rest j x hx (hb x (List.mem_of_getElem? hx)) _ (by rw [hi, Int.mul_comm])
  · rw [List.getElem?_eq_none (by omega), List.getElem?_eq_none (by omega)]
theorem look_of8 {z : Nat} (hz : z = 2 ∨ z = 4) (cls : List Int) (hb : ∀ x, x ∈ cls → 0 ≤ x ∧ x < 65536) (hl : cls.length ≤ 65535) (rest : List Int) (g : Int) : lookS (of8 z cls ++ rest) g z = some (tabOf cls) := by
  have hb' : ∀ x, x ∈ cls → 0 ≤ x ∧ x < 256 ^ z := fun x hx => by have := hb x hx; rcases hz with rfl | rfl <;> exact ⟨by omega, by omega⟩
  have h0 : uS (of8 z cls ++ rest) 0 2 = some 8 := by
    have := uS_at [] (bytesOf 0 2 ++ (bytesOf cls.length 2 ++ (nums z cls ++ rest))) (n := 8) (k := 2) 0 2 rfl rfl (by omega) (by decide)
    simpa [of8, List.append_assoc] using this
  have h2 : uS (of8 z cls ++ rest) 2 2 = some 0 := by
    have := uS_at (bytesOf 8 2) (bytesOf cls.length 2 ++ (nums z cls ++ rest)) (n := 0) (k := 2) 2 2 (by simp) rfl (by omega) (by decide)
    simpa [of8, List.append_assoc] using this
  have h4 : uS (of8 z cls ++ rest) (2 + 2) 2 = some (cls.length : Int) := by
    have := uS_at (bytesOf 8 2 ++ bytesOf 0 2) (nums z cls ++ rest) (n := cls.length) (k := 2) (2 + 2) 2 (by simp) rfl (by omega) (by simp; omega)
    simpa [of8, List.append_assoc] using this
  have h6 : listS (of8 z cls ++ rest) (2 + 4) cls.length z = some cls := by
    have := nums_list hz cls (bytesOf 8 2 ++ bytesOf 0 2 ++ bytesOf cls.length 2) rest hb' (2 + 4) (by simp)
    simpa [of8, List.append_assoc] using this
  unfold lookS partsS
  rw [h0, Option.bind_some]
  simp only [show ¬ ((8 : Int) = 0) by decide, show ¬ ((8 : Int) = 2) by decide, show ¬ ((8 : Int) = 4) by decide, show ¬ ((8 : Int) = 6) by decide, if_false, if_true]
  unfold trimS
  rw [h2, Option.bind_some, h4, Option.bind_some, if_pos (by omega), h6, Option.map_some, Option.bind_some]
  unfold tabOf
  by_cases hc : cls = []
  · subst hc; rfl
  · rw [if_neg hc, if_neg (show ¬ ((cls.length : Int) = 0) by have := List.length_pos_iff.2 hc; omega)]
    simp [risesS]
theorem tabOf_most (cls : List Int) : max (mostS (tabOf cls).2) 0 = cls.foldl max 0 := by
  rw [← bestS_most]
  unfold tabOf
  dsimp only
  split
  · rename_i h; subst h; rfl
  · rfl
theorem times_most {m : Int} (hm : 0 ≤ m) : ∀ (l : List Int) (c : Int), (times m l).foldl max (c * m) = l.foldl max c * m
  | [], c => rfl
  | x :: l, c => by
    simp only [List.map_cons, List.foldl_cons]
    have : max (c * m) (x * m) = max c x * m := by
      by_cases h : c ≤ x
      · have := Int.mul_le_mul_of_nonneg_right h hm
        rw [Int.max_eq_right h, Int.max_eq_right this]
      · have h : x ≤ c := by omega
        have := Int.mul_le_mul_of_nonneg_right h hm
        rw [Int.max_eq_left h, Int.max_eq_left this]
    rw [this]
    exact times_most hm l (max c x)
theorem tabOf_get (cls : List Int) (i : Nat) : (getS (tabOf cls).2 i).getD 0 = (cls[i]?).getD 0 := by
  unfold tabOf getS
  dsimp only
  split
  · rename_i h; subst h; rfl
  · rename_i h
    have hl := List.length_pos_iff.2 h
    rw [List.find?_cons]
    by_cases hi : i < cls.length
    · rw [decide_eq_true (by dsimp only; omega)]
      dsimp only
      rw [Option.bind_some, if_pos (show (0 : Int) ≤ (i : Int) by omega)]
      unfold Pt.num
      dsimp only
      rw [show (min ((i : Int) - 0) ((cls.length : Int) - 1)).toNat = i by omega]
    · rw [decide_eq_false (by dsimp only; omega), List.getElem?_eq_none (by omega)]
      rfl
theorem rest_app (pre q : List Int) (i : Int) (hi : i = pre.length) : restS (pre ++ q) i = some q := by
  subst hi
  unfold restS
  rw [if_pos ⟨by omega, by simp; omega⟩]
  simp
def mostG (l : List Int) : Int := l.foldl max 0
abbrev gridT (g : Grid) (f : Form) (step : Int) : PTab := ⟨[], nums f.z (g.vals.map (mz f.z)), some (tabOf (times f.m g.rows)), some (tabOf (times f.m g.cols)), step, f.z⟩
theorem mostG_bound {l : List Int} (hb : Byt l) : 0 ≤ mostG l ∧ mostG l < 256 := by
  have : ∀ (l : List Int) (m : Int), 0 ≤ m → m < 256 → Byt l → 0 ≤ l.foldl max m ∧ l.foldl max m < 256 := by
    intro l
    induction l with
    | nil => intro m h0 h1 _; exact ⟨h0, h1⟩
    | cons x l ih =>
      intro m h0 h1 h
      have := h x (by simp)
      exact ih (max m x) (by omega) (by omega) fun y hy => h y (by simp [hy])
  exact this l 0 (by omega) (by omega) hb
theorem grid_tab (g : Grid) (hg : g.ok) (h1 : g.rows.length ≤ 1000) (h2 : g.cols.length ≤ 1000) (f : Form) (hz : f.z = 2 ∨ f.z = 4) (hm : f.m = 1 ∨ f.m = 2) (step : Int) (hst : step * f.m = f.z) (hp : f.pre.length ≤ 100) (hh : f.head = f.pre.length + 12) (i : Int) (hi : i = f.pre.length) (gl : Int) :
    pTabS (gridB g f) i gl f.z step = if mostG g.rows + mostG g.cols < g.vals.length then some (gridT g f step) else none := by
  obtain ⟨rows, cols, vals⟩ := g
  obtain ⟨pre, head, z, m⟩ := f
  dsimp only at h1 h2 hz hm hst hp hh hi ⊢
  have tb : ∀ l, Byt l → ∀ x, x ∈ times m l → 0 ≤ x ∧ x < 65536 := fun l hl x hx => by
    obtain ⟨y, hy, rfl⟩ := List.mem_map.1 hx
    have := hl y hy
    rcases hm with rfl | rfl <;> omega
  have lk1 := fun rest => look_of8 hz (times m rows) (tb rows hg.1) (by simp; omega) rest gl
  have lk2 := fun rest => look_of8 hz (times m cols) (tb cols hg.2.1) (by simp; omega) rest gl
  have lr := of8_len z (times m rows)
  have lc := of8_len z (times m cols)
  have hr4 : (times m rows).length * z ≤ 1000 * 4 := Nat.mul_le_mul (by simpa using h1) (by omega)
  have hc4 : (times m cols).length * z ≤ 1000 * 4 := Nat.mul_le_mul (by simpa using h2) (by omega)
  have hv := nums_len z (vals.map (mz z))
  unfold gridB
  dsimp only
  generalize of8 z (times m rows) = rb at lk1 lr ⊢
  generalize of8 z (times m cols) = cb at lk2 lc ⊢
  obtain ⟨vb, hvb⟩ : ∃ vb, vb = nums z (vals.map (mz z)) := ⟨_, rfl⟩
  rw [← hvb] at hv ⊢
  rw [List.length_map] at hv
  have hb : pre ++ bytesOf head 4 ++ bytesOf (head + rb.length) 4 ++ bytesOf (head + rb.length + cb.length) 4 ++ rb ++ cb ++ vb =
      pre ++ (bytesOf head 4 ++ (bytesOf (head + rb.length) 4 ++ (bytesOf (head + rb.length + cb.length) 4 ++ (rb ++ (cb ++ vb))))) := by simp only [List.append_assoc]
  rw [hb]
  have e1 := uS_at pre (bytesOf (head + rb.length) 4 ++ (bytesOf (head + rb.length + cb.length) 4 ++ (rb ++ (cb ++ vb)))) (n := head) (k := 4) i 4 hi rfl (by omega) (by simp; omega)
  have e2 := uS_at (pre ++ bytesOf head 4) (bytesOf (head + rb.length + cb.length) 4 ++ (rb ++ (cb ++ vb))) (n := head + rb.length) (k := 4) (i + 4) 4 (by simp; omega) rfl (by omega) (by simp; omega)
  have e3 := uS_at (pre ++ bytesOf head 4 ++ bytesOf (head + rb.length) 4) (rb ++ (cb ++ vb)) (n := head + rb.length + cb.length) (k := 4) (i + 8) 4 (by simp; omega) rfl (by omega) (by simp; omega)
  have r1 := rest_app (pre ++ (bytesOf head 4 ++ (bytesOf (head + rb.length) 4 ++ bytesOf (head + rb.length + cb.length) 4))) (rb ++ (cb ++ vb)) head (by simp; omega)
  have r2 := rest_app (pre ++ (bytesOf head 4 ++ (bytesOf (head + rb.length) 4 ++ (bytesOf (head + rb.length + cb.length) 4 ++ rb)))) (cb ++ vb) (head + rb.length) (by simp; omega)
  have r3 := rest_app (pre ++ (bytesOf head 4 ++ (bytesOf (head + rb.length) 4 ++ (bytesOf (head + rb.length + cb.length) 4 ++ (rb ++ cb))))) vb (head + rb.length + cb.length) (by simp; omega)
  simp only [List.append_assoc] at e2 e3 r1 r2 r3
  unfold pTabS
  have l2 := lk2 vb
  rw [e1, Option.bind_some, r1, Option.bind_some, lk1, Option.bind_some, e2, Option.bind_some, r2, Option.bind_some, l2, Option.bind_some, e3, Option.bind_some, r3, Option.bind_some]
  rw [tabOf_most, tabOf_most]
  have t1 := times_most (m := m) (by omega) rows 0
  have t2 := times_most (m := m) (by omega) cols 0
  rw [Int.zero_mul] at t1 t2
  rw [t1, t2]
  have hmul : step * (rows.foldl max 0 * m + cols.foldl max 0 * m) = z * (mostG rows + mostG cols) := by
    rw [← Int.add_mul, Int.mul_comm (rows.foldl max 0 + cols.foldl max 0) m, ← Int.mul_assoc, hst]
    rfl
  rw [hmul]
  have b1 := mostG_bound hg.1
  have b2 := mostG_bound hg.2.1
  dsimp only at b1 b2
  have hs : (pieceS vb (z * (mostG rows + mostG cols)) z).isSome = decide (mostG rows + mostG cols < vals.length) := by
    rw [inS_piece]
    unfold inS
    rw [decide_eq_decide, hv]
    have hu : 0 ≤ mostG rows + mostG cols := by omega
    generalize mostG rows + mostG cols = u at hu ⊢
    rcases hz with rfl | rfl <;> omega
  split
  · rename_i h
    rw [decide_eq_true h] at hs
    obtain ⟨x, hx⟩ := Option.isSome_iff_exists.1 hs
    rw [hx, Option.map_some, hvb]
  · rename_i h
    rw [decide_eq_false h] at hs
    rw [Option.isSome_eq_false_iff, Option.isNone_iff_eq_none] at hs
    rw [hs]; rfl
end Go.Sw
end
section
namespace Go.Sw
open Go.RowKit
theorem grid_get (g : Grid) (hg : g.ok) (f : Form) (hz : f.z = 2 ∨ f.z = 4) (step : Int) (hst : step * f.m = f.z) (x y : Nat) (c : Int) (hc : g.vals[((g.rows[x]?).getD 0 + (g.cols[y]?).getD 0).toNat]? = some c) (h0 : 0 ≤ (g.rows[x]?).getD 0 + (g.cols[y]?).getD 0) :
    pgetS (gridT g f step) x y = c := by
  obtain ⟨rows, cols, vals⟩ := g
  obtain ⟨pre, head, z, m⟩ := f
  dsimp only at hz hst hc h0 ⊢
  unfold pgetS
  dsimp only
  rw [tabOf_get, tabOf_get]
  have tg : ∀ (l : List Int) (i : Nat), ((times m l)[i]?).getD 0 = (l[i]?).getD 0 * m := fun l i => by
    rw [List.getElem?_map]
    cases l[i]? with
    | none => simp
    | some v => rfl
  rw [tg, tg, ← Int.add_mul, Int.mul_comm _ m, ← Int.mul_assoc, hst]
  generalize (rows[x]?).getD 0 + (cols[y]?).getD 0 = u at hc h0 ⊢
  have hcb := hg.2.2 c (List.mem_of_getElem? hc)
  have hb := mz_bound z c
  have hu := nums_get hz (vals.map (mz z)) [] [] u.toNat (mz z c) (by rw [List.getElem?_map, hc]; rfl) (by
    rcases hz with rfl | rfl
    · refine ⟨hb.1, ?_⟩
      have : mz 2 c = c % 65536 := rfl
      omega
    · exact ⟨hb.1, by omega⟩) (z * u) (by simp; rw [Int.max_eq_left h0])
  simp only [List.nil_append, List.append_nil] at hu
  unfold pvalS
  dsimp only
  rcases hz with rfl | rfl
  · have hu : uS (nums 2 (vals.map (mz 2))) (2 * u) 2 = some (mz 2 c) := hu
    have e := gU_some hu
    show s16 (gU (nums 2 (vals.map (mz 2))) (2 * u) 2) = c
    rw [e]
    exact m16_s16 hcb
  · have hu : uS (nums 4 (vals.map (mz 4))) (4 * u) 4 = some (mz 4 c) := hu
    have e := gU_some hu
    show s32 (gU (nums 4 (vals.map (mz 4))) (4 * u) 4) = c
    rw [e]
    have : mz 4 c = c % 4294967296 := rfl
    rw [this]
    unfold s32
    split <;> omega
theorem pRead_ok (k : Nat) (kind : Int) (hkd : kind = 0 ∨ kind = 2 ∨ kind = 6) {H : Heap} {v : Value} {b : List Int} (hv : Sl H 1 v encB b) (hb : Byt b) (g : Int) (hg : 1 ≤ g ∧ g ≤ 65535) (hl : b.length ≤ 2 ^ 30) :
    R (T k) F.pair_Read [.int .i64 kind, v, .int .i64 g] H = .ok (.tuple #[pV (pTakeS kind b g), .int .i64 (if (pTakeS kind b g).isSome then 0 else 2)]) H := by
  have h := pRead_run k kind hv hb g hl
  have hbad : badP kind g = false := by
    cases hb : badP kind g with
    | false => rfl
    | true => exact absurd (And.intro hkd hg) (badP_iff.1 hb)
  have hN : pairN kind b g = if (pTakeS kind b g).isSome then 0 else 2 := by unfold pairN; rw [hbad]; rfl
  rw [pairO_take hg, hN] at h
  exact h
def kindOf (n : Int) : Int := if n = 0 then 2 else 6
def stepOf (n : Int) : Int := if n = 0 then 1 else if n = 1 then 2 else 4
theorem gridB_byt (g : Grid) (f : Form) (hp : Byt f.pre) : Byt (gridB g f) := ((((((hp.app (bytesOf_byt _ _)).app (bytesOf_byt _ _)).app (bytesOf_byt _ _)).app (of8_byt _ _)).app (of8_byt _ _)).app (nums_byt _ _))
theorem gridB_len (g : Grid) (f : Form) (h1 : g.rows.length ≤ 1000) (h2 : g.cols.length ≤ 1000) (h3 : g.vals.length ≤ 1000) (hz : f.z = 2 ∨ f.z = 4) (hp : f.pre.length ≤ 100) : (gridB g f).length ≤ 20000 := by
  have hr4 : g.rows.length * f.z ≤ 1000 * 4 := Nat.mul_le_mul h1 (by omega)
  have hc4 : g.cols.length * f.z ≤ 1000 * 4 := Nat.mul_le_mul h2 (by omega)
  have hv4 : g.vals.length * f.z ≤ 1000 * 4 := Nat.mul_le_mul h3 (by omega)
  unfold gridB
  simp [of8_len, nums_len]
  omega
theorem form_facts (n : Int) : ((formOf n).z = 2 ∨ (formOf n).z = 4) ∧ ((formOf n).m = 1 ∨ (formOf n).m = 2) ∧ (formOf n).pre.length ≤ 100 ∧ (formOf n).head = (formOf n).pre.length + 12 ∧ stepOf n * (formOf n).m = (formOf n).z ∧ Byt (formOf n).pre := by
  unfold formOf stepOf
  have z4 : Byt [0, 0, 0, 0] := fun x hx => by simp at hx; omega
  have z8 : Byt [0, 0, 0, 0, 0, 0, 0, 0] := fun x hx => by simp at hx; omega
  have o8 : Byt [0, 0, 0, 1, 0, 0, 0, 0] := fun x hx => by simp at hx; omega
  split
  · exact ⟨by simp, by simp, by simp, by simp, by simp, z4⟩
  split
  · exact ⟨by simp, by simp, by simp, by simp, by simp, z8⟩
  · exact ⟨by simp, by simp, by simp, by simp, by simp, o8⟩
theorem grid_take (g : Grid) (hg : g.ok) (h1 : g.rows.length ≤ 1000) (h2 : g.cols.length ≤ 1000) (n : Int) :
    pTakeS (kindOf n) (gridB g (formOf n)) 300 = if mostG g.rows + mostG g.cols < g.vals.length then some (gridT g (formOf n) (stepOf n)) else none := by
  have ff := form_facts n
  have tab := fun i hi => grid_tab g hg h1 h2 (formOf n) ff.1 ff.2.1 (stepOf n) ff.2.2.2.2.1 ff.2.2.1 ff.2.2.2.1 i hi 300
  have hb := gridB_byt g (formOf n) ff.2.2.2.2.2
  by_cases c0 : n = 0
  · subst c0
    exact tab 4 (by decide)
  by_cases c1 : n = 1
  · subst c1
    have hg0 : gU (gridB g (formOf 1)) 0 4 = 0 := gU_some (by
      have := uS_at [] ([0, 0, 0, 0] ++ (bytesOf (20 : Int) 4 ++ (bytesOf (20 + (of8 2 (times 1 g.rows)).length) 4 ++ (bytesOf (20 + (of8 2 (times 1 g.rows)).length + (of8 2 (times 1 g.cols)).length) 4 ++ (of8 2 (times 1 g.rows) ++ (of8 2 (times 1 g.cols) ++ nums 2 (g.vals.map (mz 2)))))))) (n := 0) (k := 4) 0 4 rfl rfl (by omega) (by decide)
      have e : bytesOf 0 4 = [0, 0, 0, 0] := by decide
      rw [e] at this
      simpa [gridB, formOf, List.append_assoc] using this)
    have : kindOf 1 = 6 := by decide
    rw [this, pTake_six hb, hg0]
    exact tab 8 (by decide)
  · have hf : formOf n = ⟨[0, 0, 0, 1, 0, 0, 0, 0], 20, 4, 1⟩ := by unfold formOf; rw [if_neg c0, if_neg c1]
    have hg0 : gU (gridB g (formOf n)) 0 4 = 1 := gU_some (by
      have := uS_at [] ([0, 0, 0, 0] ++ (bytesOf (20 : Int) 4 ++ (bytesOf (20 + (of8 4 (times 1 g.rows)).length) 4 ++ (bytesOf (20 + (of8 4 (times 1 g.rows)).length + (of8 4 (times 1 g.cols)).length) 4 ++ (of8 4 (times 1 g.rows) ++ (of8 4 (times 1 g.cols) ++ nums 4 (g.vals.map (mz 4)))))))) (n := 1) (k := 4) 0 4 rfl rfl (by omega) (by decide)
      have e : bytesOf 1 4 = [0, 0, 0, 1] := by decide
      rw [e] at this
      rw [hf]
      simpa [gridB, List.append_assoc] using this)
    have hk : kindOf n = 6 := by unfold kindOf; rw [if_neg c0]
    have hs : stepOf n = 4 := by unfold stepOf; rw [if_neg c0, if_neg c1]
    rw [hk, pTake_six hb, hg0, if_neg (by decide), if_pos (by decide)]
    have := tab 8 (by rw [hf]; rfl)
    rw [hs] at this ⊢
    rw [hf] at this ⊢
    exact this
theorem veq_H (l : List Int) : veq (lv encH l) (lv encH l) = true := veq_lv fun p _ v hv => by
  simp [encH] at hv
  subst hv
  simp
end Go.Sw
end
section
namespace Go.Sw
open Go.RowKit
theorem forms_most (k : Nat) (l : List Int) (hl : Byt l) (hn : l.length < 2 ^ 30) (a1 a2 a3 a7 a8 a10 : Value) (H : Heap) :
    ∃ z, loopN (swashlaw22_PairForms_l1 k (R (T k))) loopFuel [(1, a1), (2, a2), (3, a3), (7, a7), (8, a8), (9, .int .i64 0), (10, a10), (38, lv encB l), (39, .int .i64 l.length), (40, .int .i64 0)] H =
      .ok (.exit 0, [(1, a1), (2, a2), (3, a3), (7, a7), (8, a8), (9, .int .i64 (mostG l)), (10, a10), (38, lv encB l), (39, .int .i64 l.length), (40, z), (41, .bool false)]) H := by
  obtain ⟨x, e', H1, hr1, rfl, ⟨z, rfl⟩, rfl⟩ := loop_up (body := swashlaw22_PairForms_l1 k (R (T k))) l.length
    (fun j e H' => e = [(1, a1), (2, a2), (3, a3), (7, a7), (8, a8), (9, .int .i64 (mostG (l.take j))), (10, a10), (38, lv encB l), (39, .int .i64 l.length), (40, .int .i64 j)] ∧ H' = H)
    (fun x e H' => x = .exit 0 ∧ (∃ z, e = [(1, a1), (2, a2), (3, a3), (7, a7), (8, a8), (9, .int .i64 (mostG l)), (10, a10), (38, lv encB l), (39, .int .i64 l.length), (40, z), (41, .bool false)]) ∧ H' = H)
    (e0 := [(1, a1), (2, a2), (3, a3), (7, a7), (8, a8), (9, .int .i64 0), (10, a10), (38, lv encB l), (39, .int .i64 l.length), (40, .int .i64 0)]) (H0 := H) ⟨rfl, rfl⟩ (by omega)
    (fun j e H' hj ⟨he, hH⟩ => by
      subst he hH
      have hlt : (j : Int) < l.length := by omega
      obtain ⟨x, hx⟩ : ∃ x, l[j]? = some x := ⟨_, List.getElem?_eq_getElem hj⟩
      have i1 := fun H' => ixS_lvN encB_len l .i64 j x hx H'
      have hxb := hl x (List.mem_of_getElem? hx)
      have hmb := mostG_bound (l := l.take j) fun y hy => hl y (List.mem_of_mem_take hy)
      have hs : mostG (l.take (j + 1)) = max (mostG (l.take j)) x := by rw [take_snoc hx]; simp [mostG]
      rw [hs]
      generalize mostG (l.take j) = w at hmb ⊢
      have hmx : (if x > w then x else w) = max w x := by split <;> omega
      refine .inl ⟨_, _, ?_, rfl, rfl⟩
      rw [swashlaw22_PairForms_l1_eq]
      simp -implicitDefEqProofs (disch := omega) [hlt, i1, hmx])
    (fun e H' ⟨he, hH⟩ => by
      subst he hH
      rw [List.take_length]
      refine ⟨.exit 0, _, _, ?_, by simp, rfl, ⟨.int .i64 l.length, rfl⟩, rfl⟩
      rw [swashlaw22_PairForms_l1_eq]
      simp -implicitDefEqProofs)
  exact ⟨z, hr1⟩
theorem forms_wide (k : Nat) (l : List Int) (hl : Byt l) (hn : l.length < 2 ^ 30) (a1 a2 a3 a7 a8 a9 : Value) (H : Heap) :
    ∃ z, loopN (swashlaw22_PairForms_l2 k (R (T k))) loopFuel [(1, a1), (2, a2), (3, a3), (7, a7), (8, a8), (9, a9), (10, .int .i64 0), (50, lv encB l), (51, .int .i64 l.length), (52, .int .i64 0)] H =
      .ok (.exit 2, [(1, a1), (2, a2), (3, a3), (7, a7), (8, a8), (9, a9), (10, .int .i64 (mostG l)), (50, lv encB l), (51, .int .i64 l.length), (52, z), (53, .bool false)]) H := by
  obtain ⟨x, e', H1, hr1, rfl, ⟨z, rfl⟩, rfl⟩ := loop_up (body := swashlaw22_PairForms_l2 k (R (T k))) l.length
    (fun j e H' => e = [(1, a1), (2, a2), (3, a3), (7, a7), (8, a8), (9, a9), (10, .int .i64 (mostG (l.take j))), (50, lv encB l), (51, .int .i64 l.length), (52, .int .i64 j)] ∧ H' = H)
    (fun x e H' => x = .exit 2 ∧ (∃ z, e = [(1, a1), (2, a2), (3, a3), (7, a7), (8, a8), (9, a9), (10, .int .i64 (mostG l)), (50, lv encB l), (51, .int .i64 l.length), (52, z), (53, .bool false)]) ∧ H' = H)
    (e0 := [(1, a1), (2, a2), (3, a3), (7, a7), (8, a8), (9, a9), (10, .int .i64 0), (50, lv encB l), (51, .int .i64 l.length), (52, .int .i64 0)]) (H0 := H) ⟨rfl, rfl⟩ (by omega)
    (fun j e H' hj ⟨he, hH⟩ => by
      subst he hH
      have hlt : (j : Int) < l.length := by omega
      obtain ⟨x, hx⟩ : ∃ x, l[j]? = some x := ⟨_, List.getElem?_eq_getElem hj⟩
      have i1 := fun H' => ixS_lvN encB_len l .i64 j x hx H'
      have hxb := hl x (List.mem_of_getElem? hx)
      have hmb := mostG_bound (l := l.take j) fun y hy => hl y (List.mem_of_mem_take hy)
      have hs : mostG (l.take (j + 1)) = max (mostG (l.take j)) x := by rw [take_snoc hx]; simp [mostG]
      rw [hs]
      generalize mostG (l.take j) = w at hmb ⊢
      have hmx : (if x > w then x else w) = max w x := by split <;> omega
      refine .inl ⟨_, _, ?_, rfl, rfl⟩
      rw [swashlaw22_PairForms_l2_eq]
      simp -implicitDefEqProofs (disch := omega) [hlt, i1, hmx])
    (fun e H' ⟨he, hH⟩ => by
      subst he hH
      rw [List.take_length]
      refine ⟨.exit 2, _, _, ?_, by simp, rfl, ⟨.int .i64 l.length, rfl⟩, rfl⟩
      rw [swashlaw22_PairForms_l2_eq]
      simp -implicitDefEqProofs)
  exact ⟨z, hr1⟩
theorem most_get {l : List Int} (hb : Byt l) (i : Nat) : 0 ≤ (l[i]?).getD 0 ∧ (l[i]?).getD 0 ≤ mostG l := by
  have : ∀ (l : List Int) (m : Int), m ≤ l.foldl max m ∧ ∀ y, y ∈ l → y ≤ l.foldl max m := by
    intro l
    induction l with
    | nil => intro m; exact ⟨Int.le_refl _, fun y hy => by cases hy⟩
    | cons a l ih =>
      intro m
      have := ih (max m a)
      refine ⟨by simp only [List.foldl_cons]; omega, fun y hy => ?_⟩
      rcases List.mem_cons.1 hy with rfl | hy
      · simp only [List.foldl_cons]; omega
      · exact this.2 y hy
  cases h : l[i]? with
  | none => exact ⟨by simp, by simp; exact (mostG_bound hb).1⟩
  | some x =>
    have hm := List.mem_of_getElem? h
    exact ⟨(hb x hm).1, (this l 0).2 x hm⟩
set_option maxHeartbeats 2000000 in
theorem forms_l3 (k : Nat) (hk : k < 1000000) (g : Grid) (hg : g.ok) (h1 : g.rows.length ≤ 20) (h2 : g.cols.length ≤ 20) (h3 : g.vals.length ≤ 600) (x y : Nat) (hx : x < 256) (hy : y < 256) {H : Heap} {q : Nat} (hq : H.get q = some ⟨gridC g, 1, false⟩) :
    ∃ z, loopN (swashlaw22_PairForms_l3 k (R (T k))) loopFuel [(1, .int .u8 x), (2, .int .u8 y), (3, ptrV q), (7, .int .i64 ((g.rows[x]?).getD 0)), (8, .int .i64 ((g.cols[y]?).getD 0)), (9, .int .i64 (mostG g.rows)), (10, .int .i64 (mostG g.cols)), (85, .int .i64 0)] H =
      .ok (.exit 4, [(1, .int .u8 x), (2, .int .u8 y), (3, ptrV q), (7, .int .i64 ((g.rows[x]?).getD 0)), (8, .int .i64 ((g.cols[y]?).getD 0)), (9, .int .i64 (mostG g.rows)), (10, .int .i64 (mostG g.cols)), (85, z), (86, .bool false)]) H := by
  have r1 := most_get hg.1 x
  have r2 := most_get hg.2.1 y
  have b1 := mostG_bound hg.1
  have b2 := mostG_bound hg.2.1
  obtain ⟨x', e', H1, hr1, rfl, ⟨z, rfl⟩, rfl⟩ := loop_up (body := swashlaw22_PairForms_l3 k (R (T k))) 3
    (fun j e H' => e = [(1, .int .u8 x), (2, .int .u8 y), (3, ptrV q), (7, .int .i64 ((g.rows[x]?).getD 0)), (8, .int .i64 ((g.cols[y]?).getD 0)), (9, .int .i64 (mostG g.rows)), (10, .int .i64 (mostG g.cols)), (85, .int .i64 j)] ∧ H' = H)
    (fun x' e H' => x' = .exit 4 ∧ (∃ z, e = [(1, .int .u8 x), (2, .int .u8 y), (3, ptrV q), (7, .int .i64 ((g.rows[x]?).getD 0)), (8, .int .i64 ((g.cols[y]?).getD 0)), (9, .int .i64 (mostG g.rows)), (10, .int .i64 (mostG g.cols)), (85, z), (86, .bool false)]) ∧ H' = H)
    (e0 := [(1, .int .u8 x), (2, .int .u8 y), (3, ptrV q), (7, .int .i64 ((g.rows[x]?).getD 0)), (8, .int .i64 ((g.cols[y]?).getD 0)), (9, .int .i64 (mostG g.rows)), (10, .int .i64 (mostG g.cols)), (85, .int .i64 0)]) (H0 := H) ⟨rfl, rfl⟩ (by omega)
    (fun j e H' hj ⟨he, hH⟩ => by
      subst he hH
      have hlt : (j : Int) < 3 := by omega
      have ff := form_facts j
      have hw := fun H => WriteGrid_run k hk g hg (by omega) (by omega) (by omega) (j : Int) H
      have hb := gridB_byt g (formOf j) ff.2.2.2.2.2
      have hl := gridB_len g (formOf j) (by omega) (by omega) (by omega) ff.1 ff.2.2.1
      have ht := grid_take g hg (by omega) (by omega) j
      have hkd : kindOf j = 0 ∨ kindOf j = 2 ∨ kindOf j = 6 := by unfold kindOf; split <;> simp
      have hrd := fun H => pRead_ok k (kindOf j) hkd (Sl.lv H 1 (gridB g (formOf j))) hb 300 (by omega) (by omega)
      have hok : ∀ t, pTakeS (kindOf j) (gridB g (formOf j)) 300 = some t → t.ok := fun t h => pTakeS_ok hb (by omega) (by omega) h
      rw [ht] at hrd hok
      have vu := veq_un
      refine .inl ⟨_, _, ?_, rfl, rfl⟩
      rw [swashlaw22_PairForms_l3_eq]
      by_cases hc : mostG g.rows + mostG g.cols < g.vals.length
      · rw [if_pos hc] at hrd hok
        have hok := hok _ rfl
        have hge : ¬ mostG g.rows + mostG g.cols ≥ g.vals.length := by omega
        obtain ⟨c, hcv⟩ : ∃ c, g.vals[((g.rows[x]?).getD 0 + (g.cols[y]?).getD 0).toNat]? = some c := ⟨_, List.getElem?_eq_getElem (by omega)⟩
        have hget := fun H => pGet_run k _ hok x y H
        rw [grid_get g hg (formOf j) ff.1 (stepOf j) ff.2.2.2.2.1 x y c hcv (by omega)] at hget
        have hcb := hg.2.2 c (List.mem_of_getElem? hcv)
        have i1 := fun H' => ixS_lv encH_len g.vals .i64 ((g.rows[x]?).getD 0 + (g.cols[y]?).getD 0) c (by omega) hcv H'
        have vh := veq_H g.vals
        generalize hT : gridT g (formOf j) (stepOf j) = t at hrd hget
        simp only [Option.isSome_some, if_true, pV] at hrd
        have r0 : -9223372036854775808 ≤ (g.rows[x]?).getD 0 + (g.cols[y]?).getD 0 := by omega
        generalize (g.rows[x]?).getD 0 = u at *
        generalize (g.cols[y]?).getD 0 = v at *
        by_cases c0 : j = 0
        · subst c0
          have hk2 : kindOf ((0 : Nat) : Int) = 2 := by decide
          rw [hk2] at hrd
          simp at hw hrd
          simp -implicitDefEqProofs (disch := omega) [hq, hw, hrd, hge, hget, i1, vh, vu, bne, swashlaw22_PairForms_j5_eq, swashlaw22_PairForms_j8_eq]
        · have hk2 : kindOf (j : Int) = 6 := by unfold kindOf; rw [if_neg (by omega)]
          rw [hk2] at hrd
          have c0' : ((j : Int) == 0) = false := by simp; omega
          simp -implicitDefEqProofs (disch := omega) [hlt, c0, c0', hq, hw, hrd, hge, hget, i1, vh, vu, bne, swashlaw22_PairForms_j6_eq, swashlaw22_PairForms_j8_eq]
      · rw [if_neg hc] at hrd
        have hge : mostG g.rows + mostG g.cols ≥ g.vals.length := by omega
        simp only [Option.isSome_none, Bool.false_eq_true, if_false, pV] at hrd
        by_cases c0 : j = 0
        · subst c0
          have hk2 : kindOf ((0 : Nat) : Int) = 2 := by decide
          rw [hk2] at hrd
          simp at hw hrd
          simp -implicitDefEqProofs (disch := omega) [hq, hw, hrd, hge, bne, swashlaw22_PairForms_j5_eq, swashlaw22_PairForms_j7_eq]
        · have hk2 : kindOf (j : Int) = 6 := by unfold kindOf; rw [if_neg (by omega)]
          rw [hk2] at hrd
          have c0' : ((j : Int) == 0) = false := by simp; omega
          simp -implicitDefEqProofs (disch := omega) [hlt, c0, c0', hq, hw, hrd, hge, bne, swashlaw22_PairForms_j6_eq, swashlaw22_PairForms_j7_eq])
    (fun e H' ⟨he, hH⟩ => by
      subst he hH
      refine ⟨.exit 4, _, _, ?_, by simp, rfl, ⟨.int .i64 ((3 : Nat) : Int), rfl⟩, rfl⟩
      rw [swashlaw22_PairForms_l3_eq]
      simp -implicitDefEqProofs)
  exact ⟨z, hr1⟩
end Go.Sw
end
section
namespace Go.Sw
open Go.RowKit
set_option maxHeartbeats 1000000 in
theorem PairForms_run (g : Grid) (hg : g.ok) (x y : Nat) (hx : x < 256) (hy : y < 256) : R (T F.swashlaw22_speaks) F.swashlaw22_PairForms [gridV g, .int .u8 x, .int .u8 y] Heap.empty = .ok (.bool true) Heap.empty := by
  generalize hk : F.swashlaw22_speaks = k
  have hs := speaks22_run k (by subst hk; rfl)
  have hk6 : k < 1000000 := by subst hk; decide
  clear hk
  rw [swashlaw22_PairForms_R]
  generalize Heap.empty = H
  have hx1 : Ext H (H.push ⟨gridC g, 1, false⟩) := (Ext.refl H).push _
  refine nrm_gc ⟨_, ?_, hx1⟩ (.bool _)
  by_cases c1 : g.rows.length > 20
  · have c1' : (g.rows.length : Int) > 20 := by omega
    simp -implicitDefEqProofs (disch := omega) [swashlaw22_PairForms, hs, c1']
  have c1' : ¬ (g.rows.length : Int) > 20 := by omega
  by_cases c2 : g.cols.length > 20
  · have c2' : (g.cols.length : Int) > 20 := by omega
    simp -implicitDefEqProofs (disch := omega) [swashlaw22_PairForms, hs, c1', c2']
  have c2' : ¬ (g.cols.length : Int) > 20 := by omega
  by_cases c3 : g.vals.length > 600
  · have c3' : (g.vals.length : Int) > 600 := by omega
    simp -implicitDefEqProofs (disch := omega) [swashlaw22_PairForms, hs, c1', c2', c3']
  have c3' : ¬ (g.vals.length : Int) > 600 := by omega
  have hq : (H.push ⟨gridC g, 1, false⟩).get H.n = some ⟨gridC g, 1, false⟩ := get_push_eq _ _ _ rfl
  obtain ⟨z1, l1⟩ := forms_most k g.rows hg.1 (by omega) (.int .u8 x) (.int .u8 y) (ptrV H.n) (.int .i64 0) (.int .i64 0) (.int .i64 0) (H.push ⟨gridC g, 1, false⟩)
  obtain ⟨z2, l2⟩ := forms_wide k g.cols hg.2.1 (by omega) (.int .u8 x) (.int .u8 y) (ptrV H.n) (.int .i64 0) (.int .i64 0) (.int .i64 (mostG g.rows)) (H.push ⟨gridC g, 1, false⟩)
  obtain ⟨z3, l3⟩ := forms_l3 k hk6 g hg (by omega) (by omega) (by omega) x y hx hy hq
  by_cases d1 : x < g.rows.length
  · obtain ⟨r, hr⟩ : ∃ r, g.rows[x]? = some r := ⟨_, List.getElem?_eq_getElem d1⟩
    have hrb := hg.1 r (List.mem_of_getElem? hr)
    have i1 := fun H' => ixS_lvN encB_len g.rows .u8 x r hr H'
    have d1' : (x : Int) < g.rows.length := by omega
    by_cases d2 : y < g.cols.length
    · obtain ⟨c, hc⟩ : ∃ c, g.cols[y]? = some c := ⟨_, List.getElem?_eq_getElem d2⟩
      have hcb := hg.2.1 c (List.mem_of_getElem? hc)
      have i2 := fun H' => ixS_lvN encB_len g.cols .u8 y c hc H'
      have d2' : (y : Int) < g.cols.length := by omega
      rw [hr, hc] at l3
      simp only [Option.getD_some] at l3
      simp -implicitDefEqProofs (disch := omega) [swashlaw22_PairForms, hs, c1', c2', c3', l1, swashlaw22_PairForms_l1k_x0, l2, swashlaw22_PairForms_l2k_x2, d1', i1, swashlaw22_PairForms_j1_eq, d2', i2, swashlaw22_PairForms_j3_eq, l3, swashlaw22_PairForms_l3k_x4]
    · have hc : g.cols[y]? = none := List.getElem?_eq_none (by omega)
      have d2' : ¬ (y : Int) < g.cols.length := by omega
      rw [hr, hc] at l3
      simp only [Option.getD_some, Option.getD_none] at l3
      simp -implicitDefEqProofs (disch := omega) [swashlaw22_PairForms, hs, c1', c2', c3', l1, swashlaw22_PairForms_l1k_x0, l2, swashlaw22_PairForms_l2k_x2, d1', i1, swashlaw22_PairForms_j1_eq, d2', swashlaw22_PairForms_j4_eq, l3, swashlaw22_PairForms_l3k_x4]
  · have hr : g.rows[x]? = none := List.getElem?_eq_none (by omega)
    have d1' : ¬ (x : Int) < g.rows.length := by omega
    by_cases d2 : y < g.cols.length
    · obtain ⟨c, hc⟩ : ∃ c, g.cols[y]? = some c := ⟨_, List.getElem?_eq_getElem d2⟩
      have hcb := hg.2.1 c (List.mem_of_getElem? hc)
      have i2 := fun H' => ixS_lvN encB_len g.cols .u8 y c hc H'
      have d2' : (y : Int) < g.cols.length := by omega
      rw [hr, hc] at l3
      simp only [Option.getD_some, Option.getD_none] at l3
      simp -implicitDefEqProofs (disch := omega) [swashlaw22_PairForms, hs, c1', c2', c3', l1, swashlaw22_PairForms_l1k_x0, l2, swashlaw22_PairForms_l2k_x2, d1', swashlaw22_PairForms_j2_eq, d2', i2, swashlaw22_PairForms_j3_eq, l3, swashlaw22_PairForms_l3k_x4]
    · have hc : g.cols[y]? = none := List.getElem?_eq_none (by omega)
      have d2' : ¬ (y : Int) < g.cols.length := by omega
      rw [hr, hc] at l3
      simp only [Option.getD_none] at l3
      simp -implicitDefEqProofs (disch := omega) [swashlaw22_PairForms, hs, c1', c2', c3', l1, swashlaw22_PairForms_l1k_x0, l2, swashlaw22_PairForms_l2k_x2, d1', swashlaw22_PairForms_j2_eq, d2', swashlaw22_PairForms_j4_eq, l3, swashlaw22_PairForms_l3k_x4]
theorem row_H {r : List Da} {cs : List Value} (h : LayRow [.int .i16] r cs) : ∃ n : Int, cs = encH n ∧ (-32768 ≤ n ∧ n < 32768) := by
  obtain ⟨_, v1, _, _, rfl, h1, h⟩ := h.head
  obtain rfl := h.done
  obtain ⟨c, rfl, hc⟩ := h1.intv
  refine ⟨c, rfl, ?_⟩
  simp [Lit.wf, IntKind.min, IntKind.max, IntKind.signed, IntKind.bits] at hc
  omega
abbrev gridSh : ASh := .agg [.slice [.int .u8], .slice [.int .u8], .slice [.int .i16]]
theorem arg_grid {v : Value} (h : ArgLay gridSh v) : ∃ g, v = gridV g ∧ g.ok := by
  cases h with
  | agg ss ds vs h =>
    obtain ⟨_, v1, _, _, rfl, h1, h⟩ := h.head
    obtain ⟨_, v2, _, _, rfl, h2, h⟩ := h.head
    obtain ⟨_, v3, _, _, rfl, h3, h⟩ := h.head
    obtain rfl := h.done
    obtain ⟨a, rfl, wa⟩ := Lay.list (enc := encB) (ok := fun n => 0 ≤ n ∧ n < 256) (fun r cs h => row_B h) h1
    obtain ⟨b, rfl, wb⟩ := Lay.list (enc := encB) (ok := fun n => 0 ≤ n ∧ n < 256) (fun r cs h => row_B h) h2
    obtain ⟨c, rfl, wc⟩ := Lay.list (enc := encH) (ok := fun n => -32768 ≤ n ∧ n < 32768) (fun r cs h => row_H h) h3
    exact ⟨⟨a, b, c⟩, rfl, wa, wb, wc⟩
theorem PairForms_args (vs : List Value) (h : ArgsLay [gridSh, .one (.int .u8), .one (.int .u8)] vs) : ∃ H', R (T F.swashlaw22_speaks) F.swashlaw22_PairForms vs Heap.empty = .ok (.bool true) H' := by
  obtain ⟨v1, _, rfl, h1, h⟩ := h.head
  obtain ⟨v2, _, rfl, h2, h⟩ := h.head
  obtain ⟨v3, _, rfl, h3, h⟩ := h.head
  obtain rfl := h.done
  obtain ⟨g, rfl, hg⟩ := arg_grid h1
  obtain ⟨x, rfl, hx⟩ := arg_i h2
  obtain ⟨y, rfl, hy⟩ := arg_i h3
  have hx := wf_u8 hx
  have hy := wf_u8 hy
  obtain ⟨x, rfl⟩ := Int.eq_ofNat_of_zero_le hx.1
  obtain ⟨y, rfl⟩ := Int.eq_ofNat_of_zero_le hy.1
  exact ⟨_, PairForms_run g hg x y (by omega) (by omega)⟩
end Go.Sw
end
