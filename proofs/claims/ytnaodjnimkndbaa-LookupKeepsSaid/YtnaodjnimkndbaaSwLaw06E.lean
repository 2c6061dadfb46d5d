/-
  The law LookupKeeps.
-/
import Derived.Test.YtnaodjnimkndbaaSwLaw06A
import Derived.Test.YtnaodjnimkndbaaSwMisc
namespace Go.Sw
open Go.RowKit

theorem LookupKeeps_run (b : List Int) (hb : Byt b) (z : Int) : R (T 69) F.swashlaw06_LookupKeeps [lv encB b, .int .u8 z] Heap.empty = .ok (.bool true) Heap.empty := by
  rw [swashlaw06_LookupKeeps_R]
  generalize Heap.empty = H
  by_cases hl : b.length > 400
  · have hl' : (b.length : Int) > 400 := by omega
    refine nrm_gc ⟨H, ?_, Ext.refl H⟩ (.bool _)
    simp -implicitDefEqProofs (disch := omega) [swashlaw06_LookupKeeps, speaks06_run, hl']
  have hl' : ¬ (b.length : Int) > 400 := by omega
  obtain ⟨s, o, H1, e1, g⟩ := ((Star.nil H).more_row (Ext.refl _) (OwnO.bare encB _ 1) (fun b hb => by cases hb)).append (bytes := 1) 0 encB_len rfl (b := lv encB b) (l2 := b) rfl (lv_first encB_len b H) (by simp; omega) (by decide)
  have g : Star H H1 [itRow o 1 s encB b] := g
  have hrd := lookRead_run 69 ((g.row 0 rfl).sl encB_len) hb 40 2 (by omega)
  unfold lookO lookN at hrd
  rw [show badS 40 2 = false from rfl] at hrd
  cases hlk : lookS b 40 2 with
  | none =>
    rw [hlk] at hrd
    simp [lookV] at hrd
    refine nrm_gc ⟨H1, ?_, g.ext⟩ (.bool _)
    simp -implicitDefEqProofs (disch := omega) [swashlaw06_LookupKeeps, speaks06_run, hl', e1, hrd]
  | some x =>
    rw [hlk] at hrd
    simp [lookV] at hrd
    have hok := lookS_ok hb (by omega) (by omega) (.inl rfl) hlk
    have hpl := lookS_len hb hlk
    have hget := fun id H => Get_run 69 x hok.2.1 hok.2.2 id hpl H
    obtain ⟨W, hW⟩ : ∃ W, W = (List.range 60).map (fun i => (getS x.2 (i : Nat)).getD 0) := ⟨_, rfl⟩
    have hWl : W.length = 60 := by rw [hW]; simp
    have hWg : ∀ j, j < 60 → W[j]? = some ((getS x.2 (j : Nat)).getD 0) := fun j hj => by rw [hW]; simp [hj]
    have g1 := g.push ⟨rows encI (List.replicate 60 0), 1, false⟩
    obtain ⟨y, e', H2, hr1, rfl, ⟨a, rfl⟩, g2⟩ := loop_up (body := swashlaw06_LookupKeeps_l1 69 (R (T 69))) 60
      (fun j e H' => e = [(1, .int .u8 z), (5, s), (6, tabV x), (8, .pointer (some ⟨H1.n, 0, none⟩)), (31, .int .i64 j)] ∧ Star H H' [itRow o 1 s encB b, itBlk H1.n ⟨rows encI (W.take j ++ List.replicate (60 - j) 0), 1, false⟩])
      (fun y e H' => y = .exit 0 ∧ (∃ a, e = [(1, .int .u8 z), (5, s), (6, tabV x), (8, .pointer (some ⟨H1.n, 0, none⟩)), (31, .int .i64 60), (32, a)]) ∧ Star H H' [itRow o 1 s encB b, itBlk H1.n ⟨rows encI W, 1, false⟩])
      (e0 := [(1, .int .u8 z), (5, s), (6, tabV x), (8, .pointer (some ⟨H1.n, 0, none⟩)), (31, .int .i64 0)]) (H0 := H1.push ⟨rows encI (List.replicate 60 0), 1, false⟩) ⟨rfl, by simpa using g1⟩ (by omega)
      (fun j e H' hj ⟨he, g⟩ => by
        subst he
        have hlt : (j : Int) < 60 := by omega
        obtain ⟨H2, e2, g2, _⟩ := g.stBlk 1 rfl encI_len (c := 0) (n := 1) ((getS x.2 (j : Nat)).getD 0) (v := .int .i64 ((getS x.2 (j : Nat)).getD 0)) (fill_get W 0 hWl hj) rfl rfl (by decide) rfl
        rw [fill_step W 0 hWl hj _ (hWg j hj)] at g2
        simp only [Nat.add_zero, Nat.mul_one] at e2
        have i1 := fun H' => ixA_get (len := 60) (m := 1) (b := H1.n) (off := 0) (k := .i64) hj H'
        simp only [Nat.zero_add, Nat.mul_one] at i1
        refine .inl ⟨_, H2, ?_, rfl, g2⟩
        rw [swashlaw06_LookupKeeps_l1_eq]
        simp -implicitDefEqProofs (disch := omega) [-stR_ptr, hlt, hget, i1, e2])
      (fun e H' ⟨he, g⟩ => by
        subst he
        refine ⟨.exit 0, _, H', ?_, by simp, rfl, ⟨.bool false, rfl⟩, by simpa [List.take_of_length_le (Nat.le_of_eq hWl)] using g⟩
        rw [swashlaw06_LookupKeeps_l1_eq]
        simp -implicitDefEqProofs)
    obtain ⟨y, e', H3, hr2, rfl, ⟨a, rfl⟩, b', hbl, g3⟩ := loop_up (body := swashlaw06_LookupKeeps_l2 69 (R (T 69))) b.length
      (fun j e H' => e = [(1, .int .u8 z), (5, s), (6, tabV x), (8, .pointer (some ⟨H1.n, 0, none⟩)), (44, .int .i64 b.length), (45, .int .i64 j)] ∧ ∃ b' : List Int, b'.length = b.length ∧ Star H H' [itRow o 1 s encB b', itBlk H1.n ⟨rows encI W, 1, false⟩])
      (fun y e H' => y = .exit 2 ∧ (∃ a, e = [(1, .int .u8 z), (5, s), (6, tabV x), (8, .pointer (some ⟨H1.n, 0, none⟩)), (44, .int .i64 b.length), (45, .int .i64 b.length), (46, a)]) ∧ ∃ b' : List Int, b'.length = b.length ∧ Star H H' [itRow o 1 s encB b', itBlk H1.n ⟨rows encI W, 1, false⟩])
      (e0 := [(1, .int .u8 z), (5, s), (6, tabV x), (8, .pointer (some ⟨H1.n, 0, none⟩)), (44, .int .i64 b.length), (45, .int .i64 0)]) (H0 := H2) ⟨rfl, b, rfl, g2⟩ (by omega)
      (fun j e H' hj ⟨he, b', hbl, g⟩ => by
        subst he
        have hlt : (j : Int) < b.length := by omega
        obtain ⟨c, rfl, hc, i1⟩ := g.ix 0 rfl .i64 j (by omega)
        obtain ⟨q, hq⟩ : ∃ q, b'[j]? = some q := ⟨_, List.getElem?_eq_getElem (by omega)⟩
        obtain ⟨H2, e2, g2, _⟩ := g.stRow 0 rfl encB_len (c := 0) (n := 1) z (v := .int .u8 z) hq rfl rfl (by decide) rfl
        simp only [Nat.add_zero, Nat.mul_one] at e2 i1
        refine .inl ⟨_, H2, ?_, rfl, _, by simpa using hbl, g2⟩
        rw [swashlaw06_LookupKeeps_l2_eq]
        simp -implicitDefEqProofs (disch := omega) [-stR_ptr, hlt, i1, e2])
      (fun e H' ⟨he, b', hbl, g⟩ => by
        subst he
        refine ⟨.exit 2, _, H', ?_, by simp, rfl, ⟨.bool false, rfl⟩, b', hbl, g⟩
        rw [swashlaw06_LookupKeeps_l2_eq]
        simp -implicitDefEqProofs)
    obtain ⟨y, e', H4, hr4, rfl, rfl, a, rfl⟩ := loop_up (body := swashlaw06_LookupKeeps_l3 69 (R (T 69))) 60
      (fun j e H' => H' = H3 ∧ e = [(6, tabV x), (53, .agg (rows encI W).toArray), (54, .int .i64 j)])
      (fun y e H' => H' = H3 ∧ y = .exit 4 ∧ ∃ a, e = [(6, tabV x), (53, .agg (rows encI W).toArray), (54, .int .i64 60), (55, a)])
      (e0 := [(6, tabV x), (53, .agg (rows encI W).toArray), (54, .int .i64 0)]) (H0 := H3) ⟨rfl, rfl⟩ (by omega)
      (fun j e H' hj ⟨hH, he⟩ => by
        subst he hH
        have hlt : (j : Int) < 60 := by omega
        have i1 := fun H' => iv1_get (len := 60) (k := .i64) (cs := (rows encI W).toArray) hj (v := .int .i64 ((getS x.2 (j : Nat)).getD 0)) (by
          have := rows_cell encI_len W j 0 _ (hWg j hj) (by decide)
          simpa using this) H'
        refine .inl ⟨_, _, ?_, rfl, rfl⟩
        rw [swashlaw06_LookupKeeps_l3_eq]
        simp -implicitDefEqProofs (disch := omega) [hlt, hget, i1, bne])
      (fun e H' ⟨hH, he⟩ => by
        subst he hH
        refine ⟨.exit 4, _, _, ?_, by simp, rfl, rfl, .bool false, rfl⟩
        rw [swashlaw06_LookupKeeps_l3_eq]
        simp -implicitDefEqProofs)
    rw [show rows encI (List.replicate 60 0) = [.int .i64 0, .int .i64 0, .int .i64 0, .int .i64 0, .int .i64 0, .int .i64 0, .int .i64 0, .int .i64 0, .int .i64 0, .int .i64 0, .int .i64 0, .int .i64 0, .int .i64 0, .int .i64 0, .int .i64 0, .int .i64 0, .int .i64 0, .int .i64 0, .int .i64 0, .int .i64 0, .int .i64 0, .int .i64 0, .int .i64 0, .int .i64 0, .int .i64 0, .int .i64 0, .int .i64 0, .int .i64 0, .int .i64 0, .int .i64 0, .int .i64 0, .int .i64 0, .int .i64 0, .int .i64 0, .int .i64 0, .int .i64 0, .int .i64 0, .int .i64 0, .int .i64 0, .int .i64 0, .int .i64 0, .int .i64 0, .int .i64 0, .int .i64 0, .int .i64 0, .int .i64 0, .int .i64 0, .int .i64 0, .int .i64 0, .int .i64 0, .int .i64 0, .int .i64 0, .int .i64 0, .int .i64 0, .int .i64 0, .int .i64 0, .int .i64 0, .int .i64 0, .int .i64 0, .int .i64 0] from rfl] at hr1
    have hlen := fun H' => (g2.row 0 rfl).len H'
    have hg3 := g3.get 1 rfl
    have hld := ldA_row (m := 60) (enc := fun _ : Unit => rows encI W) (fun _ => by rw [rows_length encI_len, hWl]) (l := [()]) (H := H4) (b := H1.n) (e := 1) (ro := false) (by rw [hg3]; simp [rows]) (i := 0) rfl
    simp at hld
    refine nrm_gc ⟨H4, ?_, g3.ext⟩ (.bool _)
    simp -implicitDefEqProofs (disch := omega) [swashlaw06_LookupKeeps, speaks06_run, hl', e1, hrd, hr1, swashlaw06_LookupKeeps_l1k_x0, hlen, hr2, swashlaw06_LookupKeeps_l2k_x2, hld, hr4, swashlaw06_LookupKeeps_l3k_x4]

theorem LookupKeeps_args (vs : List Value) (h : ArgsLay [.one (.slice [.int .u8]), .one (.int .u8)] vs) : ∃ H', R (T 69) F.swashlaw06_LookupKeeps vs Heap.empty = .ok (.bool true) H' := by
  obtain ⟨v1, _, rfl, h1, h⟩ := h.head
  obtain ⟨v2, _, rfl, h2, h⟩ := h.head
  obtain rfl := h.done
  obtain ⟨b, rfl, hb⟩ := arg_B h1
  obtain ⟨z, rfl, _⟩ := arg_i h2
  exact ⟨_, LookupKeeps_run b hb z⟩
end Go.Sw
