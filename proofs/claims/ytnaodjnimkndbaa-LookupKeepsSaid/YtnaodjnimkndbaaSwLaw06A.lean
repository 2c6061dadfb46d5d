/-
  The laws LookupTakes and LookupKeeps.
-/
import Derived.Test.YtnaodjnimkndbaaSwLookF
import Derived.Test.YtnaodjnimkndbaaSwGswashlaw06
import Derived.Test.YtnaodjnimkndbaaSwArgs
namespace Go.Sw
open Go.RowKit

theorem speaks06_run (H : Heap) : R (T 69) F.swashlaw06_speaks [] H = .ok (.bool true) H :=
  (R_sp (t := T 69) (T_scott 69) (s := constSp (.bool true)) (by kernel_rfl) [] H).trans (nrm_gc (Pure.of rfl) (.bool _))

theorem Takes_in1 (k : Nat) {H : Heap} {v : Value} {b : List Int} (hv : Sl H 1 v encB b) (hb : Byt b) (g z : Int) (hg1 : 1 ≤ g) (hg2 : g ≤ 65535) (hz : z = 2 ∨ z = 4) (hl : b.length < 2 ^ 31) (p1 p2 p3 : Nat) (old : Value)
    (h1 : H.get p1 = some ⟨[v], 1, false⟩) (h2 : H.get p2 = some ⟨[.int .i64 g, .int .i64 z], 1, false⟩) (h4 : H.get p3 = some ⟨[old], 1, false⟩) :
    R (T k) F.swashlaw06_LookupTakes_in1 [.pointer (some ⟨p1, 0, none⟩), .pointer (some ⟨p2, 0, none⟩), .pointer (some ⟨p3, 0, none⟩)] H =
      match lookS b g z with
      | some x => .ok (.tuple #[]) (H.set p3 (some ⟨[tabV x], 1, false⟩))
      | none => .panic failV H := by
  rw [swashlaw06_LookupTakes_in1_R]
  have ht := lookTake_run k hv hb g z hg1 hg2 hz hl
  have i0 : ∀ H', ixA 2 1 (.pointer (some ⟨p2, 0, none⟩)) (.int .i64 0) H' = .ok (.pointer (some ⟨p2, 0, none⟩)) H' := fun H' => rfl
  have i1 : ∀ H', ixA 2 1 (.pointer (some ⟨p2, 0, none⟩)) (.int .i64 1) H' = .ok (.pointer (some ⟨p2, 1, none⟩)) H' := fun H' => rfl
  cases h : lookS b g z with
  | none =>
    rw [h] at ht
    refine nrm_throw ⟨H, ?_, Ext.refl H⟩ Flat.fail.alive
    simp -implicitDefEqProofs (disch := omega) [swashlaw06_LookupTakes_in1, i0, i1, h1, h2, Of_run k hv, ht]
  | some x =>
    rw [h] at ht
    simp -implicitDefEqProofs (disch := omega) [swashlaw06_LookupTakes_in1, i0, i1, h1, h2, h4, Of_run k hv, ht]

theorem LookupTakes_run (b : List Int) (hb : Byt b) (g z : Int) : R (T 69) F.swashlaw06_LookupTakes [lv encB b, .agg #[.int .i64 g, .int .i64 z]] Heap.empty = .ok (.bool true) Heap.empty := by
  rw [swashlaw06_LookupTakes_R]
  obtain ⟨H, hH⟩ : ∃ H, H = Heap.empty := ⟨_, rfl⟩
  rw [← hH]
  have hx2 : Ext H ((H.push ⟨[lv encB b], 1, false⟩).push ⟨[.int .i64 g, .int .i64 z], 1, false⟩) := ((Ext.refl H).push _).push _
  by_cases hl : b.length > 1000
  · have hl' : (b.length : Int) > 1000 := by omega
    refine nrm_gc ⟨_, ?_, hx2⟩ (.bool _)
    simp -implicitDefEqProofs (disch := omega) [swashlaw06_LookupTakes, speaks06_run, hl']
  have hl' : ¬ (b.length : Int) > 1000 := by omega
  have i0 : ∀ H', ixA 2 1 (.pointer (some ⟨H.n + 1, 0, none⟩)) (.int .i64 0) H' = .ok (.pointer (some ⟨H.n + 1, 0, none⟩)) H' := fun H' => rfl
  have i1 : ∀ H', ixA 2 1 (.pointer (some ⟨H.n + 1, 0, none⟩)) (.int .i64 1) H' = .ok (.pointer (some ⟨H.n + 1, 1, none⟩)) H' := fun H' => rfl
  by_cases c1 : g < 1
  · refine nrm_gc ⟨_, ?_, hx2⟩ (.bool _)
    simp -implicitDefEqProofs (disch := omega) [swashlaw06_LookupTakes, speaks06_run, hl', i0, i1, c1]
  by_cases c2 : g > 65535
  · refine nrm_gc ⟨_, ?_, hx2⟩ (.bool _)
    simp -implicitDefEqProofs (disch := omega) [swashlaw06_LookupTakes, speaks06_run, hl', i0, i1, c1, c2]
  by_cases c3 : z = 2 ∨ z = 4
  rotate_left
  · have c4 : (z == 2) = false := by simp; omega
    have c5 : (z == 4) = false := by simp; omega
    refine nrm_gc ⟨_, ?_, hx2⟩ (.bool _)
    simp -implicitDefEqProofs (disch := omega) [swashlaw06_LookupTakes, speaks06_run, hl', i0, i1, c1, c2, bne, c4, c5]
  have hx3 := hx2.push ⟨[.pointer none], 1, false⟩
  have hin := Takes_in1 69 (Sl.lv _ 1 b) hb g z (by omega) (by omega) c3 (by omega) H.n (H.n + 1) (H.n + 2) (.pointer none) (H := ((H.push ⟨[lv encB b], 1, false⟩).push ⟨[.int .i64 g, .int .i64 z], 1, false⟩).push ⟨[.pointer none], 1, false⟩) (by simp) (by simp) (by simp)
  have hrd := fun H' => lookRead_run 69 (H := H') (Sl.lv H' 1 b) hb g z (by omega)
  have hbad : badS g z = false := by unfold badS; simp; omega
  have c6 : ((z == 2) = false → (z == 4) = true) := by simp; omega
  unfold lookO lookN at hrd
  rw [hbad] at hrd
  cases h : lookS b g z with
  | none =>
    rw [h] at hin hrd
    simp [lookV] at hrd
    have ht := Try_no 69 F.swashlaw06_LookupTakes_in1 #[.pointer (some ⟨H.n, 0, none⟩), .pointer (some ⟨H.n + 1, 0, none⟩), .pointer (some ⟨H.n + 2, 0, none⟩)] hin
    refine nrm_gc ⟨_, ?_, hx3⟩ (.bool _)
    rcases c3 with rfl | rfl <;> simp -implicitDefEqProofs (disch := omega) [swashlaw06_LookupTakes, speaks06_run, hl', i0, i1, c1, c2, bne, ht, hrd, lookV]
  | some x =>
    rw [h] at hin hrd
    simp [lookV] at hrd
    have ht := Try_ok 69 F.swashlaw06_LookupTakes_in1 #[.pointer (some ⟨H.n, 0, none⟩), .pointer (some ⟨H.n + 1, 0, none⟩), .pointer (some ⟨H.n + 2, 0, none⟩)] hin
    simp at ht
    have hok := lookS_ok hb (by omega) (by omega) c3 h
    have hpl := lookS_len hb h
    have hx4 := hx2.push ⟨[tabV x], 1, false⟩
    have hget := fun id H' => Get_run 69 x hok.2.1 hok.2.2 id hpl H'
    have hmost := fun H' => Most_run 69 x hok.2.1 hpl H'
    have hform := fun H' => Format_run 69 x H'
    obtain ⟨y, e', H1, hr, rfl, rfl, a, rfl⟩ := loop_up (body := swashlaw06_LookupTakes_l1 69 (R (T 69))) 301
      (fun j e H' => H' = (((H.push ⟨[lv encB b], 1, false⟩).push ⟨[.int .i64 g, .int .i64 z], 1, false⟩).push ⟨[tabV x], 1, false⟩) ∧ e = [(5, .pointer (some ⟨H.n + 2, 0, none⟩)), (7, tabV x), (9, .int .i64 ((j : Int) - 1))])
      (fun y e H' => H' = (((H.push ⟨[lv encB b], 1, false⟩).push ⟨[.int .i64 g, .int .i64 z], 1, false⟩).push ⟨[tabV x], 1, false⟩) ∧ y = .exit 0 ∧ ∃ a, e = [(5, .pointer (some ⟨H.n + 2, 0, none⟩)), (7, tabV x), (9, .int .i64 300), (69, a)])
      (e0 := [(5, .pointer (some ⟨H.n + 2, 0, none⟩)), (7, tabV x), (9, .int .i64 (-1))]) (H0 := (((H.push ⟨[lv encB b], 1, false⟩).push ⟨[.int .i64 g, .int .i64 z], 1, false⟩).push ⟨[tabV x], 1, false⟩)) ⟨rfl, rfl⟩ (by omega)
      (fun j e H' hj ⟨hH, he⟩ => by
        subst he hH
        have hlt : (j : Int) - 1 < 300 := by omega
        refine .inl ⟨_, _, ?_, rfl, rfl⟩
        rw [swashlaw06_LookupTakes_l1_eq, show ((j + 1 : Nat) : Int) - 1 = (j : Int) - 1 + 1 by omega]
        simp -implicitDefEqProofs (disch := omega) [hlt, hget])
      (fun e H' ⟨hH, he⟩ => by
        subst he hH
        refine ⟨.exit 0, _, _, ?_, by simp, rfl, rfl, .bool false, rfl⟩
        rw [swashlaw06_LookupTakes_l1_eq]
        simp -implicitDefEqProofs (disch := omega))
    refine nrm_gc ⟨_, ?_, hx4⟩ (.bool _)
    rcases c3 with rfl | rfl <;> simp -implicitDefEqProofs (disch := omega) [swashlaw06_LookupTakes, speaks06_run, hl', i0, i1, c1, c2, bne, ht, hrd, hr, swashlaw06_LookupTakes_l1k_x0, hmost, hform]

theorem LookupTakes_args (vs : List Value) (h : ArgsLay [.one (.slice [.int .u8]), .agg [.int .i64, .int .i64]] vs) : ∃ H', R (T 69) F.swashlaw06_LookupTakes vs Heap.empty = .ok (.bool true) H' := by
  obtain ⟨v1, _, rfl, h1, h⟩ := h.head
  obtain ⟨v2, _, rfl, h2, h⟩ := h.head
  obtain rfl := h.done
  obtain ⟨b, rfl, hb⟩ := arg_B h1
  obtain ⟨g, z, rfl, _, _⟩ := arg_ii h2
  exact ⟨_, LookupTakes_run b hb g z⟩
end Go.Sw
