/-
  The statement PlaceNear, as the evaluator has it: it answers true, of any three numbers.
-/
import Derived.Test.YtnaodjnimkndbaaSwPlaceA
import Derived.Test.YtnaodjnimkndbaaSwLawPlaceAdds
import Derived.Test.YtnaodjnimkndbaaSwGswashlaw21
namespace Go.Sw

theorem beqI (a b : Int) : (a == b) = decide (a = b) := by
  by_cases h : a = b <;> simp [h]
theorem bneI (a b : Int) : (a != b) = !decide (a = b) := by
  by_cases h : a = b <;> simp [h]
theorem clampI_mono {a b : Int} (h : a ≤ b) : clampI a ≤ clampI b := by unfold clampI; omega
theorem clampI_in {a : Int} (h1 : -2147483648 ≤ a) (h2 : a ≤ 2147483647) : clampI a = a := by unfold clampI; omega
theorem addI_zero {c : Int} (h1 : -2147483648 ≤ c) (h2 : c ≤ 2147483647) : addI c 0 = c := by
  unfold addI
  rw [clampI_in (a := 0) (by omega) (by omega), Int.add_zero, clampI_in h1 h2]
theorem addI_up {c b : Int} (h1 : -2147483648 ≤ c) (h2 : c ≤ 2147483647) (hb : 0 ≤ b) : c ≤ addI c b := by unfold addI clampI; omega
theorem addI_down {c b : Int} (h1 : -2147483648 ≤ c) (h2 : c ≤ 2147483647) (hb : b ≤ 0) : addI c b ≤ c := by unfold addI clampI; omega

set_option maxHeartbeats 1000000 in
theorem PlaceNear_run (n : Nat) (a b c : Int) (h1 : -2147483648 ≤ c) (h2 : c ≤ 2147483647) (H : Heap) :
    run (C 43) (n + 3) F.swashlaw21_PlaceNear [.int .i64 a, .int .i64 b, .int .i32 c] H = .ok (.bool true) H := by
  have a1 := clampI_lo a
  have a2 := clampI_hi a
  have b1 := clampI_lo b
  have b2 := clampI_hi b
  have wa := wrap_i64 (n := clampI a) (by omega) (by omega)
  have wb := wrap_i64 (n := clampI b) (by omega) (by omega)
  have hz := addI_zero h1 h2
  have hx : 0 ≤ b → c ≤ addI c b := fun h => addI_up h1 h2 h
  have hy : b ≤ 0 → addI c b ≤ c := fun h => addI_down h1 h2 h
  have hm : a ≤ b → ¬ clampI b < clampI a := fun h => by have := clampI_mono h; omega
  have hm2 : b ≤ a → ¬ clampI a < clampI b := fun h => by have := clampI_mono h; omega
  have hs : clampI a = a → clampI b = b → addI a b = addI b a := fun e f => by unfold addI; rw [e, f, Int.add_comm]
  rw [swashlaw21_PlaceNear_run]
  by_cases hab : a ≤ b <;> by_cases hba : b ≤ a <;> first | (exfalso; omega) | skip
  all_goals by_cases hr : clampI a = a <;> by_cases hq : clampI b = b
  all_goals by_cases ht : b ≤ 0 <;> by_cases hu : 0 ≤ b <;> first | (exfalso; omega) | skip
  all_goals have hm' := hm
  all_goals have hm2' := hm2
  all_goals have wa' := wa
  all_goals have wb' := wb
  all_goals try rw [hr] at hm' hm2' wa'
  all_goals try rw [hq] at hm' hm2' wb'
  all_goals have aa : IntKind.i64.wrap (clampI a) = clampI a := wa
  all_goals first
    | have ea := hs hr hq
      have g1 : -2147483648 ≤ a ∧ a ≤ 2147483647 := by rw [hr] at a1 a2; exact ⟨a1, a2⟩
      have g2 : -2147483648 ≤ b ∧ b ≤ 2147483647 := by rw [hq] at b1 b2; exact ⟨b1, b2⟩
      simp -implicitDefEqProofs [swashlaw21_PlaceNear, speaks21_run, Clamp_run, Add_run _ _ c b h1 h2, Add_run _ _ c 0 h1 h2, Add_run _ _ a b g1.1 g1.2, Add_run _ _ b a g2.1 g2.2, hab, hba, hm', hm2', wa', wb', hr, hq, ht, hu, hx, hy, hz, ea]
    | simp -implicitDefEqProofs [swashlaw21_PlaceNear, speaks21_run, Clamp_run, Add_run _ _ c b h1 h2, Add_run _ _ c 0 h1 h2, hab, hba, hm', hm2', wa', wb', hr, hq, ht, hu, hx, hy, hz, beqI]
end Go.Sw
