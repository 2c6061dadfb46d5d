/-
  The statement PlaceAdds, as the evaluator has it: it answers true, of any two numbers.
-/
import Derived.Test.YtnaodjnimkndbaaSwPlaceA
import Derived.Test.YtnaodjnimkndbaaSwGswashlaw21
namespace Go.Sw

theorem speaks21_run (n : Nat) (H : Heap) : run (C 43) (n + 1) F.swashlaw21_speaks [] H = .ok (.bool true) H :=
  run_sp (s := constSp (.bool true)) (by kernel_rfl)

theorem PlaceAdds_run (n : Nat) (a x : Int) (h1 : -2147483648 ≤ a) (h2 : a ≤ 2147483647) (H : Heap) :
    run (C 43) (n + 3) F.swashlaw21_PlaceAdds [.int .i32 a, .int .i64 x] H = .ok (.bool true) H := by
  have := clampI_lo x
  have := clampI_hi x
  rw [swashlaw21_PlaceAdds_run]
  simp -implicitDefEqProofs only [swashlaw21_PlaceAdds, speaks21_run, Clamp_run, refClamp_run, Add_run _ _ a x h1 h2, refAdd_run _ _ a x h1 h2, Res.bind_ok, wantVal_bool, cv_21_3, cvK_int, bin_eql,
    condV_bool, beq_self_eq_true, cond_true, if_true, wrap_i64 (n := clampI x) (by omega) (by omega)]
end Go.Sw
