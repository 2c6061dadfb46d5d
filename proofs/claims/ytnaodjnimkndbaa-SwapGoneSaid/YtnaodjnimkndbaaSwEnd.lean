/-
  The seat's program: its names, its ways of drawing, its told functions; and a law's call by its evaluator's answer.
-/
import Derived.Test.YtnaodjnimkndbaaSwGslices
import Derived.Test.YtnaodjnimkndbaaSwTry
import Derived.Test.YtnaodjnimkndbaaSwLib8
import Derived.Eval
namespace Go.Sw
open Go.RowKit

theorem names_ok : NamesOk Prog := NamesOk.of (by kernel_rfl)
theorem mixed_ok : Prog.follows .mixedOrders = true := Checked.mixed Go.Proofs.Try.checked
theorem laid_ok : laidOutB Prog = true := by kernel_rfl

theorem cloneP_is : SpIs Prog F.slices_Clone_of_api_Place_api_Place fun _ args H => cloneV 3 12 args H :=
  clone_is (c := { P := Prog, kp := kpS, sp := fun _ => none }) names_ok mixed_ok (t := 31) (e := 34) (by kernel_rfl) fun call a H => (slices_Clone_of_api_Place_api_Place_body 0 _ call a H).trans (by
    unfold slices_Clone_of_api_Place_api_Place cloneF
    simp only [be_31_0, ap_31, beR_bare])
theorem cloneG_is : SpIs Prog F.slices_Clone_of_api_Glyph_api_Glyph fun _ args H => cloneV 2 16 args H :=
  clone_is (c := { P := Prog, kp := kpS, sp := fun _ => none }) names_ok mixed_ok (t := 50) (e := 55) (by kernel_rfl) fun call a H => (slices_Clone_of_api_Glyph_api_Glyph_body 0 _ call a H).trans (by
    unfold slices_Clone_of_api_Glyph_api_Glyph cloneF
    simp only [be_50_0, ap_50, beR_bare])

theorem more_is (f : FuncId) (s : Sp) (h : moreS f = some s) : SpIs Prog f s := by
  unfold moreS at h
  cases h1 : Nat.beq f 77 with
  | true => have := Nat.eq_of_beq_eq_true h1; subst this; rw [h1, cond_true] at h; injection h with h; subst h; exact try_is
  | false =>
  rw [h1, cond_false] at h
  cases h2 : Nat.beq f 147 with
  | true => have := Nat.eq_of_beq_eq_true h2; subst this; rw [h2, cond_true] at h; injection h with h; subst h; exact cloneP_is
  | false =>
  rw [h2, cond_false] at h
  cases h3 : Nat.beq f 151 with
  | true => have := Nat.eq_of_beq_eq_true h3; subst this; rw [h3, cond_true] at h; injection h with h; subst h; exact cloneG_is
  | false =>
  rw [h3, cond_false] at h
  cases h4 : Nat.beq f 152 with
  | true => rw [h4, cond_true] at h; injection h with h; subst h; exact SpIs.stuck _ _
  | false => rw [h4, cond_false] at h; cases h

theorem T_prog (k : Nat) : (T k).c.P = Prog := by unfold T C; rfl
/-- What is told is told truly, if the speaking function, run by itself, answers true. -/
theorem told_ok {k m : Nat} (hsp : okTrue (run (baseCfg Prog kpS moreS) m (k % 1000000) [] Heap.empty) = true) : SpOk (T k).c := by
  have h0 : CallOk Prog (run (baseCfg Prog kpS moreS) m) := run_ok (c := baseCfg Prog kpS moreS) names_ok mixed_ok (SpOk.base more_is) m
  have h1 : SpOk (C k) := by
    unfold C
    exact SpOk.of (P := Prog) (kp := kpS) (speaks := speaksT) (more := moreS) (k := k % 1000000) h0 hsp more_is
  exact h1
end Go.Sw
