/-
  Numbers within 32 bits: what place and the document make of them.
-/
import Derived.Test.YtnaodjnimkndbaaSwGplace
import Derived.Test.YtnaodjnimkndbaaSwGswashref21
namespace Go.Sw

/-- A number within 32 bits, as near as can be. -/
def clampI (n : Int) : Int := if n > 2147483647 then 2147483647 else if n < -2147483648 then -2147483648 else n
theorem clampI_lo (n : Int) : -2147483648 ≤ clampI n := by unfold clampI; omega
theorem clampI_hi (n : Int) : clampI n ≤ 2147483647 := by unfold clampI; omega

theorem Clamp_run (k n : Nat) (x : Int) (H : Heap) : run (C k) (n + 1) F.place_Clamp [.int .i64 x] H = .ok (.int .i32 (clampI x)) H := by
  rw [place_Clamp_run]
  simp only [place_Clamp, max_int, min_int, Res.bind_ok, cv_3_21, cvK_int]
  congr 2
  unfold clampI
  rw [wrap_i32] <;> omega

theorem refClamp_run (k n : Nat) (x : Int) (H : Heap) : run (C k) (n + 1) F.swashref21_Clamp [.int .i64 x] H = .ok (.int .i64 (clampI x)) H := by
  rw [swashref21_Clamp_run]
  simp only [swashref21_Clamp, bin_gtr, bin_lss, Res.bind_ok, condV_bool, clampI]
  by_cases h1 : x > 2147483647
  · simp [h1]
  · by_cases h2 : x < -2147483648 <;> simp [h1, h2]

/-- Two numbers together, within 32 bits. -/
def addI (a n : Int) : Int := clampI (a + clampI n)

theorem Add_run (k n : Nat) (a x : Int) (h1 : -2147483648 ≤ a) (h2 : a ≤ 2147483647) (H : Heap) :
    run (C k) (n + 2) F.place_Add [.int .i32 a, .int .i64 x] H = .ok (.int .i32 (addI a x)) H := by
  have := clampI_lo x
  have := clampI_hi x
  rw [place_Add_run]
  simp only [place_Add, Clamp_run, Res.bind_ok, cv_21_3, cvK_int, bin_add, addI]
  rw [wrap_i64 (n := a) (by omega) (by omega), wrap_i64 (n := clampI x) (by omega) (by omega), wrap_i64 (by omega) (by omega)]

theorem refAdd_run (k n : Nat) (a x : Int) (h1 : -2147483648 ≤ a) (h2 : a ≤ 2147483647) (H : Heap) :
    run (C k) (n + 2) F.swashref21_Add [.int .i32 a, .int .i64 x] H = .ok (.int .i32 (addI a x)) H := by
  have := clampI_lo x
  have := clampI_hi x
  rw [swashref21_Add_run]
  simp only [swashref21_Add, refClamp_run, Res.bind_ok, cv_21_3, cv_3_21, cvK_int, bin_add, addI]
  have h3 := clampI_lo (a + clampI x)
  have h4 := clampI_hi (a + clampI x)
  rw [wrap_i64 (n := a) (by omega) (by omega), wrap_i64 (by omega) (by omega), wrap_i32 (by omega) (by omega)]
end Go.Sw
