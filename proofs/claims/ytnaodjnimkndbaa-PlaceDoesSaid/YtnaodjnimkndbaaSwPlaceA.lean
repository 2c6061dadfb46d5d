/-
  Numbers within 32 bits: what place and the document make of them.
-/
import Derived.Test.YtnaodjnimkndbaaSwAH
import Derived.Test.YtnaodjnimkndbaaSwGplace
import Derived.Test.YtnaodjnimkndbaaSwGswashref21
namespace Go.Sw

/-- A number within 32 bits, as near as can be. -/
def clampI (n : Int) : Int := if n > 2147483647 then 2147483647 else if n < -2147483648 then -2147483648 else n
theorem clampI_lo (n : Int) : -2147483648 ≤ clampI n := by unfold clampI; omega
theorem clampI_hi (n : Int) : clampI n ≤ 2147483647 := by unfold clampI; omega

@[simp] theorem Clamp_run (k : Nat) (x : Int) (H : Heap) : R (T k) F.place_Clamp [.int .i64 x] H = .ok (.int .i32 (clampI x)) H := by
  rw [place_Clamp_R]
  refine nrm_gc (Pure.of ?_) (.int _ _)
  simp only [place_Clamp, max_int, min_int, Res.bind_ok, cv_3_21, cvK_int]
  congr 2
  unfold clampI
  rw [wrap_i32] <;> omega

@[simp] theorem refClamp_run (k : Nat) (x : Int) (H : Heap) : R (T k) F.swashref21_Clamp [.int .i64 x] H = .ok (.int .i64 (clampI x)) H := by
  rw [swashref21_Clamp_R]
  refine nrm_gc (Pure.of ?_) (.int _ _)
  simp only [swashref21_Clamp, bin_gtr, bin_lss, Res.bind_ok, condV_bool, clampI]
  by_cases h1 : x > 2147483647
  · simp [h1]
  · by_cases h2 : x < -2147483648 <;> simp [h1, h2]

/-- Two numbers together, within 32 bits. -/
def addI (a n : Int) : Int := clampI (a + clampI n)
theorem addI_lo (a n : Int) : -2147483648 ≤ addI a n := clampI_lo _
theorem addI_hi (a n : Int) : addI a n ≤ 2147483647 := clampI_hi _

theorem Add_run (k : Nat) (a x : Int) (h1 : -2147483648 ≤ a) (h2 : a ≤ 2147483647) (H : Heap) : R (T k) F.place_Add [.int .i32 a, .int .i64 x] H = .ok (.int .i32 (addI a x)) H := by
  have := clampI_lo x
  have := clampI_hi x
  rw [place_Add_R]
  refine nrm_gc (Pure.of ?_) (.int _ _)
  simp (disch := omega) [place_Add, addI]

theorem refAdd_run (k : Nat) (a x : Int) (h1 : -2147483648 ≤ a) (h2 : a ≤ 2147483647) (H : Heap) : R (T k) F.swashref21_Add [.int .i32 a, .int .i64 x] H = .ok (.int .i32 (addI a x)) H := by
  have := clampI_lo x
  have := clampI_hi x
  have h3 := clampI_lo (a + clampI x)
  have h4 := clampI_hi (a + clampI x)
  rw [swashref21_Add_R]
  refine nrm_gc (Pure.of ?_) (.int _ _)
  simp (disch := omega) [swashref21_Add, addI]

/-- How far a glyph moves on, and stands off. -/
structure Pl where
  adv : Int
  x : Int
  y : Int
  deriving DecidableEq
def Pl.ok (p : Pl) : Prop := (-2147483648 ≤ p.adv ∧ p.adv ≤ 2147483647) ∧ (-2147483648 ≤ p.x ∧ p.x ≤ 2147483647) ∧ (-2147483648 ≤ p.y ∧ p.y ≤ 2147483647)
abbrev encP (p : Pl) : List Value := [.int .i32 p.adv, .int .i32 p.x, .int .i32 p.y]
abbrev encI (n : Int) : List Value := [.int .i64 n]
theorem encP_len (p : Pl) : (encP p).length = 3 := rfl
theorem encI_len (n : Int) : (encI n).length = 1 := rfl
theorem encP_still (l : List Pl) : ∀ p, p ∈ l → ∀ v, v ∈ encP p → Still v := by
  intro p _ v hv
  simp [encP] at hv
  rcases hv with rfl | rfl | rfl <;> trivial
theorem encP_flat (l : List Pl) : ∀ p, p ∈ l → Flats (encP p) := fun p _ => .cons (.int _ _) (.cons (.int _ _) (.cons (.int _ _) .nil))
end Go.Sw
