/-
  Small laws of operations.
-/
import Derived.Test.YtnaodjnimkndbaaSwCp
import Derived.Test.YtnaodjnimkndbaaSwLib9
namespace Go.Sw
open Go.RowKit

/-- An element of an array, of one cell. -/
theorem iv1_get {len : Nat} {cs : Array Value} {k : IntKind} {j : Nat} {v : Value} (hj : j < len) (h : cs[j]? = some v) (H : Heap) : iv1 len 1 (.agg cs) (.int k (j : Nat)) H = .ok v H := by
  unfold iv1
  dsimp only
  rw [if_pos ⟨by omega, by omega⟩, Int.toNat_natCast, Nat.mul_one, h]
  rfl
theorem ixA_get {len m b off : Nat} {k : IntKind} {j : Nat} (hj : j < len) (H : Heap) : ixA len m (.pointer (some ⟨b, off, none⟩)) (.int k (j : Nat)) H = .ok (.pointer (some ⟨b, off + j * m, none⟩)) H := by
  unfold ixA
  dsimp only
  rw [if_pos ⟨by omega, by omega⟩, Int.toNat_natCast]
end Go.Sw
