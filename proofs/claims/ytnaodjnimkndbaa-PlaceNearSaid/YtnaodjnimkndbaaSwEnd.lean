/-
  The seat's program: its names, its ways of drawing; and a law's call by its evaluator's answer.
-/
import Derived.Test.YtnaodjnimkndbaaSwCfg
import Derived.Eval
namespace Go.Sw
open Go.RowKit

theorem names_ok : NamesOk Prog := NamesOk.of (by kernel_rfl)
theorem mixed_ok : Prog.follows .mixedOrders = true := Checked.mixed Go.Proofs.Try.checked
theorem try_is : SpIs Prog tryT trySp := SpIs.stuck _ _
/-- Any law whose speaking function, run by itself, answers true. -/
theorem law_holds {k n m f : Nat} {args args' : List Value} {H H' : Heap} {μ : Mu} {w : World} (hsp : okTrue (run (plainCfg Prog kpS) m k [] Heap.empty) = true)
    (hH : HR (Base.start w) μ H w) (hargs : VRs μ args args') (hrun : run (C k) n f args H = .ok (.bool true) H') :
    Calls Prog f args'.toArray w fun e w' => e = .returned (.bool true) ∧ Below w.heap.size w w' :=
  law_of (c := C k) names_ok mixed_ok (SpOk.of (run_ok (c := plainCfg Prog kpS) names_ok mixed_ok (SpOk.plain _ _) m) hsp try_is) hH hargs hrun
end Go.Sw
