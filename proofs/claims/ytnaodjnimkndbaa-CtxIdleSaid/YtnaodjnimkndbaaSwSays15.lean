/-
  A speaking function, run by itself, answers true.
-/
import Derived.Test.YtnaodjnimkndbaaSwCfg
namespace Go.Sw
set_option maxRecDepth 100000 in
theorem says15 : okTrue (run (baseCfg Prog kpS moreS) 20 133 [] Heap.empty) = true := by kernel_rfl
end Go.Sw
