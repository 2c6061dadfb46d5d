/-
  A speaking function, run by itself, answers true.
-/
import Derived.Test.YtnaodjnimkndbaaSwCfg
namespace Go.Sw
set_option maxRecDepth 100000 in
theorem says11 : okTrue (run (baseCfg Prog kpS moreS) 20 62 [] Heap.empty) = true := by kernel_rfl
end Go.Sw
