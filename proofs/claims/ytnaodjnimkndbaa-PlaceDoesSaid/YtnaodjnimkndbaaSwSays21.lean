/-
  The speaking function of layer 21, run by itself, answers true.
-/
import Derived.Test.YtnaodjnimkndbaaSwCfg
namespace Go.Sw
set_option maxRecDepth 100000 in
theorem says21 : okTrue (run (baseCfg Prog kpS moreS) 10 43 [] Heap.empty) = true := by kernel_rfl
end Go.Sw
