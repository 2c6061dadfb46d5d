/-
  The speaking function of layer 16, run by itself, answers true.
-/
import Derived.Test.YtnaodjnimkndbaaSwCfg
namespace Go.Sw
set_option maxRecDepth 100000 in
theorem says16 : okTrue (run (baseCfg Prog kpS moreS) 20 90 [] Heap.empty) = true := by kernel_rfl
end Go.Sw
