/-
  A speaking function, run by itself, answers true.
-/
import Derived.Test.YtanfippcmdialaaSwW5
namespace Go.Sw
set_option maxRecDepth 100000 in
theorem says24 : okTrue (runZ (baseCfg Prog kpS moreS) (mdS 33) 20 33 [] Heap.empty) = true := by kernel_rfl
end Go.Sw
