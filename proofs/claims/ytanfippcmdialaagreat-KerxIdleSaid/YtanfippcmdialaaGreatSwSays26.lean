/-
  A speaking function, run by itself, answers true.
-/
import Derived.Test.YtanfippcmdialaaGreatSwCfg
namespace Go.Sw
set_option maxRecDepth 100000 in
theorem says26:okTrue (run (baseCfg Prog kpS moreS) 20 38 [] Heap.empty) = true:=by kernel_rfl
end Go.Sw
