/-
  A speaking function, run by itself, answers true.
-/
import Derived.Test.YtanfippcmdialaaGreatSwCfg
namespace Go.Sw
set_option maxRecDepth 100000 in
theorem says23:okTrue (run (baseCfg Prog kpS moreS) 20 10 [] Heap.empty) = true:=by kernel_rfl
end Go.Sw
