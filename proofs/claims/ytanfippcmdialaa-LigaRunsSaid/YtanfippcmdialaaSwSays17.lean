/-
  A speaking function, run by itself, answers true.
-/
import Derived.Test.YtanfippcmdialaaSwCfg
namespace Go.Sw
set_option maxRecDepth 100000 in
theorem says17:okTrue (run (baseCfg Prog kpS moreS) 20 52 [] Heap.empty) = true:=by kernel_rfl
end Go.Sw
