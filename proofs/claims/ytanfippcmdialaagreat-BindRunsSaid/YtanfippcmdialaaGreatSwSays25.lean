/-
  A speaking function, run by itself, answers true.
-/
import Derived.Test.YtanfippcmdialaaGreatSwCfg
namespace Go.Sw
set_option maxRecDepth 100000 in
theorem D3s:A89 (run (A57 A0 kpS A4j) 20 28 [] A2.empty)=true:=by kernel_rfl
end Go.Sw
