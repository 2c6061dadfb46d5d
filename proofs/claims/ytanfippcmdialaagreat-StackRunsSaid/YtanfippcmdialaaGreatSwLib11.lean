/-
  A speaking function, run by itself, answers true.
-/
import Derived.Test.YtanfippcmdialaaGreatSwLib6
import Derived.Test.YtanfippcmdialaaGreatSwLib7
import Derived.Defers
import Derived.Test.YtanfippcmdialaaGreatSwLib10
section
namespace Go.Sw
open Go.RowKit
section
variable {c:Cfg} {call:Caller} {w0:Base} {nt:Nat} {draw:Draw} {kp:Nat → List Nat}
end
end Go.Sw
end
