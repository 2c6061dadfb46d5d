/-
  A speaking function, run by itself, answers true.
-/
import Derived.Test.YtanfippcmdialaaGreatSwLib6
import Derived.Test.YtanfippcmdialaaGreatSwLib7
import Derived.Defers
import Derived.Test.YtanfippcmdialaaGreatSwLib10
section
namespace Go.Sw
open Go.RowKit
section
variable {c:Cfg} {call:A8} {w0:G4} {nt:Nat} {draw:A2h} {kp:Nat→List Nat}
end
end Go.Sw
end
