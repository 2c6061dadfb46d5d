/-
  A speaking function, run by itself, answers true.
-/
import Derived.Test.YtanfippcmdialaaSwLib9
import Derived.RangeFuncIn
import Derived.RangeFuncLeaves
import Derived.RangeFuncSeq
import Derived.RangeFuncRecord
import Derived.LoopNIn
import Derived.OrdersIn
import Derived.Test.YtanfippcmdialaaSwLib7
import Derived.MapKept
import Derived.Carry
section
namespace Go.Sw
open Go.RowKit
section
variable {P:Program} {l n:Nat}
end
section
variable {c:Cfg} {call:Caller} {draw:Draw} {ds:List Deferred} {w0:Base} {nt:Nat} {kp:Nat → List Nat} {l n:Nat}
end
end Go.Sw
end
section
namespace Go.Sw
open Go.RowKit
section
variable {f0:FuncId} {P:Program} {Q:Exit → Act → World → Prop} {a:Act} {w:World}
end
section
variable {c:Cfg} {call:Caller} {draw:Draw} {w0:Base} {nt:Nat} {kp:Nat → List Nat}
end
end Go.Sw
end
section
namespace Go.Sw
open Go.RowKit
section
variable {c:Cfg} {call:Caller} {ds:List Deferred} {w0:Base} {nt:Nat}
variable {draw:Array Oper → Env → Heap → Res Env} {kp:Nat → List Nat} {l n:Nat}
end
section
variable {c:Cfg} {call:Caller} {draw:Draw} {w0:Base} {nt:Nat} {kp:Nat → List Nat}
end
section
variable {c:Cfg} {call:Caller} {draw:Draw} {w0:Base} {nt:Nat} {kp:Nat → List Nat}
end
end Go.Sw
end
