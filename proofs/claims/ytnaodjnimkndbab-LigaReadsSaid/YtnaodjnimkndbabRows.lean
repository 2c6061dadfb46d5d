/-
  No cell of these rows narrows 'for every input' (looked for: loops, veiled, ifaces, maps, wideKeys, modest, calm, conditions, laid).
  DERIVED. THE GIVEN ROWS OF THIS SEAT. 22 by the template 'for every input the law returns true; each argument reads behind the call as it read before'; 0 by the template 'total and deterministic' (their statements: YtnaodjnimkndbabTotals.lean).
  GIVEN WITH THE SEED: the statements are not yours to turn. If you find one false, say at which input.
  Laid BY PROGRAM, IN A SANDBOX (cutbox-rows.mjs): the forced cells as the released guide's own fill.sh prints them over the translation 68b09b776d788fbd… (all of the seat's roots in one cut). By AI agents, Wed Nov 11 2026. No macro, syntax, notation, axiom, sorry.
-/
import Derived.Test.YtnaodjnimkndbabChecked
import GoSem.Claim
import GoSem.ClaimJoined
import GoSem.ClaimMapViews
import Derived.JoinedTies
import Derived.KernelRfl
namespace Go.Proofs.Ytnaodjnimkndbab
/- THE CELL 'sum', in the pinned program and in every row, IS THE sha256 OF THE DUMP (.gsa) THAT YtnaodjnimkndbabProg.lean LOADS. Nothing in Lean hashes anything: it is a label: what it is worth is what the hold of that sum in a sandbox is worth. -/
noncomputable def Try.pinned : Pinned := { name := "ytnaodjnimkndbab", sum := "68b09b776d788fbd35022f2f91537801c6b0eedcb5daa8cdc7a6cdd4d06a158c", checked := Try.checked }
namespace Rows
def none {H : Type} : Left H := { results := [], args := [] }

/-- 'swashlaw14.RearIdle': WHATEVER THE INPUT: true; the input reads as it did. -/
def rearIdleSpec : ChangeSpec := { name := "rearIdle", fn := fun _ => fun
  | [d1, d2, d3] => { results := [.lit (.bool true)], args := [d1, d2, d3] }
  | _ => none }
def rearIdleRow : OpenClaim := { program := "ytnaodjnimkndbab", sum := "68b09b776d788fbd35022f2f91537801c6b0eedcb5daa8cdc7a6cdd4d06a158c", func := "swash/swashlaw14.RearIdle", spec := "rearIdle", unfollowed := true, recurses := true, apart := false }
def RearIdleSaid : Prop := rearIdleRow.holds Try.pinned (OpenSpec.ofChange rearIdleSpec)

/-- ITS FALSE NEIGHBOUR: 'it returns false'. Refute it at one input. -/
def rearIdleWrong : ChangeSpec := { name := "rearIdle", fn := fun _ => fun
  | [d1, d2, d3] => { results := [.lit (.bool false)], args := [d1, d2, d3] }
  | _ => none }
def RearIdleWrongFalsely : Prop := rearIdleRow.holds Try.pinned (OpenSpec.ofChange rearIdleWrong)

/-- 'swashlaw14.RearTakes': WHATEVER THE INPUT: true; the input reads as it did. -/
def rearTakesSpec : ChangeSpec := { name := "rearTakes", fn := fun _ => fun
  | [d1, d2] => { results := [.lit (.bool true)], args := [d1, d2] }
  | _ => none }
def rearTakesRow : OpenClaim := { program := "ytnaodjnimkndbab", sum := "68b09b776d788fbd35022f2f91537801c6b0eedcb5daa8cdc7a6cdd4d06a158c", func := "swash/swashlaw14.RearTakes", spec := "rearTakes", unfollowed := true, recurses := true, apart := false }
def RearTakesSaid : Prop := rearTakesRow.holds Try.pinned (OpenSpec.ofChange rearTakesSpec)

/-- ITS FALSE NEIGHBOUR: 'it returns false'. Refute it at one input. -/
def rearTakesWrong : ChangeSpec := { name := "rearTakes", fn := fun _ => fun
  | [d1, d2] => { results := [.lit (.bool false)], args := [d1, d2] }
  | _ => none }
def RearTakesWrongFalsely : Prop := rearTakesRow.holds Try.pinned (OpenSpec.ofChange rearTakesWrong)

/-- 'swashlaw25.BindTakes': WHATEVER THE INPUT: true; the input reads as it did. -/
def bindTakesSpec : ChangeSpec := { name := "bindTakes", fn := fun _ => fun
  | [d1, d2] => { results := [.lit (.bool true)], args := [d1, d2] }
  | _ => none }
def bindTakesRow : OpenClaim := { program := "ytnaodjnimkndbab", sum := "68b09b776d788fbd35022f2f91537801c6b0eedcb5daa8cdc7a6cdd4d06a158c", func := "swash/swashlaw25.BindTakes", spec := "bindTakes", unfollowed := true, recurses := true, apart := false }
def BindTakesSaid : Prop := bindTakesRow.holds Try.pinned (OpenSpec.ofChange bindTakesSpec)

/-- ITS FALSE NEIGHBOUR: 'it returns false'. Refute it at one input. -/
def bindTakesWrong : ChangeSpec := { name := "bindTakes", fn := fun _ => fun
  | [d1, d2] => { results := [.lit (.bool false)], args := [d1, d2] }
  | _ => none }
def BindTakesWrongFalsely : Prop := bindTakesRow.holds Try.pinned (OpenSpec.ofChange bindTakesWrong)

/-- 'swashlaw23.StackReads': WHATEVER THE INPUT: true; the input reads as it did. -/
def stackReadsSpec : ChangeSpec := { name := "stackReads", fn := fun _ => fun
  | [d1, d2, d3] => { results := [.lit (.bool true)], args := [d1, d2, d3] }
  | _ => none }
def stackReadsRow : OpenClaim := { program := "ytnaodjnimkndbab", sum := "68b09b776d788fbd35022f2f91537801c6b0eedcb5daa8cdc7a6cdd4d06a158c", func := "swash/swashlaw23.StackReads", spec := "stackReads", unfollowed := true, recurses := true, apart := false }
def StackReadsSaid : Prop := stackReadsRow.holds Try.pinned (OpenSpec.ofChange stackReadsSpec)

/-- ITS FALSE NEIGHBOUR: 'it returns false'. Refute it at one input. -/
def stackReadsWrong : ChangeSpec := { name := "stackReads", fn := fun _ => fun
  | [d1, d2, d3] => { results := [.lit (.bool false)], args := [d1, d2, d3] }
  | _ => none }
def StackReadsWrongFalsely : Prop := stackReadsRow.holds Try.pinned (OpenSpec.ofChange stackReadsWrong)

/-- 'swashlaw23.StackLong': WHATEVER THE INPUT: true; the input reads as it did. -/
def stackLongSpec : ChangeSpec := { name := "stackLong", fn := fun _ => fun
  | [d1, d2] => { results := [.lit (.bool true)], args := [d1, d2] }
  | _ => none }
def stackLongRow : OpenClaim := { program := "ytnaodjnimkndbab", sum := "68b09b776d788fbd35022f2f91537801c6b0eedcb5daa8cdc7a6cdd4d06a158c", func := "swash/swashlaw23.StackLong", spec := "stackLong", unfollowed := true, recurses := true, apart := false }
def StackLongSaid : Prop := stackLongRow.holds Try.pinned (OpenSpec.ofChange stackLongSpec)

/-- ITS FALSE NEIGHBOUR: 'it returns false'. Refute it at one input. -/
def stackLongWrong : ChangeSpec := { name := "stackLong", fn := fun _ => fun
  | [d1, d2] => { results := [.lit (.bool false)], args := [d1, d2] }
  | _ => none }
def StackLongWrongFalsely : Prop := stackLongRow.holds Try.pinned (OpenSpec.ofChange stackLongWrong)

/-- 'swashlaw23.StackTakes': WHATEVER THE INPUT: true; the input reads as it did. -/
def stackTakesSpec : ChangeSpec := { name := "stackTakes", fn := fun _ => fun
  | [d1, d2] => { results := [.lit (.bool true)], args := [d1, d2] }
  | _ => none }
def stackTakesRow : OpenClaim := { program := "ytnaodjnimkndbab", sum := "68b09b776d788fbd35022f2f91537801c6b0eedcb5daa8cdc7a6cdd4d06a158c", func := "swash/swashlaw23.StackTakes", spec := "stackTakes", unfollowed := true, recurses := true, apart := false }
def StackTakesSaid : Prop := stackTakesRow.holds Try.pinned (OpenSpec.ofChange stackTakesSpec)

/-- ITS FALSE NEIGHBOUR: 'it returns false'. Refute it at one input. -/
def stackTakesWrong : ChangeSpec := { name := "stackTakes", fn := fun _ => fun
  | [d1, d2] => { results := [.lit (.bool false)], args := [d1, d2] }
  | _ => none }
def StackTakesWrongFalsely : Prop := stackTakesRow.holds Try.pinned (OpenSpec.ofChange stackTakesWrong)

/-- 'swashlaw23.StackSides': WHATEVER THE INPUT: true; the input reads as it did. -/
def stackSidesSpec : ChangeSpec := { name := "stackSides", fn := fun _ => fun
  | [d1, d2, d3] => { results := [.lit (.bool true)], args := [d1, d2, d3] }
  | _ => none }
def stackSidesRow : OpenClaim := { program := "ytnaodjnimkndbab", sum := "68b09b776d788fbd35022f2f91537801c6b0eedcb5daa8cdc7a6cdd4d06a158c", func := "swash/swashlaw23.StackSides", spec := "stackSides", unfollowed := true, recurses := true, apart := false }
def StackSidesSaid : Prop := stackSidesRow.holds Try.pinned (OpenSpec.ofChange stackSidesSpec)

/-- ITS FALSE NEIGHBOUR: 'it returns false'. Refute it at one input. -/
def stackSidesWrong : ChangeSpec := { name := "stackSides", fn := fun _ => fun
  | [d1, d2, d3] => { results := [.lit (.bool false)], args := [d1, d2, d3] }
  | _ => none }
def StackSidesWrongFalsely : Prop := stackSidesRow.holds Try.pinned (OpenSpec.ofChange stackSidesWrong)

/-- 'swashlaw17.LigaReads': WHATEVER THE INPUT: true; the input reads as it did. -/
def ligaReadsSpec : ChangeSpec := { name := "ligaReads", fn := fun _ => fun
  | [d1, d2, d3] => { results := [.lit (.bool true)], args := [d1, d2, d3] }
  | _ => none }
def ligaReadsRow : OpenClaim := { program := "ytnaodjnimkndbab", sum := "68b09b776d788fbd35022f2f91537801c6b0eedcb5daa8cdc7a6cdd4d06a158c", func := "swash/swashlaw17.LigaReads", spec := "ligaReads", unfollowed := true, recurses := true, apart := false }
def LigaReadsSaid : Prop := ligaReadsRow.holds Try.pinned (OpenSpec.ofChange ligaReadsSpec)

/-- ITS FALSE NEIGHBOUR: 'it returns false'. Refute it at one input. -/
def ligaReadsWrong : ChangeSpec := { name := "ligaReads", fn := fun _ => fun
  | [d1, d2, d3] => { results := [.lit (.bool false)], args := [d1, d2, d3] }
  | _ => none }
def LigaReadsWrongFalsely : Prop := ligaReadsRow.holds Try.pinned (OpenSpec.ofChange ligaReadsWrong)

/-- 'swashlaw17.LigaRuns': WHATEVER THE INPUT: true; the input reads as it did. -/
def ligaRunsSpec : ChangeSpec := { name := "ligaRuns", fn := fun _ => fun
  | [d1, d2] => { results := [.lit (.bool true)], args := [d1, d2] }
  | _ => none }
def ligaRunsRow : OpenClaim := { program := "ytnaodjnimkndbab", sum := "68b09b776d788fbd35022f2f91537801c6b0eedcb5daa8cdc7a6cdd4d06a158c", func := "swash/swashlaw17.LigaRuns", spec := "ligaRuns", unfollowed := true, recurses := true, apart := false }
def LigaRunsSaid : Prop := ligaRunsRow.holds Try.pinned (OpenSpec.ofChange ligaRunsSpec)

/-- ITS FALSE NEIGHBOUR: 'it returns false'. Refute it at one input. -/
def ligaRunsWrong : ChangeSpec := { name := "ligaRuns", fn := fun _ => fun
  | [d1, d2] => { results := [.lit (.bool false)], args := [d1, d2] }
  | _ => none }
def LigaRunsWrongFalsely : Prop := ligaRunsRow.holds Try.pinned (OpenSpec.ofChange ligaRunsWrong)

/-- 'swashlaw17.LigaLess': WHATEVER THE INPUT: true; the input reads as it did. -/
def ligaLessSpec : ChangeSpec := { name := "ligaLess", fn := fun _ => fun
  | [d1, d2] => { results := [.lit (.bool true)], args := [d1, d2] }
  | _ => none }
def ligaLessRow : OpenClaim := { program := "ytnaodjnimkndbab", sum := "68b09b776d788fbd35022f2f91537801c6b0eedcb5daa8cdc7a6cdd4d06a158c", func := "swash/swashlaw17.LigaLess", spec := "ligaLess", unfollowed := true, recurses := true, apart := false }
def LigaLessSaid : Prop := ligaLessRow.holds Try.pinned (OpenSpec.ofChange ligaLessSpec)

/-- ITS FALSE NEIGHBOUR: 'it returns false'. Refute it at one input. -/
def ligaLessWrong : ChangeSpec := { name := "ligaLess", fn := fun _ => fun
  | [d1, d2] => { results := [.lit (.bool false)], args := [d1, d2] }
  | _ => none }
def LigaLessWrongFalsely : Prop := ligaLessRow.holds Try.pinned (OpenSpec.ofChange ligaLessWrong)

/-- 'swashlaw17.LigaLong': WHATEVER THE INPUT: true; the input reads as it did. -/
def ligaLongSpec : ChangeSpec := { name := "ligaLong", fn := fun _ => fun
  | [d1, d2] => { results := [.lit (.bool true)], args := [d1, d2] }
  | _ => none }
def ligaLongRow : OpenClaim := { program := "ytnaodjnimkndbab", sum := "68b09b776d788fbd35022f2f91537801c6b0eedcb5daa8cdc7a6cdd4d06a158c", func := "swash/swashlaw17.LigaLong", spec := "ligaLong", unfollowed := true, recurses := true, apart := false }
def LigaLongSaid : Prop := ligaLongRow.holds Try.pinned (OpenSpec.ofChange ligaLongSpec)

/-- ITS FALSE NEIGHBOUR: 'it returns false'. Refute it at one input. -/
def ligaLongWrong : ChangeSpec := { name := "ligaLong", fn := fun _ => fun
  | [d1, d2] => { results := [.lit (.bool false)], args := [d1, d2] }
  | _ => none }
def LigaLongWrongFalsely : Prop := ligaLongRow.holds Try.pinned (OpenSpec.ofChange ligaLongWrong)

/-- 'swashlaw17.LigaIdle': WHATEVER THE INPUT: true; the input reads as it did. -/
def ligaIdleSpec : ChangeSpec := { name := "ligaIdle", fn := fun _ => fun
  | [d1, d2, d3] => { results := [.lit (.bool true)], args := [d1, d2, d3] }
  | _ => none }
def ligaIdleRow : OpenClaim := { program := "ytnaodjnimkndbab", sum := "68b09b776d788fbd35022f2f91537801c6b0eedcb5daa8cdc7a6cdd4d06a158c", func := "swash/swashlaw17.LigaIdle", spec := "ligaIdle", unfollowed := true, recurses := true, apart := false }
def LigaIdleSaid : Prop := ligaIdleRow.holds Try.pinned (OpenSpec.ofChange ligaIdleSpec)

/-- ITS FALSE NEIGHBOUR: 'it returns false'. Refute it at one input. -/
def ligaIdleWrong : ChangeSpec := { name := "ligaIdle", fn := fun _ => fun
  | [d1, d2, d3] => { results := [.lit (.bool false)], args := [d1, d2, d3] }
  | _ => none }
def LigaIdleWrongFalsely : Prop := ligaIdleRow.holds Try.pinned (OpenSpec.ofChange ligaIdleWrong)

/-- 'swashlaw17.LigaTakes': WHATEVER THE INPUT: true; the input reads as it did. -/
def ligaTakesSpec : ChangeSpec := { name := "ligaTakes", fn := fun _ => fun
  | [d1, d2] => { results := [.lit (.bool true)], args := [d1, d2] }
  | _ => none }
def ligaTakesRow : OpenClaim := { program := "ytnaodjnimkndbab", sum := "68b09b776d788fbd35022f2f91537801c6b0eedcb5daa8cdc7a6cdd4d06a158c", func := "swash/swashlaw17.LigaTakes", spec := "ligaTakes", unfollowed := true, recurses := true, apart := false }
def LigaTakesSaid : Prop := ligaTakesRow.holds Try.pinned (OpenSpec.ofChange ligaTakesSpec)

/-- ITS FALSE NEIGHBOUR: 'it returns false'. Refute it at one input. -/
def ligaTakesWrong : ChangeSpec := { name := "ligaTakes", fn := fun _ => fun
  | [d1, d2] => { results := [.lit (.bool false)], args := [d1, d2] }
  | _ => none }
def LigaTakesWrongFalsely : Prop := ligaTakesRow.holds Try.pinned (OpenSpec.ofChange ligaTakesWrong)

/-- 'swashlaw25.BindFirst': WHATEVER THE INPUT: true; the input reads as it did. -/
def bindFirstSpec : ChangeSpec := { name := "bindFirst", fn := fun _ => fun
  | [d] => { results := [.lit (.bool true)], args := [d] }
  | _ => none }
def bindFirstRow : OpenClaim := { program := "ytnaodjnimkndbab", sum := "68b09b776d788fbd35022f2f91537801c6b0eedcb5daa8cdc7a6cdd4d06a158c", func := "swash/swashlaw25.BindFirst", spec := "bindFirst", unfollowed := true, recurses := true, apart := false }
def BindFirstSaid : Prop := bindFirstRow.holds Try.pinned (OpenSpec.ofChange bindFirstSpec)

/-- ITS FALSE NEIGHBOUR: 'it returns false'. Refute it at one input. -/
def bindFirstWrong : ChangeSpec := { name := "bindFirst", fn := fun _ => fun
  | [d] => { results := [.lit (.bool false)], args := [d] }
  | _ => none }
def BindFirstWrongFalsely : Prop := bindFirstRow.holds Try.pinned (OpenSpec.ofChange bindFirstWrong)

/-- 'swashlaw18.InsMore': WHATEVER THE INPUT: true; the input reads as it did. -/
def insMoreSpec : ChangeSpec := { name := "insMore", fn := fun _ => fun
  | [d1, d2, d3] => { results := [.lit (.bool true)], args := [d1, d2, d3] }
  | _ => none }
def insMoreRow : OpenClaim := { program := "ytnaodjnimkndbab", sum := "68b09b776d788fbd35022f2f91537801c6b0eedcb5daa8cdc7a6cdd4d06a158c", func := "swash/swashlaw18.InsMore", spec := "insMore", inPlace := ["slices.overlaps[swash/api.Glyph]"], unfollowed := true, recurses := true, apart := false }
def InsMoreSaid : Prop := insMoreRow.holds Try.pinned (OpenSpec.ofChange insMoreSpec)

/-- ITS FALSE NEIGHBOUR: 'it returns false'. Refute it at one input. -/
def insMoreWrong : ChangeSpec := { name := "insMore", fn := fun _ => fun
  | [d1, d2, d3] => { results := [.lit (.bool false)], args := [d1, d2, d3] }
  | _ => none }
def InsMoreWrongFalsely : Prop := insMoreRow.holds Try.pinned (OpenSpec.ofChange insMoreWrong)

/-- 'swashlaw18.InsIdle': WHATEVER THE INPUT: true; the input reads as it did. -/
def insIdleSpec : ChangeSpec := { name := "insIdle", fn := fun _ => fun
  | [d1, d2] => { results := [.lit (.bool true)], args := [d1, d2] }
  | _ => none }
def insIdleRow : OpenClaim := { program := "ytnaodjnimkndbab", sum := "68b09b776d788fbd35022f2f91537801c6b0eedcb5daa8cdc7a6cdd4d06a158c", func := "swash/swashlaw18.InsIdle", spec := "insIdle", inPlace := ["slices.overlaps[swash/api.Glyph]"], unfollowed := true, recurses := true, apart := false }
def InsIdleSaid : Prop := insIdleRow.holds Try.pinned (OpenSpec.ofChange insIdleSpec)

/-- ITS FALSE NEIGHBOUR: 'it returns false'. Refute it at one input. -/
def insIdleWrong : ChangeSpec := { name := "insIdle", fn := fun _ => fun
  | [d1, d2] => { results := [.lit (.bool false)], args := [d1, d2] }
  | _ => none }
def InsIdleWrongFalsely : Prop := insIdleRow.holds Try.pinned (OpenSpec.ofChange insIdleWrong)

/-- 'swashlaw18.InsLeft': WHATEVER THE INPUT: true; the input reads as it did. -/
def insLeftSpec : ChangeSpec := { name := "insLeft", fn := fun _ => fun
  | [d1, d2, d3] => { results := [.lit (.bool true)], args := [d1, d2, d3] }
  | _ => none }
def insLeftRow : OpenClaim := { program := "ytnaodjnimkndbab", sum := "68b09b776d788fbd35022f2f91537801c6b0eedcb5daa8cdc7a6cdd4d06a158c", func := "swash/swashlaw18.InsLeft", spec := "insLeft", inPlace := ["slices.overlaps[swash/api.Glyph]"], unfollowed := true, recurses := true, apart := false }
def InsLeftSaid : Prop := insLeftRow.holds Try.pinned (OpenSpec.ofChange insLeftSpec)

/-- ITS FALSE NEIGHBOUR: 'it returns false'. Refute it at one input. -/
def insLeftWrong : ChangeSpec := { name := "insLeft", fn := fun _ => fun
  | [d1, d2, d3] => { results := [.lit (.bool false)], args := [d1, d2, d3] }
  | _ => none }
def InsLeftWrongFalsely : Prop := insLeftRow.holds Try.pinned (OpenSpec.ofChange insLeftWrong)

/-- 'swashlaw18.InsTakes': WHATEVER THE INPUT: true; the input reads as it did. -/
def insTakesSpec : ChangeSpec := { name := "insTakes", fn := fun _ => fun
  | [d1, d2] => { results := [.lit (.bool true)], args := [d1, d2] }
  | _ => none }
def insTakesRow : OpenClaim := { program := "ytnaodjnimkndbab", sum := "68b09b776d788fbd35022f2f91537801c6b0eedcb5daa8cdc7a6cdd4d06a158c", func := "swash/swashlaw18.InsTakes", spec := "insTakes", inPlace := ["slices.overlaps[swash/api.Glyph]"], unfollowed := true, recurses := true, apart := false }
def InsTakesSaid : Prop := insTakesRow.holds Try.pinned (OpenSpec.ofChange insTakesSpec)

/-- ITS FALSE NEIGHBOUR: 'it returns false'. Refute it at one input. -/
def insTakesWrong : ChangeSpec := { name := "insTakes", fn := fun _ => fun
  | [d1, d2] => { results := [.lit (.bool false)], args := [d1, d2] }
  | _ => none }
def InsTakesWrongFalsely : Prop := insTakesRow.holds Try.pinned (OpenSpec.ofChange insTakesWrong)

/-- 'swashtop.WholeTotals': WHATEVER THE INPUT: true; the input reads as it did. -/
def wholeTotalsSpec : ChangeSpec := { name := "wholeTotals", fn := fun _ => fun
  | [d1, d2, d3] => { results := [.lit (.bool true)], args := [d1, d2, d3] }
  | _ => none }
def wholeTotalsRow : OpenClaim := { program := "ytnaodjnimkndbab", sum := "68b09b776d788fbd35022f2f91537801c6b0eedcb5daa8cdc7a6cdd4d06a158c", func := "swash/swashtop.WholeTotals", spec := "wholeTotals", unfollowed := true, recurses := true, apart := false }
def WholeTotalsSaid : Prop := wholeTotalsRow.holds Try.pinned (OpenSpec.ofChange wholeTotalsSpec)

/-- ITS FALSE NEIGHBOUR: 'it returns false'. Refute it at one input. -/
def wholeTotalsWrong : ChangeSpec := { name := "wholeTotals", fn := fun _ => fun
  | [d1, d2, d3] => { results := [.lit (.bool false)], args := [d1, d2, d3] }
  | _ => none }
def WholeTotalsWrongFalsely : Prop := wholeTotalsRow.holds Try.pinned (OpenSpec.ofChange wholeTotalsWrong)

/-- 'swashtop.WholeEnds': WHATEVER THE INPUT: true; the input reads as it did. -/
def wholeEndsSpec : ChangeSpec := { name := "wholeEnds", fn := fun _ => fun
  | [d1, d2] => { results := [.lit (.bool true)], args := [d1, d2] }
  | _ => none }
def wholeEndsRow : OpenClaim := { program := "ytnaodjnimkndbab", sum := "68b09b776d788fbd35022f2f91537801c6b0eedcb5daa8cdc7a6cdd4d06a158c", func := "swash/swashtop.WholeEnds", spec := "wholeEnds", unfollowed := true, recurses := true, apart := false }
def WholeEndsSaid : Prop := wholeEndsRow.holds Try.pinned (OpenSpec.ofChange wholeEndsSpec)

/-- ITS FALSE NEIGHBOUR: 'it returns false'. Refute it at one input. -/
def wholeEndsWrong : ChangeSpec := { name := "wholeEnds", fn := fun _ => fun
  | [d1, d2] => { results := [.lit (.bool false)], args := [d1, d2] }
  | _ => none }
def WholeEndsWrongFalsely : Prop := wholeEndsRow.holds Try.pinned (OpenSpec.ofChange wholeEndsWrong)

/-- 'swashtop.WholeWidths': WHATEVER THE INPUT: true; the input reads as it did. -/
def wholeWidthsSpec : ChangeSpec := { name := "wholeWidths", fn := fun _ => fun
  | [d1, d2, d3] => { results := [.lit (.bool true)], args := [d1, d2, d3] }
  | _ => none }
def wholeWidthsRow : OpenClaim := { program := "ytnaodjnimkndbab", sum := "68b09b776d788fbd35022f2f91537801c6b0eedcb5daa8cdc7a6cdd4d06a158c", func := "swash/swashtop.WholeWidths", spec := "wholeWidths", unfollowed := true, recurses := true, apart := false }
def WholeWidthsSaid : Prop := wholeWidthsRow.holds Try.pinned (OpenSpec.ofChange wholeWidthsSpec)

/-- ITS FALSE NEIGHBOUR: 'it returns false'. Refute it at one input. -/
def wholeWidthsWrong : ChangeSpec := { name := "wholeWidths", fn := fun _ => fun
  | [d1, d2, d3] => { results := [.lit (.bool false)], args := [d1, d2, d3] }
  | _ => none }
def WholeWidthsWrongFalsely : Prop := wholeWidthsRow.holds Try.pinned (OpenSpec.ofChange wholeWidthsWrong)

/-- 'swashtop.WholeGrows': WHATEVER THE INPUT: true; the input reads as it did. -/
def wholeGrowsSpec : ChangeSpec := { name := "wholeGrows", fn := fun _ => fun
  | [d] => { results := [.lit (.bool true)], args := [d] }
  | _ => none }
def wholeGrowsRow : OpenClaim := { program := "ytnaodjnimkndbab", sum := "68b09b776d788fbd35022f2f91537801c6b0eedcb5daa8cdc7a6cdd4d06a158c", func := "swash/swashtop.WholeGrows", spec := "wholeGrows", inPlace := ["slices.overlaps[swash/api.Glyph]"], unfollowed := true, recurses := true, apart := false }
def WholeGrowsSaid : Prop := wholeGrowsRow.holds Try.pinned (OpenSpec.ofChange wholeGrowsSpec)

/-- ITS FALSE NEIGHBOUR: 'it returns false'. Refute it at one input. -/
def wholeGrowsWrong : ChangeSpec := { name := "wholeGrows", fn := fun _ => fun
  | [d] => { results := [.lit (.bool false)], args := [d] }
  | _ => none }
def WholeGrowsWrongFalsely : Prop := wholeGrowsRow.holds Try.pinned (OpenSpec.ofChange wholeGrowsWrong)

/- THE SECOND FORM. 'bulk': how many values and letters a reading holds, each counted each time it is reached (what is shared counts as often as it is met; a slice's spare places count too). A statement '..UptoSaid' is the law's where the arguments, and the package variables that the reading takes, are together of bulk at most 1048576: NARROWER than '..Said'. Prove '..Said' where nothing that the law and all that it calls make is longer than what came in: it says more and counts as full. Else prove '..UptoSaid'. A law counts once. -/
mutual
def uptoBulk {H : Type} : DataW H → Nat
  | .lit (.string bytes) => bytes.length + 1
  | .lit _ => 1
  | .nil => 1
  | .ptr d => uptoBulk d + 1
  | .slice elems spare => uptoBulkAll elems + uptoBulkAll spare + 1
  | .agg parts => uptoBulkAll parts + 1
  | .iface _ d => uptoBulk d + 1
  | .map entries => uptoBulkEntries entries + 1
  | .held _ => 1
def uptoBulkAll {H : Type} : List (DataW H) → Nat
  | [] => 0
  | d :: r => uptoBulk d + uptoBulkAll r
def uptoBulkEntries {H : Type} : List (Lit × DataW H) → Nat
  | [] => 0
  | x :: r => uptoBulkEntry x + uptoBulkEntries r
def uptoBulkEntry {H : Type} : Lit × DataW H → Nat
  | (.string bytes, d) => bytes.length + uptoBulk d + 1
  | (_, d) => uptoBulk d + 1
 end
def uptoSmall : (H : Type) → List (DataW H) → Bool := fun _ ds => decide (uptoBulkAll ds ≤ 1048576)
def OpenSpec.upto (s : _root_.Go.ChangeSpec) : _root_.Go.OpenSpec := { _root_.Go.OpenSpec.ofChange s with cond := some uptoSmall }

/-- 'swashlaw14.RearIdle', WHERE WHAT IT READS IS OF BULK AT MOST 1048576: true; the input reads as it did. -/
def rearIdleUptoRow : OpenClaim := { program := "ytnaodjnimkndbab", sum := "68b09b776d788fbd35022f2f91537801c6b0eedcb5daa8cdc7a6cdd4d06a158c", func := "swash/swashlaw14.RearIdle", spec := "rearIdle", unfollowed := true, recurses := true, apart := false, narrowed := true }
def RearIdleUptoSaid : Prop := rearIdleUptoRow.holds Try.pinned (OpenSpec.upto rearIdleSpec)

/-- 'swashlaw14.RearTakes', WHERE WHAT IT READS IS OF BULK AT MOST 1048576: true; the input reads as it did. -/
def rearTakesUptoRow : OpenClaim := { program := "ytnaodjnimkndbab", sum := "68b09b776d788fbd35022f2f91537801c6b0eedcb5daa8cdc7a6cdd4d06a158c", func := "swash/swashlaw14.RearTakes", spec := "rearTakes", unfollowed := true, recurses := true, apart := false, narrowed := true }
def RearTakesUptoSaid : Prop := rearTakesUptoRow.holds Try.pinned (OpenSpec.upto rearTakesSpec)

/-- 'swashlaw25.BindTakes', WHERE WHAT IT READS IS OF BULK AT MOST 1048576: true; the input reads as it did. -/
def bindTakesUptoRow : OpenClaim := { program := "ytnaodjnimkndbab", sum := "68b09b776d788fbd35022f2f91537801c6b0eedcb5daa8cdc7a6cdd4d06a158c", func := "swash/swashlaw25.BindTakes", spec := "bindTakes", unfollowed := true, recurses := true, apart := false, narrowed := true }
def BindTakesUptoSaid : Prop := bindTakesUptoRow.holds Try.pinned (OpenSpec.upto bindTakesSpec)

/-- 'swashlaw23.StackReads', WHERE WHAT IT READS IS OF BULK AT MOST 1048576: true; the input reads as it did. -/
def stackReadsUptoRow : OpenClaim := { program := "ytnaodjnimkndbab", sum := "68b09b776d788fbd35022f2f91537801c6b0eedcb5daa8cdc7a6cdd4d06a158c", func := "swash/swashlaw23.StackReads", spec := "stackReads", unfollowed := true, recurses := true, apart := false, narrowed := true }
def StackReadsUptoSaid : Prop := stackReadsUptoRow.holds Try.pinned (OpenSpec.upto stackReadsSpec)

/-- 'swashlaw23.StackLong', WHERE WHAT IT READS IS OF BULK AT MOST 1048576: true; the input reads as it did. -/
def stackLongUptoRow : OpenClaim := { program := "ytnaodjnimkndbab", sum := "68b09b776d788fbd35022f2f91537801c6b0eedcb5daa8cdc7a6cdd4d06a158c", func := "swash/swashlaw23.StackLong", spec := "stackLong", unfollowed := true, recurses := true, apart := false, narrowed := true }
def StackLongUptoSaid : Prop := stackLongUptoRow.holds Try.pinned (OpenSpec.upto stackLongSpec)

/-- 'swashlaw23.StackTakes', WHERE WHAT IT READS IS OF BULK AT MOST 1048576: true; the input reads as it did. -/
def stackTakesUptoRow : OpenClaim := { program := "ytnaodjnimkndbab", sum := "68b09b776d788fbd35022f2f91537801c6b0eedcb5daa8cdc7a6cdd4d06a158c", func := "swash/swashlaw23.StackTakes", spec := "stackTakes", unfollowed := true, recurses := true, apart := false, narrowed := true }
def StackTakesUptoSaid : Prop := stackTakesUptoRow.holds Try.pinned (OpenSpec.upto stackTakesSpec)

/-- 'swashlaw23.StackSides', WHERE WHAT IT READS IS OF BULK AT MOST 1048576: true; the input reads as it did. -/
def stackSidesUptoRow : OpenClaim := { program := "ytnaodjnimkndbab", sum := "68b09b776d788fbd35022f2f91537801c6b0eedcb5daa8cdc7a6cdd4d06a158c", func := "swash/swashlaw23.StackSides", spec := "stackSides", unfollowed := true, recurses := true, apart := false, narrowed := true }
def StackSidesUptoSaid : Prop := stackSidesUptoRow.holds Try.pinned (OpenSpec.upto stackSidesSpec)

/-- 'swashlaw17.LigaReads', WHERE WHAT IT READS IS OF BULK AT MOST 1048576: true; the input reads as it did. -/
def ligaReadsUptoRow : OpenClaim := { program := "ytnaodjnimkndbab", sum := "68b09b776d788fbd35022f2f91537801c6b0eedcb5daa8cdc7a6cdd4d06a158c", func := "swash/swashlaw17.LigaReads", spec := "ligaReads", unfollowed := true, recurses := true, apart := false, narrowed := true }
def LigaReadsUptoSaid : Prop := ligaReadsUptoRow.holds Try.pinned (OpenSpec.upto ligaReadsSpec)

/-- 'swashlaw17.LigaRuns', WHERE WHAT IT READS IS OF BULK AT MOST 1048576: true; the input reads as it did. -/
def ligaRunsUptoRow : OpenClaim := { program := "ytnaodjnimkndbab", sum := "68b09b776d788fbd35022f2f91537801c6b0eedcb5daa8cdc7a6cdd4d06a158c", func := "swash/swashlaw17.LigaRuns", spec := "ligaRuns", unfollowed := true, recurses := true, apart := false, narrowed := true }
def LigaRunsUptoSaid : Prop := ligaRunsUptoRow.holds Try.pinned (OpenSpec.upto ligaRunsSpec)

/-- 'swashlaw17.LigaLess', WHERE WHAT IT READS IS OF BULK AT MOST 1048576: true; the input reads as it did. -/
def ligaLessUptoRow : OpenClaim := { program := "ytnaodjnimkndbab", sum := "68b09b776d788fbd35022f2f91537801c6b0eedcb5daa8cdc7a6cdd4d06a158c", func := "swash/swashlaw17.LigaLess", spec := "ligaLess", unfollowed := true, recurses := true, apart := false, narrowed := true }
def LigaLessUptoSaid : Prop := ligaLessUptoRow.holds Try.pinned (OpenSpec.upto ligaLessSpec)

/-- 'swashlaw17.LigaLong', WHERE WHAT IT READS IS OF BULK AT MOST 1048576: true; the input reads as it did. -/
def ligaLongUptoRow : OpenClaim := { program := "ytnaodjnimkndbab", sum := "68b09b776d788fbd35022f2f91537801c6b0eedcb5daa8cdc7a6cdd4d06a158c", func := "swash/swashlaw17.LigaLong", spec := "ligaLong", unfollowed := true, recurses := true, apart := false, narrowed := true }
def LigaLongUptoSaid : Prop := ligaLongUptoRow.holds Try.pinned (OpenSpec.upto ligaLongSpec)

/-- 'swashlaw17.LigaIdle', WHERE WHAT IT READS IS OF BULK AT MOST 1048576: true; the input reads as it did. -/
def ligaIdleUptoRow : OpenClaim := { program := "ytnaodjnimkndbab", sum := "68b09b776d788fbd35022f2f91537801c6b0eedcb5daa8cdc7a6cdd4d06a158c", func := "swash/swashlaw17.LigaIdle", spec := "ligaIdle", unfollowed := true, recurses := true, apart := false, narrowed := true }
def LigaIdleUptoSaid : Prop := ligaIdleUptoRow.holds Try.pinned (OpenSpec.upto ligaIdleSpec)

/-- 'swashlaw17.LigaTakes', WHERE WHAT IT READS IS OF BULK AT MOST 1048576: true; the input reads as it did. -/
def ligaTakesUptoRow : OpenClaim := { program := "ytnaodjnimkndbab", sum := "68b09b776d788fbd35022f2f91537801c6b0eedcb5daa8cdc7a6cdd4d06a158c", func := "swash/swashlaw17.LigaTakes", spec := "ligaTakes", unfollowed := true, recurses := true, apart := false, narrowed := true }
def LigaTakesUptoSaid : Prop := ligaTakesUptoRow.holds Try.pinned (OpenSpec.upto ligaTakesSpec)

/-- 'swashlaw25.BindFirst', WHERE WHAT IT READS IS OF BULK AT MOST 1048576: true; the input reads as it did. -/
def bindFirstUptoRow : OpenClaim := { program := "ytnaodjnimkndbab", sum := "68b09b776d788fbd35022f2f91537801c6b0eedcb5daa8cdc7a6cdd4d06a158c", func := "swash/swashlaw25.BindFirst", spec := "bindFirst", unfollowed := true, recurses := true, apart := false, narrowed := true }
def BindFirstUptoSaid : Prop := bindFirstUptoRow.holds Try.pinned (OpenSpec.upto bindFirstSpec)

/-- 'swashlaw18.InsMore', WHERE WHAT IT READS IS OF BULK AT MOST 1048576: true; the input reads as it did. -/
def insMoreUptoRow : OpenClaim := { program := "ytnaodjnimkndbab", sum := "68b09b776d788fbd35022f2f91537801c6b0eedcb5daa8cdc7a6cdd4d06a158c", func := "swash/swashlaw18.InsMore", spec := "insMore", inPlace := ["slices.overlaps[swash/api.Glyph]"], unfollowed := true, recurses := true, apart := false, narrowed := true }
def InsMoreUptoSaid : Prop := insMoreUptoRow.holds Try.pinned (OpenSpec.upto insMoreSpec)

/-- 'swashlaw18.InsIdle', WHERE WHAT IT READS IS OF BULK AT MOST 1048576: true; the input reads as it did. -/
def insIdleUptoRow : OpenClaim := { program := "ytnaodjnimkndbab", sum := "68b09b776d788fbd35022f2f91537801c6b0eedcb5daa8cdc7a6cdd4d06a158c", func := "swash/swashlaw18.InsIdle", spec := "insIdle", inPlace := ["slices.overlaps[swash/api.Glyph]"], unfollowed := true, recurses := true, apart := false, narrowed := true }
def InsIdleUptoSaid : Prop := insIdleUptoRow.holds Try.pinned (OpenSpec.upto insIdleSpec)

/-- 'swashlaw18.InsLeft', WHERE WHAT IT READS IS OF BULK AT MOST 1048576: true; the input reads as it did. -/
def insLeftUptoRow : OpenClaim := { program := "ytnaodjnimkndbab", sum := "68b09b776d788fbd35022f2f91537801c6b0eedcb5daa8cdc7a6cdd4d06a158c", func := "swash/swashlaw18.InsLeft", spec := "insLeft", inPlace := ["slices.overlaps[swash/api.Glyph]"], unfollowed := true, recurses := true, apart := false, narrowed := true }
def InsLeftUptoSaid : Prop := insLeftUptoRow.holds Try.pinned (OpenSpec.upto insLeftSpec)

/-- 'swashlaw18.InsTakes', WHERE WHAT IT READS IS OF BULK AT MOST 1048576: true; the input reads as it did. -/
def insTakesUptoRow : OpenClaim := { program := "ytnaodjnimkndbab", sum := "68b09b776d788fbd35022f2f91537801c6b0eedcb5daa8cdc7a6cdd4d06a158c", func := "swash/swashlaw18.InsTakes", spec := "insTakes", inPlace := ["slices.overlaps[swash/api.Glyph]"], unfollowed := true, recurses := true, apart := false, narrowed := true }
def InsTakesUptoSaid : Prop := insTakesUptoRow.holds Try.pinned (OpenSpec.upto insTakesSpec)

/-- 'swashtop.WholeTotals', WHERE WHAT IT READS IS OF BULK AT MOST 1048576: true; the input reads as it did. -/
def wholeTotalsUptoRow : OpenClaim := { program := "ytnaodjnimkndbab", sum := "68b09b776d788fbd35022f2f91537801c6b0eedcb5daa8cdc7a6cdd4d06a158c", func := "swash/swashtop.WholeTotals", spec := "wholeTotals", unfollowed := true, recurses := true, apart := false, narrowed := true }
def WholeTotalsUptoSaid : Prop := wholeTotalsUptoRow.holds Try.pinned (OpenSpec.upto wholeTotalsSpec)

/-- 'swashtop.WholeEnds', WHERE WHAT IT READS IS OF BULK AT MOST 1048576: true; the input reads as it did. -/
def wholeEndsUptoRow : OpenClaim := { program := "ytnaodjnimkndbab", sum := "68b09b776d788fbd35022f2f91537801c6b0eedcb5daa8cdc7a6cdd4d06a158c", func := "swash/swashtop.WholeEnds", spec := "wholeEnds", unfollowed := true, recurses := true, apart := false, narrowed := true }
def WholeEndsUptoSaid : Prop := wholeEndsUptoRow.holds Try.pinned (OpenSpec.upto wholeEndsSpec)

/-- 'swashtop.WholeWidths', WHERE WHAT IT READS IS OF BULK AT MOST 1048576: true; the input reads as it did. -/
def wholeWidthsUptoRow : OpenClaim := { program := "ytnaodjnimkndbab", sum := "68b09b776d788fbd35022f2f91537801c6b0eedcb5daa8cdc7a6cdd4d06a158c", func := "swash/swashtop.WholeWidths", spec := "wholeWidths", unfollowed := true, recurses := true, apart := false, narrowed := true }
def WholeWidthsUptoSaid : Prop := wholeWidthsUptoRow.holds Try.pinned (OpenSpec.upto wholeWidthsSpec)

/-- 'swashtop.WholeGrows', WHERE WHAT IT READS IS OF BULK AT MOST 1048576: true; the input reads as it did. -/
def wholeGrowsUptoRow : OpenClaim := { program := "ytnaodjnimkndbab", sum := "68b09b776d788fbd35022f2f91537801c6b0eedcb5daa8cdc7a6cdd4d06a158c", func := "swash/swashtop.WholeGrows", spec := "wholeGrows", inPlace := ["slices.overlaps[swash/api.Glyph]"], unfollowed := true, recurses := true, apart := false, narrowed := true }
def WholeGrowsUptoSaid : Prop := wholeGrowsUptoRow.holds Try.pinned (OpenSpec.upto wholeGrowsSpec)

end Rows
end Go.Proofs.Ytnaodjnimkndbab
