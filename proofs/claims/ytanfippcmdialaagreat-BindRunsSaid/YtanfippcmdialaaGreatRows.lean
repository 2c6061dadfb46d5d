/-
  No cell of these rows narrows 'for every input' (looked for: loops, veiled, ifaces, maps, wideKeys, modest, calm, conditions, laid).
  DERIVED. THE GIVEN ROWS OF THIS SEAT. 7 by the template 'for every input the law returns true; each argument reads behind the call as it read before'; 0 by the template 'total and deterministic' (their statements: YtanfippcmdialaaGreatTotals.lean).
  GIVEN WITH THE SEED: the statements are not yours to turn. If you find one false, say at which input.
  Laid BY PROGRAM, IN A SANDBOX (cutbox-rows.mjs): the forced cells as the released guide's own fill.sh prints them over the translation a58303e4b29b1f0b… (all of the seat's roots in one cut). By AI agents, Wed Nov 11 2026. No macro, syntax, notation, axiom, sorry.
-/
import Derived.Test.YtanfippcmdialaaGreatChecked
import GoSem.Claim
import GoSem.ClaimJoined
import GoSem.ClaimMapViews
import Derived.JoinedTies
import Derived.KernelRfl
namespace Go.Proofs.YtanfippcmdialaaGreat
/- THE CELL 'sum', in the pinned program and in every row, IS THE sha256 OF THE DUMP (.gsa) THAT YtanfippcmdialaaGreatProg.lean LOADS. Nothing in Lean hashes anything: it is a label: what it is worth is what the hold of that sum in a sandbox is worth. -/
noncomputable def Tryz.pinned : Pinned := { name := "ytanfippcmdialaagreat", sum := "a58303e4b29b1f0b6cd6b16794edba9e11aed2e1c38f64b2742ddb19a9ea454d", checked := Tryz.checked }
namespace Rows
def none {H : Type} : Left H := { results := [], args := [] }

/-- 'swashlaw23.StackRuns': WHATEVER THE INPUT: true; the input reads as it did. -/
def stackRunsSpec : ChangeSpec := { name := "stackRuns", fn := fun _ => fun
  | [d1, d2, d3] => { results := [.lit (.bool true)], args := [d1, d2, d3] }
  | _ => none }
def stackRunsRow : OpenClaim := { program := "ytanfippcmdialaagreat", sum := "a58303e4b29b1f0b6cd6b16794edba9e11aed2e1c38f64b2742ddb19a9ea454d", func := "swash/swashlaw23.StackRuns", spec := "stackRuns", unfollowed := true, recurses := true, apart := false }
def StackRunsSaid : Prop := stackRunsRow.holds Tryz.pinned (OpenSpec.ofChange stackRunsSpec)

/-- ITS FALSE NEIGHBOUR: 'it returns false'. Refute it at one input. -/
def stackRunsWrong : ChangeSpec := { name := "stackRuns", fn := fun _ => fun
  | [d1, d2, d3] => { results := [.lit (.bool false)], args := [d1, d2, d3] }
  | _ => none }
def StackRunsWrongFalsely : Prop := stackRunsRow.holds Tryz.pinned (OpenSpec.ofChange stackRunsWrong)

/-- 'swashlaw25.BindRuns': WHATEVER THE INPUT: true; the input reads as it did. -/
def bindRunsSpec : ChangeSpec := { name := "bindRuns", fn := fun _ => fun
  | [d] => { results := [.lit (.bool true)], args := [d] }
  | _ => none }
def bindRunsRow : OpenClaim := { program := "ytanfippcmdialaagreat", sum := "a58303e4b29b1f0b6cd6b16794edba9e11aed2e1c38f64b2742ddb19a9ea454d", func := "swash/swashlaw25.BindRuns", spec := "bindRuns", unfollowed := true, recurses := true, apart := false }
def BindRunsSaid : Prop := bindRunsRow.holds Tryz.pinned (OpenSpec.ofChange bindRunsSpec)

/-- ITS FALSE NEIGHBOUR: 'it returns false'. Refute it at one input. -/
def bindRunsWrong : ChangeSpec := { name := "bindRuns", fn := fun _ => fun
  | [d] => { results := [.lit (.bool false)], args := [d] }
  | _ => none }
def BindRunsWrongFalsely : Prop := bindRunsRow.holds Tryz.pinned (OpenSpec.ofChange bindRunsWrong)

/-- 'swashlaw26.KerxIdle': WHATEVER THE INPUT: true; the input reads as it did. -/
def kerxIdleSpec : ChangeSpec := { name := "kerxIdle", fn := fun _ => fun
  | [d] => { results := [.lit (.bool true)], args := [d] }
  | _ => none }
def kerxIdleRow : OpenClaim := { program := "ytanfippcmdialaagreat", sum := "a58303e4b29b1f0b6cd6b16794edba9e11aed2e1c38f64b2742ddb19a9ea454d", func := "swash/swashlaw26.KerxIdle", spec := "kerxIdle", unfollowed := true, recurses := true, apart := false }
def KerxIdleSaid : Prop := kerxIdleRow.holds Tryz.pinned (OpenSpec.ofChange kerxIdleSpec)

/-- ITS FALSE NEIGHBOUR: 'it returns false'. Refute it at one input. -/
def kerxIdleWrong : ChangeSpec := { name := "kerxIdle", fn := fun _ => fun
  | [d] => { results := [.lit (.bool false)], args := [d] }
  | _ => none }
def KerxIdleWrongFalsely : Prop := kerxIdleRow.holds Tryz.pinned (OpenSpec.ofChange kerxIdleWrong)

/-- 'swashlaw26.KerxMirror': WHATEVER THE INPUT: true; the input reads as it did. -/
def kerxMirrorSpec : ChangeSpec := { name := "kerxMirror", fn := fun _ => fun
  | [d1, d2] => { results := [.lit (.bool true)], args := [d1, d2] }
  | _ => none }
def kerxMirrorRow : OpenClaim := { program := "ytanfippcmdialaagreat", sum := "a58303e4b29b1f0b6cd6b16794edba9e11aed2e1c38f64b2742ddb19a9ea454d", func := "swash/swashlaw26.KerxMirror", spec := "kerxMirror", unfollowed := true, recurses := true, apart := false }
def KerxMirrorSaid : Prop := kerxMirrorRow.holds Tryz.pinned (OpenSpec.ofChange kerxMirrorSpec)

/-- ITS FALSE NEIGHBOUR: 'it returns false'. Refute it at one input. -/
def kerxMirrorWrong : ChangeSpec := { name := "kerxMirror", fn := fun _ => fun
  | [d1, d2] => { results := [.lit (.bool false)], args := [d1, d2] }
  | _ => none }
def KerxMirrorWrongFalsely : Prop := kerxMirrorRow.holds Tryz.pinned (OpenSpec.ofChange kerxMirrorWrong)

/-- 'swashlaw26.KerxSum': WHATEVER THE INPUT: true; the input reads as it did. -/
def kerxSumSpec : ChangeSpec := { name := "kerxSum", fn := fun _ => fun
  | [d1, d2, d3] => { results := [.lit (.bool true)], args := [d1, d2, d3] }
  | _ => none }
def kerxSumRow : OpenClaim := { program := "ytanfippcmdialaagreat", sum := "a58303e4b29b1f0b6cd6b16794edba9e11aed2e1c38f64b2742ddb19a9ea454d", func := "swash/swashlaw26.KerxSum", spec := "kerxSum", unfollowed := true, recurses := true, apart := false }
def KerxSumSaid : Prop := kerxSumRow.holds Tryz.pinned (OpenSpec.ofChange kerxSumSpec)

/-- ITS FALSE NEIGHBOUR: 'it returns false'. Refute it at one input. -/
def kerxSumWrong : ChangeSpec := { name := "kerxSum", fn := fun _ => fun
  | [d1, d2, d3] => { results := [.lit (.bool false)], args := [d1, d2, d3] }
  | _ => none }
def KerxSumWrongFalsely : Prop := kerxSumRow.holds Tryz.pinned (OpenSpec.ofChange kerxSumWrong)

/-- 'swashlaw26.KerxTakes': WHATEVER THE INPUT: true; the input reads as it did. -/
def kerxTakesSpec : ChangeSpec := { name := "kerxTakes", fn := fun _ => fun
  | [d1, d2] => { results := [.lit (.bool true)], args := [d1, d2] }
  | _ => none }
def kerxTakesRow : OpenClaim := { program := "ytanfippcmdialaagreat", sum := "a58303e4b29b1f0b6cd6b16794edba9e11aed2e1c38f64b2742ddb19a9ea454d", func := "swash/swashlaw26.KerxTakes", spec := "kerxTakes", unfollowed := true, recurses := true, apart := false }
def KerxTakesSaid : Prop := kerxTakesRow.holds Tryz.pinned (OpenSpec.ofChange kerxTakesSpec)

/-- ITS FALSE NEIGHBOUR: 'it returns false'. Refute it at one input. -/
def kerxTakesWrong : ChangeSpec := { name := "kerxTakes", fn := fun _ => fun
  | [d1, d2] => { results := [.lit (.bool false)], args := [d1, d2] }
  | _ => none }
def KerxTakesWrongFalsely : Prop := kerxTakesRow.holds Tryz.pinned (OpenSpec.ofChange kerxTakesWrong)

/-- 'swashtop.WholeBound': WHATEVER THE INPUT: true; the input reads as it did. -/
def wholeBoundSpec : ChangeSpec := { name := "wholeBound", fn := fun _ => fun
  | [d1, d2, d3] => { results := [.lit (.bool true)], args := [d1, d2, d3] }
  | _ => none }
def wholeBoundRow : OpenClaim := { program := "ytanfippcmdialaagreat", sum := "a58303e4b29b1f0b6cd6b16794edba9e11aed2e1c38f64b2742ddb19a9ea454d", func := "swash/swashtop.WholeBound", spec := "wholeBound", unfollowed := true, recurses := true, apart := false }
def WholeBoundSaid : Prop := wholeBoundRow.holds Tryz.pinned (OpenSpec.ofChange wholeBoundSpec)

/-- ITS FALSE NEIGHBOUR: 'it returns false'. Refute it at one input. -/
def wholeBoundWrong : ChangeSpec := { name := "wholeBound", fn := fun _ => fun
  | [d1, d2, d3] => { results := [.lit (.bool false)], args := [d1, d2, d3] }
  | _ => none }
def WholeBoundWrongFalsely : Prop := wholeBoundRow.holds Tryz.pinned (OpenSpec.ofChange wholeBoundWrong)

/- THE SECOND FORM. 'bulk': how many values and letters a reading holds, each counted each time it is reached (what is shared counts as often as it is met; a slice's spare places count too). A statement '..UptoSaid' is the law's where the arguments, and the package variables that the reading takes, are together of bulk at most 1048576: NARROWER than '..Said'. Prove '..Said' where nothing that the law and all that it calls make is longer than what came in: it says more and counts as full. Else prove '..UptoSaid'. A law counts once. -/
mutual
def uptoBulk {H : Type} : DataW H → Nat
  | .lit (.string bytes) => bytes.length + 1
  | .lit _ => 1
  | .nil => 1
  | .ptr d => uptoBulk d + 1
  | .slice elems spare => uptoBulkAll elems + uptoBulkAll spare + 1
  | .agg parts => uptoBulkAll parts + 1
  | .iface _ d => uptoBulk d + 1
  | .map entries => uptoBulkEntries entries + 1
  | .held _ => 1
def uptoBulkAll {H : Type} : List (DataW H) → Nat
  | [] => 0
  | d :: r => uptoBulk d + uptoBulkAll r
def uptoBulkEntries {H : Type} : List (Lit × DataW H) → Nat
  | [] => 0
  | x :: r => uptoBulkEntry x + uptoBulkEntries r
def uptoBulkEntry {H : Type} : Lit × DataW H → Nat
  | (.string bytes, d) => bytes.length + uptoBulk d + 1
  | (_, d) => uptoBulk d + 1
 end
def uptoSmall : (H : Type) → List (DataW H) → Bool := fun _ ds => decide (uptoBulkAll ds ≤ 1048576)
def OpenSpec.upto (s : _root_.Go.ChangeSpec) : _root_.Go.OpenSpec := { _root_.Go.OpenSpec.ofChange s with cond := some uptoSmall }

/-- 'swashlaw23.StackRuns', WHERE WHAT IT READS IS OF BULK AT MOST 1048576: true; the input reads as it did. -/
def stackRunsUptoRow : OpenClaim := { program := "ytanfippcmdialaagreat", sum := "a58303e4b29b1f0b6cd6b16794edba9e11aed2e1c38f64b2742ddb19a9ea454d", func := "swash/swashlaw23.StackRuns", spec := "stackRuns", unfollowed := true, recurses := true, apart := false, narrowed := true }
def StackRunsUptoSaid : Prop := stackRunsUptoRow.holds Tryz.pinned (OpenSpec.upto stackRunsSpec)

/-- 'swashlaw25.BindRuns', WHERE WHAT IT READS IS OF BULK AT MOST 1048576: true; the input reads as it did. -/
def bindRunsUptoRow : OpenClaim := { program := "ytanfippcmdialaagreat", sum := "a58303e4b29b1f0b6cd6b16794edba9e11aed2e1c38f64b2742ddb19a9ea454d", func := "swash/swashlaw25.BindRuns", spec := "bindRuns", unfollowed := true, recurses := true, apart := false, narrowed := true }
def BindRunsUptoSaid : Prop := bindRunsUptoRow.holds Tryz.pinned (OpenSpec.upto bindRunsSpec)

/-- 'swashlaw26.KerxIdle', WHERE WHAT IT READS IS OF BULK AT MOST 1048576: true; the input reads as it did. -/
def kerxIdleUptoRow : OpenClaim := { program := "ytanfippcmdialaagreat", sum := "a58303e4b29b1f0b6cd6b16794edba9e11aed2e1c38f64b2742ddb19a9ea454d", func := "swash/swashlaw26.KerxIdle", spec := "kerxIdle", unfollowed := true, recurses := true, apart := false, narrowed := true }
def KerxIdleUptoSaid : Prop := kerxIdleUptoRow.holds Tryz.pinned (OpenSpec.upto kerxIdleSpec)

/-- 'swashlaw26.KerxMirror', WHERE WHAT IT READS IS OF BULK AT MOST 1048576: true; the input reads as it did. -/
def kerxMirrorUptoRow : OpenClaim := { program := "ytanfippcmdialaagreat", sum := "a58303e4b29b1f0b6cd6b16794edba9e11aed2e1c38f64b2742ddb19a9ea454d", func := "swash/swashlaw26.KerxMirror", spec := "kerxMirror", unfollowed := true, recurses := true, apart := false, narrowed := true }
def KerxMirrorUptoSaid : Prop := kerxMirrorUptoRow.holds Tryz.pinned (OpenSpec.upto kerxMirrorSpec)

/-- 'swashlaw26.KerxSum', WHERE WHAT IT READS IS OF BULK AT MOST 1048576: true; the input reads as it did. -/
def kerxSumUptoRow : OpenClaim := { program := "ytanfippcmdialaagreat", sum := "a58303e4b29b1f0b6cd6b16794edba9e11aed2e1c38f64b2742ddb19a9ea454d", func := "swash/swashlaw26.KerxSum", spec := "kerxSum", unfollowed := true, recurses := true, apart := false, narrowed := true }
def KerxSumUptoSaid : Prop := kerxSumUptoRow.holds Tryz.pinned (OpenSpec.upto kerxSumSpec)

/-- 'swashlaw26.KerxTakes', WHERE WHAT IT READS IS OF BULK AT MOST 1048576: true; the input reads as it did. -/
def kerxTakesUptoRow : OpenClaim := { program := "ytanfippcmdialaagreat", sum := "a58303e4b29b1f0b6cd6b16794edba9e11aed2e1c38f64b2742ddb19a9ea454d", func := "swash/swashlaw26.KerxTakes", spec := "kerxTakes", unfollowed := true, recurses := true, apart := false, narrowed := true }
def KerxTakesUptoSaid : Prop := kerxTakesUptoRow.holds Tryz.pinned (OpenSpec.upto kerxTakesSpec)

/-- 'swashtop.WholeBound', WHERE WHAT IT READS IS OF BULK AT MOST 1048576: true; the input reads as it did. -/
def wholeBoundUptoRow : OpenClaim := { program := "ytanfippcmdialaagreat", sum := "a58303e4b29b1f0b6cd6b16794edba9e11aed2e1c38f64b2742ddb19a9ea454d", func := "swash/swashtop.WholeBound", spec := "wholeBound", unfollowed := true, recurses := true, apart := false, narrowed := true }
def WholeBoundUptoSaid : Prop := wholeBoundUptoRow.holds Tryz.pinned (OpenSpec.upto wholeBoundSpec)

end Rows
end Go.Proofs.YtanfippcmdialaaGreat
