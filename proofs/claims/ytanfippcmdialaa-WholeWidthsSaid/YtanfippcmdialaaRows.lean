/-
  No cell of these rows narrows 'for every input' (looked for: loops, veiled, ifaces, maps, wideKeys, modest, calm, conditions, laid).
  DERIVED. THE GIVEN ROWS OF THIS SEAT. 12 by the template 'for every input the law returns true; each argument reads behind the call as it read before'; 0 by the template 'total and deterministic' (their statements: YtanfippcmdialaaTotals.lean).
  GIVEN WITH THE SEED: the statements are not yours to turn. If you find one false, say at which input.
  Laid BY PROGRAM, IN A SANDBOX (cutbox-rows.mjs): the forced cells as the released guide's own fill.sh prints them over the translation a7eaec5490952713… (all of the seat's roots in one cut). By AI agents, Wed Nov 11 2026. No macro, syntax, notation, axiom, sorry.
-/
import Derived.Test.YtanfippcmdialaaChecked
import GoSem.Claim
import GoSem.ClaimJoined
import GoSem.ClaimMapViews
import Derived.JoinedTies
import Derived.KernelRfl
namespace Go.Proofs.Ytanfippcmdialaa
/- THE CELL 'sum', in the pinned program and in every row, IS THE sha256 OF THE DUMP (.gsa) THAT YtanfippcmdialaaProg.lean LOADS. Nothing in Lean hashes anything: it is a label: what it is worth is what the hold of that sum in a sandbox is worth. -/
noncomputable def Try.pinned : Pinned := { name := "ytanfippcmdialaa", sum := "a7eaec5490952713b7b64a538f57e840a2b3b4d36ede9d9c631c7b843307faa0", checked := Try.checked }
namespace Rows
def none {H : Type} : Left H := { results := [], args := [] }

/-- 'swashlaw11.LineTwice': WHATEVER THE INPUT: true; the input reads as it did. -/
def lineTwiceSpec : ChangeSpec := { name := "lineTwice", fn := fun _ => fun
  | [d1, d2, d3] => { results := [.lit (.bool true)], args := [d1, d2, d3] }
  | _ => none }
def lineTwiceRow : OpenClaim := { program := "ytanfippcmdialaa", sum := "a7eaec5490952713b7b64a538f57e840a2b3b4d36ede9d9c631c7b843307faa0", func := "swash/swashlaw11.LineTwice", spec := "lineTwice", inPlace := ["slices.overlaps[swash/api.Glyph]"], unfollowed := true, recurses := true, apart := false }
def LineTwiceSaid : Prop := lineTwiceRow.holds Try.pinned (OpenSpec.ofChange lineTwiceSpec)

/-- ITS FALSE NEIGHBOUR: 'it returns false'. Refute it at one input. -/
def lineTwiceWrong : ChangeSpec := { name := "lineTwice", fn := fun _ => fun
  | [d1, d2, d3] => { results := [.lit (.bool false)], args := [d1, d2, d3] }
  | _ => none }
def LineTwiceWrongFalsely : Prop := lineTwiceRow.holds Try.pinned (OpenSpec.ofChange lineTwiceWrong)

/-- 'swashlaw06.LookupAll': WHATEVER THE INPUT: true; the input reads as it did. -/
def lookupAllSpec : ChangeSpec := { name := "lookupAll", fn := fun _ => fun
  | [d1, d2] => { results := [.lit (.bool true)], args := [d1, d2] }
  | _ => none }
def lookupAllRow : OpenClaim := { program := "ytanfippcmdialaa", sum := "a7eaec5490952713b7b64a538f57e840a2b3b4d36ede9d9c631c7b843307faa0", func := "swash/swashlaw06.LookupAll", spec := "lookupAll", unfollowed := true, recurses := true, apart := false }
def LookupAllSaid : Prop := lookupAllRow.holds Try.pinned (OpenSpec.ofChange lookupAllSpec)

/-- ITS FALSE NEIGHBOUR: 'it returns false'. Refute it at one input. -/
def lookupAllWrong : ChangeSpec := { name := "lookupAll", fn := fun _ => fun
  | [d1, d2] => { results := [.lit (.bool false)], args := [d1, d2] }
  | _ => none }
def LookupAllWrongFalsely : Prop := lookupAllRow.holds Try.pinned (OpenSpec.ofChange lookupAllWrong)

/-- 'swashlaw11.LineDoes': WHATEVER THE INPUT: true; the input reads as it did. -/
def lineDoesSpec : ChangeSpec := { name := "lineDoes", fn := fun _ => fun
  | [d1, d2, d3] => { results := [.lit (.bool true)], args := [d1, d2, d3] }
  | _ => none }
def lineDoesRow : OpenClaim := { program := "ytanfippcmdialaa", sum := "a7eaec5490952713b7b64a538f57e840a2b3b4d36ede9d9c631c7b843307faa0", func := "swash/swashlaw11.LineDoes", spec := "lineDoes", inPlace := ["slices.overlaps[swash/api.Glyph]"], unfollowed := true, recurses := true, apart := false }
def LineDoesSaid : Prop := lineDoesRow.holds Try.pinned (OpenSpec.ofChange lineDoesSpec)

/-- ITS FALSE NEIGHBOUR: 'it returns false'. Refute it at one input. -/
def lineDoesWrong : ChangeSpec := { name := "lineDoes", fn := fun _ => fun
  | [d1, d2, d3] => { results := [.lit (.bool false)], args := [d1, d2, d3] }
  | _ => none }
def LineDoesWrongFalsely : Prop := lineDoesRow.holds Try.pinned (OpenSpec.ofChange lineDoesWrong)

/-- 'swashlaw24.AnkrBack': WHATEVER THE INPUT: true; the input reads as it did. -/
def ankrBackSpec : ChangeSpec := { name := "ankrBack", fn := fun _ => fun
  | [d1, d2] => { results := [.lit (.bool true)], args := [d1, d2] }
  | _ => none }
def ankrBackRow : OpenClaim := { program := "ytanfippcmdialaa", sum := "a7eaec5490952713b7b64a538f57e840a2b3b4d36ede9d9c631c7b843307faa0", func := "swash/swashlaw24.AnkrBack", spec := "ankrBack", unfollowed := true, recurses := true, apart := false }
def AnkrBackSaid : Prop := ankrBackRow.holds Try.pinned (OpenSpec.ofChange ankrBackSpec)

/-- ITS FALSE NEIGHBOUR: 'it returns false'. Refute it at one input. -/
def ankrBackWrong : ChangeSpec := { name := "ankrBack", fn := fun _ => fun
  | [d1, d2] => { results := [.lit (.bool false)], args := [d1, d2] }
  | _ => none }
def AnkrBackWrongFalsely : Prop := ankrBackRow.holds Try.pinned (OpenSpec.ofChange ankrBackWrong)

/-- 'swashtop.WholeLookups': WHATEVER THE INPUT: true; the input reads as it did. -/
def wholeLookupsSpec : ChangeSpec := { name := "wholeLookups", fn := fun _ => fun
  | [d1, d2] => { results := [.lit (.bool true)], args := [d1, d2] }
  | _ => none }
def wholeLookupsRow : OpenClaim := { program := "ytanfippcmdialaa", sum := "a7eaec5490952713b7b64a538f57e840a2b3b4d36ede9d9c631c7b843307faa0", func := "swash/swashtop.WholeLookups", spec := "wholeLookups", unfollowed := true, recurses := true, apart := false }
def WholeLookupsSaid : Prop := wholeLookupsRow.holds Try.pinned (OpenSpec.ofChange wholeLookupsSpec)

/-- ITS FALSE NEIGHBOUR: 'it returns false'. Refute it at one input. -/
def wholeLookupsWrong : ChangeSpec := { name := "wholeLookups", fn := fun _ => fun
  | [d1, d2] => { results := [.lit (.bool false)], args := [d1, d2] }
  | _ => none }
def WholeLookupsWrongFalsely : Prop := wholeLookupsRow.holds Try.pinned (OpenSpec.ofChange wholeLookupsWrong)

/-- 'swashlaw24.AnkrCuts': WHATEVER THE INPUT: true; the input reads as it did. -/
def ankrCutsSpec : ChangeSpec := { name := "ankrCuts", fn := fun _ => fun
  | [d1, d2] => { results := [.lit (.bool true)], args := [d1, d2] }
  | _ => none }
def ankrCutsRow : OpenClaim := { program := "ytanfippcmdialaa", sum := "a7eaec5490952713b7b64a538f57e840a2b3b4d36ede9d9c631c7b843307faa0", func := "swash/swashlaw24.AnkrCuts", spec := "ankrCuts", unfollowed := true, recurses := true, apart := false }
def AnkrCutsSaid : Prop := ankrCutsRow.holds Try.pinned (OpenSpec.ofChange ankrCutsSpec)

/-- ITS FALSE NEIGHBOUR: 'it returns false'. Refute it at one input. -/
def ankrCutsWrong : ChangeSpec := { name := "ankrCuts", fn := fun _ => fun
  | [d1, d2] => { results := [.lit (.bool false)], args := [d1, d2] }
  | _ => none }
def AnkrCutsWrongFalsely : Prop := ankrCutsRow.holds Try.pinned (OpenSpec.ofChange ankrCutsWrong)

/-- 'swashlaw24.AnkrTakes': WHATEVER THE INPUT: true; the input reads as it did. -/
def ankrTakesSpec : ChangeSpec := { name := "ankrTakes", fn := fun _ => fun
  | [d] => { results := [.lit (.bool true)], args := [d] }
  | _ => none }
def ankrTakesRow : OpenClaim := { program := "ytanfippcmdialaa", sum := "a7eaec5490952713b7b64a538f57e840a2b3b4d36ede9d9c631c7b843307faa0", func := "swash/swashlaw24.AnkrTakes", spec := "ankrTakes", unfollowed := true, recurses := true, apart := false }
def AnkrTakesSaid : Prop := ankrTakesRow.holds Try.pinned (OpenSpec.ofChange ankrTakesSpec)

/-- ITS FALSE NEIGHBOUR: 'it returns false'. Refute it at one input. -/
def ankrTakesWrong : ChangeSpec := { name := "ankrTakes", fn := fun _ => fun
  | [d] => { results := [.lit (.bool false)], args := [d] }
  | _ => none }
def AnkrTakesWrongFalsely : Prop := ankrTakesRow.holds Try.pinned (OpenSpec.ofChange ankrTakesWrong)

/-- 'swashlaw25.BindTakes': WHATEVER THE INPUT: true; the input reads as it did. -/
def bindTakesSpec : ChangeSpec := { name := "bindTakes", fn := fun _ => fun
  | [d1, d2] => { results := [.lit (.bool true)], args := [d1, d2] }
  | _ => none }
def bindTakesRow : OpenClaim := { program := "ytanfippcmdialaa", sum := "a7eaec5490952713b7b64a538f57e840a2b3b4d36ede9d9c631c7b843307faa0", func := "swash/swashlaw25.BindTakes", spec := "bindTakes", unfollowed := true, recurses := true, apart := false }
def BindTakesSaid : Prop := bindTakesRow.holds Try.pinned (OpenSpec.ofChange bindTakesSpec)

/-- ITS FALSE NEIGHBOUR: 'it returns false'. Refute it at one input. -/
def bindTakesWrong : ChangeSpec := { name := "bindTakes", fn := fun _ => fun
  | [d1, d2] => { results := [.lit (.bool false)], args := [d1, d2] }
  | _ => none }
def BindTakesWrongFalsely : Prop := bindTakesRow.holds Try.pinned (OpenSpec.ofChange bindTakesWrong)

/-- 'swashlaw17.LigaRuns': WHATEVER THE INPUT: true; the input reads as it did. -/
def ligaRunsSpec : ChangeSpec := { name := "ligaRuns", fn := fun _ => fun
  | [d1, d2] => { results := [.lit (.bool true)], args := [d1, d2] }
  | _ => none }
def ligaRunsRow : OpenClaim := { program := "ytanfippcmdialaa", sum := "a7eaec5490952713b7b64a538f57e840a2b3b4d36ede9d9c631c7b843307faa0", func := "swash/swashlaw17.LigaRuns", spec := "ligaRuns", unfollowed := true, recurses := true, apart := false }
def LigaRunsSaid : Prop := ligaRunsRow.holds Try.pinned (OpenSpec.ofChange ligaRunsSpec)

/-- ITS FALSE NEIGHBOUR: 'it returns false'. Refute it at one input. -/
def ligaRunsWrong : ChangeSpec := { name := "ligaRuns", fn := fun _ => fun
  | [d1, d2] => { results := [.lit (.bool false)], args := [d1, d2] }
  | _ => none }
def LigaRunsWrongFalsely : Prop := ligaRunsRow.holds Try.pinned (OpenSpec.ofChange ligaRunsWrong)

/-- 'swashlaw25.BindFirst': WHATEVER THE INPUT: true; the input reads as it did. -/
def bindFirstSpec : ChangeSpec := { name := "bindFirst", fn := fun _ => fun
  | [d] => { results := [.lit (.bool true)], args := [d] }
  | _ => none }
def bindFirstRow : OpenClaim := { program := "ytanfippcmdialaa", sum := "a7eaec5490952713b7b64a538f57e840a2b3b4d36ede9d9c631c7b843307faa0", func := "swash/swashlaw25.BindFirst", spec := "bindFirst", unfollowed := true, recurses := true, apart := false }
def BindFirstSaid : Prop := bindFirstRow.holds Try.pinned (OpenSpec.ofChange bindFirstSpec)

/-- ITS FALSE NEIGHBOUR: 'it returns false'. Refute it at one input. -/
def bindFirstWrong : ChangeSpec := { name := "bindFirst", fn := fun _ => fun
  | [d] => { results := [.lit (.bool false)], args := [d] }
  | _ => none }
def BindFirstWrongFalsely : Prop := bindFirstRow.holds Try.pinned (OpenSpec.ofChange bindFirstWrong)

/-- 'swashtop.WholeWidths': WHATEVER THE INPUT: true; the input reads as it did. -/
def wholeWidthsSpec : ChangeSpec := { name := "wholeWidths", fn := fun _ => fun
  | [d1, d2, d3] => { results := [.lit (.bool true)], args := [d1, d2, d3] }
  | _ => none }
def wholeWidthsRow : OpenClaim := { program := "ytanfippcmdialaa", sum := "a7eaec5490952713b7b64a538f57e840a2b3b4d36ede9d9c631c7b843307faa0", func := "swash/swashtop.WholeWidths", spec := "wholeWidths", unfollowed := true, recurses := true, apart := false }
def WholeWidthsSaid : Prop := wholeWidthsRow.holds Try.pinned (OpenSpec.ofChange wholeWidthsSpec)

/-- ITS FALSE NEIGHBOUR: 'it returns false'. Refute it at one input. -/
def wholeWidthsWrong : ChangeSpec := { name := "wholeWidths", fn := fun _ => fun
  | [d1, d2, d3] => { results := [.lit (.bool false)], args := [d1, d2, d3] }
  | _ => none }
def WholeWidthsWrongFalsely : Prop := wholeWidthsRow.holds Try.pinned (OpenSpec.ofChange wholeWidthsWrong)

/-- 'swashtop.WholeGrows': WHATEVER THE INPUT: true; the input reads as it did. -/
def wholeGrowsSpec : ChangeSpec := { name := "wholeGrows", fn := fun _ => fun
  | [d] => { results := [.lit (.bool true)], args := [d] }
  | _ => none }
def wholeGrowsRow : OpenClaim := { program := "ytanfippcmdialaa", sum := "a7eaec5490952713b7b64a538f57e840a2b3b4d36ede9d9c631c7b843307faa0", func := "swash/swashtop.WholeGrows", spec := "wholeGrows", inPlace := ["slices.overlaps[swash/api.Glyph]"], unfollowed := true, recurses := true, apart := false }
def WholeGrowsSaid : Prop := wholeGrowsRow.holds Try.pinned (OpenSpec.ofChange wholeGrowsSpec)

/-- ITS FALSE NEIGHBOUR: 'it returns false'. Refute it at one input. -/
def wholeGrowsWrong : ChangeSpec := { name := "wholeGrows", fn := fun _ => fun
  | [d] => { results := [.lit (.bool false)], args := [d] }
  | _ => none }
def WholeGrowsWrongFalsely : Prop := wholeGrowsRow.holds Try.pinned (OpenSpec.ofChange wholeGrowsWrong)

/- THE SECOND FORM. 'bulk': how many values and letters a reading holds, each counted each time it is reached (what is shared counts as often as it is met; a slice's spare places count too). A statement '..UptoSaid' is the law's where the arguments, and the package variables that the reading takes, are together of bulk at most 1048576: NARROWER than '..Said'. Prove '..Said' where nothing that the law and all that it calls make is longer than what came in: it says more and counts as full. Else prove '..UptoSaid'. A law counts once. -/
mutual
def uptoBulk {H : Type} : DataW H → Nat
  | .lit (.string bytes) => bytes.length + 1
  | .lit _ => 1
  | .nil => 1
  | .ptr d => uptoBulk d + 1
  | .slice elems spare => uptoBulkAll elems + uptoBulkAll spare + 1
  | .agg parts => uptoBulkAll parts + 1
  | .iface _ d => uptoBulk d + 1
  | .map entries => uptoBulkEntries entries + 1
  | .held _ => 1
def uptoBulkAll {H : Type} : List (DataW H) → Nat
  | [] => 0
  | d :: r => uptoBulk d + uptoBulkAll r
def uptoBulkEntries {H : Type} : List (Lit × DataW H) → Nat
  | [] => 0
  | x :: r => uptoBulkEntry x + uptoBulkEntries r
def uptoBulkEntry {H : Type} : Lit × DataW H → Nat
  | (.string bytes, d) => bytes.length + uptoBulk d + 1
  | (_, d) => uptoBulk d + 1
 end
def uptoSmall : (H : Type) → List (DataW H) → Bool := fun _ ds => decide (uptoBulkAll ds ≤ 1048576)
def OpenSpec.upto (s : _root_.Go.ChangeSpec) : _root_.Go.OpenSpec := { _root_.Go.OpenSpec.ofChange s with cond := some uptoSmall }

/-- 'swashlaw11.LineTwice', WHERE WHAT IT READS IS OF BULK AT MOST 1048576: true; the input reads as it did. -/
def lineTwiceUptoRow : OpenClaim := { program := "ytanfippcmdialaa", sum := "a7eaec5490952713b7b64a538f57e840a2b3b4d36ede9d9c631c7b843307faa0", func := "swash/swashlaw11.LineTwice", spec := "lineTwice", inPlace := ["slices.overlaps[swash/api.Glyph]"], unfollowed := true, recurses := true, apart := false, narrowed := true }
def LineTwiceUptoSaid : Prop := lineTwiceUptoRow.holds Try.pinned (OpenSpec.upto lineTwiceSpec)

/-- 'swashlaw06.LookupAll', WHERE WHAT IT READS IS OF BULK AT MOST 1048576: true; the input reads as it did. -/
def lookupAllUptoRow : OpenClaim := { program := "ytanfippcmdialaa", sum := "a7eaec5490952713b7b64a538f57e840a2b3b4d36ede9d9c631c7b843307faa0", func := "swash/swashlaw06.LookupAll", spec := "lookupAll", unfollowed := true, recurses := true, apart := false, narrowed := true }
def LookupAllUptoSaid : Prop := lookupAllUptoRow.holds Try.pinned (OpenSpec.upto lookupAllSpec)

/-- 'swashlaw11.LineDoes', WHERE WHAT IT READS IS OF BULK AT MOST 1048576: true; the input reads as it did. -/
def lineDoesUptoRow : OpenClaim := { program := "ytanfippcmdialaa", sum := "a7eaec5490952713b7b64a538f57e840a2b3b4d36ede9d9c631c7b843307faa0", func := "swash/swashlaw11.LineDoes", spec := "lineDoes", inPlace := ["slices.overlaps[swash/api.Glyph]"], unfollowed := true, recurses := true, apart := false, narrowed := true }
def LineDoesUptoSaid : Prop := lineDoesUptoRow.holds Try.pinned (OpenSpec.upto lineDoesSpec)

/-- 'swashlaw24.AnkrBack', WHERE WHAT IT READS IS OF BULK AT MOST 1048576: true; the input reads as it did. -/
def ankrBackUptoRow : OpenClaim := { program := "ytanfippcmdialaa", sum := "a7eaec5490952713b7b64a538f57e840a2b3b4d36ede9d9c631c7b843307faa0", func := "swash/swashlaw24.AnkrBack", spec := "ankrBack", unfollowed := true, recurses := true, apart := false, narrowed := true }
def AnkrBackUptoSaid : Prop := ankrBackUptoRow.holds Try.pinned (OpenSpec.upto ankrBackSpec)

/-- 'swashtop.WholeLookups', WHERE WHAT IT READS IS OF BULK AT MOST 1048576: true; the input reads as it did. -/
def wholeLookupsUptoRow : OpenClaim := { program := "ytanfippcmdialaa", sum := "a7eaec5490952713b7b64a538f57e840a2b3b4d36ede9d9c631c7b843307faa0", func := "swash/swashtop.WholeLookups", spec := "wholeLookups", unfollowed := true, recurses := true, apart := false, narrowed := true }
def WholeLookupsUptoSaid : Prop := wholeLookupsUptoRow.holds Try.pinned (OpenSpec.upto wholeLookupsSpec)

/-- 'swashlaw24.AnkrCuts', WHERE WHAT IT READS IS OF BULK AT MOST 1048576: true; the input reads as it did. -/
def ankrCutsUptoRow : OpenClaim := { program := "ytanfippcmdialaa", sum := "a7eaec5490952713b7b64a538f57e840a2b3b4d36ede9d9c631c7b843307faa0", func := "swash/swashlaw24.AnkrCuts", spec := "ankrCuts", unfollowed := true, recurses := true, apart := false, narrowed := true }
def AnkrCutsUptoSaid : Prop := ankrCutsUptoRow.holds Try.pinned (OpenSpec.upto ankrCutsSpec)

/-- 'swashlaw24.AnkrTakes', WHERE WHAT IT READS IS OF BULK AT MOST 1048576: true; the input reads as it did. -/
def ankrTakesUptoRow : OpenClaim := { program := "ytanfippcmdialaa", sum := "a7eaec5490952713b7b64a538f57e840a2b3b4d36ede9d9c631c7b843307faa0", func := "swash/swashlaw24.AnkrTakes", spec := "ankrTakes", unfollowed := true, recurses := true, apart := false, narrowed := true }
def AnkrTakesUptoSaid : Prop := ankrTakesUptoRow.holds Try.pinned (OpenSpec.upto ankrTakesSpec)

/-- 'swashlaw25.BindTakes', WHERE WHAT IT READS IS OF BULK AT MOST 1048576: true; the input reads as it did. -/
def bindTakesUptoRow : OpenClaim := { program := "ytanfippcmdialaa", sum := "a7eaec5490952713b7b64a538f57e840a2b3b4d36ede9d9c631c7b843307faa0", func := "swash/swashlaw25.BindTakes", spec := "bindTakes", unfollowed := true, recurses := true, apart := false, narrowed := true }
def BindTakesUptoSaid : Prop := bindTakesUptoRow.holds Try.pinned (OpenSpec.upto bindTakesSpec)

/-- 'swashlaw17.LigaRuns', WHERE WHAT IT READS IS OF BULK AT MOST 1048576: true; the input reads as it did. -/
def ligaRunsUptoRow : OpenClaim := { program := "ytanfippcmdialaa", sum := "a7eaec5490952713b7b64a538f57e840a2b3b4d36ede9d9c631c7b843307faa0", func := "swash/swashlaw17.LigaRuns", spec := "ligaRuns", unfollowed := true, recurses := true, apart := false, narrowed := true }
def LigaRunsUptoSaid : Prop := ligaRunsUptoRow.holds Try.pinned (OpenSpec.upto ligaRunsSpec)

/-- 'swashlaw25.BindFirst', WHERE WHAT IT READS IS OF BULK AT MOST 1048576: true; the input reads as it did. -/
def bindFirstUptoRow : OpenClaim := { program := "ytanfippcmdialaa", sum := "a7eaec5490952713b7b64a538f57e840a2b3b4d36ede9d9c631c7b843307faa0", func := "swash/swashlaw25.BindFirst", spec := "bindFirst", unfollowed := true, recurses := true, apart := false, narrowed := true }
def BindFirstUptoSaid : Prop := bindFirstUptoRow.holds Try.pinned (OpenSpec.upto bindFirstSpec)

/-- 'swashtop.WholeWidths', WHERE WHAT IT READS IS OF BULK AT MOST 1048576: true; the input reads as it did. -/
def wholeWidthsUptoRow : OpenClaim := { program := "ytanfippcmdialaa", sum := "a7eaec5490952713b7b64a538f57e840a2b3b4d36ede9d9c631c7b843307faa0", func := "swash/swashtop.WholeWidths", spec := "wholeWidths", unfollowed := true, recurses := true, apart := false, narrowed := true }
def WholeWidthsUptoSaid : Prop := wholeWidthsUptoRow.holds Try.pinned (OpenSpec.upto wholeWidthsSpec)

/-- 'swashtop.WholeGrows', WHERE WHAT IT READS IS OF BULK AT MOST 1048576: true; the input reads as it did. -/
def wholeGrowsUptoRow : OpenClaim := { program := "ytanfippcmdialaa", sum := "a7eaec5490952713b7b64a538f57e840a2b3b4d36ede9d9c631c7b843307faa0", func := "swash/swashtop.WholeGrows", spec := "wholeGrows", inPlace := ["slices.overlaps[swash/api.Glyph]"], unfollowed := true, recurses := true, apart := false, narrowed := true }
def WholeGrowsUptoSaid : Prop := wholeGrowsUptoRow.holds Try.pinned (OpenSpec.upto wholeGrowsSpec)

end Rows
end Go.Proofs.Ytanfippcmdialaa
