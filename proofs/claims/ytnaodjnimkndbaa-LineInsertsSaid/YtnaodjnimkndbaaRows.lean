/-
  No cell of these rows narrows 'for every input' (looked for: loops, veiled, ifaces, maps, wideKeys, modest, calm, conditions, laid).
  DERIVED. THE GIVEN ROWS OF THIS SEAT. 40 by the template 'for every input the law returns true; each argument reads behind the call as it read before'; 0 by the template 'total and deterministic' (their statements: YtnaodjnimkndbaaTotals.lean).
  GIVEN WITH THE SEED: the statements are not yours to turn. If you find one false, say at which input.
  Laid BY PROGRAM, IN A SANDBOX (cutbox-rows.mjs): the forced cells as the released guide's own fill.sh prints them over the translation 59abfd5feff51b1b… (all of the seat's roots in one cut). By AI agents, Wed Nov 11 2026. No macro, syntax, notation, axiom, sorry.
-/
import Derived.Test.YtnaodjnimkndbaaChecked
import GoSem.Claim
import GoSem.ClaimJoined
import GoSem.ClaimMapViews
import Derived.JoinedTies
import Derived.KernelRfl
namespace Go.Proofs.Ytnaodjnimkndbaa
/- THE CELL 'sum', in the pinned program and in every row, IS THE sha256 OF THE DUMP (.gsa) THAT YtnaodjnimkndbaaProg.lean LOADS. Nothing in Lean hashes anything: it is a label: what it is worth is what the hold of that sum in a sandbox is worth. -/
noncomputable def Try.pinned : Pinned := { name := "ytnaodjnimkndbaa", sum := "59abfd5feff51b1b166101d3ef5d4cfe1575ac290e4105eee848d5a573f53de6", checked := Try.checked }
namespace Rows
def none {H : Type} : Left H := { results := [], args := [] }

/-- 'swashlaw21.PlaceAdds': WHATEVER THE INPUT: true; the input reads as it did. -/
def placeAddsSpec : ChangeSpec := { name := "placeAdds", fn := fun _ => fun
  | [d1, d2] => { results := [.lit (.bool true)], args := [d1, d2] }
  | _ => none }
def placeAddsRow : OpenClaim := { program := "ytnaodjnimkndbaa", sum := "59abfd5feff51b1b166101d3ef5d4cfe1575ac290e4105eee848d5a573f53de6", func := "swash/swashlaw21.PlaceAdds", spec := "placeAdds", apart := false }
def PlaceAddsSaid : Prop := placeAddsRow.holds Try.pinned (OpenSpec.ofChange placeAddsSpec)

/-- ITS FALSE NEIGHBOUR: 'it returns false'. Refute it at one input. -/
def placeAddsWrong : ChangeSpec := { name := "placeAdds", fn := fun _ => fun
  | [d1, d2] => { results := [.lit (.bool false)], args := [d1, d2] }
  | _ => none }
def PlaceAddsWrongFalsely : Prop := placeAddsRow.holds Try.pinned (OpenSpec.ofChange placeAddsWrong)

/-- 'swashlaw21.PlaceNear': WHATEVER THE INPUT: true; the input reads as it did. -/
def placeNearSpec : ChangeSpec := { name := "placeNear", fn := fun _ => fun
  | [d1, d2, d3] => { results := [.lit (.bool true)], args := [d1, d2, d3] }
  | _ => none }
def placeNearRow : OpenClaim := { program := "ytnaodjnimkndbaa", sum := "59abfd5feff51b1b166101d3ef5d4cfe1575ac290e4105eee848d5a573f53de6", func := "swash/swashlaw21.PlaceNear", spec := "placeNear", apart := false }
def PlaceNearSaid : Prop := placeNearRow.holds Try.pinned (OpenSpec.ofChange placeNearSpec)

/-- ITS FALSE NEIGHBOUR: 'it returns false'. Refute it at one input. -/
def placeNearWrong : ChangeSpec := { name := "placeNear", fn := fun _ => fun
  | [d1, d2, d3] => { results := [.lit (.bool false)], args := [d1, d2, d3] }
  | _ => none }
def PlaceNearWrongFalsely : Prop := placeNearRow.holds Try.pinned (OpenSpec.ofChange placeNearWrong)

/-- 'swashlaw21.PlaceOwn': WHATEVER THE INPUT: true; the input reads as it did. -/
def placeOwnSpec : ChangeSpec := { name := "placeOwn", fn := fun _ => fun
  | [d] => { results := [.lit (.bool true)], args := [d] }
  | _ => none }
def placeOwnRow : OpenClaim := { program := "ytnaodjnimkndbaa", sum := "59abfd5feff51b1b166101d3ef5d4cfe1575ac290e4105eee848d5a573f53de6", func := "swash/swashlaw21.PlaceOwn", spec := "placeOwn", apart := false }
def PlaceOwnSaid : Prop := placeOwnRow.holds Try.pinned (OpenSpec.ofChange placeOwnSpec)

/-- ITS FALSE NEIGHBOUR: 'it returns false'. Refute it at one input. -/
def placeOwnWrong : ChangeSpec := { name := "placeOwn", fn := fun _ => fun
  | [d] => { results := [.lit (.bool false)], args := [d] }
  | _ => none }
def PlaceOwnWrongFalsely : Prop := placeOwnRow.holds Try.pinned (OpenSpec.ofChange placeOwnWrong)

/-- 'swashlaw21.PlaceDoes': WHATEVER THE INPUT: true; the input reads as it did. -/
def placeDoesSpec : ChangeSpec := { name := "placeDoes", fn := fun _ => fun
  | [d1, d2, d3] => { results := [.lit (.bool true)], args := [d1, d2, d3] }
  | _ => none }
def placeDoesRow : OpenClaim := { program := "ytnaodjnimkndbaa", sum := "59abfd5feff51b1b166101d3ef5d4cfe1575ac290e4105eee848d5a573f53de6", func := "swash/swashlaw21.PlaceDoes", spec := "placeDoes", apart := false }
def PlaceDoesSaid : Prop := placeDoesRow.holds Try.pinned (OpenSpec.ofChange placeDoesSpec)

/-- ITS FALSE NEIGHBOUR: 'it returns false'. Refute it at one input. -/
def placeDoesWrong : ChangeSpec := { name := "placeDoes", fn := fun _ => fun
  | [d1, d2, d3] => { results := [.lit (.bool false)], args := [d1, d2, d3] }
  | _ => none }
def PlaceDoesWrongFalsely : Prop := placeDoesRow.holds Try.pinned (OpenSpec.ofChange placeDoesWrong)

/-- 'swashlaw11.LineOwn': WHATEVER THE INPUT: true; the input reads as it did. -/
def lineOwnSpec : ChangeSpec := { name := "lineOwn", fn := fun _ => fun
  | [d] => { results := [.lit (.bool true)], args := [d] }
  | _ => none }
def lineOwnRow : OpenClaim := { program := "ytnaodjnimkndbaa", sum := "59abfd5feff51b1b166101d3ef5d4cfe1575ac290e4105eee848d5a573f53de6", func := "swash/swashlaw11.LineOwn", spec := "lineOwn", inPlace := ["slices.overlaps[swash/api.Glyph]"], apart := false }
def LineOwnSaid : Prop := lineOwnRow.holds Try.pinned (OpenSpec.ofChange lineOwnSpec)

/-- ITS FALSE NEIGHBOUR: 'it returns false'. Refute it at one input. -/
def lineOwnWrong : ChangeSpec := { name := "lineOwn", fn := fun _ => fun
  | [d] => { results := [.lit (.bool false)], args := [d] }
  | _ => none }
def LineOwnWrongFalsely : Prop := lineOwnRow.holds Try.pinned (OpenSpec.ofChange lineOwnWrong)

/-- 'swashlaw11.LineInserts': WHATEVER THE INPUT: true; the input reads as it did. -/
def lineInsertsSpec : ChangeSpec := { name := "lineInserts", fn := fun _ => fun
  | [d1, d2, d3] => { results := [.lit (.bool true)], args := [d1, d2, d3] }
  | _ => none }
def lineInsertsRow : OpenClaim := { program := "ytnaodjnimkndbaa", sum := "59abfd5feff51b1b166101d3ef5d4cfe1575ac290e4105eee848d5a573f53de6", func := "swash/swashlaw11.LineInserts", spec := "lineInserts", inPlace := ["slices.overlaps[swash/api.Glyph]"], apart := false }
def LineInsertsSaid : Prop := lineInsertsRow.holds Try.pinned (OpenSpec.ofChange lineInsertsSpec)

/-- ITS FALSE NEIGHBOUR: 'it returns false'. Refute it at one input. -/
def lineInsertsWrong : ChangeSpec := { name := "lineInserts", fn := fun _ => fun
  | [d1, d2, d3] => { results := [.lit (.bool false)], args := [d1, d2, d3] }
  | _ => none }
def LineInsertsWrongFalsely : Prop := lineInsertsRow.holds Try.pinned (OpenSpec.ofChange lineInsertsWrong)

/-- 'swashlaw11.LineTwice': WHATEVER THE INPUT: true; the input reads as it did. -/
def lineTwiceSpec : ChangeSpec := { name := "lineTwice", fn := fun _ => fun
  | [d1, d2, d3] => { results := [.lit (.bool true)], args := [d1, d2, d3] }
  | _ => none }
def lineTwiceRow : OpenClaim := { program := "ytnaodjnimkndbaa", sum := "59abfd5feff51b1b166101d3ef5d4cfe1575ac290e4105eee848d5a573f53de6", func := "swash/swashlaw11.LineTwice", spec := "lineTwice", inPlace := ["slices.overlaps[swash/api.Glyph]"], unfollowed := true, recurses := true, apart := false }
def LineTwiceSaid : Prop := lineTwiceRow.holds Try.pinned (OpenSpec.ofChange lineTwiceSpec)

/-- ITS FALSE NEIGHBOUR: 'it returns false'. Refute it at one input. -/
def lineTwiceWrong : ChangeSpec := { name := "lineTwice", fn := fun _ => fun
  | [d1, d2, d3] => { results := [.lit (.bool false)], args := [d1, d2, d3] }
  | _ => none }
def LineTwiceWrongFalsely : Prop := lineTwiceRow.holds Try.pinned (OpenSpec.ofChange lineTwiceWrong)

/-- 'swashlaw06.LookupForms': WHATEVER THE INPUT: true; the input reads as it did. -/
def lookupFormsSpec : ChangeSpec := { name := "lookupForms", fn := fun _ => fun
  | [d1, d2] => { results := [.lit (.bool true)], args := [d1, d2] }
  | _ => none }
def lookupFormsRow : OpenClaim := { program := "ytnaodjnimkndbaa", sum := "59abfd5feff51b1b166101d3ef5d4cfe1575ac290e4105eee848d5a573f53de6", func := "swash/swashlaw06.LookupForms", spec := "lookupForms", unfollowed := true, recurses := true, apart := false }
def LookupFormsSaid : Prop := lookupFormsRow.holds Try.pinned (OpenSpec.ofChange lookupFormsSpec)

/-- ITS FALSE NEIGHBOUR: 'it returns false'. Refute it at one input. -/
def lookupFormsWrong : ChangeSpec := { name := "lookupForms", fn := fun _ => fun
  | [d1, d2] => { results := [.lit (.bool false)], args := [d1, d2] }
  | _ => none }
def LookupFormsWrongFalsely : Prop := lookupFormsRow.holds Try.pinned (OpenSpec.ofChange lookupFormsWrong)

/-- 'swashlaw06.LookupKeeps': WHATEVER THE INPUT: true; the input reads as it did. -/
def lookupKeepsSpec : ChangeSpec := { name := "lookupKeeps", fn := fun _ => fun
  | [d1, d2] => { results := [.lit (.bool true)], args := [d1, d2] }
  | _ => none }
def lookupKeepsRow : OpenClaim := { program := "ytnaodjnimkndbaa", sum := "59abfd5feff51b1b166101d3ef5d4cfe1575ac290e4105eee848d5a573f53de6", func := "swash/swashlaw06.LookupKeeps", spec := "lookupKeeps", unfollowed := true, recurses := true, apart := false }
def LookupKeepsSaid : Prop := lookupKeepsRow.holds Try.pinned (OpenSpec.ofChange lookupKeepsSpec)

/-- ITS FALSE NEIGHBOUR: 'it returns false'. Refute it at one input. -/
def lookupKeepsWrong : ChangeSpec := { name := "lookupKeeps", fn := fun _ => fun
  | [d1, d2] => { results := [.lit (.bool false)], args := [d1, d2] }
  | _ => none }
def LookupKeepsWrongFalsely : Prop := lookupKeepsRow.holds Try.pinned (OpenSpec.ofChange lookupKeepsWrong)

/-- 'swashlaw06.LookupSizes': WHATEVER THE INPUT: true; the input reads as it did. -/
def lookupSizesSpec : ChangeSpec := { name := "lookupSizes", fn := fun _ => fun
  | [d1, d2] => { results := [.lit (.bool true)], args := [d1, d2] }
  | _ => none }
def lookupSizesRow : OpenClaim := { program := "ytnaodjnimkndbaa", sum := "59abfd5feff51b1b166101d3ef5d4cfe1575ac290e4105eee848d5a573f53de6", func := "swash/swashlaw06.LookupSizes", spec := "lookupSizes", unfollowed := true, recurses := true, apart := false }
def LookupSizesSaid : Prop := lookupSizesRow.holds Try.pinned (OpenSpec.ofChange lookupSizesSpec)

/-- ITS FALSE NEIGHBOUR: 'it returns false'. Refute it at one input. -/
def lookupSizesWrong : ChangeSpec := { name := "lookupSizes", fn := fun _ => fun
  | [d1, d2] => { results := [.lit (.bool false)], args := [d1, d2] }
  | _ => none }
def LookupSizesWrongFalsely : Prop := lookupSizesRow.holds Try.pinned (OpenSpec.ofChange lookupSizesWrong)

/-- 'swashlaw06.LookupTakes': WHATEVER THE INPUT: true; the input reads as it did. -/
def lookupTakesSpec : ChangeSpec := { name := "lookupTakes", fn := fun _ => fun
  | [d1, d2] => { results := [.lit (.bool true)], args := [d1, d2] }
  | _ => none }
def lookupTakesRow : OpenClaim := { program := "ytnaodjnimkndbaa", sum := "59abfd5feff51b1b166101d3ef5d4cfe1575ac290e4105eee848d5a573f53de6", func := "swash/swashlaw06.LookupTakes", spec := "lookupTakes", unfollowed := true, recurses := true, apart := false }
def LookupTakesSaid : Prop := lookupTakesRow.holds Try.pinned (OpenSpec.ofChange lookupTakesSpec)

/-- ITS FALSE NEIGHBOUR: 'it returns false'. Refute it at one input. -/
def lookupTakesWrong : ChangeSpec := { name := "lookupTakes", fn := fun _ => fun
  | [d1, d2] => { results := [.lit (.bool false)], args := [d1, d2] }
  | _ => none }
def LookupTakesWrongFalsely : Prop := lookupTakesRow.holds Try.pinned (OpenSpec.ofChange lookupTakesWrong)

/-- 'swashlaw06.LookupAll': WHATEVER THE INPUT: true; the input reads as it did. -/
def lookupAllSpec : ChangeSpec := { name := "lookupAll", fn := fun _ => fun
  | [d1, d2] => { results := [.lit (.bool true)], args := [d1, d2] }
  | _ => none }
def lookupAllRow : OpenClaim := { program := "ytnaodjnimkndbaa", sum := "59abfd5feff51b1b166101d3ef5d4cfe1575ac290e4105eee848d5a573f53de6", func := "swash/swashlaw06.LookupAll", spec := "lookupAll", unfollowed := true, recurses := true, apart := false }
def LookupAllSaid : Prop := lookupAllRow.holds Try.pinned (OpenSpec.ofChange lookupAllSpec)

/-- ITS FALSE NEIGHBOUR: 'it returns false'. Refute it at one input. -/
def lookupAllWrong : ChangeSpec := { name := "lookupAll", fn := fun _ => fun
  | [d1, d2] => { results := [.lit (.bool false)], args := [d1, d2] }
  | _ => none }
def LookupAllWrongFalsely : Prop := lookupAllRow.holds Try.pinned (OpenSpec.ofChange lookupAllWrong)

/-- 'swashlaw11.LineDoes': WHATEVER THE INPUT: true; the input reads as it did. -/
def lineDoesSpec : ChangeSpec := { name := "lineDoes", fn := fun _ => fun
  | [d1, d2, d3] => { results := [.lit (.bool true)], args := [d1, d2, d3] }
  | _ => none }
def lineDoesRow : OpenClaim := { program := "ytnaodjnimkndbaa", sum := "59abfd5feff51b1b166101d3ef5d4cfe1575ac290e4105eee848d5a573f53de6", func := "swash/swashlaw11.LineDoes", spec := "lineDoes", inPlace := ["slices.overlaps[swash/api.Glyph]"], unfollowed := true, recurses := true, apart := false }
def LineDoesSaid : Prop := lineDoesRow.holds Try.pinned (OpenSpec.ofChange lineDoesSpec)

/-- ITS FALSE NEIGHBOUR: 'it returns false'. Refute it at one input. -/
def lineDoesWrong : ChangeSpec := { name := "lineDoes", fn := fun _ => fun
  | [d1, d2, d3] => { results := [.lit (.bool false)], args := [d1, d2, d3] }
  | _ => none }
def LineDoesWrongFalsely : Prop := lineDoesRow.holds Try.pinned (OpenSpec.ofChange lineDoesWrong)

/-- 'swashlaw16.SwapRuns': WHATEVER THE INPUT: true; the input reads as it did. -/
def swapRunsSpec : ChangeSpec := { name := "swapRuns", fn := fun _ => fun
  | [d1, d2, d3] => { results := [.lit (.bool true)], args := [d1, d2, d3] }
  | _ => none }
def swapRunsRow : OpenClaim := { program := "ytnaodjnimkndbaa", sum := "59abfd5feff51b1b166101d3ef5d4cfe1575ac290e4105eee848d5a573f53de6", func := "swash/swashlaw16.SwapRuns", spec := "swapRuns", unfollowed := true, recurses := true, apart := false }
def SwapRunsSaid : Prop := swapRunsRow.holds Try.pinned (OpenSpec.ofChange swapRunsSpec)

/-- ITS FALSE NEIGHBOUR: 'it returns false'. Refute it at one input. -/
def swapRunsWrong : ChangeSpec := { name := "swapRuns", fn := fun _ => fun
  | [d1, d2, d3] => { results := [.lit (.bool false)], args := [d1, d2, d3] }
  | _ => none }
def SwapRunsWrongFalsely : Prop := swapRunsRow.holds Try.pinned (OpenSpec.ofChange swapRunsWrong)

/-- 'swashlaw16.SwapGone': WHATEVER THE INPUT: true; the input reads as it did. -/
def swapGoneSpec : ChangeSpec := { name := "swapGone", fn := fun _ => fun
  | [d1, d2] => { results := [.lit (.bool true)], args := [d1, d2] }
  | _ => none }
def swapGoneRow : OpenClaim := { program := "ytnaodjnimkndbaa", sum := "59abfd5feff51b1b166101d3ef5d4cfe1575ac290e4105eee848d5a573f53de6", func := "swash/swashlaw16.SwapGone", spec := "swapGone", unfollowed := true, recurses := true, apart := false }
def SwapGoneSaid : Prop := swapGoneRow.holds Try.pinned (OpenSpec.ofChange swapGoneSpec)

/-- ITS FALSE NEIGHBOUR: 'it returns false'. Refute it at one input. -/
def swapGoneWrong : ChangeSpec := { name := "swapGone", fn := fun _ => fun
  | [d1, d2] => { results := [.lit (.bool false)], args := [d1, d2] }
  | _ => none }
def SwapGoneWrongFalsely : Prop := swapGoneRow.holds Try.pinned (OpenSpec.ofChange swapGoneWrong)

/-- 'swashlaw16.SwapTakes': WHATEVER THE INPUT: true; the input reads as it did. -/
def swapTakesSpec : ChangeSpec := { name := "swapTakes", fn := fun _ => fun
  | [d1, d2] => { results := [.lit (.bool true)], args := [d1, d2] }
  | _ => none }
def swapTakesRow : OpenClaim := { program := "ytnaodjnimkndbaa", sum := "59abfd5feff51b1b166101d3ef5d4cfe1575ac290e4105eee848d5a573f53de6", func := "swash/swashlaw16.SwapTakes", spec := "swapTakes", unfollowed := true, recurses := true, apart := false }
def SwapTakesSaid : Prop := swapTakesRow.holds Try.pinned (OpenSpec.ofChange swapTakesSpec)

/-- ITS FALSE NEIGHBOUR: 'it returns false'. Refute it at one input. -/
def swapTakesWrong : ChangeSpec := { name := "swapTakes", fn := fun _ => fun
  | [d1, d2] => { results := [.lit (.bool false)], args := [d1, d2] }
  | _ => none }
def SwapTakesWrongFalsely : Prop := swapTakesRow.holds Try.pinned (OpenSpec.ofChange swapTakesWrong)

/-- 'swashlaw24.AnkrBack': WHATEVER THE INPUT: true; the input reads as it did. -/
def ankrBackSpec : ChangeSpec := { name := "ankrBack", fn := fun _ => fun
  | [d1, d2] => { results := [.lit (.bool true)], args := [d1, d2] }
  | _ => none }
def ankrBackRow : OpenClaim := { program := "ytnaodjnimkndbaa", sum := "59abfd5feff51b1b166101d3ef5d4cfe1575ac290e4105eee848d5a573f53de6", func := "swash/swashlaw24.AnkrBack", spec := "ankrBack", unfollowed := true, recurses := true, apart := false }
def AnkrBackSaid : Prop := ankrBackRow.holds Try.pinned (OpenSpec.ofChange ankrBackSpec)

/-- ITS FALSE NEIGHBOUR: 'it returns false'. Refute it at one input. -/
def ankrBackWrong : ChangeSpec := { name := "ankrBack", fn := fun _ => fun
  | [d1, d2] => { results := [.lit (.bool false)], args := [d1, d2] }
  | _ => none }
def AnkrBackWrongFalsely : Prop := ankrBackRow.holds Try.pinned (OpenSpec.ofChange ankrBackWrong)

/-- 'swashtop.WholeLookups': WHATEVER THE INPUT: true; the input reads as it did. -/
def wholeLookupsSpec : ChangeSpec := { name := "wholeLookups", fn := fun _ => fun
  | [d1, d2] => { results := [.lit (.bool true)], args := [d1, d2] }
  | _ => none }
def wholeLookupsRow : OpenClaim := { program := "ytnaodjnimkndbaa", sum := "59abfd5feff51b1b166101d3ef5d4cfe1575ac290e4105eee848d5a573f53de6", func := "swash/swashtop.WholeLookups", spec := "wholeLookups", unfollowed := true, recurses := true, apart := false }
def WholeLookupsSaid : Prop := wholeLookupsRow.holds Try.pinned (OpenSpec.ofChange wholeLookupsSpec)

/-- ITS FALSE NEIGHBOUR: 'it returns false'. Refute it at one input. -/
def wholeLookupsWrong : ChangeSpec := { name := "wholeLookups", fn := fun _ => fun
  | [d1, d2] => { results := [.lit (.bool false)], args := [d1, d2] }
  | _ => none }
def WholeLookupsWrongFalsely : Prop := wholeLookupsRow.holds Try.pinned (OpenSpec.ofChange wholeLookupsWrong)

/-- 'swashlaw24.AnkrCuts': WHATEVER THE INPUT: true; the input reads as it did. -/
def ankrCutsSpec : ChangeSpec := { name := "ankrCuts", fn := fun _ => fun
  | [d1, d2] => { results := [.lit (.bool true)], args := [d1, d2] }
  | _ => none }
def ankrCutsRow : OpenClaim := { program := "ytnaodjnimkndbaa", sum := "59abfd5feff51b1b166101d3ef5d4cfe1575ac290e4105eee848d5a573f53de6", func := "swash/swashlaw24.AnkrCuts", spec := "ankrCuts", unfollowed := true, recurses := true, apart := false }
def AnkrCutsSaid : Prop := ankrCutsRow.holds Try.pinned (OpenSpec.ofChange ankrCutsSpec)

/-- ITS FALSE NEIGHBOUR: 'it returns false'. Refute it at one input. -/
def ankrCutsWrong : ChangeSpec := { name := "ankrCuts", fn := fun _ => fun
  | [d1, d2] => { results := [.lit (.bool false)], args := [d1, d2] }
  | _ => none }
def AnkrCutsWrongFalsely : Prop := ankrCutsRow.holds Try.pinned (OpenSpec.ofChange ankrCutsWrong)

/-- 'swashlaw24.AnkrTakes': WHATEVER THE INPUT: true; the input reads as it did. -/
def ankrTakesSpec : ChangeSpec := { name := "ankrTakes", fn := fun _ => fun
  | [d] => { results := [.lit (.bool true)], args := [d] }
  | _ => none }
def ankrTakesRow : OpenClaim := { program := "ytnaodjnimkndbaa", sum := "59abfd5feff51b1b166101d3ef5d4cfe1575ac290e4105eee848d5a573f53de6", func := "swash/swashlaw24.AnkrTakes", spec := "ankrTakes", unfollowed := true, recurses := true, apart := false }
def AnkrTakesSaid : Prop := ankrTakesRow.holds Try.pinned (OpenSpec.ofChange ankrTakesSpec)

/-- ITS FALSE NEIGHBOUR: 'it returns false'. Refute it at one input. -/
def ankrTakesWrong : ChangeSpec := { name := "ankrTakes", fn := fun _ => fun
  | [d] => { results := [.lit (.bool false)], args := [d] }
  | _ => none }
def AnkrTakesWrongFalsely : Prop := ankrTakesRow.holds Try.pinned (OpenSpec.ofChange ankrTakesWrong)

/-- 'swashlaw16.SwapParts': WHATEVER THE INPUT: true; the input reads as it did. -/
def swapPartsSpec : ChangeSpec := { name := "swapParts", fn := fun _ => fun
  | [d1, d2, d3] => { results := [.lit (.bool true)], args := [d1, d2, d3] }
  | _ => none }
def swapPartsRow : OpenClaim := { program := "ytnaodjnimkndbaa", sum := "59abfd5feff51b1b166101d3ef5d4cfe1575ac290e4105eee848d5a573f53de6", func := "swash/swashlaw16.SwapParts", spec := "swapParts", unfollowed := true, recurses := true, apart := false }
def SwapPartsSaid : Prop := swapPartsRow.holds Try.pinned (OpenSpec.ofChange swapPartsSpec)

/-- ITS FALSE NEIGHBOUR: 'it returns false'. Refute it at one input. -/
def swapPartsWrong : ChangeSpec := { name := "swapParts", fn := fun _ => fun
  | [d1, d2, d3] => { results := [.lit (.bool false)], args := [d1, d2, d3] }
  | _ => none }
def SwapPartsWrongFalsely : Prop := swapPartsRow.holds Try.pinned (OpenSpec.ofChange swapPartsWrong)

/-- 'swashlaw07.StateReads': WHATEVER THE INPUT: true; the input reads as it did. -/
def stateReadsSpec : ChangeSpec := { name := "stateReads", fn := fun _ => fun
  | [d1, d2, d3] => { results := [.lit (.bool true)], args := [d1, d2, d3] }
  | _ => none }
def stateReadsRow : OpenClaim := { program := "ytnaodjnimkndbaa", sum := "59abfd5feff51b1b166101d3ef5d4cfe1575ac290e4105eee848d5a573f53de6", func := "swash/swashlaw07.StateReads", spec := "stateReads", unfollowed := true, recurses := true, apart := false }
def StateReadsSaid : Prop := stateReadsRow.holds Try.pinned (OpenSpec.ofChange stateReadsSpec)

/-- ITS FALSE NEIGHBOUR: 'it returns false'. Refute it at one input. -/
def stateReadsWrong : ChangeSpec := { name := "stateReads", fn := fun _ => fun
  | [d1, d2, d3] => { results := [.lit (.bool false)], args := [d1, d2, d3] }
  | _ => none }
def StateReadsWrongFalsely : Prop := stateReadsRow.holds Try.pinned (OpenSpec.ofChange stateReadsWrong)

/-- 'swashlaw07.StateClosed': WHATEVER THE INPUT: true; the input reads as it did. -/
def stateClosedSpec : ChangeSpec := { name := "stateClosed", fn := fun _ => fun
  | [d1, d2] => { results := [.lit (.bool true)], args := [d1, d2] }
  | _ => none }
def stateClosedRow : OpenClaim := { program := "ytnaodjnimkndbaa", sum := "59abfd5feff51b1b166101d3ef5d4cfe1575ac290e4105eee848d5a573f53de6", func := "swash/swashlaw07.StateClosed", spec := "stateClosed", unfollowed := true, recurses := true, apart := false }
def StateClosedSaid : Prop := stateClosedRow.holds Try.pinned (OpenSpec.ofChange stateClosedSpec)

/-- ITS FALSE NEIGHBOUR: 'it returns false'. Refute it at one input. -/
def stateClosedWrong : ChangeSpec := { name := "stateClosed", fn := fun _ => fun
  | [d1, d2] => { results := [.lit (.bool false)], args := [d1, d2] }
  | _ => none }
def StateClosedWrongFalsely : Prop := stateClosedRow.holds Try.pinned (OpenSpec.ofChange stateClosedWrong)

/-- 'swashlaw07.StateMore': WHATEVER THE INPUT: true; the input reads as it did. -/
def stateMoreSpec : ChangeSpec := { name := "stateMore", fn := fun _ => fun
  | [d1, d2] => { results := [.lit (.bool true)], args := [d1, d2] }
  | _ => none }
def stateMoreRow : OpenClaim := { program := "ytnaodjnimkndbaa", sum := "59abfd5feff51b1b166101d3ef5d4cfe1575ac290e4105eee848d5a573f53de6", func := "swash/swashlaw07.StateMore", spec := "stateMore", unfollowed := true, recurses := true, apart := false }
def StateMoreSaid : Prop := stateMoreRow.holds Try.pinned (OpenSpec.ofChange stateMoreSpec)

/-- ITS FALSE NEIGHBOUR: 'it returns false'. Refute it at one input. -/
def stateMoreWrong : ChangeSpec := { name := "stateMore", fn := fun _ => fun
  | [d1, d2] => { results := [.lit (.bool false)], args := [d1, d2] }
  | _ => none }
def StateMoreWrongFalsely : Prop := stateMoreRow.holds Try.pinned (OpenSpec.ofChange stateMoreWrong)

/-- 'swashlaw07.StateOwn': WHATEVER THE INPUT: true; the input reads as it did. -/
def stateOwnSpec : ChangeSpec := { name := "stateOwn", fn := fun _ => fun
  | [d1, d2] => { results := [.lit (.bool true)], args := [d1, d2] }
  | _ => none }
def stateOwnRow : OpenClaim := { program := "ytnaodjnimkndbaa", sum := "59abfd5feff51b1b166101d3ef5d4cfe1575ac290e4105eee848d5a573f53de6", func := "swash/swashlaw07.StateOwn", spec := "stateOwn", unfollowed := true, recurses := true, apart := false }
def StateOwnSaid : Prop := stateOwnRow.holds Try.pinned (OpenSpec.ofChange stateOwnSpec)

/-- ITS FALSE NEIGHBOUR: 'it returns false'. Refute it at one input. -/
def stateOwnWrong : ChangeSpec := { name := "stateOwn", fn := fun _ => fun
  | [d1, d2] => { results := [.lit (.bool false)], args := [d1, d2] }
  | _ => none }
def StateOwnWrongFalsely : Prop := stateOwnRow.holds Try.pinned (OpenSpec.ofChange stateOwnWrong)

/-- 'swashtop.WholeSwaps': WHATEVER THE INPUT: true; the input reads as it did. -/
def wholeSwapsSpec : ChangeSpec := { name := "wholeSwaps", fn := fun _ => fun
  | [d1, d2, d3] => { results := [.lit (.bool true)], args := [d1, d2, d3] }
  | _ => none }
def wholeSwapsRow : OpenClaim := { program := "ytnaodjnimkndbaa", sum := "59abfd5feff51b1b166101d3ef5d4cfe1575ac290e4105eee848d5a573f53de6", func := "swash/swashtop.WholeSwaps", spec := "wholeSwaps", unfollowed := true, recurses := true, apart := false }
def WholeSwapsSaid : Prop := wholeSwapsRow.holds Try.pinned (OpenSpec.ofChange wholeSwapsSpec)

/-- ITS FALSE NEIGHBOUR: 'it returns false'. Refute it at one input. -/
def wholeSwapsWrong : ChangeSpec := { name := "wholeSwaps", fn := fun _ => fun
  | [d1, d2, d3] => { results := [.lit (.bool false)], args := [d1, d2, d3] }
  | _ => none }
def WholeSwapsWrongFalsely : Prop := wholeSwapsRow.holds Try.pinned (OpenSpec.ofChange wholeSwapsWrong)

/-- 'swashlaw07.StateTakes': WHATEVER THE INPUT: true; the input reads as it did. -/
def stateTakesSpec : ChangeSpec := { name := "stateTakes", fn := fun _ => fun
  | [d1, d2] => { results := [.lit (.bool true)], args := [d1, d2] }
  | _ => none }
def stateTakesRow : OpenClaim := { program := "ytnaodjnimkndbaa", sum := "59abfd5feff51b1b166101d3ef5d4cfe1575ac290e4105eee848d5a573f53de6", func := "swash/swashlaw07.StateTakes", spec := "stateTakes", unfollowed := true, recurses := true, apart := false }
def StateTakesSaid : Prop := stateTakesRow.holds Try.pinned (OpenSpec.ofChange stateTakesSpec)

/-- ITS FALSE NEIGHBOUR: 'it returns false'. Refute it at one input. -/
def stateTakesWrong : ChangeSpec := { name := "stateTakes", fn := fun _ => fun
  | [d1, d2] => { results := [.lit (.bool false)], args := [d1, d2] }
  | _ => none }
def StateTakesWrongFalsely : Prop := stateTakesRow.holds Try.pinned (OpenSpec.ofChange stateTakesWrong)

/-- 'swashlaw22.PairReads': WHATEVER THE INPUT: true; the input reads as it did. -/
def pairReadsSpec : ChangeSpec := { name := "pairReads", fn := fun _ => fun
  | [d1, d2, d3] => { results := [.lit (.bool true)], args := [d1, d2, d3] }
  | _ => none }
def pairReadsRow : OpenClaim := { program := "ytnaodjnimkndbaa", sum := "59abfd5feff51b1b166101d3ef5d4cfe1575ac290e4105eee848d5a573f53de6", func := "swash/swashlaw22.PairReads", spec := "pairReads", unfollowed := true, recurses := true, apart := false }
def PairReadsSaid : Prop := pairReadsRow.holds Try.pinned (OpenSpec.ofChange pairReadsSpec)

/-- ITS FALSE NEIGHBOUR: 'it returns false'. Refute it at one input. -/
def pairReadsWrong : ChangeSpec := { name := "pairReads", fn := fun _ => fun
  | [d1, d2, d3] => { results := [.lit (.bool false)], args := [d1, d2, d3] }
  | _ => none }
def PairReadsWrongFalsely : Prop := pairReadsRow.holds Try.pinned (OpenSpec.ofChange pairReadsWrong)

/-- 'swashlaw22.PairLists': WHATEVER THE INPUT: true; the input reads as it did. -/
def pairListsSpec : ChangeSpec := { name := "pairLists", fn := fun _ => fun
  | [d1, d2, d3] => { results := [.lit (.bool true)], args := [d1, d2, d3] }
  | _ => none }
def pairListsRow : OpenClaim := { program := "ytnaodjnimkndbaa", sum := "59abfd5feff51b1b166101d3ef5d4cfe1575ac290e4105eee848d5a573f53de6", func := "swash/swashlaw22.PairLists", spec := "pairLists", unfollowed := true, recurses := true, apart := false }
def PairListsSaid : Prop := pairListsRow.holds Try.pinned (OpenSpec.ofChange pairListsSpec)

/-- ITS FALSE NEIGHBOUR: 'it returns false'. Refute it at one input. -/
def pairListsWrong : ChangeSpec := { name := "pairLists", fn := fun _ => fun
  | [d1, d2, d3] => { results := [.lit (.bool false)], args := [d1, d2, d3] }
  | _ => none }
def PairListsWrongFalsely : Prop := pairListsRow.holds Try.pinned (OpenSpec.ofChange pairListsWrong)

/-- 'swashlaw22.PairForms': WHATEVER THE INPUT: true; the input reads as it did. -/
def pairFormsSpec : ChangeSpec := { name := "pairForms", fn := fun _ => fun
  | [d1, d2, d3] => { results := [.lit (.bool true)], args := [d1, d2, d3] }
  | _ => none }
def pairFormsRow : OpenClaim := { program := "ytnaodjnimkndbaa", sum := "59abfd5feff51b1b166101d3ef5d4cfe1575ac290e4105eee848d5a573f53de6", func := "swash/swashlaw22.PairForms", spec := "pairForms", unfollowed := true, recurses := true, apart := false }
def PairFormsSaid : Prop := pairFormsRow.holds Try.pinned (OpenSpec.ofChange pairFormsSpec)

/-- ITS FALSE NEIGHBOUR: 'it returns false'. Refute it at one input. -/
def pairFormsWrong : ChangeSpec := { name := "pairForms", fn := fun _ => fun
  | [d1, d2, d3] => { results := [.lit (.bool false)], args := [d1, d2, d3] }
  | _ => none }
def PairFormsWrongFalsely : Prop := pairFormsRow.holds Try.pinned (OpenSpec.ofChange pairFormsWrong)

/-- 'swashlaw22.PairKeeps': WHATEVER THE INPUT: true; the input reads as it did. -/
def pairKeepsSpec : ChangeSpec := { name := "pairKeeps", fn := fun _ => fun
  | [d1, d2, d3] => { results := [.lit (.bool true)], args := [d1, d2, d3] }
  | _ => none }
def pairKeepsRow : OpenClaim := { program := "ytnaodjnimkndbaa", sum := "59abfd5feff51b1b166101d3ef5d4cfe1575ac290e4105eee848d5a573f53de6", func := "swash/swashlaw22.PairKeeps", spec := "pairKeeps", unfollowed := true, recurses := true, apart := false }
def PairKeepsSaid : Prop := pairKeepsRow.holds Try.pinned (OpenSpec.ofChange pairKeepsSpec)

/-- ITS FALSE NEIGHBOUR: 'it returns false'. Refute it at one input. -/
def pairKeepsWrong : ChangeSpec := { name := "pairKeeps", fn := fun _ => fun
  | [d1, d2, d3] => { results := [.lit (.bool false)], args := [d1, d2, d3] }
  | _ => none }
def PairKeepsWrongFalsely : Prop := pairKeepsRow.holds Try.pinned (OpenSpec.ofChange pairKeepsWrong)

/-- 'swashlaw22.PairTakes': WHATEVER THE INPUT: true; the input reads as it did. -/
def pairTakesSpec : ChangeSpec := { name := "pairTakes", fn := fun _ => fun
  | [d1, d2] => { results := [.lit (.bool true)], args := [d1, d2] }
  | _ => none }
def pairTakesRow : OpenClaim := { program := "ytnaodjnimkndbaa", sum := "59abfd5feff51b1b166101d3ef5d4cfe1575ac290e4105eee848d5a573f53de6", func := "swash/swashlaw22.PairTakes", spec := "pairTakes", unfollowed := true, recurses := true, apart := false }
def PairTakesSaid : Prop := pairTakesRow.holds Try.pinned (OpenSpec.ofChange pairTakesSpec)

/-- ITS FALSE NEIGHBOUR: 'it returns false'. Refute it at one input. -/
def pairTakesWrong : ChangeSpec := { name := "pairTakes", fn := fun _ => fun
  | [d1, d2] => { results := [.lit (.bool false)], args := [d1, d2] }
  | _ => none }
def PairTakesWrongFalsely : Prop := pairTakesRow.holds Try.pinned (OpenSpec.ofChange pairTakesWrong)

/-- 'swashlaw12.DriveStuck': WHATEVER THE INPUT: true; the input reads as it did. -/
def driveStuckSpec : ChangeSpec := { name := "driveStuck", fn := fun _ => fun
  | [d1, d2] => { results := [.lit (.bool true)], args := [d1, d2] }
  | _ => none }
def driveStuckRow : OpenClaim := { program := "ytnaodjnimkndbaa", sum := "59abfd5feff51b1b166101d3ef5d4cfe1575ac290e4105eee848d5a573f53de6", func := "swash/swashlaw12.DriveStuck", spec := "driveStuck", unfollowed := true, recurses := true, apart := false }
def DriveStuckSaid : Prop := driveStuckRow.holds Try.pinned (OpenSpec.ofChange driveStuckSpec)

/-- ITS FALSE NEIGHBOUR: 'it returns false'. Refute it at one input. -/
def driveStuckWrong : ChangeSpec := { name := "driveStuck", fn := fun _ => fun
  | [d1, d2] => { results := [.lit (.bool false)], args := [d1, d2] }
  | _ => none }
def DriveStuckWrongFalsely : Prop := driveStuckRow.holds Try.pinned (OpenSpec.ofChange driveStuckWrong)

/-- 'swashlaw15.CtxRuns': WHATEVER THE INPUT: true; the input reads as it did. -/
def ctxRunsSpec : ChangeSpec := { name := "ctxRuns", fn := fun _ => fun
  | [d1, d2] => { results := [.lit (.bool true)], args := [d1, d2] }
  | _ => none }
def ctxRunsRow : OpenClaim := { program := "ytnaodjnimkndbaa", sum := "59abfd5feff51b1b166101d3ef5d4cfe1575ac290e4105eee848d5a573f53de6", func := "swash/swashlaw15.CtxRuns", spec := "ctxRuns", unfollowed := true, recurses := true, apart := false }
def CtxRunsSaid : Prop := ctxRunsRow.holds Try.pinned (OpenSpec.ofChange ctxRunsSpec)

/-- ITS FALSE NEIGHBOUR: 'it returns false'. Refute it at one input. -/
def ctxRunsWrong : ChangeSpec := { name := "ctxRuns", fn := fun _ => fun
  | [d1, d2] => { results := [.lit (.bool false)], args := [d1, d2] }
  | _ => none }
def CtxRunsWrongFalsely : Prop := ctxRunsRow.holds Try.pinned (OpenSpec.ofChange ctxRunsWrong)

/-- 'swashtop.WholeMachines': WHATEVER THE INPUT: true; the input reads as it did. -/
def wholeMachinesSpec : ChangeSpec := { name := "wholeMachines", fn := fun _ => fun
  | [d] => { results := [.lit (.bool true)], args := [d] }
  | _ => none }
def wholeMachinesRow : OpenClaim := { program := "ytnaodjnimkndbaa", sum := "59abfd5feff51b1b166101d3ef5d4cfe1575ac290e4105eee848d5a573f53de6", func := "swash/swashtop.WholeMachines", spec := "wholeMachines", unfollowed := true, recurses := true, apart := false }
def WholeMachinesSaid : Prop := wholeMachinesRow.holds Try.pinned (OpenSpec.ofChange wholeMachinesSpec)

/-- ITS FALSE NEIGHBOUR: 'it returns false'. Refute it at one input. -/
def wholeMachinesWrong : ChangeSpec := { name := "wholeMachines", fn := fun _ => fun
  | [d] => { results := [.lit (.bool false)], args := [d] }
  | _ => none }
def WholeMachinesWrongFalsely : Prop := wholeMachinesRow.holds Try.pinned (OpenSpec.ofChange wholeMachinesWrong)

/-- 'swashlaw15.CtxIdle': WHATEVER THE INPUT: true; the input reads as it did. -/
def ctxIdleSpec : ChangeSpec := { name := "ctxIdle", fn := fun _ => fun
  | [d1, d2, d3] => { results := [.lit (.bool true)], args := [d1, d2, d3] }
  | _ => none }
def ctxIdleRow : OpenClaim := { program := "ytnaodjnimkndbaa", sum := "59abfd5feff51b1b166101d3ef5d4cfe1575ac290e4105eee848d5a573f53de6", func := "swash/swashlaw15.CtxIdle", spec := "ctxIdle", unfollowed := true, recurses := true, apart := false }
def CtxIdleSaid : Prop := ctxIdleRow.holds Try.pinned (OpenSpec.ofChange ctxIdleSpec)

/-- ITS FALSE NEIGHBOUR: 'it returns false'. Refute it at one input. -/
def ctxIdleWrong : ChangeSpec := { name := "ctxIdle", fn := fun _ => fun
  | [d1, d2, d3] => { results := [.lit (.bool false)], args := [d1, d2, d3] }
  | _ => none }
def CtxIdleWrongFalsely : Prop := ctxIdleRow.holds Try.pinned (OpenSpec.ofChange ctxIdleWrong)

/-- 'swashlaw15.CtxSwap': WHATEVER THE INPUT: true; the input reads as it did. -/
def ctxSwapSpec : ChangeSpec := { name := "ctxSwap", fn := fun _ => fun
  | [d1, d2] => { results := [.lit (.bool true)], args := [d1, d2] }
  | _ => none }
def ctxSwapRow : OpenClaim := { program := "ytnaodjnimkndbaa", sum := "59abfd5feff51b1b166101d3ef5d4cfe1575ac290e4105eee848d5a573f53de6", func := "swash/swashlaw15.CtxSwap", spec := "ctxSwap", unfollowed := true, recurses := true, apart := false }
def CtxSwapSaid : Prop := ctxSwapRow.holds Try.pinned (OpenSpec.ofChange ctxSwapSpec)

/-- ITS FALSE NEIGHBOUR: 'it returns false'. Refute it at one input. -/
def ctxSwapWrong : ChangeSpec := { name := "ctxSwap", fn := fun _ => fun
  | [d1, d2] => { results := [.lit (.bool false)], args := [d1, d2] }
  | _ => none }
def CtxSwapWrongFalsely : Prop := ctxSwapRow.holds Try.pinned (OpenSpec.ofChange ctxSwapWrong)

/-- 'swashlaw15.CtxTakes': WHATEVER THE INPUT: true; the input reads as it did. -/
def ctxTakesSpec : ChangeSpec := { name := "ctxTakes", fn := fun _ => fun
  | [d1, d2] => { results := [.lit (.bool true)], args := [d1, d2] }
  | _ => none }
def ctxTakesRow : OpenClaim := { program := "ytnaodjnimkndbaa", sum := "59abfd5feff51b1b166101d3ef5d4cfe1575ac290e4105eee848d5a573f53de6", func := "swash/swashlaw15.CtxTakes", spec := "ctxTakes", unfollowed := true, recurses := true, apart := false }
def CtxTakesSaid : Prop := ctxTakesRow.holds Try.pinned (OpenSpec.ofChange ctxTakesSpec)

/-- ITS FALSE NEIGHBOUR: 'it returns false'. Refute it at one input. -/
def ctxTakesWrong : ChangeSpec := { name := "ctxTakes", fn := fun _ => fun
  | [d1, d2] => { results := [.lit (.bool false)], args := [d1, d2] }
  | _ => none }
def CtxTakesWrongFalsely : Prop := ctxTakesRow.holds Try.pinned (OpenSpec.ofChange ctxTakesWrong)

/-- 'swashlaw14.RearRuns': WHATEVER THE INPUT: true; the input reads as it did. -/
def rearRunsSpec : ChangeSpec := { name := "rearRuns", fn := fun _ => fun
  | [d1, d2] => { results := [.lit (.bool true)], args := [d1, d2] }
  | _ => none }
def rearRunsRow : OpenClaim := { program := "ytnaodjnimkndbaa", sum := "59abfd5feff51b1b166101d3ef5d4cfe1575ac290e4105eee848d5a573f53de6", func := "swash/swashlaw14.RearRuns", spec := "rearRuns", unfollowed := true, recurses := true, apart := false }
def RearRunsSaid : Prop := rearRunsRow.holds Try.pinned (OpenSpec.ofChange rearRunsSpec)

/-- ITS FALSE NEIGHBOUR: 'it returns false'. Refute it at one input. -/
def rearRunsWrong : ChangeSpec := { name := "rearRuns", fn := fun _ => fun
  | [d1, d2] => { results := [.lit (.bool false)], args := [d1, d2] }
  | _ => none }
def RearRunsWrongFalsely : Prop := rearRunsRow.holds Try.pinned (OpenSpec.ofChange rearRunsWrong)

/-- 'swashlaw14.RearKeeps': WHATEVER THE INPUT: true; the input reads as it did. -/
def rearKeepsSpec : ChangeSpec := { name := "rearKeeps", fn := fun _ => fun
  | [d1, d2] => { results := [.lit (.bool true)], args := [d1, d2] }
  | _ => none }
def rearKeepsRow : OpenClaim := { program := "ytnaodjnimkndbaa", sum := "59abfd5feff51b1b166101d3ef5d4cfe1575ac290e4105eee848d5a573f53de6", func := "swash/swashlaw14.RearKeeps", spec := "rearKeeps", unfollowed := true, recurses := true, apart := false }
def RearKeepsSaid : Prop := rearKeepsRow.holds Try.pinned (OpenSpec.ofChange rearKeepsSpec)

/-- ITS FALSE NEIGHBOUR: 'it returns false'. Refute it at one input. -/
def rearKeepsWrong : ChangeSpec := { name := "rearKeeps", fn := fun _ => fun
  | [d1, d2] => { results := [.lit (.bool false)], args := [d1, d2] }
  | _ => none }
def RearKeepsWrongFalsely : Prop := rearKeepsRow.holds Try.pinned (OpenSpec.ofChange rearKeepsWrong)

/- THE SECOND FORM. 'bulk': how many values and letters a reading holds, each counted each time it is reached (what is shared counts as often as it is met; a slice's spare places count too). A statement '..UptoSaid' is the law's where the arguments, and the package variables that the reading takes, are together of bulk at most 1048576: NARROWER than '..Said'. Prove '..Said' where nothing that the law and all that it calls make is longer than what came in: it says more and counts as full. Else prove '..UptoSaid'. A law counts once. -/
mutual
def uptoBulk {H : Type} : DataW H → Nat
  | .lit (.string bytes) => bytes.length + 1
  | .lit _ => 1
  | .nil => 1
  | .ptr d => uptoBulk d + 1
  | .slice elems spare => uptoBulkAll elems + uptoBulkAll spare + 1
  | .agg parts => uptoBulkAll parts + 1
  | .iface _ d => uptoBulk d + 1
  | .map entries => uptoBulkEntries entries + 1
  | .held _ => 1
def uptoBulkAll {H : Type} : List (DataW H) → Nat
  | [] => 0
  | d :: r => uptoBulk d + uptoBulkAll r
def uptoBulkEntries {H : Type} : List (Lit × DataW H) → Nat
  | [] => 0
  | x :: r => uptoBulkEntry x + uptoBulkEntries r
def uptoBulkEntry {H : Type} : Lit × DataW H → Nat
  | (.string bytes, d) => bytes.length + uptoBulk d + 1
  | (_, d) => uptoBulk d + 1
 end
def uptoSmall : (H : Type) → List (DataW H) → Bool := fun _ ds => decide (uptoBulkAll ds ≤ 1048576)
def OpenSpec.upto (s : _root_.Go.ChangeSpec) : _root_.Go.OpenSpec := { _root_.Go.OpenSpec.ofChange s with cond := some uptoSmall }

/-- 'swashlaw21.PlaceAdds', WHERE WHAT IT READS IS OF BULK AT MOST 1048576: true; the input reads as it did. -/
def placeAddsUptoRow : OpenClaim := { program := "ytnaodjnimkndbaa", sum := "59abfd5feff51b1b166101d3ef5d4cfe1575ac290e4105eee848d5a573f53de6", func := "swash/swashlaw21.PlaceAdds", spec := "placeAdds", apart := false, narrowed := true }
def PlaceAddsUptoSaid : Prop := placeAddsUptoRow.holds Try.pinned (OpenSpec.upto placeAddsSpec)

/-- 'swashlaw21.PlaceNear', WHERE WHAT IT READS IS OF BULK AT MOST 1048576: true; the input reads as it did. -/
def placeNearUptoRow : OpenClaim := { program := "ytnaodjnimkndbaa", sum := "59abfd5feff51b1b166101d3ef5d4cfe1575ac290e4105eee848d5a573f53de6", func := "swash/swashlaw21.PlaceNear", spec := "placeNear", apart := false, narrowed := true }
def PlaceNearUptoSaid : Prop := placeNearUptoRow.holds Try.pinned (OpenSpec.upto placeNearSpec)

/-- 'swashlaw21.PlaceOwn', WHERE WHAT IT READS IS OF BULK AT MOST 1048576: true; the input reads as it did. -/
def placeOwnUptoRow : OpenClaim := { program := "ytnaodjnimkndbaa", sum := "59abfd5feff51b1b166101d3ef5d4cfe1575ac290e4105eee848d5a573f53de6", func := "swash/swashlaw21.PlaceOwn", spec := "placeOwn", apart := false, narrowed := true }
def PlaceOwnUptoSaid : Prop := placeOwnUptoRow.holds Try.pinned (OpenSpec.upto placeOwnSpec)

/-- 'swashlaw21.PlaceDoes', WHERE WHAT IT READS IS OF BULK AT MOST 1048576: true; the input reads as it did. -/
def placeDoesUptoRow : OpenClaim := { program := "ytnaodjnimkndbaa", sum := "59abfd5feff51b1b166101d3ef5d4cfe1575ac290e4105eee848d5a573f53de6", func := "swash/swashlaw21.PlaceDoes", spec := "placeDoes", apart := false, narrowed := true }
def PlaceDoesUptoSaid : Prop := placeDoesUptoRow.holds Try.pinned (OpenSpec.upto placeDoesSpec)

/-- 'swashlaw11.LineOwn', WHERE WHAT IT READS IS OF BULK AT MOST 1048576: true; the input reads as it did. -/
def lineOwnUptoRow : OpenClaim := { program := "ytnaodjnimkndbaa", sum := "59abfd5feff51b1b166101d3ef5d4cfe1575ac290e4105eee848d5a573f53de6", func := "swash/swashlaw11.LineOwn", spec := "lineOwn", inPlace := ["slices.overlaps[swash/api.Glyph]"], apart := false, narrowed := true }
def LineOwnUptoSaid : Prop := lineOwnUptoRow.holds Try.pinned (OpenSpec.upto lineOwnSpec)

/-- 'swashlaw11.LineInserts', WHERE WHAT IT READS IS OF BULK AT MOST 1048576: true; the input reads as it did. -/
def lineInsertsUptoRow : OpenClaim := { program := "ytnaodjnimkndbaa", sum := "59abfd5feff51b1b166101d3ef5d4cfe1575ac290e4105eee848d5a573f53de6", func := "swash/swashlaw11.LineInserts", spec := "lineInserts", inPlace := ["slices.overlaps[swash/api.Glyph]"], apart := false, narrowed := true }
def LineInsertsUptoSaid : Prop := lineInsertsUptoRow.holds Try.pinned (OpenSpec.upto lineInsertsSpec)

/-- 'swashlaw11.LineTwice', WHERE WHAT IT READS IS OF BULK AT MOST 1048576: true; the input reads as it did. -/
def lineTwiceUptoRow : OpenClaim := { program := "ytnaodjnimkndbaa", sum := "59abfd5feff51b1b166101d3ef5d4cfe1575ac290e4105eee848d5a573f53de6", func := "swash/swashlaw11.LineTwice", spec := "lineTwice", inPlace := ["slices.overlaps[swash/api.Glyph]"], unfollowed := true, recurses := true, apart := false, narrowed := true }
def LineTwiceUptoSaid : Prop := lineTwiceUptoRow.holds Try.pinned (OpenSpec.upto lineTwiceSpec)

/-- 'swashlaw06.LookupForms', WHERE WHAT IT READS IS OF BULK AT MOST 1048576: true; the input reads as it did. -/
def lookupFormsUptoRow : OpenClaim := { program := "ytnaodjnimkndbaa", sum := "59abfd5feff51b1b166101d3ef5d4cfe1575ac290e4105eee848d5a573f53de6", func := "swash/swashlaw06.LookupForms", spec := "lookupForms", unfollowed := true, recurses := true, apart := false, narrowed := true }
def LookupFormsUptoSaid : Prop := lookupFormsUptoRow.holds Try.pinned (OpenSpec.upto lookupFormsSpec)

/-- 'swashlaw06.LookupKeeps', WHERE WHAT IT READS IS OF BULK AT MOST 1048576: true; the input reads as it did. -/
def lookupKeepsUptoRow : OpenClaim := { program := "ytnaodjnimkndbaa", sum := "59abfd5feff51b1b166101d3ef5d4cfe1575ac290e4105eee848d5a573f53de6", func := "swash/swashlaw06.LookupKeeps", spec := "lookupKeeps", unfollowed := true, recurses := true, apart := false, narrowed := true }
def LookupKeepsUptoSaid : Prop := lookupKeepsUptoRow.holds Try.pinned (OpenSpec.upto lookupKeepsSpec)

/-- 'swashlaw06.LookupSizes', WHERE WHAT IT READS IS OF BULK AT MOST 1048576: true; the input reads as it did. -/
def lookupSizesUptoRow : OpenClaim := { program := "ytnaodjnimkndbaa", sum := "59abfd5feff51b1b166101d3ef5d4cfe1575ac290e4105eee848d5a573f53de6", func := "swash/swashlaw06.LookupSizes", spec := "lookupSizes", unfollowed := true, recurses := true, apart := false, narrowed := true }
def LookupSizesUptoSaid : Prop := lookupSizesUptoRow.holds Try.pinned (OpenSpec.upto lookupSizesSpec)

/-- 'swashlaw06.LookupTakes', WHERE WHAT IT READS IS OF BULK AT MOST 1048576: true; the input reads as it did. -/
def lookupTakesUptoRow : OpenClaim := { program := "ytnaodjnimkndbaa", sum := "59abfd5feff51b1b166101d3ef5d4cfe1575ac290e4105eee848d5a573f53de6", func := "swash/swashlaw06.LookupTakes", spec := "lookupTakes", unfollowed := true, recurses := true, apart := false, narrowed := true }
def LookupTakesUptoSaid : Prop := lookupTakesUptoRow.holds Try.pinned (OpenSpec.upto lookupTakesSpec)

/-- 'swashlaw06.LookupAll', WHERE WHAT IT READS IS OF BULK AT MOST 1048576: true; the input reads as it did. -/
def lookupAllUptoRow : OpenClaim := { program := "ytnaodjnimkndbaa", sum := "59abfd5feff51b1b166101d3ef5d4cfe1575ac290e4105eee848d5a573f53de6", func := "swash/swashlaw06.LookupAll", spec := "lookupAll", unfollowed := true, recurses := true, apart := false, narrowed := true }
def LookupAllUptoSaid : Prop := lookupAllUptoRow.holds Try.pinned (OpenSpec.upto lookupAllSpec)

/-- 'swashlaw11.LineDoes', WHERE WHAT IT READS IS OF BULK AT MOST 1048576: true; the input reads as it did. -/
def lineDoesUptoRow : OpenClaim := { program := "ytnaodjnimkndbaa", sum := "59abfd5feff51b1b166101d3ef5d4cfe1575ac290e4105eee848d5a573f53de6", func := "swash/swashlaw11.LineDoes", spec := "lineDoes", inPlace := ["slices.overlaps[swash/api.Glyph]"], unfollowed := true, recurses := true, apart := false, narrowed := true }
def LineDoesUptoSaid : Prop := lineDoesUptoRow.holds Try.pinned (OpenSpec.upto lineDoesSpec)

/-- 'swashlaw16.SwapRuns', WHERE WHAT IT READS IS OF BULK AT MOST 1048576: true; the input reads as it did. -/
def swapRunsUptoRow : OpenClaim := { program := "ytnaodjnimkndbaa", sum := "59abfd5feff51b1b166101d3ef5d4cfe1575ac290e4105eee848d5a573f53de6", func := "swash/swashlaw16.SwapRuns", spec := "swapRuns", unfollowed := true, recurses := true, apart := false, narrowed := true }
def SwapRunsUptoSaid : Prop := swapRunsUptoRow.holds Try.pinned (OpenSpec.upto swapRunsSpec)

/-- 'swashlaw16.SwapGone', WHERE WHAT IT READS IS OF BULK AT MOST 1048576: true; the input reads as it did. -/
def swapGoneUptoRow : OpenClaim := { program := "ytnaodjnimkndbaa", sum := "59abfd5feff51b1b166101d3ef5d4cfe1575ac290e4105eee848d5a573f53de6", func := "swash/swashlaw16.SwapGone", spec := "swapGone", unfollowed := true, recurses := true, apart := false, narrowed := true }
def SwapGoneUptoSaid : Prop := swapGoneUptoRow.holds Try.pinned (OpenSpec.upto swapGoneSpec)

/-- 'swashlaw16.SwapTakes', WHERE WHAT IT READS IS OF BULK AT MOST 1048576: true; the input reads as it did. -/
def swapTakesUptoRow : OpenClaim := { program := "ytnaodjnimkndbaa", sum := "59abfd5feff51b1b166101d3ef5d4cfe1575ac290e4105eee848d5a573f53de6", func := "swash/swashlaw16.SwapTakes", spec := "swapTakes", unfollowed := true, recurses := true, apart := false, narrowed := true }
def SwapTakesUptoSaid : Prop := swapTakesUptoRow.holds Try.pinned (OpenSpec.upto swapTakesSpec)

/-- 'swashlaw24.AnkrBack', WHERE WHAT IT READS IS OF BULK AT MOST 1048576: true; the input reads as it did. -/
def ankrBackUptoRow : OpenClaim := { program := "ytnaodjnimkndbaa", sum := "59abfd5feff51b1b166101d3ef5d4cfe1575ac290e4105eee848d5a573f53de6", func := "swash/swashlaw24.AnkrBack", spec := "ankrBack", unfollowed := true, recurses := true, apart := false, narrowed := true }
def AnkrBackUptoSaid : Prop := ankrBackUptoRow.holds Try.pinned (OpenSpec.upto ankrBackSpec)

/-- 'swashtop.WholeLookups', WHERE WHAT IT READS IS OF BULK AT MOST 1048576: true; the input reads as it did. -/
def wholeLookupsUptoRow : OpenClaim := { program := "ytnaodjnimkndbaa", sum := "59abfd5feff51b1b166101d3ef5d4cfe1575ac290e4105eee848d5a573f53de6", func := "swash/swashtop.WholeLookups", spec := "wholeLookups", unfollowed := true, recurses := true, apart := false, narrowed := true }
def WholeLookupsUptoSaid : Prop := wholeLookupsUptoRow.holds Try.pinned (OpenSpec.upto wholeLookupsSpec)

/-- 'swashlaw24.AnkrCuts', WHERE WHAT IT READS IS OF BULK AT MOST 1048576: true; the input reads as it did. -/
def ankrCutsUptoRow : OpenClaim := { program := "ytnaodjnimkndbaa", sum := "59abfd5feff51b1b166101d3ef5d4cfe1575ac290e4105eee848d5a573f53de6", func := "swash/swashlaw24.AnkrCuts", spec := "ankrCuts", unfollowed := true, recurses := true, apart := false, narrowed := true }
def AnkrCutsUptoSaid : Prop := ankrCutsUptoRow.holds Try.pinned (OpenSpec.upto ankrCutsSpec)

/-- 'swashlaw24.AnkrTakes', WHERE WHAT IT READS IS OF BULK AT MOST 1048576: true; the input reads as it did. -/
def ankrTakesUptoRow : OpenClaim := { program := "ytnaodjnimkndbaa", sum := "59abfd5feff51b1b166101d3ef5d4cfe1575ac290e4105eee848d5a573f53de6", func := "swash/swashlaw24.AnkrTakes", spec := "ankrTakes", unfollowed := true, recurses := true, apart := false, narrowed := true }
def AnkrTakesUptoSaid : Prop := ankrTakesUptoRow.holds Try.pinned (OpenSpec.upto ankrTakesSpec)

/-- 'swashlaw16.SwapParts', WHERE WHAT IT READS IS OF BULK AT MOST 1048576: true; the input reads as it did. -/
def swapPartsUptoRow : OpenClaim := { program := "ytnaodjnimkndbaa", sum := "59abfd5feff51b1b166101d3ef5d4cfe1575ac290e4105eee848d5a573f53de6", func := "swash/swashlaw16.SwapParts", spec := "swapParts", unfollowed := true, recurses := true, apart := false, narrowed := true }
def SwapPartsUptoSaid : Prop := swapPartsUptoRow.holds Try.pinned (OpenSpec.upto swapPartsSpec)

/-- 'swashlaw07.StateReads', WHERE WHAT IT READS IS OF BULK AT MOST 1048576: true; the input reads as it did. -/
def stateReadsUptoRow : OpenClaim := { program := "ytnaodjnimkndbaa", sum := "59abfd5feff51b1b166101d3ef5d4cfe1575ac290e4105eee848d5a573f53de6", func := "swash/swashlaw07.StateReads", spec := "stateReads", unfollowed := true, recurses := true, apart := false, narrowed := true }
def StateReadsUptoSaid : Prop := stateReadsUptoRow.holds Try.pinned (OpenSpec.upto stateReadsSpec)

/-- 'swashlaw07.StateClosed', WHERE WHAT IT READS IS OF BULK AT MOST 1048576: true; the input reads as it did. -/
def stateClosedUptoRow : OpenClaim := { program := "ytnaodjnimkndbaa", sum := "59abfd5feff51b1b166101d3ef5d4cfe1575ac290e4105eee848d5a573f53de6", func := "swash/swashlaw07.StateClosed", spec := "stateClosed", unfollowed := true, recurses := true, apart := false, narrowed := true }
def StateClosedUptoSaid : Prop := stateClosedUptoRow.holds Try.pinned (OpenSpec.upto stateClosedSpec)

/-- 'swashlaw07.StateMore', WHERE WHAT IT READS IS OF BULK AT MOST 1048576: true; the input reads as it did. -/
def stateMoreUptoRow : OpenClaim := { program := "ytnaodjnimkndbaa", sum := "59abfd5feff51b1b166101d3ef5d4cfe1575ac290e4105eee848d5a573f53de6", func := "swash/swashlaw07.StateMore", spec := "stateMore", unfollowed := true, recurses := true, apart := false, narrowed := true }
def StateMoreUptoSaid : Prop := stateMoreUptoRow.holds Try.pinned (OpenSpec.upto stateMoreSpec)

/-- 'swashlaw07.StateOwn', WHERE WHAT IT READS IS OF BULK AT MOST 1048576: true; the input reads as it did. -/
def stateOwnUptoRow : OpenClaim := { program := "ytnaodjnimkndbaa", sum := "59abfd5feff51b1b166101d3ef5d4cfe1575ac290e4105eee848d5a573f53de6", func := "swash/swashlaw07.StateOwn", spec := "stateOwn", unfollowed := true, recurses := true, apart := false, narrowed := true }
def StateOwnUptoSaid : Prop := stateOwnUptoRow.holds Try.pinned (OpenSpec.upto stateOwnSpec)

/-- 'swashtop.WholeSwaps', WHERE WHAT IT READS IS OF BULK AT MOST 1048576: true; the input reads as it did. -/
def wholeSwapsUptoRow : OpenClaim := { program := "ytnaodjnimkndbaa", sum := "59abfd5feff51b1b166101d3ef5d4cfe1575ac290e4105eee848d5a573f53de6", func := "swash/swashtop.WholeSwaps", spec := "wholeSwaps", unfollowed := true, recurses := true, apart := false, narrowed := true }
def WholeSwapsUptoSaid : Prop := wholeSwapsUptoRow.holds Try.pinned (OpenSpec.upto wholeSwapsSpec)

/-- 'swashlaw07.StateTakes', WHERE WHAT IT READS IS OF BULK AT MOST 1048576: true; the input reads as it did. -/
def stateTakesUptoRow : OpenClaim := { program := "ytnaodjnimkndbaa", sum := "59abfd5feff51b1b166101d3ef5d4cfe1575ac290e4105eee848d5a573f53de6", func := "swash/swashlaw07.StateTakes", spec := "stateTakes", unfollowed := true, recurses := true, apart := false, narrowed := true }
def StateTakesUptoSaid : Prop := stateTakesUptoRow.holds Try.pinned (OpenSpec.upto stateTakesSpec)

/-- 'swashlaw22.PairReads', WHERE WHAT IT READS IS OF BULK AT MOST 1048576: true; the input reads as it did. -/
def pairReadsUptoRow : OpenClaim := { program := "ytnaodjnimkndbaa", sum := "59abfd5feff51b1b166101d3ef5d4cfe1575ac290e4105eee848d5a573f53de6", func := "swash/swashlaw22.PairReads", spec := "pairReads", unfollowed := true, recurses := true, apart := false, narrowed := true }
def PairReadsUptoSaid : Prop := pairReadsUptoRow.holds Try.pinned (OpenSpec.upto pairReadsSpec)

/-- 'swashlaw22.PairLists', WHERE WHAT IT READS IS OF BULK AT MOST 1048576: true; the input reads as it did. -/
def pairListsUptoRow : OpenClaim := { program := "ytnaodjnimkndbaa", sum := "59abfd5feff51b1b166101d3ef5d4cfe1575ac290e4105eee848d5a573f53de6", func := "swash/swashlaw22.PairLists", spec := "pairLists", unfollowed := true, recurses := true, apart := false, narrowed := true }
def PairListsUptoSaid : Prop := pairListsUptoRow.holds Try.pinned (OpenSpec.upto pairListsSpec)

/-- 'swashlaw22.PairForms', WHERE WHAT IT READS IS OF BULK AT MOST 1048576: true; the input reads as it did. -/
def pairFormsUptoRow : OpenClaim := { program := "ytnaodjnimkndbaa", sum := "59abfd5feff51b1b166101d3ef5d4cfe1575ac290e4105eee848d5a573f53de6", func := "swash/swashlaw22.PairForms", spec := "pairForms", unfollowed := true, recurses := true, apart := false, narrowed := true }
def PairFormsUptoSaid : Prop := pairFormsUptoRow.holds Try.pinned (OpenSpec.upto pairFormsSpec)

/-- 'swashlaw22.PairKeeps', WHERE WHAT IT READS IS OF BULK AT MOST 1048576: true; the input reads as it did. -/
def pairKeepsUptoRow : OpenClaim := { program := "ytnaodjnimkndbaa", sum := "59abfd5feff51b1b166101d3ef5d4cfe1575ac290e4105eee848d5a573f53de6", func := "swash/swashlaw22.PairKeeps", spec := "pairKeeps", unfollowed := true, recurses := true, apart := false, narrowed := true }
def PairKeepsUptoSaid : Prop := pairKeepsUptoRow.holds Try.pinned (OpenSpec.upto pairKeepsSpec)

/-- 'swashlaw22.PairTakes', WHERE WHAT IT READS IS OF BULK AT MOST 1048576: true; the input reads as it did. -/
def pairTakesUptoRow : OpenClaim := { program := "ytnaodjnimkndbaa", sum := "59abfd5feff51b1b166101d3ef5d4cfe1575ac290e4105eee848d5a573f53de6", func := "swash/swashlaw22.PairTakes", spec := "pairTakes", unfollowed := true, recurses := true, apart := false, narrowed := true }
def PairTakesUptoSaid : Prop := pairTakesUptoRow.holds Try.pinned (OpenSpec.upto pairTakesSpec)

/-- 'swashlaw12.DriveStuck', WHERE WHAT IT READS IS OF BULK AT MOST 1048576: true; the input reads as it did. -/
def driveStuckUptoRow : OpenClaim := { program := "ytnaodjnimkndbaa", sum := "59abfd5feff51b1b166101d3ef5d4cfe1575ac290e4105eee848d5a573f53de6", func := "swash/swashlaw12.DriveStuck", spec := "driveStuck", unfollowed := true, recurses := true, apart := false, narrowed := true }
def DriveStuckUptoSaid : Prop := driveStuckUptoRow.holds Try.pinned (OpenSpec.upto driveStuckSpec)

/-- 'swashlaw15.CtxRuns', WHERE WHAT IT READS IS OF BULK AT MOST 1048576: true; the input reads as it did. -/
def ctxRunsUptoRow : OpenClaim := { program := "ytnaodjnimkndbaa", sum := "59abfd5feff51b1b166101d3ef5d4cfe1575ac290e4105eee848d5a573f53de6", func := "swash/swashlaw15.CtxRuns", spec := "ctxRuns", unfollowed := true, recurses := true, apart := false, narrowed := true }
def CtxRunsUptoSaid : Prop := ctxRunsUptoRow.holds Try.pinned (OpenSpec.upto ctxRunsSpec)

/-- 'swashtop.WholeMachines', WHERE WHAT IT READS IS OF BULK AT MOST 1048576: true; the input reads as it did. -/
def wholeMachinesUptoRow : OpenClaim := { program := "ytnaodjnimkndbaa", sum := "59abfd5feff51b1b166101d3ef5d4cfe1575ac290e4105eee848d5a573f53de6", func := "swash/swashtop.WholeMachines", spec := "wholeMachines", unfollowed := true, recurses := true, apart := false, narrowed := true }
def WholeMachinesUptoSaid : Prop := wholeMachinesUptoRow.holds Try.pinned (OpenSpec.upto wholeMachinesSpec)

/-- 'swashlaw15.CtxIdle', WHERE WHAT IT READS IS OF BULK AT MOST 1048576: true; the input reads as it did. -/
def ctxIdleUptoRow : OpenClaim := { program := "ytnaodjnimkndbaa", sum := "59abfd5feff51b1b166101d3ef5d4cfe1575ac290e4105eee848d5a573f53de6", func := "swash/swashlaw15.CtxIdle", spec := "ctxIdle", unfollowed := true, recurses := true, apart := false, narrowed := true }
def CtxIdleUptoSaid : Prop := ctxIdleUptoRow.holds Try.pinned (OpenSpec.upto ctxIdleSpec)

/-- 'swashlaw15.CtxSwap', WHERE WHAT IT READS IS OF BULK AT MOST 1048576: true; the input reads as it did. -/
def ctxSwapUptoRow : OpenClaim := { program := "ytnaodjnimkndbaa", sum := "59abfd5feff51b1b166101d3ef5d4cfe1575ac290e4105eee848d5a573f53de6", func := "swash/swashlaw15.CtxSwap", spec := "ctxSwap", unfollowed := true, recurses := true, apart := false, narrowed := true }
def CtxSwapUptoSaid : Prop := ctxSwapUptoRow.holds Try.pinned (OpenSpec.upto ctxSwapSpec)

/-- 'swashlaw15.CtxTakes', WHERE WHAT IT READS IS OF BULK AT MOST 1048576: true; the input reads as it did. -/
def ctxTakesUptoRow : OpenClaim := { program := "ytnaodjnimkndbaa", sum := "59abfd5feff51b1b166101d3ef5d4cfe1575ac290e4105eee848d5a573f53de6", func := "swash/swashlaw15.CtxTakes", spec := "ctxTakes", unfollowed := true, recurses := true, apart := false, narrowed := true }
def CtxTakesUptoSaid : Prop := ctxTakesUptoRow.holds Try.pinned (OpenSpec.upto ctxTakesSpec)

/-- 'swashlaw14.RearRuns', WHERE WHAT IT READS IS OF BULK AT MOST 1048576: true; the input reads as it did. -/
def rearRunsUptoRow : OpenClaim := { program := "ytnaodjnimkndbaa", sum := "59abfd5feff51b1b166101d3ef5d4cfe1575ac290e4105eee848d5a573f53de6", func := "swash/swashlaw14.RearRuns", spec := "rearRuns", unfollowed := true, recurses := true, apart := false, narrowed := true }
def RearRunsUptoSaid : Prop := rearRunsUptoRow.holds Try.pinned (OpenSpec.upto rearRunsSpec)

/-- 'swashlaw14.RearKeeps', WHERE WHAT IT READS IS OF BULK AT MOST 1048576: true; the input reads as it did. -/
def rearKeepsUptoRow : OpenClaim := { program := "ytnaodjnimkndbaa", sum := "59abfd5feff51b1b166101d3ef5d4cfe1575ac290e4105eee848d5a573f53de6", func := "swash/swashlaw14.RearKeeps", spec := "rearKeeps", unfollowed := true, recurses := true, apart := false, narrowed := true }
def RearKeepsUptoSaid : Prop := rearKeepsUptoRow.holds Try.pinned (OpenSpec.upto rearKeepsSpec)

end Rows
end Go.Proofs.Ytnaodjnimkndbaa
