/-
  WholeWidths, proved: of any arguments the call returns true and turns nothing that was there. No condition.
-/
import Derived.Test.YtanfippcmdialaaSwW4
import Derived.Test.YtanfippcmdialaaSwHead
import Derived.Test.YtanfippcmdialaaRows
import Derived.WalkKit
import Derived.ProofKit
import Derived.OpenShut
import Derived.ShutString
import Derived.ChangeOld
import Derived.Below
namespace Go.Proofs.Ytanfippcmdialaa.wholeWidths
open Go.ChangeShapes Go.WideShapes Go.ChangeAt Go.RowKit
open Go.Sw
set_option linter.unusedVariables false

theorem own : ownKnob Try.prog.godebug = none := by kernel_rfl
theorem shapes : argShs Try.prog 8 Try.f13.params.toList = some [.one (.slice [.int .u16]), .one (.int .u16), .one .bool] := by kernel_rfl
theorem readable : (Try.f13.params.toList.all fun t => Try.prog.readableRec t && decide (t < Try.prog.types.size)) = true := by kernel_rfl
theorem told : SpOk (T 999999).c := told0 (by kernel_rfl)

set_option maxRecDepth 100000 in
theorem lifted (os : Os) (started : os.Started) (H : Type) (enc : TypeId × Value → H) :
    ReturnsInHanded {} Try.checked os 13 .any (Rows.wholeWidthsSpec.pre6 enc Try.prog Try.f13 Rows.wholeWidthsRow.domain false) (Rows.wholeWidthsSpec.post enc Try.prog Try.f13 false true false false) := by
  refine returnsInHanded_of_change (C := Try.checked) own started (by kernel_rfl) Try.func13
    (ChangeSpec.witness6 (enc := enc) (C := Try.checked) false ⟨#[], #[.slice none 0 0, .int .u16 0, .bool false], []⟩ 8 (by kernel_rfl) (by kernel_rfl) (by kernel_rfl) (by kernel_rfl)) ?_
  intro W base args ds gs before hval0 hW hcnd _
  have hval : ∀ (j : Nat) t v, Try.f13.params.toList[j]? = some t → args[j]? = some v → Value.okWide Try.prog W .any base t v := fun j t v h1 h2 => hval0 j t v (by rw [← Array.getElem?_toList]; exact h1) h2
  have hW' := hW
  obtain ⟨p, q, hA0, hV, rfl, hfz, hnd⟩ := hW
  have hA : DataW.TrodAll enc Try.prog W 0 (fun _ => true) true Try.f13.params.toList args.toList ds p := hA0
  have hA2 := hA
  rw [Try.params13] at hA2
  obtain ⟨v0, vs0, d0, ds0, p0, q0, g0, rfl, rfl, h0, r0⟩ := trodAll_cons hA2
  obtain ⟨v1, vs1, d1, ds1, p1, q1, g1, rfl, rfl, h1, r1⟩ := trodAll_cons r0
  obtain ⟨v2, vs2, d2, ds2, p2, q2, g2, rfl, rfl, h2, r2⟩ := trodAll_cons r1
  obtain ⟨g, rfl, rfl⟩ := trodAll_nil r2
  obtain ⟨rfl, rfl⟩ := trodVars_none hV
  refine (law_of_args (t := T 999999) (P := Try.prog) (T_prog 999999) names_ok mixed_ok told (T_scott 999999) (f := 13) shapes hval hA WholeWidths_args).mono fun e W' ⟨he, bel⟩ => ?_
  subst he
  exact ⟨_, rfl, _, _, _, [], _, [], hW', trodAll_mk1 (shut_bool Try.underlying4 _), trodAll_below laid_ok bel readable hA, rfl, bel.frame _, fun h => by cases h⟩

abbrev cl := Rows.wholeWidthsRow
abbrev sp := Rows.wholeWidthsSpec
theorem jA : (cl.wf (OpenSpec.ofChange sp) && laidOutB Try.prog && mapsRowed Try.prog && Try.f13.params.all (Try.prog.readableRec ·) && namedTie Try.prog cl.named sp.vars && (cl.stops == []) && (Try.prog.stops == []) && (cl.knobs == []) && (Try.prog.stopKnobs == [])) = true := by kernel_rfl
theorem jB1 : (cl.inPlace == Try.prog.inPlace 13) = true := by kernel_rfl
theorem jB2 : (cl.unfollowed == Try.prog.unfollowed 13) = true := by kernel_rfl
theorem jB3 : (cl.recurses == Try.prog.recurses 13) = true := by kernel_rfl
theorem jB4 : (cl.named == Try.prog.varsNamed 13) = true := by kernel_rfl
theorem jC1 : ((cl.maps == (Try.f13.params.toList ++ sp.plain.varTypes Try.prog).any (Try.prog.mapsRec ·)) && (cl.ifaces == (Try.f13.params.toList ++ sp.plain.varTypes Try.prog).any (Try.prog.ifacesRec ·)) && (cl.mapsOut == Try.prog.mapsAmong Try.f13.resultTypes.toList)) = true := by kernel_rfl
theorem jC2 : ((cl.loops == (Try.f13.params.toList ++ sp.plain.varTypes Try.prog).any (Try.prog.loopsFrom ·)) && (cl.wideKeys == (Try.f13.params.toList ++ sp.plain.varTypes Try.prog ++ Try.f13.resultTypes.toList).any (Try.prog.wideKeysFrom ·))) = true := by kernel_rfl
theorem jC3 : (sp.vars.all (Try.prog.varReadable ·) && Try.f13.resultTypes.all (fun t => Try.prog.readableRec t && decide (t < Try.prog.types.size)) && (cl.ifacesOut == Try.f13.resultTypes.toList.any (Try.prog.ifacesRec ·)) && (cl.loopsOut == Try.f13.resultTypes.toList.any (Try.prog.loopsFrom ·))) = true := by kernel_rfl
theorem jC4 : ((cl.plainKeys == Try.prog.plainKeys) && cl.shortTexts.isNone && Try.prog.stopsHeard) = true := by kernel_rfl
theorem named : Try.pinned.checked.prog.funcNamed cl.func = some 13 := by kernel_rfl

theorem over : Rows.wholeWidthsRow.holds Try.pinned (OpenSpec.ofChange Rows.wholeWidthsSpec) :=
  OpenClaim.holds_of_wide 13 Try.f13 rfl rfl rfl rfl rfl rfl rfl ⟨rfl, rfl, rfl, rfl, rfl⟩ rfl rfl rfl rfl rfl named Try.func13 (joined_of may_enter not_final make_is jA jB1 jB2 jB3 jB4 jC1 jC2 jC3 jC4 (by kernel_rfl))
    (of_decide_eq_true (by kernel_rfl)) (by unfold Func.isWrapper; first | (rw [if_pos (by decide +kernel)]; kernel_rfl) | (rw [if_neg (by decide +kernel)]; exact ⟨rfl, rfl⟩))
    (fun os started H enc _ => lifted os started H enc)

theorem wholeWidths_holds : Rows.WholeWidthsSaid := over
#print axioms wholeWidths_holds
end Go.Proofs.Ytanfippcmdialaa.wholeWidths
