/-
  WholeGrows, proved: of any arguments the call returns true and turns nothing that was there. No condition.
-/
import Derived.Test.YtanfippcmdialaaSwW13
import Derived.Test.YtanfippcmdialaaSwHead
import Derived.Test.YtanfippcmdialaaRows
import Derived.WalkKit
import Derived.ProofKit
import Derived.OpenShut
import Derived.ShutString
import Derived.ChangeOld
import Derived.Below
namespace Go.Proofs.Ytanfippcmdialaa.wholeGrows
open Go.ChangeShapes Go.WideShapes Go.ChangeAt Go.RowKit
open Go.Sw
set_option linter.unusedVariables false

theorem own : ownKnob Try.prog.godebug = none := by kernel_rfl
theorem shapes : argShs Try.prog 8 Try.f14.params.toList = some [.one (.slice [.int .u8])] := by kernel_rfl
theorem readable : (Try.f14.params.toList.all fun t => Try.prog.readableRec t && decide (t < Try.prog.types.size)) = true := by kernel_rfl
theorem told : SpOk (T 999999).c := told0 (by kernel_rfl)

set_option maxRecDepth 100000 in
theorem lifted (os : Os) (started : os.Started) (H : Type) (enc : TypeId × Value → H) :
    ReturnsInHanded {} Try.checked os 14 .any (Rows.wholeGrowsSpec.pre6 enc Try.prog Try.f14 Rows.wholeGrowsRow.domain false) (Rows.wholeGrowsSpec.post enc Try.prog Try.f14 false true false false) := by
  refine returnsInHanded_of_change (C := Try.checked) own started (by kernel_rfl) Try.func14
    (ChangeSpec.witness6 (enc := enc) (C := Try.checked) false ⟨#[], #[.slice none 0 0], []⟩ 8 (by kernel_rfl) (by kernel_rfl) (by kernel_rfl) (by kernel_rfl)) ?_
  intro W base args ds gs before hval0 hW hcnd _
  have hval : ∀ (j : Nat) t v, Try.f14.params.toList[j]? = some t → args[j]? = some v → Value.okWide Try.prog W .any base t v := fun j t v h1 h2 => hval0 j t v (by rw [← Array.getElem?_toList]; exact h1) h2
  have hW' := hW
  obtain ⟨p, q, hA0, hV, rfl, hfz, hnd⟩ := hW
  have hA : DataW.TrodAll enc Try.prog W 0 (fun _ => true) true Try.f14.params.toList args.toList ds p := hA0
  have hA2 := hA
  rw [Try.params14] at hA2
  obtain ⟨v0, vs0, d0, ds0, p0, q0, g0, rfl, rfl, h0, r0⟩ := trodAll_cons hA2
  obtain ⟨g, rfl, rfl⟩ := trodAll_nil r0
  obtain ⟨rfl, rfl⟩ := trodVars_none hV
  refine (ζrz (t := T 999999) (P := Try.prog) (T_prog 999999) names_ok mixed_ok told (T_scott 999999) (f := 14) shapes hval hA ζk5).mono fun e W' ⟨he, bel⟩ => ?_
  subst he
  exact ⟨_, rfl, _, _, _, [], _, [], hW', trodAll_mk1 (shut_bool Try.underlying4 _), ζg8 laid_ok bel readable hA, rfl, bel.frame _, fun h => by cases h⟩

abbrev cl := Rows.wholeGrowsRow
abbrev sp := Rows.wholeGrowsSpec
theorem jA : (cl.wf (OpenSpec.ofChange sp) && laidOutB Try.prog && mapsRowed Try.prog && Try.f14.params.all (Try.prog.readableRec ·) && namedTie Try.prog cl.named sp.vars && (cl.stops == []) && (Try.prog.stops == []) && (cl.knobs == []) && (Try.prog.stopKnobs == [])) = true := by kernel_rfl
theorem jB1 : (cl.inPlace == Try.prog.inPlace 14) = true := by kernel_rfl
theorem jB2 : (cl.unfollowed == Try.prog.unfollowed 14) = true := by kernel_rfl
theorem jB3 : (cl.recurses == Try.prog.recurses 14) = true := by kernel_rfl
theorem jB4 : (cl.named == Try.prog.varsNamed 14) = true := by kernel_rfl
theorem jC1 : ((cl.maps == (Try.f14.params.toList ++ sp.plain.varTypes Try.prog).any (Try.prog.mapsRec ·)) && (cl.ifaces == (Try.f14.params.toList ++ sp.plain.varTypes Try.prog).any (Try.prog.ifacesRec ·)) && (cl.mapsOut == Try.prog.mapsAmong Try.f14.resultTypes.toList)) = true := by kernel_rfl
theorem jC2 : ((cl.loops == (Try.f14.params.toList ++ sp.plain.varTypes Try.prog).any (Try.prog.loopsFrom ·)) && (cl.wideKeys == (Try.f14.params.toList ++ sp.plain.varTypes Try.prog ++ Try.f14.resultTypes.toList).any (Try.prog.wideKeysFrom ·))) = true := by kernel_rfl
theorem jC3 : (sp.vars.all (Try.prog.varReadable ·) && Try.f14.resultTypes.all (fun t => Try.prog.readableRec t && decide (t < Try.prog.types.size)) && (cl.ifacesOut == Try.f14.resultTypes.toList.any (Try.prog.ifacesRec ·)) && (cl.loopsOut == Try.f14.resultTypes.toList.any (Try.prog.loopsFrom ·))) = true := by kernel_rfl
theorem jC4 : ((cl.plainKeys == Try.prog.plainKeys) && cl.shortTexts.isNone && Try.prog.stopsHeard) = true := by kernel_rfl
theorem named : Try.pinned.checked.prog.funcNamed cl.func = some 14 := by kernel_rfl

theorem over : Rows.wholeGrowsRow.holds Try.pinned (OpenSpec.ofChange Rows.wholeGrowsSpec) :=
  OpenClaim.holds_of_wide 14 Try.f14 rfl rfl rfl rfl rfl rfl rfl ⟨rfl, rfl, rfl, rfl, rfl⟩ rfl rfl rfl rfl rfl named Try.func14 (ζux ζv2 ζv4 make_is jA jB1 jB2 jB3 jB4 jC1 jC2 jC3 jC4 (by kernel_rfl))
    (of_decide_eq_true (by kernel_rfl)) (by unfold Func.isWrapper; first | (rw [if_pos (by decide +kernel)]; kernel_rfl) | (rw [if_neg (by decide +kernel)]; exact ⟨rfl, rfl⟩))
    (fun os started H enc _ => lifted os started H enc)

theorem wholeGrows_holds : Rows.WholeGrowsSaid := over
#print axioms wholeGrows_holds
end Go.Proofs.Ytanfippcmdialaa.wholeGrows
