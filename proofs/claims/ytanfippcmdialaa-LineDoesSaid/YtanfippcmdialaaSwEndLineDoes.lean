/-
  LineDoes, proved: of any arguments the call returns true and turns nothing that was there. No condition.
-/
import Derived.Test.YtanfippcmdialaaSwW7
import Derived.Test.YtanfippcmdialaaSwW8
import Derived.Test.YtanfippcmdialaaSwSays11
import Derived.Test.YtanfippcmdialaaSwHead
import Derived.Test.YtanfippcmdialaaRows
import Derived.WalkKit
import Derived.ProofKit
import Derived.OpenShut
import Derived.ShutString
import Derived.ChangeOld
import Derived.Below
namespace Go.Proofs.Ytanfippcmdialaa.lineDoes
open Go.ChangeShapes Go.WideShapes Go.ChangeAt Go.RowKit
open Go.Sw
set_option linter.unusedVariables false

theorem own : ownKnob Try.prog.godebug = none := by kernel_rfl
theorem shapes : argShs Try.prog 8 Try.f5.params.toList = some [.one (.slice [.int .i64]), .one (.slice [.int .i64, .int .i64, .slice [.int .i64]]), .one (.int .i64)] := by kernel_rfl
theorem readable : (Try.f5.params.toList.all fun t => Try.prog.readableRec t && decide (t < Try.prog.types.size)) = true := by kernel_rfl
theorem told : SpOk (T 15).c := told_ok (k := 15) says11

set_option maxRecDepth 100000 in
theorem lifted (os : Os) (started : os.Started) (H : Type) (enc : TypeId × Value → H) :
    ReturnsInHanded {} Try.checked os 5 .any (Rows.lineDoesSpec.pre6 enc Try.prog Try.f5 Rows.lineDoesRow.domain false) (Rows.lineDoesSpec.post enc Try.prog Try.f5 false true false false) := by
  refine returnsInHanded_of_change (C := Try.checked) own started (by kernel_rfl) Try.func5
    (ChangeSpec.witness6 (enc := enc) (C := Try.checked) false ⟨#[], #[.slice none 0 0, .slice none 0 0, .int .i64 0], []⟩ 8 (by kernel_rfl) (by kernel_rfl) (by kernel_rfl) (by kernel_rfl)) ?_
  intro W base args ds gs before hval0 hW hcnd _
  have hval : ∀ (j : Nat) t v, Try.f5.params.toList[j]? = some t → args[j]? = some v → Value.okWide Try.prog W .any base t v := fun j t v h1 h2 => hval0 j t v (by rw [← Array.getElem?_toList]; exact h1) h2
  have hW' := hW
  obtain ⟨p, q, hA0, hV, rfl, hfz, hnd⟩ := hW
  have hA : DataW.TrodAll enc Try.prog W 0 (fun _ => true) true Try.f5.params.toList args.toList ds p := hA0
  have hA2 := hA
  rw [Try.params5] at hA2
  obtain ⟨v0, vs0, d0, ds0, p0, q0, g0, rfl, rfl, h0, r0⟩ := trodAll_cons hA2
  obtain ⟨v1, vs1, d1, ds1, p1, q1, g1, rfl, rfl, h1, r1⟩ := trodAll_cons r0
  obtain ⟨v2, vs2, d2, ds2, p2, q2, g2, rfl, rfl, h2, r2⟩ := trodAll_cons r1
  obtain ⟨g, rfl, rfl⟩ := trodAll_nil r2
  obtain ⟨rfl, rfl⟩ := trodVars_none hV
  refine (law_of_args (t := T 15) (P := Try.prog) (T_prog 15) names_ok mixed_ok told (T_scott 15) (f := 5) shapes hval hA LineDoes_args).mono fun e W' ⟨he, bel⟩ => ?_
  subst he
  exact ⟨_, rfl, _, _, _, [], _, [], hW', trodAll_mk1 (shut_bool Try.underlying4 _), trodAll_below laid_ok bel readable hA, rfl, bel.frame _, fun h => by cases h⟩

abbrev cl := Rows.lineDoesRow
abbrev sp := Rows.lineDoesSpec
theorem jA : (cl.wf (OpenSpec.ofChange sp) && laidOutB Try.prog && mapsRowed Try.prog && Try.f5.params.all (Try.prog.readableRec ·) && namedTie Try.prog cl.named sp.vars && (cl.stops == []) && (Try.prog.stops == []) && (cl.knobs == []) && (Try.prog.stopKnobs == [])) = true := by kernel_rfl
theorem jB1 : (cl.inPlace == Try.prog.inPlace 5) = true := by kernel_rfl
theorem jB2 : (cl.unfollowed == Try.prog.unfollowed 5) = true := by kernel_rfl
theorem jB3 : (cl.recurses == Try.prog.recurses 5) = true := by kernel_rfl
theorem jB4 : (cl.named == Try.prog.varsNamed 5) = true := by kernel_rfl
theorem jC1 : ((cl.maps == (Try.f5.params.toList ++ sp.plain.varTypes Try.prog).any (Try.prog.mapsRec ·)) && (cl.ifaces == (Try.f5.params.toList ++ sp.plain.varTypes Try.prog).any (Try.prog.ifacesRec ·)) && (cl.mapsOut == Try.prog.mapsAmong Try.f5.resultTypes.toList)) = true := by kernel_rfl
theorem jC2 : ((cl.loops == (Try.f5.params.toList ++ sp.plain.varTypes Try.prog).any (Try.prog.loopsFrom ·)) && (cl.wideKeys == (Try.f5.params.toList ++ sp.plain.varTypes Try.prog ++ Try.f5.resultTypes.toList).any (Try.prog.wideKeysFrom ·))) = true := by kernel_rfl
theorem jC3 : (sp.vars.all (Try.prog.varReadable ·) && Try.f5.resultTypes.all (fun t => Try.prog.readableRec t && decide (t < Try.prog.types.size)) && (cl.ifacesOut == Try.f5.resultTypes.toList.any (Try.prog.ifacesRec ·)) && (cl.loopsOut == Try.f5.resultTypes.toList.any (Try.prog.loopsFrom ·))) = true := by kernel_rfl
theorem jC4 : ((cl.plainKeys == Try.prog.plainKeys) && cl.shortTexts.isNone && Try.prog.stopsHeard) = true := by kernel_rfl
theorem named : Try.pinned.checked.prog.funcNamed cl.func = some 5 := by kernel_rfl

theorem over : Rows.lineDoesRow.holds Try.pinned (OpenSpec.ofChange Rows.lineDoesSpec) :=
  OpenClaim.holds_of_wide 5 Try.f5 rfl rfl rfl rfl rfl rfl rfl ⟨rfl, rfl, rfl, rfl, rfl⟩ rfl rfl rfl rfl rfl named Try.func5 (joined_of may_enter not_final make_is jA jB1 jB2 jB3 jB4 jC1 jC2 jC3 jC4 (by kernel_rfl))
    (of_decide_eq_true (by kernel_rfl)) (by unfold Func.isWrapper; first | (rw [if_pos (by decide +kernel)]; kernel_rfl) | (rw [if_neg (by decide +kernel)]; exact ⟨rfl, rfl⟩))
    (fun os started H enc _ => lifted os started H enc)

theorem lineDoes_holds : Rows.LineDoesSaid := over
#print axioms lineDoes_holds
end Go.Proofs.Ytanfippcmdialaa.lineDoes
