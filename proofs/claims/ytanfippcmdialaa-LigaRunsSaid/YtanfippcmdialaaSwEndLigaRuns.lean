/-
  LigaRuns, proved: of any arguments the call returns true and turns nothing that was there. No condition.
-/
import Derived.Test.YtanfippcmdialaaSwW14
import Derived.Test.YtanfippcmdialaaSwSays17
import Derived.Test.YtanfippcmdialaaSwHead
import Derived.Test.YtanfippcmdialaaRows
import Derived.WalkKit
import Derived.ProofKit
import Derived.OpenShut
import Derived.ShutString
import Derived.ChangeOld
import Derived.Below
namespace Go.Proofs.Ytanfippcmdialaa.ligaRuns
open Go.ChangeShapes Go.WideShapes Go.ChangeAt Go.RowKit
open Go.Sw
set_option linter.unusedVariables false

theorem own : ownKnob Try.prog.godebug = none := by kernel_rfl
theorem shapes : argShs Try.prog 8 Try.f11.params.toList = some [.agg [.slice [.int .u8], .slice [.slice [.int .u8]], .slice [.int .i64, .int .i64, .int .i64, .int .i64], .int .u8, .slice [.int .u32], .slice [.int .u16], .slice [.int .u16]], .one (.slice [.int .i64])] := by kernel_rfl
theorem readable : (Try.f11.params.toList.all fun t => Try.prog.readableRec t && decide (t < Try.prog.types.size)) = true := by kernel_rfl
theorem told : SpOk (T 52).c := told_ok (k := 52) says17

set_option maxRecDepth 100000 in
theorem lifted (os : Os) (started : os.Started) (H : Type) (enc : TypeId × Value → H) :
    ReturnsInHanded {} Try.checked os 11 .any (Rows.ligaRunsSpec.pre6 enc Try.prog Try.f11 Rows.ligaRunsRow.domain false) (Rows.ligaRunsSpec.post enc Try.prog Try.f11 false true false false) := by
  refine returnsInHanded_of_change (C := Try.checked) own started (by kernel_rfl) Try.func11
    (ChangeSpec.witness6 (enc := enc) (C := Try.checked) false ⟨#[], #[.agg #[.slice none 0 0, .slice none 0 0, .slice none 0 0, .int .u8 0, .slice none 0 0, .slice none 0 0, .slice none 0 0], .slice none 0 0], []⟩ 8 (by kernel_rfl) (by kernel_rfl) (by kernel_rfl) (by kernel_rfl)) ?_
  intro W base args ds gs before hval0 hW hcnd _
  have hval : ∀ (j : Nat) t v, Try.f11.params.toList[j]? = some t → args[j]? = some v → Value.okWide Try.prog W .any base t v := fun j t v h1 h2 => hval0 j t v (by rw [← Array.getElem?_toList]; exact h1) h2
  have hW' := hW
  obtain ⟨p, q, hA0, hV, rfl, hfz, hnd⟩ := hW
  have hA : DataW.TrodAll enc Try.prog W 0 (fun _ => true) true Try.f11.params.toList args.toList ds p := hA0
  have hA2 := hA
  rw [Try.params11] at hA2
  obtain ⟨v0, vs0, d0, ds0, p0, q0, g0, rfl, rfl, h0, r0⟩ := trodAll_cons hA2
  obtain ⟨v1, vs1, d1, ds1, p1, q1, g1, rfl, rfl, h1, r1⟩ := trodAll_cons r0
  obtain ⟨g, rfl, rfl⟩ := trodAll_nil r1
  obtain ⟨rfl, rfl⟩ := trodVars_none hV
  refine (ζpr (t := T 52) (P := Try.prog) (T_prog 52) names_ok mixed_ok told (T_scott 52) (f := 11) shapes hval hA ζmj).mono fun e W' ⟨he, bel⟩ => ?_
  subst he
  exact ⟨_, rfl, _, _, _, [], _, [], hW', trodAll_mk1 (shut_bool Try.underlying4 _), ζi2 laid_ok bel readable hA, rfl, bel.frame _, fun h => by cases h⟩

abbrev cl := Rows.ligaRunsRow
abbrev sp := Rows.ligaRunsSpec
theorem jA : (cl.wf (OpenSpec.ofChange sp) && laidOutB Try.prog && mapsRowed Try.prog && Try.f11.params.all (Try.prog.readableRec ·) && namedTie Try.prog cl.named sp.vars && (cl.stops == []) && (Try.prog.stops == []) && (cl.knobs == []) && (Try.prog.stopKnobs == [])) = true := by kernel_rfl
theorem jB1 : (cl.inPlace == Try.prog.inPlace 11) = true := by kernel_rfl
theorem jB2 : (cl.unfollowed == Try.prog.unfollowed 11) = true := by kernel_rfl
theorem jB3 : (cl.recurses == Try.prog.recurses 11) = true := by kernel_rfl
theorem jB4 : (cl.named == Try.prog.varsNamed 11) = true := by kernel_rfl
theorem jC1 : ((cl.maps == (Try.f11.params.toList ++ sp.plain.varTypes Try.prog).any (Try.prog.mapsRec ·)) && (cl.ifaces == (Try.f11.params.toList ++ sp.plain.varTypes Try.prog).any (Try.prog.ifacesRec ·)) && (cl.mapsOut == Try.prog.mapsAmong Try.f11.resultTypes.toList)) = true := by kernel_rfl
theorem jC2 : ((cl.loops == (Try.f11.params.toList ++ sp.plain.varTypes Try.prog).any (Try.prog.loopsFrom ·)) && (cl.wideKeys == (Try.f11.params.toList ++ sp.plain.varTypes Try.prog ++ Try.f11.resultTypes.toList).any (Try.prog.wideKeysFrom ·))) = true := by kernel_rfl
theorem jC3 : (sp.vars.all (Try.prog.varReadable ·) && Try.f11.resultTypes.all (fun t => Try.prog.readableRec t && decide (t < Try.prog.types.size)) && (cl.ifacesOut == Try.f11.resultTypes.toList.any (Try.prog.ifacesRec ·)) && (cl.loopsOut == Try.f11.resultTypes.toList.any (Try.prog.loopsFrom ·))) = true := by kernel_rfl
theorem jC4 : ((cl.plainKeys == Try.prog.plainKeys) && cl.shortTexts.isNone && Try.prog.stopsHeard) = true := by kernel_rfl
theorem named : Try.pinned.checked.prog.funcNamed cl.func = some 11 := by kernel_rfl

theorem over : Rows.ligaRunsRow.holds Try.pinned (OpenSpec.ofChange Rows.ligaRunsSpec) :=
  OpenClaim.holds_of_wide 11 Try.f11 rfl rfl rfl rfl rfl rfl rfl ⟨rfl, rfl, rfl, rfl, rfl⟩ rfl rfl rfl rfl rfl named Try.func11 (ζsn ζsq ζsr make_is jA jB1 jB2 jB3 jB4 jC1 jC2 jC3 jC4 (by kernel_rfl))
    (of_decide_eq_true (by kernel_rfl)) (by unfold Func.isWrapper; first | (rw [if_pos (by decide +kernel)]; kernel_rfl) | (rw [if_neg (by decide +kernel)]; exact ⟨rfl, rfl⟩))
    (fun os started H enc _ => lifted os started H enc)

theorem ligaRuns_holds : Rows.LigaRunsSaid := over
#print axioms ligaRuns_holds
end Go.Proofs.Ytanfippcmdialaa.ligaRuns
