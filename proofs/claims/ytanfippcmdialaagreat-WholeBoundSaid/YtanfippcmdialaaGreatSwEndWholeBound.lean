/-
  WholeBound, proved: of any arguments the call returns true and turns nothing that was there. No condition.
-/
import Derived.Test.YtanfippcmdialaaGreatSwW11
import Derived.Test.YtanfippcmdialaaGreatSwHead
import Derived.Test.YtanfippcmdialaaGreatRows
import Derived.WalkKit
import Derived.ProofKit
import Derived.OpenShut
import Derived.ShutString
import Derived.ChangeOld
import Derived.Below
namespace Go.Proofs.YtanfippcmdialaaGreat.wholeBound
open Go.ChangeShapes Go.WideShapes Go.ChangeAt Go.RowKit
open Go.Sw
set_option linter.unusedVariables false

theorem own : ownKnob Tryz.prog.godebug = none := by kernel_rfl
theorem shapes : argShs Tryz.prog 8 Tryz.f9.params.toList = some [.agg [.int .i16, .int .i16], .agg [.int .i16, .int .i16], .one (.slice [.bool])] := by kernel_rfl
theorem readable : (Tryz.f9.params.toList.all fun t => Tryz.prog.readableRec t && decide (t < Tryz.prog.types.size)) = true := by kernel_rfl
theorem told : SpOk (T 999999).c := told0 (by kernel_rfl)

set_option maxRecDepth 100000 in
theorem lifted (os : Os) (started : os.Started) (H : Type) (enc : TypeId × Value → H) :
    ReturnsInHanded {} Tryz.checked os 9 .any (Rows.wholeBoundSpec.pre6 enc Tryz.prog Tryz.f9 Rows.wholeBoundRow.domain false) (Rows.wholeBoundSpec.post enc Tryz.prog Tryz.f9 false true false false) := by
  refine returnsInHanded_of_change (C := Tryz.checked) own started (by kernel_rfl) Tryz.func9
    (ChangeSpec.witness6 (enc := enc) (C := Tryz.checked) false ⟨#[], #[.agg #[.int .i16 0, .int .i16 0], .agg #[.int .i16 0, .int .i16 0], .slice none 0 0], []⟩ 8 (by kernel_rfl) (by kernel_rfl) (by kernel_rfl) (by kernel_rfl)) ?_
  intro W base args ds gs before hval0 hW hcnd _
  have hval : ∀ (j : Nat) t v, Tryz.f9.params.toList[j]? = some t → args[j]? = some v → Value.okWide Tryz.prog W .any base t v := fun j t v h1 h2 => hval0 j t v (by rw [← Array.getElem?_toList]; exact h1) h2
  have hW' := hW
  obtain ⟨p, q, hA0, hV, rfl, hfz, hnd⟩ := hW
  have hA : DataW.TrodAll enc Tryz.prog W 0 (fun _ => true) true Tryz.f9.params.toList args.toList ds p := hA0
  have hA2 := hA
  rw [Tryz.params9] at hA2
  obtain ⟨v0, vs0, d0, ds0, p0, q0, g0, rfl, rfl, h0, r0⟩ := trodAll_cons hA2
  obtain ⟨v1, vs1, d1, ds1, p1, q1, g1, rfl, rfl, h1, r1⟩ := trodAll_cons r0
  obtain ⟨v2, vs2, d2, ds2, p2, q2, g2, rfl, rfl, h2, r2⟩ := trodAll_cons r1
  obtain ⟨g, rfl, rfl⟩ := trodAll_nil r2
  obtain ⟨rfl, rfl⟩ := trodVars_none hV
  refine (ζjp (t := T 999999) (P := Tryz.prog) (T_prog 999999) names_ok mixed_ok told (T_scott 999999) (f := 9) shapes hval hA ζd4).mono fun e W' ⟨he, bel⟩ => ?_
  subst he
  exact ⟨_, rfl, _, _, _, [], _, [], hW', trodAll_mk1 (shut_bool Tryz.underlying4 _), ζb1 laid_ok bel readable hA, rfl, bel.frame _, fun h => by cases h⟩

abbrev cl := Rows.wholeBoundRow
abbrev sp := Rows.wholeBoundSpec
theorem jA : (cl.wf (OpenSpec.ofChange sp) && laidOutB Tryz.prog && mapsRowed Tryz.prog && Tryz.f9.params.all (Tryz.prog.readableRec ·) && namedTie Tryz.prog cl.named sp.vars && (cl.stops == []) && (Tryz.prog.stops == []) && (cl.knobs == []) && (Tryz.prog.stopKnobs == [])) = true := by kernel_rfl
theorem jB1 : (cl.inPlace == Tryz.prog.inPlace 9) = true := by kernel_rfl
theorem jB2 : (cl.unfollowed == Tryz.prog.unfollowed 9) = true := by kernel_rfl
theorem jB3 : (cl.recurses == Tryz.prog.recurses 9) = true := by kernel_rfl
theorem jB4 : (cl.named == Tryz.prog.varsNamed 9) = true := by kernel_rfl
theorem jC1 : ((cl.maps == (Tryz.f9.params.toList ++ sp.plain.varTypes Tryz.prog).any (Tryz.prog.mapsRec ·)) && (cl.ifaces == (Tryz.f9.params.toList ++ sp.plain.varTypes Tryz.prog).any (Tryz.prog.ifacesRec ·)) && (cl.mapsOut == Tryz.prog.mapsAmong Tryz.f9.resultTypes.toList)) = true := by kernel_rfl
theorem jC2 : ((cl.loops == (Tryz.f9.params.toList ++ sp.plain.varTypes Tryz.prog).any (Tryz.prog.loopsFrom ·)) && (cl.wideKeys == (Tryz.f9.params.toList ++ sp.plain.varTypes Tryz.prog ++ Tryz.f9.resultTypes.toList).any (Tryz.prog.wideKeysFrom ·))) = true := by kernel_rfl
theorem jC3 : (sp.vars.all (Tryz.prog.varReadable ·) && Tryz.f9.resultTypes.all (fun t => Tryz.prog.readableRec t && decide (t < Tryz.prog.types.size)) && (cl.ifacesOut == Tryz.f9.resultTypes.toList.any (Tryz.prog.ifacesRec ·)) && (cl.loopsOut == Tryz.f9.resultTypes.toList.any (Tryz.prog.loopsFrom ·))) = true := by kernel_rfl
theorem jC4 : ((cl.plainKeys == Tryz.prog.plainKeys) && cl.shortTexts.isNone && Tryz.prog.stopsHeard) = true := by kernel_rfl
theorem named : Tryz.pinned.checked.prog.funcNamed cl.func = some 9 := by kernel_rfl

theorem over : Rows.wholeBoundRow.holds Tryz.pinned (OpenSpec.ofChange Rows.wholeBoundSpec) :=
  OpenClaim.holds_of_wide 9 Tryz.f9 rfl rfl rfl rfl rfl rfl rfl ⟨rfl, rfl, rfl, rfl, rfl⟩ rfl rfl rfl rfl rfl named Tryz.func9 (ζmq ζmu ζmw make_is jA jB1 jB2 jB3 jB4 jC1 jC2 jC3 jC4 (by kernel_rfl))
    (of_decide_eq_true (by kernel_rfl)) (by unfold Func.isWrapper; first | (rw [if_pos (by decide +kernel)]; kernel_rfl) | (rw [if_neg (by decide +kernel)]; exact ⟨rfl, rfl⟩))
    (fun os started H enc _ => lifted os started H enc)

theorem wholeBound_holds : Rows.WholeBoundSaid := over
#print axioms wholeBound_holds
end Go.Proofs.YtanfippcmdialaaGreat.wholeBound
