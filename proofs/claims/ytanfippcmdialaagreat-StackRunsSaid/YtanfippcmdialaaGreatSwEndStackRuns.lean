/-
  StackRuns, proved: of any arguments the call returns true and turns nothing that was there. No condition.
-/
import Derived.Test.YtanfippcmdialaaGreatSwW13
import Derived.Test.YtanfippcmdialaaGreatSwSays23
import Derived.Test.YtanfippcmdialaaGreatSwHead
import Derived.Test.YtanfippcmdialaaGreatRows
import Derived.WalkKit
import Derived.ProofKit
import Derived.OpenShut
import Derived.ShutString
import Derived.ChangeOld
import Derived.Below
namespace Go.Proofs.YtanfippcmdialaaGreat.stackRuns
open Go.ChangeShapes Go.WideShapes Go.ChangeAt Go.RowKit
open Go.Sw
set_option linter.unusedVariables false

theorem own : ownKnob Tryz.prog.godebug = none := by kernel_rfl
theorem shapes : argShs Tryz.prog 8 Tryz.f3.params.toList = some [.agg [.slice [.int .u8], .slice [.slice [.int .u8]], .slice [.int .i64, .int .i64, .int .i64, .int .i64], .int .u8, .slice [.int .i16]], .one (.slice [.int .i64]), .agg [.int .i64, .bool]] := by kernel_rfl
theorem readable : (Tryz.f3.params.toList.all fun t => Tryz.prog.readableRec t && decide (t < Tryz.prog.types.size)) = true := by kernel_rfl
theorem told : SpOk (T 10).c := told_ok (k := 10) says23

set_option maxRecDepth 100000 in
theorem lifted (os : Os) (started : os.Started) (H : Type) (enc : TypeId × Value → H) :
    ReturnsInHanded {} Tryz.checked os 3 .any (Rows.stackRunsSpec.pre6 enc Tryz.prog Tryz.f3 Rows.stackRunsRow.domain false) (Rows.stackRunsSpec.post enc Tryz.prog Tryz.f3 false true false false) := by
  refine returnsInHanded_of_change (C := Tryz.checked) own started (by kernel_rfl) Tryz.func3
    (ChangeSpec.witness6 (enc := enc) (C := Tryz.checked) false ⟨#[], #[.agg #[.slice none 0 0, .slice none 0 0, .slice none 0 0, .int .u8 0, .slice none 0 0], .slice none 0 0, .agg #[.int .i64 0, .bool false]], []⟩ 8 (by kernel_rfl) (by kernel_rfl) (by kernel_rfl) (by kernel_rfl)) ?_
  intro W base args ds gs before hval0 hW hcnd _
  have hval : ∀ (j : Nat) t v, Tryz.f3.params.toList[j]? = some t → args[j]? = some v → Value.okWide Tryz.prog W .any base t v := fun j t v h1 h2 => hval0 j t v (by rw [← Array.getElem?_toList]; exact h1) h2
  have hW' := hW
  obtain ⟨p, q, hA0, hV, rfl, hfz, hnd⟩ := hW
  have hA : DataW.TrodAll enc Tryz.prog W 0 (fun _ => true) true Tryz.f3.params.toList args.toList ds p := hA0
  have hA2 := hA
  rw [Tryz.params3] at hA2
  obtain ⟨v0, vs0, d0, ds0, p0, q0, g0, rfl, rfl, h0, r0⟩ := trodAll_cons hA2
  obtain ⟨v1, vs1, d1, ds1, p1, q1, g1, rfl, rfl, h1, r1⟩ := trodAll_cons r0
  obtain ⟨v2, vs2, d2, ds2, p2, q2, g2, rfl, rfl, h2, r2⟩ := trodAll_cons r1
  obtain ⟨g, rfl, rfl⟩ := trodAll_nil r2
  obtain ⟨rfl, rfl⟩ := trodVars_none hV
  refine (ζpw (t := T 10) (P := Tryz.prog) (T_prog 10) names_ok mixed_ok told (T_scott 10) (f := 3) shapes hval hA ζls).mono fun e W' ⟨he, bel⟩ => ?_
  subst he
  exact ⟨_, rfl, _, _, _, [], _, [], hW', trodAll_mk1 (shut_bool Tryz.underlying4 _), ζi4 laid_ok bel readable hA, rfl, bel.frame _, fun h => by cases h⟩

abbrev cl := Rows.stackRunsRow
abbrev sp := Rows.stackRunsSpec
theorem jA : (cl.wf (OpenSpec.ofChange sp) && laidOutB Tryz.prog && mapsRowed Tryz.prog && Tryz.f3.params.all (Tryz.prog.readableRec ·) && namedTie Tryz.prog cl.named sp.vars && (cl.stops == []) && (Tryz.prog.stops == []) && (cl.knobs == []) && (Tryz.prog.stopKnobs == [])) = true := by kernel_rfl
theorem jB1 : (cl.inPlace == Tryz.prog.inPlace 3) = true := by kernel_rfl
theorem jB2 : (cl.unfollowed == Tryz.prog.unfollowed 3) = true := by kernel_rfl
theorem jB3 : (cl.recurses == Tryz.prog.recurses 3) = true := by kernel_rfl
theorem jB4 : (cl.named == Tryz.prog.varsNamed 3) = true := by kernel_rfl
theorem jC1 : ((cl.maps == (Tryz.f3.params.toList ++ sp.plain.varTypes Tryz.prog).any (Tryz.prog.mapsRec ·)) && (cl.ifaces == (Tryz.f3.params.toList ++ sp.plain.varTypes Tryz.prog).any (Tryz.prog.ifacesRec ·)) && (cl.mapsOut == Tryz.prog.mapsAmong Tryz.f3.resultTypes.toList)) = true := by kernel_rfl
theorem jC2 : ((cl.loops == (Tryz.f3.params.toList ++ sp.plain.varTypes Tryz.prog).any (Tryz.prog.loopsFrom ·)) && (cl.wideKeys == (Tryz.f3.params.toList ++ sp.plain.varTypes Tryz.prog ++ Tryz.f3.resultTypes.toList).any (Tryz.prog.wideKeysFrom ·))) = true := by kernel_rfl
theorem jC3 : (sp.vars.all (Tryz.prog.varReadable ·) && Tryz.f3.resultTypes.all (fun t => Tryz.prog.readableRec t && decide (t < Tryz.prog.types.size)) && (cl.ifacesOut == Tryz.f3.resultTypes.toList.any (Tryz.prog.ifacesRec ·)) && (cl.loopsOut == Tryz.f3.resultTypes.toList.any (Tryz.prog.loopsFrom ·))) = true := by kernel_rfl
theorem jC4 : ((cl.plainKeys == Tryz.prog.plainKeys) && cl.shortTexts.isNone && Tryz.prog.stopsHeard) = true := by kernel_rfl
theorem named : Tryz.pinned.checked.prog.funcNamed cl.func = some 3 := by kernel_rfl

theorem over : Rows.stackRunsRow.holds Tryz.pinned (OpenSpec.ofChange Rows.stackRunsSpec) :=
  OpenClaim.holds_of_wide 3 Tryz.f3 rfl rfl rfl rfl rfl rfl rfl ⟨rfl, rfl, rfl, rfl, rfl⟩ rfl rfl rfl rfl rfl named Tryz.func3 (ζt1 ζt5 ζt6 make_is jA jB1 jB2 jB3 jB4 jC1 jC2 jC3 jC4 (by kernel_rfl))
    (of_decide_eq_true (by kernel_rfl)) (by unfold Func.isWrapper; first | (rw [if_pos (by decide +kernel)]; kernel_rfl) | (rw [if_neg (by decide +kernel)]; exact ⟨rfl, rfl⟩))
    (fun os started H enc _ => lifted os started H enc)

theorem stackRuns_holds : Rows.StackRunsSaid := over
#print axioms stackRuns_holds
end Go.Proofs.YtanfippcmdialaaGreat.stackRuns
