/-
  BindRuns, proved: of any arguments the call returns true and turns nothing that was there. No condition.
-/
import Derived.Test.YtanfippcmdialaaGreatSwW14
import Derived.Test.YtanfippcmdialaaGreatSwSays25
import Derived.Test.YtanfippcmdialaaGreatSwHead
import Derived.Test.YtanfippcmdialaaGreatRows
import Derived.WalkKit
import Derived.ProofKit
import Derived.OpenShut
import Derived.ShutString
import Derived.ChangeOld
import Derived.Below
namespace Go.Proofs.YtanfippcmdialaaGreat.bindRuns
open Go.ChangeShapes Go.WideShapes Go.ChangeAt Go.RowKit
open Go.Sw
set_option linter.unusedVariables false

theorem own : ownKnob Tryz.prog.godebug = none := by kernel_rfl
theorem shapes : A7l Tryz.prog 8 Tryz.f4.params.toList = some [.agg [.slice [.int .u8], .slice [.slice [.int .u8]], .slice [.int .i64, .int .i64, .int .i64, .int .i64], .int .u8, .int .u8, .slice [.int .i16], .slice [.slice [.int .i16, .int .i16]], .slice [.int .i64]]] := by kernel_rfl
theorem readable : (Tryz.f4.params.toList.all fun t => Tryz.prog.readableRec t && decide (t < Tryz.prog.types.size)) = true := by kernel_rfl
theorem told : A4p (T 28).c := D0w (k := 28) D3s

set_option maxRecDepth 100000 in
theorem lifted (os : Os) (started : os.Started) (H : Type) (enc : TypeId × Value → H) :
    ReturnsInHanded {} Tryz.checked os 4 .any (Rows.bindRunsSpec.pre6 enc Tryz.prog Tryz.f4 Rows.bindRunsRow.domain false) (Rows.bindRunsSpec.post enc Tryz.prog Tryz.f4 false true false false) := by
  refine returnsInHanded_of_change (C := Tryz.checked) own started (by kernel_rfl) Tryz.func4
    (ChangeSpec.witness6 (enc := enc) (C := Tryz.checked) false ⟨#[], #[.agg #[.slice none 0 0, .slice none 0 0, .slice none 0 0, .int .u8 0, .int .u8 0, .slice none 0 0, .slice none 0 0, .slice none 0 0]], []⟩ 8 (by kernel_rfl) (by kernel_rfl) (by kernel_rfl) (by kernel_rfl)) ?_
  intro W base args ds gs before hval0 hW hcnd _
  have hval : ∀ (j : Nat) t v, Tryz.f4.params.toList[j]? = some t → args[j]? = some v → Value.okWide Tryz.prog W .any base t v := fun j t v h1 h2 => hval0 j t v (by rw [← Array.getElem?_toList]; exact h1) h2
  have hW' := hW
  obtain ⟨p, q, hA0, hV, rfl, hfz, hnd⟩ := hW
  have hA : DataW.TrodAll enc Tryz.prog W 0 (fun _ => true) true Tryz.f4.params.toList args.toList ds p := hA0
  have hA2 := hA
  rw [Tryz.params4] at hA2
  obtain ⟨v0, vs0, d0, ds0, p0, q0, g0, rfl, rfl, h0, r0⟩ := trodAll_cons hA2
  obtain ⟨g, rfl, rfl⟩ := trodAll_nil r0
  obtain ⟨rfl, rfl⟩ := trodVars_none hV
  refine (G70 (t := T 28) (P := Tryz.prog) (D2u 28) A3u A3t told (A1g 28) (f := 4) shapes hval hA G4y).mono fun e W' ⟨he, bel⟩ => ?_
  subst he
  exact ⟨_, rfl, _, _, _, [], _, [], hW', trodAll_mk1 (shut_bool Tryz.underlying4 _), E3g D01 bel readable hA, rfl, bel.frame _, fun h => by cases h⟩

abbrev cl := Rows.bindRunsRow
abbrev sp := Rows.bindRunsSpec
theorem jA : (cl.wf (OpenSpec.ofChange sp) && laidOutB Tryz.prog && mapsRowed Tryz.prog && Tryz.f4.params.all (Tryz.prog.readableRec ·) && namedTie Tryz.prog cl.named sp.vars && (cl.stops == []) && (Tryz.prog.stops == []) && (cl.knobs == []) && (Tryz.prog.stopKnobs == [])) = true := by kernel_rfl
theorem jB1 : (cl.inPlace == Tryz.prog.inPlace 4) = true := by kernel_rfl
theorem jB2 : (cl.unfollowed == Tryz.prog.unfollowed 4) = true := by kernel_rfl
theorem jB3 : (cl.recurses == Tryz.prog.recurses 4) = true := by kernel_rfl
theorem jB4 : (cl.named == Tryz.prog.varsNamed 4) = true := by kernel_rfl
theorem jC1 : ((cl.maps == (Tryz.f4.params.toList ++ sp.plain.varTypes Tryz.prog).any (Tryz.prog.mapsRec ·)) && (cl.ifaces == (Tryz.f4.params.toList ++ sp.plain.varTypes Tryz.prog).any (Tryz.prog.ifacesRec ·)) && (cl.mapsOut == Tryz.prog.mapsAmong Tryz.f4.resultTypes.toList)) = true := by kernel_rfl
theorem jC2 : ((cl.loops == (Tryz.f4.params.toList ++ sp.plain.varTypes Tryz.prog).any (Tryz.prog.loopsFrom ·)) && (cl.wideKeys == (Tryz.f4.params.toList ++ sp.plain.varTypes Tryz.prog ++ Tryz.f4.resultTypes.toList).any (Tryz.prog.wideKeysFrom ·))) = true := by kernel_rfl
theorem jC3 : (sp.vars.all (Tryz.prog.varReadable ·) && Tryz.f4.resultTypes.all (fun t => Tryz.prog.readableRec t && decide (t < Tryz.prog.types.size)) && (cl.ifacesOut == Tryz.f4.resultTypes.toList.any (Tryz.prog.ifacesRec ·)) && (cl.loopsOut == Tryz.f4.resultTypes.toList.any (Tryz.prog.loopsFrom ·))) = true := by kernel_rfl
theorem jC4 : ((cl.plainKeys == Tryz.prog.plainKeys) && cl.shortTexts.isNone && Tryz.prog.stopsHeard) = true := by kernel_rfl
theorem named : Tryz.pinned.checked.prog.funcNamed cl.func = some 4 := by kernel_rfl

theorem over : Rows.bindRunsRow.holds Tryz.pinned (OpenSpec.ofChange Rows.bindRunsSpec) :=
  OpenClaim.holds_of_wide 4 Tryz.f4 rfl rfl rfl rfl rfl rfl rfl ⟨rfl, rfl, rfl, rfl, rfl⟩ rfl rfl rfl rfl rfl named Tryz.func4 (J0c J0e J0f D05 jA jB1 jB2 jB3 jB4 jC1 jC2 jC3 jC4 (by kernel_rfl))
    (of_decide_eq_true (by kernel_rfl)) (by unfold Func.isWrapper; first | (rw [if_pos (by decide +kernel)]; kernel_rfl) | (rw [if_neg (by decide +kernel)]; exact ⟨rfl, rfl⟩))
    (fun os started H enc _ => lifted os started H enc)

theorem bindRuns_holds : Rows.BindRunsSaid := over
#print axioms bindRuns_holds
end Go.Proofs.YtanfippcmdialaaGreat.bindRuns
