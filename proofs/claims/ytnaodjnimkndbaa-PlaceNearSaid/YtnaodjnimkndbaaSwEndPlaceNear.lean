/-
  PlaceNear, proved: of any numbers the call returns true and turns nothing that was there. No condition.
-/
import Derived.Test.YtnaodjnimkndbaaSwLawPlaceNear
import Derived.Test.YtnaodjnimkndbaaSwEnd
import Derived.Test.YtnaodjnimkndbaaSwSays21
import Derived.Test.YtnaodjnimkndbaaSwHead
import Derived.Test.YtnaodjnimkndbaaRows
import Derived.WalkKit
import Derived.ProofKit
import Derived.OpenShut
import Derived.ShutString
import Derived.ChangeOld
import Derived.Below
namespace Go.Proofs.Ytnaodjnimkndbaa.placeNear
open Go.ChangeShapes Go.WideShapes Go.ChangeAt Go.RowKit
open Go.Sw
set_option linter.unusedVariables false

theorem own : ownKnob Try.prog.godebug = none := by kernel_rfl

theorem walk (a0 : Int) (a1 : Int) (a2 : Int) (w0 : (Lit.int .i64 a0).wf = true) (w1 : (Lit.int .i64 a1).wf = true) (w2 : (Lit.int .i32 a2).wf = true) (w : World) :
    Calls Try.prog 4 #[.int .i64 a0, .int .i64 a1, .int .i32 a2] w fun e w' => e = .returned (.bool true) ∧ Below w.heap.size w w' := by
  have h0 : -9223372036854775808 ≤ a0 ∧ a0 ≤ 9223372036854775807 := by simpa [Lit.wf, IntKind.min, IntKind.max, IntKind.signed, IntKind.bits] using w0
  have h1 : -9223372036854775808 ≤ a1 ∧ a1 ≤ 9223372036854775807 := by simpa [Lit.wf, IntKind.min, IntKind.max, IntKind.signed, IntKind.bits] using w1
  have h2 : -2147483648 ≤ a2 ∧ a2 ≤ 2147483647 := by simpa [Lit.wf, IntKind.min, IntKind.max, IntKind.signed, IntKind.bits] using w2
  exact law_holds (n := _) (args' := [.int .i64 a0, .int .i64 a1, .int .i32 a2]) says21 (HR.start w) (VRs.cons (.int _ _) (VRs.cons (.int _ _) (VRs.cons (.int _ _) VRs.nil))) (PlaceNear_run 0 a0 a1 a2 h2.1 h2.2 Heap.empty)

set_option maxRecDepth 100000 in
theorem lifted (os : Os) (started : os.Started) (H : Type) (enc : TypeId × Value → H) :
    ReturnsInHanded {} Try.checked os 4 .any (Rows.placeNearSpec.pre6 enc Try.prog Try.f4 Rows.placeNearRow.domain false) (Rows.placeNearSpec.post enc Try.prog Try.f4 false true false false) := by
  refine returnsInHanded_of_change (C := Try.checked) own started (by kernel_rfl) Try.func4
    (ChangeSpec.witness6 (enc := enc) (C := Try.checked) false ⟨#[], #[.int .i64 0, .int .i64 0, .int .i32 0], []⟩ 8 (by kernel_rfl) (by kernel_rfl) (by kernel_rfl) (by kernel_rfl)) ?_
  intro W base args ds gs before hval0 hW hcnd _
  have hval : ∀ (j : Nat) t v, Try.f4.params[j]? = some t → args[j]? = some v → Value.okWide Try.prog W .any base t v := hval0
  have hW' := hW
  obtain ⟨p, q, hA0, hV, rfl, hfz, hnd⟩ := hW
  have hA : DataW.TrodAll enc Try.prog W 0 (fun _ => true) true Try.f4.params.toList args.toList ds p := hA0
  rw [Try.params4] at hA hval
  obtain ⟨v0, vs0, d0, ds0, p0, q0, hargs, rfl, rfl, h0, r0⟩ := trodAll_cons hA
  obtain ⟨v1, vs1, d1, ds1, p1, q1, rfl, rfl, rfl, h1, r1⟩ := trodAll_cons r0
  obtain ⟨v2, vs2, d2, ds2, p2, q2, rfl, rfl, rfl, h2, r2⟩ := trodAll_cons r1
  obtain ⟨rfl, rfl, rfl⟩ := trodAll_nil r2
  obtain rfl : args = #[v0, v1, v2] := by cases args; simp_all
  obtain ⟨rfl, rfl⟩ := trodVars_none hV
  obtain ⟨a0, rfl, rfl, rfl, w0⟩ := open_int Try.underlying3 (hval 0 3 v0 rfl rfl) h0
  obtain ⟨a1, rfl, rfl, rfl, w1⟩ := open_int Try.underlying3 (hval 1 3 v1 rfl rfl) h1
  obtain ⟨a2, rfl, rfl, rfl, w2⟩ := open_int Try.underlying21 (hval 2 21 v2 rfl rfl) h2
  clear hA0 hval0
  refine (walk a0 a1 a2 w0 w1 w2 W).mono fun e W' ⟨he, bel⟩ => ?_
  subst he
  exact ⟨_, rfl, _, _, _, [], _, [], hW', trodAll_mk1 (shut_bool Try.underlying4 _), (trodAll_cons_mk (shut_int Try.underlying3 w0) (trodAll_cons_mk (shut_int Try.underlying3 w1) (trodAll_cons_mk (shut_int Try.underlying21 w2) trodAll_mk0))), rfl, bel.frame _, fun h => by cases h⟩

abbrev cl := Rows.placeNearRow
abbrev sp := Rows.placeNearSpec
theorem jA : (cl.wf (OpenSpec.ofChange sp) && laidOutB Try.prog && mapsRowed Try.prog && Try.f4.params.all (Try.prog.readableRec ·) && namedTie Try.prog cl.named sp.vars && (cl.stops == []) && (Try.prog.stops == []) && (cl.knobs == []) && (Try.prog.stopKnobs == [])) = true := by kernel_rfl
theorem jB1 : (cl.inPlace == Try.prog.inPlace 4) = true := by kernel_rfl
theorem jB2 : (cl.unfollowed == Try.prog.unfollowed 4) = true := by kernel_rfl
theorem jB3 : (cl.recurses == Try.prog.recurses 4) = true := by kernel_rfl
theorem jB4 : (cl.named == Try.prog.varsNamed 4) = true := by kernel_rfl
theorem jC1 : ((cl.maps == (Try.f4.params.toList ++ sp.plain.varTypes Try.prog).any (Try.prog.mapsRec ·)) && (cl.ifaces == (Try.f4.params.toList ++ sp.plain.varTypes Try.prog).any (Try.prog.ifacesRec ·)) && (cl.mapsOut == Try.prog.mapsAmong Try.f4.resultTypes.toList)) = true := by kernel_rfl
theorem jC2 : ((cl.loops == (Try.f4.params.toList ++ sp.plain.varTypes Try.prog).any (Try.prog.loopsFrom ·)) && (cl.wideKeys == (Try.f4.params.toList ++ sp.plain.varTypes Try.prog ++ Try.f4.resultTypes.toList).any (Try.prog.wideKeysFrom ·))) = true := by kernel_rfl
theorem jC3 : (sp.vars.all (Try.prog.varReadable ·) && Try.f4.resultTypes.all (fun t => Try.prog.readableRec t && decide (t < Try.prog.types.size)) && (cl.ifacesOut == Try.f4.resultTypes.toList.any (Try.prog.ifacesRec ·)) && (cl.loopsOut == Try.f4.resultTypes.toList.any (Try.prog.loopsFrom ·))) = true := by kernel_rfl
theorem jC4 : ((cl.plainKeys == Try.prog.plainKeys) && cl.shortTexts.isNone && Try.prog.stopsHeard) = true := by kernel_rfl
theorem named : Try.pinned.checked.prog.funcNamed cl.func = some 4 := by kernel_rfl

theorem over : Rows.placeNearRow.holds Try.pinned (OpenSpec.ofChange Rows.placeNearSpec) :=
  OpenClaim.holds_of_wide 4 Try.f4 rfl rfl rfl rfl rfl rfl rfl ⟨rfl, rfl, rfl, rfl, rfl⟩ rfl rfl rfl rfl rfl named Try.func4 (joined_of may_enter not_final make_is jA jB1 jB2 jB3 jB4 jC1 jC2 jC3 jC4 (by kernel_rfl))
    (of_decide_eq_true (by kernel_rfl)) (by unfold Func.isWrapper; first | (rw [if_pos (by decide +kernel)]; kernel_rfl) | (rw [if_neg (by decide +kernel)]; exact ⟨rfl, rfl⟩))
    (fun os started H enc _ => lifted os started H enc)

theorem placeNear_holds : Rows.PlaceNearSaid := over
#print axioms placeNear_holds
end Go.Proofs.Ytnaodjnimkndbaa.placeNear
