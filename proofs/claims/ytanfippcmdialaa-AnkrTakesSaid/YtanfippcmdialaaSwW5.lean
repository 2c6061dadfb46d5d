/-
  Functions' forms, and what is proved of them, part 5.
-/
import Derived.Test.YtanfippcmdialaaSwCfg
import Derived.Test.YtanfippcmdialaaSwW4
set_option linter.unusedSimpArgs false
set_option linter.unusedVariables false
set_option linter.unusedSectionVars false
section
namespace Go.Sw
open Go.RowKit
def frz (md : Mode) (H : Heap) (r : Res Value) : Res Value :=
 match r with
 | .ok v H' => .ok (frozen md H v H').1 (frozen md H v H').2
 | r => r
theorem frz_stuck {md : Mode} {H : Heap} {r : Res Value} (h : frz md H r ≠ .stuck) : r ≠ .stuck := fun e => h (by rw [e]; rfl)
theorem frz_sim {w0 : Base} {μ : Mu} {H : Heap} {w' : World} (md : Mode) {r : Res Value} {e : Ending} (he : Ended w0 μ r e w') : Ended w0 μ (frz md H r) e w' := by
 cases r with
 | stuck => exact he
 | panic v H' => exact he
 | ok v H' =>
  obtain ⟨μ1, v', h1, h2, h3, rfl⟩ := he;obtain ⟨μ2, k1, k2, k3⟩ := frozen_sim (H := H) md h2 h3;exact ⟨μ2, v', Mu.le_trans h1 k1, k2, k3, rfl⟩
def runZ (c : Cfg) (md : FuncId → Mode) : Nat → Caller
 | 0 => fun _ _ _ => .stuck
 | n + 1 => fun f args H =>
  match c.sp f with
  | some s => frz (md f) H (s (runZ c md n) args H)
  | none => frz (md f) H (bodyK c (runZ c md n) f args H)
theorem runZ_ok {c : Cfg} (hit : ∀ v H, c.it v H = none) (md : FuncId → Mode) (hN : NamesOk c.P) (hmix : c.P.follows .mixedOrders = true) (hsp : SpOk c) : ∀ n, CallOk c.P (runZ c md n)
 | 0 => fun _ _ _ h => absurd rfl h
 | n + 1 => by
  intro f args H hne;have ih := runZ_ok hit md hN hmix hsp n;simp only [runZ] at hne ⊢;cases hs : c.sp f with
  | some s =>
   rw [hs] at hne;obtain ⟨h1, h2⟩ := hsp.2 f s hs _ ih args H (frz_stuck hne);exact ⟨h1, fun w0 μ w args' hH ha => (h2 w0 μ w args' hH ha).mono fun e w' he => frz_sim _ he⟩
  | none =>
   rw [hs] at hne;obtain ⟨h1, h2⟩ := body_is hit hN hmix ih rfl (frz_stuck hne);exact ⟨h1, fun w0 μ w args' hH ha => (h2 w0 μ w args' hH ha).mono fun e w' he => frz_sim _ he⟩
end Go.Sw
end
section
namespace Go.Sw
theorem told_okZ {k m : Nat} {md : FuncId → Mode} (hsp : okTrue (runZ (baseCfg Prog kpS moreS) md m (k % 1000000) [] Heap.empty) = true) : SpOk (T k).c := by
 have h0 : CallOk Prog (runZ (baseCfg Prog kpS moreS) md m) := runZ_ok (c := baseCfg Prog kpS moreS) (fun _ _ => rfl) md names_ok mixed_ok (SpOk.base more_is) m;have h1 : SpOk (C k) := by
  unfold C;exact SpOk.of (P := Prog) (kp := kpS) (speaks := speaksT) (more := moreS) (k := k % 1000000) h0 hsp more_is
 exact h1
end Go.Sw
end
