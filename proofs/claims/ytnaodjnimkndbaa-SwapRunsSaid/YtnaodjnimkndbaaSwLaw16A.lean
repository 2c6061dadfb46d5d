/-
  The law SwapTakes.
-/
import Derived.Test.YtnaodjnimkndbaaSwSwap
import Derived.Test.YtnaodjnimkndbaaSwGswashlaw16
import Derived.Test.YtnaodjnimkndbaaSwArgs
namespace Go.Sw
open Go.RowKit

theorem speaks16_run (k : Nat) (hk : k % 1000000 = F.swashlaw16_speaks) (H : Heap) : R (T k) F.swashlaw16_speaks [] H = .ok (.bool true) H :=
  (R_sp (t := T k) (T_scott k) (s := constSp (.bool true)) (by unfold T C; dsimp only; rw [hk]; kernel_rfl) [] H).trans (nrm_gc (Pure.of rfl) (.bool _))

theorem SwapTakes_in1 (k : Nat) {H : Heap} {v : Value} {b : List Int} (hv : Sl H 1 v encB b) (hb : Byt b) (hl : b.length < 2 ^ 31) (p1 p2 : Nat) (old : Value)
    (h1 : H.get p1 = some ⟨[v], 1, false⟩) (h2 : H.get p2 = some ⟨[old], 1, false⟩) :
    R (T k) F.swashlaw16_SwapTakes_in1 [ptrV p1, ptrV p2] H = match lookS b 40 2 with
      | some x => .ok (.tuple #[]) (H.set p2 (some ⟨[swapTab x], 1, false⟩))
      | none => .panic failV H := by
  rw [swashlaw16_SwapTakes_in1_R]
  have ht := swapTake_run k hv hb 40 (by omega) (by omega) hl
  cases h : lookS b 40 2 with
  | none =>
    rw [h] at ht
    refine nrm_throw ⟨H, ?_, Ext.refl H⟩ Flat.fail.alive
    simp -implicitDefEqProofs (disch := omega) [swashlaw16_SwapTakes_in1, h1, h2, Of_run k hv, ht]
  | some x =>
    rw [h] at ht
    simp -implicitDefEqProofs (disch := omega) [swashlaw16_SwapTakes_in1, h1, h2, Of_run k hv, ht]

theorem SwapTakes_run (b : List Int) (hb : Byt b) (ids : List Int) : R (T F.swashlaw16_speaks) F.swashlaw16_SwapTakes [lv encB b, lv encI ids] Heap.empty = .ok (.bool true) Heap.empty := by
  generalize hk : F.swashlaw16_speaks = k
  have hs := speaks16_run k (by subst hk; rfl)
  have hklt : k < 1000000 := by subst hk; decide
  rw [swashlaw16_SwapTakes_R]
  generalize Heap.empty = H
  have hx1 : Ext H (H.push ⟨[lv encB b], 1, false⟩) := (Ext.refl H).push _
  by_cases hl : b.length > 800
  · have hl' : (b.length : Int) > 800 := by omega
    refine nrm_gc ⟨_, ?_, hx1⟩ (.bool _)
    simp -implicitDefEqProofs (disch := omega) [swashlaw16_SwapTakes, hs, hl']
  have hl' : ¬ (b.length : Int) > 800 := by omega
  by_cases hi : ids.length > 40
  · have hi' : (ids.length : Int) > 40 := by omega
    refine nrm_gc ⟨_, ?_, hx1⟩ (.bool _)
    simp -implicitDefEqProofs (disch := omega) [swashlaw16_SwapTakes, hs, hl', hi']
  have hi' : ¬ (ids.length : Int) > 40 := by omega
  have hx2 := hx1.push ⟨[.pointer none], 1, false⟩
  have hin := SwapTakes_in1 k (H := (H.push ⟨[lv encB b], 1, false⟩).push ⟨[.pointer none], 1, false⟩) (Sl.lv _ 1 b) hb (by omega) H.n (H.n + 1) (.pointer none) (by simp) (by simp)
  have hrd := fun H' => swapRead_run k (H := H') (Sl.lv H' 1 b) hb 40 (by omega)
  unfold lookO lookN at hrd
  rw [show badS 40 2 = false from rfl] at hrd
  cases h : lookS b 40 2 with
  | none =>
    rw [h] at hin hrd
    simp [swapV] at hrd
    have ht := Try_no k F.swashlaw16_SwapTakes_in1 #[ptrV H.n, ptrV (H.n + 1)] hin
    refine nrm_gc ⟨_, ?_, hx2⟩ (.bool _)
    simp -implicitDefEqProofs (disch := omega) [swashlaw16_SwapTakes, hs, hl', hi', bne, ht, hrd, swapV]
  | some x =>
    rw [h] at hin hrd
    simp [swapV] at hrd
    have ht := Try_ok k F.swashlaw16_SwapTakes_in1 #[ptrV H.n, ptrV (H.n + 1)] hin
    simp at ht
    have hok := lookS_ok hb (by omega) (by omega) (.inl rfl) h
    have hpl := lookS_len hb h
    have g := (Star.nil H).push ⟨[lv encB b], 1, false⟩
    have g := g.push ⟨[swapTab x], 1, false⟩
    obtain ⟨c1, o1, H1, e1, g⟩ := lineNew_star k g ids (by omega)
    obtain ⟨c2, o2, H2, e2, g⟩ := lineNew_star k g ids (by omega)
    have hp : H2.get (H.n + 1) = some ⟨[swapTab x], 1, false⟩ := by simpa using g.get 1 rfl
    obtain ⟨H3, e3, g⟩ := swapRun_star k g 2 rfl (by simp; omega) x hok.2.1 hok.2.2 hpl
    obtain ⟨H4, e4, g⟩ := swapRun_star k g 3 rfl (by simp; omega) x hok.2.1 hok.2.2 hpl
    have e5 := lineGlyphs_run k hklt g 2 rfl (by simp; omega)
    have e6 := lineGlyphs_run k hklt g 3 rfl (by simp; omega)
    have e7 := Same_run k (Rd.lv encG_len H4 ((newG ids).map (swapG x.2))) (Rd.lv encG_len H4 ((newG ids).map (swapG x.2))) (by simp; omega) (by simp; omega)
    refine nrm_gc ⟨H4, ?_, g.ext⟩ (.bool _)
    simp -implicitDefEqProofs (disch := omega) [swashlaw16_SwapTakes, hs, hl', hi', bne, ht, hrd, e1, e2, hp, e3, e4, e5, e6, e7]

theorem SwapTakes_args (vs : List Value) (h : ArgsLay [.one (.slice [.int .u8]), .one (.slice [.int .i64])] vs) : ∃ H', R (T F.swashlaw16_speaks) F.swashlaw16_SwapTakes vs Heap.empty = .ok (.bool true) H' := by
  obtain ⟨v1, _, rfl, h1, h⟩ := h.head
  obtain ⟨v2, _, rfl, h2, h⟩ := h.head
  obtain rfl := h.done
  obtain ⟨b, rfl, hb⟩ := arg_B h1
  obtain ⟨ids, rfl, _⟩ := arg_I h2
  exact ⟨_, SwapTakes_run b hb ids⟩
end Go.Sw
