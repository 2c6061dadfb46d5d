/-
  The law SwapParts.
-/
import Derived.Test.YtnaodjnimkndbaaSwLaw16A
namespace Go.Sw
open Go.RowKit

theorem big16_run (k : Nat) (b : List Int) (l : List Gl) (H : Heap) : R (T k) F.swashlaw16_big [lv encB b, lv encG l] H = .ok (.bool (decide (b.length > 600 ∨ l.length > 60))) H := by
  rw [swashlaw16_big_R]
  refine nrm_gc ⟨H, ?_, Ext.refl H⟩ (.bool _)
  by_cases h1 : (b.length : Int) > 600
  · have : b.length > 600 ∨ l.length > 60 := .inl (by omega)
    simp -implicitDefEqProofs [swashlaw16_big, h1, this]
  · by_cases h2 : (l.length : Int) > 60
    · have : b.length > 600 ∨ l.length > 60 := .inr (by omega)
      simp -implicitDefEqProofs [swashlaw16_big, h1, h2, this]
    · have : ¬ (b.length > 600 ∨ l.length > 60) := by omega
      simp -implicitDefEqProofs [swashlaw16_big, h1, h2, this]

theorem SwapParts_run (b : List Int) (hb : Byt b) (l m : List Gl) : R (T 1000090) F.swashlaw16_SwapParts [lv encB b, lv encG l, lv encG m] Heap.empty = .ok (.bool true) Heap.empty := by
  generalize hk : (1000090 : Nat) = k
  have hs := speaks16_run k (by subst hk; rfl)
  have hkg : 1000000 ≤ k := by omega
  clear hk
  rw [swashlaw16_SwapParts_R]
  generalize Heap.empty = H
  have hb1 := fun H' => big16_run k b l H'
  have hb2 := fun H' => big16_run k b m H'
  by_cases c1 : b.length > 600 ∨ l.length > 60
  · refine nrm_gc ⟨H, ?_, Ext.refl H⟩ (.bool _)
    simp -implicitDefEqProofs (disch := omega) [swashlaw16_SwapParts, hs, hb1, c1]
  by_cases c2 : b.length > 600 ∨ m.length > 60
  · refine nrm_gc ⟨H, ?_, Ext.refl H⟩ (.bool _)
    simp -implicitDefEqProofs (disch := omega) [swashlaw16_SwapParts, hs, hb1, hb2, c1, c2]
  have hrd := fun H' => swapRead_run k (H := H') (Sl.lv H' 1 b) hb 40 (by omega)
  unfold lookO lookN at hrd
  rw [show badS 40 2 = false from rfl] at hrd
  cases h : lookS b 40 2 with
  | none =>
    rw [h] at hrd
    simp [swapV] at hrd
    refine nrm_gc ⟨H, ?_, Ext.refl H⟩ (.bool _)
    simp -implicitDefEqProofs (disch := omega) [swashlaw16_SwapParts, hs, hb1, hb2, c1, c2, hrd]
  | some x =>
    rw [h] at hrd
    simp [swapV] at hrd
    have hok := lookS_ok hb (by omega) (by omega) (.inl rfl) h
    have hpl := lookS_len hb h
    obtain ⟨p1, o1, H1, e1, g⟩ := lineOf_star k (Star.nil H) (Sl.lv H 2 l) (by omega)
    obtain ⟨p2, o2, H2, e2, g⟩ := lineOf_star k g (Sl.lv H1 2 m) (by omega)
    have g := g.more_row (Ext.refl _) (OwnO.bare encG _ 2) (fun b hb => by cases hb)
    obtain ⟨s3, o3, H3, e3, g⟩ := g.append (bytes := 16) 2 encG_len rfl (b := lv encG l) (l2 := l) rfl (lv_first encG_len l H2) (by simp; omega) (by decide)
    obtain ⟨s4, o4, H4, e4, g⟩ := g.append (bytes := 16) 2 encG_len rfl (b := lv encG m) (l2 := m) rfl (lv_first encG_len m H3) (by simp; omega) (by decide)
    obtain ⟨p5, o5, H5, e5, g⟩ := lineOf_star k g ((g.row 2 rfl).sl encG_len) (by simp; omega)
    obtain ⟨H6, e6, g⟩ := swapRun_star k g 0 rfl (by omega) x hok.2.1 hok.2.2 hpl
    obtain ⟨H7, e7, g⟩ := swapRun_star k g 1 rfl (by omega) x hok.2.1 hok.2.2 hpl
    simp only [List.nil_append, List.cons_append, List.set_cons_zero, List.set_cons_succ] at g
    obtain ⟨H8, e8, g⟩ := lineTurn_star k g 3 rfl (by simp; omega)
    obtain ⟨H9, e9, g⟩ := swapRun_star k g 3 rfl (by simp; omega) x hok.2.1 hok.2.2 hpl
    obtain ⟨K1, f1, g⟩ := lineTurn_star k g 3 rfl (by simp; omega)
    simp only [List.nil_append, List.cons_append, List.set_cons_zero, List.set_cons_succ] at g
    obtain ⟨v2, q2, K2, f2, g⟩ := lineGlyphs_own k hkg g 3 rfl (by simp; omega)
    obtain ⟨v3, q3, K3, f3, g⟩ := lineGlyphs_own k hkg g 0 rfl (by simp; omega)
    obtain ⟨v4, q4, K4, f4, g⟩ := lineGlyphs_own k hkg g 1 rfl (by simp; omega)
    obtain ⟨v5, q5, K5, f5, g⟩ := g.appendRow (bytes := 16) 5 6 encG_len rfl rfl (by simp; omega) (by decide)
    simp only [List.nil_append, List.cons_append, List.set_cons_zero, List.set_cons_succ] at g
    have f6 := Same_run k ((g.row 4 rfl).rd encG_len) ((g.row 5 rfl).rd encG_len) (by simp; omega) (by simp; omega)
    refine nrm_gc ⟨K5, ?_, g.ext⟩ (.bool _)
    simp -implicitDefEqProofs (disch := omega) [swashlaw16_SwapParts, hs, hb1, hb2, c1, c2, hrd, e1, e2, e3, e4, e5, e6, e7, e8, e9, f1, f2, f3, f4, f5, f6]

theorem arg_G_row {r : List Da} {cs : List Value} (h : LayRow [.int .i64, .int .i64] r cs) : ∃ p : Gl, cs = encG p ∧ ((Lit.int .i64 p.id).wf = true ∧ (Lit.int .i64 p.cl).wf = true) := by
  obtain ⟨d, v, ds, vs, rfl, h1, h⟩ := h.head
  obtain ⟨d, u, ds, us, rfl, h2, h⟩ := h.head
  obtain rfl := h.done
  obtain ⟨a, rfl, w1⟩ := h1.intv
  obtain ⟨b, rfl, w2⟩ := h2.intv
  exact ⟨⟨a, b⟩, rfl, w1, w2⟩
theorem arg_G {v : Value} (h : ArgLay (.one (.slice [.int .i64, .int .i64])) v) : ∃ l, v = lv encG l ∧ ∀ p, p ∈ l → (Lit.int .i64 p.id).wf = true ∧ (Lit.int .i64 p.cl).wf = true := by
  obtain ⟨d, h1⟩ := h.cell
  exact Lay.list (enc := encG) (ok := fun p => (Lit.int .i64 p.id).wf = true ∧ (Lit.int .i64 p.cl).wf = true) (fun r cs h => arg_G_row h) h1
theorem SwapParts_args (vs : List Value) (h : ArgsLay [.one (.slice [.int .u8]), .one (.slice [.int .i64, .int .i64]), .one (.slice [.int .i64, .int .i64])] vs) : ∃ H', R (T 1000090) F.swashlaw16_SwapParts vs Heap.empty = .ok (.bool true) H' := by
  obtain ⟨v1, _, rfl, h1, h⟩ := h.head
  obtain ⟨v2, _, rfl, h2, h⟩ := h.head
  obtain ⟨v3, _, rfl, h3, h⟩ := h.head
  obtain rfl := h.done
  obtain ⟨b, rfl, hb⟩ := arg_B h1
  obtain ⟨l, rfl, _⟩ := arg_G h2
  obtain ⟨m, rfl, _⟩ := arg_G h3
  exact ⟨_, SwapParts_run b hb l m⟩
end Go.Sw
