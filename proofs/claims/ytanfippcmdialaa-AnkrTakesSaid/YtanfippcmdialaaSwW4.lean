/-
  Functions' forms, and what is proved of them, part 4.
-/
import Derived.Test.YtanfippcmdialaaSwW3
import Derived.Test.YtanfippcmdialaaSwCfg
import Derived.Test.YtanfippcmdialaaSwLib8
import Derived.Tactics
import Derived.Tactics2
import Derived.Defers
import Derived.Recover
import Derived.Laws.Pointers
import Derived.Test.YtanfippcmdialaaSwLib10
import Derived.RangeFuncKeeps
import Derived.RangeFuncLeaves
import Derived.Shelf.Abstract
import Derived.WalkKit
import Derived.OwnWalkIn
import Derived.TacticsInMore
import Derived.LoopNIn
import Derived.LoopIn
import Derived.Laws.IdiomCopy
import Derived.Lib.Walk
import Derived.Lib.SliceRun
import Derived.Lib.JoinLaws
import Derived.Lib.AppendZeros
import Derived.Lib.AppendZerosOnto
import Derived.Lib.Overlaps
import Derived.Laws.Externs
import Derived.Laws.NewBlocks
import Derived.Deep.RegionLaw
import Derived.Test.YtanfippcmdialaaSwLib9
import Derived.Test.YtanfippcmdialaaSwW2
import Derived.Eval
set_option linter.unusedSimpArgs false
set_option linter.unusedVariables false
set_option linter.unusedSectionVars false
section
namespace Go.Sw
open Go.RowKit
theorem speaks24_run (k : Nat) (hk : k % 1000000 = F.swashlaw24_speaks) (H : Heap) : R (T k) F.swashlaw24_speaks [] H = .ok (.bool true) H :=
 (R_sp (t := T k) (T_scott k) (s := constSp (.bool true)) (by unfold T C; dsimp only; rw [hk]; kernel_rfl) [] H).trans (nrm_gc (Pure.of rfl) (.bool _))
theorem AnkrTakes_in1 (k : Nat) {H : Heap} (b : List Int) (hb : Byt b) (hl : b.length < 2 ^ 31) (p2 p3 : Nat) (old : Value)
  (h2 : H.get p2 = some ⟨[lv encB b], 1, false⟩) (h3 : H.get p3 = some ⟨[old], 1, false⟩) :
  R (T k) F.swashlaw24_AnkrTakes_in1 [ptrV p2, ptrV p3] H = match ankS b 40 with
   | some x => .ok (.tuple #[]) (H.set p3 (some ⟨[ankV x], 1, false⟩))
   | none => .panic failV H := by
 rw [swashlaw24_AnkrTakes_in1_R];have ht := ankrTake_run k b hb 40 (by omega) hl H;have ho := fun H => Of_lv k b H;cases h : ankS b 40 with
 | none =>
  rw [h] at ht;refine nrm_throw ⟨H, ?_, Ext.refl H⟩ Flat.fail.alive;simp -implicitDefEqProofs (disch := omega) [swashlaw24_AnkrTakes_in1, h2, ho, ht]
 | some x =>
  rw [h] at ht;simp -implicitDefEqProofs (disch := omega) [swashlaw24_AnkrTakes_in1, h2, h3, ho, ht]
theorem takes24_l2 (k : Nat) (t : ATab) (ht : t.ok) (p : Nat) (id : Int) {H : Heap} (hp : H.get p = some ⟨[ankV t], 1, false⟩) :
  ∃ H', loopN (swashlaw24_AnkrTakes_l2 k (R (T k))) loopFuel [(3, ptrV p), (4, .bool true), (5, ankV t), (7, .int .i64 id), (8, .int .i64 (-1))] H =
   .ok (.exit 2, [(3, ptrV p), (4, .bool true), (5, ankV t), (7, .int .i64 id), (8, .int .i64 5), (49, .bool false)]) H' ∧ Ext H H' := by
 obtain ⟨xx, e', H1, hr1, rfl, rfl, hx⟩ := loop_up (body := swashlaw24_AnkrTakes_l2 k (R (T k))) 6
  (fun j e H' => e = [(3, ptrV p), (4, .bool true), (5, ankV t), (7, .int .i64 id), (8, .int .i64 ((j : Int) - 1))] ∧ Ext H H')
  (fun xx e H' => xx = .exit 2 ∧ e = [(3, ptrV p), (4, .bool true), (5, ankV t), (7, .int .i64 id), (8, .int .i64 5), (49, .bool false)] ∧ Ext H H')
  (e0 := [(3, ptrV p), (4, .bool true), (5, ankV t), (7, .int .i64 id), (8, .int .i64 (-1))]) (H0 := H) ⟨rfl, Ext.refl H⟩ (by omega)
  (fun j e H' hj ⟨he, hx⟩ => by
   subst he;have hjl : (j : Int) - 1 < 5 := by omega
   have hp1 := hx.get hp;have hg := fun H' => ankrGet_run k t ht id ((j : Int) - 1) H';have hc := fun H' => ankrCount_run k t ht id H';have w1 : IntKind.i64.wrap ((j : Int) - 1 + 1) = ((j + 1 : Nat) : Int) - 1 := by rw [wrap_i64 (by omega) (by omega)]; omega
   generalize (getA t id ((j : Int) - 1)) = o at hg;have hx1 := (hx.push ⟨[.int .i64 ((o.getD (0, 0)).1), .int .i64 ((o.getD (0, 0)).2)], 1, false⟩)
   have hp2 := hx1.get hp;have hp3 := (hx1.push ⟨[.int .i64 ((o.getD (0, 0)).1), .int .i64 ((o.getD (0, 0)).2)], 1, false⟩).get hp;refine .inl ⟨_, _, ?_, rfl, hx1.push ⟨[.int .i64 ((o.getD (0, 0)).1), .int .i64 ((o.getD (0, 0)).2)], 1, false⟩⟩;rw [swashlaw24_AnkrTakes_l2_eq];simp -implicitDefEqProofs (disch := omega) [hjl, hp1, hp2, hp3, hg, hc, w1])
  (fun e H' ⟨he, hx⟩ => by
   subst he;refine ⟨.exit 2, _, H', ?_, by simp, rfl, rfl, hx⟩;rw [swashlaw24_AnkrTakes_l2_eq];simp -implicitDefEqProofs)
 exact ⟨H1, hr1, hx⟩
theorem takes24_l1 (k : Nat) (t : ATab) (ht : t.ok) (p : Nat) {H : Heap} (hp : H.get p = some ⟨[ankV t], 1, false⟩) :
  ∃ H', loopN (swashlaw24_AnkrTakes_l1 k (R (T k))) loopFuel [(3, ptrV p), (4, .bool true), (5, ankV t), (7, .int .i64 (-1))] H =
   .ok (.exit 0, [(3, ptrV p), (4, .bool true), (5, ankV t), (7, .int .i64 12), (45, .bool false)]) H' ∧ Ext H H' := by
 obtain ⟨xx, e', H1, hr1, rfl, rfl, hx⟩ := loop_up (body := swashlaw24_AnkrTakes_l1 k (R (T k))) 13
  (fun j e H' => e = [(3, ptrV p), (4, .bool true), (5, ankV t), (7, .int .i64 ((j : Int) - 1))] ∧ Ext H H')
  (fun xx e H' => xx = .exit 0 ∧ e = [(3, ptrV p), (4, .bool true), (5, ankV t), (7, .int .i64 12), (45, .bool false)] ∧ Ext H H')
  (e0 := [(3, ptrV p), (4, .bool true), (5, ankV t), (7, .int .i64 (-1))]) (H0 := H) ⟨rfl, Ext.refl H⟩ (by omega)
  (fun j e H' hj ⟨he, hx⟩ => by
   subst he;have hjl : (j : Int) - 1 < 12 := by omega
   obtain ⟨H2, e2, hx2⟩ := takes24_l2 k t ht p ((j : Int) - 1) (hx.get hp);have w1 : IntKind.i64.wrap ((j : Int) - 1 + 1) = ((j + 1 : Nat) : Int) - 1 := by rw [wrap_i64 (by omega) (by omega)]; omega
   refine .inl ⟨_, _, ?_, rfl, hx.trans hx2⟩;rw [swashlaw24_AnkrTakes_l1_eq];simp -implicitDefEqProofs (disch := omega) [hjl, e2, swashlaw24_AnkrTakes_l2k_x2, w1])
  (fun e H' ⟨he, hx⟩ => by
   subst he;refine ⟨.exit 0, _, H', ?_, by simp, rfl, rfl, hx⟩;rw [swashlaw24_AnkrTakes_l1_eq];simp -implicitDefEqProofs)
 exact ⟨H1, hr1, hx⟩
theorem AnkrTakes_run (b : List Int) (hb : Byt b) : R (T F.swashlaw24_speaks) F.swashlaw24_AnkrTakes [lv encB b] Heap.empty = .ok (.bool true) Heap.empty := by
 generalize hk : F.swashlaw24_speaks = k;have hs := speaks24_run k (by subst hk; rfl);clear hk;rw [swashlaw24_AnkrTakes_R];generalize Heap.empty = H;have hx1 : Ext H (H.push ⟨[lv encB b], 1, false⟩) := (Ext.refl H).push _;by_cases hl : b.length > 800
 ·have hl' : (b.length : Int) > 800 := by omega
  refine nrm_gc ⟨_, ?_, hx1⟩ (.bool _);simp -implicitDefEqProofs (disch := omega) [swashlaw24_AnkrTakes, hs, hl']
 have hl' : ¬ (b.length : Int) > 800 := by omega
 have hin := AnkrTakes_in1 k (H := (H.push ⟨[lv encB b], 1, false⟩).push ⟨[.pointer none], 1, false⟩) b hb (by omega) H.n (H.n + 1) (.pointer none) (by simp) (by simp);have hrd := fun H' => ankrRead_run k (H := H') (Sl.lv H' 1 b) hb 40 (by omega) (fun _ H' => ankrTake_run k b hb 40 (by omega) (by omega) H');unfold ankrO ankrN at hrd;rw [if_pos (by omega), if_pos (by omega)] at hrd;cases h : ankS b 40 with
 | none =>
  rw [h] at hin hrd;simp only [ankrP, Option.isSome_none, Bool.false_eq_true, if_false] at hrd;have ht := Try_no k F.swashlaw24_AnkrTakes_in1 #[ptrV H.n, ptrV (H.n + 1)] hin;have hlp : ∀ H', ∃ e', loopN (swashlaw24_AnkrTakes_l1 k (R (T k))) loopFuel [(3, ptrV (H.n + 1)), (4, .bool false), (5, .pointer none), (7, .int .i64 (-1))] H' = .ok (.exit 0, [(3, ptrV (H.n + 1)), (4, .bool false), (5, .pointer none), (7, .int .i64 (-1)), (45, e')]) H' := fun H' => by
   refine ⟨.bool false, ?_⟩;unfold loopFuel;rw [show (2 : Nat) ^ 64 = (2 ^ 64 - 1) + 1 from rfl, loopN, swashlaw24_AnkrTakes_l1_eq];simp -implicitDefEqProofs
  obtain ⟨e', hlp⟩ := hlp ((H.push ⟨[lv encB b], 1, false⟩).push ⟨[.pointer none], 1, false⟩);refine nrm_gc ⟨_, ?_, hx1.push ⟨[.pointer none], 1, false⟩⟩ (.bool _);simp -implicitDefEqProofs (disch := omega) [swashlaw24_AnkrTakes, hs, hl', ht, hrd, hlp, swashlaw24_AnkrTakes_l1k_x0]
 | some t =>
  rw [h] at hin hrd;simp only [ankrP, Option.isSome_some, if_true] at hrd;have ht := Try_ok k F.swashlaw24_AnkrTakes_in1 #[ptrV H.n, ptrV (H.n + 1)] hin;simp at ht;have hok := ankS_ok hb (by omega) (by omega) (by omega) h;obtain ⟨H2, e2, hx2⟩ := takes24_l1 k t hok (H.n + 1) (H := (H.push ⟨[lv encB b], 1, false⟩).push ⟨[ankV t], 1, false⟩) (get_push_eq _ _ _ (by simp));refine nrm_gc ⟨H2, ?_, (hx1.push ⟨[ankV t], 1, false⟩).trans hx2⟩ (.bool _);simp -implicitDefEqProofs (disch := omega) [swashlaw24_AnkrTakes, hs, hl', ht, hrd, e2, swashlaw24_AnkrTakes_l1k_x0]
theorem AnkrTakes_args (vs : List Value) (h : ArgsLay [.one (.slice [.int .u8])] vs) : ∃ H', R (T F.swashlaw24_speaks) F.swashlaw24_AnkrTakes vs Heap.empty = .ok (.bool true) H' := by
 obtain ⟨v1, _, rfl, h1, h⟩ := h.head;obtain rfl := h.done;obtain ⟨b, rfl, hb⟩ := arg_B h1;exact ⟨_, AnkrTakes_run b hb⟩
end Go.Sw
end
section
namespace Go.Sw
open Go.RowKit Go.Proofs
set_option maxRecDepth 20000 in
theorem catch_short (p : Addr) (b : Bool) (w : World) (hc : (w.alloc (.cells #[] 190)).cell? p = some (.bool b)) (hz : (w.alloc (.cells #[] 190)).frozen? p = false) :
  CallsD Prog 100 #[.pointer (some p)] (.panicking [{ v := .iface 190 (.agg #[]), recovered := false }]) w fun e u' w' =>
   e = .returned (.tuple #[]) ∧ u' = .panicking [{ v := .iface 190 (.agg #[]), recovered := true }] ∧ w' = (w.alloc (.cells #[] 190)).setCell p (.bool false) := by
 refine callsD_of_wpS Try.func100 rfl fun c₀ cs hu => ?_;apply wpS_seq;apply wpS_region;simp [wpOpsS, go_sem, recoverD, hu, Try.ntmps100, Exit.thenS];have hta : ∀ w, (Instr.typeAssert (.iface 190 (.agg #[])) 20 190 true).run Prog w = .ok (.tuple #[.agg #[], .bool true]) w := fun w => by kernel_rfl
 refine wpS_of_wp ?_
 go_wp2
 cases c₀;simp_all [bodyPostS, results, Try.results100]
theorem catch_idle (p : Addr) (w : World) :
  CallsD Prog 100 #[.pointer (some p)] .returning w fun e u' w' => e = .returned (.tuple #[]) ∧ u' = .returning ∧ w' = w := by
 refine callsD_of_wpS Try.func100 rfl fun c₀ cs hu => ?_;apply wpS_seq;apply wpS_region;simp [wpOpsS, go_sem, recoverD, hu, Try.ntmps100, Exit.thenS];refine wpS_of_wp ?_
 go_wp2
 cases c₀;simp_all [bodyPostS, results, Try.results100]
set_option maxRecDepth 20000 in
theorem try_walk (g : FuncId) (first cap : Array Value) (w : World) (R : Ending → World → Prop)
  (hcf : (callFunc g (first ++ cap)).run Prog (w.alloc (.cells #[.bool false] 4)) = .ok (.enter g (first ++ cap)) (w.alloc (.cells #[.bool false] 4)))
  (hcall : Calls Prog g (first ++ cap) (w.alloc (.cells #[.bool false] 4)) fun e w' => match e with
   | .returned _ => w'.heap[w.heap.size]? = some (.cells #[.bool false] 4 (0, 0)) ∧ R (.returned (.bool true)) (w'.setCell ⟨w.heap.size, 0, none⟩ (.bool true))
   | .panicked chain => chain = [{ v := .iface 190 (.agg #[]), recovered := false }] ∧ w'.heap[w.heap.size]? = some (.cells #[.bool false] 4 (0, 0)) ∧ R (.returned (.bool false)) ((w'.alloc (.cells #[] 190)).setCell ⟨w.heap.size, 0, none⟩ (.bool false))
   | .outgrown => False) :
  Calls Prog 40 #[.func (.func g) first cap] w R := by
 have hmf : ∀ (fn : Fn) (first cap : Array Value) (w : World), (Instr.makeFunc fn first cap).run Prog w = .ok (.func fn first cap) w := fun _ _ _ _ => rfl
 go_enter_defers Try.func40, Try.ntmps40
 go_wp2
 rename_i K2 hK2 K1 hK1;refine hcall.mono fun e w' he => ?_;cases e with
 | returned v =>
  obtain ⟨h1, h2⟩ := he;have hc : w'.cell? ⟨w.heap.size, 0, none⟩ = some (.bool false) := by simp [World.cell?, h1]
  have hz : w'.frozen? ⟨w.heap.size, 0, none⟩ = false := by simp [World.frozen?, h1]
  apply hK1;apply hK2
  go_wp2
  have hc2 : (w'.setCell ⟨w.heap.size, 0, none⟩ (.bool true)).cell? ⟨w.heap.size, 0, none⟩ = some (.bool true) := World.cell?_setCell_same _ _ _ hc;refine leaves_cons (f := 100) (args := #[.pointer (some ⟨w.heap.size, 0, none⟩)]) (by simp) (by simp [go_sem]) ?_;refine (catch_idle ⟨w.heap.size, 0, none⟩ _).mono ?_;rintro e u' w'' ⟨rfl, rfl, rfl⟩;simp [Leaves, settle, results, Try.results40, go_sem, hc2];exact h2
 | panicked chain =>
  obtain ⟨h0, h1, h2⟩ := he;subst h0;have hlt : w.heap.size < w'.heap.size := by
   rcases Nat.lt_or_ge w.heap.size w'.heap.size with h | h
   ·exact h
   ·rw [Array.getElem?_eq_none h] at h1; cases h1
  have h3 : (w'.alloc (.cells #[] 190)).heap[w.heap.size]? = some (.cells #[.bool false] 4 (0, 0)) := by
   rw [heap_alloc_lt _ _ _ hlt]; exact h1
  have hc : (w'.alloc (.cells #[] 190)).cell? ⟨w.heap.size, 0, none⟩ = some (.bool false) := by simp only [World.cell?, h3]; rfl
  have hz : (w'.alloc (.cells #[] 190)).frozen? ⟨w.heap.size, 0, none⟩ = false := by simp [World.frozen?, h3]
  have hc2 : ((w'.alloc (.cells #[] 190)).setCell ⟨w.heap.size, 0, none⟩ (.bool false)).cell? ⟨w.heap.size, 0, none⟩ = some (.bool false) := World.cell?_setCell_same _ _ _ hc;show Leaves _ _ _ _ _ _ _;refine leaves_cons (f := 100) (args := #[.pointer (some ⟨w.heap.size, 0, none⟩)]) (by simp) (by simp [go_sem]) ?_;refine (catch_short ⟨w.heap.size, 0, none⟩ false _ hc hz).mono ?_;rintro e u' w'' ⟨rfl, rfl, rfl⟩;simp [Leaves, settle, results, Try.results40, go_sem, hc2];exact h2
 | outgrown => exact he.elim
theorem try_is : SpIs Prog 40 (tryV 190) := try_of (bt := 4) Try.func40 rfl (by kernel_rfl) try_walk
end Go.Sw
end
section
namespace Go.Sw
open Go.RowKit Go.Proofs Go.Shelf
attribute [local go_sem] Oper.semAt_some
set_option maxRecDepth 100000 in
set_option maxHeartbeats 1000000 in
theorem it_at_in (W : World) (f l id x : Int) (blk off m cap : Nat) (hf : 0 ≤ f) (hid : f ≤ id) (hil : id < 4294967296) (hm : 0 < m) (hm2 : m < 2 ^ 60)
  (hc : W.cell? ⟨blk, off + min (id - f).toNat (m - 1), none⟩ = some (.int .i64 x)) (hb : blk < W.heap.size) :
  CallsIn Fence.wide 1 Prog 81 #[.agg #[.int .i64 f, .int .i64 l, .slice (some ⟨blk, off, none⟩) m cap], .int .i64 id] W fun e W' => e = .returned (.int .i64 x) ∧ W' = W.alloc (.cells #[.int .i64 f, .int .i64 l, .slice (some ⟨blk, off, none⟩) m cap] 179) := by
 refine callsIn_of_wp Try.func81 rfl trivial ?_ rfl;simp only [Try.ntmps81, List.size_toArray, List.length_cons, List.length_nil, Nat.reduceAdd, Nat.reduceSub, Array.replicate_succ, Array.replicate_zero, List.push_toArray, List.append_toArray, List.nil_append, List.cons_append];have hw' : W.cell? ⟨blk, off + (min (id - f) ((m : Int) - 1)).toNat, none⟩ = some (.int .i64 x) := by
  rw [← hc, show (min (id - f) ((m : Int) - 1)).toNat = min (id - f).toNat (m - 1) by omega]
 by_cases hlt : (m : Int) - 1 < id - f
 ·have hw : W.cell? ⟨blk, off + (m - 1), none⟩ = some (.int .i64 x) := by
   rw [← hc, show min (id - f).toNat (m - 1) = m - 1 by omega]
  gi_wp2
  go_ret
  exact ⟨rfl, rfl⟩
 ·have hw : W.cell? ⟨blk, off + (id - f).toNat, none⟩ = some (.int .i64 x) := by
   rw [← hc, show min (id - f).toNat (m - 1) = (id - f).toNat by omega]
  gi_wp2
  go_ret
  exact ⟨rfl, rfl⟩
structure Pa where
 f : Int
 l : Int
 m : Nat
 x : Nat → Int
def paN (p : Pa) : Nat := (p.l - p.f + 1).toNat
def PaZ (z : Nat → Option Obj) (cs : Array Value) (o : Nat) (p : Pa) : Prop :=
 ∃ a cap, cs[o]? = some (.int .i64 p.f) ∧ cs[o + 1]? = some (.int .i64 p.l) ∧ cs[o + 2]? = some (.slice a p.m cap) ∧
  (0 < p.m → ∃ blk off ws el fz, a = some ⟨blk, off, none⟩ ∧ z blk = some (.cells ws el fz) ∧ ∀ j, j < paN p → ws[off + min j (p.m - 1)]? = some (.int .i64 (p.x j)))
def cntP (ps : List Pa) : Nat := (ps.map paN).sum
set_option maxRecDepth 100000 in
set_option maxHeartbeats 4000000 in
theorem it_all_in (z : Nat → Option Obj) (l0 : Nat) (J : Nat → (Nat → Prop) → World → Prop) (Jx : World → Prop) (Jp : List PanicEntry → World → Prop) (ps : List Pa)
  (hal : ∀ i T W o, J i T W → J i (fun k => T k ∨ k = W.heap.size) (W.alloc o))
  (htn : ∀ i T W W', J i T W → W.heap.size = W'.heap.size → W'.os = W.os → W'.tape = W.tape → W'.output = W.output → (∀ k, ¬ T k → W'.heap[k]? = W.heap[k]?) → J i T W')
  (hfz : ∀ i T W, J i T W → ∀ k o, z k = some o → W.heap[k]? = some o)
  (hY : ∀ (a : Nat) (p : Pa) (j : Nat) T W, ps[a]? = some p → j < paN p → J (cntP (ps.take a) + j) T W → YieldAt Fence.wide 0 Prog l0 #[.int .i64 (p.f + j), .int .i64 (p.x j)] W fun e W' =>
   (e = .returned (.bool true) ∧ J (cntP (ps.take a) + (j + 1)) T W' ∧ (∀ k, T k → W'.heap[k]? = W.heap[k]?) ∧ W.heap.size ≤ W'.heap.size) ∨ (e = .returned (.bool false) ∧ Jx W') ∨ ∃ ch, e = .panicked ch ∧ Jp ch W')
  (hok : ∀ p, p ∈ ps → 0 ≤ p.f ∧ p.l < 4294967296 ∧ p.m < 2 ^ 60 ∧ (p.f ≤ p.l → 0 < p.m))
  (W : World) (h0 : J 0 (fun _ => False) W) (BX bo tb toff : Nat) (hBX : W.cell? ⟨BX, bo, none⟩ = some (.pointer (some ⟨tb, toff, none⟩)))
  (tcs : Array Value) (tel : TypeId) (tfz : Nat × Nat) (htb : z tb = some (.cells tcs tel tfz)) (pa : Option Addr) (pcap : Nat) (htc : tcs[toff + 1]? = some (.slice pa ps.length pcap)) (hn : ps.length < 2 ^ 60)
  (hpa : ps ≠ [] → ∃ pb poff pcs pel pfz, pa = some ⟨pb, poff, none⟩ ∧ z pb = some (.cells pcs pel pfz) ∧ ∀ (a : Nat) p, ps[a]? = some p → PaZ z pcs (poff + a * 3) p) :
  CallsIn Fence.wide 3 Prog 80 #[.func (.yield l0) #[] #[], .pointer (some ⟨BX, bo, none⟩)] W fun e W' => ((∃ v, e = .returned v) ∧ ((∃ T, J (cntP ps) T W') ∨ Jx W')) ∨ ∃ ch, e = .panicked ch ∧ Jp ch W' := by
 have htW := hfz _ _ _ h0 _ _ htb;have hT1 : W.cell? ⟨tb, toff + 1, none⟩ = some (.slice pa ps.length pcap) := by simp only [World.cell?, htW, htc]; rfl
 refine callsIn_of_wp Try.func80 rfl trivial ?_ rfl;simp only [Try.ntmps80, List.size_toArray, List.length_cons, List.length_nil, Nat.reduceAdd, Nat.reduceSub, Array.replicate_succ, Array.replicate_zero, List.push_toArray, List.append_toArray, List.nil_append, List.cons_append]
 gi_wp2
 gi_loopw [11] (fun i wr => ∃ k : Nat, k ≤ ps.length ∧ i = .int .i64 k ∧ ∃ T, J (cntP (ps.take k)) T wr) (fun i _ => ps.length - (intOf i).toNat)
 case atStart => exact ⟨0, Nat.zero_le _, rfl, _, h0⟩
 case round =>
  obtain ⟨k, hk, rfl, T, hJ⟩ := hrel;by_cases hlt : k < ps.length
  ·obtain ⟨p, hp⟩ : ∃ p, ps[k]? = some p := ⟨_, List.getElem?_eq_getElem hlt⟩
   obtain ⟨pb, poff, pcs, pel, pfz, rfl, hzp, hPZ⟩ := hpa (fun e => by subst e; simp at hlt);obtain ⟨va, cap, c1, c2, c3, hv⟩ := hPZ k p hp;have hwp := hfz _ _ _ hJ _ _ hzp;have d1 : wr.cell? ⟨pb, poff + k * 3, none⟩ = some (.int .i64 p.f) := by simp only [World.cell?, hwp, c1]; rfl
   have d2 : wr.cell? ⟨pb, poff + k * 3 + 1, none⟩ = some (.int .i64 p.l) := by simp only [World.cell?, hwp, c2]; rfl
   have d3 : wr.cell? ⟨pb, poff + k * 3 + 2, none⟩ = some (.slice va p.m cap) := by simp only [World.cell?, hwp, c3]; rfl
   have hpo := hok p (List.mem_of_getElem? hp);obtain ⟨w1, hw1⟩ : ∃ w1, w1 = wr := ⟨_, rfl⟩
   subst hw1
   gi_wp2
   gi_loopw [5] (fun i w2 => ∃ j : Nat, j ≤ paN p ∧ i = .int .i64 (p.f + j) ∧ ∃ T2, J (cntP (ps.take k) + j) T2 w2 ∧ T2 w1.heap.size ∧ w2.heap[w1.heap.size]? = some (.cells #[.int .i64 p.f, .int .i64 p.l, .slice va p.m cap] 179 (0, 0)))
    (fun i _ => paN p - (intOf i - p.f).toNat)
   case atStart =>
    refine ⟨0, Nat.zero_le _, by simp, _, hal _ _ _ _ hJ, .inr rfl, heap_alloc_new' _ _⟩
   case round =>
    obtain ⟨j, hj, rfl, T2, hJ2, hT2, hbx⟩ := hrel;have b1 : wr.cell? ⟨w1.heap.size, 0, none⟩ = some (.int .i64 p.f) := by simp only [World.cell?, hbx]; rfl
    have b2 : wr.cell? ⟨w1.heap.size, 1, none⟩ = some (.int .i64 p.l) := by simp only [World.cell?, hbx]; rfl
    have b3 : wr.cell? ⟨w1.heap.size, 2, none⟩ = some (.slice va p.m cap) := by simp only [World.cell?, hbx]; rfl
    have hc0 : wr.cell? ⟨w1.heap.size, 0, none⟩ |>.isSome := by rw [b1]; rfl
    by_cases hjl : j < paN p
    ·have hle : p.f ≤ p.l := by unfold paN at hjl; omega
     have hjp : p.f + (j : Int) ≤ p.l := by unfold paN at hjl; omega
     have hvl := hpo.2.2.2 hle;obtain ⟨blk, off, ws, wel, wfz, rfl, hzw, hws⟩ := hv hvl;have hww := hfz _ _ _ hJ2 _ _ hzw;have hval : wr.cell? ⟨blk, off + min (p.f + (j : Int) - p.f).toNat (p.m - 1), none⟩ = some (.int .i64 (p.x j)) := by
      rw [show (p.f + (j : Int) - p.f).toNat = j by omega];simp only [World.cell?, hww, hws j hjl]; rfl
     have hbl : blk < wr.heap.size := (Array.getElem?_eq_some_iff.1 hww).1;have hat := it_at_in wr p.f p.l (p.f + j) (p.x j) blk off p.m cap hpo.1 (by omega) (by omega) hvl hpo.2.2.1 hval hbl;have hJ3 := hal _ _ _ (.cells #[.int .i64 p.f, .int .i64 p.l, .slice (some ⟨blk, off, none⟩) p.m cap] 179) hJ2;obtain ⟨fn, tmps, assign, body, hy, hR⟩ := hY k p j _ _ hp hjl hJ3;have hf81 : Fence.wide.fn 81 := trivial
     gi_wp2_with (gi_at_call 81; refine (callsIn_wide.2 (callsIn_wide.1 hat)).mono ?_; rintro e w' ⟨rfl, rfl⟩)
     refine (roundIn_any hR).mono ?_;rintro e w3 (⟨rfl, hJ4, hkeep, _⟩ | ⟨rfl, hx⟩ | ⟨ch, rfl, hpn⟩)
     ·have hbx3 : w3.heap[w1.heap.size]? = some (.cells #[.int .i64 p.f, .int .i64 p.l, .slice (some ⟨blk, off, none⟩) p.m cap] 179 (0, 0)) :=
       (hkeep _ (.inl hT2)).trans ((Below.heap_alloc wr _ _ (Array.getElem?_eq_some_iff.1 hbx).1).trans hbx)
      gi_wp2
      go_roundw
      ·exact ⟨j + 1, hjl, by congr 1; push_cast; omega, _, hJ4, .inl hT2, hbx3⟩
      ·simp [intOf]; omega
     ·gi_wp2
      refine bodyPost_ret (results_none rfl _ _ _) rfl ?_;exact .inl ⟨⟨_, rfl⟩, .inr hx⟩
     ·gi_wp2
      exact ⟨rfl, .inr ⟨_, rfl, hpn⟩⟩
    ·have hlj : p.l < p.f + (j : Int) := by unfold paN at hjl; omega
     gi_wp2
     obtain rfl : j = paN p := by omega
     go_roundw
     ·refine ⟨k + 1, hlt, by simp, T2, ?_⟩;have : cntP (ps.take (k + 1)) = cntP (ps.take k) + paN p := by
       rw [List.take_add_one, hp]; simp [cntP]
      rw [this]; exact hJ2
     ·simp [intOf]; omega
  ·obtain rfl : k = ps.length := by omega
   rw [List.take_length] at hJ
   gi_wp2
   go_end0
   exact .inl ⟨⟨_, rfl⟩, .inl ⟨T, hJ⟩⟩
def paL (p : Pa) : List (List Int) := (List.range (paN p)).map fun j => [p.f + (j : Nat), p.x j]
theorem itm_some {α β : Type} {f : α → Option β} {g : α → β} (hg : ∀ y z, f y = some z → z = g y) : ∀ {l : List α} {a : List β}, l.mapM f = some a → a = l.map g ∧ ∀ y, y ∈ l → (f y).isSome = true
 | [], a, h => by simp at h; subst h; exact ⟨rfl, fun y hy => by cases hy⟩
 | y :: l, a, h => by
  rw [List.mapM_cons] at h;cases hy : f y with
  | none => rw [hy] at h; simp at h
  | some z =>
   cases hl : l.mapM f with
   | none => rw [hy, hl] at h; simp at h
   | some b =>
    rw [hy, hl] at h;obtain ⟨h1, h2⟩ := itm_some hg hl;have h : z :: b = a := by simpa using h
    subst h;refine ⟨by rw [List.map_cons, ← h1, hg _ _ hy], fun y' hy' => ?_⟩;rcases List.mem_cons.1 hy' with rfl | hm
    ·simp [hy]
    ·exact h2 _ hm
def itValX (vals : List Value) (j : Nat) : Int := match vals[min j (vals.length - 1)]? with | some (.int .i64 x) => x | _ => 0
theorem it_partE_is {f l : Int} {vals : List Value} {a : List (List Int)} (h : partE f l vals = some a) :
  0 ≤ f ∧ l < 4294967296 ∧ vals.length < 2 ^ 60 ∧ a = paL ⟨f, l, vals.length, itValX vals⟩ ∧ ∀ j, j < (l - f + 1).toNat → vals[min j (vals.length - 1)]? = some (.int .i64 (itValX vals j)) := by
 unfold partE at h;split at h
 ·rename_i hc;obtain ⟨h1, h2⟩ := itm_some (g := fun j => [f + (j : Nat), itValX vals j]) (fun y z hz => by
   unfold itValX;split at hz
   ·rename_i e; rw [e]; injection hz with hz; exact hz.symm
   ·cases hz) h
  refine ⟨hc.1, hc.2.1, hc.2.2, h1, fun j hj => ?_⟩;have := h2 j (List.mem_range.2 hj);unfold itValX;split at this
  ·rename_i e; rw [e]
  ·cases this
 ·cases h
theorem it_parts_of {μ : Mu} {cs : Array Value} : ∀ (n : Nat) (vs : List Value) (L : List (List Int)) (o : Nat), partsE n vs = some L → o + vs.length ≤ cs.size → (∀ (i : Nat) v v', vs[i]? = some v → cs[o + i]? = some v' → VR μ v v') →
  ∃ pl : List Pa, pl.length = n ∧ (∀ p, p ∈ pl → 0 ≤ p.f ∧ p.l < 4294967296 ∧ p.m < 2 ^ 60 ∧ (p.f ≤ p.l → 0 < p.m)) ∧ (∀ (a : Nat) p, pl[a]? = some p → PaZ μ.z cs (o + a * 3) p) ∧ L = pl.flatMap paL := by
 intro n
 induction n with
 | zero =>
  intro vs L o h _ _;cases vs with
  | nil => unfold partsE at h; injection h with h; subst h; exact ⟨[], rfl, fun p hp => (nomatch hp), fun a p hp => (nomatch hp), rfl⟩
  | cons v vs => unfold partsE at h; cases h
 | succ n ih =>
  intro vs L o h hs hv;unfold partsE at h;split at h
  ·rename_i e; cases e
  ·rename_i n' f l m pth g ws ys r e;injection e with e; subst e;cases hm : Nat.beq m ws.size with
   | false => rw [hm] at h; cases h
   | true =>
    rw [hm] at h;have hm := Nat.eq_of_beq_eq_true hm;cases hp : partE f l ws.toList with
    | none => rw [hp] at h; cases h
    | some a =>
     cases hr : partsE n r with
     | none => rw [hp, hr] at h; cases h
     | some b =>
      rw [hp, hr] at h;have h : some (a ++ b) = some L := h;injection h with h; subst h;simp only [List.length_cons] at hs;obtain ⟨pl, h1, h2, h3, h4⟩ := ih r b (o + 3) hr (by omega) fun i v v' hi hi' => hv (i + 3) v v' (by simpa using hi) (by rw [show o + (i + 3) = o + 3 + i by omega]; exact hi');obtain ⟨q1, q2, q3, q4, q5⟩ := it_partE_is hp;have g0 : ∀ k, k < 3 → ∃ v', cs[o + k]? = some v' := fun k hk => ⟨_, Array.getElem?_eq_getElem (by omega)⟩
      obtain ⟨c0, e0⟩ := g0 0 (by omega);obtain ⟨c1, e1⟩ := g0 1 (by omega);obtain ⟨c2, e2⟩ := g0 2 (by omega);have r0 := hv 0 _ _ rfl e0;have r1 := hv 1 _ _ rfl e1;have r2 := hv 2 _ _ rfl e2;refine ⟨⟨f, l, ws.toList.length, itValX ws.toList⟩ :: pl, by simp [h1], fun p hp => ?_, fun a' p ha => ?_, ?_⟩
      ·rcases List.mem_cons.1 hp with rfl | hp
       ·refine ⟨q1, q2, q3, fun hle => ?_⟩;have := q5 0 (by have hle' : f ≤ l := hle; omega);rcases Nat.eq_zero_or_pos ws.toList.length with hz | hz
        ·rw [List.length_eq_zero_iff.1 hz] at this; cases this
        ·exact hz
       ·exact h2 p hp
      ·cases a' with
       | succ a' => rw [show o + (a' + 1) * 3 = o + 3 + a' * 3 by omega]; exact h3 a' p (by simpa using ha)
       | zero =>
        simp at ha; subst ha;cases r0; cases r1;cases r2 with
        | list _ _ _ _ _ blk off cap zcs el fz hz hl hc hg h0 hx =>
         refine ⟨some ⟨blk, off, none⟩, cap, by simpa using e0, by simpa using e1, by rw [Nat.zero_mul, Nat.add_zero, e2, hm], fun hpos => ⟨blk, off, zcs, el, fz, rfl, hz, fun j hj => ?_⟩⟩;have hj' := q5 j hj;have hlt := (List.getElem?_eq_some_iff.1 hj').1;have hlt' : min j (ws.toList.length - 1) < ws.size := by simpa using hlt
         obtain ⟨v', hv'⟩ : ∃ v', zcs[off + min j (ws.toList.length - 1)]? = some v' := ⟨_, Array.getElem?_eq_getElem (by omega)⟩
         have := hx _ _ _ (by rw [← Array.getElem?_toList]; exact hj') hv';cases this;exact hv'
        | empty _ _ _ _ x cap hn hs' =>
         have hz : ws.toList.length = 0 := by rw [Array.length_toList]; exact hm.symm
         refine ⟨x, cap, by simpa using e0, by simpa using e1, by rw [Nat.zero_mul, Nat.add_zero, e2]; show some (Value.slice x 0 cap) = some (Value.slice x ws.toList.length cap); rw [hz], fun hpos => ?_⟩;simp only [hz] at hpos; omega
      ·rw [List.flatMap_cons, ← h4, q4]
  ·cases h
theorem paL_len (p : Pa) : (paL p).length = paN p := by simp [paL]
theorem itf_len : ∀ pl : List Pa, (pl.flatMap paL).length = cntP pl
 | [] => rfl
 | p :: pl => by simp [List.flatMap_cons, itf_len pl, paL_len, cntP]
theorem itf_at : ∀ (pl : List Pa) (a : Nat) (p : Pa) (j : Nat), pl[a]? = some p → j < paN p → (pl.flatMap paL)[cntP (pl.take a) + j]? = some [p.f + (j : Nat), p.x j]
 | [], a, p, j, h, _ => by simp at h
 | q :: pl, 0, p, j, h, hj => by
  simp at h; subst h;rw [List.flatMap_cons, List.getElem?_append_left (by simp [cntP, paL_len]; exact hj)];simp [paL, cntP, hj]
 | q :: pl, a + 1, p, j, h, hj => by
  have := itf_at pl a p j (by simpa using h) hj;rw [List.flatMap_cons, List.getElem?_append_right (by simp [cntP, paL_len]; omega)];rw [← this]; congr 1;simp [cntP, paL_len]; omega
set_option maxRecDepth 100000 in
theorem it_is : ItOk Prog itS := by
 intro v H L hL w0 μ w v' hH hV;unfold itS itAll at hL;split at hL;rotate_left
 ·cases hL
 rename_i f xs ys;cases hb : (Nat.beq f 80 && Nat.beq xs.size 0) with
 | false => rw [hb] at hL; cases hL
 | true =>
  rw [hb] at hL;obtain ⟨hb1, hb2⟩ := Bool.and_eq_true_iff.1 hb;have hb1 := Nat.eq_of_beq_eq_true hb1;have hb2 := Nat.eq_of_beq_eq_true hb2;subst hb1;simp only [cond_true] at hL;split at hL;rotate_left
  ·cases hL
  rename_i b hys;split at hL;rotate_left
  ·cases hL
  rename_i n0 p0 g0 ts ty0 ez ro hblk;split at hL;rotate_left
  ·cases hL
  rename_i t0 n p1 g1 ps ty1 hts;split at hL;rotate_left
  ·cases hL
  rename_i hn;cases hV with
  | func _ _ xs' _ ys' h1 h2 h3 h4 =>
   have hx' : xs' = #[] := by apply Array.eq_empty_of_size_eq_zero; omega
   subst hx';obtain ⟨y', r', hy', hyr, hr'⟩ := VRs.cons_inv (by rw [← hys]; exact VRs.of_arr h3 h4);have := hr'.nil_inv; subst this;have hye : ys' = #[y'] := by apply Array.toList_inj.1; rw [hy']
   subst hye;cases hyr with
   | ptr _ _ m hm =>
    obtain ⟨v1, hc1, hr1, _⟩ := hH.cell hblk hm (off := 0) rfl;cases hr1 with
    | box _ _ _ _ _ tb toff tcs tel tfz hz hl h0 hx =>
     have htl : ts.size = 2 := by rw [← Array.length_toList, hts]; rfl
     obtain ⟨v2, hv2⟩ : ∃ v2, tcs[toff + 1]? = some v2 := ⟨_, Array.getElem?_eq_getElem (by omega)⟩
     have hr2 := hx 1 _ _ (by rw [← Array.getElem?_toList, hts]; rfl) hv2
     have key : ∃ (pl : List Pa) (pa : Option Addr) (pcap : Nat), L = pl.flatMap paL ∧ (∀ p, p ∈ pl → 0 ≤ p.f ∧ p.l < 4294967296 ∧ p.m < 2 ^ 60 ∧ (p.f ≤ p.l → 0 < p.m)) ∧ pl.length = n ∧ v2 = .slice pa pl.length pcap ∧
       (pl ≠ [] → ∃ pb poff pcs pel pfz, pa = some ⟨pb, poff, none⟩ ∧ μ.z pb = some (.cells pcs pel pfz) ∧ ∀ (a : Nat) p, pl[a]? = some p → PaZ μ.z pcs (poff + a * 3) p) := by
      cases hr2 with
      | list _ _ _ _ _ pb poff pcap pcs pel pfz hz2 hl2 hc2 hg2 h02 hx2 =>
       obtain ⟨pl, e1, e2, e3, e4⟩ := it_parts_of (μ := μ) (cs := pcs) n ps.toList L poff hL (by simpa using hl2) fun i v v' hi hi' => hx2 i v v' (by rw [← Array.getElem?_toList]; exact hi) hi';exact ⟨pl, _, pcap, e4, e2, e1, by rw [e1], fun _ => ⟨pb, poff, pcs, pel, pfz, rfl, hz2, e3⟩⟩
      | empty _ _ _ _ x pcap hn2 hs2 =>
       generalize ps.toList = psl at hL;cases psl with
       | nil =>
        unfold partsE at hL; injection hL with hL; subst hL;exact ⟨[], x, pcap, rfl, fun p hp => (nomatch hp), rfl, rfl, fun h => (h rfl).elim⟩
       | cons a r => unfold partsE at hL; cases hL
     obtain ⟨pl, pa, pcap, rfl, hok, hlen, rfl, hpa⟩ := key;refine ⟨80, #[.pointer (some ⟨m.blk, m.base + 0, none⟩)], rfl, ⟨Try.f80, Try.func80, rfl, by decide⟩, fun l0 J Jx Jp hal htn hfz hY h0J => ?_⟩;have := it_all_in μ.z l0 J Jx Jp pl hal htn hfz (fun a p j T W hp hj hJ => hY _ T W _ hJ (itf_at pl a p j hp hj)) hok w h0J m.blk (m.base + 0) tb toff hc1 tcs tel tfz hz pa pcap hv2 (by rw [hlen]; exact hn) hpa;rw [itf_len];exact callsIn_wide.1 this
end Go.Sw
end
section
namespace Go.Sw
open Go.RowKit
theorem setCells_row (g : Nat) (el : TypeId) (fz : Nat × Nat) : ∀ (vs : List Value) (o : Nat) (cs : Array Value) (w : World), w.heap[g]? = some (.cells cs el fz) → o + vs.length ≤ cs.size → w.setCells g o vs = w.setRow g (splice cs.toList o vs).toArray
 | [], o, cs, w, hg, _ => by
  rw [World.setCells];unfold splice;simp only [List.length_nil, Nat.add_zero, List.nil_append, List.take_append_drop, Array.toArray_toList];exact (setRow_self w g cs el fz hg).symm
 | v :: r, o, cs, w, hg, hl => by
  rw [World.setCells, setCell_eq_setRow w g o cs el fz v hg, setCells_row g el fz r (o + 1) (cs.setIfInBounds o v) _ (setRow_heap w g cs _ el fz hg) (by simp at hl ⊢; omega), setRow_setRow];congr 2;have e := list_seg_step cs.toList o v r (by simp at hl ⊢; omega);unfold splice;simpa [Array.toList_setIfInBounds, Nat.add_assoc, Nat.add_comm 1] using e
theorem splice_two (l a b : List Value) (o : Nat) (h : o + a.length + b.length ≤ l.length) : splice (splice l (o + a.length) b) o a = splice l o (a ++ b) := by
 apply List.ext_getElem?;intro j;have h1 : (splice l (o + a.length) b).length = l.length := splice_length _ _ _ (by omega);rw [splice_get _ _ _ (by rw [h1]; omega), splice_get _ _ _ (by omega), splice_get _ _ _ (by rw [List.length_append]; omega)];rw [List.length_append];by_cases c0 : j < o
 ·have c1 : j < o + a.length := by omega
  simp only [if_pos c0, if_pos c1]
 ·simp only [if_neg c0];by_cases c1 : j < o + a.length
  ·have c3 : j < o + (a.length + b.length) := by omega
   simp only [if_pos c1, if_pos c3];rw [List.getElem?_append_left (by omega)]
  ·simp only [if_neg c1];by_cases c2 : j < o + a.length + b.length
   ·have c3 : j < o + (a.length + b.length) := by omega
    simp only [if_pos c2, if_pos c3];rw [List.getElem?_append_right (by omega), show j - o - a.length = j - (o + a.length) by omega]
   ·have c3 : ¬ j < o + (a.length + b.length) := by omega
    simp only [if_neg c2, if_neg c3]
theorem VRs.cut {μ : Mu} {k : List Value} {cs : Array Value} {base off N : Nat} (h4 : ∀ (i : Nat) v, k[i]? = some v → ∃ v', cs[base + i]? = some v' ∧ VR μ v v') (hk : off + N ≤ k.length) :
  VRs μ ((k.drop off).take N) ((cs.toList.drop (base + off)).take N) := by
 have hcs : ∀ i, i < N → base + off + i < cs.size := fun i hi => by
  obtain ⟨v', e, _⟩ := h4 (off + i) _ (List.getElem?_eq_getElem (by omega));have := (Array.getElem?_eq_some_iff.1 e).1;omega
 refine ⟨?_, fun i v v' hv hv' => ?_⟩
 ·rw [List.length_take, List.length_take, List.length_drop, List.length_drop, Array.length_toList (xs := cs)];by_cases h0 : N = 0
  ·subst h0; simp
  ·have := hcs (N - 1) (by omega);have e1 : N ≤ k.length - off := by omega
   have e2 : N ≤ cs.size - (base + off) := by omega
   rw [Nat.min_eq_left e1, Nat.min_eq_left e2]
 ·rw [List.getElem?_take] at hv hv';split at hv
  ·rename_i hi;rw [if_pos hi, List.getElem?_drop] at hv';rw [List.getElem?_drop] at hv;obtain ⟨u, e, r⟩ := h4 _ v hv;rw [← Nat.add_assoc] at e;simp only [Array.getElem?_toList] at hv';rw [e] at hv';injection hv' with hv';subst hv';exact r
  ·cases hv
structure InsWalk (P : Program) (f : FuncId) (tS e : TypeId) (sz : Nat) (z : Value) : Prop where
 fn : ∃ fn, P.funcs[f]? = some fn ∧ fn.body.isSome = true ∧ (fn.name == "runtime.NumGoroutine") = false
 none_ : ∀ (base : Option Addr) (n c i : Nat) (vb : Option Addr) (vc : Nat) (w : World), i ≤ n → n ≤ c → (base = none → n = 0 ∧ c = 0) → Calls P f #[.slice base n c, .int .i64 (i : Nat), .slice vb 0 vc] w fun e w' => e = .returned (.slice base n c) ∧ w' = w
 end_ : ∀ (base : Option Addr) (n c : Nat) (vb : Option Addr) (m vc : Nat) (w : World) (v' : Value) (w1 : World), n ≤ c → (base = none → n = 0 ∧ c = 0) → 0 < m → (Builtin.append_ #[tS, tS] tS #[.slice base n c, .slice vb m vc]).run P w = .ok v' w1 →
  Calls P f #[.slice base n c, .int .i64 (n : Nat), .slice vb m vc] w fun e w' => e = .returned v' ∧ w' = w1
 shift : ∀ (b off n c i vb voff m vc : Nat) (CS VS : Array Value) (el el2 : TypeId) (cs vs : List Value) (w : World), i < n → 0 < m → n + m ≤ c → n + m ≤ 2 ^ 31 → vb ≠ b → w.heap[b]? = some (.cells CS el (0, 0)) → w.heap[vb]? = some (.cells VS el2 (0, 0)) → off + c * sz ≤ CS.size → voff + m * sz ≤ VS.size →
  cs = (CS.toList.drop off).take (n * sz) → vs = (VS.toList.drop voff).take (m * sz) → Ones cs → Ones vs →
  Calls P f #[.slice (some ⟨b, off, none⟩) n c, .int .i64 (i : Nat), .slice (some ⟨vb, voff, none⟩) m vc] w fun e w' => e = .returned (.slice (some ⟨b, off, none⟩) (n + m) c) ∧ w' = (w.drew.setCells b (off + (i + m) * sz) (cs.drop (i * sz))).setCells b (off + i * sz) vs
 grow : ∀ (b off n c i vb voff m vc : Nat) (CS VS : Array Value) (el el2 : TypeId) (cs vs : List Value) (w : World), i < n → 0 < m → n ≤ c → c < n + m → n + m ≤ 2 ^ 31 → w.heap[b]? = some (.cells CS el (0, 0)) → w.heap[vb]? = some (.cells VS el2 (0, 0)) → off + n * sz ≤ CS.size → voff + m * sz ≤ VS.size →
  cs = (CS.toList.drop off).take (n * sz) → vs = (VS.toList.drop voff).take (m * sz) → Ones cs → Ones vs →
  ∃ G, n + m ≤ G ∧ Calls P f #[.slice (some ⟨b, off, none⟩) n c, .int .i64 (i : Nat), .slice (some ⟨vb, voff, none⟩) m vc] w fun r w' => r = .returned (.slice (some ⟨w.heap.size, 0, none⟩) (n + m) G) ∧
   w' = (((w.alloc (.cells ((cs.take (i * sz)).toArray ++ Builtin.zeroCells z.cells (n + m - i) ++ Builtin.zeroCells z.cells (G - (n + m))) e)).drew.setCells w.heap.size (i * sz) vs).drew).setCells w.heap.size ((i + m) * sz) (cs.drop (i * sz))
theorem lenL_slice {μ : Mu} {v v' : Value} {n : Nat} (h : VR μ v v') (hl : lenL v = some n) : ∃ a c, v' = .slice a n c := by
 unfold lenL at hl;split at hl
 ·injection hl with hl; subst hl;cases h <;> exact ⟨_, _, rfl⟩
 ·injection hl with hl; subst hl;cases h <;> exact ⟨_, _, rfl⟩
 ·cases hl
theorem slice_shape {μ : Mu} {base : Option Addr} {n c : Nat} {s' : Value} (h : VR μ (.slice base n c) s') : ∃ base' c', s' = .slice base' n c' ∧ n ≤ c' ∧ (base' = none → n = 0 ∧ c' = 0) := by
 cases h with
 | nilSlice => exact ⟨_, _, rfl, Nat.le_refl _, fun _ => ⟨rfl, rfl⟩⟩
 | slice b off off' len cap cap' m h hl hc ho hx => exact ⟨_, _, rfl, Nat.le_trans hl hc, fun h => by cases h⟩
 | unsure a => exact ⟨_, _, rfl, Nat.le_refl _, fun _ => ⟨rfl, rfl⟩⟩
 | bare a => exact ⟨_, _, rfl, Nat.le_refl _, fun h => by cases h⟩
theorem heap_setRow_new (w : World) (A B : Array Value) (e : TypeId) : ((w.alloc (.cells A e)).setRow w.heap.size B).heap = (w.alloc (.cells B e)).heap := by
 have h1 : (w.alloc (.cells A e)).heap[w.heap.size]? = some (.cells A e (0, 0)) := heap_alloc_new' _ _;apply Array.ext_getElem?;intro j;by_cases hj : j = w.heap.size
 ·subst hj;rw [setRow_heap _ _ _ _ _ _ h1, heap_alloc_new']
 ·rw [setRow_other _ _ _ _ hj];show (w.heap.push _)[j]? = (w.heap.push _)[j]?;rw [Array.getElem?_push, Array.getElem?_push, if_neg hj, if_neg hj]
set_option maxHeartbeats 1000000 in
theorem insert_of {P : Program} {f : FuncId} {tS e : TypeId} {inf : TypeInfo} {z : Value} {sz bytes : Nat} (ht : P.underlying tS = some (.slice e)) (hi : P.info? e = some inf) (hz : inf.zero = some z) (hzs : z.cells.size = inf.size) (es : inf.size = sz) (eb : inf.bytes = bytes) (h0 : 0 < sz)
  (hW : InsWalk P f tS e sz z) : SpIs P f fun _ args H => insertV sz bytes args H := by
 subst es eb;intro call _ args H hne;refine ⟨hW.fn, fun w0 μ w args' hH hargs => ?_⟩;dsimp only at hne ⊢;unfold insertV at hne ⊢;split at hne;rotate_left
 ·exact absurd rfl hne
 rename_i base n cap i v;obtain ⟨s', r1, rfl, hs, ha⟩ := hargs.cons_inv;obtain ⟨i', r2, rfl, hi', ha⟩ := ha.cons_inv;obtain ⟨v', r3, rfl, hv, ha⟩ := ha.cons_inv;have := ha.nil_inv;subst this;cases hi';obtain ⟨base', cap', rfl, hnc, hnil⟩ := slice_shape hs;cases hl : lenL v with
 | none => rw [hl] at hne; exact absurd rfl hne
 | some q =>
 rw [hl] at hne;obtain ⟨vb', vc', rfl⟩ := lenL_slice hv hl;cases q with
 | zero =>
  dsimp only at hne ⊢;split at hne;rotate_left
  ·exact absurd rfl hne
  rename_i hin;rw [if_pos hin];obtain ⟨p, rfl⟩ := Int.eq_ofNat_of_zero_le hin.1;refine (hW.none_ base' n cap' p vb' vc' w (by omega) hnc hnil).mono ?_;rintro _ _ ⟨rfl, rfl⟩;exact ⟨μ, _, Mu.le_refl _, hH, hs, rfl⟩
 | succ q =>
  dsimp only at hne ⊢;split at hne
  ·rename_i hin;rw [if_pos hin];subst hin;unfold apR at hne ⊢;dsimp only at hne ⊢;rw [lenL_lenV hl] at hne ⊢;dsimp only at hne ⊢;cases hr : appendK inf.size inf.bytes inf.size (q + 1) base n cap v H with
   | stuck => rw [hr] at hne; exact absurd rfl hne
   | panic u H' =>
    exfalso;revert hr;unfold appendK
    repeat' split
    all_goals (intro h; cases h)
   | ok u H' =>
    obtain ⟨μ', u', w1, e1, e2, e3, e4⟩ := appendK_sim (ty := tS) hH ht (.inl ⟨e, ht⟩) hi hz hs hv (lenL_lenV hl) (by rw [hzs]; exact hr);refine (hW.end_ base' n cap' vb' (q + 1) vc' w u' w1 hnc hnil (by omega) e1).mono ?_;rintro _ _ ⟨rfl, rfl⟩;exact ⟨μ', u', e2, e3, e4, rfl⟩
  ·rename_i hin;rw [if_neg hin];split at hne;rotate_left
   ·exact absurd rfl hne
   rename_i b off c voff m vcap _;split at hne;rotate_left
   ·exact absurd rfl hne
   rename_i k kc hk hkc;split at hne;rotate_left
   ·exact absurd rfl hne
   rename_i hcond;rw [if_pos hcond];obtain ⟨c1, c2, c3, c4, c5, c6, c7, c8, c9, c10, c11⟩ := hcond;obtain ⟨p, rfl⟩ := Int.eq_ofNat_of_zero_le c1;have hpn : p < n := by omega
   cases hs with
   | slice _ _ off' _ _ cap' M hM hl1 hc1 ho1 hx1 =>
   cases hv with
   | slice _ _ voff' _ _ vcap' Mc hMc hl2 hc2 ho2 hx2 =>
   have hm0 : 0 < q + 1 := by omega
   generalize q + 1 = m at *;have ho1 := ho1.resolve_left (by omega);have ho2 := ho2.resolve_left (by omega);subst ho1 ho2;obtain ⟨M', hM', bM⟩ := hH.blk b k hk;rw [hM] at hM'; injection hM' with hM'; subst hM';obtain ⟨Mc', hMc', bMc⟩ := hH.blk c kc hkc;rw [hMc] at hMc'; injection hMc' with hMc'; subst hMc';obtain ⟨CS, el, fz, g1, g2, g3, g4⟩ := bM.here;obtain ⟨VS, el2, fz2, f1, f2, f3, f4⟩ := bMc.here;have g2 := g2 c6;have f2 := f2 c10;subst g2 f2;have hesz : M.esz = inf.size := bM.esz.trans c7;have hext := bM.ext;have hext2 := bMc.ext;have hroomx : off + cap' * inf.size ≤ M.ext := by
    rcases hx1 with h | h | h
    ·rw [h]; omega
    ·rw [bM.ro, c6] at h; cases h
    ·rw [hesz] at h; exact h
   have hne2 : Mc.blk ≠ M.blk := hH.other hk hkc hM hMc c6 c9;have hnsz : n * inf.size ≤ cap * inf.size := Nat.mul_le_mul_right _ c3;have hps : p * inf.size ≤ n * inf.size := Nat.mul_le_mul_right _ (by omega);have kcut := VRs.cut (N := n * inf.size) (off := off) (base := M.base) g4 (by omega);have vcut := VRs.cut (N := m * inf.size) (off := voff) (base := Mc.base) f4 (by omega);have ko : Ones ((k.cells.drop off).take (n * inf.size)) := (bM.ones.drop _).take _;have vo : Ones ((kc.cells.drop voff).take (m * inf.size)) := (bMc.ones.drop _).take _;have ko' := kcut.ones ko;have vo' := vcut.ones vo;have kl : ((k.cells.drop off).take (n * inf.size)).length = n * inf.size := by rw [List.length_take, List.length_drop]; omega
   have vl : ((kc.cells.drop voff).take (m * inf.size)).length = m * inf.size := by rw [List.length_take, List.length_drop]; omega
   have kl' := kcut.1.symm.trans kl;have vl' := vcut.1.symm.trans vl;obtain ⟨cs, hcs⟩ : ∃ cs, cs = (CS.toList.drop (M.base + off)).take (n * inf.size) := ⟨_, rfl⟩
   obtain ⟨vs, hvs⟩ : ∃ vs, vs = (VS.toList.drop (Mc.base + voff)).take (m * inf.size) := ⟨_, rfl⟩
   rw [← hcs] at kcut ko' kl';rw [← hvs] at vcut vo' vl';have hd : HR w0 μ H w.drew := hH.drew rfl rfl rfl rfl;have e1 : (n + m) * inf.size = n * inf.size + m * inf.size := Nat.add_mul _ _ _;have e2 : (p + m) * inf.size = p * inf.size + m * inf.size := Nat.add_mul _ _ _;have hdl : (cs.drop (p * inf.size)).length = n * inf.size - p * inf.size := by rw [List.length_drop, kl']
   by_cases hroom : n + m ≤ cap'
   ·-- in place
    have hnm : (n + m) * inf.size ≤ cap' * inf.size := Nat.mul_le_mul_right _ hroom;refine (hW.shift M.blk (M.base + off) n cap' p Mc.blk (Mc.base + voff) m vc' CS VS el el2 cs vs w hpn (by omega) hroom c4 hne2 g1 f1 (by omega) (by omega) hcs hvs ko' vo').mono ?_;rintro _ _ ⟨rfl, rfl⟩;have hsr : (w.drew.setCells M.blk (M.base + off + (p + m) * inf.size) (cs.drop (p * inf.size))).setCells M.blk (M.base + off + p * inf.size) vs = w.drew.setRow M.blk (splice CS.toList (M.base + off + p * inf.size) (vs ++ cs.drop (p * inf.size))).toArray := by
     rw [setCells_row M.blk el (0, 0) _ _ CS w.drew g1 (by omega)];have hsl : (splice CS.toList (M.base + off + (p + m) * inf.size) (cs.drop (p * inf.size))).length = CS.size := by rw [splice_length _ _ _ (by rw [Array.length_toList (xs := CS)]; omega)]; simp
     rw [setCells_row M.blk el (0, 0) _ _ _ _ (setRow_heap w.drew M.blk CS _ el (0, 0) g1) (by rw [List.size_toArray, hsl]; omega), setRow_setRow];congr 2;rw [List.toList_toArray, ← splice_two CS.toList vs (cs.drop (p * inf.size)) (M.base + off + p * inf.size) (by rw [Array.length_toList (xs := CS)]; omega), vl', e2, Nat.add_assoc (M.base + off)]
    rw [hsr];obtain ⟨i1, i2⟩ := inplace_sim (size := inf.size) (off := off) (p := p * inf.size) hd hk hM c6 c7 g1 (by omega) (vcut.append (kcut.drop (p * inf.size))) (vo.append (ko.drop _)) (by rw [List.length_append, hdl, vl']; omega) g3;refine ⟨_, _, i1, ?_, ?_, rfl⟩
    ·rw [Int.toNat_natCast, List.take_take, Nat.min_eq_left hps];exact i2
    ·have := VR.slice (μ := μ.set H.n ⟨M.blk, M.base + off, M.ext - off, inf.size, false⟩) H.n 0 (M.base + off) (n + m) (n + m) cap' ⟨M.blk, M.base + off, M.ext - off, inf.size, false⟩ (by simp [Mu.set]) (Nat.le_refl _) hroom (.inr rfl) (.inr (.inr (by dsimp only; omega)));exact this
   ·obtain ⟨G, hG, hcall⟩ := hW.grow M.blk (M.base + off) n cap' p Mc.blk (Mc.base + voff) m vc' CS VS el el2 cs vs w hpn (by omega) hnc (by omega) c4 g1 f1 (by omega) (by omega) hcs hvs ko' vo';refine hcall.mono ?_;rintro _ _ ⟨rfl, rfl⟩;have hGs : (n + m) * inf.size ≤ G * inf.size := Nat.mul_le_mul_right _ hG;obtain ⟨ROW, hROW⟩ : ∃ ROW : Array Value, ROW = (cs.take (p * inf.size)).toArray ++ Builtin.zeroCells z.cells (n + m - p) ++ Builtin.zeroCells z.cells (G - (n + m)) := ⟨_, rfl⟩
    have hRl : ROW.size = G * inf.size := by
     rw [hROW];simp only [Array.size_append, List.size_toArray, size_zeroCells, hzs, Nat.sub_mul, Nat.add_mul, List.length_take, kl'];omega
    rw [← hROW];obtain ⟨FIN, hFIN⟩ : ∃ FIN : List Value, FIN = splice (splice ROW.toList (p * inf.size) vs) ((p + m) * inf.size) (cs.drop (p * inf.size)) := ⟨_, rfl⟩
    have hs1 : (splice ROW.toList (p * inf.size) vs).length = ROW.size := by rw [splice_length _ _ _ (by rw [Array.length_toList (xs := ROW)]; omega)]; simp
    have hFl : FIN.length = G * inf.size := by rw [hFIN, splice_length _ _ _ (by rw [hs1]; omega), hs1, hRl]
    have hN : (w.alloc (.cells ROW e)).drew.heap[w.heap.size]? = some (.cells ROW e (0, 0)) := heap_alloc_new' _ _;have hw : ((((w.alloc (.cells ROW e)).drew.setCells w.heap.size (p * inf.size) vs).drew).setCells w.heap.size ((p + m) * inf.size) (cs.drop (p * inf.size))) = ((w.alloc (.cells ROW e)).drew.setRow w.heap.size (splice ROW.toList (p * inf.size) vs).toArray).drew.setRow w.heap.size FIN.toArray := by
     rw [setCells_row w.heap.size e (0, 0) _ _ ROW _ hN (by omega)];have hN2 : ((w.alloc (.cells ROW e)).drew.setRow w.heap.size (splice ROW.toList (p * inf.size) vs).toArray).drew.heap[w.heap.size]? = some (.cells (splice ROW.toList (p * inf.size) vs).toArray e (0, 0)) := setRow_heap _ _ _ _ _ _ hN;rw [setCells_row w.heap.size e (0, 0) _ _ _ _ hN2 (by rw [List.size_toArray, hs1]; omega), hFIN]
    rw [hw];have hheap : (((w.alloc (.cells ROW e)).drew.setRow w.heap.size (splice ROW.toList (p * inf.size) vs).toArray).drew.setRow w.heap.size FIN.toArray).heap = (w.alloc (.cells FIN.toArray e)).heap := by
     have h1 : (((w.alloc (.cells ROW e)).drew.setRow w.heap.size (splice ROW.toList (p * inf.size) vs).toArray).drew.setRow w.heap.size FIN.toArray).heap = (((w.alloc (.cells ROW e)).setRow w.heap.size (splice ROW.toList (p * inf.size) vs).toArray).setRow w.heap.size FIN.toArray).heap := rfl;rw [h1, setRow_setRow];exact heap_setRow_new _ _ _ _
    have hkill := hH.kill hk;have hnew := kcut.take (p * inf.size);have hall : VRs μ (((k.cells.drop off).take (n * inf.size)).take (p * inf.size) ++ ((kc.cells.drop voff).take (m * inf.size) ++ ((k.cells.drop off).take (n * inf.size)).drop (p * inf.size))) (cs.take (p * inf.size) ++ (vs ++ cs.drop (p * inf.size))) := hnew.append (vcut.append (kcut.drop _))
    have hal := hkill.alloc (((k.cells.drop off).take (n * inf.size)).take (p * inf.size) ++ ((kc.cells.drop voff).take (m * inf.size) ++ ((k.cells.drop off).take (n * inf.size)).drop (p * inf.size))) FIN.toArray e inf.size (G * inf.size) (by rw [List.size_toArray, hFl]; exact Nat.le_refl _)
     (by
      simp only [List.length_append, List.length_take, List.length_drop];omega)
     ((ko.take _).append (vo.append (ko.drop _)))
     (fun j u hj => by
      obtain ⟨u', e', r⟩ := hall.get hj;refine ⟨u', ?_, r⟩;have hjl : j < (cs.take (p * inf.size) ++ (vs ++ cs.drop (p * inf.size))).length := (List.getElem?_eq_some_iff.1 e').1;simp only [List.length_append, List.length_take, kl', hdl, vl'] at hjl;have htl : (cs.take (p * inf.size)).length = p * inf.size := by rw [List.length_take, kl']; omega
      rw [List.getElem?_toArray, hFIN, splice_get _ _ _ (by rw [hs1]; omega), splice_get ROW.toList (p * inf.size) vs (by rw [Array.length_toList (xs := ROW)]; omega)];by_cases d1 : j < p * inf.size
      ·rw [List.getElem?_append_left (by omega)] at e';rw [if_pos (show j < (p + m) * inf.size by omega), if_pos d1, hROW];simp only [Array.getElem?_toList];rw [Array.append_assoc, Array.getElem?_append_left (by simp only [List.size_toArray]; omega)];simpa using e'
      ·rw [List.getElem?_append_right (by omega), htl] at e';by_cases d2 : j < (p + m) * inf.size
       ·rw [List.getElem?_append_left (by omega)] at e';rw [if_pos d2, if_neg d1, if_pos (by omega)];exact e'
       ·rw [List.getElem?_append_right (by omega), vl'] at e';rw [if_neg d2, if_pos (by omega), show j - (p + m) * inf.size = j - p * inf.size - m * inf.size by omega];exact e')
    have hn : (H.set b none).n = H.n := Heap.n_set _ _ _;rw [hn] at hal;refine ⟨μ.set H.n ⟨w.heap.size, 0, G * inf.size, inf.size, false⟩, _, Mu.le_set (μ := μ) hH.dom _, ?_, ?_, rfl⟩
    ·rw [Int.toNat_natCast];exact hal.drew hheap rfl rfl rfl
    ·exact VR.slice H.n 0 0 (n + m) (n + m) G ⟨w.heap.size, 0, G * inf.size, inf.size, false⟩ (by simp [Mu.set]) (Nat.le_refl _) hG (.inr rfl) (.inr (.inr (by dsimp only; omega)))
end Go.Sw
end
section
namespace Go.Sw
open Go.RowKit
theorem splice_nil (l : List Value) (o : Nat) : splice l o [] = l := by unfold splice; simp
theorem trim_sim {w0 : Base} {μ : Mu} {H : Heap} {w : World} (h : HR w0 μ H w) {b off n cap size : Nat} {k : Blk} {v' : Value} (hv : VR μ (.slice (some ⟨b, off, none⟩) n cap) v') (hk : H.get b = some k) (hro : k.ro = false) (hesz : k.esz = size) (h1 : n ≤ cap) (h2 : off + cap * size ≤ k.cells.length)
  (hset : ∀ (g : Nat) (cs : Array Value) (el : TypeId), w.heap[g]? = some (.cells cs el (0, 0)) → w.setRow g cs = w) :
  ∃ μ', μ.le μ' ∧ HR w0 μ' ((H.set b none).push ⟨(k.cells.drop off).take (n * size) ++ [], size, false⟩) w ∧ VR μ' (.slice (some ⟨H.n, 0, none⟩) n n) v' := by
 cases hv with
 | slice _ _ off' _ _ cap' M hM hl hc ho hx =>
 obtain ⟨M', hM', bM⟩ := h.blk b k hk;rw [hM] at hM'; injection hM' with hM'; subst hM';obtain ⟨CS, el, fz, g1, g2, g3, g4⟩ := bM.here;have g2 := g2 hro;subst g2;have hext := bM.ext;have hMe := bM.esz;have hMr := bM.ro;have hns : n * size ≤ cap * size := Nat.mul_le_mul_right _ h1;obtain ⟨i1, i2⟩ := inplace_sim (size := size) (off := off) (p := n * size) (new := []) (news := []) h hk hM hro hesz g1 (by omega) VRs.nil Ones.nil (by simp; omega) g3;rw [splice_nil] at i2;rw [show CS.toList.toArray = CS from rfl, hset _ _ _ g1] at i2;refine ⟨_, i1, i2, ?_⟩;refine VR.slice (μ := μ.set H.n ⟨M.blk, M.base + off, M.ext - off, size, false⟩) H.n 0 off' n n cap' ⟨M.blk, M.base + off, M.ext - off, size, false⟩ (by simp [Mu.set]) (Nat.le_refl _) (by omega) (ho.imp id fun h => by dsimp only; omega) ?_;rcases hx with hx | hx | hx
 ·refine .inr (.inr ?_);rw [hx];dsimp only;omega
 ·rw [hMr, hro] at hx; cases hx
 ·refine .inr (.inr ?_);rw [hMe, hesz] at hx;dsimp only;omega
theorem setRow_same (w : World) (g : Nat) (cs : Array Value) (el : TypeId) (h : w.heap[g]? = some (.cells cs el (0, 0))) : w.setRow g cs = w := by
 have hg : g < w.heap.size := by
  rcases Nat.lt_or_ge g w.heap.size with hlt | hge
  ·exact hlt
  ·rw [Array.getElem?_eq_none hge] at h; cases h
 have hh : (w.setRow g cs).heap = w.heap := by
  apply Array.ext_getElem?;intro i;by_cases hi : i = g
  ·subst hi;rw [setRow_heap w i cs cs el (0, 0) h, h]
  ·exact setRow_other w g i cs hi
 have hw : w.setRow g cs = { w with heap := (w.setRow g cs).heap } := rfl;rw [hw, hh]
theorem trim_is {c : Cfg} (hit : ∀ v H, c.it v H = none := by intro _ _; rfl) (hN : NamesOk c.P) (hmix : c.P.follows .mixedOrders = true) {f : FuncId} {size : Nat} : SpIs c.P f fun call args H => (bodyK c call f args H).bind (trimR size) := by
 intro call hc args H hne;have hne1 : bodyK c call f args H ≠ .stuck := Res.bind_ne hne;obtain ⟨b1, b2⟩ := body_is hit hN hmix hc (f := f) (args := args) (H := H) rfl hne1;refine ⟨b1, fun w0 μ w args' hH hargs => (b2 w0 μ w args' hH hargs).mono fun e w' he => ?_⟩;dsimp only at hne ⊢;cases hr : bodyK c call f args H with
 | stuck => exact absurd hr hne1
 | panic v H' => rw [hr] at he; exact he
 | ok v H' =>
  rw [hr] at he hne;obtain ⟨μ', v', l1, h1, h2, rfl⟩ := he;have hne : trimR size v H' ≠ .stuck := hne;show Ended w0 μ (trimR size v H') _ w';unfold trimR at hne ⊢;split at hne
  ·rename_i b off n cap _;split at hne
   ·rename_i k hk;split
    ·rename_i hcond;obtain ⟨c1, c2, c3, c4⟩ := hcond;obtain ⟨μ2, l2, h3, h4⟩ := trim_sim h1 h2 hk c1 c2 c3 c4 (fun g cs el hg => setRow_same _ g cs el hg);exact ⟨μ2, v', Mu.le_trans l1 l2, h3, h4, rfl⟩
    ·rename_i hcond;exact absurd (by split <;> first | rfl | contradiction) hne
   ·exact absurd rfl hne
  ·exact ⟨μ', v', l1, h1, h2, rfl⟩
end Go.Sw
end
section
namespace Go.Sw
open Go.RowKit Go.Proofs Go.Lib
theorem cp_wp {P : Program} {w : World} {o : Oper} {a : Act} {K : Act → World → Prop} {Q : Exit → Act → World → Prop} {d s : Operand} {t t' : TypeId} (ho : o.op = .call { callee := .builtin .copy, args := #[d, s], argTypes := #[t, t'] }) {v u v' : Value} {w' : World} (hd : a.eval d = v) (hs : a.eval s = u)
  (hr : (Builtin.copy_ #[t, t'] o.type #[v, u]).run P w = .ok v' w') (h : K (a.put o.dst v') w') : o.wp P a w K Q := by
 refine wp_value (v := v') (w' := w') ?_ h;simp [execOp, ho, resolve, invoke, builtin, hd, hs, hr, Result.andThen]
theorem cp_list {P : Program} {w : World} {ops : Array Oper} {rest : List Oper} {o : Oper} {a : Act} {Q : Exit → Act → World → Prop} (hgd : o.guard = none) {d s : Operand} {t t' : TypeId} (ho : o.op = .call { callee := .builtin .copy, args := #[d, s], argTypes := #[t, t'] }) {v u v' : Value} {w' : World} (hd : a.eval d = v) (hs : a.eval s = u)
  (hr : (Builtin.copy_ #[t, t'] o.type #[v, u]).run P w = .ok v' w') (h : wpList P ops Q rest (a.put o.dst v') w') : wpList P ops Q (o :: rest) a w :=
 wpList_plain hgd fun _ hK => cp_wp ho hd hs hr (hK _ _ h)
theorem cp_step {P : Program} {ops : Array Oper} {o : Oper} {a : Act} {w : World} {K : Act → World → Prop} {Q : Exit → Act → World → Prop} {E : Prop} (hg : o.guard = none) {d s : Operand} {t t' : TypeId} (ho : o.op = .call { callee := .builtin .copy, args := #[d, s], argTypes := #[t, t'] }) {v u v' : Value} {w' : World} (hd : a.eval d = v) (hs : a.eval s = u)
  (hr : (Builtin.copy_ #[t, t'] o.type #[v, u]).run P w = .ok v' w') (h : K (a.put o.dst v') w') : if Region.wanted o (yielded ops a.tmps) = true then Oper.wp P o a w K Q else E := by
 have hw : Region.wanted o (yielded ops a.tmps) = true := by simp [Region.wanted, hg]
 rw [if_pos hw];exact cp_wp ho hd hs hr h
theorem run_copyN {P : Program} (w : World) (dT sT ty elem : TypeId) (b o dLen dCap : Nat) (a : Addr) (sLen sCap sz : Nat) (cs : List Value)
  (hu : P.underlying dT = some (.slice elem)) (hs : (P.info? elem).map (·.size) = some sz) (hn : cs.length = Nat.min sLen dLen * sz)
  (hsrc : ∀ j v, cs[j]? = some v → w.cell? (a.add j) = some v) (hc : ∀ j, j < cs.length → (w.cell? ⟨b, o + j, none⟩).isSome = true) (hf : ∀ j, j < cs.length → w.frozen? ⟨b, o + j, none⟩ = false) (h1 : ∀ v ∈ cs, v.oneCell' = true) :
  (Builtin.copy_ #[dT, sT] ty #[.slice (some ⟨b, o, none⟩) dLen dCap, .slice (some a) sLen sCap]).run P w = .ok (goInt (Nat.min sLen dLen)) (w.setCells b o cs) := by
 have hl := run_loadCells_list (P := P) w a cs hsrc;have hst := run_storeCells_cells (P := P) b o cs 0 w (by simpa using hc) (by simpa using hf) h1;cases hq : P.info? elem with
 | none => simp [hq] at hs
 | some i =>
  have hi : i.size = sz := by simpa [hq] using hs
  rw [hn] at hl;simp [Builtin.copy_, run_underlying hu, Builtin.lenOf, Builtin.firstCells, sizeOf, typeInfo, hq, hi, hl, hst]
theorem insT : Prog.underlying 22 = some (.slice 57) := by kernel_rfl
theorem insZ : (Prog.info? 57).map (·.size) = some 2 := by kernel_rfl
theorem insI : (Prog.info? 57).map (fun i => (i.zero, i.size, i.bytes)) = some (some (.agg #[.int .i64 0, .int .i64 0]), 2, 16) := by kernel_rfl
set_option maxRecDepth 100000 in
set_option maxHeartbeats 4000000 in
theorem ins_none (base : Option Addr) (n c i : Nat) (vb : Option Addr) (vc : Nat) (w : World) (hi : i ≤ n) (hn : n ≤ c) (hb : base = none → n = 0 ∧ c = 0) :
  Calls Prog 75 #[.slice base n c, .int .i64 (i : Nat), .slice vb 0 vc] w fun e w' => e = .returned (.slice base n c) ∧ w' = w := by
 go_enter Try.func75, Try.ntmps75
 cases base with
 | none =>
  obtain ⟨rfl, rfl⟩ := hb rfl;obtain rfl : i = 0 := by omega
  go_wp2
  go_ret
  exact ⟨rfl, rfl⟩
 | some a =>
  obtain ⟨ab, ao, asp⟩ := a
  go_wp2
  all_goals (go_ret; exact ⟨rfl, rfl⟩)
set_option maxRecDepth 100000 in
set_option maxHeartbeats 4000000 in
theorem ins_end (base : Option Addr) (n c : Nat) (vb : Option Addr) (m vc : Nat) (w : World) (v' : Value) (w1 : World) (hn : n ≤ c) (hb : base = none → n = 0 ∧ c = 0) (hm : 0 < m) (hr : (Builtin.append_ #[22, 22] 22 #[.slice base n c, .slice vb m vc]).run Prog w = .ok v' w1) :
  Calls Prog 75 #[.slice base n c, .int .i64 (n : Nat), .slice vb m vc] w fun e w' => e = .returned v' ∧ w' = w1 := by
 have hz1 : ¬ ((m : Int) = 0) := by omega
 go_enter Try.func75, Try.ntmps75
 cases base with
 | none =>
  obtain ⟨rfl, rfl⟩ := hb rfl
  go_wp2_with (at_builtin; refine Lib.wpList_append_run _ rfl _ _ _ _ rfl _ _ rfl rfl _ _ hr ?_)
  go_ret
  exact ⟨rfl, rfl⟩
 | some a =>
  obtain ⟨ab, ao, asp⟩ := a
  go_wp2_with (at_builtin; refine Lib.wpList_append_run _ rfl _ _ _ _ rfl _ _ rfl rfl _ _ hr ?_)
  all_goals (go_ret; exact ⟨rfl, rfl⟩)
set_option maxRecDepth 100000 in
set_option maxHeartbeats 4000000 in
theorem ins_shift (b off n c i vb voff m vc : Nat) (CS VS : Array Value) (el el2 : TypeId) (cs vs : List Value) (w : World) (hi : i < n) (hm : 0 < m) (hroom : n + m ≤ c) (h31 : n + m ≤ 2 ^ 31) (hvb : vb ≠ b) (g1 : w.heap[b]? = some (.cells CS el (0, 0))) (g2 : w.heap[vb]? = some (.cells VS el2 (0, 0))) (f1 : off + c * 2 ≤ CS.size) (f2 : voff + m * 2 ≤ VS.size)
  (hcs : cs = (CS.toList.drop off).take (n * 2)) (hvs : vs = (VS.toList.drop voff).take (m * 2)) (h1c : Ones cs) (h1v : Ones vs) :
  Calls Prog 75 #[.slice (some ⟨b, off, none⟩) n c, .int .i64 (i : Nat), .slice (some ⟨vb, voff, none⟩) m vc] w fun e w' => e = .returned (.slice (some ⟨b, off, none⟩) (n + m) c) ∧ w' = (w.drew.setCells b (off + (i + m) * 2) (cs.drop (i * 2))).setCells b (off + i * 2) vs := by
 have hz1 : ¬ ((m : Int) = 0) := by omega
 have hz2 : ¬ ((i : Int) = (n : Int)) := by omega
 have hz3 : ¬ (c : Int) < (n : Int) + (m : Int) := by omega
 have hcl : cs.length = n * 2 := by rw [hcs, List.length_take, List.length_drop, Array.length_toList]; omega
 have hvl : vs.length = m * 2 := by rw [hvs, List.length_take, List.length_drop, Array.length_toList]; omega
 have cellB : ∀ j, w.cell? ⟨b, j, none⟩ = CS[j]? := fun j => by simp [World.cell?, g1]
 have cellV : ∀ j, w.cell? ⟨vb, j, none⟩ = VS[j]? := fun j => by simp [World.cell?, g2]
 have frB : ∀ j, w.frozen? ⟨b, j, none⟩ = false := fun j => by simp [World.frozen?, g1]
 have frV : ∀ j, w.frozen? ⟨vb, j, none⟩ = false := fun j => by simp [World.frozen?, g2]
 have atB : ∀ j v, cs[j]? = some v → w.cell? ⟨b, off + j, none⟩ = some v := fun j v hj => by
  rw [cellB];rw [hcs, List.getElem?_take] at hj;split at hj
  ·rw [List.getElem?_drop] at hj;simpa using hj
  ·cases hj
 have atV : ∀ j v, vs[j]? = some v → w.cell? ⟨vb, voff + j, none⟩ = some v := fun j v hj => by
  rw [cellV];rw [hvs, List.getElem?_take] at hj;split at hj
  ·rw [List.getElem?_drop] at hj;simpa using hj
  ·cases hj
 have hsa : w.shape? vb = some (el2, VS.size) := by simp [World.shape?, g2]
 have hsb : w.shape? b = some (el, CS.size) := by simp [World.shape?, g1]
 have hov : ∀ lb cb, (callFunc 148 #[.slice (some ⟨vb, voff, none⟩) m vc, .slice (some ⟨b, off + (i + m) * 2, none⟩) lb cb]).run Prog w = .ok (.value (.bool false)) w := fun lb cb => by
  rw [run_callFunc_extern (f := 148) (fn := Try.f148) Try.func148 (by kernel_rfl) (by kernel_rfl) (by kernel_rfl) (e := Extern.SlicesOverlaps.overlaps #[22, 22] #[4]) (by kernel_rfl),
   Lib.run_overlaps_apart w 22 4 57 insT 2 (fun w => by kernel_rfl) ⟨vb, voff, none⟩ ⟨b, off + (i + m) * 2, none⟩ m vc lb cb hvb el2 el VS.size CS.size hsa hsb (by omega) (frV _) (frV _)]
  rfl
 have hdl : (cs.drop (i * 2)).length = (n - i) * 2 := by rw [List.length_drop, hcl]; omega
 have hw1 : IntKind.i64.wrap ((i : Int) + (m : Int)) = (i : Int) + (m : Int) := by rw [IntKind.wrap_i64]; omega
 have hw2 : IntKind.i64.wrap ((n : Int) + (m : Int)) = (n : Int) + (m : Int) := by rw [IntKind.wrap_i64]; omega
 have hb1 : (0 : Int) ≤ (i : Int) + (m : Int) := by omega
 have hb1' : (0 : Int) ≤ (n : Int) + (m : Int) := by omega
 have hin : i ≤ n := by omega
 have htn : ((i : Int) + (m : Int)).toNat = i + m := by omega
 have htn' : ((n : Int) + (m : Int)).toNat = n + m := by omega
 have hb2 : ¬ (c = i + m) := by omega
 have hb3 : (i : Int) ≤ (n : Int) + (m : Int) := by omega
 have hb4 : ¬ (c = i) := by omega
 have hcp1 : ∀ ty dc sc, (Builtin.copy_ #[22, 22] ty #[.slice (some ⟨b, off + (i + m) * 2, none⟩) (n + m - (i + m)) dc, .slice (some ⟨b, off + i * 2, none⟩) (n + m - i) sc]).run Prog w.drew = .ok (goInt (Nat.min (n + m - i) (n + m - (i + m)))) (w.drew.setCells b (off + (i + m) * 2) (cs.drop (i * 2))) := fun ty dc sc =>
  run_copyN w.drew 22 22 ty 57 b (off + (i + m) * 2) (n + m - (i + m)) dc ⟨b, off + i * 2, none⟩ (n + m - i) sc 2 (cs.drop (i * 2)) insT insZ (by rw [hdl, show Nat.min (n + m - i) (n + m - (i + m)) = n - i by simp only [Nat.min_def]; split <;> omega])
   (fun j v hj => by rw [Addr.add_lit, Nat.add_assoc]; exact atB (i * 2 + j) v (by rwa [List.getElem?_drop] at hj))
   (fun j hj => by
    show (w.cell? _).isSome = true;rw [cellB, Array.getElem?_eq_getElem (by omega)]; rfl) (fun j hj => frB _) (fun v hv => h1c v (List.mem_of_mem_drop hv))
 obtain ⟨W1, hW1⟩ : ∃ W1, W1 = w.drew.setCells b (off + (i + m) * 2) (cs.drop (i * 2)) := ⟨_, rfl⟩
 have hW1r : W1 = w.drew.setRow b (splice CS.toList (off + (i + m) * 2) (cs.drop (i * 2))).toArray := by rw [hW1]; exact setCells_row b el (0, 0) _ _ CS w.drew g1 (by omega)
 have hW1b : W1.heap[b]? = some (.cells (splice CS.toList (off + (i + m) * 2) (cs.drop (i * 2))).toArray el (0, 0)) := by rw [hW1r]; exact setRow_heap _ _ _ _ _ _ g1
 have hspl : (splice CS.toList (off + (i + m) * 2) (cs.drop (i * 2))).length = CS.size := by rw [splice_length _ _ _ (by rw [Array.length_toList (xs := CS)]; omega)]; simp
 have hcp2 : ∀ (W : World), (∀ x, W.cell? x = W1.cell? x) → (∀ x, W.frozen? x = W1.frozen? x) → ∀ ty dc, (Builtin.copy_ #[22, 22] ty #[.slice (some ⟨b, off + i * 2, none⟩) (n + m - i) dc, .slice (some ⟨vb, voff, none⟩) m vc]).run Prog W = .ok (goInt (Nat.min m (n + m - i))) (W.setCells b (off + i * 2) vs) := fun W hWc hWf ty dc =>
  run_copyN W 22 22 ty 57 b (off + i * 2) (n + m - i) dc ⟨vb, voff, none⟩ m vc 2 vs insT insZ (by rw [hvl, show Nat.min m (n + m - i) = m by simp only [Nat.min_def]; split <;> omega])
   (fun j v hj => by
    rw [Addr.add_lit, hWc, hW1, World.cell?_setCells_out b _ _ _ _ (fun h _ => absurd h hvb)];exact atV j v hj)
   (fun j hj => by
    rw [hWc];simp only [World.cell?, hW1b];rw [Array.getElem?_eq_getElem (by rw [List.size_toArray, hspl]; omega)]; rfl) (fun j hj => by rw [hWf]; simp [World.frozen?, hW1b]) h1v
 rw [← hW1] at hcp1;clear hcs hvs
 go_enter Try.func75, Try.ntmps75
 go_wp2_with (simp only [hov])
 go_region_law (refine cp_step rfl rfl (by simp [Act.eval, Act.put]) (by simp [Act.eval, Act.put]) (hcp1 _ _ _) ?_)
 go_wp2_with (at_builtin; refine cp_list rfl rfl rfl rfl (hcp2 _ (fun _ => rfl) (fun _ => rfl) _ _) ?_)
 go_ret
 first | exact ⟨rfl, rfl⟩ | exact ⟨rfl, by rw [hW1]⟩
set_option maxRecDepth 100000 in
set_option maxHeartbeats 4000000 in
theorem ins_grow (b off n c i vb voff m vc : Nat) (CS VS : Array Value) (el el2 : TypeId) (cs vs : List Value) (w : World) (hi : i < n) (hm : 0 < m) (hnc : n ≤ c) (hroom : c < n + m) (h31 : n + m ≤ 2 ^ 31) (g1 : w.heap[b]? = some (.cells CS el (0, 0))) (g2 : w.heap[vb]? = some (.cells VS el2 (0, 0))) (f1 : off + n * 2 ≤ CS.size) (f2 : voff + m * 2 ≤ VS.size)
  (hcs : cs = (CS.toList.drop off).take (n * 2)) (hvs : vs = (VS.toList.drop voff).take (m * 2)) (h1c : Ones cs) (h1v : Ones vs) :
  ∃ G, n + m ≤ G ∧ Calls Prog 75 #[.slice (some ⟨b, off, none⟩) n c, .int .i64 (i : Nat), .slice (some ⟨vb, voff, none⟩) m vc] w fun r w' => r = .returned (.slice (some ⟨w.heap.size, 0, none⟩) (n + m) G) ∧
   w' = (((w.alloc (.cells ((cs.take (i * 2)).toArray ++ Builtin.zeroCells (Value.agg #[.int .i64 0, .int .i64 0]).cells (n + m - i) ++ Builtin.zeroCells (Value.agg #[.int .i64 0, .int .i64 0]).cells (G - (n + m))) 57)).drew.setCells w.heap.size (i * 2) vs).drew).setCells w.heap.size ((i + m) * 2) (cs.drop (i * 2)) := by
 refine ⟨grownCap w (n + m) c 57, grownCap_ge w _ _ _, ?_⟩;obtain ⟨i0, hi0, hz0, hzs, hzb⟩ := info_parts insI;have hz1 : ¬ ((m : Int) = 0) := by omega
 have hz2 : ¬ ((i : Int) = (n : Int)) := by omega
 have hz3 : (c : Int) < (n : Int) + (m : Int) := by omega
 have hcl : cs.length = n * 2 := by rw [hcs, List.length_take, List.length_drop, Array.length_toList]; omega
 have hvl : vs.length = m * 2 := by rw [hvs, List.length_take, List.length_drop, Array.length_toList]; omega
 have cellB : ∀ j, w.cell? ⟨b, j, none⟩ = CS[j]? := fun j => by simp [World.cell?, g1]
 have cellV : ∀ j, w.cell? ⟨vb, j, none⟩ = VS[j]? := fun j => by simp [World.cell?, g2]
 have atB : ∀ j v, cs[j]? = some v → w.cell? ⟨b, off + j, none⟩ = some v := fun j v hj => by
  rw [cellB];rw [hcs, List.getElem?_take] at hj;split at hj
  ·rw [List.getElem?_drop] at hj;simpa using hj
  ·cases hj
 have atV : ∀ j v, vs[j]? = some v → w.cell? ⟨vb, voff + j, none⟩ = some v := fun j v hj => by
  rw [cellV];rw [hvs, List.getElem?_take] at hj;split at hj
  ·rw [List.getElem?_drop] at hj;simpa using hj
  ·cases hj
 have hbw : b < w.heap.size := (Array.getElem?_eq_some_iff.1 g1).1;have hvw : vb < w.heap.size := (Array.getElem?_eq_some_iff.1 g2).1;have hkk : (n : Int) + (m : Int) - (i : Int) = ((n + m - i : Nat) : Int) := by omega
 have hik : i + (n + m - i) = n + m := by omega
 have hold : (Builtin.firstCells i0.size i (.slice (some ⟨b, off, none⟩) i c)).run Prog w.drew = .ok (cs.take (i * 2)).toArray w.drew := by
  rw [hzs];exact run_firstCells_some w.drew 2 i ⟨b, off, none⟩ i c (cs.take (i * 2)) (by rw [List.length_take]; omega) (fun j v hj => by
   rw [Addr.add_lit];rw [List.getElem?_take] at hj;split at hj
   ·exact atB j v hj
   ·cases hj)
 have hfit : Builtin.nextslicecap (n + m) c * i0.bytes ≤ 281474976710656 := by
  rw [hzb];exact growslice_fits hroom (by omega)
 have hrz : ∀ ty, (Builtin.append_ #[22, 3] ty #[.slice (some ⟨b, off, none⟩) i c, .int .i64 ((n : Int) + (m : Int) - (i : Int))]).run Prog w =
   .ok (.slice (some ⟨w.heap.size, 0, none⟩) (n + m) (grownCap w (n + m) c 57)) (w.drew.alloc (.cells ((cs.take (i * 2)).toArray ++ Builtin.zeroCells (Value.agg #[.int .i64 0, .int .i64 0]).cells (n + m - i) ++ Builtin.zeroCells (Value.agg #[.int .i64 0, .int .i64 0]).cells (grownCap w (n + m) c 57 - (n + m))) 57)) := fun ty => by
  have h := Lib.run_append_grow_zeros w 22 3 ty 57 i0 _ .i64 .i64 insT (by kernel_rfl) hi0 hz0 (some ⟨b, off, none⟩) i c (cs.take (i * 2)) hold (n + m - i) (by omega) (by omega) (by omega) (by omega) (by rw [hzb]; omega) (by rw [hik]; exact hfit);rw [hik] at h;rw [hkk];exact h
 obtain ⟨G, hG⟩ : ∃ G, G = grownCap w (n + m) c 57 := ⟨_, rfl⟩
 obtain ⟨ROW, hROW⟩ : ∃ ROW : Array Value, ROW = (cs.take (i * 2)).toArray ++ Builtin.zeroCells (Value.agg #[.int .i64 0, .int .i64 0]).cells (n + m - i) ++ Builtin.zeroCells (Value.agg #[.int .i64 0, .int .i64 0]).cells (G - (n + m)) := ⟨_, rfl⟩
 rw [← hG] at hrz ⊢;rw [← hROW] at hrz ⊢;have hGn : n + m ≤ G := by rw [hG]; exact grownCap_ge w _ _ _
 have hRl : (n + m) * 2 ≤ ROW.size := by
  rw [hROW];simp only [Array.size_append, List.size_toArray, size_zeroCells, List.length_take, hcl];show _ ≤ _ + (n + m - i) * 2 + (G - (n + m)) * 2;omega
 obtain ⟨W1, hW1⟩ : ∃ W1, W1 = w.drew.alloc (.cells ROW 57) := ⟨_, rfl⟩
 rw [← hW1] at hrz;have hNh : W1.heap[w.heap.size]? = some (.cells ROW 57 (0, 0)) := by rw [hW1]; exact heap_alloc_new' _ _
 have hN : ∀ j, j < (n + m) * 2 → (W1.cell? ⟨w.heap.size, j, none⟩).isSome = true := fun j hj => by
  simp only [World.cell?, hNh];rw [Array.getElem?_eq_getElem (by omega)]; rfl
 have hNf : ∀ j, W1.frozen? ⟨w.heap.size, j, none⟩ = false := fun j => by simp [World.frozen?, hNh]
 have hOb : ∀ j v, w.cell? ⟨b, j, none⟩ = some v → W1.cell? ⟨b, j, none⟩ = some v := fun j v h => by rw [hW1, World.cell?_alloc_past (w := w.drew) _ b j hbw]; exact h
 have hOv : ∀ j v, w.cell? ⟨vb, j, none⟩ = some v → W1.cell? ⟨vb, j, none⟩ = some v := fun j v h => by rw [hW1, World.cell?_alloc_past (w := w.drew) _ vb j hvw]; exact h
 have hcpA : ∀ (W : World), (∀ x, W.cell? x = W1.cell? x) → (∀ x, W.frozen? x = W1.frozen? x) → ∀ ty dc, (Builtin.copy_ #[22, 22] ty #[.slice (some ⟨w.heap.size, i * 2, none⟩) (n + m - i) dc, .slice (some ⟨vb, voff, none⟩) m vc]).run Prog W = .ok (goInt (Nat.min m (n + m - i))) (W.setCells w.heap.size (i * 2) vs) := fun W hWc hWf ty dc =>
  run_copyN W 22 22 ty 57 w.heap.size (i * 2) (n + m - i) dc ⟨vb, voff, none⟩ m vc 2 vs insT insZ (by rw [hvl, show Nat.min m (n + m - i) = m by simp only [Nat.min_def]; split <;> omega])
   (fun j v hj => by rw [Addr.add_lit, hWc]; exact hOv _ v (atV j v hj))
   (fun j hj => by rw [hWc]; exact hN _ (by omega)) (fun j hj => by rw [hWf]; exact hNf _) h1v
 have hG63 : G ≤ 9223372036854775807 := by
  have := grownCap_le_maxLen w (n + m) c 57 (by unfold maxLen; omega);rw [← hG] at this;unfold maxLen at this;omega
 have hGi : ¬ (G = i) := by omega
 have hGim : ¬ (G = i + m) := by omega
 have hci : ¬ (c = i) := by omega
 have hbN : b ≠ w.heap.size := by omega
 have hdl : (cs.drop (i * 2)).length = (n - i) * 2 := by rw [List.length_drop, hcl]; omega
 have hcpB : ∀ (W : World), (∀ x, W.cell? x = (W1.setCells w.heap.size (i * 2) vs).cell? x) → (∀ x, W.frozen? x = (W1.setCells w.heap.size (i * 2) vs).frozen? x) → ∀ ty dc sc, (Builtin.copy_ #[22, 22] ty #[.slice (some ⟨w.heap.size, (i + m) * 2, none⟩) (n + m - (i + m)) dc, .slice (some ⟨b, off + i * 2, none⟩) (n - i) sc]).run Prog W = .ok (goInt (Nat.min (n - i) (n + m - (i + m)))) (W.setCells w.heap.size ((i + m) * 2) (cs.drop (i * 2))) := fun W hWc hWf ty dc sc =>
  run_copyN W 22 22 ty 57 w.heap.size ((i + m) * 2) (n + m - (i + m)) dc ⟨b, off + i * 2, none⟩ (n - i) sc 2 (cs.drop (i * 2)) insT insZ (by rw [hdl, show Nat.min (n - i) (n + m - (i + m)) = n - i by simp only [Nat.min_def]; split <;> omega])
   (fun j v hj => by
    rw [Addr.add_lit, hWc, World.cell?_setCells_out _ _ _ _ _ (fun h _ => absurd h hbN), Nat.add_assoc];exact hOb _ v (atB (i * 2 + j) v (by rwa [List.getElem?_drop] at hj)))
   (fun j hj => by
    rw [hWc, setCells_row w.heap.size 57 (0, 0) _ _ ROW W1 hNh (by omega)];simp only [World.cell?, setRow_heap _ _ _ _ _ _ hNh];rw [Array.getElem?_eq_getElem (by rw [List.size_toArray, splice_length _ _ _ (by rw [Array.length_toList (xs := ROW)]; omega), Array.length_toList (xs := ROW)]; omega)]; rfl)
   (fun j hj => by rw [hWf, World.frozen?_setCells]; exact hNf _) (fun v hv => h1c v (List.mem_of_mem_drop hv))
 subst hW1;have hE1 : ∀ x, ((w.alloc (.cells ROW 57)).drew).cell? x = (w.drew.alloc (.cells ROW 57)).cell? x := fun x => rfl;have hE2 : ∀ x, ((w.alloc (.cells ROW 57)).drew).frozen? x = (w.drew.alloc (.cells ROW 57)).frozen? x := fun x => rfl;have hF1 : ∀ x, (((w.alloc (.cells ROW 57)).drew.setCells w.heap.size (i * 2) vs).drew).cell? x = ((w.drew.alloc (.cells ROW 57)).setCells w.heap.size (i * 2) vs).cell? x := fun x => rfl;have hF2 : ∀ x, (((w.alloc (.cells ROW 57)).drew.setCells w.heap.size (i * 2) vs).drew).frozen? x = ((w.drew.alloc (.cells ROW 57)).setCells w.heap.size (i * 2) vs).frozen? x := fun x => rfl;have hw1 : IntKind.i64.wrap ((i : Int) + (m : Int)) = (i : Int) + (m : Int) := by rw [IntKind.wrap_i64]; omega
 have hw2 : IntKind.i64.wrap ((n : Int) + (m : Int)) = (n : Int) + (m : Int) := by rw [IntKind.wrap_i64]; omega
 have hw3 : IntKind.i64.wrap ((n : Int) + (m : Int) - (i : Int)) = (n : Int) + (m : Int) - (i : Int) := by rw [IntKind.wrap_i64]; omega
 have hb1 : (0 : Int) ≤ (i : Int) + (m : Int) := by omega
 have hin : i ≤ n := by omega
 have htn : ((i : Int) + (m : Int)).toNat = i + m := by omega
 have hb3 : (i : Int) ≤ (n : Int) := by omega
 clear hkk hik hold hROW hG hRl hN hNf hNh cellB cellV;clear hcs hvs
 go_enter Try.func75, Try.ntmps75
 go_wp2_with (first
  | (at_builtin; refine Lib.wpList_append_run _ rfl _ _ _ _ rfl _ _ rfl rfl _ _ (hrz _) ?_)
  | (at_builtin; refine cp_list rfl rfl rfl rfl (hcpA _ hE1 hE2 _ _) ?_)
  | (at_builtin; refine cp_list rfl rfl rfl rfl (hcpB _ (fun _ => rfl) (fun _ => rfl) _ _ _) ?_))
 go_region_law (refine cp_step rfl rfl (v := .slice (some ⟨w.heap.size, (i + m) * 2, none⟩) (n + m - (i + m)) (G - (i + m))) (u := .slice (some ⟨b, off + i * 2, none⟩) (n - i) (c - i)) (by simp [Act.eval, Act.put]) (by simp [Act.eval, Act.put]) (hcpB _ hF1 hF2 _ (G - (i + m)) (c - i)) ?_)
 go_wp2
 go_ret
 exact ⟨rfl, rfl⟩
theorem ins_walk : InsWalk Prog 75 22 57 2 (.agg #[.int .i64 0, .int .i64 0]) :=
 ⟨⟨Try.f75, Try.func75, by kernel_rfl, by kernel_rfl⟩, ins_none, ins_end, ins_shift, ins_grow⟩
theorem insertG_is : SpIs Prog F.slices_Insert_of_api_Glyph_api_Glyph fun _ args H => insertV 2 16 args H := by
 obtain ⟨i0, hi0, hz0, hzs, hzb⟩ := info_parts insI;exact insert_of (inf := i0) insT hi0 hz0 (by rw [hzs]; rfl) hzs hzb (by decide) ins_walk
end Go.Sw
end
section
namespace Go.Sw
open Go.RowKit
theorem names_ok : NamesOk Prog := NamesOk.of (by kernel_rfl)
theorem mixed_ok : Prog.follows .mixedOrders = true := Checked.mixed Go.Proofs.Try.checked
theorem laid_ok : laidOutB Prog = true := by kernel_rfl
theorem cloneGlyph_is : SpIs Prog F.slices_Clone_of_api_Glyph_api_Glyph fun _ args H => cloneV 2 16 args H :=
 clone_is (c := { P := Prog, kp := kpS, sp := fun _ => none }) (fun _ _ => rfl) names_ok mixed_ok (t := 22) (e := 57) (by kernel_rfl) fun call a H => (slices_Clone_of_api_Glyph_api_Glyph_body 0 _ call a H).trans (by
  unfold slices_Clone_of_api_Glyph_api_Glyph cloneF;simp only [be_22_0, ap_22, beR_bare])
theorem clonePlace_is : SpIs Prog F.slices_Clone_of_api_Place_api_Place fun _ args H => cloneV 3 12 args H :=
 clone_is (c := { P := Prog, kp := kpS, sp := fun _ => none }) (fun _ _ => rfl) names_ok mixed_ok (t := 98) (e := 137) (by kernel_rfl) fun call a H => (slices_Clone_of_api_Place_api_Place_body 0 _ call a H).trans (by
  unfold slices_Clone_of_api_Place_api_Place cloneF;simp only [be_98_0, ap_98, beR_bare])
theorem clonePart_is : SpIs Prog F.slices_Clone_of_sfnt_Part_sfnt_Part fun _ args H => cloneV 2 40 args H :=
 clone_is (c := { P := Prog, kp := kpS, sp := fun _ => none }) (fun _ _ => rfl) names_ok mixed_ok (t := 142) (e := 140) (by kernel_rfl) fun call a H => (slices_Clone_of_sfnt_Part_sfnt_Part_body 0 _ call a H).trans (by
  unfold slices_Clone_of_sfnt_Part_sfnt_Part cloneF;simp only [be_142_0, ap_142, beR_bare])
theorem more_is (f : FuncId) (s : Sp) (h : moreS f = some s) : SpIs Prog f s := by
 unfold moreS at h;cases h4 : Nat.beq f 4 with
 | true => have := Nat.eq_of_beq_eq_true h4; subst this; rw [h4, cond_true] at h; injection h with h; subst h; exact range_is (c := { P := Prog, kp := kpS, sp := fun _ => none, it := itS }) names_ok mixed_ok it_is (by kernel_rfl)
 | false =>
 rw [h4, cond_false] at h;cases h7 : Nat.beq f 7 with
 | true => have := Nat.eq_of_beq_eq_true h7; subst this; rw [h7, cond_true] at h; injection h with h; subst h; exact range_is (c := { P := Prog, kp := kpS, sp := fun _ => none, it := itS }) names_ok mixed_ok it_is (by kernel_rfl)
 | false =>
 rw [h7, cond_false] at h;cases h40 : Nat.beq f 40 with
 | true => have := Nat.eq_of_beq_eq_true h40; subst this; rw [h40, cond_true] at h; injection h with h; subst h; exact try_is
 | false =>
 rw [h40, cond_false] at h;cases h42 : Nat.beq f 42 with
 | true => have := Nat.eq_of_beq_eq_true h42; subst this; rw [h42, cond_true] at h; injection h with h; subst h; exact rangeM_is (c := { P := Prog, kp := kpS, sp := fun _ => none, it := itS }) names_ok mixed_ok it_is (by kernel_rfl)
 | false =>
 rw [h42, cond_false] at h;cases h71 : Nat.beq f 71 with
 | true => have := Nat.eq_of_beq_eq_true h71; subst this; rw [h71, cond_true] at h; injection h with h; subst h; exact cloneGlyph_is
 | false =>
 rw [h71, cond_false] at h;cases h73 : Nat.beq f 73 with
 | true => have := Nat.eq_of_beq_eq_true h73; subst this; rw [h73, cond_true] at h; injection h with h; subst h; exact trim_is (c := { P := Prog, kp := kpS, sp := fun _ => none }) (fun _ _ => rfl) names_ok mixed_ok
 | false =>
 rw [h73, cond_false] at h;cases h75 : Nat.beq f 75 with
 | true => have := Nat.eq_of_beq_eq_true h75; subst this; rw [h75, cond_true] at h; injection h with h; subst h; exact insertG_is
 | false =>
 rw [h75, cond_false] at h;cases h115 : Nat.beq f 115 with
 | true => have := Nat.eq_of_beq_eq_true h115; subst this; rw [h115, cond_true] at h; injection h with h; subst h; exact clonePlace_is
 | false =>
 rw [h115, cond_false] at h;cases h134 : Nat.beq f 134 with
 | true => have := Nat.eq_of_beq_eq_true h134; subst this; rw [h134, cond_true] at h; injection h with h; subst h; exact clonePart_is
 | false =>
 rw [h134, cond_false] at h;cases h
theorem T_prog (k : Nat) : (T k).c.P = Prog := by unfold T C; rfl
end Go.Sw
end
