/-
  Functions' forms, and what is proved of them, part 7.
-/
import Derived.Test.YtanfippcmdialaaSwCfg
import Derived.Test.YtanfippcmdialaaSwW6
import Derived.Tactics
import Derived.Tactics2
import Derived.WalkKit
import Derived.Lib.Walk
import Derived.Lib.SliceRun
import Derived.Lib.JoinLaws
import Derived.Lib.AppendZeros
import Derived.Lib.AppendZerosOnto
import Derived.Lib.Overlaps
import Derived.Laws.Externs
import Derived.Laws.NewBlocks
import Derived.Deep.RegionLaw
import Derived.Test.YtanfippcmdialaaSwW3
import Derived.Test.YtanfippcmdialaaSwW5
import Derived.Test.YtanfippcmdialaaSwLib8
import Derived.Eval
set_option linter.unusedSimpArgs false
set_option linter.unusedVariables false
set_option linter.unusedSectionVars false
section
namespace Go.Sw
open Go.RowKit Go.Proofs Go.Lib
theorem cp_wp {P : Program} {w : World} {o : Oper} {a : Act} {K : Act → World → Prop} {Q : Exit → Act → World → Prop} {d s : Operand} {t t' : TypeId} (ho : o.op = .call { callee := .builtin .copy, args := #[d, s], argTypes := #[t, t'] }) {v u v' : Value} {w' : World} (hd : a.eval d = v) (hs : a.eval s = u)
  (hr : (Builtin.copy_ #[t, t'] o.type #[v, u]).run P w = .ok v' w') (h : K (a.put o.dst v') w') : o.wp P a w K Q := by
 refine wp_value (v := v') (w' := w') ?_ h;simp [execOp, ho, resolve, invoke, builtin, hd, hs, hr, Result.andThen]
theorem cp_list {P : Program} {w : World} {ops : Array Oper} {rest : List Oper} {o : Oper} {a : Act} {Q : Exit → Act → World → Prop} (hgd : o.guard = none) {d s : Operand} {t t' : TypeId} (ho : o.op = .call { callee := .builtin .copy, args := #[d, s], argTypes := #[t, t'] }) {v u v' : Value} {w' : World} (hd : a.eval d = v) (hs : a.eval s = u)
  (hr : (Builtin.copy_ #[t, t'] o.type #[v, u]).run P w = .ok v' w') (h : wpList P ops Q rest (a.put o.dst v') w') : wpList P ops Q (o :: rest) a w :=
 wpList_plain hgd fun _ hK => cp_wp ho hd hs hr (hK _ _ h)
theorem cp_step {P : Program} {ops : Array Oper} {o : Oper} {a : Act} {w : World} {K : Act → World → Prop} {Q : Exit → Act → World → Prop} {E : Prop} (hg : o.guard = none) {d s : Operand} {t t' : TypeId} (ho : o.op = .call { callee := .builtin .copy, args := #[d, s], argTypes := #[t, t'] }) {v u v' : Value} {w' : World} (hd : a.eval d = v) (hs : a.eval s = u)
  (hr : (Builtin.copy_ #[t, t'] o.type #[v, u]).run P w = .ok v' w') (h : K (a.put o.dst v') w') : if Region.wanted o (yielded ops a.tmps) = true then Oper.wp P o a w K Q else E := by
 have hw : Region.wanted o (yielded ops a.tmps) = true := by simp [Region.wanted, hg]
 rw [if_pos hw];exact cp_wp ho hd hs hr h
theorem run_copyN {P : Program} (w : World) (dT sT ty elem : TypeId) (b o dLen dCap : Nat) (a : Addr) (sLen sCap sz : Nat) (cs : List Value)
  (hu : P.underlying dT = some (.slice elem)) (hs : (P.info? elem).map (·.size) = some sz) (hn : cs.length = Nat.min sLen dLen * sz)
  (hsrc : ∀ j v, cs[j]? = some v → w.cell? (a.add j) = some v) (hc : ∀ j, j < cs.length → (w.cell? ⟨b, o + j, none⟩).isSome = true) (hf : ∀ j, j < cs.length → w.frozen? ⟨b, o + j, none⟩ = false) (h1 : ∀ v ∈ cs, v.oneCell' = true) :
  (Builtin.copy_ #[dT, sT] ty #[.slice (some ⟨b, o, none⟩) dLen dCap, .slice (some a) sLen sCap]).run P w = .ok (goInt (Nat.min sLen dLen)) (w.setCells b o cs) := by
 have hl := run_loadCells_list (P := P) w a cs hsrc;have hst := run_storeCells_cells (P := P) b o cs 0 w (by simpa using hc) (by simpa using hf) h1;cases hq : P.info? elem with
 | none => simp [hq] at hs
 | some i =>
  have hi : i.size = sz := by simpa [hq] using hs
  rw [hn] at hl;simp [Builtin.copy_, run_underlying hu, Builtin.lenOf, Builtin.firstCells, sizeOf, typeInfo, hq, hi, hl, hst]
theorem insT : Prog.underlying 22 = some (.slice 57) := by kernel_rfl
theorem insZ : (Prog.info? 57).map (·.size) = some 2 := by kernel_rfl
theorem insI : (Prog.info? 57).map (fun i => (i.zero, i.size, i.bytes)) = some (some (.agg #[.int .i64 0, .int .i64 0]), 2, 16) := by kernel_rfl
set_option maxRecDepth 100000 in
set_option maxHeartbeats 4000000 in
theorem ins_none (base : Option Addr) (n c i : Nat) (vb : Option Addr) (vc : Nat) (w : World) (hi : i ≤ n) (hn : n ≤ c) (hb : base = none → n = 0 ∧ c = 0) :
  Calls Prog 75 #[.slice base n c, .int .i64 (i : Nat), .slice vb 0 vc] w fun e w' => e = .returned (.slice base n c) ∧ w' = w := by
 go_enter Try.func75, Try.ntmps75
 cases base with
 | none =>
  obtain ⟨rfl, rfl⟩ := hb rfl;obtain rfl : i = 0 := by omega
  go_wp2
  go_ret
  exact ⟨rfl, rfl⟩
 | some a =>
  obtain ⟨ab, ao, asp⟩ := a
  go_wp2
  all_goals (go_ret; exact ⟨rfl, rfl⟩)
set_option maxRecDepth 100000 in
set_option maxHeartbeats 4000000 in
theorem ins_end (base : Option Addr) (n c : Nat) (vb : Option Addr) (m vc : Nat) (w : World) (v' : Value) (w1 : World) (hn : n ≤ c) (hb : base = none → n = 0 ∧ c = 0) (hm : 0 < m) (hr : (Builtin.append_ #[22, 22] 22 #[.slice base n c, .slice vb m vc]).run Prog w = .ok v' w1) :
  Calls Prog 75 #[.slice base n c, .int .i64 (n : Nat), .slice vb m vc] w fun e w' => e = .returned v' ∧ w' = w1 := by
 have hz1 : ¬ ((m : Int) = 0) := by omega
 go_enter Try.func75, Try.ntmps75
 cases base with
 | none =>
  obtain ⟨rfl, rfl⟩ := hb rfl
  go_wp2_with (at_builtin; refine Lib.wpList_append_run _ rfl _ _ _ _ rfl _ _ rfl rfl _ _ hr ?_)
  go_ret
  exact ⟨rfl, rfl⟩
 | some a =>
  obtain ⟨ab, ao, asp⟩ := a
  go_wp2_with (at_builtin; refine Lib.wpList_append_run _ rfl _ _ _ _ rfl _ _ rfl rfl _ _ hr ?_)
  all_goals (go_ret; exact ⟨rfl, rfl⟩)
set_option maxRecDepth 100000 in
set_option maxHeartbeats 4000000 in
theorem ins_shift (b off n c i vb voff m vc : Nat) (CS VS : Array Value) (el el2 : TypeId) (cs vs : List Value) (w : World) (hi : i < n) (hm : 0 < m) (hroom : n + m ≤ c) (h31 : n + m ≤ 2 ^ 31) (hvb : vb ≠ b) (g1 : w.heap[b]? = some (.cells CS el (0, 0))) (g2 : w.heap[vb]? = some (.cells VS el2 (0, 0))) (f1 : off + c * 2 ≤ CS.size) (f2 : voff + m * 2 ≤ VS.size)
  (hcs : cs = (CS.toList.drop off).take (n * 2)) (hvs : vs = (VS.toList.drop voff).take (m * 2)) (h1c : Ones cs) (h1v : Ones vs) :
  Calls Prog 75 #[.slice (some ⟨b, off, none⟩) n c, .int .i64 (i : Nat), .slice (some ⟨vb, voff, none⟩) m vc] w fun e w' => e = .returned (.slice (some ⟨b, off, none⟩) (n + m) c) ∧ w' = (w.drew.setCells b (off + (i + m) * 2) (cs.drop (i * 2))).setCells b (off + i * 2) vs := by
 have hz1 : ¬ ((m : Int) = 0) := by omega
 have hz2 : ¬ ((i : Int) = (n : Int)) := by omega
 have hz3 : ¬ (c : Int) < (n : Int) + (m : Int) := by omega
 have hcl : cs.length = n * 2 := by rw [hcs, List.length_take, List.length_drop, Array.length_toList]; omega
 have hvl : vs.length = m * 2 := by rw [hvs, List.length_take, List.length_drop, Array.length_toList]; omega
 have cellB : ∀ j, w.cell? ⟨b, j, none⟩ = CS[j]? := fun j => by simp [World.cell?, g1]
 have cellV : ∀ j, w.cell? ⟨vb, j, none⟩ = VS[j]? := fun j => by simp [World.cell?, g2]
 have frB : ∀ j, w.frozen? ⟨b, j, none⟩ = false := fun j => by simp [World.frozen?, g1]
 have frV : ∀ j, w.frozen? ⟨vb, j, none⟩ = false := fun j => by simp [World.frozen?, g2]
 have atB : ∀ j v, cs[j]? = some v → w.cell? ⟨b, off + j, none⟩ = some v := fun j v hj => by
  rw [cellB];rw [hcs, List.getElem?_take] at hj;split at hj
  ·rw [List.getElem?_drop] at hj;simpa using hj
  ·cases hj
 have atV : ∀ j v, vs[j]? = some v → w.cell? ⟨vb, voff + j, none⟩ = some v := fun j v hj => by
  rw [cellV];rw [hvs, List.getElem?_take] at hj;split at hj
  ·rw [List.getElem?_drop] at hj;simpa using hj
  ·cases hj
 have hsa : w.shape? vb = some (el2, VS.size) := by simp [World.shape?, g2]
 have hsb : w.shape? b = some (el, CS.size) := by simp [World.shape?, g1]
 have hov : ∀ lb cb, (callFunc 148 #[.slice (some ⟨vb, voff, none⟩) m vc, .slice (some ⟨b, off + (i + m) * 2, none⟩) lb cb]).run Prog w = .ok (.value (.bool false)) w := fun lb cb => by
  rw [run_callFunc_extern (f := 148) (fn := Try.f148) Try.func148 (by kernel_rfl) (by kernel_rfl) (by kernel_rfl) (e := Extern.SlicesOverlaps.overlaps #[22, 22] #[4]) (by kernel_rfl),
   Lib.run_overlaps_apart w 22 4 57 insT 2 (fun w => by kernel_rfl) ⟨vb, voff, none⟩ ⟨b, off + (i + m) * 2, none⟩ m vc lb cb hvb el2 el VS.size CS.size hsa hsb (by omega) (frV _) (frV _)]
  rfl
 have hdl : (cs.drop (i * 2)).length = (n - i) * 2 := by rw [List.length_drop, hcl]; omega
 have hw1 : IntKind.i64.wrap ((i : Int) + (m : Int)) = (i : Int) + (m : Int) := by rw [IntKind.wrap_i64]; omega
 have hw2 : IntKind.i64.wrap ((n : Int) + (m : Int)) = (n : Int) + (m : Int) := by rw [IntKind.wrap_i64]; omega
 have hb1 : (0 : Int) ≤ (i : Int) + (m : Int) := by omega
 have hb1' : (0 : Int) ≤ (n : Int) + (m : Int) := by omega
 have hin : i ≤ n := by omega
 have htn : ((i : Int) + (m : Int)).toNat = i + m := by omega
 have htn' : ((n : Int) + (m : Int)).toNat = n + m := by omega
 have hb2 : ¬ (c = i + m) := by omega
 have hb3 : (i : Int) ≤ (n : Int) + (m : Int) := by omega
 have hb4 : ¬ (c = i) := by omega
 have hcp1 : ∀ ty dc sc, (Builtin.copy_ #[22, 22] ty #[.slice (some ⟨b, off + (i + m) * 2, none⟩) (n + m - (i + m)) dc, .slice (some ⟨b, off + i * 2, none⟩) (n + m - i) sc]).run Prog w.drew = .ok (goInt (Nat.min (n + m - i) (n + m - (i + m)))) (w.drew.setCells b (off + (i + m) * 2) (cs.drop (i * 2))) := fun ty dc sc =>
  run_copyN w.drew 22 22 ty 57 b (off + (i + m) * 2) (n + m - (i + m)) dc ⟨b, off + i * 2, none⟩ (n + m - i) sc 2 (cs.drop (i * 2)) insT insZ (by rw [hdl, show Nat.min (n + m - i) (n + m - (i + m)) = n - i by simp only [Nat.min_def]; split <;> omega])
   (fun j v hj => by rw [Addr.add_lit, Nat.add_assoc]; exact atB (i * 2 + j) v (by rwa [List.getElem?_drop] at hj))
   (fun j hj => by
    show (w.cell? _).isSome = true;rw [cellB, Array.getElem?_eq_getElem (by omega)]; rfl) (fun j hj => frB _) (fun v hv => h1c v (List.mem_of_mem_drop hv))
 obtain ⟨W1, hW1⟩ : ∃ W1, W1 = w.drew.setCells b (off + (i + m) * 2) (cs.drop (i * 2)) := ⟨_, rfl⟩
 have hW1r : W1 = w.drew.setRow b (splice CS.toList (off + (i + m) * 2) (cs.drop (i * 2))).toArray := by rw [hW1]; exact setCells_row b el (0, 0) _ _ CS w.drew g1 (by omega)
 have hW1b : W1.heap[b]? = some (.cells (splice CS.toList (off + (i + m) * 2) (cs.drop (i * 2))).toArray el (0, 0)) := by rw [hW1r]; exact setRow_heap _ _ _ _ _ _ g1
 have hspl : (splice CS.toList (off + (i + m) * 2) (cs.drop (i * 2))).length = CS.size := by rw [splice_length _ _ _ (by rw [Array.length_toList (xs := CS)]; omega)]; simp
 have hcp2 : ∀ (W : World), (∀ x, W.cell? x = W1.cell? x) → (∀ x, W.frozen? x = W1.frozen? x) → ∀ ty dc, (Builtin.copy_ #[22, 22] ty #[.slice (some ⟨b, off + i * 2, none⟩) (n + m - i) dc, .slice (some ⟨vb, voff, none⟩) m vc]).run Prog W = .ok (goInt (Nat.min m (n + m - i))) (W.setCells b (off + i * 2) vs) := fun W hWc hWf ty dc =>
  run_copyN W 22 22 ty 57 b (off + i * 2) (n + m - i) dc ⟨vb, voff, none⟩ m vc 2 vs insT insZ (by rw [hvl, show Nat.min m (n + m - i) = m by simp only [Nat.min_def]; split <;> omega])
   (fun j v hj => by
    rw [Addr.add_lit, hWc, hW1, World.cell?_setCells_out b _ _ _ _ (fun h _ => absurd h hvb)];exact atV j v hj)
   (fun j hj => by
    rw [hWc];simp only [World.cell?, hW1b];rw [Array.getElem?_eq_getElem (by rw [List.size_toArray, hspl]; omega)]; rfl) (fun j hj => by rw [hWf]; simp [World.frozen?, hW1b]) h1v
 rw [← hW1] at hcp1;clear hcs hvs
 go_enter Try.func75, Try.ntmps75
 go_wp2_with (simp only [hov])
 go_region_law (refine cp_step rfl rfl (by simp [Act.eval, Act.put]) (by simp [Act.eval, Act.put]) (hcp1 _ _ _) ?_)
 go_wp2_with (at_builtin; refine cp_list rfl rfl rfl rfl (hcp2 _ (fun _ => rfl) (fun _ => rfl) _ _) ?_)
 go_ret
 first | exact ⟨rfl, rfl⟩ | exact ⟨rfl, by rw [hW1]⟩
set_option maxRecDepth 100000 in
set_option maxHeartbeats 4000000 in
theorem ins_grow (b off n c i vb voff m vc : Nat) (CS VS : Array Value) (el el2 : TypeId) (cs vs : List Value) (w : World) (hi : i < n) (hm : 0 < m) (hnc : n ≤ c) (hroom : c < n + m) (h31 : n + m ≤ 2 ^ 31) (g1 : w.heap[b]? = some (.cells CS el (0, 0))) (g2 : w.heap[vb]? = some (.cells VS el2 (0, 0))) (f1 : off + n * 2 ≤ CS.size) (f2 : voff + m * 2 ≤ VS.size)
  (hcs : cs = (CS.toList.drop off).take (n * 2)) (hvs : vs = (VS.toList.drop voff).take (m * 2)) (h1c : Ones cs) (h1v : Ones vs) :
  ∃ G, n + m ≤ G ∧ Calls Prog 75 #[.slice (some ⟨b, off, none⟩) n c, .int .i64 (i : Nat), .slice (some ⟨vb, voff, none⟩) m vc] w fun r w' => r = .returned (.slice (some ⟨w.heap.size, 0, none⟩) (n + m) G) ∧
   w' = (((w.alloc (.cells ((cs.take (i * 2)).toArray ++ Builtin.zeroCells (Value.agg #[.int .i64 0, .int .i64 0]).cells (n + m - i) ++ Builtin.zeroCells (Value.agg #[.int .i64 0, .int .i64 0]).cells (G - (n + m))) 57)).drew.setCells w.heap.size (i * 2) vs).drew).setCells w.heap.size ((i + m) * 2) (cs.drop (i * 2)) := by
 refine ⟨grownCap w (n + m) c 57, grownCap_ge w _ _ _, ?_⟩;obtain ⟨i0, hi0, hz0, hzs, hzb⟩ := info_parts insI;have hz1 : ¬ ((m : Int) = 0) := by omega
 have hz2 : ¬ ((i : Int) = (n : Int)) := by omega
 have hz3 : (c : Int) < (n : Int) + (m : Int) := by omega
 have hcl : cs.length = n * 2 := by rw [hcs, List.length_take, List.length_drop, Array.length_toList]; omega
 have hvl : vs.length = m * 2 := by rw [hvs, List.length_take, List.length_drop, Array.length_toList]; omega
 have cellB : ∀ j, w.cell? ⟨b, j, none⟩ = CS[j]? := fun j => by simp [World.cell?, g1]
 have cellV : ∀ j, w.cell? ⟨vb, j, none⟩ = VS[j]? := fun j => by simp [World.cell?, g2]
 have atB : ∀ j v, cs[j]? = some v → w.cell? ⟨b, off + j, none⟩ = some v := fun j v hj => by
  rw [cellB];rw [hcs, List.getElem?_take] at hj;split at hj
  ·rw [List.getElem?_drop] at hj;simpa using hj
  ·cases hj
 have atV : ∀ j v, vs[j]? = some v → w.cell? ⟨vb, voff + j, none⟩ = some v := fun j v hj => by
  rw [cellV];rw [hvs, List.getElem?_take] at hj;split at hj
  ·rw [List.getElem?_drop] at hj;simpa using hj
  ·cases hj
 have hbw : b < w.heap.size := (Array.getElem?_eq_some_iff.1 g1).1;have hvw : vb < w.heap.size := (Array.getElem?_eq_some_iff.1 g2).1;have hkk : (n : Int) + (m : Int) - (i : Int) = ((n + m - i : Nat) : Int) := by omega
 have hik : i + (n + m - i) = n + m := by omega
 have hold : (Builtin.firstCells i0.size i (.slice (some ⟨b, off, none⟩) i c)).run Prog w.drew = .ok (cs.take (i * 2)).toArray w.drew := by
  rw [hzs];exact run_firstCells_some w.drew 2 i ⟨b, off, none⟩ i c (cs.take (i * 2)) (by rw [List.length_take]; omega) (fun j v hj => by
   rw [Addr.add_lit];rw [List.getElem?_take] at hj;split at hj
   ·exact atB j v hj
   ·cases hj)
 have hfit : Builtin.nextslicecap (n + m) c * i0.bytes ≤ 281474976710656 := by
  rw [hzb];exact growslice_fits hroom (by omega)
 have hrz : ∀ ty, (Builtin.append_ #[22, 3] ty #[.slice (some ⟨b, off, none⟩) i c, .int .i64 ((n : Int) + (m : Int) - (i : Int))]).run Prog w =
   .ok (.slice (some ⟨w.heap.size, 0, none⟩) (n + m) (grownCap w (n + m) c 57)) (w.drew.alloc (.cells ((cs.take (i * 2)).toArray ++ Builtin.zeroCells (Value.agg #[.int .i64 0, .int .i64 0]).cells (n + m - i) ++ Builtin.zeroCells (Value.agg #[.int .i64 0, .int .i64 0]).cells (grownCap w (n + m) c 57 - (n + m))) 57)) := fun ty => by
  have h := Lib.run_append_grow_zeros w 22 3 ty 57 i0 _ .i64 .i64 insT (by kernel_rfl) hi0 hz0 (some ⟨b, off, none⟩) i c (cs.take (i * 2)) hold (n + m - i) (by omega) (by omega) (by omega) (by omega) (by rw [hzb]; omega) (by rw [hik]; exact hfit);rw [hik] at h;rw [hkk];exact h
 obtain ⟨G, hG⟩ : ∃ G, G = grownCap w (n + m) c 57 := ⟨_, rfl⟩
 obtain ⟨ROW, hROW⟩ : ∃ ROW : Array Value, ROW = (cs.take (i * 2)).toArray ++ Builtin.zeroCells (Value.agg #[.int .i64 0, .int .i64 0]).cells (n + m - i) ++ Builtin.zeroCells (Value.agg #[.int .i64 0, .int .i64 0]).cells (G - (n + m)) := ⟨_, rfl⟩
 rw [← hG] at hrz ⊢;rw [← hROW] at hrz ⊢;have hGn : n + m ≤ G := by rw [hG]; exact grownCap_ge w _ _ _
 have hRl : (n + m) * 2 ≤ ROW.size := by
  rw [hROW];simp only [Array.size_append, List.size_toArray, size_zeroCells, List.length_take, hcl];show _ ≤ _ + (n + m - i) * 2 + (G - (n + m)) * 2;omega
 obtain ⟨W1, hW1⟩ : ∃ W1, W1 = w.drew.alloc (.cells ROW 57) := ⟨_, rfl⟩
 rw [← hW1] at hrz;have hNh : W1.heap[w.heap.size]? = some (.cells ROW 57 (0, 0)) := by rw [hW1]; exact heap_alloc_new' _ _
 have hN : ∀ j, j < (n + m) * 2 → (W1.cell? ⟨w.heap.size, j, none⟩).isSome = true := fun j hj => by
  simp only [World.cell?, hNh];rw [Array.getElem?_eq_getElem (by omega)]; rfl
 have hNf : ∀ j, W1.frozen? ⟨w.heap.size, j, none⟩ = false := fun j => by simp [World.frozen?, hNh]
 have hOb : ∀ j v, w.cell? ⟨b, j, none⟩ = some v → W1.cell? ⟨b, j, none⟩ = some v := fun j v h => by rw [hW1, World.cell?_alloc_past (w := w.drew) _ b j hbw]; exact h
 have hOv : ∀ j v, w.cell? ⟨vb, j, none⟩ = some v → W1.cell? ⟨vb, j, none⟩ = some v := fun j v h => by rw [hW1, World.cell?_alloc_past (w := w.drew) _ vb j hvw]; exact h
 have hcpA : ∀ (W : World), (∀ x, W.cell? x = W1.cell? x) → (∀ x, W.frozen? x = W1.frozen? x) → ∀ ty dc, (Builtin.copy_ #[22, 22] ty #[.slice (some ⟨w.heap.size, i * 2, none⟩) (n + m - i) dc, .slice (some ⟨vb, voff, none⟩) m vc]).run Prog W = .ok (goInt (Nat.min m (n + m - i))) (W.setCells w.heap.size (i * 2) vs) := fun W hWc hWf ty dc =>
  run_copyN W 22 22 ty 57 w.heap.size (i * 2) (n + m - i) dc ⟨vb, voff, none⟩ m vc 2 vs insT insZ (by rw [hvl, show Nat.min m (n + m - i) = m by simp only [Nat.min_def]; split <;> omega])
   (fun j v hj => by rw [Addr.add_lit, hWc]; exact hOv _ v (atV j v hj))
   (fun j hj => by rw [hWc]; exact hN _ (by omega)) (fun j hj => by rw [hWf]; exact hNf _) h1v
 have hG63 : G ≤ 9223372036854775807 := by
  have := grownCap_le_maxLen w (n + m) c 57 (by unfold maxLen; omega);rw [← hG] at this;unfold maxLen at this;omega
 have hGi : ¬ (G = i) := by omega
 have hGim : ¬ (G = i + m) := by omega
 have hci : ¬ (c = i) := by omega
 have hbN : b ≠ w.heap.size := by omega
 have hdl : (cs.drop (i * 2)).length = (n - i) * 2 := by rw [List.length_drop, hcl]; omega
 have hcpB : ∀ (W : World), (∀ x, W.cell? x = (W1.setCells w.heap.size (i * 2) vs).cell? x) → (∀ x, W.frozen? x = (W1.setCells w.heap.size (i * 2) vs).frozen? x) → ∀ ty dc sc, (Builtin.copy_ #[22, 22] ty #[.slice (some ⟨w.heap.size, (i + m) * 2, none⟩) (n + m - (i + m)) dc, .slice (some ⟨b, off + i * 2, none⟩) (n - i) sc]).run Prog W = .ok (goInt (Nat.min (n - i) (n + m - (i + m)))) (W.setCells w.heap.size ((i + m) * 2) (cs.drop (i * 2))) := fun W hWc hWf ty dc sc =>
  run_copyN W 22 22 ty 57 w.heap.size ((i + m) * 2) (n + m - (i + m)) dc ⟨b, off + i * 2, none⟩ (n - i) sc 2 (cs.drop (i * 2)) insT insZ (by rw [hdl, show Nat.min (n - i) (n + m - (i + m)) = n - i by simp only [Nat.min_def]; split <;> omega])
   (fun j v hj => by
    rw [Addr.add_lit, hWc, World.cell?_setCells_out _ _ _ _ _ (fun h _ => absurd h hbN), Nat.add_assoc];exact hOb _ v (atB (i * 2 + j) v (by rwa [List.getElem?_drop] at hj)))
   (fun j hj => by
    rw [hWc, setCells_row w.heap.size 57 (0, 0) _ _ ROW W1 hNh (by omega)];simp only [World.cell?, setRow_heap _ _ _ _ _ _ hNh];rw [Array.getElem?_eq_getElem (by rw [List.size_toArray, splice_length _ _ _ (by rw [Array.length_toList (xs := ROW)]; omega), Array.length_toList (xs := ROW)]; omega)]; rfl)
   (fun j hj => by rw [hWf, World.frozen?_setCells]; exact hNf _) (fun v hv => h1c v (List.mem_of_mem_drop hv))
 subst hW1;have hE1 : ∀ x, ((w.alloc (.cells ROW 57)).drew).cell? x = (w.drew.alloc (.cells ROW 57)).cell? x := fun x => rfl;have hE2 : ∀ x, ((w.alloc (.cells ROW 57)).drew).frozen? x = (w.drew.alloc (.cells ROW 57)).frozen? x := fun x => rfl;have hF1 : ∀ x, (((w.alloc (.cells ROW 57)).drew.setCells w.heap.size (i * 2) vs).drew).cell? x = ((w.drew.alloc (.cells ROW 57)).setCells w.heap.size (i * 2) vs).cell? x := fun x => rfl;have hF2 : ∀ x, (((w.alloc (.cells ROW 57)).drew.setCells w.heap.size (i * 2) vs).drew).frozen? x = ((w.drew.alloc (.cells ROW 57)).setCells w.heap.size (i * 2) vs).frozen? x := fun x => rfl;have hw1 : IntKind.i64.wrap ((i : Int) + (m : Int)) = (i : Int) + (m : Int) := by rw [IntKind.wrap_i64]; omega
 have hw2 : IntKind.i64.wrap ((n : Int) + (m : Int)) = (n : Int) + (m : Int) := by rw [IntKind.wrap_i64]; omega
 have hw3 : IntKind.i64.wrap ((n : Int) + (m : Int) - (i : Int)) = (n : Int) + (m : Int) - (i : Int) := by rw [IntKind.wrap_i64]; omega
 have hb1 : (0 : Int) ≤ (i : Int) + (m : Int) := by omega
 have hin : i ≤ n := by omega
 have htn : ((i : Int) + (m : Int)).toNat = i + m := by omega
 have hb3 : (i : Int) ≤ (n : Int) := by omega
 clear hkk hik hold hROW hG hRl hN hNf hNh cellB cellV;clear hcs hvs
 go_enter Try.func75, Try.ntmps75
 go_wp2_with (first
  | (at_builtin; refine Lib.wpList_append_run _ rfl _ _ _ _ rfl _ _ rfl rfl _ _ (hrz _) ?_)
  | (at_builtin; refine cp_list rfl rfl rfl rfl (hcpA _ hE1 hE2 _ _) ?_)
  | (at_builtin; refine cp_list rfl rfl rfl rfl (hcpB _ (fun _ => rfl) (fun _ => rfl) _ _ _) ?_))
 go_region_law (refine cp_step rfl rfl (v := .slice (some ⟨w.heap.size, (i + m) * 2, none⟩) (n + m - (i + m)) (G - (i + m))) (u := .slice (some ⟨b, off + i * 2, none⟩) (n - i) (c - i)) (by simp [Act.eval, Act.put]) (by simp [Act.eval, Act.put]) (hcpB _ hF1 hF2 _ (G - (i + m)) (c - i)) ?_)
 go_wp2
 go_ret
 exact ⟨rfl, rfl⟩
theorem ins_walk : InsWalk Prog 75 22 57 2 (.agg #[.int .i64 0, .int .i64 0]) :=
 ⟨⟨Try.f75, Try.func75, by kernel_rfl, by kernel_rfl⟩, ins_none, ins_end, ins_shift, ins_grow⟩
theorem insertG_is : SpIs Prog F.slices_Insert_of_api_Glyph_api_Glyph fun _ args H => insertV 2 16 args H := by
 obtain ⟨i0, hi0, hz0, hzs, hzb⟩ := info_parts insI;exact insert_of (inf := i0) insT hi0 hz0 (by rw [hzs]; rfl) hzs hzb (by decide) ins_walk
end Go.Sw
end
section
namespace Go.Sw
open Go.RowKit
theorem names_ok : NamesOk Prog := NamesOk.of (by kernel_rfl)
theorem mixed_ok : Prog.follows .mixedOrders = true := Checked.mixed Go.Proofs.Try.checked
theorem laid_ok : laidOutB Prog = true := by kernel_rfl
theorem cloneGlyph_is : SpIs Prog F.slices_Clone_of_api_Glyph_api_Glyph fun _ args H => cloneV 2 16 args H :=
 clone_is (c := { P := Prog, kp := kpS, sp := fun _ => none }) (fun _ _ => rfl) names_ok mixed_ok (t := 22) (e := 57) (by kernel_rfl) fun call a H => (slices_Clone_of_api_Glyph_api_Glyph_body 0 _ call a H).trans (by
  unfold slices_Clone_of_api_Glyph_api_Glyph cloneF;simp only [be_22_0, ap_22, beR_bare])
theorem clonePlace_is : SpIs Prog F.slices_Clone_of_api_Place_api_Place fun _ args H => cloneV 3 12 args H :=
 clone_is (c := { P := Prog, kp := kpS, sp := fun _ => none }) (fun _ _ => rfl) names_ok mixed_ok (t := 98) (e := 137) (by kernel_rfl) fun call a H => (slices_Clone_of_api_Place_api_Place_body 0 _ call a H).trans (by
  unfold slices_Clone_of_api_Place_api_Place cloneF;simp only [be_98_0, ap_98, beR_bare])
theorem clonePart_is : SpIs Prog F.slices_Clone_of_sfnt_Part_sfnt_Part fun _ args H => cloneV 2 40 args H :=
 clone_is (c := { P := Prog, kp := kpS, sp := fun _ => none }) (fun _ _ => rfl) names_ok mixed_ok (t := 142) (e := 140) (by kernel_rfl) fun call a H => (slices_Clone_of_sfnt_Part_sfnt_Part_body 0 _ call a H).trans (by
  unfold slices_Clone_of_sfnt_Part_sfnt_Part cloneF;simp only [be_142_0, ap_142, beR_bare])
theorem more_is (f : FuncId) (s : Sp) (h : moreS f = some s) : SpIs Prog f s := by
 unfold moreS at h;cases h4 : Nat.beq f 4 with
 | true => have := Nat.eq_of_beq_eq_true h4; subst this; rw [h4, cond_true] at h; injection h with h; subst h; exact range_is (c := { P := Prog, kp := kpS, sp := fun _ => none, it := itS }) names_ok mixed_ok it_is (by kernel_rfl)
 | false =>
 rw [h4, cond_false] at h;cases h7 : Nat.beq f 7 with
 | true => have := Nat.eq_of_beq_eq_true h7; subst this; rw [h7, cond_true] at h; injection h with h; subst h; exact range_is (c := { P := Prog, kp := kpS, sp := fun _ => none, it := itS }) names_ok mixed_ok it_is (by kernel_rfl)
 | false =>
 rw [h7, cond_false] at h;cases h40 : Nat.beq f 40 with
 | true => have := Nat.eq_of_beq_eq_true h40; subst this; rw [h40, cond_true] at h; injection h with h; subst h; exact try_is
 | false =>
 rw [h40, cond_false] at h;cases h42 : Nat.beq f 42 with
 | true => have := Nat.eq_of_beq_eq_true h42; subst this; rw [h42, cond_true] at h; injection h with h; subst h; exact range_is (c := { P := Prog, kp := kpS, sp := fun _ => none, it := itS }) names_ok mixed_ok it_is (by kernel_rfl)
 | false =>
 rw [h42, cond_false] at h;cases h71 : Nat.beq f 71 with
 | true => have := Nat.eq_of_beq_eq_true h71; subst this; rw [h71, cond_true] at h; injection h with h; subst h; exact cloneGlyph_is
 | false =>
 rw [h71, cond_false] at h;cases h73 : Nat.beq f 73 with
 | true => have := Nat.eq_of_beq_eq_true h73; subst this; rw [h73, cond_true] at h; injection h with h; subst h; exact trim_is (c := { P := Prog, kp := kpS, sp := fun _ => none }) (fun _ _ => rfl) names_ok mixed_ok
 | false =>
 rw [h73, cond_false] at h;cases h75 : Nat.beq f 75 with
 | true => have := Nat.eq_of_beq_eq_true h75; subst this; rw [h75, cond_true] at h; injection h with h; subst h; exact insertG_is
 | false =>
 rw [h75, cond_false] at h;cases h115 : Nat.beq f 115 with
 | true => have := Nat.eq_of_beq_eq_true h115; subst this; rw [h115, cond_true] at h; injection h with h; subst h; exact clonePlace_is
 | false =>
 rw [h115, cond_false] at h;cases h134 : Nat.beq f 134 with
 | true => have := Nat.eq_of_beq_eq_true h134; subst this; rw [h134, cond_true] at h; injection h with h; subst h; exact clonePart_is
 | false =>
 rw [h134, cond_false] at h;cases h
theorem T_prog (k : Nat) : (T k).c.P = Prog := by unfold T C; rfl
theorem told_ok {k m : Nat} (hsp : okTrue (run (baseCfg Prog kpS moreS) m (k % 1000000) [] Heap.empty) = true) : SpOk (T k).c := by
 have h0 : CallOk Prog (run (baseCfg Prog kpS moreS) m) := run_ok (c := baseCfg Prog kpS moreS) names_ok mixed_ok (SpOk.base more_is) m;have h1 : SpOk (C k) := by
  unfold C;exact SpOk.of (P := Prog) (kp := kpS) (speaks := speaksT) (more := moreS) (k := k % 1000000) h0 hsp more_is
 exact h1
end Go.Sw
end
