/-
  Functions' forms, and what is proved of them, part 8.
-/
import Derived.Test.YtanfippcmdialaaSwCfg
import Derived.Test.YtanfippcmdialaaSwLib10
import Derived.RangeFuncKeeps
import Derived.RangeFuncLeaves
import Derived.Shelf.Abstract
import Derived.WalkKit
import Derived.OwnWalkIn
import Derived.TacticsInMore
import Derived.LoopNIn
import Derived.LoopIn
import Derived.Tactics
import Derived.Tactics2
import Derived.Defers
import Derived.Recover
import Derived.Laws.Pointers
import Derived.Laws.IdiomCopy
import Derived.Lib.Walk
import Derived.Lib.SliceRun
import Derived.Lib.JoinLaws
import Derived.Lib.AppendZeros
import Derived.Lib.AppendZerosOnto
import Derived.Lib.Overlaps
import Derived.Laws.Externs
import Derived.Laws.NewBlocks
import Derived.Deep.RegionLaw
import Derived.Test.YtanfippcmdialaaSwW6
import Derived.Test.YtanfippcmdialaaSwW1
import Derived.Test.YtanfippcmdialaaSwW7
import Derived.Test.YtanfippcmdialaaSwLib8
import Derived.Eval
import Derived.Test.YtanfippcmdialaaSwW5
set_option linter.unusedSimpArgs false
set_option linter.unusedVariables false
set_option linter.unusedSectionVars false
section
namespace Go.Sw
open Go.RowKit Go.Proofs Go.Shelf
attribute [local go_sem] Oper.semAt_some
set_option maxRecDepth 100000 in
set_option maxHeartbeats 1000000 in
theorem it_at_in (W : World) (f l id x : Int) (blk off m cap : Nat) (hf : 0 ≤ f) (hid : f ≤ id) (hil : id < 4294967296) (hm : 0 < m) (hm2 : m < 2 ^ 60)
  (hc : W.cell? ⟨blk, off + min (id - f).toNat (m - 1), none⟩ = some (.int .i64 x)) (hb : blk < W.heap.size) :
  CallsIn Fence.wide 1 Prog 81 #[.agg #[.int .i64 f, .int .i64 l, .slice (some ⟨blk, off, none⟩) m cap], .int .i64 id] W fun e W' => e = .returned (.int .i64 x) ∧ W' = W.alloc (.cells #[.int .i64 f, .int .i64 l, .slice (some ⟨blk, off, none⟩) m cap] 179) := by
 refine callsIn_of_wp Try.func81 rfl trivial ?_ rfl;simp only [Try.ntmps81, List.size_toArray, List.length_cons, List.length_nil, Nat.reduceAdd, Nat.reduceSub, Array.replicate_succ, Array.replicate_zero, List.push_toArray, List.append_toArray, List.nil_append, List.cons_append];have hw' : W.cell? ⟨blk, off + (min (id - f) ((m : Int) - 1)).toNat, none⟩ = some (.int .i64 x) := by
  rw [← hc, show (min (id - f) ((m : Int) - 1)).toNat = min (id - f).toNat (m - 1) by omega]
 by_cases hlt : (m : Int) - 1 < id - f
 ·have hw : W.cell? ⟨blk, off + (m - 1), none⟩ = some (.int .i64 x) := by
   rw [← hc, show min (id - f).toNat (m - 1) = m - 1 by omega]
  gi_wp2
  go_ret
  exact ⟨rfl, rfl⟩
 ·have hw : W.cell? ⟨blk, off + (id - f).toNat, none⟩ = some (.int .i64 x) := by
   rw [← hc, show min (id - f).toNat (m - 1) = (id - f).toNat by omega]
  gi_wp2
  go_ret
  exact ⟨rfl, rfl⟩
structure Pa where
 f : Int
 l : Int
 m : Nat
 x : Nat → Int
def paN (p : Pa) : Nat := (p.l - p.f + 1).toNat
def PaZ (z : Nat → Option Obj) (cs : Array Value) (o : Nat) (p : Pa) : Prop :=
 ∃ a cap, cs[o]? = some (.int .i64 p.f) ∧ cs[o + 1]? = some (.int .i64 p.l) ∧ cs[o + 2]? = some (.slice a p.m cap) ∧
  (0 < p.m → ∃ blk off ws el fz, a = some ⟨blk, off, none⟩ ∧ z blk = some (.cells ws el fz) ∧ ∀ j, j < paN p → ws[off + min j (p.m - 1)]? = some (.int .i64 (p.x j)))
def cntP (ps : List Pa) : Nat := (ps.map paN).sum
set_option maxRecDepth 100000 in
set_option maxHeartbeats 4000000 in
theorem it_all_in (z : Nat → Option Obj) (l0 : Nat) (J : Nat → (Nat → Prop) → World → Prop) (Jx : World → Prop) (Jp : List PanicEntry → World → Prop) (ps : List Pa)
  (hal : ∀ i T W o, J i T W → J i (fun k => T k ∨ k = W.heap.size) (W.alloc o))
  (htn : ∀ i T W W', J i T W → W.heap.size = W'.heap.size → W'.os = W.os → W'.tape = W.tape → W'.output = W.output → (∀ k, ¬ T k → W'.heap[k]? = W.heap[k]?) → J i T W')
  (hfz : ∀ i T W, J i T W → ∀ k o, z k = some o → W.heap[k]? = some o)
  (hY : ∀ (a : Nat) (p : Pa) (j : Nat) T W, ps[a]? = some p → j < paN p → J (cntP (ps.take a) + j) T W → YieldAt Fence.wide 0 Prog l0 #[.int .i64 (p.f + j), .int .i64 (p.x j)] W fun e W' =>
   (e = .returned (.bool true) ∧ J (cntP (ps.take a) + (j + 1)) T W' ∧ (∀ k, T k → W'.heap[k]? = W.heap[k]?) ∧ W.heap.size ≤ W'.heap.size) ∨ (e = .returned (.bool false) ∧ Jx W') ∨ ∃ ch, e = .panicked ch ∧ Jp ch W')
  (hok : ∀ p, p ∈ ps → 0 ≤ p.f ∧ p.l < 4294967296 ∧ p.m < 2 ^ 60 ∧ (p.f ≤ p.l → 0 < p.m))
  (W : World) (h0 : J 0 (fun _ => False) W) (BX bo tb toff : Nat) (hBX : W.cell? ⟨BX, bo, none⟩ = some (.pointer (some ⟨tb, toff, none⟩)))
  (tcs : Array Value) (tel : TypeId) (tfz : Nat × Nat) (htb : z tb = some (.cells tcs tel tfz)) (pa : Option Addr) (pcap : Nat) (htc : tcs[toff + 1]? = some (.slice pa ps.length pcap)) (hn : ps.length < 2 ^ 60)
  (hpa : ps ≠ [] → ∃ pb poff pcs pel pfz, pa = some ⟨pb, poff, none⟩ ∧ z pb = some (.cells pcs pel pfz) ∧ ∀ (a : Nat) p, ps[a]? = some p → PaZ z pcs (poff + a * 3) p) :
  CallsIn Fence.wide 3 Prog 80 #[.func (.yield l0) #[] #[], .pointer (some ⟨BX, bo, none⟩)] W fun e W' => ((∃ v, e = .returned v) ∧ ((∃ T, J (cntP ps) T W') ∨ Jx W')) ∨ ∃ ch, e = .panicked ch ∧ Jp ch W' := by
 have htW := hfz _ _ _ h0 _ _ htb;have hT1 : W.cell? ⟨tb, toff + 1, none⟩ = some (.slice pa ps.length pcap) := by simp only [World.cell?, htW, htc]; rfl
 refine callsIn_of_wp Try.func80 rfl trivial ?_ rfl;simp only [Try.ntmps80, List.size_toArray, List.length_cons, List.length_nil, Nat.reduceAdd, Nat.reduceSub, Array.replicate_succ, Array.replicate_zero, List.push_toArray, List.append_toArray, List.nil_append, List.cons_append]
 gi_wp2
 gi_loopw [11] (fun i wr => ∃ k : Nat, k ≤ ps.length ∧ i = .int .i64 k ∧ ∃ T, J (cntP (ps.take k)) T wr) (fun i _ => ps.length - (intOf i).toNat)
 case atStart => exact ⟨0, Nat.zero_le _, rfl, _, h0⟩
 case round =>
  obtain ⟨k, hk, rfl, T, hJ⟩ := hrel;by_cases hlt : k < ps.length
  ·obtain ⟨p, hp⟩ : ∃ p, ps[k]? = some p := ⟨_, List.getElem?_eq_getElem hlt⟩
   obtain ⟨pb, poff, pcs, pel, pfz, rfl, hzp, hPZ⟩ := hpa (fun e => by subst e; simp at hlt);obtain ⟨va, cap, c1, c2, c3, hv⟩ := hPZ k p hp;have hwp := hfz _ _ _ hJ _ _ hzp;have d1 : wr.cell? ⟨pb, poff + k * 3, none⟩ = some (.int .i64 p.f) := by simp only [World.cell?, hwp, c1]; rfl
   have d2 : wr.cell? ⟨pb, poff + k * 3 + 1, none⟩ = some (.int .i64 p.l) := by simp only [World.cell?, hwp, c2]; rfl
   have d3 : wr.cell? ⟨pb, poff + k * 3 + 2, none⟩ = some (.slice va p.m cap) := by simp only [World.cell?, hwp, c3]; rfl
   have hpo := hok p (List.mem_of_getElem? hp);obtain ⟨w1, hw1⟩ : ∃ w1, w1 = wr := ⟨_, rfl⟩
   subst hw1
   gi_wp2
   gi_loopw [5] (fun i w2 => ∃ j : Nat, j ≤ paN p ∧ i = .int .i64 (p.f + j) ∧ ∃ T2, J (cntP (ps.take k) + j) T2 w2 ∧ T2 w1.heap.size ∧ w2.heap[w1.heap.size]? = some (.cells #[.int .i64 p.f, .int .i64 p.l, .slice va p.m cap] 179 (0, 0)))
    (fun i _ => paN p - (intOf i - p.f).toNat)
   case atStart =>
    refine ⟨0, Nat.zero_le _, by simp, _, hal _ _ _ _ hJ, .inr rfl, heap_alloc_new' _ _⟩
   case round =>
    obtain ⟨j, hj, rfl, T2, hJ2, hT2, hbx⟩ := hrel;have b1 : wr.cell? ⟨w1.heap.size, 0, none⟩ = some (.int .i64 p.f) := by simp only [World.cell?, hbx]; rfl
    have b2 : wr.cell? ⟨w1.heap.size, 1, none⟩ = some (.int .i64 p.l) := by simp only [World.cell?, hbx]; rfl
    have b3 : wr.cell? ⟨w1.heap.size, 2, none⟩ = some (.slice va p.m cap) := by simp only [World.cell?, hbx]; rfl
    have hc0 : wr.cell? ⟨w1.heap.size, 0, none⟩ |>.isSome := by rw [b1]; rfl
    by_cases hjl : j < paN p
    ·have hle : p.f ≤ p.l := by unfold paN at hjl; omega
     have hjp : p.f + (j : Int) ≤ p.l := by unfold paN at hjl; omega
     have hvl := hpo.2.2.2 hle;obtain ⟨blk, off, ws, wel, wfz, rfl, hzw, hws⟩ := hv hvl;have hww := hfz _ _ _ hJ2 _ _ hzw;have hval : wr.cell? ⟨blk, off + min (p.f + (j : Int) - p.f).toNat (p.m - 1), none⟩ = some (.int .i64 (p.x j)) := by
      rw [show (p.f + (j : Int) - p.f).toNat = j by omega];simp only [World.cell?, hww, hws j hjl]; rfl
     have hbl : blk < wr.heap.size := (Array.getElem?_eq_some_iff.1 hww).1;have hat := it_at_in wr p.f p.l (p.f + j) (p.x j) blk off p.m cap hpo.1 (by omega) (by omega) hvl hpo.2.2.1 hval hbl;have hJ3 := hal _ _ _ (.cells #[.int .i64 p.f, .int .i64 p.l, .slice (some ⟨blk, off, none⟩) p.m cap] 179) hJ2;obtain ⟨fn, tmps, assign, body, hy, hR⟩ := hY k p j _ _ hp hjl hJ3;have hf81 : Fence.wide.fn 81 := trivial
     gi_wp2_with (gi_at_call 81; refine (callsIn_wide.2 (callsIn_wide.1 hat)).mono ?_; rintro e w' ⟨rfl, rfl⟩)
     refine (roundIn_any hR).mono ?_;rintro e w3 (⟨rfl, hJ4, hkeep, _⟩ | ⟨rfl, hx⟩ | ⟨ch, rfl, hpn⟩)
     ·have hbx3 : w3.heap[w1.heap.size]? = some (.cells #[.int .i64 p.f, .int .i64 p.l, .slice (some ⟨blk, off, none⟩) p.m cap] 179 (0, 0)) :=
       (hkeep _ (.inl hT2)).trans ((Below.heap_alloc wr _ _ (Array.getElem?_eq_some_iff.1 hbx).1).trans hbx)
      gi_wp2
      go_roundw
      ·exact ⟨j + 1, hjl, by congr 1; push_cast; omega, _, hJ4, .inl hT2, hbx3⟩
      ·simp [intOf]; omega
     ·gi_wp2
      refine bodyPost_ret (results_none rfl _ _ _) rfl ?_;exact .inl ⟨⟨_, rfl⟩, .inr hx⟩
     ·gi_wp2
      exact ⟨rfl, .inr ⟨_, rfl, hpn⟩⟩
    ·have hlj : p.l < p.f + (j : Int) := by unfold paN at hjl; omega
     gi_wp2
     obtain rfl : j = paN p := by omega
     go_roundw
     ·refine ⟨k + 1, hlt, by simp, T2, ?_⟩;have : cntP (ps.take (k + 1)) = cntP (ps.take k) + paN p := by
       rw [List.take_add_one, hp]; simp [cntP]
      rw [this]; exact hJ2
     ·simp [intOf]; omega
  ·obtain rfl : k = ps.length := by omega
   rw [List.take_length] at hJ
   gi_wp2
   go_end0
   exact .inl ⟨⟨_, rfl⟩, .inl ⟨T, hJ⟩⟩
def paL (p : Pa) : List (List Int) := (List.range (paN p)).map fun j => [p.f + (j : Nat), p.x j]
theorem itm_some {α β : Type} {f : α → Option β} {g : α → β} (hg : ∀ y z, f y = some z → z = g y) : ∀ {l : List α} {a : List β}, l.mapM f = some a → a = l.map g ∧ ∀ y, y ∈ l → (f y).isSome = true
 | [], a, h => by simp at h; subst h; exact ⟨rfl, fun y hy => by cases hy⟩
 | y :: l, a, h => by
  rw [List.mapM_cons] at h;cases hy : f y with
  | none => rw [hy] at h; simp at h
  | some z =>
   cases hl : l.mapM f with
   | none => rw [hy, hl] at h; simp at h
   | some b =>
    rw [hy, hl] at h;obtain ⟨h1, h2⟩ := itm_some hg hl;have h : z :: b = a := by simpa using h
    subst h;refine ⟨by rw [List.map_cons, ← h1, hg _ _ hy], fun y' hy' => ?_⟩;rcases List.mem_cons.1 hy' with rfl | hm
    ·simp [hy]
    ·exact h2 _ hm
def itValX (vals : List Value) (j : Nat) : Int := match vals[min j (vals.length - 1)]? with | some (.int .i64 x) => x | _ => 0
theorem it_partE_is {f l : Int} {vals : List Value} {a : List (List Int)} (h : partE f l vals = some a) :
  0 ≤ f ∧ l < 4294967296 ∧ vals.length < 2 ^ 60 ∧ a = paL ⟨f, l, vals.length, itValX vals⟩ ∧ ∀ j, j < (l - f + 1).toNat → vals[min j (vals.length - 1)]? = some (.int .i64 (itValX vals j)) := by
 unfold partE at h;split at h
 ·rename_i hc;obtain ⟨h1, h2⟩ := itm_some (g := fun j => [f + (j : Nat), itValX vals j]) (fun y z hz => by
   unfold itValX;split at hz
   ·rename_i e; rw [e]; injection hz with hz; exact hz.symm
   ·cases hz) h
  refine ⟨hc.1, hc.2.1, hc.2.2, h1, fun j hj => ?_⟩;have := h2 j (List.mem_range.2 hj);unfold itValX;split at this
  ·rename_i e; rw [e]
  ·cases this
 ·cases h
theorem it_parts_of {μ : Mu} {cs : Array Value} : ∀ (n : Nat) (vs : List Value) (L : List (List Int)) (o : Nat), partsE n vs = some L → o + vs.length ≤ cs.size → (∀ (i : Nat) v v', vs[i]? = some v → cs[o + i]? = some v' → VR μ v v') →
  ∃ pl : List Pa, pl.length = n ∧ (∀ p, p ∈ pl → 0 ≤ p.f ∧ p.l < 4294967296 ∧ p.m < 2 ^ 60 ∧ (p.f ≤ p.l → 0 < p.m)) ∧ (∀ (a : Nat) p, pl[a]? = some p → PaZ μ.z cs (o + a * 3) p) ∧ L = pl.flatMap paL := by
 intro n
 induction n with
 | zero =>
  intro vs L o h _ _;cases vs with
  | nil => unfold partsE at h; injection h with h; subst h; exact ⟨[], rfl, fun p hp => (by cases hp), fun a p hp => (by cases hp), rfl⟩
  | cons v vs => unfold partsE at h; cases h
 | succ n ih =>
  intro vs L o h hs hv;unfold partsE at h;split at h
  ·rename_i e; cases e
  ·rename_i n' f l m pth g ws ys r e;injection e with e; subst e;cases hm : Nat.beq m ws.size with
   | false => rw [hm] at h; cases h
   | true =>
    rw [hm] at h;have hm := Nat.eq_of_beq_eq_true hm;cases hp : partE f l ws.toList with
    | none => rw [hp] at h; cases h
    | some a =>
     cases hr : partsE n r with
     | none => rw [hp, hr] at h; cases h
     | some b =>
      rw [hp, hr] at h;have h : some (a ++ b) = some L := h;injection h with h; subst h;simp only [List.length_cons] at hs;obtain ⟨pl, h1, h2, h3, h4⟩ := ih r b (o + 3) hr (by omega) fun i v v' hi hi' => hv (i + 3) v v' (by simpa using hi) (by rw [show o + (i + 3) = o + 3 + i by omega]; exact hi');obtain ⟨q1, q2, q3, q4, q5⟩ := it_partE_is hp;have g0 : ∀ k, k < 3 → ∃ v', cs[o + k]? = some v' := fun k hk => ⟨_, Array.getElem?_eq_getElem (by omega)⟩
      obtain ⟨c0, e0⟩ := g0 0 (by omega);obtain ⟨c1, e1⟩ := g0 1 (by omega);obtain ⟨c2, e2⟩ := g0 2 (by omega);have r0 := hv 0 _ _ rfl e0;have r1 := hv 1 _ _ rfl e1;have r2 := hv 2 _ _ rfl e2;refine ⟨⟨f, l, ws.toList.length, itValX ws.toList⟩ :: pl, by simp [h1], fun p hp => ?_, fun a' p ha => ?_, ?_⟩
      ·rcases List.mem_cons.1 hp with rfl | hp
       ·refine ⟨q1, q2, q3, fun hle => ?_⟩;have := q5 0 (by have hle' : f ≤ l := hle; omega);rcases Nat.eq_zero_or_pos ws.toList.length with hz | hz
        ·rw [List.length_eq_zero_iff.1 hz] at this; cases this
        ·exact hz
       ·exact h2 p hp
      ·cases a' with
       | succ a' => rw [show o + (a' + 1) * 3 = o + 3 + a' * 3 by omega]; exact h3 a' p (by simpa using ha)
       | zero =>
        simp at ha; subst ha;cases r0; cases r1;cases r2 with
        | list _ _ _ _ _ blk off cap zcs el fz hz hl hc hg h0 hx =>
         refine ⟨some ⟨blk, off, none⟩, cap, by simpa using e0, by simpa using e1, by rw [Nat.zero_mul, Nat.add_zero, e2, hm], fun hpos => ⟨blk, off, zcs, el, fz, rfl, hz, fun j hj => ?_⟩⟩;have hj' := q5 j hj;have hlt := (List.getElem?_eq_some_iff.1 hj').1;have hlt' : min j (ws.toList.length - 1) < ws.size := by simpa using hlt
         obtain ⟨v', hv'⟩ : ∃ v', zcs[off + min j (ws.toList.length - 1)]? = some v' := ⟨_, Array.getElem?_eq_getElem (by omega)⟩
         have := hx _ _ _ (by rw [← Array.getElem?_toList]; exact hj') hv';cases this;exact hv'
        | empty _ _ _ _ x cap hn hs' =>
         have hz : ws.toList.length = 0 := by rw [Array.length_toList]; exact hm.symm
         refine ⟨x, cap, by simpa using e0, by simpa using e1, by rw [Nat.zero_mul, Nat.add_zero, e2]; show some (Value.slice x 0 cap) = some (Value.slice x ws.toList.length cap); rw [hz], fun hpos => ?_⟩;simp only [hz] at hpos; omega
      ·rw [List.flatMap_cons, ← h4, q4]
  ·cases h
theorem paL_len (p : Pa) : (paL p).length = paN p := by simp [paL]
theorem itf_len : ∀ pl : List Pa, (pl.flatMap paL).length = cntP pl
 | [] => rfl
 | p :: pl => by simp [List.flatMap_cons, itf_len pl, paL_len, cntP]
theorem itf_at : ∀ (pl : List Pa) (a : Nat) (p : Pa) (j : Nat), pl[a]? = some p → j < paN p → (pl.flatMap paL)[cntP (pl.take a) + j]? = some [p.f + (j : Nat), p.x j]
 | [], a, p, j, h, _ => by simp at h
 | q :: pl, 0, p, j, h, hj => by
  simp at h; subst h;rw [List.flatMap_cons, List.getElem?_append_left (by simp [cntP, paL_len]; exact hj)];simp [paL, cntP, hj]
 | q :: pl, a + 1, p, j, h, hj => by
  have := itf_at pl a p j (by simpa using h) hj;rw [List.flatMap_cons, List.getElem?_append_right (by simp [cntP, paL_len]; omega)];rw [← this]; congr 1;simp [cntP, paL_len]; omega
set_option maxRecDepth 100000 in
theorem it_is : ItOk Prog itS := by
 intro v H L hL w0 μ w v' hH hV;unfold itS itAll at hL;split at hL;rotate_left
 ·cases hL
 rename_i f xs ys;cases hb : (Nat.beq f 80 && Nat.beq xs.size 0) with
 | false => rw [hb] at hL; cases hL
 | true =>
  rw [hb] at hL;obtain ⟨hb1, hb2⟩ := Bool.and_eq_true_iff.1 hb;have hb1 := Nat.eq_of_beq_eq_true hb1;have hb2 := Nat.eq_of_beq_eq_true hb2;subst hb1;simp only [cond_true] at hL;split at hL;rotate_left
  ·cases hL
  rename_i b hys;split at hL;rotate_left
  ·cases hL
  rename_i n0 p0 g0 ts ty0 ez ro hblk;split at hL;rotate_left
  ·cases hL
  rename_i t0 n p1 g1 ps ty1 hts;split at hL;rotate_left
  ·cases hL
  rename_i hn;cases hV with
  | func _ _ xs' _ ys' h1 h2 h3 h4 =>
   have hx' : xs' = #[] := by apply Array.eq_empty_of_size_eq_zero; omega
   subst hx';obtain ⟨y', r', hy', hyr, hr'⟩ := VRs.cons_inv (by rw [← hys]; exact VRs.of_arr h3 h4);have := hr'.nil_inv; subst this;have hye : ys' = #[y'] := by apply Array.toList_inj.1; rw [hy']
   subst hye;cases hyr with
   | ptr _ _ m hm =>
    obtain ⟨v1, hc1, hr1, _⟩ := hH.cell hblk hm (off := 0) rfl;cases hr1 with
    | box _ _ _ _ _ tb toff tcs tel tfz hz hl h0 hx =>
     have htl : ts.size = 2 := by rw [← Array.length_toList, hts]; rfl
     obtain ⟨v2, hv2⟩ : ∃ v2, tcs[toff + 1]? = some v2 := ⟨_, Array.getElem?_eq_getElem (by omega)⟩
     have hr2 := hx 1 _ _ (by rw [← Array.getElem?_toList, hts]; rfl) hv2
     have key : ∃ (pl : List Pa) (pa : Option Addr) (pcap : Nat), L = pl.flatMap paL ∧ (∀ p, p ∈ pl → 0 ≤ p.f ∧ p.l < 4294967296 ∧ p.m < 2 ^ 60 ∧ (p.f ≤ p.l → 0 < p.m)) ∧ pl.length = n ∧ v2 = .slice pa pl.length pcap ∧
       (pl ≠ [] → ∃ pb poff pcs pel pfz, pa = some ⟨pb, poff, none⟩ ∧ μ.z pb = some (.cells pcs pel pfz) ∧ ∀ (a : Nat) p, pl[a]? = some p → PaZ μ.z pcs (poff + a * 3) p) := by
      cases hr2 with
      | list _ _ _ _ _ pb poff pcap pcs pel pfz hz2 hl2 hc2 hg2 h02 hx2 =>
       obtain ⟨pl, e1, e2, e3, e4⟩ := it_parts_of (μ := μ) (cs := pcs) n ps.toList L poff hL (by simpa using hl2) fun i v v' hi hi' => hx2 i v v' (by rw [← Array.getElem?_toList]; exact hi) hi';exact ⟨pl, _, pcap, e4, e2, e1, by rw [e1], fun _ => ⟨pb, poff, pcs, pel, pfz, rfl, hz2, e3⟩⟩
      | empty _ _ _ _ x pcap hn2 hs2 =>
       generalize ps.toList = psl at hL;cases psl with
       | nil =>
        unfold partsE at hL; injection hL with hL; subst hL;exact ⟨[], x, pcap, rfl, fun p hp => (by cases hp), rfl, rfl, fun h => (h rfl).elim⟩
       | cons a r => unfold partsE at hL; cases hL
     obtain ⟨pl, pa, pcap, rfl, hok, hlen, rfl, hpa⟩ := key;refine ⟨80, #[.pointer (some ⟨m.blk, m.base + 0, none⟩)], rfl, ⟨Try.f80, Try.func80, rfl, by decide⟩, fun l0 J Jx Jp hal htn hfz hY h0J => ?_⟩;have := it_all_in μ.z l0 J Jx Jp pl hal htn hfz (fun a p j T W hp hj hJ => hY _ T W _ hJ (itf_at pl a p j hp hj)) hok w h0J m.blk (m.base + 0) tb toff hc1 tcs tel tfz hz pa pcap hv2 (by rw [hlen]; exact hn) hpa;rw [itf_len];exact callsIn_wide.1 this
end Go.Sw
end
section
namespace Go.Sw
open Go.RowKit Go.Proofs Go.Lib
theorem cp_wp {P : Program} {w : World} {o : Oper} {a : Act} {K : Act → World → Prop} {Q : Exit → Act → World → Prop} {d s : Operand} {t t' : TypeId} (ho : o.op = .call { callee := .builtin .copy, args := #[d, s], argTypes := #[t, t'] }) {v u v' : Value} {w' : World} (hd : a.eval d = v) (hs : a.eval s = u)
  (hr : (Builtin.copy_ #[t, t'] o.type #[v, u]).run P w = .ok v' w') (h : K (a.put o.dst v') w') : o.wp P a w K Q := by
 refine wp_value (v := v') (w' := w') ?_ h;simp [execOp, ho, resolve, invoke, builtin, hd, hs, hr, Result.andThen]
theorem cp_list {P : Program} {w : World} {ops : Array Oper} {rest : List Oper} {o : Oper} {a : Act} {Q : Exit → Act → World → Prop} (hgd : o.guard = none) {d s : Operand} {t t' : TypeId} (ho : o.op = .call { callee := .builtin .copy, args := #[d, s], argTypes := #[t, t'] }) {v u v' : Value} {w' : World} (hd : a.eval d = v) (hs : a.eval s = u)
  (hr : (Builtin.copy_ #[t, t'] o.type #[v, u]).run P w = .ok v' w') (h : wpList P ops Q rest (a.put o.dst v') w') : wpList P ops Q (o :: rest) a w :=
 wpList_plain hgd fun _ hK => cp_wp ho hd hs hr (hK _ _ h)
theorem cp_step {P : Program} {ops : Array Oper} {o : Oper} {a : Act} {w : World} {K : Act → World → Prop} {Q : Exit → Act → World → Prop} {E : Prop} (hg : o.guard = none) {d s : Operand} {t t' : TypeId} (ho : o.op = .call { callee := .builtin .copy, args := #[d, s], argTypes := #[t, t'] }) {v u v' : Value} {w' : World} (hd : a.eval d = v) (hs : a.eval s = u)
  (hr : (Builtin.copy_ #[t, t'] o.type #[v, u]).run P w = .ok v' w') (h : K (a.put o.dst v') w') : if Region.wanted o (yielded ops a.tmps) = true then Oper.wp P o a w K Q else E := by
 have hw : Region.wanted o (yielded ops a.tmps) = true := by simp [Region.wanted, hg]
 rw [if_pos hw];exact cp_wp ho hd hs hr h
theorem run_copyN {P : Program} (w : World) (dT sT ty elem : TypeId) (b o dLen dCap : Nat) (a : Addr) (sLen sCap sz : Nat) (cs : List Value)
  (hu : P.underlying dT = some (.slice elem)) (hs : (P.info? elem).map (·.size) = some sz) (hn : cs.length = Nat.min sLen dLen * sz)
  (hsrc : ∀ j v, cs[j]? = some v → w.cell? (a.add j) = some v) (hc : ∀ j, j < cs.length → (w.cell? ⟨b, o + j, none⟩).isSome = true) (hf : ∀ j, j < cs.length → w.frozen? ⟨b, o + j, none⟩ = false) (h1 : ∀ v ∈ cs, v.oneCell' = true) :
  (Builtin.copy_ #[dT, sT] ty #[.slice (some ⟨b, o, none⟩) dLen dCap, .slice (some a) sLen sCap]).run P w = .ok (goInt (Nat.min sLen dLen)) (w.setCells b o cs) := by
 have hl := run_loadCells_list (P := P) w a cs hsrc;have hst := run_storeCells_cells (P := P) b o cs 0 w (by simpa using hc) (by simpa using hf) h1;cases hq : P.info? elem with
 | none => simp [hq] at hs
 | some i =>
  have hi : i.size = sz := by simpa [hq] using hs
  rw [hn] at hl;simp [Builtin.copy_, run_underlying hu, Builtin.lenOf, Builtin.firstCells, sizeOf, typeInfo, hq, hi, hl, hst]
theorem insT : Prog.underlying 22 = some (.slice 57) := by kernel_rfl
theorem insZ : (Prog.info? 57).map (·.size) = some 2 := by kernel_rfl
theorem insI : (Prog.info? 57).map (fun i => (i.zero, i.size, i.bytes)) = some (some (.agg #[.int .i64 0, .int .i64 0]), 2, 16) := by kernel_rfl
set_option maxRecDepth 100000 in
set_option maxHeartbeats 4000000 in
theorem ins_none (base : Option Addr) (n c i : Nat) (vb : Option Addr) (vc : Nat) (w : World) (hi : i ≤ n) (hn : n ≤ c) (hb : base = none → n = 0 ∧ c = 0) :
  Calls Prog 75 #[.slice base n c, .int .i64 (i : Nat), .slice vb 0 vc] w fun e w' => e = .returned (.slice base n c) ∧ w' = w := by
 go_enter Try.func75, Try.ntmps75
 cases base with
 | none =>
  obtain ⟨rfl, rfl⟩ := hb rfl;obtain rfl : i = 0 := by omega
  go_wp2
  go_ret
  exact ⟨rfl, rfl⟩
 | some a =>
  obtain ⟨ab, ao, asp⟩ := a
  go_wp2
  all_goals (go_ret; exact ⟨rfl, rfl⟩)
set_option maxRecDepth 100000 in
set_option maxHeartbeats 4000000 in
theorem ins_end (base : Option Addr) (n c : Nat) (vb : Option Addr) (m vc : Nat) (w : World) (v' : Value) (w1 : World) (hn : n ≤ c) (hb : base = none → n = 0 ∧ c = 0) (hm : 0 < m) (hr : (Builtin.append_ #[22, 22] 22 #[.slice base n c, .slice vb m vc]).run Prog w = .ok v' w1) :
  Calls Prog 75 #[.slice base n c, .int .i64 (n : Nat), .slice vb m vc] w fun e w' => e = .returned v' ∧ w' = w1 := by
 have hz1 : ¬ ((m : Int) = 0) := by omega
 go_enter Try.func75, Try.ntmps75
 cases base with
 | none =>
  obtain ⟨rfl, rfl⟩ := hb rfl
  go_wp2_with (at_builtin; refine Lib.wpList_append_run _ rfl _ _ _ _ rfl _ _ rfl rfl _ _ hr ?_)
  go_ret
  exact ⟨rfl, rfl⟩
 | some a =>
  obtain ⟨ab, ao, asp⟩ := a
  go_wp2_with (at_builtin; refine Lib.wpList_append_run _ rfl _ _ _ _ rfl _ _ rfl rfl _ _ hr ?_)
  all_goals (go_ret; exact ⟨rfl, rfl⟩)
set_option maxRecDepth 100000 in
set_option maxHeartbeats 4000000 in
theorem ins_shift (b off n c i vb voff m vc : Nat) (CS VS : Array Value) (el el2 : TypeId) (cs vs : List Value) (w : World) (hi : i < n) (hm : 0 < m) (hroom : n + m ≤ c) (h31 : n + m ≤ 2 ^ 31) (hvb : vb ≠ b) (g1 : w.heap[b]? = some (.cells CS el (0, 0))) (g2 : w.heap[vb]? = some (.cells VS el2 (0, 0))) (f1 : off + c * 2 ≤ CS.size) (f2 : voff + m * 2 ≤ VS.size)
  (hcs : cs = (CS.toList.drop off).take (n * 2)) (hvs : vs = (VS.toList.drop voff).take (m * 2)) (h1c : Ones cs) (h1v : Ones vs) :
  Calls Prog 75 #[.slice (some ⟨b, off, none⟩) n c, .int .i64 (i : Nat), .slice (some ⟨vb, voff, none⟩) m vc] w fun e w' => e = .returned (.slice (some ⟨b, off, none⟩) (n + m) c) ∧ w' = (w.drew.setCells b (off + (i + m) * 2) (cs.drop (i * 2))).setCells b (off + i * 2) vs := by
 have hz1 : ¬ ((m : Int) = 0) := by omega
 have hz2 : ¬ ((i : Int) = (n : Int)) := by omega
 have hz3 : ¬ (c : Int) < (n : Int) + (m : Int) := by omega
 have hcl : cs.length = n * 2 := by rw [hcs, List.length_take, List.length_drop, Array.length_toList]; omega
 have hvl : vs.length = m * 2 := by rw [hvs, List.length_take, List.length_drop, Array.length_toList]; omega
 have cellB : ∀ j, w.cell? ⟨b, j, none⟩ = CS[j]? := fun j => by simp [World.cell?, g1]
 have cellV : ∀ j, w.cell? ⟨vb, j, none⟩ = VS[j]? := fun j => by simp [World.cell?, g2]
 have frB : ∀ j, w.frozen? ⟨b, j, none⟩ = false := fun j => by simp [World.frozen?, g1]
 have frV : ∀ j, w.frozen? ⟨vb, j, none⟩ = false := fun j => by simp [World.frozen?, g2]
 have atB : ∀ j v, cs[j]? = some v → w.cell? ⟨b, off + j, none⟩ = some v := fun j v hj => by
  rw [cellB];rw [hcs, List.getElem?_take] at hj;split at hj
  ·rw [List.getElem?_drop] at hj;simpa using hj
  ·cases hj
 have atV : ∀ j v, vs[j]? = some v → w.cell? ⟨vb, voff + j, none⟩ = some v := fun j v hj => by
  rw [cellV];rw [hvs, List.getElem?_take] at hj;split at hj
  ·rw [List.getElem?_drop] at hj;simpa using hj
  ·cases hj
 have hsa : w.shape? vb = some (el2, VS.size) := by simp [World.shape?, g2]
 have hsb : w.shape? b = some (el, CS.size) := by simp [World.shape?, g1]
 have hov : ∀ lb cb, (callFunc 148 #[.slice (some ⟨vb, voff, none⟩) m vc, .slice (some ⟨b, off + (i + m) * 2, none⟩) lb cb]).run Prog w = .ok (.value (.bool false)) w := fun lb cb => by
  rw [run_callFunc_extern (f := 148) (fn := Try.f148) Try.func148 (by kernel_rfl) (by kernel_rfl) (by kernel_rfl) (e := Extern.SlicesOverlaps.overlaps #[22, 22] #[4]) (by kernel_rfl),
   Lib.run_overlaps_apart w 22 4 57 insT 2 (fun w => by kernel_rfl) ⟨vb, voff, none⟩ ⟨b, off + (i + m) * 2, none⟩ m vc lb cb hvb el2 el VS.size CS.size hsa hsb (by omega) (frV _) (frV _)]
  rfl
 have hdl : (cs.drop (i * 2)).length = (n - i) * 2 := by rw [List.length_drop, hcl]; omega
 have hw1 : IntKind.i64.wrap ((i : Int) + (m : Int)) = (i : Int) + (m : Int) := by rw [IntKind.wrap_i64]; omega
 have hw2 : IntKind.i64.wrap ((n : Int) + (m : Int)) = (n : Int) + (m : Int) := by rw [IntKind.wrap_i64]; omega
 have hb1 : (0 : Int) ≤ (i : Int) + (m : Int) := by omega
 have hb1' : (0 : Int) ≤ (n : Int) + (m : Int) := by omega
 have hin : i ≤ n := by omega
 have htn : ((i : Int) + (m : Int)).toNat = i + m := by omega
 have htn' : ((n : Int) + (m : Int)).toNat = n + m := by omega
 have hb2 : ¬ (c = i + m) := by omega
 have hb3 : (i : Int) ≤ (n : Int) + (m : Int) := by omega
 have hb4 : ¬ (c = i) := by omega
 have hcp1 : ∀ ty dc sc, (Builtin.copy_ #[22, 22] ty #[.slice (some ⟨b, off + (i + m) * 2, none⟩) (n + m - (i + m)) dc, .slice (some ⟨b, off + i * 2, none⟩) (n + m - i) sc]).run Prog w.drew = .ok (goInt (Nat.min (n + m - i) (n + m - (i + m)))) (w.drew.setCells b (off + (i + m) * 2) (cs.drop (i * 2))) := fun ty dc sc =>
  run_copyN w.drew 22 22 ty 57 b (off + (i + m) * 2) (n + m - (i + m)) dc ⟨b, off + i * 2, none⟩ (n + m - i) sc 2 (cs.drop (i * 2)) insT insZ (by rw [hdl, show Nat.min (n + m - i) (n + m - (i + m)) = n - i by simp only [Nat.min_def]; split <;> omega])
   (fun j v hj => by rw [Addr.add_lit, Nat.add_assoc]; exact atB (i * 2 + j) v (by rwa [List.getElem?_drop] at hj))
   (fun j hj => by
    show (w.cell? _).isSome = true;rw [cellB, Array.getElem?_eq_getElem (by omega)]; rfl) (fun j hj => frB _) (fun v hv => h1c v (List.mem_of_mem_drop hv))
 obtain ⟨W1, hW1⟩ : ∃ W1, W1 = w.drew.setCells b (off + (i + m) * 2) (cs.drop (i * 2)) := ⟨_, rfl⟩
 have hW1r : W1 = w.drew.setRow b (splice CS.toList (off + (i + m) * 2) (cs.drop (i * 2))).toArray := by rw [hW1]; exact setCells_row b el (0, 0) _ _ CS w.drew g1 (by omega)
 have hW1b : W1.heap[b]? = some (.cells (splice CS.toList (off + (i + m) * 2) (cs.drop (i * 2))).toArray el (0, 0)) := by rw [hW1r]; exact setRow_heap _ _ _ _ _ _ g1
 have hspl : (splice CS.toList (off + (i + m) * 2) (cs.drop (i * 2))).length = CS.size := by rw [splice_length _ _ _ (by rw [Array.length_toList (xs := CS)]; omega)]; simp
 have hcp2 : ∀ (W : World), (∀ x, W.cell? x = W1.cell? x) → (∀ x, W.frozen? x = W1.frozen? x) → ∀ ty dc, (Builtin.copy_ #[22, 22] ty #[.slice (some ⟨b, off + i * 2, none⟩) (n + m - i) dc, .slice (some ⟨vb, voff, none⟩) m vc]).run Prog W = .ok (goInt (Nat.min m (n + m - i))) (W.setCells b (off + i * 2) vs) := fun W hWc hWf ty dc =>
  run_copyN W 22 22 ty 57 b (off + i * 2) (n + m - i) dc ⟨vb, voff, none⟩ m vc 2 vs insT insZ (by rw [hvl, show Nat.min m (n + m - i) = m by simp only [Nat.min_def]; split <;> omega])
   (fun j v hj => by
    rw [Addr.add_lit, hWc, hW1, World.cell?_setCells_out b _ _ _ _ (fun h _ => absurd h hvb)];exact atV j v hj)
   (fun j hj => by
    rw [hWc];simp only [World.cell?, hW1b];rw [Array.getElem?_eq_getElem (by rw [List.size_toArray, hspl]; omega)]; rfl) (fun j hj => by rw [hWf]; simp [World.frozen?, hW1b]) h1v
 rw [← hW1] at hcp1;clear hcs hvs
 go_enter Try.func75, Try.ntmps75
 go_wp2_with (simp only [hov])
 go_region_law (refine cp_step rfl rfl (by simp [Act.eval, Act.put]) (by simp [Act.eval, Act.put]) (hcp1 _ _ _) ?_)
 go_wp2_with (at_builtin; refine cp_list rfl rfl rfl rfl (hcp2 _ (fun _ => rfl) (fun _ => rfl) _ _) ?_)
 go_ret
 first | exact ⟨rfl, rfl⟩ | exact ⟨rfl, by rw [hW1]⟩
set_option maxRecDepth 100000 in
set_option maxHeartbeats 4000000 in
theorem ins_grow (b off n c i vb voff m vc : Nat) (CS VS : Array Value) (el el2 : TypeId) (cs vs : List Value) (w : World) (hi : i < n) (hm : 0 < m) (hnc : n ≤ c) (hroom : c < n + m) (h31 : n + m ≤ 2 ^ 31) (g1 : w.heap[b]? = some (.cells CS el (0, 0))) (g2 : w.heap[vb]? = some (.cells VS el2 (0, 0))) (f1 : off + n * 2 ≤ CS.size) (f2 : voff + m * 2 ≤ VS.size)
  (hcs : cs = (CS.toList.drop off).take (n * 2)) (hvs : vs = (VS.toList.drop voff).take (m * 2)) (h1c : Ones cs) (h1v : Ones vs) :
  ∃ G, n + m ≤ G ∧ Calls Prog 75 #[.slice (some ⟨b, off, none⟩) n c, .int .i64 (i : Nat), .slice (some ⟨vb, voff, none⟩) m vc] w fun r w' => r = .returned (.slice (some ⟨w.heap.size, 0, none⟩) (n + m) G) ∧
   w' = (((w.alloc (.cells ((cs.take (i * 2)).toArray ++ Builtin.zeroCells (Value.agg #[.int .i64 0, .int .i64 0]).cells (n + m - i) ++ Builtin.zeroCells (Value.agg #[.int .i64 0, .int .i64 0]).cells (G - (n + m))) 57)).drew.setCells w.heap.size (i * 2) vs).drew).setCells w.heap.size ((i + m) * 2) (cs.drop (i * 2)) := by
 refine ⟨grownCap w (n + m) c 57, grownCap_ge w _ _ _, ?_⟩;obtain ⟨i0, hi0, hz0, hzs, hzb⟩ := info_parts insI;have hz1 : ¬ ((m : Int) = 0) := by omega
 have hz2 : ¬ ((i : Int) = (n : Int)) := by omega
 have hz3 : (c : Int) < (n : Int) + (m : Int) := by omega
 have hcl : cs.length = n * 2 := by rw [hcs, List.length_take, List.length_drop, Array.length_toList]; omega
 have hvl : vs.length = m * 2 := by rw [hvs, List.length_take, List.length_drop, Array.length_toList]; omega
 have cellB : ∀ j, w.cell? ⟨b, j, none⟩ = CS[j]? := fun j => by simp [World.cell?, g1]
 have cellV : ∀ j, w.cell? ⟨vb, j, none⟩ = VS[j]? := fun j => by simp [World.cell?, g2]
 have atB : ∀ j v, cs[j]? = some v → w.cell? ⟨b, off + j, none⟩ = some v := fun j v hj => by
  rw [cellB];rw [hcs, List.getElem?_take] at hj;split at hj
  ·rw [List.getElem?_drop] at hj;simpa using hj
  ·cases hj
 have atV : ∀ j v, vs[j]? = some v → w.cell? ⟨vb, voff + j, none⟩ = some v := fun j v hj => by
  rw [cellV];rw [hvs, List.getElem?_take] at hj;split at hj
  ·rw [List.getElem?_drop] at hj;simpa using hj
  ·cases hj
 have hbw : b < w.heap.size := (Array.getElem?_eq_some_iff.1 g1).1;have hvw : vb < w.heap.size := (Array.getElem?_eq_some_iff.1 g2).1;have hkk : (n : Int) + (m : Int) - (i : Int) = ((n + m - i : Nat) : Int) := by omega
 have hik : i + (n + m - i) = n + m := by omega
 have hold : (Builtin.firstCells i0.size i (.slice (some ⟨b, off, none⟩) i c)).run Prog w.drew = .ok (cs.take (i * 2)).toArray w.drew := by
  rw [hzs];exact run_firstCells_some w.drew 2 i ⟨b, off, none⟩ i c (cs.take (i * 2)) (by rw [List.length_take]; omega) (fun j v hj => by
   rw [Addr.add_lit];rw [List.getElem?_take] at hj;split at hj
   ·exact atB j v hj
   ·cases hj)
 have hfit : Builtin.nextslicecap (n + m) c * i0.bytes ≤ 281474976710656 := by
  rw [hzb];exact growslice_fits hroom (by omega)
 have hrz : ∀ ty, (Builtin.append_ #[22, 3] ty #[.slice (some ⟨b, off, none⟩) i c, .int .i64 ((n : Int) + (m : Int) - (i : Int))]).run Prog w =
   .ok (.slice (some ⟨w.heap.size, 0, none⟩) (n + m) (grownCap w (n + m) c 57)) (w.drew.alloc (.cells ((cs.take (i * 2)).toArray ++ Builtin.zeroCells (Value.agg #[.int .i64 0, .int .i64 0]).cells (n + m - i) ++ Builtin.zeroCells (Value.agg #[.int .i64 0, .int .i64 0]).cells (grownCap w (n + m) c 57 - (n + m))) 57)) := fun ty => by
  have h := Lib.run_append_grow_zeros w 22 3 ty 57 i0 _ .i64 .i64 insT (by kernel_rfl) hi0 hz0 (some ⟨b, off, none⟩) i c (cs.take (i * 2)) hold (n + m - i) (by omega) (by omega) (by omega) (by omega) (by rw [hzb]; omega) (by rw [hik]; exact hfit);rw [hik] at h;rw [hkk];exact h
 obtain ⟨G, hG⟩ : ∃ G, G = grownCap w (n + m) c 57 := ⟨_, rfl⟩
 obtain ⟨ROW, hROW⟩ : ∃ ROW : Array Value, ROW = (cs.take (i * 2)).toArray ++ Builtin.zeroCells (Value.agg #[.int .i64 0, .int .i64 0]).cells (n + m - i) ++ Builtin.zeroCells (Value.agg #[.int .i64 0, .int .i64 0]).cells (G - (n + m)) := ⟨_, rfl⟩
 rw [← hG] at hrz ⊢;rw [← hROW] at hrz ⊢;have hGn : n + m ≤ G := by rw [hG]; exact grownCap_ge w _ _ _
 have hRl : (n + m) * 2 ≤ ROW.size := by
  rw [hROW];simp only [Array.size_append, List.size_toArray, size_zeroCells, List.length_take, hcl];show _ ≤ _ + (n + m - i) * 2 + (G - (n + m)) * 2;omega
 obtain ⟨W1, hW1⟩ : ∃ W1, W1 = w.drew.alloc (.cells ROW 57) := ⟨_, rfl⟩
 rw [← hW1] at hrz;have hNh : W1.heap[w.heap.size]? = some (.cells ROW 57 (0, 0)) := by rw [hW1]; exact heap_alloc_new' _ _
 have hN : ∀ j, j < (n + m) * 2 → (W1.cell? ⟨w.heap.size, j, none⟩).isSome = true := fun j hj => by
  simp only [World.cell?, hNh];rw [Array.getElem?_eq_getElem (by omega)]; rfl
 have hNf : ∀ j, W1.frozen? ⟨w.heap.size, j, none⟩ = false := fun j => by simp [World.frozen?, hNh]
 have hOb : ∀ j v, w.cell? ⟨b, j, none⟩ = some v → W1.cell? ⟨b, j, none⟩ = some v := fun j v h => by rw [hW1, World.cell?_alloc_past (w := w.drew) _ b j hbw]; exact h
 have hOv : ∀ j v, w.cell? ⟨vb, j, none⟩ = some v → W1.cell? ⟨vb, j, none⟩ = some v := fun j v h => by rw [hW1, World.cell?_alloc_past (w := w.drew) _ vb j hvw]; exact h
 have hcpA : ∀ (W : World), (∀ x, W.cell? x = W1.cell? x) → (∀ x, W.frozen? x = W1.frozen? x) → ∀ ty dc, (Builtin.copy_ #[22, 22] ty #[.slice (some ⟨w.heap.size, i * 2, none⟩) (n + m - i) dc, .slice (some ⟨vb, voff, none⟩) m vc]).run Prog W = .ok (goInt (Nat.min m (n + m - i))) (W.setCells w.heap.size (i * 2) vs) := fun W hWc hWf ty dc =>
  run_copyN W 22 22 ty 57 w.heap.size (i * 2) (n + m - i) dc ⟨vb, voff, none⟩ m vc 2 vs insT insZ (by rw [hvl, show Nat.min m (n + m - i) = m by simp only [Nat.min_def]; split <;> omega])
   (fun j v hj => by rw [Addr.add_lit, hWc]; exact hOv _ v (atV j v hj))
   (fun j hj => by rw [hWc]; exact hN _ (by omega)) (fun j hj => by rw [hWf]; exact hNf _) h1v
 have hG63 : G ≤ 9223372036854775807 := by
  have := grownCap_le_maxLen w (n + m) c 57 (by unfold maxLen; omega);rw [← hG] at this;unfold maxLen at this;omega
 have hGi : ¬ (G = i) := by omega
 have hGim : ¬ (G = i + m) := by omega
 have hci : ¬ (c = i) := by omega
 have hbN : b ≠ w.heap.size := by omega
 have hdl : (cs.drop (i * 2)).length = (n - i) * 2 := by rw [List.length_drop, hcl]; omega
 have hcpB : ∀ (W : World), (∀ x, W.cell? x = (W1.setCells w.heap.size (i * 2) vs).cell? x) → (∀ x, W.frozen? x = (W1.setCells w.heap.size (i * 2) vs).frozen? x) → ∀ ty dc sc, (Builtin.copy_ #[22, 22] ty #[.slice (some ⟨w.heap.size, (i + m) * 2, none⟩) (n + m - (i + m)) dc, .slice (some ⟨b, off + i * 2, none⟩) (n - i) sc]).run Prog W = .ok (goInt (Nat.min (n - i) (n + m - (i + m)))) (W.setCells w.heap.size ((i + m) * 2) (cs.drop (i * 2))) := fun W hWc hWf ty dc sc =>
  run_copyN W 22 22 ty 57 w.heap.size ((i + m) * 2) (n + m - (i + m)) dc ⟨b, off + i * 2, none⟩ (n - i) sc 2 (cs.drop (i * 2)) insT insZ (by rw [hdl, show Nat.min (n - i) (n + m - (i + m)) = n - i by simp only [Nat.min_def]; split <;> omega])
   (fun j v hj => by
    rw [Addr.add_lit, hWc, World.cell?_setCells_out _ _ _ _ _ (fun h _ => absurd h hbN), Nat.add_assoc];exact hOb _ v (atB (i * 2 + j) v (by rwa [List.getElem?_drop] at hj)))
   (fun j hj => by
    rw [hWc, setCells_row w.heap.size 57 (0, 0) _ _ ROW W1 hNh (by omega)];simp only [World.cell?, setRow_heap _ _ _ _ _ _ hNh];rw [Array.getElem?_eq_getElem (by rw [List.size_toArray, splice_length _ _ _ (by rw [Array.length_toList (xs := ROW)]; omega), Array.length_toList (xs := ROW)]; omega)]; rfl)
   (fun j hj => by rw [hWf, World.frozen?_setCells]; exact hNf _) (fun v hv => h1c v (List.mem_of_mem_drop hv))
 subst hW1;have hE1 : ∀ x, ((w.alloc (.cells ROW 57)).drew).cell? x = (w.drew.alloc (.cells ROW 57)).cell? x := fun x => rfl;have hE2 : ∀ x, ((w.alloc (.cells ROW 57)).drew).frozen? x = (w.drew.alloc (.cells ROW 57)).frozen? x := fun x => rfl;have hF1 : ∀ x, (((w.alloc (.cells ROW 57)).drew.setCells w.heap.size (i * 2) vs).drew).cell? x = ((w.drew.alloc (.cells ROW 57)).setCells w.heap.size (i * 2) vs).cell? x := fun x => rfl;have hF2 : ∀ x, (((w.alloc (.cells ROW 57)).drew.setCells w.heap.size (i * 2) vs).drew).frozen? x = ((w.drew.alloc (.cells ROW 57)).setCells w.heap.size (i * 2) vs).frozen? x := fun x => rfl;have hw1 : IntKind.i64.wrap ((i : Int) + (m : Int)) = (i : Int) + (m : Int) := by rw [IntKind.wrap_i64]; omega
 have hw2 : IntKind.i64.wrap ((n : Int) + (m : Int)) = (n : Int) + (m : Int) := by rw [IntKind.wrap_i64]; omega
 have hw3 : IntKind.i64.wrap ((n : Int) + (m : Int) - (i : Int)) = (n : Int) + (m : Int) - (i : Int) := by rw [IntKind.wrap_i64]; omega
 have hb1 : (0 : Int) ≤ (i : Int) + (m : Int) := by omega
 have hin : i ≤ n := by omega
 have htn : ((i : Int) + (m : Int)).toNat = i + m := by omega
 have hb3 : (i : Int) ≤ (n : Int) := by omega
 clear hkk hik hold hROW hG hRl hN hNf hNh cellB cellV;clear hcs hvs
 go_enter Try.func75, Try.ntmps75
 go_wp2_with (first
  | (at_builtin; refine Lib.wpList_append_run _ rfl _ _ _ _ rfl _ _ rfl rfl _ _ (hrz _) ?_)
  | (at_builtin; refine cp_list rfl rfl rfl rfl (hcpA _ hE1 hE2 _ _) ?_)
  | (at_builtin; refine cp_list rfl rfl rfl rfl (hcpB _ (fun _ => rfl) (fun _ => rfl) _ _ _) ?_))
 go_region_law (refine cp_step rfl rfl (v := .slice (some ⟨w.heap.size, (i + m) * 2, none⟩) (n + m - (i + m)) (G - (i + m))) (u := .slice (some ⟨b, off + i * 2, none⟩) (n - i) (c - i)) (by simp [Act.eval, Act.put]) (by simp [Act.eval, Act.put]) (hcpB _ hF1 hF2 _ (G - (i + m)) (c - i)) ?_)
 go_wp2
 go_ret
 exact ⟨rfl, rfl⟩
theorem ins_walk : InsWalk Prog 75 22 57 2 (.agg #[.int .i64 0, .int .i64 0]) :=
 ⟨⟨Try.f75, Try.func75, by kernel_rfl, by kernel_rfl⟩, ins_none, ins_end, ins_shift, ins_grow⟩
theorem insertG_is : SpIs Prog F.slices_Insert_of_api_Glyph_api_Glyph fun _ args H => insertV 2 16 args H := by
 obtain ⟨i0, hi0, hz0, hzs, hzb⟩ := info_parts insI;exact insert_of (inf := i0) insT hi0 hz0 (by rw [hzs]; rfl) hzs hzb (by decide) ins_walk
end Go.Sw
end
section
namespace Go.Sw
open Go.RowKit
theorem names_ok : NamesOk Prog := NamesOk.of (by kernel_rfl)
theorem mixed_ok : Prog.follows .mixedOrders = true := Checked.mixed Go.Proofs.Try.checked
theorem laid_ok : laidOutB Prog = true := by kernel_rfl
theorem cloneGlyph_is : SpIs Prog F.slices_Clone_of_api_Glyph_api_Glyph fun _ args H => cloneV 2 16 args H :=
 clone_is (c := { P := Prog, kp := kpS, sp := fun _ => none }) (fun _ _ => rfl) names_ok mixed_ok (t := 22) (e := 57) (by kernel_rfl) fun call a H => (slices_Clone_of_api_Glyph_api_Glyph_body 0 _ call a H).trans (by
  unfold slices_Clone_of_api_Glyph_api_Glyph cloneF;simp only [be_22_0, ap_22, beR_bare])
theorem clonePlace_is : SpIs Prog F.slices_Clone_of_api_Place_api_Place fun _ args H => cloneV 3 12 args H :=
 clone_is (c := { P := Prog, kp := kpS, sp := fun _ => none }) (fun _ _ => rfl) names_ok mixed_ok (t := 98) (e := 137) (by kernel_rfl) fun call a H => (slices_Clone_of_api_Place_api_Place_body 0 _ call a H).trans (by
  unfold slices_Clone_of_api_Place_api_Place cloneF;simp only [be_98_0, ap_98, beR_bare])
theorem clonePart_is : SpIs Prog F.slices_Clone_of_sfnt_Part_sfnt_Part fun _ args H => cloneV 2 40 args H :=
 clone_is (c := { P := Prog, kp := kpS, sp := fun _ => none }) (fun _ _ => rfl) names_ok mixed_ok (t := 142) (e := 140) (by kernel_rfl) fun call a H => (slices_Clone_of_sfnt_Part_sfnt_Part_body 0 _ call a H).trans (by
  unfold slices_Clone_of_sfnt_Part_sfnt_Part cloneF;simp only [be_142_0, ap_142, beR_bare])
theorem more_is (f : FuncId) (s : Sp) (h : moreS f = some s) : SpIs Prog f s := by
 unfold moreS at h;cases h4 : Nat.beq f 4 with
 | true => have := Nat.eq_of_beq_eq_true h4; subst this; rw [h4, cond_true] at h; injection h with h; subst h; exact range_is (c := { P := Prog, kp := kpS, sp := fun _ => none, it := itS }) names_ok mixed_ok it_is (by kernel_rfl)
 | false =>
 rw [h4, cond_false] at h;cases h7 : Nat.beq f 7 with
 | true => have := Nat.eq_of_beq_eq_true h7; subst this; rw [h7, cond_true] at h; injection h with h; subst h; exact range_is (c := { P := Prog, kp := kpS, sp := fun _ => none, it := itS }) names_ok mixed_ok it_is (by kernel_rfl)
 | false =>
 rw [h7, cond_false] at h;cases h40 : Nat.beq f 40 with
 | true => have := Nat.eq_of_beq_eq_true h40; subst this; rw [h40, cond_true] at h; injection h with h; subst h; exact try_is
 | false =>
 rw [h40, cond_false] at h;cases h42 : Nat.beq f 42 with
 | true => have := Nat.eq_of_beq_eq_true h42; subst this; rw [h42, cond_true] at h; injection h with h; subst h; exact range_is (c := { P := Prog, kp := kpS, sp := fun _ => none, it := itS }) names_ok mixed_ok it_is (by kernel_rfl)
 | false =>
 rw [h42, cond_false] at h;cases h71 : Nat.beq f 71 with
 | true => have := Nat.eq_of_beq_eq_true h71; subst this; rw [h71, cond_true] at h; injection h with h; subst h; exact cloneGlyph_is
 | false =>
 rw [h71, cond_false] at h;cases h73 : Nat.beq f 73 with
 | true => have := Nat.eq_of_beq_eq_true h73; subst this; rw [h73, cond_true] at h; injection h with h; subst h; exact trim_is (c := { P := Prog, kp := kpS, sp := fun _ => none }) (fun _ _ => rfl) names_ok mixed_ok
 | false =>
 rw [h73, cond_false] at h;cases h75 : Nat.beq f 75 with
 | true => have := Nat.eq_of_beq_eq_true h75; subst this; rw [h75, cond_true] at h; injection h with h; subst h; exact insertG_is
 | false =>
 rw [h75, cond_false] at h;cases h115 : Nat.beq f 115 with
 | true => have := Nat.eq_of_beq_eq_true h115; subst this; rw [h115, cond_true] at h; injection h with h; subst h; exact clonePlace_is
 | false =>
 rw [h115, cond_false] at h;cases h134 : Nat.beq f 134 with
 | true => have := Nat.eq_of_beq_eq_true h134; subst this; rw [h134, cond_true] at h; injection h with h; subst h; exact clonePart_is
 | false =>
 rw [h134, cond_false] at h;cases h
theorem T_prog (k : Nat) : (T k).c.P = Prog := by unfold T C; rfl
theorem told_ok {k m : Nat} (hsp : okTrue (run (baseCfg Prog kpS moreS) m (k % 1000000) [] Heap.empty) = true) : SpOk (T k).c := by
 have h0 : CallOk Prog (run (baseCfg Prog kpS moreS) m) := run_ok (c := baseCfg Prog kpS moreS) names_ok mixed_ok (SpOk.base more_is) m;have h1 : SpOk (C k) := by
  unfold C;exact SpOk.of (P := Prog) (kp := kpS) (speaks := speaksT) (more := moreS) (k := k % 1000000) h0 hsp more_is
 exact h1
theorem told0 {k : Nat} (hk : oneOf (k % 1000000) speaksT = false) : SpOk (T k).c := by
 have h1 : SpOk (C k) := by
  unfold C;exact SpOk.none (P := Prog) (kp := kpS) (speaks := speaksT) (more := moreS) (k := k % 1000000) hk more_is
 exact h1
end Go.Sw
end
section
namespace Go.Sw
open Go.RowKit
def ptL (p : Pt) : List (List Int) := (List.range (p.last - p.first + 1).toNat).map fun j => [p.first + (j : Nat), (p.num (p.first + (j : Nat))).getD 0]
theorem mapM_all {α β : Type} {f : α → Option β} {g : α → β} : ∀ {l : List α}, (∀ y, y ∈ l → f y = some (g y)) → l.mapM f = some (l.map g)
 | [], _ => rfl
 | y :: l, h => by rw [List.mapM_cons, h y (by simp), mapM_all (fun z hz => h z (by simp [hz]))]; rfl
theorem rowsI_get (l : List Int) (i : Nat) : (rows encI l)[i]? = (l[i]?).map (Value.int .i64) := by
 unfold rows
 induction l generalizing i with
 | nil => rfl
 | cons x l ih =>
  cases i with
  | zero => rfl
  | succ i => simpa using ih i
theorem partE_pt (p : Pt) (h : p.ok) : partE p.first p.last (rows encI p.vals) = some (ptL p) := by
 obtain ⟨h1, h2, h3, h4, h5, h6⟩ := h;have hl : 0 < p.vals.length := List.length_pos_iff.2 h4;have hlen : (rows encI p.vals).length = p.vals.length := by simpa using rows_length encI_len p.vals
 unfold partE;rw [if_pos ⟨h1, by omega, by rw [hlen]; omega⟩];refine mapM_all fun j hj => ?_;have hj := List.mem_range.1 hj;obtain ⟨x, hx⟩ : ∃ x, p.vals[min j (p.vals.length - 1)]? = some x := ⟨_, List.getElem?_eq_getElem (by omega)⟩
 rw [rowsI_get, hlen, hx];have : p.num (p.first + (j : Nat)) = some x := by
  unfold Pt.num;rw [show (min (p.first + (j : Int) - p.first) ((p.vals.length : Int) - 1)).toNat = min j (p.vals.length - 1) by omega];exact hx
 simp [this]
theorem partsE_pts : ∀ (ps : List Pt), (∀ p, p ∈ ps → p.ok) → partsE ps.length (rows encPt ps) = some (ps.flatMap ptL)
 | [], _ => rfl
 | p :: ps, h => by
  have h1 := partE_pt p (h p (by simp));have h2 := partsE_pts ps fun q hq => h q (by simp [hq]);have hlen : (rows encI p.vals).length = p.vals.length := by simpa using rows_length encI_len p.vals
  rw [rows_cons, List.length_cons];show partsE (ps.length + 1) (.int .i64 p.first :: .int .i64 p.last :: lv encI p.vals :: rows encPt ps) = _;unfold lv listV;simp [partsE, h1, h2, hlen]
theorem itS_tab (x : Int × List Pt) (hok : ∀ p, p ∈ x.2 → p.ok) (hl : x.2.length < 2 ^ 31) (n : Nat) (H : Heap) (hH : H.get n = some ⟨[tabV x], 1, false⟩) :
  itS (.func (.func F.lookup_Table_All_in1) #[] #[.pointer (some ⟨n, 0, none⟩)]) H = some (x.2.flatMap ptL) := by
 have h1 := partsE_pts x.2 hok;unfold itS itAll;unfold tabV boxV lv listV at hH;simp only [hH];simp only [Nat.beq_refl, Bool.and_true, cond_true, Array.size_empty];rw [if_pos (show x.2.length < 1152921504606846976 by omega)];exact h1
theorem lookAll_run (k : Nat) (x : Int × List Pt) (H : Heap) : R (T k) F.lookup_Table_All [tabV x] H = .ok (.func (.func F.lookup_Table_All_in1) #[] #[.pointer (some ⟨H.n, 0, none⟩)]) (H.push ⟨[tabV x], 1, false⟩) := by
 rw [lookup_Table_All_R];simp [lookup_Table_All]
def Rising (ps : List Pt) : Int → List (List Int) → Prop
 | _, [] => True
 | last, e :: l => ∃ id x, e = [id, x] ∧ last < id ∧ id < 65536 ∧ getS ps id = some x ∧ (∀ q, last < q → q < id → getS ps q = none) ∧ Rising ps id l
theorem lookGet_at {pre suf : List Pt} {p : Pt} {q : Int} (h : ∀ r, r ∈ pre → r.last < q) (hq : q ≤ p.last) : getS (pre ++ p :: suf) q = if p.first ≤ q then p.num q else none := by
 unfold getS;have : (pre ++ p :: suf).find? (fun p => decide (q ≤ p.last)) = some p := by
  rw [List.find?_append];have hn : pre.find? (fun p => decide (q ≤ p.last)) = none := by
   rw [List.find?_eq_none];intro r hr;have := h r hr;simp; omega
  rw [hn];simp [hq]
 rw [this]; rfl
theorem rising_one {pre suf : List Pt} {p : Pt} (hp : p.ok) (rest : List (List Int)) (hrest : Rising (pre ++ p :: suf) p.last rest) : ∀ (m j : Nat) (last : Int), j + m = (p.last - p.first + 1).toNat → (∀ r, r ∈ pre → r.last ≤ last) → (j = 0 → last < p.first) → (0 < j → last = p.first + j - 1) →
  Rising (pre ++ p :: suf) last (((List.range' j m).map fun j => [p.first + (j : Nat), (p.num (p.first + (j : Nat))).getD 0]) ++ rest) := by
 obtain ⟨h1, h2, h3, _⟩ := id hp;intro m
 induction m with
 | zero =>
  intro j last hj hpre h0 hs;have : last = p.last := by have := hs (by omega); omega
  subst this;simpa using hrest
 | succ m ih =>
  intro j last hj hpre h0 hs;rw [List.range'_succ, List.map_cons, List.cons_append];obtain ⟨x, hx, _⟩ := Pt.num_some hp (id := p.first + (j : Nat)) (by omega);refine ⟨p.first + (j : Nat), _, rfl, ?_, by omega, ?_, fun q hq1 hq2 => ?_, ih (j + 1) _ (by omega) (fun r hr => ?_) (fun e => by omega) (fun _ => by push_cast; omega)⟩
  ·rcases Nat.eq_zero_or_pos j with e | e
   ·have := h0 e; omega
   ·have := hs e; omega
  ·rw [lookGet_at (fun r hr => ?_) (by omega), if_pos (by omega), hx]
   ·rfl
   ·have := hpre r hr;rcases Nat.eq_zero_or_pos j with e | e
    ·have := h0 e; omega
    ·have := hs e; omega
  ·rcases Nat.eq_zero_or_pos j with e | e
   ·subst e;rw [lookGet_at (fun r hr => by have := hpre r hr; omega) (by omega), if_neg (by omega)]
   ·have := hs e; omega
  ·have := hpre r hr;rcases Nat.eq_zero_or_pos j with e | e
   ·have := h0 e; omega
   ·have := hs e; omega
theorem rising_all {ps : List Pt} (hok : ∀ p, p ∈ ps → p.ok) (hr : risesS ps = true) : ∀ (suf pre : List Pt) (last : Int), ps = pre ++ suf → (∀ r, r ∈ pre → r.last ≤ last) → (∀ r, r ∈ suf → last < r.first) → Rising ps last (suf.flatMap ptL)
 | [], pre, last, _, _, _ => trivial
 | p :: suf, pre, last, h, hpre, hsuf => by
  have hp := hok p (by rw [h]; simp);have hafter : ∀ r, r ∈ suf → p.last < r.first := fun r hr' => by
   obtain ⟨i, hi⟩ := List.mem_iff_getElem?.1 hr';refine risesS_get hr hok pre.length (pre.length + 1 + i) p r (by omega) (by rw [h]; simp) ?_;rw [h, List.getElem?_append_right (by omega), show pre.length + 1 + i - pre.length = i + 1 by omega];simpa using hi
  have ih := rising_all hok hr suf (pre ++ [p]) p.last (by rw [h]; simp) (fun r hr' => by
   rcases List.mem_append.1 hr' with hm | hm
   ·have := hpre r hm; have := hsuf p (by simp); have := hp.2.1; omega
   ·simp at hm; subst hm; exact Int.le_refl _) hafter
  rw [List.flatMap_cons];unfold ptL;rw [List.range_eq_range'];subst h;exact rising_one hp _ ih _ 0 last (by omega) hpre (fun _ => hsuf p (by simp)) (fun e => by omega)
theorem rising_tab {ps : List Pt} (hok : ∀ p, p ∈ ps → p.ok) (hr : risesS ps = true) : Rising ps (-1) (ps.flatMap ptL) :=
 rising_all hok hr ps [] (-1) rfl (fun r hr => by cases hr) fun r hr => by have := (hok r hr).1; omega
end Go.Sw
end
section
set_option maxRecDepth 100000
set_option linter.unusedVariables false
namespace Go.Sw
noncomputable section
def swashlaw06_LookupAll_g1 (k : Nat) (call : Caller) : Env → Heap → Res AExit := rangeB CI call F.swashlaw06_LookupAll [1, 1, 1, 1, 1, 1, 0, 1, 0, 0] [1, 1, 1, 1, 1, 1, 0, 1, 0, 1]
def swashlaw06_LookupAll_g1k (k : Nat) (call : Caller) : Kont Value := kBlock 0 (kSeq (pieceK CI call F.swashlaw06_LookupAll [1, 1, 1, 1, 1, 1, 1]) (kDone Prog (resOf Prog F.swashlaw06_LookupAll)))
def swashlaw06_LookupAll_l2 (k : Nat) (call : Caller) : Env → Heap → Res (AExit × Env) := loopB CI call F.swashlaw06_LookupAll [1, 1, 1, 1, 1, 1, 0, 1, 0, 1, 0, 1, 1, 0, 1, 0, 0]
def swashlaw06_LookupAll_l2k (k : Nat) (call : Caller) : Kont AExit := kBlock 2 (kSeq (pieceK CI call F.swashlaw06_LookupAll [1, 1, 1, 1, 1, 1, 0, 1, 0, 1, 0, 1, 1, 1]) (kBlock 1 (kRange)))
def swashlaw06_LookupAll_j1 (k : Nat) (call : Caller) (a3 a4 a5 a9 a10 : Value) (h : Heap) : Res Value :=
 kSeq (pieceK CI call F.swashlaw06_LookupAll [1, 1, 1, 1, 1, 1, 1]) (kDone Prog (resOf Prog F.swashlaw06_LookupAll)) .normal [(3, a3), (4, a4), (5, a5), (9, a9), (10, a10)] h
def swashlaw06_LookupAll (k : Nat) (call : Caller) (a0 a1 : Value) (h : Heap) : Res Value :=
 (boxR a1 h).bind fun v1 h2 =>
 (allocR Prog 4 h2).bind fun v3 h4 =>
 (call F.swashlaw06_speaks [] h4).bind fun v5 h6 =>
 (unR .not v5 h6).bind fun v7 h8 =>
 condV (some v7) (
 (storeR Prog 4 v3 (.bool false) h8).bind fun _v9 h10 =>
 (loadR Prog 4 v3 h10).bind fun v11 h12 =>
 .ok v11 h12)
 (
 (builtinV Prog .len [31] [a0] h8).bind fun v13 h14 =>
 (binR Prog .gtr 3 v13 (.int .i64 400) h14).bind fun v15 h16 =>
 condV (some v15) (
 (storeR Prog 4 v3 (.bool true) h16).bind fun _v17 h18 =>
 (loadR Prog 4 v3 h18).bind fun v19 h20 =>
 .ok v19 h20)
 (
 (call F.lookup_Read [a0, (.int .i64 40), (.int .i64 2)] h16).bind fun v21 h22 =>
 (extractR v21 0 h22).bind fun v23 h24 =>
 (extractR v21 1 h24).bind fun v25 h26 =>
 (allocR Prog 32 h26).bind fun v27 h28 =>
 (storeR Prog 32 v27 v23 h28).bind fun _v29 h30 =>
 (binR Prog .neq 33 v25 (.int .i64 0) h30).bind fun v31 h32 =>
 ((bif wantVal v31 false then loadR Prog 32 v27 h32 else Res.ok undef h32)).bind fun v33 h34 =>
 ((bif wantVal v31 false then binR Prog .eql 32 v33 (.pointer none) h34 else Res.ok undef h34)).bind fun v35 h36 =>
 (condV (some v31) (Res.ok (.bool true) h36) (Res.ok v35 h36)).bind fun v37 h38 =>
 condV (some v37) (
 (call F.swashref06_Read [a0, (.int .i64 40), (.int .i64 2)] h38).bind fun v39 h40 =>
 (extractR v39 0 h40).bind fun v41 h42 =>
 (extractR v39 1 h42).bind fun v43 h44 =>
 (allocR Prog 38 h44).bind fun v45 h46 =>
 (storeR Prog 38 v45 v41 h46).bind fun _v47 h48 =>
 (unR .not v43 h48).bind fun v49 h50 =>
 (storeR Prog 4 v3 v49 h50).bind fun _v51 h52 =>
 (loadR Prog 4 v3 h52).bind fun v53 h54 =>
 .ok v53 h54)
 (
 (allocR Prog 3 h38).bind fun v55 h56 =>
 (allocR Prog 3 h56).bind fun v57 h58 =>
 (storeR Prog 3 v55 (.int .i64 (-1)) h58).bind fun _v59 h60 =>
 (storeR Prog 3 v57 (.int .i64 0) h60).bind fun _v61 h62 =>
 (loadR Prog 32 v27 h62).bind fun v63 h64 =>
 (call F.lookup_Table_All [v63] h64).bind fun v65 h66 =>
 ((opt (itS v65 h66) h66).bind fun l67 h68 => rangeN (swashlaw06_LookupAll_g1 k call) [43, 44] [(3, v1), (4, v3), (5, v27), (9, v55), (10, v57)] l67 h68).bind fun r69 h70 =>
 swashlaw06_LookupAll_g1k k call r69.1 r69.2 h70)))
theorem swashlaw06_LookupAll_body (k : Nat) (sp : FuncId → Option Sp) (call : Caller) (a0 a1 : Value) (h : Heap) : bodyK CI call F.swashlaw06_LookupAll [a0, a1] h = swashlaw06_LookupAll k call a0 a1 h := by kernel_rfl
theorem swashlaw06_LookupAll_g1_eq (k : Nat) (call : Caller) (a3 a4 a5 a9 a10 a43 a44 : Value) (h : Heap) : swashlaw06_LookupAll_g1 k call [(3, a3), (4, a4), (5, a5), (9, a9), (10, a10), (43, a43), (44, a44)] h =
 (loadR Prog 32 a5 h).bind fun v71 h72 =>
 (call F.lookup_Table_Get [v71, a43] h72).bind fun v73 h74 =>
 (extractR v73 0 h74).bind fun v75 h76 =>
 (extractR v73 1 h76).bind fun v77 h78 =>
 (unR .not v77 h78).bind fun v79 h80 =>
 ((bif wantVal v79 false then Res.ok a44 h80 else Res.ok undef h80)).bind fun v81 h82 =>
 ((bif wantVal v79 false then Res.ok v75 h82 else Res.ok undef h82)).bind fun v83 h84 =>
 ((bif wantVal v79 false then binR Prog .neq 3 v81 v83 h84 else Res.ok undef h84)).bind fun v85 h86 =>
 (condV (some v79) (Res.ok (.bool true) h86) (Res.ok v85 h86)).bind fun v87 h88 =>
 ((bif wantVal v87 false then Res.ok a43 h88 else Res.ok undef h88)).bind fun v89 h90 =>
 ((bif wantVal v87 false then loadR Prog 3 a9 h90 else Res.ok undef h90)).bind fun v91 h92 =>
 ((bif wantVal v87 false then binR Prog .leq 3 v89 v91 h92 else Res.ok undef h92)).bind fun v93 h94 =>
 (condV (some v87) (Res.ok (.bool true) h94) (Res.ok v93 h94)).bind fun v95 h96 =>
 ((bif wantVal v95 false then loadR Prog 3 a10 h96 else Res.ok undef h96)).bind fun v97 h98 =>
 ((bif wantVal v95 false then loadR Prog 5 a3 h98 else Res.ok undef h98)).bind fun v99 h100 =>
 ((bif wantVal v95 false then convR Prog 5 3 v99 h100 else Res.ok undef h100)).bind fun v101 h102 =>
 ((bif wantVal v95 false then binR Prog .gtr 3 v97 v101 h102 else Res.ok undef h102)).bind fun v103 h104 =>
 (condV (some v95) (Res.ok (.bool true) h104) (Res.ok v103 h104)).bind fun v105 h106 =>
 condV (some v105) (
 (storeR Prog 4 a4 (.bool false) h106).bind fun _v107 h108 =>
 .ok .ret h108)
 (
 (loadR Prog 3 a9 h106).bind fun v109 h110 =>
 (binR Prog .add 3 v109 (.int .i64 1) h110).bind fun v111 h112 =>
 (loopN (swashlaw06_LookupAll_l2 k call) loopFuel [(3, a3), (4, a4), (5, a5), (9, a9), (10, a10), (11, a43), (15, v111)] h112).bind fun r113 h114 =>
 swashlaw06_LookupAll_l2k k call r113.1 r113.2 h114) :=
 (rangeB_eq _ _).trans (by kernel_rfl)
theorem swashlaw06_LookupAll_l2_eq (k : Nat) (call : Caller) (a3 a4 a5 a9 a10 a11 a15 : Value) (h : Heap) : swashlaw06_LookupAll_l2 k call [(3, a3), (4, a4), (5, a5), (9, a9), (10, a10), (11, a11), (15, a15)] h =
 (binR Prog .lss 3 a15 a11 h).bind fun v115 h116 =>
 condV (some v115) (
 (loadR Prog 32 a5 h116).bind fun v117 h118 =>
 (call F.lookup_Table_Get [v117, a15] h118).bind fun v119 h120 =>
 (extractR v119 0 h120).bind fun v121 h122 =>
 (extractR v119 1 h122).bind fun v123 h124 =>
 condV (some v123) (
 (storeR Prog 4 a4 (.bool false) h124).bind fun _v125 h126 =>
 .ok (.ret, []) h126)
 (
 (binR Prog .add 3 a15 (.int .i64 1) h124).bind fun v127 h128 =>
 .ok (.normal, [(3, a3), (4, a4), (5, a5), (9, a9), (10, a10), (11, a11), (15, v127)]) h128))
 (
 .ok ((.exit 2), [(3, a3), (4, a4), (5, a5), (9, a9), (10, a10), (11, a11), (15, a15), (73, v115)]) h116) :=
 (loopB_eq _ _).trans (by kernel_rfl)
theorem swashlaw06_LookupAll_g1k_n (k : Nat) (call : Caller) (a3 a4 a5 a9 a10 : Value) (h : Heap) : swashlaw06_LookupAll_g1k k call .normal [(3, a3), (4, a4), (5, a5), (9, a9), (10, a10)] h =
 swashlaw06_LookupAll_j1 k call a3 a4 a5 a9 a10 h := by kernel_rfl
theorem swashlaw06_LookupAll_j1_eq (k : Nat) (call : Caller) (a3 a4 a5 a9 a10 : Value) (h : Heap) : swashlaw06_LookupAll_j1 k call a3 a4 a5 a9 a10 h =
 (storeR Prog 4 a4 (.bool true) h).bind fun _v129 h130 =>
 (loadR Prog 4 a4 h130).bind fun v131 h132 =>
 .ok v131 h132 := by kernel_rfl
theorem swashlaw06_LookupAll_l2k_x2 (k : Nat) (call : Caller) (a3 a4 a5 a9 a10 a11 a15 a73 : Value) (h : Heap) : swashlaw06_LookupAll_l2k k call (.exit 2) [(3, a3), (4, a4), (5, a5), (9, a9), (10, a10), (11, a11), (15, a15), (73, a73)] h =
 (storeR Prog 3 a9 a11 h).bind fun _v135 h136 =>
 (loadR Prog 3 a10 h136).bind fun v137 h138 =>
 (binR Prog .add 3 v137 (.int .i64 1) h138).bind fun v139 h140 =>
 (storeR Prog 3 a10 v139 h140).bind fun _v141 h142 =>
 (loadR Prog 3 a10 h142).bind fun v143 h144 =>
 (loadR Prog 5 a3 h144).bind fun v145 h146 =>
 (convR Prog 5 3 v145 h146).bind fun v147 h148 =>
 (binR Prog .gtr 3 v143 v147 h148).bind fun v149 h150 =>
 condV (some v149) (
 .ok (.exit 0) h150)
 (
 .ok .normal h150) := by kernel_rfl
theorem swashlaw06_LookupAll_g1k_x0 (k : Nat) (call : Caller) (a3 a4 a5 a9 a10 : Value) (h : Heap) : swashlaw06_LookupAll_g1k k call (.exit 0) [(3, a3), (4, a4), (5, a5), (9, a9), (10, a10)] h =
 swashlaw06_LookupAll_j1 k call a3 a4 a5 a9 a10 h := by kernel_rfl
def swashlaw06_Forms_l1 (k : Nat) (call : Caller) : Env → Heap → Res (AExit × Env) := loopB (C k) call F.swashlaw06_Forms [1, 1, 1, 1, 0, 1, 0, 0]
def swashlaw06_Forms_l1k (k : Nat) (call : Caller) : Kont Value := kBlock 0 (kSeq (pieceK (C k) call F.swashlaw06_Forms [1, 1, 1, 1, 1]) (kDone Prog (resOf Prog F.swashlaw06_Forms)))
def swashlaw06_Forms_j1 (k : Nat) (call : Caller) (a0 a2 a3 a4 a5 a6 a12 : Value) (h : Heap) : Res Value :=
 kSeq (pieceK (C k) call F.swashlaw06_Forms [1, 1, 1, 1, 1, 1, 1]) (kDone Prog (resOf Prog F.swashlaw06_Forms)) .normal [(0, a0), (2, a2), (3, a3), (4, a4), (5, a5), (6, a6), (12, a12)] h
def swashlaw06_Forms_j2 (k : Nat) (call : Caller) (a0 a2 a3 a4 a5 a6 a12 a62 : Value) (h : Heap) : Res Value :=
 kSeq (pieceK (C k) call F.swashlaw06_Forms [1, 1, 1, 1, 1, 1, 1]) (kDone Prog (resOf Prog F.swashlaw06_Forms)) .normal [(0, a0), (2, a2), (3, a3), (4, a4), (5, a5), (6, a6), (12, a12), (62, a62)] h
def swashlaw06_Forms (k : Nat) (call : Caller) (a0 : Value) (h : Heap) : Res Value :=
 (allocR Prog 83 h).bind fun v1 h2 =>
 (buildSliceR Prog 31 0 [] h2).bind fun v3 h4 =>
 (builtinV Prog .len [79] [a0] h4).bind fun v5 h6 =>
 (binR Prog .mul 3 (.int .i64 6) v5 h6).bind fun v7 h8 =>
 (binR Prog .add 3 (.int .i64 12) v7 h8).bind fun v9 h10 =>
 (builtinV Prog .len [79] [a0] h10).bind fun v11 h12 =>
 (loopN (swashlaw06_Forms_l1 k call) loopFuel [(0, a0), (2, v1), (3, (.slice none 0 0)), (4, (.slice none 0 0)), (5, (.slice none 0 0)), (6, v3), (7, v9), (18, a0), (19, v11), (20, (.int .i64 0))] h12).bind fun r13 h14 =>
 swashlaw06_Forms_l1k k call r13.1 r13.2 h14
theorem swashlaw06_Forms_R (k : Nat) (a0 : Value) (h : Heap) : R (T k) F.swashlaw06_Forms [a0] h = nrm .fz h (swashlaw06_Forms k (R (T k)) a0 h) :=
 (R_body (t := T k) (T_scott k) (by kernel_rfl) (by kernel_rfl) _ _).trans (by kernel_rfl)
theorem swashlaw06_Forms_l1_eq (k : Nat) (call : Caller) (a0 a2 a3 a4 a5 a6 a7 a18 a19 a20 : Value) (h : Heap) : swashlaw06_Forms_l1 k call [(0, a0), (2, a2), (3, a3), (4, a4), (5, a5), (6, a6), (7, a7), (18, a18), (19, a19), (20, a20)] h =
 (binR Prog .lss 3 a20 a19 h).bind fun v15 h16 =>
 condV (some v15) (
 (indexAddrR Prog 79 a18 a20 h16).bind fun v17 h18 =>
 (loadR Prog 82 v17 h18).bind fun v19 h20 =>
 (allocR Prog 82 h20).bind fun v21 h22 =>
 (storeR Prog 82 v21 v19 h22).bind fun _v23 h24 =>
 (fieldAddrR Prog 82 v21 0 h24).bindN fun v25 h26 =>
 (loadR Prog 80 v25 h26).bindN fun v27 h28 =>
 (convR Prog 80 3 v27 h28).bindN fun v29 h30 =>
 (fieldAddrR Prog 82 v21 1 h30).bindN fun v31 h32 =>
 (loadR Prog 80 v31 h32).bindN fun v33 h34 =>
 (convR Prog 80 3 v33 h34).bindN fun v35 h36 =>
 (call F.swashref02_Put [a3, v29, (.int .i64 2)] h36).bind fun v37 h38 =>
 (call F.swashref02_Put [v37, v29, (.int .i64 2)] h38).bind fun v39 h40 =>
 (call F.swashref02_Put [v39, v35, (.int .i64 2)] h40).bind fun v41 h42 =>
 (call F.swashref02_Put [a4, v29, (.int .i64 2)] h42).bind fun v43 h44 =>
 (call F.swashref02_Put [v43, v29, (.int .i64 2)] h44).bind fun v45 h46 =>
 (binR Prog .mul 3 (.int .i64 2) a20 h46).bind fun v47 h48 =>
 (binR Prog .add 3 a7 v47 h48).bind fun v49 h50 =>
 (call F.swashref02_Put [v45, v49, (.int .i64 2)] h50).bind fun v51 h52 =>
 (call F.swashref02_Put [a5, v29, (.int .i64 2)] h52).bind fun v53 h54 =>
 (call F.swashref02_Put [v53, v35, (.int .i64 2)] h54).bind fun v55 h56 =>
 (call F.swashref02_Put [a6, v35, (.int .i64 2)] h56).bind fun v57 h58 =>
 (binR Prog .add 3 a20 (.int .i64 1) h58).bind fun v59 h60 =>
 .ok (.normal, [(0, a0), (2, a2), (3, v41), (4, v51), (5, v55), (6, v57), (7, a7), (18, a18), (19, a19), (20, v59)]) h60)
 (
 .ok ((.exit 0), [(0, a0), (2, a2), (3, a3), (4, a4), (5, a5), (6, a6), (7, a7), (18, a18), (19, a19), (20, a20), (21, v15)]) h16) :=
 (loopB_eq _ _).trans (by kernel_rfl)
theorem swashlaw06_Forms_l1k_x0 (k : Nat) (call : Caller) (a0 a2 a3 a4 a5 a6 a7 a18 a19 a20 a21 : Value) (h : Heap) : swashlaw06_Forms_l1k k call (.exit 0) [(0, a0), (2, a2), (3, a3), (4, a4), (5, a5), (6, a6), (7, a7), (18, a18), (19, a19), (20, a20), (21, a21)] h =
 (call F.swashref02_Put [(.slice none 0 0), (.int .i64 8), (.int .i64 2)] h).bind fun v61 h62 =>
 (call F.swashref02_Put [v61, (.int .i64 0), (.int .i64 2)] h62).bind fun v63 h64 =>
 (call F.swashref02_Put [v63, (.int .i64 0), (.int .i64 2)] h64).bind fun v65 h66 =>
 (builtinV Prog .len [79] [a0] h66).bind fun v67 h68 =>
 (binR Prog .eql 3 v67 (.int .i64 1) h68).bind fun v69 h70 =>
 condV (some v69) (
 (call F.swashref02_Put [(.slice none 0 0), (.int .i64 8), (.int .i64 2)] h70).bindT (fun p73 h74 => (indexAddrR Prog 79 a0 (.int .i64 0) h70).bindN fun v75 h76 => (fieldAddrR Prog 82 v75 0 h76).bindN fun v77 h78 => (loadR Prog 80 v77 h78).bindN fun v79 h80 => (convR Prog 80 3 v79 h80).bindN fun v81 h82 => (indexAddrR Prog 79 a0 (.int .i64 0) h82).bindN fun v83 h84 => (fieldAddrR Prog 82 v83 1 h84).bindN fun v85 h86 => (loadR Prog 80 v85 h86).bindN fun v87 h88 => (convR Prog 80 3 v87 h88).bindN fun v89 h90 => chkR ((okVal (loadR Prog 80 v77 h70) v79 && true) && ((okVal (loadR Prog 80 v85 h70) v87 && true) && true)) (.panic p73 h74)) fun v71 h72 =>
 (indexAddrR Prog 79 a0 (.int .i64 0) h72).bindN fun v91 h92 =>
 (fieldAddrR Prog 82 v91 0 h92).bindN fun v93 h94 =>
 (loadR Prog 80 v93 h94).bindN fun v95 h96 =>
 (convR Prog 80 3 v95 h96).bindN fun v97 h98 =>
 (call F.swashref02_Put [v71, v97, (.int .i64 2)] h98).bindT (fun p101 h102 => (indexAddrR Prog 79 a0 (.int .i64 0) h98).bindN fun v103 h104 => (fieldAddrR Prog 82 v103 1 h104).bindN fun v105 h106 => (loadR Prog 80 v105 h106).bindN fun v107 h108 => (convR Prog 80 3 v107 h108).bindN fun v109 h110 => chkR ((okVal (loadR Prog 80 v93 h70) v95 && true) && ((okVal (loadR Prog 80 v105 h70) v107 && (okVal (loadR Prog 80 v105 h72) v107 && true)) && true)) (.panic p101 h102)) fun v99 h100 =>
 (call F.swashref02_Put [v99, (.int .i64 1), (.int .i64 2)] h100).bindT (fun p113 h114 => (indexAddrR Prog 79 a0 (.int .i64 0) h100).bindN fun v115 h116 => (fieldAddrR Prog 82 v115 1 h116).bindN fun v117 h118 => (loadR Prog 80 v117 h118).bindN fun v119 h120 => (convR Prog 80 3 v119 h120).bindN fun v121 h122 => chkR ((okVal (loadR Prog 80 v93 h70) v95 && true) && ((okVal (loadR Prog 80 v117 h70) v119 && (okVal (loadR Prog 80 v117 h72) v119 && (okVal (loadR Prog 80 v117 h100) v119 && true))) && true)) (.panic p113 h114)) fun v111 h112 =>
 (indexAddrR Prog 79 a0 (.int .i64 0) h112).bindN fun v123 h124 =>
 (fieldAddrR Prog 82 v123 1 h124).bindN fun v125 h126 =>
 (loadR Prog 80 v125 h126).bindN fun v127 h128 =>
 (convR Prog 80 3 v127 h128).bindN fun v129 h130 =>
 (call F.swashref02_Put [v111, v129, (.int .i64 2)] h130).bindT (fun p133 h134 => chkR ((okVal (loadR Prog 80 v93 h70) v95 && true) && ((okVal (loadR Prog 80 v125 h70) v127 && (okVal (loadR Prog 80 v125 h72) v127 && (okVal (loadR Prog 80 v125 h100) v127 && true))) && true)) (.panic p133 h134)) fun v131 h132 =>
 chkR ((okVal (loadR Prog 80 v93 h70) v95 && true) && ((okVal (loadR Prog 80 v125 h70) v127 && (okVal (loadR Prog 80 v125 h72) v127 && (okVal (loadR Prog 80 v125 h100) v127 && true))) && true)) (
 swashlaw06_Forms_j1 k call a0 a2 a3 a4 a5 a6 v131 h132))
 (
 swashlaw06_Forms_j2 k call a0 a2 a3 a4 a5 a6 v65 v69 h70) := by kernel_rfl
theorem swashlaw06_Forms_j1_eq (k : Nat) (call : Caller) (a0 a2 a3 a4 a5 a6 a12 : Value) (h : Heap) : swashlaw06_Forms_j1 k call a0 a2 a3 a4 a5 a6 a12 h =
 (builtinV Prog .len [79] [a0] h).bind fun v135 h136 =>
 (call F.swashlaw06_head [(.int .i64 2), (.int .i64 6), v135] h136).bind fun v137 h138 =>
 (builtinV Prog .append [31, 31] [v137, a3] h138).bind fun v139 h140 =>
 (builtinV Prog .len [79] [a0] h140).bind fun v141 h142 =>
 (call F.swashlaw06_head [(.int .i64 4), (.int .i64 6), v141] h142).bind fun v143 h144 =>
 (builtinV Prog .append [31, 31] [v143, a4] h144).bind fun v145 h146 =>
 (builtinV Prog .append [31, 31] [v145, a6] h146).bind fun v147 h148 =>
 (builtinV Prog .len [79] [a0] h148).bind fun v149 h150 =>
 (call F.swashlaw06_head [(.int .i64 6), (.int .i64 4), v149] h150).bind fun v151 h152 =>
 (builtinV Prog .append [31, 31] [v151, a5] h152).bind fun v153 h154 =>
 (buildR Prog 83 [(0, v139), (1, v147), (2, v153), (3, a12)] h154).bind fun v155 h156 =>
 (storeR Prog 83 a2 v155 h156).bind fun _v157 h158 =>
 (loadR Prog 83 a2 h158).bind fun v159 h160 =>
 .ok v159 h160 := by kernel_rfl
theorem swashlaw06_Forms_j2_eq (k : Nat) (call : Caller) (a0 a2 a3 a4 a5 a6 a12 a62 : Value) (h : Heap) : swashlaw06_Forms_j2 k call a0 a2 a3 a4 a5 a6 a12 a62 h =
 (builtinV Prog .len [79] [a0] h).bind fun v161 h162 =>
 (call F.swashlaw06_head [(.int .i64 2), (.int .i64 6), v161] h162).bind fun v163 h164 =>
 (builtinV Prog .append [31, 31] [v163, a3] h164).bind fun v165 h166 =>
 (builtinV Prog .len [79] [a0] h166).bind fun v167 h168 =>
 (call F.swashlaw06_head [(.int .i64 4), (.int .i64 6), v167] h168).bind fun v169 h170 =>
 (builtinV Prog .append [31, 31] [v169, a4] h170).bind fun v171 h172 =>
 (builtinV Prog .append [31, 31] [v171, a6] h172).bind fun v173 h174 =>
 (builtinV Prog .len [79] [a0] h174).bind fun v175 h176 =>
 (call F.swashlaw06_head [(.int .i64 6), (.int .i64 4), v175] h176).bind fun v177 h178 =>
 (builtinV Prog .append [31, 31] [v177, a5] h178).bind fun v179 h180 =>
 (buildR Prog 83 [(0, v165), (1, v173), (2, v179), (3, a12)] h180).bind fun v181 h182 =>
 (storeR Prog 83 a2 v181 h182).bind fun _v183 h184 =>
 (loadR Prog 83 a2 h184).bind fun v185 h186 =>
 .ok v185 h186 := by kernel_rfl
def swashlaw06_head (k : Nat) (call : Caller) (a0 a1 a2 : Value) (h : Heap) : Res Value :=
 (call F.swashref02_Put [(.slice none 0 0), a0, (.int .i64 2)] h).bind fun v1 h2 =>
 (call F.swashref02_Put [v1, a1, (.int .i64 2)] h2).bind fun v3 h4 =>
 (call F.swashref02_Put [v3, a2, (.int .i64 2)] h4).bind fun v5 h6 =>
 (buildSliceR Prog 31 6 [(0, (.int .u8 0)), (1, (.int .u8 0)), (2, (.int .u8 0)), (3, (.int .u8 0)), (4, (.int .u8 0)), (5, (.int .u8 0))] h6).bind fun v7 h8 =>
 (builtinV Prog .append [31, 31] [v5, v7] h8).bind fun v9 h10 =>
 .ok v9 h10
theorem swashlaw06_head_R (k : Nat) (a0 a1 a2 : Value) (h : Heap) : R (T k) F.swashlaw06_head [a0, a1, a2] h = nrm .no h (swashlaw06_head k (R (T k)) a0 a1 a2 h) :=
 (R_body (t := T k) (T_scott k) (by kernel_rfl) (by kernel_rfl) _ _).trans (by kernel_rfl)
end
end Go.Sw
end
section
namespace Go.Sw
open Go.RowKit
theorem speaks06n_run (k : Nat) (hk : k % 1000000 = F.swashlaw06_speaks) (H : Heap) : R (T k) F.swashlaw06_speaks [] H = .ok (.bool true) H :=
 (R_sp (t := T k) (T_scott k) (s := constSp (.bool true)) (by unfold T C; dsimp only; rw [hk]; kernel_rfl) [] H).trans (nrm_gc (Pure.of rfl) (.bool _))
theorem LookupAll_R (k : Nat) (a0 a1 : Value) (h : Heap) : R (T k) F.swashlaw06_LookupAll [a0, a1] h = nrm .gc h (swashlaw06_LookupAll k (R (T k)) a0 a1 h) :=
 (R_sp (t := T k) (T_scott k) (s := fun call args H => bodyK CI call F.swashlaw06_LookupAll args H) (by kernel_rfl) [a0, a1] h).trans (by
  show nrm ((T k).md F.swashlaw06_LookupAll) h (bodyK _ _ _ _ _) = _;rw [swashlaw06_LookupAll_body k (fun _ => none)];rfl)
def allH (H : Heap) (few : Int) (x : Int × List Pt) (last n : Int) : Heap :=
 (((((H.push ⟨[.int .u8 few], 1, false⟩).push ⟨[.bool false], 1, false⟩).push ⟨[tabV x], 1, false⟩).push ⟨[.int .i64 last], 1, false⟩).push ⟨[.int .i64 n], 1, false⟩).push ⟨[tabV x], 1, false⟩
def allE (H : Heap) : Env := [(3, .pointer (some ⟨H.n, 0, none⟩)), (4, .pointer (some ⟨H.n + 1, 0, none⟩)), (5, .pointer (some ⟨H.n + 2, 0, none⟩)), (9, .pointer (some ⟨H.n + 3, 0, none⟩)), (10, .pointer (some ⟨H.n + 4, 0, none⟩))]
set_option maxHeartbeats 1000000 in
theorem all_round (k : Nat) (H : Heap) (x : Int × List Pt) (hok : ∀ p, p ∈ x.2 → p.ok) (hr : risesS x.2 = true) (hl : x.2.length < 2 ^ 31) (few : Int) (h0 : 0 ≤ few) (h256 : few < 256) (id y last n : Int) (hlast : -1 ≤ last) (hid : last < id) (hid2 : id < 65536) (hy : getS x.2 id = some y)
  (hno : ∀ q, last < q → q < id → getS x.2 q = none) (hn : 0 ≤ n ∧ n ≤ few) :
  swashlaw06_LookupAll_g1 k (R (T k)) (putAll (allE H) [43, 44] [id, y]) (allH H few x last n) = .ok (if n + 1 > few then .exit 0 else .normal) (allH H few x id (n + 1)) := by
 have hget := fun id H' => Get_run k x hok hr id hl H';have hg1 := hget id (allH H few x last n);rw [hy] at hg1;have b0 : (allH H few x last n).get H.n = some ⟨[.int .u8 few], 1, false⟩ := by simp [allH]
 have b2 : (allH H few x last n).get (H.n + 2) = some ⟨[tabV x], 1, false⟩ := by simp [allH]
 have b3 : (allH H few x last n).get (H.n + 3) = some ⟨[.int .i64 last], 1, false⟩ := by simp [allH]
 have b4 : (allH H few x last n).get (H.n + 4) = some ⟨[.int .i64 n], 1, false⟩ := by simp [allH]
 obtain ⟨e', H1, hr1, rfl, a, rfl⟩ : ∃ e' H1, loopN (swashlaw06_LookupAll_l2 k (R (T k))) loopFuel (allE H ++ [(11, .int .i64 id), (15, .int .i64 (last + 1))]) (allH H few x last n) = .ok (.exit 2, e') H1 ∧ H1 = allH H few x last n ∧ ∃ a, e' = allE H ++ [(11, .int .i64 id), (15, .int .i64 id), (73, a)] := by
  obtain ⟨y, e', H1, h1, h2, rfl, h3⟩ := loop_up (body := swashlaw06_LookupAll_l2 k (R (T k))) (id - last - 1).toNat
   (fun j e H' => H' = allH H few x last n ∧ e = allE H ++ [(11, .int .i64 id), (15, .int .i64 (last + 1 + j))])
   (fun y e H' => H' = allH H few x last n ∧ y = .exit 2 ∧ ∃ a, e = allE H ++ [(11, .int .i64 id), (15, .int .i64 id), (73, a)])
   (e0 := allE H ++ [(11, .int .i64 id), (15, .int .i64 (last + 1))]) (H0 := allH H few x last n) ⟨rfl, by simp⟩ (by omega)
   (fun j e H' hj ⟨hH, he⟩ => by
    subst he hH;have hlt : last + 1 + (j : Int) < id := by omega
    have hn := hno (last + 1 + j) (by omega) hlt;have hg := hget (last + 1 + j) (allH H few x last n);rw [hn] at hg;refine .inl ⟨_, _, ?_, rfl, rfl⟩;simp only [allE, List.cons_append, List.nil_append];rw [swashlaw06_LookupAll_l2_eq];simp only [Option.getD_none, Option.isSome_none] at hg;simp -implicitDefEqProofs (disch := omega) [hlt, b2, hg];omega)
   (fun e H' ⟨hH, he⟩ => by
    subst he hH;have hlt : ¬ last + 1 + ((id - last - 1).toNat : Int) < id := by omega
    refine ⟨.exit 2, allE H ++ [(11, .int .i64 id), (15, .int .i64 id), (73, .bool false)], _, ?_, by simp, rfl, rfl, .bool false, ?_⟩
    ·simp only [allE, List.cons_append, List.nil_append];rw [swashlaw06_LookupAll_l2_eq];have h3 : last + 1 + ((id - last - 1).toNat : Int) = id := by omega
     rw [h3];simp -implicitDefEqProofs (disch := omega) [allE]
    ·simp [allE])
  exact ⟨e', H1, h1, h2, h3⟩
 simp only [allE, List.cons_append, List.nil_append] at hr1;show swashlaw06_LookupAll_g1 k (R (T k)) [(3, .pointer (some ⟨H.n, 0, none⟩)), (4, .pointer (some ⟨H.n + 1, 0, none⟩)), (5, .pointer (some ⟨H.n + 2, 0, none⟩)), (9, .pointer (some ⟨H.n + 3, 0, none⟩)), (10, .pointer (some ⟨H.n + 4, 0, none⟩)), (43, .int .i64 id), (44, .int .i64 y)] _ = _;rw [swashlaw06_LookupAll_g1_eq];have s3 : (allH H few x last n).set (H.n + 3) (some ⟨[.int .i64 id], 1, false⟩) = allH H few x id n := by simp [allH]
 have s4 : (allH H few x id n).set (H.n + 4) (some ⟨[.int .i64 (n + 1)], 1, false⟩) = allH H few x id (n + 1) := by simp [allH]
 have c0 : (allH H few x id n).get H.n = some ⟨[.int .u8 few], 1, false⟩ := by simp [allH]
 have c4 : (allH H few x id n).get (H.n + 4) = some ⟨[.int .i64 n], 1, false⟩ := by simp [allH]
 have d0 : (allH H few x id (n + 1)).get H.n = some ⟨[.int .u8 few], 1, false⟩ := by simp [allH]
 have d4 : (allH H few x id (n + 1)).get (H.n + 4) = some ⟨[.int .i64 (n + 1)], 1, false⟩ := by simp [allH]
 have w1 : IntKind.i64.wrap few = few := wrap_i64 (by omega) (by omega);have n1 : ¬ id ≤ last := by omega
 have n2 : ¬ few < n := by omega
 simp only [Option.getD_some, Option.isSome_some] at hg1;by_cases hf : n + 1 > few
 ·rw [if_pos hf];simp -implicitDefEqProofs (disch := omega) [b0, b2, b3, b4, c0, c4, d0, d4, s3, s4, w1, n1, n2, hg1, hr1, swashlaw06_LookupAll_l2k_x2, hf]
 ·rw [if_neg hf];simp -implicitDefEqProofs (disch := omega) [b0, b2, b3, b4, c0, c4, d0, d4, s3, s4, w1, n1, n2, hg1, hr1, swashlaw06_LookupAll_l2k_x2, hf]
theorem all_rounds (k : Nat) (H : Heap) (x : Int × List Pt) (hok : ∀ p, p ∈ x.2 → p.ok) (hr : risesS x.2 = true) (hl : x.2.length < 2 ^ 31) (few : Int) (h0 : 0 ≤ few) (h256 : few < 256) : ∀ (L : List (List Int)) (last n : Int), -1 ≤ last → 0 ≤ n ∧ n ≤ few → Rising x.2 last L →
  ∃ xx last' n', rangeN (swashlaw06_LookupAll_g1 k (R (T k))) [43, 44] (allE H) L (allH H few x last n) = .ok (xx, allE H) (allH H few x last' n') ∧ (xx = .normal ∨ xx = .exit 0)
 | [], last, n, _, _, _ => ⟨.normal, last, n, rfl, .inl rfl⟩
 | e :: L, last, n, hlast, hn, hR => by
  obtain ⟨id, y, rfl, h1, h2, h3, h4, h5⟩ := hR;have hrd := all_round k H x hok hr hl few h0 h256 id y last n hlast h1 h2 h3 h4 hn;unfold rangeN;simp only [List.length_cons, List.length_nil, Nat.beq_refl, cond_true, hrd, Res.bind_ok];by_cases hf : n + 1 > few
  ·rw [if_pos hf];exact ⟨.exit 0, id, n + 1, rfl, .inr rfl⟩
  ·rw [if_neg hf];exact all_rounds k H x hok hr hl few h0 h256 L id (n + 1) (by omega) (by omega) h5
theorem LookupAll_run (b : List Int) (hb : Byt b) (few : Int) (h0 : 0 ≤ few) (h256 : few < 256) (k : Nat) (hk : k % 1000000 = F.swashlaw06_speaks) : R (T k) F.swashlaw06_LookupAll [lv encB b, .int .u8 few] Heap.empty = .ok (.bool true) Heap.empty := by
 have hs := speaks06n_run k hk;rw [LookupAll_R];generalize Heap.empty = H;have hx2 := ((Ext.refl H).push ⟨[.int .u8 few], 1, false⟩).push ⟨[.bool true], 1, false⟩;by_cases hl : b.length > 400
 ·have hl' : (b.length : Int) > 400 := by omega
  refine nrm_gc ⟨_, ?_, hx2⟩ (.bool _);simp -implicitDefEqProofs (disch := omega) [swashlaw06_LookupAll, hs, hl']
 have hl' : ¬ (b.length : Int) > 400 := by omega
 have hrd := fun H' => lookRead_run k (H := H') (Sl.lv H' 1 b) hb 40 2 (by omega);have hbad : badS 40 2 = false := by decide
 unfold lookO lookN at hrd;rw [hbad] at hrd;cases h : lookS b 40 2 with
 | none =>
  rw [h] at hrd;simp [lookV] at hrd;have hrf := fun H' => read06_run k b hb 40 2 (by decide) (.inl rfl) (by omega) H';rw [(look_ref hb (by decide) (by decide) (.inl rfl)).2 h] at hrf;simp [tabRO] at hrf;refine nrm_gc ⟨_, ?_, (hx2.push ⟨[.pointer none], 1, false⟩).push ⟨[lv encB [], lv encRP []], 1, false⟩⟩ (.bool _);simp -implicitDefEqProofs (disch := omega) [swashlaw06_LookupAll, hs, hl', hrd, hrf]
 | some x =>
  rw [h] at hrd;simp [lookV] at hrd;have hok := lookS_ok hb (by decide) (by decide) (.inl rfl) h;have hpl := lookS_len hb h;have hall := fun H' => lookAll_run k x H';obtain ⟨xx, last', n', hr, hxx⟩ := all_rounds k H x hok.2.1 hok.2.2 hpl few h0 h256 (x.2.flatMap ptL) (-1) 0 (by decide) ⟨by decide, h0⟩ (rising_tab hok.2.1 hok.2.2);have hit := itS_tab x hok.2.1 hpl (H.n + 5) (allH H few x (-1) 0) (by simp [allH]);refine nrm_gc ⟨_, ?_, ((((hx2.push ⟨[tabV x], 1, false⟩).push ⟨[.int .i64 last'], 1, false⟩).push ⟨[.int .i64 n'], 1, false⟩).push ⟨[tabV x], 1, false⟩)⟩ (.bool _);simp -implicitDefEqProofs (disch := omega) [swashlaw06_LookupAll, hs, hl', hrd, hall];show ((opt (itS (.func (.func F.lookup_Table_All_in1) #[] #[.pointer (some ⟨H.n + 5, 0, none⟩)]) (allH H few x (-1) 0)) (allH H few x (-1) 0)).bind fun l67 h68 => rangeN (swashlaw06_LookupAll_g1 k (R (T k))) [43, 44] (allE H) l67 h68).bind (fun r69 h70 => swashlaw06_LookupAll_g1k k (R (T k)) r69.1 r69.2 h70) = _;rw [hit];simp only [opt, Res.bind_ok, hr];have b1 : (allH H few x last' n').get (H.n + 1) = some ⟨[.bool false], 1, false⟩ := by simp [allH]
  have e1 : (allH H few x last' n').set (H.n + 1) (some ⟨[.bool true], 1, false⟩) = (((((H.push ⟨[.int .u8 few], 1, false⟩).push ⟨[.bool true], 1, false⟩).push ⟨[tabV x], 1, false⟩).push ⟨[.int .i64 last'], 1, false⟩).push ⟨[.int .i64 n'], 1, false⟩).push ⟨[tabV x], 1, false⟩ := by simp [allH]
  unfold allE;rcases hxx with rfl | rfl
  ·rw [swashlaw06_LookupAll_g1k_n, swashlaw06_LookupAll_j1_eq];simp -implicitDefEqProofs (disch := omega) [b1, e1]
  ·rw [swashlaw06_LookupAll_g1k_x0];simp -implicitDefEqProofs (disch := omega) [b1, e1, swashlaw06_LookupAll_j1_eq]
theorem LookupAll_args (vs : List Value) (h : ArgsLay [.one (.slice [.int .u8]), .one (.int .u8)] vs) : ∃ H', R (T F.swashlaw06_speaks) F.swashlaw06_LookupAll vs Heap.empty = .ok (.bool true) H' := by
 obtain ⟨v1, _, rfl, h1, h⟩ := h.head;obtain ⟨v2, _, rfl, h2, h⟩ := h.head;obtain rfl := h.done;obtain ⟨b, rfl, hb⟩ := arg_B h1;obtain ⟨z, rfl, hz⟩ := arg_i h2;have hz := wf_u8 hz;exact ⟨_, LookupAll_run b hb z hz.1 hz.2 _ rfl⟩
end Go.Sw
end
