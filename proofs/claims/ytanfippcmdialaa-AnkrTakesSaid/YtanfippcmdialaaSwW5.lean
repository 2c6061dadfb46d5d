/-
  Functions' forms, and what is proved of them, part 5.
-/
import Derived.Test.YtanfippcmdialaaSwLib9
import Derived.Laws.IdiomCopy
import Derived.Test.YtanfippcmdialaaSwCfg
import Derived.Tactics
import Derived.Tactics2
import Derived.WalkKit
import Derived.Lib.Walk
import Derived.Lib.SliceRun
import Derived.Lib.JoinLaws
import Derived.Lib.AppendZeros
import Derived.Lib.AppendZerosOnto
import Derived.Lib.Overlaps
import Derived.Laws.Externs
import Derived.Laws.NewBlocks
import Derived.Deep.RegionLaw
import Derived.Test.YtanfippcmdialaaSwW3
import Derived.Test.YtanfippcmdialaaSwW4
import Derived.Test.YtanfippcmdialaaSwLib10
import Derived.Test.YtanfippcmdialaaSwLib8
import Derived.Eval
import Derived.Test.YtanfippcmdialaaSwW2
set_option linter.unusedSimpArgs false
set_option linter.unusedVariables false
set_option linter.unusedSectionVars false
section
namespace Go.Sw
open Go.RowKit
theorem setCells_row (g : Nat) (el : TypeId) (fz : Nat × Nat) : ∀ (vs : List Value) (o : Nat) (cs : Array Value) (w : World), w.heap[g]? = some (.cells cs el fz) → o + vs.length ≤ cs.size → w.setCells g o vs = w.setRow g (splice cs.toList o vs).toArray
 | [], o, cs, w, hg, _ => by
  rw [World.setCells];unfold splice;simp only [List.length_nil, Nat.add_zero, List.nil_append, List.take_append_drop, Array.toArray_toList];exact (setRow_self w g cs el fz hg).symm
 | v :: r, o, cs, w, hg, hl => by
  rw [World.setCells, setCell_eq_setRow w g o cs el fz v hg, setCells_row g el fz r (o + 1) (cs.setIfInBounds o v) _ (setRow_heap w g cs _ el fz hg) (by simp at hl ⊢; omega), setRow_setRow];congr 2;have e := list_seg_step cs.toList o v r (by simp at hl ⊢; omega);unfold splice;simpa [Array.toList_setIfInBounds, Nat.add_assoc, Nat.add_comm 1] using e
theorem splice_two (l a b : List Value) (o : Nat) (h : o + a.length + b.length ≤ l.length) : splice (splice l (o + a.length) b) o a = splice l o (a ++ b) := by
 apply List.ext_getElem?;intro j;have h1 : (splice l (o + a.length) b).length = l.length := splice_length _ _ _ (by omega);rw [splice_get _ _ _ (by rw [h1]; omega), splice_get _ _ _ (by omega), splice_get _ _ _ (by rw [List.length_append]; omega)];rw [List.length_append];by_cases c0 : j < o
 ·have c1 : j < o + a.length := by omega
  simp only [if_pos c0, if_pos c1]
 ·simp only [if_neg c0];by_cases c1 : j < o + a.length
  ·have c3 : j < o + (a.length + b.length) := by omega
   simp only [if_pos c1, if_pos c3];rw [List.getElem?_append_left (by omega)]
  ·simp only [if_neg c1];by_cases c2 : j < o + a.length + b.length
   ·have c3 : j < o + (a.length + b.length) := by omega
    simp only [if_pos c2, if_pos c3];rw [List.getElem?_append_right (by omega), show j - o - a.length = j - (o + a.length) by omega]
   ·have c3 : ¬ j < o + (a.length + b.length) := by omega
    simp only [if_neg c2, if_neg c3]
theorem VRs.cut {μ : Mu} {k : List Value} {cs : Array Value} {base off N : Nat} (h4 : ∀ (i : Nat) v, k[i]? = some v → ∃ v', cs[base + i]? = some v' ∧ VR μ v v') (hk : off + N ≤ k.length) :
  VRs μ ((k.drop off).take N) ((cs.toList.drop (base + off)).take N) := by
 have hcs : ∀ i, i < N → base + off + i < cs.size := fun i hi => by
  obtain ⟨v', e, _⟩ := h4 (off + i) _ (List.getElem?_eq_getElem (by omega));have := (Array.getElem?_eq_some_iff.1 e).1;omega
 refine ⟨?_, fun i v v' hv hv' => ?_⟩
 ·rw [List.length_take, List.length_take, List.length_drop, List.length_drop, Array.length_toList (xs := cs)];by_cases h0 : N = 0
  ·subst h0; simp
  ·have := hcs (N - 1) (by omega);have e1 : N ≤ k.length - off := by omega
   have e2 : N ≤ cs.size - (base + off) := by omega
   rw [Nat.min_eq_left e1, Nat.min_eq_left e2]
 ·rw [List.getElem?_take] at hv hv';split at hv
  ·rename_i hi;rw [if_pos hi, List.getElem?_drop] at hv';rw [List.getElem?_drop] at hv;obtain ⟨u, e, r⟩ := h4 _ v hv;rw [← Nat.add_assoc] at e;simp only [Array.getElem?_toList] at hv';rw [e] at hv';injection hv' with hv';subst hv';exact r
  ·cases hv
structure InsWalk (P : Program) (f : FuncId) (tS e : TypeId) (sz : Nat) (z : Value) : Prop where
 fn : ∃ fn, P.funcs[f]? = some fn ∧ fn.body.isSome = true ∧ (fn.name == "runtime.NumGoroutine") = false
 none_ : ∀ (base : Option Addr) (n c i : Nat) (vb : Option Addr) (vc : Nat) (w : World), i ≤ n → n ≤ c → (base = none → n = 0 ∧ c = 0) → Calls P f #[.slice base n c, .int .i64 (i : Nat), .slice vb 0 vc] w fun e w' => e = .returned (.slice base n c) ∧ w' = w
 end_ : ∀ (base : Option Addr) (n c : Nat) (vb : Option Addr) (m vc : Nat) (w : World) (v' : Value) (w1 : World), n ≤ c → (base = none → n = 0 ∧ c = 0) → 0 < m → (Builtin.append_ #[tS, tS] tS #[.slice base n c, .slice vb m vc]).run P w = .ok v' w1 →
  Calls P f #[.slice base n c, .int .i64 (n : Nat), .slice vb m vc] w fun e w' => e = .returned v' ∧ w' = w1
 shift : ∀ (b off n c i vb voff m vc : Nat) (CS VS : Array Value) (el el2 : TypeId) (cs vs : List Value) (w : World), i < n → 0 < m → n + m ≤ c → n + m ≤ 2 ^ 31 → vb ≠ b → w.heap[b]? = some (.cells CS el (0, 0)) → w.heap[vb]? = some (.cells VS el2 (0, 0)) → off + c * sz ≤ CS.size → voff + m * sz ≤ VS.size →
  cs = (CS.toList.drop off).take (n * sz) → vs = (VS.toList.drop voff).take (m * sz) → Ones cs → Ones vs →
  Calls P f #[.slice (some ⟨b, off, none⟩) n c, .int .i64 (i : Nat), .slice (some ⟨vb, voff, none⟩) m vc] w fun e w' => e = .returned (.slice (some ⟨b, off, none⟩) (n + m) c) ∧ w' = (w.drew.setCells b (off + (i + m) * sz) (cs.drop (i * sz))).setCells b (off + i * sz) vs
 grow : ∀ (b off n c i vb voff m vc : Nat) (CS VS : Array Value) (el el2 : TypeId) (cs vs : List Value) (w : World), i < n → 0 < m → n ≤ c → c < n + m → n + m ≤ 2 ^ 31 → w.heap[b]? = some (.cells CS el (0, 0)) → w.heap[vb]? = some (.cells VS el2 (0, 0)) → off + n * sz ≤ CS.size → voff + m * sz ≤ VS.size →
  cs = (CS.toList.drop off).take (n * sz) → vs = (VS.toList.drop voff).take (m * sz) → Ones cs → Ones vs →
  ∃ G, n + m ≤ G ∧ Calls P f #[.slice (some ⟨b, off, none⟩) n c, .int .i64 (i : Nat), .slice (some ⟨vb, voff, none⟩) m vc] w fun r w' => r = .returned (.slice (some ⟨w.heap.size, 0, none⟩) (n + m) G) ∧
   w' = (((w.alloc (.cells ((cs.take (i * sz)).toArray ++ Builtin.zeroCells z.cells (n + m - i) ++ Builtin.zeroCells z.cells (G - (n + m))) e)).drew.setCells w.heap.size (i * sz) vs).drew).setCells w.heap.size ((i + m) * sz) (cs.drop (i * sz))
theorem lenL_slice {μ : Mu} {v v' : Value} {n : Nat} (h : VR μ v v') (hl : lenL v = some n) : ∃ a c, v' = .slice a n c := by
 unfold lenL at hl;split at hl
 ·injection hl with hl; subst hl;cases h <;> exact ⟨_, _, rfl⟩
 ·injection hl with hl; subst hl;cases h <;> exact ⟨_, _, rfl⟩
 ·cases hl
theorem slice_shape {μ : Mu} {base : Option Addr} {n c : Nat} {s' : Value} (h : VR μ (.slice base n c) s') : ∃ base' c', s' = .slice base' n c' ∧ n ≤ c' ∧ (base' = none → n = 0 ∧ c' = 0) := by
 cases h with
 | nilSlice => exact ⟨_, _, rfl, Nat.le_refl _, fun _ => ⟨rfl, rfl⟩⟩
 | slice b off off' len cap cap' m h hl hc ho hx => exact ⟨_, _, rfl, Nat.le_trans hl hc, fun h => by cases h⟩
 | unsure a => exact ⟨_, _, rfl, Nat.le_refl _, fun _ => ⟨rfl, rfl⟩⟩
 | bare a => exact ⟨_, _, rfl, Nat.le_refl _, fun h => by cases h⟩
theorem heap_setRow_new (w : World) (A B : Array Value) (e : TypeId) : ((w.alloc (.cells A e)).setRow w.heap.size B).heap = (w.alloc (.cells B e)).heap := by
 have h1 : (w.alloc (.cells A e)).heap[w.heap.size]? = some (.cells A e (0, 0)) := heap_alloc_new' _ _;apply Array.ext_getElem?;intro j;by_cases hj : j = w.heap.size
 ·subst hj;rw [setRow_heap _ _ _ _ _ _ h1, heap_alloc_new']
 ·rw [setRow_other _ _ _ _ hj];show (w.heap.push _)[j]? = (w.heap.push _)[j]?;rw [Array.getElem?_push, Array.getElem?_push, if_neg hj, if_neg hj]
set_option maxHeartbeats 1000000 in
theorem insert_of {P : Program} {f : FuncId} {tS e : TypeId} {inf : TypeInfo} {z : Value} {sz bytes : Nat} (ht : P.underlying tS = some (.slice e)) (hi : P.info? e = some inf) (hz : inf.zero = some z) (hzs : z.cells.size = inf.size) (es : inf.size = sz) (eb : inf.bytes = bytes) (h0 : 0 < sz)
  (hW : InsWalk P f tS e sz z) : SpIs P f fun _ args H => insertV sz bytes args H := by
 subst es eb;intro call _ args H hne;refine ⟨hW.fn, fun w0 μ w args' hH hargs => ?_⟩;dsimp only at hne ⊢;unfold insertV at hne ⊢;split at hne;rotate_left
 ·exact absurd rfl hne
 rename_i base n cap i v;obtain ⟨s', r1, rfl, hs, ha⟩ := hargs.cons_inv;obtain ⟨i', r2, rfl, hi', ha⟩ := ha.cons_inv;obtain ⟨v', r3, rfl, hv, ha⟩ := ha.cons_inv;have := ha.nil_inv;subst this;cases hi';obtain ⟨base', cap', rfl, hnc, hnil⟩ := slice_shape hs;cases hl : lenL v with
 | none => rw [hl] at hne; exact absurd rfl hne
 | some q =>
 rw [hl] at hne;obtain ⟨vb', vc', rfl⟩ := lenL_slice hv hl;cases q with
 | zero =>
  dsimp only at hne ⊢;split at hne;rotate_left
  ·exact absurd rfl hne
  rename_i hin;rw [if_pos hin];obtain ⟨p, rfl⟩ := Int.eq_ofNat_of_zero_le hin.1;refine (hW.none_ base' n cap' p vb' vc' w (by omega) hnc hnil).mono ?_;rintro _ _ ⟨rfl, rfl⟩;exact ⟨μ, _, Mu.le_refl _, hH, hs, rfl⟩
 | succ q =>
  dsimp only at hne ⊢;split at hne
  ·rename_i hin;rw [if_pos hin];subst hin;unfold apR at hne ⊢;dsimp only at hne ⊢;rw [lenL_lenV hl] at hne ⊢;dsimp only at hne ⊢;cases hr : appendK inf.size inf.bytes inf.size (q + 1) base n cap v H with
   | stuck => rw [hr] at hne; exact absurd rfl hne
   | panic u H' =>
    exfalso;revert hr;unfold appendK
    repeat' split
    all_goals (intro h; cases h)
   | ok u H' =>
    obtain ⟨μ', u', w1, e1, e2, e3, e4⟩ := appendK_sim (ty := tS) hH ht (.inl ⟨e, ht⟩) hi hz hs hv (lenL_lenV hl) (by rw [hzs]; exact hr);refine (hW.end_ base' n cap' vb' (q + 1) vc' w u' w1 hnc hnil (by omega) e1).mono ?_;rintro _ _ ⟨rfl, rfl⟩;exact ⟨μ', u', e2, e3, e4, rfl⟩
  ·rename_i hin;rw [if_neg hin];split at hne;rotate_left
   ·exact absurd rfl hne
   rename_i b off c voff m vcap _;split at hne;rotate_left
   ·exact absurd rfl hne
   rename_i k kc hk hkc;split at hne;rotate_left
   ·exact absurd rfl hne
   rename_i hcond;rw [if_pos hcond];obtain ⟨c1, c2, c3, c4, c5, c6, c7, c8, c9, c10, c11⟩ := hcond;obtain ⟨p, rfl⟩ := Int.eq_ofNat_of_zero_le c1;have hpn : p < n := by omega
   cases hs with
   | slice _ _ off' _ _ cap' M hM hl1 hc1 ho1 hx1 =>
   cases hv with
   | slice _ _ voff' _ _ vcap' Mc hMc hl2 hc2 ho2 hx2 =>
   have hm0 : 0 < q + 1 := by omega
   generalize q + 1 = m at *;have ho1 := ho1.resolve_left (by omega);have ho2 := ho2.resolve_left (by omega);subst ho1 ho2;obtain ⟨M', hM', bM⟩ := hH.blk b k hk;rw [hM] at hM'; injection hM' with hM'; subst hM';obtain ⟨Mc', hMc', bMc⟩ := hH.blk c kc hkc;rw [hMc] at hMc'; injection hMc' with hMc'; subst hMc';obtain ⟨CS, el, fz, g1, g2, g3, g4⟩ := bM.here;obtain ⟨VS, el2, fz2, f1, f2, f3, f4⟩ := bMc.here;have g2 := g2 c6;have f2 := f2 c10;subst g2 f2;have hesz : M.esz = inf.size := bM.esz.trans c7;have hext := bM.ext;have hext2 := bMc.ext;have hroomx : off + cap' * inf.size ≤ M.ext := by
    rcases hx1 with h | h | h
    ·rw [h]; omega
    ·rw [bM.ro, c6] at h; cases h
    ·rw [hesz] at h; exact h
   have hne2 : Mc.blk ≠ M.blk := hH.other hk hkc hM hMc c6 c9;have hnsz : n * inf.size ≤ cap * inf.size := Nat.mul_le_mul_right _ c3;have hps : p * inf.size ≤ n * inf.size := Nat.mul_le_mul_right _ (by omega);have kcut := VRs.cut (N := n * inf.size) (off := off) (base := M.base) g4 (by omega);have vcut := VRs.cut (N := m * inf.size) (off := voff) (base := Mc.base) f4 (by omega);have ko : Ones ((k.cells.drop off).take (n * inf.size)) := (bM.ones.drop _).take _;have vo : Ones ((kc.cells.drop voff).take (m * inf.size)) := (bMc.ones.drop _).take _;have ko' := kcut.ones ko;have vo' := vcut.ones vo;have kl : ((k.cells.drop off).take (n * inf.size)).length = n * inf.size := by rw [List.length_take, List.length_drop]; omega
   have vl : ((kc.cells.drop voff).take (m * inf.size)).length = m * inf.size := by rw [List.length_take, List.length_drop]; omega
   have kl' := kcut.1.symm.trans kl;have vl' := vcut.1.symm.trans vl;obtain ⟨cs, hcs⟩ : ∃ cs, cs = (CS.toList.drop (M.base + off)).take (n * inf.size) := ⟨_, rfl⟩
   obtain ⟨vs, hvs⟩ : ∃ vs, vs = (VS.toList.drop (Mc.base + voff)).take (m * inf.size) := ⟨_, rfl⟩
   rw [← hcs] at kcut ko' kl';rw [← hvs] at vcut vo' vl';have hd : HR w0 μ H w.drew := hH.drew rfl rfl rfl rfl;have e1 : (n + m) * inf.size = n * inf.size + m * inf.size := Nat.add_mul _ _ _;have e2 : (p + m) * inf.size = p * inf.size + m * inf.size := Nat.add_mul _ _ _;have hdl : (cs.drop (p * inf.size)).length = n * inf.size - p * inf.size := by rw [List.length_drop, kl']
   by_cases hroom : n + m ≤ cap'
   ·
    have hnm : (n + m) * inf.size ≤ cap' * inf.size := Nat.mul_le_mul_right _ hroom;refine (hW.shift M.blk (M.base + off) n cap' p Mc.blk (Mc.base + voff) m vc' CS VS el el2 cs vs w hpn (by omega) hroom c4 hne2 g1 f1 (by omega) (by omega) hcs hvs ko' vo').mono ?_;rintro _ _ ⟨rfl, rfl⟩;have hsr : (w.drew.setCells M.blk (M.base + off + (p + m) * inf.size) (cs.drop (p * inf.size))).setCells M.blk (M.base + off + p * inf.size) vs = w.drew.setRow M.blk (splice CS.toList (M.base + off + p * inf.size) (vs ++ cs.drop (p * inf.size))).toArray := by
     rw [setCells_row M.blk el (0, 0) _ _ CS w.drew g1 (by omega)];have hsl : (splice CS.toList (M.base + off + (p + m) * inf.size) (cs.drop (p * inf.size))).length = CS.size := by rw [splice_length _ _ _ (by rw [Array.length_toList (xs := CS)]; omega)]; simp
     rw [setCells_row M.blk el (0, 0) _ _ _ _ (setRow_heap w.drew M.blk CS _ el (0, 0) g1) (by rw [List.size_toArray, hsl]; omega), setRow_setRow];congr 2;rw [List.toList_toArray, ← splice_two CS.toList vs (cs.drop (p * inf.size)) (M.base + off + p * inf.size) (by rw [Array.length_toList (xs := CS)]; omega), vl', e2, Nat.add_assoc (M.base + off)]
    rw [hsr];obtain ⟨i1, i2⟩ := inplace_sim (size := inf.size) (off := off) (p := p * inf.size) hd hk hM c6 c7 g1 (by omega) (vcut.append (kcut.drop (p * inf.size))) (vo.append (ko.drop _)) (by rw [List.length_append, hdl, vl']; omega) g3;refine ⟨_, _, i1, ?_, ?_, rfl⟩
    ·rw [Int.toNat_natCast, List.take_take, Nat.min_eq_left hps];exact i2
    ·have := VR.slice (μ := μ.set H.n ⟨M.blk, M.base + off, M.ext - off, inf.size, false⟩) H.n 0 (M.base + off) (n + m) (n + m) cap' ⟨M.blk, M.base + off, M.ext - off, inf.size, false⟩ (by simp [Mu.set]) (Nat.le_refl _) hroom (.inr rfl) (.inr (.inr (by dsimp only; omega)));exact this
   ·obtain ⟨G, hG, hcall⟩ := hW.grow M.blk (M.base + off) n cap' p Mc.blk (Mc.base + voff) m vc' CS VS el el2 cs vs w hpn (by omega) hnc (by omega) c4 g1 f1 (by omega) (by omega) hcs hvs ko' vo';refine hcall.mono ?_;rintro _ _ ⟨rfl, rfl⟩;have hGs : (n + m) * inf.size ≤ G * inf.size := Nat.mul_le_mul_right _ hG;obtain ⟨ROW, hROW⟩ : ∃ ROW : Array Value, ROW = (cs.take (p * inf.size)).toArray ++ Builtin.zeroCells z.cells (n + m - p) ++ Builtin.zeroCells z.cells (G - (n + m)) := ⟨_, rfl⟩
    have hRl : ROW.size = G * inf.size := by
     rw [hROW];simp only [Array.size_append, List.size_toArray, size_zeroCells, hzs, Nat.sub_mul, Nat.add_mul, List.length_take, kl'];omega
    rw [← hROW];obtain ⟨FIN, hFIN⟩ : ∃ FIN : List Value, FIN = splice (splice ROW.toList (p * inf.size) vs) ((p + m) * inf.size) (cs.drop (p * inf.size)) := ⟨_, rfl⟩
    have hs1 : (splice ROW.toList (p * inf.size) vs).length = ROW.size := by rw [splice_length _ _ _ (by rw [Array.length_toList (xs := ROW)]; omega)]; simp
    have hFl : FIN.length = G * inf.size := by rw [hFIN, splice_length _ _ _ (by rw [hs1]; omega), hs1, hRl]
    have hN : (w.alloc (.cells ROW e)).drew.heap[w.heap.size]? = some (.cells ROW e (0, 0)) := heap_alloc_new' _ _;have hw : ((((w.alloc (.cells ROW e)).drew.setCells w.heap.size (p * inf.size) vs).drew).setCells w.heap.size ((p + m) * inf.size) (cs.drop (p * inf.size))) = ((w.alloc (.cells ROW e)).drew.setRow w.heap.size (splice ROW.toList (p * inf.size) vs).toArray).drew.setRow w.heap.size FIN.toArray := by
     rw [setCells_row w.heap.size e (0, 0) _ _ ROW _ hN (by omega)];have hN2 : ((w.alloc (.cells ROW e)).drew.setRow w.heap.size (splice ROW.toList (p * inf.size) vs).toArray).drew.heap[w.heap.size]? = some (.cells (splice ROW.toList (p * inf.size) vs).toArray e (0, 0)) := setRow_heap _ _ _ _ _ _ hN;rw [setCells_row w.heap.size e (0, 0) _ _ _ _ hN2 (by rw [List.size_toArray, hs1]; omega), hFIN]
    rw [hw];have hheap : (((w.alloc (.cells ROW e)).drew.setRow w.heap.size (splice ROW.toList (p * inf.size) vs).toArray).drew.setRow w.heap.size FIN.toArray).heap = (w.alloc (.cells FIN.toArray e)).heap := by
     have h1 : (((w.alloc (.cells ROW e)).drew.setRow w.heap.size (splice ROW.toList (p * inf.size) vs).toArray).drew.setRow w.heap.size FIN.toArray).heap = (((w.alloc (.cells ROW e)).setRow w.heap.size (splice ROW.toList (p * inf.size) vs).toArray).setRow w.heap.size FIN.toArray).heap := rfl;rw [h1, setRow_setRow];exact heap_setRow_new _ _ _ _
    have hkill := hH.kill hk;have hnew := kcut.take (p * inf.size);have hall : VRs μ (((k.cells.drop off).take (n * inf.size)).take (p * inf.size) ++ ((kc.cells.drop voff).take (m * inf.size) ++ ((k.cells.drop off).take (n * inf.size)).drop (p * inf.size))) (cs.take (p * inf.size) ++ (vs ++ cs.drop (p * inf.size))) := hnew.append (vcut.append (kcut.drop _))
    have hal := hkill.alloc (((k.cells.drop off).take (n * inf.size)).take (p * inf.size) ++ ((kc.cells.drop voff).take (m * inf.size) ++ ((k.cells.drop off).take (n * inf.size)).drop (p * inf.size))) FIN.toArray e inf.size (G * inf.size) (by rw [List.size_toArray, hFl]; exact Nat.le_refl _)
     (by
      simp only [List.length_append, List.length_take, List.length_drop];omega)
     ((ko.take _).append (vo.append (ko.drop _)))
     (fun j u hj => by
      obtain ⟨u', e', r⟩ := hall.get hj;refine ⟨u', ?_, r⟩;have hjl : j < (cs.take (p * inf.size) ++ (vs ++ cs.drop (p * inf.size))).length := (List.getElem?_eq_some_iff.1 e').1;simp only [List.length_append, List.length_take, kl', hdl, vl'] at hjl;have htl : (cs.take (p * inf.size)).length = p * inf.size := by rw [List.length_take, kl']; omega
      rw [List.getElem?_toArray, hFIN, splice_get _ _ _ (by rw [hs1]; omega), splice_get ROW.toList (p * inf.size) vs (by rw [Array.length_toList (xs := ROW)]; omega)];by_cases d1 : j < p * inf.size
      ·rw [List.getElem?_append_left (by omega)] at e';rw [if_pos (show j < (p + m) * inf.size by omega), if_pos d1, hROW];simp only [Array.getElem?_toList];rw [Array.append_assoc, Array.getElem?_append_left (by simp only [List.size_toArray]; omega)];simpa using e'
      ·rw [List.getElem?_append_right (by omega), htl] at e';by_cases d2 : j < (p + m) * inf.size
       ·rw [List.getElem?_append_left (by omega)] at e';rw [if_pos d2, if_neg d1, if_pos (by omega)];exact e'
       ·rw [List.getElem?_append_right (by omega), vl'] at e';rw [if_neg d2, if_pos (by omega), show j - (p + m) * inf.size = j - p * inf.size - m * inf.size by omega];exact e')
    have hn : (H.set b none).n = H.n := Heap.n_set _ _ _;rw [hn] at hal;refine ⟨μ.set H.n ⟨w.heap.size, 0, G * inf.size, inf.size, false⟩, _, Mu.le_set (μ := μ) hH.dom _, ?_, ?_, rfl⟩
    ·rw [Int.toNat_natCast];exact hal.drew hheap rfl rfl rfl
    ·exact VR.slice H.n 0 0 (n + m) (n + m) G ⟨w.heap.size, 0, G * inf.size, inf.size, false⟩ (by simp [Mu.set]) (Nat.le_refl _) hG (.inr rfl) (.inr (.inr (by dsimp only; omega)))
end Go.Sw
end
section
namespace Go.Sw
open Go.RowKit
theorem splice_nil (l : List Value) (o : Nat) : splice l o [] = l := by unfold splice; simp
theorem trim_sim {w0 : Base} {μ : Mu} {H : Heap} {w : World} (h : HR w0 μ H w) {b off n cap size : Nat} {k : Blk} {v' : Value} (hv : VR μ (.slice (some ⟨b, off, none⟩) n cap) v') (hk : H.get b = some k) (hro : k.ro = false) (hesz : k.esz = size) (h1 : n ≤ cap) (h2 : off + cap * size ≤ k.cells.length)
  (hset : ∀ (g : Nat) (cs : Array Value) (el : TypeId), w.heap[g]? = some (.cells cs el (0, 0)) → w.setRow g cs = w) :
  ∃ μ', μ.le μ' ∧ HR w0 μ' ((H.set b none).push ⟨(k.cells.drop off).take (n * size) ++ [], size, false⟩) w ∧ VR μ' (.slice (some ⟨H.n, 0, none⟩) n n) v' := by
 cases hv with
 | slice _ _ off' _ _ cap' M hM hl hc ho hx =>
 obtain ⟨M', hM', bM⟩ := h.blk b k hk;rw [hM] at hM'; injection hM' with hM'; subst hM';obtain ⟨CS, el, fz, g1, g2, g3, g4⟩ := bM.here;have g2 := g2 hro;subst g2;have hext := bM.ext;have hMe := bM.esz;have hMr := bM.ro;have hns : n * size ≤ cap * size := Nat.mul_le_mul_right _ h1;obtain ⟨i1, i2⟩ := inplace_sim (size := size) (off := off) (p := n * size) (new := []) (news := []) h hk hM hro hesz g1 (by omega) VRs.nil Ones.nil (by simp; omega) g3;rw [splice_nil] at i2;rw [show CS.toList.toArray = CS from rfl, hset _ _ _ g1] at i2;refine ⟨_, i1, i2, ?_⟩;refine VR.slice (μ := μ.set H.n ⟨M.blk, M.base + off, M.ext - off, size, false⟩) H.n 0 off' n n cap' ⟨M.blk, M.base + off, M.ext - off, size, false⟩ (by simp [Mu.set]) (Nat.le_refl _) (by omega) (ho.imp id fun h => by dsimp only; omega) ?_;rcases hx with hx | hx | hx
 ·refine .inr (.inr ?_);rw [hx];dsimp only;omega
 ·rw [hMr, hro] at hx; cases hx
 ·refine .inr (.inr ?_);rw [hMe, hesz] at hx;dsimp only;omega
theorem setRow_same (w : World) (g : Nat) (cs : Array Value) (el : TypeId) (h : w.heap[g]? = some (.cells cs el (0, 0))) : w.setRow g cs = w := by
 have hg : g < w.heap.size := by
  rcases Nat.lt_or_ge g w.heap.size with hlt | hge
  ·exact hlt
  ·rw [Array.getElem?_eq_none hge] at h; cases h
 have hh : (w.setRow g cs).heap = w.heap := by
  apply Array.ext_getElem?;intro i;by_cases hi : i = g
  ·subst hi;rw [setRow_heap w i cs cs el (0, 0) h, h]
  ·exact setRow_other w g i cs hi
 have hw : w.setRow g cs = { w with heap := (w.setRow g cs).heap } := rfl;rw [hw, hh]
theorem trim_is {c : Cfg} (hit : ∀ v H, c.it v H = none := by intro _ _; rfl) (hN : NamesOk c.P) (hmix : c.P.follows .mixedOrders = true) {f : FuncId} {size : Nat} : SpIs c.P f fun call args H => (bodyK c call f args H).bind (trimR size) := by
 intro call hc args H hne;have hne1 : bodyK c call f args H ≠ .stuck := Res.bind_ne hne;obtain ⟨b1, b2⟩ := body_is hit hN hmix hc (f := f) (args := args) (H := H) rfl hne1;refine ⟨b1, fun w0 μ w args' hH hargs => (b2 w0 μ w args' hH hargs).mono fun e w' he => ?_⟩;dsimp only at hne ⊢;cases hr : bodyK c call f args H with
 | stuck => exact absurd hr hne1
 | panic v H' => rw [hr] at he; exact he
 | ok v H' =>
  rw [hr] at he hne;obtain ⟨μ', v', l1, h1, h2, rfl⟩ := he;have hne : trimR size v H' ≠ .stuck := hne;show Ended w0 μ (trimR size v H') _ w';unfold trimR at hne ⊢;split at hne
  ·rename_i b off n cap _;split at hne
   ·rename_i k hk;split
    ·rename_i hcond;obtain ⟨c1, c2, c3, c4⟩ := hcond;obtain ⟨μ2, l2, h3, h4⟩ := trim_sim h1 h2 hk c1 c2 c3 c4 (fun g cs el hg => setRow_same _ g cs el hg);exact ⟨μ2, v', Mu.le_trans l1 l2, h3, h4, rfl⟩
    ·rename_i hcond;exact absurd (by split <;> first | rfl | contradiction) hne
   ·exact absurd rfl hne
  ·exact ⟨μ', v', l1, h1, h2, rfl⟩
end Go.Sw
end
section
namespace Go.Sw
open Go.RowKit Go.Proofs Go.Lib
theorem cp_wp {P : Program} {w : World} {o : Oper} {a : Act} {K : Act → World → Prop} {Q : Exit → Act → World → Prop} {d s : Operand} {t t' : TypeId} (ho : o.op = .call { callee := .builtin .copy, args := #[d, s], argTypes := #[t, t'] }) {v u v' : Value} {w' : World} (hd : a.eval d = v) (hs : a.eval s = u)
  (hr : (Builtin.copy_ #[t, t'] o.type #[v, u]).run P w = .ok v' w') (h : K (a.put o.dst v') w') : o.wp P a w K Q := by
 refine wp_value (v := v') (w' := w') ?_ h;simp [execOp, ho, resolve, invoke, builtin, hd, hs, hr, Result.andThen]
theorem cp_list {P : Program} {w : World} {ops : Array Oper} {rest : List Oper} {o : Oper} {a : Act} {Q : Exit → Act → World → Prop} (hgd : o.guard = none) {d s : Operand} {t t' : TypeId} (ho : o.op = .call { callee := .builtin .copy, args := #[d, s], argTypes := #[t, t'] }) {v u v' : Value} {w' : World} (hd : a.eval d = v) (hs : a.eval s = u)
  (hr : (Builtin.copy_ #[t, t'] o.type #[v, u]).run P w = .ok v' w') (h : wpList P ops Q rest (a.put o.dst v') w') : wpList P ops Q (o :: rest) a w :=
 wpList_plain hgd fun _ hK => cp_wp ho hd hs hr (hK _ _ h)
theorem cp_step {P : Program} {ops : Array Oper} {o : Oper} {a : Act} {w : World} {K : Act → World → Prop} {Q : Exit → Act → World → Prop} {E : Prop} (hg : o.guard = none) {d s : Operand} {t t' : TypeId} (ho : o.op = .call { callee := .builtin .copy, args := #[d, s], argTypes := #[t, t'] }) {v u v' : Value} {w' : World} (hd : a.eval d = v) (hs : a.eval s = u)
  (hr : (Builtin.copy_ #[t, t'] o.type #[v, u]).run P w = .ok v' w') (h : K (a.put o.dst v') w') : if Region.wanted o (yielded ops a.tmps) = true then Oper.wp P o a w K Q else E := by
 have hw : Region.wanted o (yielded ops a.tmps) = true := by simp [Region.wanted, hg]
 rw [if_pos hw];exact cp_wp ho hd hs hr h
theorem run_copyN {P : Program} (w : World) (dT sT ty elem : TypeId) (b o dLen dCap : Nat) (a : Addr) (sLen sCap sz : Nat) (cs : List Value)
  (hu : P.underlying dT = some (.slice elem)) (hs : (P.info? elem).map (·.size) = some sz) (hn : cs.length = Nat.min sLen dLen * sz)
  (hsrc : ∀ j v, cs[j]? = some v → w.cell? (a.add j) = some v) (hc : ∀ j, j < cs.length → (w.cell? ⟨b, o + j, none⟩).isSome = true) (hf : ∀ j, j < cs.length → w.frozen? ⟨b, o + j, none⟩ = false) (h1 : ∀ v ∈ cs, v.oneCell' = true) :
  (Builtin.copy_ #[dT, sT] ty #[.slice (some ⟨b, o, none⟩) dLen dCap, .slice (some a) sLen sCap]).run P w = .ok (goInt (Nat.min sLen dLen)) (w.setCells b o cs) := by
 have hl := run_loadCells_list (P := P) w a cs hsrc;have hst := run_storeCells_cells (P := P) b o cs 0 w (by simpa using hc) (by simpa using hf) h1;cases hq : P.info? elem with
 | none => simp [hq] at hs
 | some i =>
  have hi : i.size = sz := by simpa [hq] using hs
  rw [hn] at hl;simp [Builtin.copy_, run_underlying hu, Builtin.lenOf, Builtin.firstCells, sizeOf, typeInfo, hq, hi, hl, hst]
theorem insT : Prog.underlying 22 = some (.slice 57) := by kernel_rfl
theorem insZ : (Prog.info? 57).map (·.size) = some 2 := by kernel_rfl
theorem insI : (Prog.info? 57).map (fun i => (i.zero, i.size, i.bytes)) = some (some (.agg #[.int .i64 0, .int .i64 0]), 2, 16) := by kernel_rfl
set_option maxRecDepth 100000 in
set_option maxHeartbeats 4000000 in
theorem ins_none (base : Option Addr) (n c i : Nat) (vb : Option Addr) (vc : Nat) (w : World) (hi : i ≤ n) (hn : n ≤ c) (hb : base = none → n = 0 ∧ c = 0) :
  Calls Prog 75 #[.slice base n c, .int .i64 (i : Nat), .slice vb 0 vc] w fun e w' => e = .returned (.slice base n c) ∧ w' = w := by
 go_enter Try.func75, Try.ntmps75
 cases base with
 | none =>
  obtain ⟨rfl, rfl⟩ := hb rfl;obtain rfl : i = 0 := by omega
  go_wp2
  go_ret
  exact ⟨rfl, rfl⟩
 | some a =>
  obtain ⟨ab, ao, asp⟩ := a
  go_wp2
  all_goals (go_ret; exact ⟨rfl, rfl⟩)
set_option maxRecDepth 100000 in
set_option maxHeartbeats 4000000 in
theorem ins_end (base : Option Addr) (n c : Nat) (vb : Option Addr) (m vc : Nat) (w : World) (v' : Value) (w1 : World) (hn : n ≤ c) (hb : base = none → n = 0 ∧ c = 0) (hm : 0 < m) (hr : (Builtin.append_ #[22, 22] 22 #[.slice base n c, .slice vb m vc]).run Prog w = .ok v' w1) :
  Calls Prog 75 #[.slice base n c, .int .i64 (n : Nat), .slice vb m vc] w fun e w' => e = .returned v' ∧ w' = w1 := by
 have hz1 : ¬ ((m : Int) = 0) := by omega
 go_enter Try.func75, Try.ntmps75
 cases base with
 | none =>
  obtain ⟨rfl, rfl⟩ := hb rfl
  go_wp2_with (at_builtin; refine Lib.wpList_append_run _ rfl _ _ _ _ rfl _ _ rfl rfl _ _ hr ?_)
  go_ret
  exact ⟨rfl, rfl⟩
 | some a =>
  obtain ⟨ab, ao, asp⟩ := a
  go_wp2_with (at_builtin; refine Lib.wpList_append_run _ rfl _ _ _ _ rfl _ _ rfl rfl _ _ hr ?_)
  all_goals (go_ret; exact ⟨rfl, rfl⟩)
set_option maxRecDepth 100000 in
set_option maxHeartbeats 4000000 in
theorem ins_shift (b off n c i vb voff m vc : Nat) (CS VS : Array Value) (el el2 : TypeId) (cs vs : List Value) (w : World) (hi : i < n) (hm : 0 < m) (hroom : n + m ≤ c) (h31 : n + m ≤ 2 ^ 31) (hvb : vb ≠ b) (g1 : w.heap[b]? = some (.cells CS el (0, 0))) (g2 : w.heap[vb]? = some (.cells VS el2 (0, 0))) (f1 : off + c * 2 ≤ CS.size) (f2 : voff + m * 2 ≤ VS.size)
  (hcs : cs = (CS.toList.drop off).take (n * 2)) (hvs : vs = (VS.toList.drop voff).take (m * 2)) (h1c : Ones cs) (h1v : Ones vs) :
  Calls Prog 75 #[.slice (some ⟨b, off, none⟩) n c, .int .i64 (i : Nat), .slice (some ⟨vb, voff, none⟩) m vc] w fun e w' => e = .returned (.slice (some ⟨b, off, none⟩) (n + m) c) ∧ w' = (w.drew.setCells b (off + (i + m) * 2) (cs.drop (i * 2))).setCells b (off + i * 2) vs := by
 have hz1 : ¬ ((m : Int) = 0) := by omega
 have hz2 : ¬ ((i : Int) = (n : Int)) := by omega
 have hz3 : ¬ (c : Int) < (n : Int) + (m : Int) := by omega
 have hcl : cs.length = n * 2 := by rw [hcs, List.length_take, List.length_drop, Array.length_toList]; omega
 have hvl : vs.length = m * 2 := by rw [hvs, List.length_take, List.length_drop, Array.length_toList]; omega
 have cellB : ∀ j, w.cell? ⟨b, j, none⟩ = CS[j]? := fun j => by simp [World.cell?, g1]
 have cellV : ∀ j, w.cell? ⟨vb, j, none⟩ = VS[j]? := fun j => by simp [World.cell?, g2]
 have frB : ∀ j, w.frozen? ⟨b, j, none⟩ = false := fun j => by simp [World.frozen?, g1]
 have frV : ∀ j, w.frozen? ⟨vb, j, none⟩ = false := fun j => by simp [World.frozen?, g2]
 have atB : ∀ j v, cs[j]? = some v → w.cell? ⟨b, off + j, none⟩ = some v := fun j v hj => by
  rw [cellB];rw [hcs, List.getElem?_take] at hj;split at hj
  ·rw [List.getElem?_drop] at hj;simpa using hj
  ·cases hj
 have atV : ∀ j v, vs[j]? = some v → w.cell? ⟨vb, voff + j, none⟩ = some v := fun j v hj => by
  rw [cellV];rw [hvs, List.getElem?_take] at hj;split at hj
  ·rw [List.getElem?_drop] at hj;simpa using hj
  ·cases hj
 have hsa : w.shape? vb = some (el2, VS.size) := by simp [World.shape?, g2]
 have hsb : w.shape? b = some (el, CS.size) := by simp [World.shape?, g1]
 have hov : ∀ lb cb, (callFunc 148 #[.slice (some ⟨vb, voff, none⟩) m vc, .slice (some ⟨b, off + (i + m) * 2, none⟩) lb cb]).run Prog w = .ok (.value (.bool false)) w := fun lb cb => by
  rw [run_callFunc_extern (f := 148) (fn := Try.f148) Try.func148 (by kernel_rfl) (by kernel_rfl) (by kernel_rfl) (e := Extern.SlicesOverlaps.overlaps #[22, 22] #[4]) (by kernel_rfl),
   Lib.run_overlaps_apart w 22 4 57 insT 2 (fun w => by kernel_rfl) ⟨vb, voff, none⟩ ⟨b, off + (i + m) * 2, none⟩ m vc lb cb hvb el2 el VS.size CS.size hsa hsb (by omega) (frV _) (frV _)]
  rfl
 have hdl : (cs.drop (i * 2)).length = (n - i) * 2 := by rw [List.length_drop, hcl]; omega
 have hw1 : IntKind.i64.wrap ((i : Int) + (m : Int)) = (i : Int) + (m : Int) := by rw [IntKind.wrap_i64]; omega
 have hw2 : IntKind.i64.wrap ((n : Int) + (m : Int)) = (n : Int) + (m : Int) := by rw [IntKind.wrap_i64]; omega
 have hb1 : (0 : Int) ≤ (i : Int) + (m : Int) := by omega
 have hb1' : (0 : Int) ≤ (n : Int) + (m : Int) := by omega
 have hin : i ≤ n := by omega
 have htn : ((i : Int) + (m : Int)).toNat = i + m := by omega
 have htn' : ((n : Int) + (m : Int)).toNat = n + m := by omega
 have hb2 : ¬ (c = i + m) := by omega
 have hb3 : (i : Int) ≤ (n : Int) + (m : Int) := by omega
 have hb4 : ¬ (c = i) := by omega
 have hcp1 : ∀ ty dc sc, (Builtin.copy_ #[22, 22] ty #[.slice (some ⟨b, off + (i + m) * 2, none⟩) (n + m - (i + m)) dc, .slice (some ⟨b, off + i * 2, none⟩) (n + m - i) sc]).run Prog w.drew = .ok (goInt (Nat.min (n + m - i) (n + m - (i + m)))) (w.drew.setCells b (off + (i + m) * 2) (cs.drop (i * 2))) := fun ty dc sc =>
  run_copyN w.drew 22 22 ty 57 b (off + (i + m) * 2) (n + m - (i + m)) dc ⟨b, off + i * 2, none⟩ (n + m - i) sc 2 (cs.drop (i * 2)) insT insZ (by rw [hdl, show Nat.min (n + m - i) (n + m - (i + m)) = n - i by simp only [Nat.min_def]; split <;> omega])
   (fun j v hj => by rw [Addr.add_lit, Nat.add_assoc]; exact atB (i * 2 + j) v (by rwa [List.getElem?_drop] at hj))
   (fun j hj => by
    show (w.cell? _).isSome = true;rw [cellB, Array.getElem?_eq_getElem (by omega)]; rfl) (fun j hj => frB _) (fun v hv => h1c v (List.mem_of_mem_drop hv))
 obtain ⟨W1, hW1⟩ : ∃ W1, W1 = w.drew.setCells b (off + (i + m) * 2) (cs.drop (i * 2)) := ⟨_, rfl⟩
 have hW1r : W1 = w.drew.setRow b (splice CS.toList (off + (i + m) * 2) (cs.drop (i * 2))).toArray := by rw [hW1]; exact setCells_row b el (0, 0) _ _ CS w.drew g1 (by omega)
 have hW1b : W1.heap[b]? = some (.cells (splice CS.toList (off + (i + m) * 2) (cs.drop (i * 2))).toArray el (0, 0)) := by rw [hW1r]; exact setRow_heap _ _ _ _ _ _ g1
 have hspl : (splice CS.toList (off + (i + m) * 2) (cs.drop (i * 2))).length = CS.size := by rw [splice_length _ _ _ (by rw [Array.length_toList (xs := CS)]; omega)]; simp
 have hcp2 : ∀ (W : World), (∀ x, W.cell? x = W1.cell? x) → (∀ x, W.frozen? x = W1.frozen? x) → ∀ ty dc, (Builtin.copy_ #[22, 22] ty #[.slice (some ⟨b, off + i * 2, none⟩) (n + m - i) dc, .slice (some ⟨vb, voff, none⟩) m vc]).run Prog W = .ok (goInt (Nat.min m (n + m - i))) (W.setCells b (off + i * 2) vs) := fun W hWc hWf ty dc =>
  run_copyN W 22 22 ty 57 b (off + i * 2) (n + m - i) dc ⟨vb, voff, none⟩ m vc 2 vs insT insZ (by rw [hvl, show Nat.min m (n + m - i) = m by simp only [Nat.min_def]; split <;> omega])
   (fun j v hj => by
    rw [Addr.add_lit, hWc, hW1, World.cell?_setCells_out b _ _ _ _ (fun h _ => absurd h hvb)];exact atV j v hj)
   (fun j hj => by
    rw [hWc];simp only [World.cell?, hW1b];rw [Array.getElem?_eq_getElem (by rw [List.size_toArray, hspl]; omega)]; rfl) (fun j hj => by rw [hWf]; simp [World.frozen?, hW1b]) h1v
 rw [← hW1] at hcp1;clear hcs hvs
 go_enter Try.func75, Try.ntmps75
 go_wp2_with (simp only [hov])
 go_region_law (refine cp_step rfl rfl (by simp [Act.eval, Act.put]) (by simp [Act.eval, Act.put]) (hcp1 _ _ _) ?_)
 go_wp2_with (at_builtin; refine cp_list rfl rfl rfl rfl (hcp2 _ (fun _ => rfl) (fun _ => rfl) _ _) ?_)
 go_ret
 first | exact ⟨rfl, rfl⟩ | exact ⟨rfl, by rw [hW1]⟩
set_option maxRecDepth 100000 in
set_option maxHeartbeats 4000000 in
theorem ins_grow (b off n c i vb voff m vc : Nat) (CS VS : Array Value) (el el2 : TypeId) (cs vs : List Value) (w : World) (hi : i < n) (hm : 0 < m) (hnc : n ≤ c) (hroom : c < n + m) (h31 : n + m ≤ 2 ^ 31) (g1 : w.heap[b]? = some (.cells CS el (0, 0))) (g2 : w.heap[vb]? = some (.cells VS el2 (0, 0))) (f1 : off + n * 2 ≤ CS.size) (f2 : voff + m * 2 ≤ VS.size)
  (hcs : cs = (CS.toList.drop off).take (n * 2)) (hvs : vs = (VS.toList.drop voff).take (m * 2)) (h1c : Ones cs) (h1v : Ones vs) :
  ∃ G, n + m ≤ G ∧ Calls Prog 75 #[.slice (some ⟨b, off, none⟩) n c, .int .i64 (i : Nat), .slice (some ⟨vb, voff, none⟩) m vc] w fun r w' => r = .returned (.slice (some ⟨w.heap.size, 0, none⟩) (n + m) G) ∧
   w' = (((w.alloc (.cells ((cs.take (i * 2)).toArray ++ Builtin.zeroCells (Value.agg #[.int .i64 0, .int .i64 0]).cells (n + m - i) ++ Builtin.zeroCells (Value.agg #[.int .i64 0, .int .i64 0]).cells (G - (n + m))) 57)).drew.setCells w.heap.size (i * 2) vs).drew).setCells w.heap.size ((i + m) * 2) (cs.drop (i * 2)) := by
 refine ⟨grownCap w (n + m) c 57, grownCap_ge w _ _ _, ?_⟩;obtain ⟨i0, hi0, hz0, hzs, hzb⟩ := info_parts insI;have hz1 : ¬ ((m : Int) = 0) := by omega
 have hz2 : ¬ ((i : Int) = (n : Int)) := by omega
 have hz3 : (c : Int) < (n : Int) + (m : Int) := by omega
 have hcl : cs.length = n * 2 := by rw [hcs, List.length_take, List.length_drop, Array.length_toList]; omega
 have hvl : vs.length = m * 2 := by rw [hvs, List.length_take, List.length_drop, Array.length_toList]; omega
 have cellB : ∀ j, w.cell? ⟨b, j, none⟩ = CS[j]? := fun j => by simp [World.cell?, g1]
 have cellV : ∀ j, w.cell? ⟨vb, j, none⟩ = VS[j]? := fun j => by simp [World.cell?, g2]
 have atB : ∀ j v, cs[j]? = some v → w.cell? ⟨b, off + j, none⟩ = some v := fun j v hj => by
  rw [cellB];rw [hcs, List.getElem?_take] at hj;split at hj
  ·rw [List.getElem?_drop] at hj;simpa using hj
  ·cases hj
 have atV : ∀ j v, vs[j]? = some v → w.cell? ⟨vb, voff + j, none⟩ = some v := fun j v hj => by
  rw [cellV];rw [hvs, List.getElem?_take] at hj;split at hj
  ·rw [List.getElem?_drop] at hj;simpa using hj
  ·cases hj
 have hbw : b < w.heap.size := (Array.getElem?_eq_some_iff.1 g1).1;have hvw : vb < w.heap.size := (Array.getElem?_eq_some_iff.1 g2).1;have hkk : (n : Int) + (m : Int) - (i : Int) = ((n + m - i : Nat) : Int) := by omega
 have hik : i + (n + m - i) = n + m := by omega
 have hold : (Builtin.firstCells i0.size i (.slice (some ⟨b, off, none⟩) i c)).run Prog w.drew = .ok (cs.take (i * 2)).toArray w.drew := by
  rw [hzs];exact run_firstCells_some w.drew 2 i ⟨b, off, none⟩ i c (cs.take (i * 2)) (by rw [List.length_take]; omega) (fun j v hj => by
   rw [Addr.add_lit];rw [List.getElem?_take] at hj;split at hj
   ·exact atB j v hj
   ·cases hj)
 have hfit : Builtin.nextslicecap (n + m) c * i0.bytes ≤ 281474976710656 := by
  rw [hzb];exact growslice_fits hroom (by omega)
 have hrz : ∀ ty, (Builtin.append_ #[22, 3] ty #[.slice (some ⟨b, off, none⟩) i c, .int .i64 ((n : Int) + (m : Int) - (i : Int))]).run Prog w =
   .ok (.slice (some ⟨w.heap.size, 0, none⟩) (n + m) (grownCap w (n + m) c 57)) (w.drew.alloc (.cells ((cs.take (i * 2)).toArray ++ Builtin.zeroCells (Value.agg #[.int .i64 0, .int .i64 0]).cells (n + m - i) ++ Builtin.zeroCells (Value.agg #[.int .i64 0, .int .i64 0]).cells (grownCap w (n + m) c 57 - (n + m))) 57)) := fun ty => by
  have h := Lib.run_append_grow_zeros w 22 3 ty 57 i0 _ .i64 .i64 insT (by kernel_rfl) hi0 hz0 (some ⟨b, off, none⟩) i c (cs.take (i * 2)) hold (n + m - i) (by omega) (by omega) (by omega) (by omega) (by rw [hzb]; omega) (by rw [hik]; exact hfit);rw [hik] at h;rw [hkk];exact h
 obtain ⟨G, hG⟩ : ∃ G, G = grownCap w (n + m) c 57 := ⟨_, rfl⟩
 obtain ⟨ROW, hROW⟩ : ∃ ROW : Array Value, ROW = (cs.take (i * 2)).toArray ++ Builtin.zeroCells (Value.agg #[.int .i64 0, .int .i64 0]).cells (n + m - i) ++ Builtin.zeroCells (Value.agg #[.int .i64 0, .int .i64 0]).cells (G - (n + m)) := ⟨_, rfl⟩
 rw [← hG] at hrz ⊢;rw [← hROW] at hrz ⊢;have hGn : n + m ≤ G := by rw [hG]; exact grownCap_ge w _ _ _
 have hRl : (n + m) * 2 ≤ ROW.size := by
  rw [hROW];simp only [Array.size_append, List.size_toArray, size_zeroCells, List.length_take, hcl];show _ ≤ _ + (n + m - i) * 2 + (G - (n + m)) * 2;omega
 obtain ⟨W1, hW1⟩ : ∃ W1, W1 = w.drew.alloc (.cells ROW 57) := ⟨_, rfl⟩
 rw [← hW1] at hrz;have hNh : W1.heap[w.heap.size]? = some (.cells ROW 57 (0, 0)) := by rw [hW1]; exact heap_alloc_new' _ _
 have hN : ∀ j, j < (n + m) * 2 → (W1.cell? ⟨w.heap.size, j, none⟩).isSome = true := fun j hj => by
  simp only [World.cell?, hNh];rw [Array.getElem?_eq_getElem (by omega)]; rfl
 have hNf : ∀ j, W1.frozen? ⟨w.heap.size, j, none⟩ = false := fun j => by simp [World.frozen?, hNh]
 have hOb : ∀ j v, w.cell? ⟨b, j, none⟩ = some v → W1.cell? ⟨b, j, none⟩ = some v := fun j v h => by rw [hW1, World.cell?_alloc_past (w := w.drew) _ b j hbw]; exact h
 have hOv : ∀ j v, w.cell? ⟨vb, j, none⟩ = some v → W1.cell? ⟨vb, j, none⟩ = some v := fun j v h => by rw [hW1, World.cell?_alloc_past (w := w.drew) _ vb j hvw]; exact h
 have hcpA : ∀ (W : World), (∀ x, W.cell? x = W1.cell? x) → (∀ x, W.frozen? x = W1.frozen? x) → ∀ ty dc, (Builtin.copy_ #[22, 22] ty #[.slice (some ⟨w.heap.size, i * 2, none⟩) (n + m - i) dc, .slice (some ⟨vb, voff, none⟩) m vc]).run Prog W = .ok (goInt (Nat.min m (n + m - i))) (W.setCells w.heap.size (i * 2) vs) := fun W hWc hWf ty dc =>
  run_copyN W 22 22 ty 57 w.heap.size (i * 2) (n + m - i) dc ⟨vb, voff, none⟩ m vc 2 vs insT insZ (by rw [hvl, show Nat.min m (n + m - i) = m by simp only [Nat.min_def]; split <;> omega])
   (fun j v hj => by rw [Addr.add_lit, hWc]; exact hOv _ v (atV j v hj))
   (fun j hj => by rw [hWc]; exact hN _ (by omega)) (fun j hj => by rw [hWf]; exact hNf _) h1v
 have hG63 : G ≤ 9223372036854775807 := by
  have := grownCap_le_maxLen w (n + m) c 57 (by unfold maxLen; omega);rw [← hG] at this;unfold maxLen at this;omega
 have hGi : ¬ (G = i) := by omega
 have hGim : ¬ (G = i + m) := by omega
 have hci : ¬ (c = i) := by omega
 have hbN : b ≠ w.heap.size := by omega
 have hdl : (cs.drop (i * 2)).length = (n - i) * 2 := by rw [List.length_drop, hcl]; omega
 have hcpB : ∀ (W : World), (∀ x, W.cell? x = (W1.setCells w.heap.size (i * 2) vs).cell? x) → (∀ x, W.frozen? x = (W1.setCells w.heap.size (i * 2) vs).frozen? x) → ∀ ty dc sc, (Builtin.copy_ #[22, 22] ty #[.slice (some ⟨w.heap.size, (i + m) * 2, none⟩) (n + m - (i + m)) dc, .slice (some ⟨b, off + i * 2, none⟩) (n - i) sc]).run Prog W = .ok (goInt (Nat.min (n - i) (n + m - (i + m)))) (W.setCells w.heap.size ((i + m) * 2) (cs.drop (i * 2))) := fun W hWc hWf ty dc sc =>
  run_copyN W 22 22 ty 57 w.heap.size ((i + m) * 2) (n + m - (i + m)) dc ⟨b, off + i * 2, none⟩ (n - i) sc 2 (cs.drop (i * 2)) insT insZ (by rw [hdl, show Nat.min (n - i) (n + m - (i + m)) = n - i by simp only [Nat.min_def]; split <;> omega])
   (fun j v hj => by
    rw [Addr.add_lit, hWc, World.cell?_setCells_out _ _ _ _ _ (fun h _ => absurd h hbN), Nat.add_assoc];exact hOb _ v (atB (i * 2 + j) v (by rwa [List.getElem?_drop] at hj)))
   (fun j hj => by
    rw [hWc, setCells_row w.heap.size 57 (0, 0) _ _ ROW W1 hNh (by omega)];simp only [World.cell?, setRow_heap _ _ _ _ _ _ hNh];rw [Array.getElem?_eq_getElem (by rw [List.size_toArray, splice_length _ _ _ (by rw [Array.length_toList (xs := ROW)]; omega), Array.length_toList (xs := ROW)]; omega)]; rfl)
   (fun j hj => by rw [hWf, World.frozen?_setCells]; exact hNf _) (fun v hv => h1c v (List.mem_of_mem_drop hv))
 subst hW1;have hE1 : ∀ x, ((w.alloc (.cells ROW 57)).drew).cell? x = (w.drew.alloc (.cells ROW 57)).cell? x := fun x => rfl;have hE2 : ∀ x, ((w.alloc (.cells ROW 57)).drew).frozen? x = (w.drew.alloc (.cells ROW 57)).frozen? x := fun x => rfl;have hF1 : ∀ x, (((w.alloc (.cells ROW 57)).drew.setCells w.heap.size (i * 2) vs).drew).cell? x = ((w.drew.alloc (.cells ROW 57)).setCells w.heap.size (i * 2) vs).cell? x := fun x => rfl;have hF2 : ∀ x, (((w.alloc (.cells ROW 57)).drew.setCells w.heap.size (i * 2) vs).drew).frozen? x = ((w.drew.alloc (.cells ROW 57)).setCells w.heap.size (i * 2) vs).frozen? x := fun x => rfl;have hw1 : IntKind.i64.wrap ((i : Int) + (m : Int)) = (i : Int) + (m : Int) := by rw [IntKind.wrap_i64]; omega
 have hw2 : IntKind.i64.wrap ((n : Int) + (m : Int)) = (n : Int) + (m : Int) := by rw [IntKind.wrap_i64]; omega
 have hw3 : IntKind.i64.wrap ((n : Int) + (m : Int) - (i : Int)) = (n : Int) + (m : Int) - (i : Int) := by rw [IntKind.wrap_i64]; omega
 have hb1 : (0 : Int) ≤ (i : Int) + (m : Int) := by omega
 have hin : i ≤ n := by omega
 have htn : ((i : Int) + (m : Int)).toNat = i + m := by omega
 have hb3 : (i : Int) ≤ (n : Int) := by omega
 clear hkk hik hold hROW hG hRl hN hNf hNh cellB cellV;clear hcs hvs
 go_enter Try.func75, Try.ntmps75
 go_wp2_with (first
  | (at_builtin; refine Lib.wpList_append_run _ rfl _ _ _ _ rfl _ _ rfl rfl _ _ (hrz _) ?_)
  | (at_builtin; refine cp_list rfl rfl rfl rfl (hcpA _ hE1 hE2 _ _) ?_)
  | (at_builtin; refine cp_list rfl rfl rfl rfl (hcpB _ (fun _ => rfl) (fun _ => rfl) _ _ _) ?_))
 go_region_law (refine cp_step rfl rfl (v := .slice (some ⟨w.heap.size, (i + m) * 2, none⟩) (n + m - (i + m)) (G - (i + m))) (u := .slice (some ⟨b, off + i * 2, none⟩) (n - i) (c - i)) (by simp [Act.eval, Act.put]) (by simp [Act.eval, Act.put]) (hcpB _ hF1 hF2 _ (G - (i + m)) (c - i)) ?_)
 go_wp2
 go_ret
 exact ⟨rfl, rfl⟩
theorem ins_walk : InsWalk Prog 75 22 57 2 (.agg #[.int .i64 0, .int .i64 0]) :=
 ⟨⟨Try.f75, Try.func75, by kernel_rfl, by kernel_rfl⟩, ins_none, ins_end, ins_shift, ins_grow⟩
theorem insertG_is : SpIs Prog F.slices_Insert_of_api_Glyph_api_Glyph fun _ args H => insertV 2 16 args H := by
 obtain ⟨i0, hi0, hz0, hzs, hzb⟩ := info_parts insI;exact insert_of (inf := i0) insT hi0 hz0 (by rw [hzs]; rfl) hzs hzb (by decide) ins_walk
end Go.Sw
end
section
namespace Go.Sw
open Go.RowKit
theorem names_ok : NamesOk Prog := NamesOk.of (by kernel_rfl)
theorem mixed_ok : Prog.follows .mixedOrders = true := Checked.mixed Go.Proofs.Try.checked
theorem laid_ok : laidOutB Prog = true := by kernel_rfl
theorem cloneGlyph_is : SpIs Prog F.slices_Clone_of_api_Glyph_api_Glyph fun _ args H => cloneV 2 16 args H :=
 clone_is (c := { P := Prog, kp := kpS, sp := fun _ => none }) (fun _ _ => rfl) names_ok mixed_ok (t := 22) (e := 57) (by kernel_rfl) fun call a H => (slices_Clone_of_api_Glyph_api_Glyph_body 0 _ call a H).trans (by
  unfold slices_Clone_of_api_Glyph_api_Glyph cloneF;simp only [be_22_0, ap_22, beR_bare])
theorem clonePlace_is : SpIs Prog F.slices_Clone_of_api_Place_api_Place fun _ args H => cloneV 3 12 args H :=
 clone_is (c := { P := Prog, kp := kpS, sp := fun _ => none }) (fun _ _ => rfl) names_ok mixed_ok (t := 98) (e := 137) (by kernel_rfl) fun call a H => (slices_Clone_of_api_Place_api_Place_body 0 _ call a H).trans (by
  unfold slices_Clone_of_api_Place_api_Place cloneF;simp only [be_98_0, ap_98, beR_bare])
theorem clonePart_is : SpIs Prog F.slices_Clone_of_sfnt_Part_sfnt_Part fun _ args H => cloneV 2 40 args H :=
 clone_is (c := { P := Prog, kp := kpS, sp := fun _ => none }) (fun _ _ => rfl) names_ok mixed_ok (t := 142) (e := 140) (by kernel_rfl) fun call a H => (slices_Clone_of_sfnt_Part_sfnt_Part_body 0 _ call a H).trans (by
  unfold slices_Clone_of_sfnt_Part_sfnt_Part cloneF;simp only [be_142_0, ap_142, beR_bare])
theorem more_is (f : FuncId) (s : Sp) (h : moreS f = some s) : SpIs Prog f s := by
 unfold moreS at h;cases h4 : Nat.beq f 4 with
 | true => have := Nat.eq_of_beq_eq_true h4; subst this; rw [h4, cond_true] at h; injection h with h; subst h; exact range_is (c := { P := Prog, kp := kpS, sp := fun _ => none, it := itS }) names_ok mixed_ok it_is (by kernel_rfl)
 | false =>
 rw [h4, cond_false] at h;cases h7 : Nat.beq f 7 with
 | true => have := Nat.eq_of_beq_eq_true h7; subst this; rw [h7, cond_true] at h; injection h with h; subst h; exact range_is (c := { P := Prog, kp := kpS, sp := fun _ => none, it := itS }) names_ok mixed_ok it_is (by kernel_rfl)
 | false =>
 rw [h7, cond_false] at h;cases h40 : Nat.beq f 40 with
 | true => have := Nat.eq_of_beq_eq_true h40; subst this; rw [h40, cond_true] at h; injection h with h; subst h; exact try_is
 | false =>
 rw [h40, cond_false] at h;cases h42 : Nat.beq f 42 with
 | true => have := Nat.eq_of_beq_eq_true h42; subst this; rw [h42, cond_true] at h; injection h with h; subst h; exact rangeM_is (c := { P := Prog, kp := kpS, sp := fun _ => none, it := itS }) names_ok mixed_ok it_is (by kernel_rfl)
 | false =>
 rw [h42, cond_false] at h;cases h71 : Nat.beq f 71 with
 | true => have := Nat.eq_of_beq_eq_true h71; subst this; rw [h71, cond_true] at h; injection h with h; subst h; exact cloneGlyph_is
 | false =>
 rw [h71, cond_false] at h;cases h73 : Nat.beq f 73 with
 | true => have := Nat.eq_of_beq_eq_true h73; subst this; rw [h73, cond_true] at h; injection h with h; subst h; exact trim_is (c := { P := Prog, kp := kpS, sp := fun _ => none }) (fun _ _ => rfl) names_ok mixed_ok
 | false =>
 rw [h73, cond_false] at h;cases h75 : Nat.beq f 75 with
 | true => have := Nat.eq_of_beq_eq_true h75; subst this; rw [h75, cond_true] at h; injection h with h; subst h; exact insertG_is
 | false =>
 rw [h75, cond_false] at h;cases h115 : Nat.beq f 115 with
 | true => have := Nat.eq_of_beq_eq_true h115; subst this; rw [h115, cond_true] at h; injection h with h; subst h; exact clonePlace_is
 | false =>
 rw [h115, cond_false] at h;cases h134 : Nat.beq f 134 with
 | true => have := Nat.eq_of_beq_eq_true h134; subst this; rw [h134, cond_true] at h; injection h with h; subst h; exact clonePart_is
 | false =>
 rw [h134, cond_false] at h;cases h
theorem T_prog (k : Nat) : (T k).c.P = Prog := by unfold T C; rfl
end Go.Sw
end
section
namespace Go.Sw
open Go.RowKit
def frz (md : Mode) (H : Heap) (r : Res Value) : Res Value :=
 match r with
 | .ok v H' => .ok (frozen md H v H').1 (frozen md H v H').2
 | r => r
theorem frz_stuck {md : Mode} {H : Heap} {r : Res Value} (h : frz md H r ≠ .stuck) : r ≠ .stuck := fun e => h (by rw [e]; rfl)
theorem frz_sim {w0 : Base} {μ : Mu} {H : Heap} {w' : World} (md : Mode) {r : Res Value} {e : Ending} (he : Ended w0 μ r e w') : Ended w0 μ (frz md H r) e w' := by
 cases r with
 | stuck => exact he
 | panic v H' => exact he
 | ok v H' =>
  obtain ⟨μ1, v', h1, h2, h3, rfl⟩ := he;obtain ⟨μ2, k1, k2, k3⟩ := frozen_sim (H := H) md h2 h3;exact ⟨μ2, v', Mu.le_trans h1 k1, k2, k3, rfl⟩
def runZ (c : Cfg) (md : FuncId → Mode) : Nat → Caller
 | 0 => fun _ _ _ => .stuck
 | n + 1 => fun f args H =>
  match c.sp f with
  | some s => frz (md f) H (s (runZ c md n) args H)
  | none => frz (md f) H (bodyK c (runZ c md n) f args H)
theorem runZ_ok {c : Cfg} (hit : ∀ v H, c.it v H = none) (md : FuncId → Mode) (hN : NamesOk c.P) (hmix : c.P.follows .mixedOrders = true) (hsp : SpOk c) : ∀ n, CallOk c.P (runZ c md n)
 | 0 => fun _ _ _ h => absurd rfl h
 | n + 1 => by
  intro f args H hne;have ih := runZ_ok hit md hN hmix hsp n;simp only [runZ] at hne ⊢;cases hs : c.sp f with
  | some s =>
   rw [hs] at hne;obtain ⟨h1, h2⟩ := hsp.2 f s hs _ ih args H (frz_stuck hne);exact ⟨h1, fun w0 μ w args' hH ha => (h2 w0 μ w args' hH ha).mono fun e w' he => frz_sim _ he⟩
  | none =>
   rw [hs] at hne;obtain ⟨h1, h2⟩ := body_is hit hN hmix ih rfl (frz_stuck hne);exact ⟨h1, fun w0 μ w args' hH ha => (h2 w0 μ w args' hH ha).mono fun e w' he => frz_sim _ he⟩
end Go.Sw
end
section
namespace Go.Sw
theorem told_okZ {k m : Nat} {md : FuncId → Mode} (hsp : okTrue (runZ (baseCfg Prog kpS moreS) md m (k % 1000000) [] Heap.empty) = true) : SpOk (T k).c := by
 have h0 : CallOk Prog (runZ (baseCfg Prog kpS moreS) md m) := runZ_ok (c := baseCfg Prog kpS moreS) (fun _ _ => rfl) md names_ok mixed_ok (SpOk.base more_is) m;have h1 : SpOk (C k) := by
  unfold C;exact SpOk.of (P := Prog) (kp := kpS) (speaks := speaksT) (more := moreS) (k := k % 1000000) h0 hsp more_is
 exact h1
end Go.Sw
end
section
set_option maxRecDepth 100000
set_option linter.unusedVariables false
namespace Go.Sw
noncomputable section
end
end Go.Sw
end
section
namespace Go.Sw
open Go.RowKit
variable {σ : Type}
end Go.Sw
end
section
namespace Go.Sw
open Go.RowKit
variable {σ : Type}
end Go.Sw
end
section
set_option maxRecDepth 100000
set_option linter.unusedVariables false
namespace Go.Sw
noncomputable section
end
end Go.Sw
end
section
namespace Go.Sw
open Go.RowKit
end Go.Sw
end
section
set_option maxRecDepth 100000
set_option linter.unusedVariables false
namespace Go.Sw
noncomputable section
end
end Go.Sw
end
section
namespace Go.Sw
open Go.RowKit
end Go.Sw
end
section
namespace Go.Sw
open Go.RowKit
end Go.Sw
end
section
namespace Go.Sw
open Go.RowKit
def RP.ok (r : RP) : Prop := -1 ≤ r.first ∧ r.first ≤ 65536 ∧ -1 ≤ r.last ∧ r.last ≤ 65536 ∧ -1 ≤ r.pos ∧ r.pos < 2 ^ 35 ∧ 0 ≤ r.step ∧ r.step ≤ 4 ∧ 0 ≤ r.size ∧ r.size ≤ 4
end Go.Sw
end
section
namespace Go.Sw
open Go.RowKit
end Go.Sw
end
section
namespace Go.Sw
open Go.RowKit
theorem twos_get (l : List Int) (pre rest : List Int) (i : Nat) (x : Int) (hx : l[i]? = some x) (hb : 0 ≤ x ∧ x < 65536) (p : Int) (hp : p = pre.length + 2 * i) : uS (pre ++ (twos l ++ rest)) p 2 = some x := by
 obtain ⟨hi, hg⟩ := List.getElem?_eq_some_iff.1 hx;have e : twos l = twos (l.take i) ++ (bytesOf x 2 ++ twos (l.drop (i + 1))) := by
  have : l = l.take i ++ ([x] ++ l.drop (i + 1)) := by
   rw [← hg, List.singleton_append, ← List.drop_eq_getElem_cons hi, List.take_append_drop]
  conv => lhs; rw [this]
  simp [twos]
 rw [e, ← List.append_assoc];have h := uS_at (pre ++ twos (l.take i)) (twos (l.drop (i + 1)) ++ rest) (n := x) (k := 2) p 2 (by rw [List.length_append, twos_len, List.length_take]; omega) rfl hb.1 (by simpa using hb.2);simpa [List.append_assoc] using h
def tabOf (cls : List Int) : Int × List Pt := (8, if cls = [] then [] else [⟨0, (cls.length : Int) - 1, cls⟩])
theorem twos_list (l : List Int) (pre rest : List Int) (hb : ∀ x, x ∈ l → 0 ≤ x ∧ x < 65536) (i : Int) (hi : i = pre.length) : listS (pre ++ (twos l ++ rest)) i l.length 2 = some l := by
 have hs : (listS (pre ++ (twos l ++ rest)) i l.length 2).isSome = true := by
  rw [listS_isSome (by omega), rowsB_iff (by omega)];simp [twos_len];omega
 obtain ⟨vs, hv⟩ := Option.isSome_iff_exists.1 hs;rw [hv];congr 1;have hlen : vs.length = l.length := by
  unfold listS at hv;obtain ⟨r, _, rfl⟩ := Option.map_eq_some_iff.1 hv;simp
 apply List.ext_getElem?;intro j;by_cases hj : j < l.length
 ·obtain ⟨x, hx⟩ : ∃ x, l[j]? = some x := ⟨_, List.getElem?_eq_getElem hj⟩
  rw [listS_get (by omega) hv j (by omega), hx];exact twos_get l pre rest j x hx (hb x (List.mem_of_getElem? hx)) _ (by omega)
 ·rw [List.getElem?_eq_none (by omega), List.getElem?_eq_none (by omega)]
theorem look_ofS (cls : List Int) (hb : ∀ x, x ∈ cls → 0 ≤ x ∧ x < 65536) (hl : cls.length ≤ 65535) (rest : List Int) (g : Int) : lookS (ofS cls ++ rest) g 2 = some (tabOf cls) := by
 have h0 : uS (ofS cls ++ rest) 0 2 = some 8 := by
  have := uS_at [] (bytesOf 0 2 ++ (bytesOf cls.length 2 ++ (twos cls ++ rest))) (n := 8) (k := 2) 0 2 rfl rfl (by omega) (by decide);simpa [ofS, List.append_assoc] using this
 have h2 : uS (ofS cls ++ rest) 2 2 = some 0 := by
  have := uS_at (bytesOf 8 2) (bytesOf cls.length 2 ++ (twos cls ++ rest)) (n := 0) (k := 2) 2 2 (by simp) rfl (by omega) (by decide);simpa [ofS, List.append_assoc] using this
 have h4 : uS (ofS cls ++ rest) (2 + 2) 2 = some (cls.length : Int) := by
  have := uS_at (bytesOf 8 2 ++ bytesOf 0 2) (twos cls ++ rest) (n := cls.length) (k := 2) (2 + 2) 2 (by simp) rfl (by omega) (by simp; omega);simpa [ofS, List.append_assoc] using this
 have h6 : listS (ofS cls ++ rest) (2 + 4) cls.length 2 = some cls := by
  have := twos_list cls (bytesOf 8 2 ++ bytesOf 0 2 ++ bytesOf cls.length 2) rest hb (2 + 4) (by simp);simpa [ofS, List.append_assoc] using this
 unfold lookS partsS;rw [h0, Option.bind_some];simp only [show ¬ ((8 : Int) = 0) by decide, show ¬ ((8 : Int) = 2) by decide, show ¬ ((8 : Int) = 4) by decide, show ¬ ((8 : Int) = 6) by decide, if_false, if_true];unfold trimS;rw [h2, Option.bind_some, h4, Option.bind_some, if_pos (by omega), h6, Option.map_some, Option.bind_some];unfold tabOf;by_cases hc : cls = []
 ·subst hc; rfl
 ·rw [if_neg hc, if_neg (show ¬ ((cls.length : Int) = 0) by have := List.length_pos_iff.2 hc; omega)];simp [risesS]
theorem uS_more {b : List Int} {i n x : Int} (h : uS b i n = some x) (more : List Int) : uS (b ++ more) i n = some x := by
 unfold uS at h ⊢;obtain ⟨r, hr, rfl⟩ := Option.map_eq_some_iff.1 h;obtain ⟨h1, rfl⟩ := pieceS_iff.1 hr;have e : pieceS (b ++ more) i n = some ((b.drop i.toNat).take n.toNat) := pieceS_iff.2 ⟨by simp; omega, by rw [List.drop_append_of_le_length (by omega), List.take_append_of_le_length (by simp; omega)]⟩;rw [e]; rfl
theorem listS_more {b : List Int} {i n z : Int} {r : List Int} (hz : 0 < z) (h : listS b i n z = some r) (more : List Int) : listS (b ++ more) i n z = some r := by
 unfold listS at h ⊢;obtain ⟨q, hq, rfl⟩ := Option.map_eq_some_iff.1 h;obtain ⟨⟨h1, h2, h3, h4⟩, rfl⟩ := (rowsS_iff hz).1 hq;have hm := Int.mul_nonneg h2 (Int.le_of_lt hz);have e : rowsS (b ++ more) i n z = some ((b.drop i.toNat).take (n * z).toNat) := (rowsS_iff hz).2 ⟨⟨h1, h2, by simp; omega, by simp; omega⟩, by rw [List.drop_append_of_le_length (by omega), List.take_append_of_le_length (by simp; omega)]⟩;rw [e]; rfl
end Go.Sw
end
section
set_option maxRecDepth 100000
set_option linter.unusedVariables false
namespace Go.Sw
noncomputable section
end
end Go.Sw
end
section
namespace Go.Sw
open Go.RowKit
end Go.Sw
end
section
namespace Go.Sw
open Go.RowKit
end Go.Sw
end
section
namespace Go.Sw
open Go.RowKit
end Go.Sw
end
section
namespace Go.Sw
open Go.RowKit
end Go.Sw
end
section
namespace Go.Sw
open Go.RowKit
variable {σ : Type}
end Go.Sw
end
section
namespace Go.Sw
open Go.RowKit
end Go.Sw
end
section
namespace Go.Sw
open Go.RowKit
end Go.Sw
end
section
namespace Go.Sw
open Go.RowKit
structure CTab where
 m : Mach
 subs : List (Int × List Pt)
end Go.Sw
end
section
namespace Go.Sw
open Go.RowKit
end Go.Sw
end
section
namespace Go.Sw
open Go.RowKit
end Go.Sw
end
section
namespace Go.Sw
open Go.RowKit
structure CTab.ok (t : CTab) : Prop where
 m : t.m.ok
 subs : ∀ x, x ∈ t.subs → (∀ p, p ∈ x.2 → p.ok) ∧ risesS x.2 = true ∧ x.2.length < 2 ^ 31
 has : ∀ e, e ∈ t.m.ents → (e.a = 65535 ∨ e.a < t.subs.length) ∧ (e.b = 65535 ∨ e.b < t.subs.length)
end Go.Sw
end
section
namespace Go.Sw
open Go.RowKit
variable {σ : Type}
end Go.Sw
end
section
namespace Go.Sw
open Go.RowKit
theorem get_nil (g : Int) : getS ([] : List Pt) g = none := rfl
theorem tab_get (s : List Int) (id : Int) : getS (tabOf s).2 id = if 0 ≤ id then s[id.toNat]? else none := by
 unfold tabOf;by_cases hc : s = []
 ·subst hc; simp [get_nil]
 ·rw [if_neg hc];have hpos : 0 < s.length := List.length_pos_iff.2 hc;unfold getS;by_cases h1 : id ≤ (s.length : Int) - 1
  ·rw [show ([(⟨0, (s.length : Int) - 1, s⟩ : Pt)]).find? (fun p => decide (id ≤ p.last)) = some ⟨0, (s.length : Int) - 1, s⟩ by simp [List.find?, h1], Option.bind_some];by_cases h0 : 0 ≤ id
   ·rw [if_pos h0, if_pos h0];unfold Pt.num;dsimp only;rw [show (min (id - 0) ((s.length : Int) - 1)).toNat = id.toNat by omega]
   ·rw [if_neg h0, if_neg h0]
  ·rw [show ([(⟨0, (s.length : Int) - 1, s⟩ : Pt)]).find? (fun p => decide (id ≤ p.last)) = none by simp [List.find?, h1]];by_cases h0 : 0 ≤ id
   ·rw [if_pos h0, List.getElem?_eq_none (by omega)]; rfl
   ·rw [if_neg h0]; rfl
end Go.Sw
end
section
namespace Go.Sw
open Go.RowKit
theorem twos_byt (l : List Int) : Byt (twos l) := Byt.flat fun r hr => by
 obtain ⟨x, _, rfl⟩ := List.mem_map.1 hr;exact bytesOf_byt _ _
end Go.Sw
end
section
namespace Go.Sw
open Go.RowKit
theorem wrap16 (x : Int) : IntKind.u16.wrap x = m16 x := by
 unfold IntKind.wrap m16;simp [IntKind.signed, IntKind.bits]
theorem m16_lt (x : Int) : 0 ≤ m16 x ∧ m16 x < 65536 := by unfold m16; omega
structure SPlan where
 p : Plan
 vals : List Int
def SPlan.ok (x : SPlan) : Prop := x.p.ok
def SSmall (x : SPlan) (n : Nat) : Prop := x.p.cls.length ≤ 40 ∧ x.p.rows.length ≤ 20 ∧ x.p.ents.length ≤ 40 ∧ x.vals.length ≤ 100 ∧ n ≤ 60
instance (x : SPlan) (n : Nat) : Decidable (SSmall x n) := by unfold SSmall; exact inferInstance
end Go.Sw
end
section
namespace Go.Sw
open Go.RowKit
abbrev enc2 (p : Int × Int) : List Value := [.int .i16 p.1, .int .i16 p.2]
theorem enc2_len (p : Int × Int) : (enc2 p).length = 2 := rfl
def ptB (p : Int × Int) : List Int := bytesOf (m16 p.1) 2 ++ bytesOf (m16 p.2) 2
def ptsB (l : List (Int × Int)) : List Int := (l.map ptB).flatten
def glB (l : List (Int × Int)) : List Int := bytesOf l.length 4 ++ ptsB l
def dataB (ls : List (List (Int × Int))) : List Int := (ls.map glB).flatten
def offB (ls : List (List (Int × Int))) (j : Nat) : List Int := bytesOf ((dataB (ls.take j)).length : Nat) 2
def aoffB (ls : List (List (Int × Int))) (n : Nat) : List Int := ((List.range n).map (offB ls)).flatten
def ofA (ls : List (List (Int × Int))) (n : Nat) : List Int := (bytesOf 8 2 ++ bytesOf 0 2 ++ bytesOf ls.length 2) ++ aoffB ls n
def ankB (ls : List (List (Int × Int))) : List Int := [0, 0, 0, 0, 0, 0, 0, 12] ++ bytesOf (12 + (ofA ls ls.length).length : Nat) 4 ++ ofA ls ls.length ++ dataB ls
theorem ptB_len (p : Int × Int) : (ptB p).length = 4 := by simp [ptB]
theorem ptsB_len (l : List (Int × Int)) : (ptsB l).length = 4 * l.length := by
 unfold ptsB;rw [flat_len (z := 4) (fun r hr => by obtain ⟨p, _, rfl⟩ := List.mem_map.1 hr; exact ptB_len p), List.length_map];omega
theorem glB_len (l : List (Int × Int)) : (glB l).length = 4 + 4 * l.length := by unfold glB; rw [List.length_append, ptsB_len, bytesOf_len]
theorem ptsB_snoc (l : List (Int × Int)) (p : Int × Int) : ptsB (l ++ [p]) = ptsB l ++ ptB p := by simp [ptsB]
theorem dataB_snoc (ls : List (List (Int × Int))) (l : List (Int × Int)) : dataB (ls ++ [l]) = dataB ls ++ glB l := by simp [dataB]
theorem dataB_len : ∀ (ls : List (List (Int × Int))), (∀ l, l ∈ ls → l.length ≤ 30) → (dataB ls).length ≤ ls.length * 124
 | [], _ => by simp [dataB]
 | l :: ls, h => by
  have h1 := dataB_len ls fun x hx => h x (by simp [hx]);have h2 := h l (by simp);have h3 := glB_len l;unfold dataB at h1 ⊢;simp only [List.map_cons, List.flatten_cons, List.length_append, List.length_cons];omega
theorem aoffB_snoc (ls : List (List (Int × Int))) (n : Nat) : aoffB ls (n + 1) = aoffB ls n ++ offB ls n := by simp [aoffB, List.range_succ]
theorem aoffB_len (ls : List (List (Int × Int))) (n : Nat) : (aoffB ls n).length = n * 2 := by
 unfold aoffB;rw [flat_len (z := 2) (fun r hr => by obtain ⟨p, _, rfl⟩ := List.mem_map.1 hr; simp [offB]), List.length_map, List.length_range]
theorem ixA2_0 (b : Nat) (h : Heap) : ixA 2 1 (.pointer (some ⟨b, 0, none⟩)) (.int .i64 0) h = .ok (.pointer (some ⟨b, 0, none⟩)) h := by simp [ixA]
theorem ixA2_1 (b : Nat) (h : Heap) : ixA 2 1 (.pointer (some ⟨b, 0, none⟩)) (.int .i64 1) h = .ok (.pointer (some ⟨b, 1, none⟩)) h := by simp [ixA]
theorem w24_l2 (k : Nat) {H0 H : Heap} {A B : It} {o : Option Nat} {s5 : Value} {lk : List Int} (a3 a4 a18 a19 a20 : Value) {v : Value} {l : List (Int × Int)} (hv : Sl H0 2 v enc2 l) (hl : l.length ≤ 30) (hk : lk.length < 2 ^ 29)
  (g : Star H0 H [A, B, itRow o 1 s5 encB lk]) :
  ∃ s' o' zz H', loopN (swashlaw24_Write_l2 k (R (T k))) loopFuel [(3, a3), (4, a4), (5, s5), (18, a18), (19, a19), (20, a20), (32, v), (33, .int .i64 l.length), (34, .int .i64 0)] H =
   .ok (.exit 2, [(3, a3), (4, a4), (5, s'), (18, a18), (19, a19), (20, a20), (32, v), (33, .int .i64 l.length), (34, zz), (35, .bool false)]) H' ∧ Star H0 H' [A, B, itRow o' 1 s' encB (lk ++ ptsB l)] := by
 obtain ⟨xx, e', H1, hr1, rfl, s', o', rfl, g1⟩ := loop_up (body := swashlaw24_Write_l2 k (R (T k))) l.length
  (fun j e H' => ∃ s' o', e = [(3, a3), (4, a4), (5, s'), (18, a18), (19, a19), (20, a20), (32, v), (33, .int .i64 l.length), (34, .int .i64 j)] ∧ Star H0 H' [A, B, itRow o' 1 s' encB (lk ++ ptsB (l.take j))])
  (fun xx e H' => xx = .exit 2 ∧ ∃ s' o', e = [(3, a3), (4, a4), (5, s'), (18, a18), (19, a19), (20, a20), (32, v), (33, .int .i64 l.length), (34, .int .i64 l.length), (35, .bool false)] ∧ Star H0 H' [A, B, itRow o' 1 s' encB (lk ++ ptsB l)])
  (e0 := [(3, a3), (4, a4), (5, s5), (18, a18), (19, a19), (20, a20), (32, v), (33, .int .i64 l.length), (34, .int .i64 0)]) (H0 := H) ⟨s5, o, rfl, by simpa [ptsB] using g⟩ (by omega)
  (fun j e H' hj ⟨s', o', he, g⟩ => by
   subst he;have hjl : (j : Int) < l.length := by omega
   obtain ⟨p, hp⟩ : ∃ p, l[j]? = some p := ⟨_, List.getElem?_eq_getElem hj⟩
   obtain ⟨q, i1, i2⟩ := ((hv.up g.ext).rd (by decide) enc2_len).2 j p hp;have hlen : (lk ++ ptsB (l.take j)).length < 2 ^ 30 := by rw [List.length_append, ptsB_len, List.length_take]; omega
   have g := g.push ⟨enc2 p, 1, false⟩;simp only [List.cons_append, List.nil_append] at g;have b1 := m16_lt p.1;have b2 := m16_lt p.2;have hw1 := wrap16 p.1;have hw2 := wrap16 p.2;have hb := g.get 3 rfl;obtain ⟨s1, o1, H1, e1, g1⟩ := Put_star k g 2 rfl (m16 p.1) 2 2 rfl b1.1 (by omega) (by omega) hlen;simp only [List.set_cons_zero, List.set_cons_succ] at g1;have hb1 := g1.get 3 rfl;obtain ⟨s2, o2, H2, e2, g2⟩ := Put_star k g1 2 rfl (m16 p.2) 2 2 rfl b2.1 (by omega) (by omega) (by rw [List.length_append, List.length_append, ptsB_len, List.length_take, bytesOf_len]; omega);simp only [List.set_cons_zero, List.set_cons_succ] at g2;have w1 : IntKind.i64.wrap (m16 p.1) = m16 p.1 := wrap_i64 (by omega) (by omega);have w2 : IntKind.i64.wrap (m16 p.2) = m16 p.2 := wrap_i64 (by omega) (by omega);have hb2 := g2.get 3 rfl;refine .inl ⟨_, H2, ?_, s2, o2, rfl, by rw [take_snoc hp, ptsB_snoc]; simpa [ptB] using g2.take 3⟩;rw [swashlaw24_Write_l2_eq];simp -implicitDefEqProofs (disch := omega) [hjl, i1, i2, hb, hb1, hb2, ixA2_0, ixA2_1, hw1, hw2, w1, w2, e1, e2])
  (fun e H' ⟨s', o', he, g⟩ => by
   subst he;rw [List.take_length] at g;refine ⟨.exit 2, _, H', ?_, by simp, rfl, s', o', rfl, g⟩;rw [swashlaw24_Write_l2_eq];simp -implicitDefEqProofs)
 exact ⟨s', o', _, H1, hr1, g1⟩
abbrev encV (x : List (Int × Int) × Value) : List Value := [x.2]
theorem encV_len (x : List (Int × Int) × Value) : (encV x).length = 1 := rfl
structure PtsSl (H : Heap) (ls : List (List (Int × Int))) (v : Value) (rv : List (List (Int × Int) × Value)) : Prop where
 fst : rv.map Prod.fst = ls
 each : ∀ x, x ∈ rv → Sl H 2 x.2 enc2 x.1
 all : Sl H 1 v encV rv
theorem PtsSl.up {H H' : Heap} {ls : List (List (Int × Int))} {v : Value} {rv : List (List (Int × Int) × Value)} (h : PtsSl H ls v rv) (he : Ext H H') : PtsSl H' ls v rv := ⟨h.fst, fun x hx => (h.each x hx).up he, h.all.up he⟩
set_option maxHeartbeats 1000000 in
theorem write24_core (k : Nat) {H : Heap} {ls : List (List (Int × Int))} {v : Value} {rv : List (List (Int × Int) × Value)} (hP : PtsSl H ls v rv) (hn : ls.length ≤ 30) (hl : ∀ l, l ∈ ls → l.length ≤ 30) :
  ∃ s o H', swashlaw24_Write k (R (T k)) v H = .ok s H' ∧ Star H H' [itRow o 1 s encB (ankB ls)] := by
 have hrvl : rv.length = ls.length := by rw [← hP.fst]; simp
 have hvl := fun H' => hP.all.len H';rw [hrvl] at hvl;have dl := fun j => dataB_len (ls.take j) fun l h => hl l (List.mem_of_mem_take h);have ho1 : OwnO (H.push ⟨[.int .u8 0, .int .u8 0, .int .u8 0, .int .u8 0], 1, false⟩) (some H.n) 1 (.slice (some ⟨H.n, 0, none⟩) 4 4) encB [0, 0, 0, 0] := .inr ⟨H.n, rfl, rfl, get_push_eq _ _ _ rfl⟩;have g := (Star.nil H).more_row ((Ext.refl H).push ⟨[.int .u8 0, .int .u8 0, .int .u8 0, .int .u8 0], 1, false⟩) ho1 (fun b hb => by injection hb with hb; subst hb; simp);have ho2 : OwnO ((H.push ⟨[.int .u8 0, .int .u8 0, .int .u8 0, .int .u8 0], 1, false⟩).push ⟨[.int .u8 0, .int .u8 0, .int .u8 0, .int .u8 12], 1, false⟩) (some (H.n + 1)) 1 (.slice (some ⟨H.n + 1, 0, none⟩) 4 4) encB [0, 0, 0, 12] := .inr ⟨H.n + 1, rfl, rfl, get_push_eq _ _ _ (by simp)⟩;have g := g.more_row ((Ext.refl _).push ⟨[.int .u8 0, .int .u8 0, .int .u8 0, .int .u8 12], 1, false⟩) ho2 (fun b hb => by injection hb with hb; subst hb; simp);simp only [List.nil_append, List.cons_append] at g;obtain ⟨s0, o0, H1, e0, g⟩ := g.appendRow (bytes := 1) 0 1 encB_len rfl rfl (by simp) (by decide);simp only [List.set_cons_zero, List.set_cons_succ] at g;have g := g.take 1;simp only [List.take_succ_cons, List.take_zero] at g;have g := g.more_row (Ext.refl _) (OwnO.nil encB _ 1) (fun b hb => by cases hb);simp only [List.nil_append, List.cons_append] at g;obtain ⟨t1, u1, J1, f1, g⟩ := Put_star k g 1 rfl 8 2 2 rfl (by omega) (by omega) (by omega) (by simp);simp only [List.set_cons_zero, List.set_cons_succ] at g;obtain ⟨t2, u2, J2, f2, g⟩ := Put_star k g 1 rfl 0 2 2 rfl (by omega) (by omega) (by omega) (by simp);simp only [List.set_cons_zero, List.set_cons_succ] at g;obtain ⟨t3, u3, J3, f3, g⟩ := Put_star k g 1 rfl ls.length 2 2 rfl (by omega) (by omega) (by omega) (by simp);simp only [List.set_cons_zero, List.set_cons_succ, List.nil_append] at g;have g := g.more_row (Ext.refl _) (OwnO.nil encB _ 1) (fun b hb => by cases hb);simp only [List.nil_append, List.cons_append] at g
 obtain ⟨xx, e', J4, hr4, rfl, z4, s4, o4, s5, o5, rfl, g⟩ := loop_up (body := swashlaw24_Write_l1 k (R (T k))) ls.length
  (fun j e H' => ∃ s o s5 o5, e = [(3, s0), (4, s), (5, s5), (18, v), (19, .int .i64 ls.length), (20, .int .i64 j)] ∧ Star H H' [itRow o0 1 s0 encB ([0, 0, 0, 0] ++ [0, 0, 0, 12]), itRow o 1 s encB (ofA ls j), itRow o5 1 s5 encB (dataB (ls.take j))])
  (fun xx e H' => xx = .exit 0 ∧ ∃ z s o s5 o5, e = [(3, s0), (4, s), (5, s5), (18, v), (19, .int .i64 ls.length), (20, z), (21, .bool false)] ∧ Star H H' [itRow o0 1 s0 encB ([0, 0, 0, 0] ++ [0, 0, 0, 12]), itRow o 1 s encB (ofA ls ls.length), itRow o5 1 s5 encB (dataB ls)])
  (e0 := [(3, s0), (4, t3), (5, .slice none 0 0), (18, v), (19, .int .i64 ls.length), (20, .int .i64 0)]) (H0 := J3) ⟨t3, u3, .slice none 0 0, none, rfl, by simpa [ofA, aoffB, dataB] using g⟩ (by omega)
  (fun j e H' hj ⟨s, o, s5, o5, he, g⟩ => by
   subst he;have hlt : (j : Int) < ls.length := by omega
   obtain ⟨l, hl2⟩ : ∃ l, ls[j]? = some l := ⟨_, List.getElem?_eq_getElem hj⟩
   obtain ⟨x, hx⟩ : ∃ x, rv[j]? = some x := ⟨_, List.getElem?_eq_getElem (by omega)⟩
   have hxr : x.1 = l := by
    have h0 : (rv.map Prod.fst)[j]? = some x.1 := by rw [List.getElem?_map, hx]; rfl
    rw [hP.fst, hl2] at h0;exact (Option.some.inj h0).symm
   obtain ⟨pp, i1, i2⟩ := hP.all.ix1 encV_len j x hx _ rfl;have i2 := i2 H' g.ext;have hxs := hP.each x (List.mem_of_getElem? hx);rw [hxr] at hxs;have hll := hl l (List.mem_of_getElem? hl2);have hln := fun H' => hxs.len H';have d1 := dl j;rw [List.length_take] at d1;have hofl : (ofA ls j).length = 6 + j * 2 := by unfold ofA; rw [List.length_append, aoffB_len]; simp
   have q5 : ∀ H', lnS s5 H' = .ok (.int .i64 (dataB (ls.take j)).length) H' := (g.row 2 rfl).len;obtain ⟨s1, o1, H1, e1, g1⟩ := Put_star k g 1 rfl (dataB (ls.take j)).length 2 2 rfl (by omega) (by omega) (by omega) (by omega);simp only [List.set_cons_zero, List.set_cons_succ] at g1;obtain ⟨s2, o2, H2, e2, g2⟩ := Put_star k g1 2 rfl l.length 4 4 rfl (by omega) (by omega) (by omega) (by omega);simp only [List.set_cons_zero, List.set_cons_succ] at g2;obtain ⟨s3, o3, zz, H3, e3, g3⟩ := w24_l2 k s0 s1 v (.int .i64 ls.length) (.int .i64 j) hxs hll (by rw [List.length_append, bytesOf_len]; omega) g2;refine .inl ⟨_, H3, ?_, s1, o1, s3, o3, rfl, ?_⟩
   ·rw [swashlaw24_Write_l1_eq];simp -implicitDefEqProofs (disch := omega) [hlt, i1, i2, hln, q5, e1, e2, e3, swashlaw24_Write_l2k_x2]
   ·have h1 : ofA ls (j + 1) = ofA ls j ++ bytesOf ((dataB (ls.take j)).length : Nat) 2 := by unfold ofA; rw [aoffB_snoc, ← List.append_assoc]; rfl
    have h2 : dataB (ls.take (j + 1)) = dataB (ls.take j) ++ bytesOf l.length 4 ++ ptsB l := by rw [take_snoc hl2, dataB_snoc]; unfold glB; rw [List.append_assoc]
    rw [h1, h2];exact g3)
  (fun e H' ⟨s, o, s5, o5, he, g⟩ => by
   subst he;rw [List.take_length] at g;refine ⟨.exit 0, _, H', ?_, by simp, rfl, .int .i64 ls.length, s, o, s5, o5, rfl, g⟩;rw [swashlaw24_Write_l1_eq];simp -implicitDefEqProofs)
 have hofl : (ofA ls ls.length).length = 6 + ls.length * 2 := by unfold ofA; rw [List.length_append, aoffB_len]; simp
 have hdl := dl ls.length;rw [List.take_length] at hdl;have q4 : ∀ H', lnS s4 H' = .ok (.int .i64 (ofA ls ls.length).length) H' := (g.row 1 rfl).len;obtain ⟨t6, u6, J6, f6, g⟩ := Put_star k g 0 rfl (12 + (ofA ls ls.length).length : Nat) 4 4 rfl (by omega) (by omega) (by omega) (by simp);simp only [List.set_cons_zero, List.set_cons_succ] at g;obtain ⟨t7, u7, J7, f7, g⟩ := g.appendRow (bytes := 1) 0 1 encB_len rfl rfl (by simp; omega) (by decide);simp only [List.set_cons_zero, List.set_cons_succ] at g;obtain ⟨t8, u8, J8, f8, g⟩ := g.appendRow (bytes := 1) 0 2 encB_len rfl rfl (by simp; omega) (by decide);simp only [List.set_cons_zero, List.set_cons_succ] at g;have g := g.take 1;simp only [List.take_succ_cons, List.take_zero] at g;refine ⟨t8, u8, J8, ?_, by unfold ankB; simpa using g⟩;have w1 : IntKind.i64.wrap (12 + ((ofA ls ls.length).length : Int)) = 12 + (ofA ls ls.length).length := wrap_i64 (by omega) (by omega)
 push_cast at f6
 simp -implicitDefEqProofs (disch := omega) [swashlaw24_Write, e0, f1, f2, f3, hvl, hr4, swashlaw24_Write_l1k_x0, q4, w1, f6, f7, f8]
theorem write24_fz (k : Nat) (hk : k < 1000000) {H : Heap} {ls : List (List (Int × Int))} {v : Value} {rv : List (List (Int × Int) × Value)} (hP : PtsSl H ls v rv) (hn : ls.length ≤ 30) (hl : ∀ l, l ∈ ls → l.length ≤ 30) :
  R (T k) F.swashlaw24_Write [v] H = .ok (lv encB (ankB ls)) H := by
 obtain ⟨s, o, H', e, g⟩ := write24_core k hP hn hl;rw [swashlaw24_Write_R];have ho : own k = .fz := by
  unfold own;rw [show Nat.blt k 1000000 = true from Nat.ble_eq_true_of_le hk];rfl
 rw [ho];obtain ⟨L, hf⟩ := (g.own 0 rfl).freeze encB_len (fun n _ v hv => by simp at hv; subst hv; trivial) 6;exact nrm_fz (v := s) (H' := H') e hf g.ext (Flat.B _).alive
theorem write24_own (k : Nat) (hk : 1000000 ≤ k) {H0 H : Heap} {L : List It} (st : Star H0 H L) {ls : List (List (Int × Int))} {v : Value} {rv : List (List (Int × Int) × Value)} (hP : PtsSl H ls v rv) (hn : ls.length ≤ 30) (hl : ∀ l, l ∈ ls → l.length ≤ 30) :
  ∃ s o H', R (T k) F.swashlaw24_Write [v] H = .ok s H' ∧ Star H0 H' (L ++ [itRow o 1 s encB (ankB ls)]) := by
 have ho : own k = .no := by
  unfold own;rw [show Nat.blt k 1000000 = false from by
   cases hb : Nat.blt k 1000000 with
   | false => rfl
   | true => have := Nat.le_of_ble_eq_true hb; omega]
  rfl
 obtain ⟨s, o, H', e, g⟩ := write24_core k hP hn hl;obtain ⟨o', g'⟩ := st.more_own (g.own 0 rfl) g.ext;exact ⟨s, o', H', by rw [swashlaw24_Write_R, ho]; exact nrm_of e, g'⟩
end Go.Sw
end
