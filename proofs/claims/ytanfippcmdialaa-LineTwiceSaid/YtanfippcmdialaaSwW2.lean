/-
  Functions' forms, and what is proved of them, part 2.
-/
import Derived.Test.YtanfippcmdialaaSwLib9
import Derived.Laws.IdiomCopy
import Derived.Test.YtanfippcmdialaaSwW1
import Derived.Test.YtanfippcmdialaaSwCfg
import Derived.Test.YtanfippcmdialaaSwLib8
import Derived.Tactics
import Derived.Tactics2
import Derived.Defers
import Derived.Recover
import Derived.Laws.Pointers
import Derived.WalkKit
import Derived.Lib.Walk
import Derived.Lib.SliceRun
import Derived.Lib.JoinLaws
import Derived.Lib.AppendZeros
import Derived.Lib.AppendZerosOnto
import Derived.Lib.Overlaps
import Derived.Laws.Externs
import Derived.Laws.NewBlocks
import Derived.Deep.RegionLaw
import Derived.Eval
set_option linter.unusedSimpArgs false
set_option linter.unusedVariables false
set_option linter.unusedSectionVars false
section
namespace Go.Sw
open Go.RowKit
theorem setCells_row (g : Nat) (el : TypeId) (fz : Nat × Nat) : ∀ (vs : List Value) (o : Nat) (cs : Array Value) (w : World), w.heap[g]? = some (.cells cs el fz) → o + vs.length ≤ cs.size → w.setCells g o vs = w.setRow g (splice cs.toList o vs).toArray
 | [], o, cs, w, hg, _ => by
  rw [World.setCells];unfold splice;simp only [List.length_nil, Nat.add_zero, List.nil_append, List.take_append_drop, Array.toArray_toList];exact (setRow_self w g cs el fz hg).symm
 | v :: r, o, cs, w, hg, hl => by
  rw [World.setCells, setCell_eq_setRow w g o cs el fz v hg, setCells_row g el fz r (o + 1) (cs.setIfInBounds o v) _ (setRow_heap w g cs _ el fz hg) (by simp at hl ⊢; omega), setRow_setRow];congr 2;have e := list_seg_step cs.toList o v r (by simp at hl ⊢; omega);unfold splice;simpa [Array.toList_setIfInBounds, Nat.add_assoc, Nat.add_comm 1] using e
theorem splice_two (l a b : List Value) (o : Nat) (h : o + a.length + b.length ≤ l.length) : splice (splice l (o + a.length) b) o a = splice l o (a ++ b) := by
 apply List.ext_getElem?;intro j;have h1 : (splice l (o + a.length) b).length = l.length := splice_length _ _ _ (by omega);rw [splice_get _ _ _ (by rw [h1]; omega), splice_get _ _ _ (by omega), splice_get _ _ _ (by rw [List.length_append]; omega)];rw [List.length_append];by_cases c0 : j < o
 ·have c1 : j < o + a.length := by omega
  simp only [if_pos c0, if_pos c1]
 ·simp only [if_neg c0];by_cases c1 : j < o + a.length
  ·have c3 : j < o + (a.length + b.length) := by omega
   simp only [if_pos c1, if_pos c3];rw [List.getElem?_append_left (by omega)]
  ·simp only [if_neg c1];by_cases c2 : j < o + a.length + b.length
   ·have c3 : j < o + (a.length + b.length) := by omega
    simp only [if_pos c2, if_pos c3];rw [List.getElem?_append_right (by omega), show j - o - a.length = j - (o + a.length) by omega]
   ·have c3 : ¬ j < o + (a.length + b.length) := by omega
    simp only [if_neg c2, if_neg c3]
theorem VRs.cut {μ : Mu} {k : List Value} {cs : Array Value} {base off N : Nat} (h4 : ∀ (i : Nat) v, k[i]? = some v → ∃ v', cs[base + i]? = some v' ∧ VR μ v v') (hk : off + N ≤ k.length) :
  VRs μ ((k.drop off).take N) ((cs.toList.drop (base + off)).take N) := by
 have hcs : ∀ i, i < N → base + off + i < cs.size := fun i hi => by
  obtain ⟨v', e, _⟩ := h4 (off + i) _ (List.getElem?_eq_getElem (by omega));have := (Array.getElem?_eq_some_iff.1 e).1;omega
 refine ⟨?_, fun i v v' hv hv' => ?_⟩
 ·rw [List.length_take, List.length_take, List.length_drop, List.length_drop, Array.length_toList (xs := cs)];by_cases h0 : N = 0
  ·subst h0; simp
  ·have := hcs (N - 1) (by omega);have e1 : N ≤ k.length - off := by omega
   have e2 : N ≤ cs.size - (base + off) := by omega
   rw [Nat.min_eq_left e1, Nat.min_eq_left e2]
 ·rw [List.getElem?_take] at hv hv';split at hv
  ·rename_i hi;rw [if_pos hi, List.getElem?_drop] at hv';rw [List.getElem?_drop] at hv;obtain ⟨u, e, r⟩ := h4 _ v hv;rw [← Nat.add_assoc] at e;simp only [Array.getElem?_toList] at hv';rw [e] at hv';injection hv' with hv';subst hv';exact r
  ·cases hv
structure InsWalk (P : Program) (f : FuncId) (tS e : TypeId) (sz : Nat) (z : Value) : Prop where
 fn : ∃ fn, P.funcs[f]? = some fn ∧ fn.body.isSome = true ∧ (fn.name == "runtime.NumGoroutine") = false
 none_ : ∀ (base : Option Addr) (n c i : Nat) (vb : Option Addr) (vc : Nat) (w : World), i ≤ n → n ≤ c → (base = none → n = 0 ∧ c = 0) → Calls P f #[.slice base n c, .int .i64 (i : Nat), .slice vb 0 vc] w fun e w' => e = .returned (.slice base n c) ∧ w' = w
 end_ : ∀ (base : Option Addr) (n c : Nat) (vb : Option Addr) (m vc : Nat) (w : World) (v' : Value) (w1 : World), n ≤ c → (base = none → n = 0 ∧ c = 0) → 0 < m → (Builtin.append_ #[tS, tS] tS #[.slice base n c, .slice vb m vc]).run P w = .ok v' w1 →
  Calls P f #[.slice base n c, .int .i64 (n : Nat), .slice vb m vc] w fun e w' => e = .returned v' ∧ w' = w1
 shift : ∀ (b off n c i vb voff m vc : Nat) (CS VS : Array Value) (el el2 : TypeId) (cs vs : List Value) (w : World), i < n → 0 < m → n + m ≤ c → n + m ≤ 2 ^ 31 → vb ≠ b → w.heap[b]? = some (.cells CS el (0, 0)) → w.heap[vb]? = some (.cells VS el2 (0, 0)) → off + c * sz ≤ CS.size → voff + m * sz ≤ VS.size →
  cs = (CS.toList.drop off).take (n * sz) → vs = (VS.toList.drop voff).take (m * sz) → Ones cs → Ones vs →
  Calls P f #[.slice (some ⟨b, off, none⟩) n c, .int .i64 (i : Nat), .slice (some ⟨vb, voff, none⟩) m vc] w fun e w' => e = .returned (.slice (some ⟨b, off, none⟩) (n + m) c) ∧ w' = (w.drew.setCells b (off + (i + m) * sz) (cs.drop (i * sz))).setCells b (off + i * sz) vs
 grow : ∀ (b off n c i vb voff m vc : Nat) (CS VS : Array Value) (el el2 : TypeId) (cs vs : List Value) (w : World), i < n → 0 < m → n ≤ c → c < n + m → n + m ≤ 2 ^ 31 → w.heap[b]? = some (.cells CS el (0, 0)) → w.heap[vb]? = some (.cells VS el2 (0, 0)) → off + n * sz ≤ CS.size → voff + m * sz ≤ VS.size →
  cs = (CS.toList.drop off).take (n * sz) → vs = (VS.toList.drop voff).take (m * sz) → Ones cs → Ones vs →
  ∃ G, n + m ≤ G ∧ Calls P f #[.slice (some ⟨b, off, none⟩) n c, .int .i64 (i : Nat), .slice (some ⟨vb, voff, none⟩) m vc] w fun r w' => r = .returned (.slice (some ⟨w.heap.size, 0, none⟩) (n + m) G) ∧
   w' = (((w.alloc (.cells ((cs.take (i * sz)).toArray ++ Builtin.zeroCells z.cells (n + m - i) ++ Builtin.zeroCells z.cells (G - (n + m))) e)).drew.setCells w.heap.size (i * sz) vs).drew).setCells w.heap.size ((i + m) * sz) (cs.drop (i * sz))
theorem lenL_slice {μ : Mu} {v v' : Value} {n : Nat} (h : VR μ v v') (hl : lenL v = some n) : ∃ a c, v' = .slice a n c := by
 unfold lenL at hl;split at hl
 ·injection hl with hl; subst hl;cases h <;> exact ⟨_, _, rfl⟩
 ·injection hl with hl; subst hl;cases h <;> exact ⟨_, _, rfl⟩
 ·cases hl
theorem slice_shape {μ : Mu} {base : Option Addr} {n c : Nat} {s' : Value} (h : VR μ (.slice base n c) s') : ∃ base' c', s' = .slice base' n c' ∧ n ≤ c' ∧ (base' = none → n = 0 ∧ c' = 0) := by
 cases h with
 | nilSlice => exact ⟨_, _, rfl, Nat.le_refl _, fun _ => ⟨rfl, rfl⟩⟩
 | slice b off off' len cap cap' m h hl hc ho hx => exact ⟨_, _, rfl, Nat.le_trans hl hc, fun h => by cases h⟩
 | unsure a => exact ⟨_, _, rfl, Nat.le_refl _, fun _ => ⟨rfl, rfl⟩⟩
 | bare a => exact ⟨_, _, rfl, Nat.le_refl _, fun h => by cases h⟩
theorem heap_setRow_new (w : World) (A B : Array Value) (e : TypeId) : ((w.alloc (.cells A e)).setRow w.heap.size B).heap = (w.alloc (.cells B e)).heap := by
 have h1 : (w.alloc (.cells A e)).heap[w.heap.size]? = some (.cells A e (0, 0)) := heap_alloc_new' _ _;apply Array.ext_getElem?;intro j;by_cases hj : j = w.heap.size
 ·subst hj;rw [setRow_heap _ _ _ _ _ _ h1, heap_alloc_new']
 ·rw [setRow_other _ _ _ _ hj];show (w.heap.push _)[j]? = (w.heap.push _)[j]?;rw [Array.getElem?_push, Array.getElem?_push, if_neg hj, if_neg hj]
set_option maxHeartbeats 1000000 in
theorem insert_of {P : Program} {f : FuncId} {tS e : TypeId} {inf : TypeInfo} {z : Value} {sz bytes : Nat} (ht : P.underlying tS = some (.slice e)) (hi : P.info? e = some inf) (hz : inf.zero = some z) (hzs : z.cells.size = inf.size) (es : inf.size = sz) (eb : inf.bytes = bytes) (h0 : 0 < sz)
  (hW : InsWalk P f tS e sz z) : SpIs P f fun _ args H => insertV sz bytes args H := by
 subst es eb;intro call _ args H hne;refine ⟨hW.fn, fun w0 μ w args' hH hargs => ?_⟩;dsimp only at hne ⊢;unfold insertV at hne ⊢;split at hne;rotate_left
 ·exact absurd rfl hne
 rename_i base n cap i v;obtain ⟨s', r1, rfl, hs, ha⟩ := hargs.cons_inv;obtain ⟨i', r2, rfl, hi', ha⟩ := ha.cons_inv;obtain ⟨v', r3, rfl, hv, ha⟩ := ha.cons_inv;have := ha.nil_inv;subst this;cases hi';obtain ⟨base', cap', rfl, hnc, hnil⟩ := slice_shape hs;cases hl : lenL v with
 | none => rw [hl] at hne; exact absurd rfl hne
 | some q =>
 rw [hl] at hne;obtain ⟨vb', vc', rfl⟩ := lenL_slice hv hl;cases q with
 | zero =>
  dsimp only at hne ⊢;split at hne;rotate_left
  ·exact absurd rfl hne
  rename_i hin;rw [if_pos hin];obtain ⟨p, rfl⟩ := Int.eq_ofNat_of_zero_le hin.1;refine (hW.none_ base' n cap' p vb' vc' w (by omega) hnc hnil).mono ?_;rintro _ _ ⟨rfl, rfl⟩;exact ⟨μ, _, Mu.le_refl _, hH, hs, rfl⟩
 | succ q =>
  dsimp only at hne ⊢;split at hne
  ·rename_i hin;rw [if_pos hin];subst hin;unfold apR at hne ⊢;dsimp only at hne ⊢;rw [lenL_lenV hl] at hne ⊢;dsimp only at hne ⊢;cases hr : appendK inf.size inf.bytes inf.size (q + 1) base n cap v H with
   | stuck => rw [hr] at hne; exact absurd rfl hne
   | panic u H' =>
    exfalso;revert hr;unfold appendK
    repeat' split
    all_goals (intro h; cases h)
   | ok u H' =>
    obtain ⟨μ', u', w1, e1, e2, e3, e4⟩ := appendK_sim (ty := tS) hH ht (.inl ⟨e, ht⟩) hi hz hs hv (lenL_lenV hl) (by rw [hzs]; exact hr);refine (hW.end_ base' n cap' vb' (q + 1) vc' w u' w1 hnc hnil (by omega) e1).mono ?_;rintro _ _ ⟨rfl, rfl⟩;exact ⟨μ', u', e2, e3, e4, rfl⟩
  ·rename_i hin;rw [if_neg hin];split at hne;rotate_left
   ·exact absurd rfl hne
   rename_i b off c voff m vcap _;split at hne;rotate_left
   ·exact absurd rfl hne
   rename_i k kc hk hkc;split at hne;rotate_left
   ·exact absurd rfl hne
   rename_i hcond;rw [if_pos hcond];obtain ⟨c1, c2, c3, c4, c5, c6, c7, c8, c9, c10, c11⟩ := hcond;obtain ⟨p, rfl⟩ := Int.eq_ofNat_of_zero_le c1;have hpn : p < n := by omega
   cases hs with
   | slice _ _ off' _ _ cap' M hM hl1 hc1 ho1 hx1 =>
   cases hv with
   | slice _ _ voff' _ _ vcap' Mc hMc hl2 hc2 ho2 hx2 =>
   have hm0 : 0 < q + 1 := by omega
   generalize q + 1 = m at *;have ho1 := ho1.resolve_left (by omega);have ho2 := ho2.resolve_left (by omega);subst ho1 ho2;obtain ⟨M', hM', bM⟩ := hH.blk b k hk;rw [hM] at hM'; injection hM' with hM'; subst hM';obtain ⟨Mc', hMc', bMc⟩ := hH.blk c kc hkc;rw [hMc] at hMc'; injection hMc' with hMc'; subst hMc';obtain ⟨CS, el, fz, g1, g2, g3, g4⟩ := bM.here;obtain ⟨VS, el2, fz2, f1, f2, f3, f4⟩ := bMc.here;have g2 := g2 c6;have f2 := f2 c10;subst g2 f2;have hesz : M.esz = inf.size := bM.esz.trans c7;have hext := bM.ext;have hext2 := bMc.ext;have hroomx : off + cap' * inf.size ≤ M.ext := by
    rcases hx1 with h | h | h
    ·rw [h]; omega
    ·rw [bM.ro, c6] at h; cases h
    ·rw [hesz] at h; exact h
   have hne2 : Mc.blk ≠ M.blk := hH.other hk hkc hM hMc c6 c9;have hnsz : n * inf.size ≤ cap * inf.size := Nat.mul_le_mul_right _ c3;have hps : p * inf.size ≤ n * inf.size := Nat.mul_le_mul_right _ (by omega);have kcut := VRs.cut (N := n * inf.size) (off := off) (base := M.base) g4 (by omega);have vcut := VRs.cut (N := m * inf.size) (off := voff) (base := Mc.base) f4 (by omega);have ko : Ones ((k.cells.drop off).take (n * inf.size)) := (bM.ones.drop _).take _;have vo : Ones ((kc.cells.drop voff).take (m * inf.size)) := (bMc.ones.drop _).take _;have ko' := kcut.ones ko;have vo' := vcut.ones vo;have kl : ((k.cells.drop off).take (n * inf.size)).length = n * inf.size := by rw [List.length_take, List.length_drop]; omega
   have vl : ((kc.cells.drop voff).take (m * inf.size)).length = m * inf.size := by rw [List.length_take, List.length_drop]; omega
   have kl' := kcut.1.symm.trans kl;have vl' := vcut.1.symm.trans vl;obtain ⟨cs, hcs⟩ : ∃ cs, cs = (CS.toList.drop (M.base + off)).take (n * inf.size) := ⟨_, rfl⟩
   obtain ⟨vs, hvs⟩ : ∃ vs, vs = (VS.toList.drop (Mc.base + voff)).take (m * inf.size) := ⟨_, rfl⟩
   rw [← hcs] at kcut ko' kl';rw [← hvs] at vcut vo' vl';have hd : HR w0 μ H w.drew := hH.drew rfl rfl rfl rfl;have e1 : (n + m) * inf.size = n * inf.size + m * inf.size := Nat.add_mul _ _ _;have e2 : (p + m) * inf.size = p * inf.size + m * inf.size := Nat.add_mul _ _ _;have hdl : (cs.drop (p * inf.size)).length = n * inf.size - p * inf.size := by rw [List.length_drop, kl']
   by_cases hroom : n + m ≤ cap'
   ·
    have hnm : (n + m) * inf.size ≤ cap' * inf.size := Nat.mul_le_mul_right _ hroom;refine (hW.shift M.blk (M.base + off) n cap' p Mc.blk (Mc.base + voff) m vc' CS VS el el2 cs vs w hpn (by omega) hroom c4 hne2 g1 f1 (by omega) (by omega) hcs hvs ko' vo').mono ?_;rintro _ _ ⟨rfl, rfl⟩;have hsr : (w.drew.setCells M.blk (M.base + off + (p + m) * inf.size) (cs.drop (p * inf.size))).setCells M.blk (M.base + off + p * inf.size) vs = w.drew.setRow M.blk (splice CS.toList (M.base + off + p * inf.size) (vs ++ cs.drop (p * inf.size))).toArray := by
     rw [setCells_row M.blk el (0, 0) _ _ CS w.drew g1 (by omega)];have hsl : (splice CS.toList (M.base + off + (p + m) * inf.size) (cs.drop (p * inf.size))).length = CS.size := by rw [splice_length _ _ _ (by rw [Array.length_toList (xs := CS)]; omega)]; simp
     rw [setCells_row M.blk el (0, 0) _ _ _ _ (setRow_heap w.drew M.blk CS _ el (0, 0) g1) (by rw [List.size_toArray, hsl]; omega), setRow_setRow];congr 2;rw [List.toList_toArray, ← splice_two CS.toList vs (cs.drop (p * inf.size)) (M.base + off + p * inf.size) (by rw [Array.length_toList (xs := CS)]; omega), vl', e2, Nat.add_assoc (M.base + off)]
    rw [hsr];obtain ⟨i1, i2⟩ := inplace_sim (size := inf.size) (off := off) (p := p * inf.size) hd hk hM c6 c7 g1 (by omega) (vcut.append (kcut.drop (p * inf.size))) (vo.append (ko.drop _)) (by rw [List.length_append, hdl, vl']; omega) g3;refine ⟨_, _, i1, ?_, ?_, rfl⟩
    ·rw [Int.toNat_natCast, List.take_take, Nat.min_eq_left hps];exact i2
    ·have := VR.slice (μ := μ.set H.n ⟨M.blk, M.base + off, M.ext - off, inf.size, false⟩) H.n 0 (M.base + off) (n + m) (n + m) cap' ⟨M.blk, M.base + off, M.ext - off, inf.size, false⟩ (by simp [Mu.set]) (Nat.le_refl _) hroom (.inr rfl) (.inr (.inr (by dsimp only; omega)));exact this
   ·obtain ⟨G, hG, hcall⟩ := hW.grow M.blk (M.base + off) n cap' p Mc.blk (Mc.base + voff) m vc' CS VS el el2 cs vs w hpn (by omega) hnc (by omega) c4 g1 f1 (by omega) (by omega) hcs hvs ko' vo';refine hcall.mono ?_;rintro _ _ ⟨rfl, rfl⟩;have hGs : (n + m) * inf.size ≤ G * inf.size := Nat.mul_le_mul_right _ hG;obtain ⟨ROW, hROW⟩ : ∃ ROW : Array Value, ROW = (cs.take (p * inf.size)).toArray ++ Builtin.zeroCells z.cells (n + m - p) ++ Builtin.zeroCells z.cells (G - (n + m)) := ⟨_, rfl⟩
    have hRl : ROW.size = G * inf.size := by
     rw [hROW];simp only [Array.size_append, List.size_toArray, size_zeroCells, hzs, Nat.sub_mul, Nat.add_mul, List.length_take, kl'];omega
    rw [← hROW];obtain ⟨FIN, hFIN⟩ : ∃ FIN : List Value, FIN = splice (splice ROW.toList (p * inf.size) vs) ((p + m) * inf.size) (cs.drop (p * inf.size)) := ⟨_, rfl⟩
    have hs1 : (splice ROW.toList (p * inf.size) vs).length = ROW.size := by rw [splice_length _ _ _ (by rw [Array.length_toList (xs := ROW)]; omega)]; simp
    have hFl : FIN.length = G * inf.size := by rw [hFIN, splice_length _ _ _ (by rw [hs1]; omega), hs1, hRl]
    have hN : (w.alloc (.cells ROW e)).drew.heap[w.heap.size]? = some (.cells ROW e (0, 0)) := heap_alloc_new' _ _;have hw : ((((w.alloc (.cells ROW e)).drew.setCells w.heap.size (p * inf.size) vs).drew).setCells w.heap.size ((p + m) * inf.size) (cs.drop (p * inf.size))) = ((w.alloc (.cells ROW e)).drew.setRow w.heap.size (splice ROW.toList (p * inf.size) vs).toArray).drew.setRow w.heap.size FIN.toArray := by
     rw [setCells_row w.heap.size e (0, 0) _ _ ROW _ hN (by omega)];have hN2 : ((w.alloc (.cells ROW e)).drew.setRow w.heap.size (splice ROW.toList (p * inf.size) vs).toArray).drew.heap[w.heap.size]? = some (.cells (splice ROW.toList (p * inf.size) vs).toArray e (0, 0)) := setRow_heap _ _ _ _ _ _ hN;rw [setCells_row w.heap.size e (0, 0) _ _ _ _ hN2 (by rw [List.size_toArray, hs1]; omega), hFIN]
    rw [hw];have hheap : (((w.alloc (.cells ROW e)).drew.setRow w.heap.size (splice ROW.toList (p * inf.size) vs).toArray).drew.setRow w.heap.size FIN.toArray).heap = (w.alloc (.cells FIN.toArray e)).heap := by
     have h1 : (((w.alloc (.cells ROW e)).drew.setRow w.heap.size (splice ROW.toList (p * inf.size) vs).toArray).drew.setRow w.heap.size FIN.toArray).heap = (((w.alloc (.cells ROW e)).setRow w.heap.size (splice ROW.toList (p * inf.size) vs).toArray).setRow w.heap.size FIN.toArray).heap := rfl;rw [h1, setRow_setRow];exact heap_setRow_new _ _ _ _
    have hkill := hH.kill hk;have hnew := kcut.take (p * inf.size);have hall : VRs μ (((k.cells.drop off).take (n * inf.size)).take (p * inf.size) ++ ((kc.cells.drop voff).take (m * inf.size) ++ ((k.cells.drop off).take (n * inf.size)).drop (p * inf.size))) (cs.take (p * inf.size) ++ (vs ++ cs.drop (p * inf.size))) := hnew.append (vcut.append (kcut.drop _))
    have hal := hkill.alloc (((k.cells.drop off).take (n * inf.size)).take (p * inf.size) ++ ((kc.cells.drop voff).take (m * inf.size) ++ ((k.cells.drop off).take (n * inf.size)).drop (p * inf.size))) FIN.toArray e inf.size (G * inf.size) (by rw [List.size_toArray, hFl]; exact Nat.le_refl _)
     (by
      simp only [List.length_append, List.length_take, List.length_drop];omega)
     ((ko.take _).append (vo.append (ko.drop _)))
     (fun j u hj => by
      obtain ⟨u', e', r⟩ := hall.get hj;refine ⟨u', ?_, r⟩;have hjl : j < (cs.take (p * inf.size) ++ (vs ++ cs.drop (p * inf.size))).length := (List.getElem?_eq_some_iff.1 e').1;simp only [List.length_append, List.length_take, kl', hdl, vl'] at hjl;have htl : (cs.take (p * inf.size)).length = p * inf.size := by rw [List.length_take, kl']; omega
      rw [List.getElem?_toArray, hFIN, splice_get _ _ _ (by rw [hs1]; omega), splice_get ROW.toList (p * inf.size) vs (by rw [Array.length_toList (xs := ROW)]; omega)];by_cases d1 : j < p * inf.size
      ·rw [List.getElem?_append_left (by omega)] at e';rw [if_pos (show j < (p + m) * inf.size by omega), if_pos d1, hROW];simp only [Array.getElem?_toList];rw [Array.append_assoc, Array.getElem?_append_left (by simp only [List.size_toArray]; omega)];simpa using e'
      ·rw [List.getElem?_append_right (by omega), htl] at e';by_cases d2 : j < (p + m) * inf.size
       ·rw [List.getElem?_append_left (by omega)] at e';rw [if_pos d2, if_neg d1, if_pos (by omega)];exact e'
       ·rw [List.getElem?_append_right (by omega), vl'] at e';rw [if_neg d2, if_pos (by omega), show j - (p + m) * inf.size = j - p * inf.size - m * inf.size by omega];exact e')
    have hn : (H.set b none).n = H.n := Heap.n_set _ _ _;rw [hn] at hal;refine ⟨μ.set H.n ⟨w.heap.size, 0, G * inf.size, inf.size, false⟩, _, Mu.le_set (μ := μ) hH.dom _, ?_, ?_, rfl⟩
    ·rw [Int.toNat_natCast];exact hal.drew hheap rfl rfl rfl
    ·exact VR.slice H.n 0 0 (n + m) (n + m) G ⟨w.heap.size, 0, G * inf.size, inf.size, false⟩ (by simp [Mu.set]) (Nat.le_refl _) hG (.inr rfl) (.inr (.inr (by dsimp only; omega)))
end Go.Sw
end
section
namespace Go.Sw
open Go.RowKit
theorem splice_nil (l : List Value) (o : Nat) : splice l o [] = l := by unfold splice; simp
theorem trim_sim {w0 : Base} {μ : Mu} {H : Heap} {w : World} (h : HR w0 μ H w) {b off n cap size : Nat} {k : Blk} {v' : Value} (hv : VR μ (.slice (some ⟨b, off, none⟩) n cap) v') (hk : H.get b = some k) (hro : k.ro = false) (hesz : k.esz = size) (h1 : n ≤ cap) (h2 : off + cap * size ≤ k.cells.length)
  (hset : ∀ (g : Nat) (cs : Array Value) (el : TypeId), w.heap[g]? = some (.cells cs el (0, 0)) → w.setRow g cs = w) :
  ∃ μ', μ.le μ' ∧ HR w0 μ' ((H.set b none).push ⟨(k.cells.drop off).take (n * size) ++ [], size, false⟩) w ∧ VR μ' (.slice (some ⟨H.n, 0, none⟩) n n) v' := by
 cases hv with
 | slice _ _ off' _ _ cap' M hM hl hc ho hx =>
 obtain ⟨M', hM', bM⟩ := h.blk b k hk;rw [hM] at hM'; injection hM' with hM'; subst hM';obtain ⟨CS, el, fz, g1, g2, g3, g4⟩ := bM.here;have g2 := g2 hro;subst g2;have hext := bM.ext;have hMe := bM.esz;have hMr := bM.ro;have hns : n * size ≤ cap * size := Nat.mul_le_mul_right _ h1;obtain ⟨i1, i2⟩ := inplace_sim (size := size) (off := off) (p := n * size) (new := []) (news := []) h hk hM hro hesz g1 (by omega) VRs.nil Ones.nil (by simp; omega) g3;rw [splice_nil] at i2;rw [show CS.toList.toArray = CS from rfl, hset _ _ _ g1] at i2;refine ⟨_, i1, i2, ?_⟩;refine VR.slice (μ := μ.set H.n ⟨M.blk, M.base + off, M.ext - off, size, false⟩) H.n 0 off' n n cap' ⟨M.blk, M.base + off, M.ext - off, size, false⟩ (by simp [Mu.set]) (Nat.le_refl _) (by omega) (ho.imp id fun h => by dsimp only; omega) ?_;rcases hx with hx | hx | hx
 ·refine .inr (.inr ?_);rw [hx];dsimp only;omega
 ·rw [hMr, hro] at hx; cases hx
 ·refine .inr (.inr ?_);rw [hMe, hesz] at hx;dsimp only;omega
theorem setRow_same (w : World) (g : Nat) (cs : Array Value) (el : TypeId) (h : w.heap[g]? = some (.cells cs el (0, 0))) : w.setRow g cs = w := by
 have hg : g < w.heap.size := by
  rcases Nat.lt_or_ge g w.heap.size with hlt | hge
  ·exact hlt
  ·rw [Array.getElem?_eq_none hge] at h; cases h
 have hh : (w.setRow g cs).heap = w.heap := by
  apply Array.ext_getElem?;intro i;by_cases hi : i = g
  ·subst hi;rw [setRow_heap w i cs cs el (0, 0) h, h]
  ·exact setRow_other w g i cs hi
 have hw : w.setRow g cs = { w with heap := (w.setRow g cs).heap } := rfl;rw [hw, hh]
theorem trim_is {c : Cfg} (hit : ∀ v, c.it v = none := by intro _; rfl) (hN : NamesOk c.P) (hmix : c.P.follows .mixedOrders = true) {f : FuncId} {size : Nat} : SpIs c.P f fun call args H => (bodyK c call f args H).bind (trimR size) := by
 intro call hc args H hne;have hne1 : bodyK c call f args H ≠ .stuck := Res.bind_ne hne;obtain ⟨b1, b2⟩ := body_is hit hN hmix hc (f := f) (args := args) (H := H) rfl hne1;refine ⟨b1, fun w0 μ w args' hH hargs => (b2 w0 μ w args' hH hargs).mono fun e w' he => ?_⟩;dsimp only at hne ⊢;cases hr : bodyK c call f args H with
 | stuck => exact absurd hr hne1
 | panic v H' => rw [hr] at he; exact he
 | ok v H' =>
  rw [hr] at he hne;obtain ⟨μ', v', l1, h1, h2, rfl⟩ := he;have hne : trimR size v H' ≠ .stuck := hne;show Ended w0 μ (trimR size v H') _ w';unfold trimR at hne ⊢;split at hne
  ·rename_i b off n cap _;split at hne
   ·rename_i k hk;split
    ·rename_i hcond;obtain ⟨c1, c2, c3, c4⟩ := hcond;obtain ⟨μ2, l2, h3, h4⟩ := trim_sim h1 h2 hk c1 c2 c3 c4 (fun g cs el hg => setRow_same _ g cs el hg);exact ⟨μ2, v', Mu.le_trans l1 l2, h3, h4, rfl⟩
    ·rename_i hcond;exact absurd (by split <;> first | rfl | contradiction) hne
   ·exact absurd rfl hne
  ·exact ⟨μ', v', l1, h1, h2, rfl⟩
end Go.Sw
end
section
namespace Go.Sw
open Go.RowKit
def cleanG (l : List Gl) : List Gl := l.filter fun g => decide (g.id ≠ 65535)
theorem cleanG_app (a b : List Gl) : cleanG (a ++ b) = cleanG a ++ cleanG b := List.filter_append ..
theorem cleanG_all {l : List Gl} (h : ∀ g, g ∈ l → g.id ≠ 65535) : cleanG l = l := List.filter_eq_self.2 fun g hg => decide_eq_true (h g hg)
theorem cleanG_len (l : List Gl) : (cleanG l).length ≤ l.length := List.length_filter_le _ _
abbrev delV : Value := .func (.func F.line_Line_Clean_in1) #[] #[]
theorem del1_run (k : Nat) (g : Gl) (H : Heap) : R (T k) F.line_Line_Clean_in1 [.agg (encG g).toArray] H = .ok (.bool (decide (g.id = 65535))) (H.push ⟨encG g, 1, false⟩) := by
 rw [line_Line_Clean_in1_R];refine nrm_of ?_;simp -implicitDefEqProofs [line_Line_Clean_in1];rfl
theorem IndexG_run (k : Nat) {H : Heap} {o : Option Nat} {s : Value} {l : List Gl} (h : OwnO H o 2 s encG l) (hl : l.length < 2 ^ 31) :
  ∃ H', Ext H H' ∧ ((R (T k) F.slices_IndexFunc_of_api_Glyph_api_Glyph [s, delV] H = .ok (.int .i64 (-1)) H' ∧ ∀ g, g ∈ l → g.id ≠ 65535) ∨
   ∃ j g, R (T k) F.slices_IndexFunc_of_api_Glyph_api_Glyph [s, delV] H = .ok (.int .i64 (j : Nat)) H' ∧ l[j]? = some g ∧ g.id = 65535 ∧ ∀ g, g ∈ l.take j → g.id ≠ 65535) := by
 rw [slices_IndexFunc_of_api_Glyph_api_Glyph_R];have hlen := h.len
 obtain ⟨x, e', H1, hr, hx, hq⟩ := loop_up (body := slices_IndexFunc_of_api_Glyph_api_Glyph_l1 k (R (T k))) l.length
  (fun j e H' => e = [(0, s), (1, delV), (7, .int .i64 l.length), (8, .int .i64 j)] ∧ Ext H H' ∧ ∀ g, g ∈ l.take j → g.id ≠ 65535)
  (fun x e H' => Ext H H' ∧ ((x = .exit 0 ∧ e = [(0, s), (1, delV), (7, .int .i64 l.length), (8, .int .i64 l.length), (9, .bool false)] ∧ ∀ g, g ∈ l → g.id ≠ 65535) ∨
   (x = .ret ∧ ∃ j g, e = [(4, .int .i64 (j : Nat))] ∧ l[j]? = some g ∧ g.id = 65535 ∧ ∀ g, g ∈ l.take j → g.id ≠ 65535)))
  (e0 := [(0, s), (1, delV), (7, .int .i64 l.length), (8, .int .i64 0)]) (H0 := H) ⟨rfl, Ext.refl H, by simp⟩ (by omega)
  (fun j e H' hj ⟨he, hx, ha⟩ => by
   subst he;have hlt : (j : Int) < l.length := by omega
   obtain ⟨g, hg⟩ : ∃ g, l[j]? = some g := ⟨_, List.getElem?_eq_getElem hj⟩
   obtain ⟨b, _, hs, hb, i1⟩ := h.ix .i64 j hj;have l1 := ldA_row encG_len (hx.get hb) hg;have hcv : ∀ H2, callV (R (T k)) delV [.agg (encG g).toArray] H2 = .ok (.bool (decide (g.id = 65535))) (H2.push ⟨encG g, 1, false⟩) := fun H2 => del1_run k g H2;by_cases hd : g.id = 65535
   ·refine .inr ⟨.ret, _, H'.push ⟨encG g, 1, false⟩, ?_, by simp, hx.push _, .inr ⟨rfl, j, g, rfl, hg, hd, ha⟩⟩;rw [decide_eq_true hd] at hcv;rw [slices_IndexFunc_of_api_Glyph_api_Glyph_l1_eq];simp -implicitDefEqProofs (disch := omega) [-ldA_ptr, hlt, i1, l1, hcv]
   ·refine .inl ⟨_, H'.push ⟨encG g, 1, false⟩, ?_, rfl, hx.push _, ?_⟩
    ·rw [decide_eq_false hd] at hcv;rw [slices_IndexFunc_of_api_Glyph_api_Glyph_l1_eq];simp -implicitDefEqProofs (disch := omega) [-ldA_ptr, hlt, i1, l1, hcv]
    ·rw [take_snoc hg];intro z hz;rcases List.mem_append.1 hz with hz | hz
     ·exact ha z hz
     ·rw [List.mem_singleton.1 hz]; exact hd)
  (fun e H' ⟨he, hx, ha⟩ => by
   subst he;refine ⟨.exit 0, _, H', ?_, by simp, hx, .inl ⟨rfl, rfl, by rwa [List.take_length] at ha⟩⟩;rw [slices_IndexFunc_of_api_Glyph_api_Glyph_l1_eq];simp -implicitDefEqProofs)
 refine ⟨H1, hx, ?_⟩;rcases hq with ⟨rfl, rfl, ha⟩ | ⟨rfl, j, g, rfl, hg, hd, ha⟩
 ·refine .inl ⟨nrm_of ?_, ha⟩;simp -implicitDefEqProofs [slices_IndexFunc_of_api_Glyph_api_Glyph, hlen, hr, slices_IndexFunc_of_api_Glyph_api_Glyph_l1k_x0]
 ·refine .inr ⟨j, g, nrm_of ?_, hg, hd, ha⟩;simp -implicitDefEqProofs [slices_IndexFunc_of_api_Glyph_api_Glyph, hlen, hr, slices_IndexFunc_of_api_Glyph_api_Glyph_l1k_r]
theorem trimR_own {H : Heap} {b p n : Nat} {cells : List Value} {l : List Gl} (hb : H.get b = some ⟨cells, 2, false⟩) (hp : p ≤ n) (hn : n * 2 ≤ cells.length) (hl : cells.take (p * 2) = rows encG l) (hpl : l.length = p) :
  trimR 2 (.slice (some ⟨b, 0, none⟩) p n) H = .ok (.slice (some ⟨H.n, 0, none⟩) p p) ((H.set b none).push ⟨rows encG l, 2, false⟩) ∧ OwnO ((H.set b none).push ⟨rows encG l, 2, false⟩) (some H.n) 2 (.slice (some ⟨H.n, 0, none⟩) p p) encG l := by
 constructor
 ·unfold trimR;dsimp only;rw [hb];dsimp only;rw [if_pos ⟨rfl, rfl, hp, by omega⟩, List.drop_zero, hl, List.append_nil]
 ·exact .inr ⟨H.n, rfl, by rw [hpl], get_push_eq _ _ _ (by simp)⟩
theorem clR_tail {H : Heap} {b p n : Nat} {r : List Gl} (hb : H.get b = some ⟨rows encG r, 2, false⟩) (hp : p < n) (hn : r.length = n) :
  ∃ H' cells, clR [.int .i64 0, .int .i64 0] (.slice (some ⟨b, p * 2, none⟩) (n - p) (n - p)) H = .ok undef H' ∧ H'.get b = some ⟨cells, 2, false⟩ ∧ cells.length = n * 2 ∧ cells.take (p * 2) = rows encG (r.take p) ∧ H'.n = H.n ∧ ∀ c, c ≠ b → H'.get c = H.get c := by
 have hrl : (rows encG r).length = n * 2 := by rw [rows_length encG_len, hn]
 have hz : ∀ m, (repeatCells [Value.int .i64 0, Value.int .i64 0] m).length = m * 2 := fun m => by
  induction m with
  | zero => rfl
  | succ m ih => rw [repeatCells, List.length_append, ih]; simp; omega
 have hle : p * 2 + (repeatCells [Value.int .i64 0, Value.int .i64 0] (n - p)).length ≤ (rows encG r).length := by rw [hz, hrl]; omega
 refine ⟨H.set b (some ⟨splice (rows encG r) (p * 2) (repeatCells [Value.int .i64 0, Value.int .i64 0] (n - p)), 2, false⟩), _, ?_, get_set_eq2 hb, ?_, ?_, Heap.n_set _ _ _, fun c hc => get_set_ne _ _ _ _ hc⟩
 ·unfold clR;dsimp only;rw [if_neg (by omega), put_eq, hb];simp only [hle, true_and, if_true];rfl
 ·unfold splice;rw [List.length_append, List.length_append, List.length_take, List.length_drop, hz, hrl];omega
 ·unfold splice;rw [List.take_append_of_le_length (by rw [List.length_take, hrl]; omega), List.take_take, Nat.min_self, rows_take encG_len]
where
 get_set_eq2 {H : Heap} {b : Nat} {k x : Blk} (hb : H.get b = some k) : (H.set b (some x)).get b = some x := by rw [Heap.get_set hb, if_pos rfl]
theorem List.take_set_succ' {α : Type} {r : List α} {p : Nat} (g : α) (h : p < r.length) : (r.set p g).take (p + 1) = r.take p ++ [g] := by
 rw [take_snoc (p := g) (List.getElem?_set_self h), List.take_set_of_le (Nat.le_refl _)]
set_option maxHeartbeats 1000000 in
theorem DeleteG_run (k : Nat) {H : Heap} {o : Option Nat} {s : Value} {l : List Gl} (h : OwnO H o 2 s encG l) (hl : l.length < 2 ^ 31) :
  ∃ s' o' H', R (T k) F.slices_DeleteFunc_of_api_Glyph_api_Glyph [s, delV] H = .ok s' H' ∧ OwnO H' o' 2 s' encG (cleanG l) ∧ H.n ≤ H'.n ∧ (∀ c, c < H.n → o ≠ some c → H'.get c = H.get c) ∧ ∀ b, o' = some b → H.n ≤ b ∧ b < H'.n := by
 have hR : ∀ {v : Value} {H1 H2 : Heap} {s' : Value}, slices_DeleteFunc_of_api_Glyph_api_Glyph k (R (T k)) s delV H = .ok v H1 → trimR 2 v H1 = .ok s' H2 → R (T k) F.slices_DeleteFunc_of_api_Glyph_api_Glyph [s, delV] H = .ok s' H2 := fun {v H1 H2 s'} e1 e2 =>
  (R_sp (t := T k) (T_scott k) (s := fun call args H => (bodyK { P := Prog, kp := kpS, sp := fun _ => none } call F.slices_DeleteFunc_of_api_Glyph_api_Glyph args H).bind (trimR 2)) (by kernel_rfl) [s, delV] H).trans (by
   show nrm (mdS k F.slices_DeleteFunc_of_api_Glyph_api_Glyph) H _ = _;rw [show mdS k F.slices_DeleteFunc_of_api_Glyph_api_Glyph = .no from by kernel_rfl];refine nrm_of ?_;show (bodyK { P := Prog, kp := kpS, sp := fun _ => none } (R (T k)) F.slices_DeleteFunc_of_api_Glyph_api_Glyph [s, delV] H).bind (trimR 2) = _;rw [slices_DeleteFunc_of_api_Glyph_api_Glyph_body, e1];exact e2)
 obtain ⟨H1, x1, hi⟩ := IndexG_run k h hl;have h1 : OwnO H1 o 2 s encG l := h.up fun b hb => by rw [x1.2 b (h.lt b hb) (by simp)]
 have keep1 : ∀ c, c < H.n → H1.get c = H.get c := fun c hc => x1.2 c hc (by simp);rcases hi with ⟨e1, ha⟩ | ⟨j0, g0, e1, hg0, hd0, ha⟩
 ·rw [cleanG_all ha];have e2 : slices_DeleteFunc_of_api_Glyph_api_Glyph k (R (T k)) s delV H = .ok s H1 := by
   simp -implicitDefEqProofs [slices_DeleteFunc_of_api_Glyph_api_Glyph, e1]
  rcases h1 with ⟨rfl, rfl, hs⟩ | ⟨b, rfl, rfl, hb⟩
  ·refine ⟨s, none, H1, hR e2 ?_, .inl ⟨rfl, rfl, hs⟩, x1.1, fun c hc _ => keep1 c hc, fun b hb => by cases hb⟩;rcases hs with rfl | rfl | rfl <;> rfl
  ·have hrl := rows_length encG_len l;obtain ⟨t1, t2⟩ := trimR_own (p := l.length) (n := l.length) (l := l) hb (Nat.le_refl _) (by omega) (List.take_of_length_le (by omega)) rfl;refine ⟨_, _, _, hR e2 t1, t2, by simp; have := x1.1; omega, fun c hc hne => ?_, fun c hc => by injection hc with hc; subst hc; simp; exact x1.1⟩;rw [get_push_lt _ _ _ (by simp; have := x1.1; omega), get_set_ne _ _ _ _ (fun e => hne (by rw [e]))];exact keep1 c hc
 ·have hj0 := (List.getElem?_eq_some_iff.1 hg0).1;obtain ⟨b, rfl, rfl, hb⟩ := h1.full (fun e => by subst e; simp at hj0);have hbn : b < H.n := h.lt b rfl;have hx1 := x1.1;have c0 : cleanG (l.take (j0 + 1)) = l.take j0 := by
   rw [take_snoc hg0, cleanG_app, cleanG_all ha];unfold cleanG;simp [hd0]
  have e3 := fun (H' : Heap) (i : Nat) (hi : i < l.length) => ixS_slice 2 b 0 l.length l.length .i64 i H' hi
  obtain ⟨x, e', H2, hr, rfl, p, v, rfl, r, hp, hrl, hrt, hrb, hn2, hk2⟩ := loop_up (body := slices_DeleteFunc_of_api_Glyph_api_Glyph_l1 k (R (T k))) (l.length - (j0 + 1))
   (fun t e H' => ∃ p, e = [(0, .slice (some ⟨b, 0, none⟩) l.length l.length), (1, delV), (5, .int .i64 (p : Nat)), (6, .int .i64 (j0 + 1 + t : Nat))] ∧ ∃ r : List Gl, p < j0 + 1 + t ∧ r.length = l.length ∧ r.take p = cleanG (l.take (j0 + 1 + t)) ∧ r.drop (j0 + 1 + t) = l.drop (j0 + 1 + t) ∧ H'.get b = some ⟨rows encG r, 2, false⟩ ∧ H1.n ≤ H'.n ∧ ∀ c, c < H1.n → c ≠ b → H'.get c = H1.get c)
   (fun x e H' => x = .exit 0 ∧ ∃ (p : Nat) (v : Value), e = [(0, .slice (some ⟨b, 0, none⟩) l.length l.length), (1, delV), (5, .int .i64 (p : Nat)), (6, v), (19, .bool false)] ∧ ∃ r : List Gl, p < l.length ∧ r.length = l.length ∧ r.take p = cleanG l ∧ H'.get b = some ⟨rows encG r, 2, false⟩ ∧ H1.n ≤ H'.n ∧ ∀ c, c < H1.n → c ≠ b → H'.get c = H1.get c)
   (e0 := [(0, .slice (some ⟨b, 0, none⟩) l.length l.length), (1, delV), (5, .int .i64 (j0 : Nat)), (6, .int .i64 (j0 + 1 : Nat))]) (H0 := H1)
   ⟨j0, rfl, l, by omega, rfl, by rw [Nat.add_zero, c0], rfl, hb, Nat.le_refl _, fun _ _ _ => rfl⟩ (by omega)
   (fun t e H' ht ⟨p, he, r, hp, hrl, hrt, hrd, hrb, hn', hk'⟩ => by
    subst he;have hjl : j0 + 1 + t < l.length := by omega
    obtain ⟨jj, hjj⟩ : ∃ jj, jj = j0 + 1 + t := ⟨_, rfl⟩
    rw [← hjj] at hp hrt hrd hjl ⊢;have hlt : (jj : Int) < l.length := by omega
    obtain ⟨g, hg⟩ : ∃ g, l[jj]? = some g := ⟨_, List.getElem?_eq_getElem hjl⟩
    have hgr : r[jj]? = some g := by
     have h2 : (r.drop jj)[0]? = (l.drop jj)[0]? := by rw [hrd]
     rw [List.getElem?_drop, List.getElem?_drop, Nat.add_zero, hg] at h2;exact h2
    have i1 := fun H' => e3 H' jj hjl;rw [show 0 + jj * 2 = jj * 2 by omega] at i1;have l1 := ldA_row encG_len hrb hgr;have hbn' : ¬ b = H'.n := by have := x1.1; omega
    have hcv : ∀ H2, callV (R (T k)) delV [.agg (encG g).toArray] H2 = .ok (.bool (decide (g.id = 65535))) (H2.push ⟨encG g, 1, false⟩) := fun H2 => del1_run k g H2;have hne1 : ¬ H'.n = H'.n + 1 := by omega
    have l2 : ldA 2 (.pointer (some ⟨H'.n, 0, none⟩)) (H'.push ⟨encG g, 1, false⟩) = .ok (.agg (encG g).toArray) (H'.push ⟨encG g, 1, false⟩) := by simp
    have l3 : ldA 2 (.pointer (some ⟨H'.n, 0, none⟩)) ((H'.push ⟨encG g, 1, false⟩).push ⟨encG g, 1, false⟩) = .ok (.agg (encG g).toArray) ((H'.push ⟨encG g, 1, false⟩).push ⟨encG g, 1, false⟩) := by simp [hne1]
    have s0 : stR 2 (.pointer (some ⟨H'.n, 0, none⟩)) (.agg (encG g).toArray) (H'.push ⟨[.int .i64 0, .int .i64 0], 1, false⟩) = .ok undef (H'.push ⟨encG g, 1, false⟩) := by simp
    have hj2 : (jj : Int) + 1 = ((jj + 1 : Nat) : Int) := by omega
    have hjt : j0 + 1 + (t + 1) = jj + 1 := by omega
    by_cases hd : g.id = 65535
    ·rw [decide_eq_true hd] at hcv;refine .inl ⟨_, (H'.push ⟨encG g, 1, false⟩).push ⟨encG g, 1, false⟩, ?_, p, rfl, r, by omega, hrl, ?_, ?_, by rw [get_push_ne _ _ _ (by simp; omega), get_push_ne _ _ _ hbn']; exact hrb, by simp; omega, fun c hc hcb => by rw [get_push_lt _ _ _ (by simp; omega), get_push_lt _ _ _ (by omega)]; exact hk' c hc hcb⟩
     ·rw [slices_DeleteFunc_of_api_Glyph_api_Glyph_l1_eq];rw [hjt];simp -implicitDefEqProofs (disch := omega) [-ldA_ptr, hlt, i1, l1, hcv, l2, s0, -stR_ptr, slices_DeleteFunc_of_api_Glyph_api_Glyph_j2_eq]
     ·rw [hjt, hrt, take_snoc hg, cleanG_app];unfold cleanG;simp [hd]
     ·rw [hjt, ← List.drop_drop, hrd, List.drop_drop]
    ·rw [decide_eq_false hd] at hcv;obtain ⟨q, hq⟩ : ∃ q, r[p]? = some q := ⟨_, List.getElem?_eq_getElem (by omega)⟩
     have hrb2 : ((H'.push ⟨encG g, 1, false⟩).push ⟨encG g, 1, false⟩).get b = some ⟨rows encG r, 2, false⟩ := by
      rw [get_push_ne _ _ _ (by simp; omega), get_push_ne _ _ _ hbn']; exact hrb
     obtain ⟨H3, s1, s2, s3, s4⟩ := st_row encG_len hrb2 (c := 0) (n := 2) g (v := .agg (encG g).toArray) hq rfl rfl (by decide) (by simp [splice, Value.cells]);have i2 := fun H' => e3 H' p (by omega);rw [show 0 + p * 2 = p * 2 by omega] at i2;rw [Nat.add_zero] at s1;refine .inl ⟨_, H3, ?_, p + 1, rfl, r.set p g, by omega, by rw [List.length_set]; exact hrl, ?_, ?_, s2, by rw [s4]; simp; omega, fun c hc hcb => ?_⟩
     ·rw [slices_DeleteFunc_of_api_Glyph_api_Glyph_l1_eq];rw [hjt];simp -implicitDefEqProofs (disch := omega) [-ldA_ptr, -stR_ptr, hlt, i1, l1, hcv, l2, l3, s0, i2, s1, slices_DeleteFunc_of_api_Glyph_api_Glyph_j1_eq]
     ·rw [hjt, take_snoc hg, cleanG_app, ← hrt];unfold cleanG;simp only [ne_eq, hd, not_false_eq_true, decide_true, List.filter_cons_of_pos, List.filter_nil];rw [List.take_set_succ' g (by omega)]
     ·rw [hjt, List.drop_set_of_lt (by omega), ← List.drop_drop, hrd, List.drop_drop]
     ·rw [s3 c hcb, get_push_lt _ _ _ (by simp; omega), get_push_lt _ _ _ (by omega)];exact hk' c hc hcb)
   (fun e H' ⟨p, he, r, hp, hrl, hrt, hrd, hrb, hn', hk'⟩ => by
    subst he;have hjl : j0 + 1 + (l.length - (j0 + 1)) = l.length := by omega
    rw [hjl] at hp hrt ⊢;rw [List.take_length] at hrt;refine ⟨.exit 0, [(0, .slice (some ⟨b, 0, none⟩) l.length l.length), (1, delV), (5, .int .i64 (p : Nat)), (6, .int .i64 l.length), (19, .bool false)], H', ?_, by simp, rfl, p, .int .i64 l.length, rfl, r, hp, hrl, hrt, hrb, hn', hk'⟩;rw [slices_DeleteFunc_of_api_Glyph_api_Glyph_l1_eq];simp -implicitDefEqProofs)
  have hpl : (cleanG l).length = p := by rw [← hrt, List.length_take]; omega
  obtain ⟨H3, cells, c1, c2, c3, c4, c5, c6⟩ := clR_tail hrb hp hrl;rw [hrt] at c4;obtain ⟨t1, t2⟩ := trimR_own (p := p) (n := l.length) c2 (by omega) (by omega) c4 hpl;have sl1 : slS 2 (.slice (some ⟨b, 0, none⟩) l.length l.length) (some (.int .i64 (p : Nat))) none none H2 = .ok (.slice (some ⟨b, p * 2, none⟩) (l.length - p) (l.length - p)) H2 := by
   unfold slS openOk;simp [boundOf, hrb];omega
  have sl2 : slS 2 (.slice (some ⟨b, 0, none⟩) l.length l.length) none (some (.int .i64 (p : Nat))) none H3 = .ok (.slice (some ⟨b, 0, none⟩) p l.length) H3 := by
   unfold slS openOk;simp [boundOf, c2];omega
  have e2 : slices_DeleteFunc_of_api_Glyph_api_Glyph k (R (T k)) (.slice (some ⟨b, 0, none⟩) l.length l.length) delV H = .ok (.slice (some ⟨b, 0, none⟩) p l.length) H3 := by
   have hne : ((j0 : Int) == -1) = false := by simp
   have hr' := hr;rw [show ((j0 + 1 : Nat) : Int) = (j0 : Int) + 1 by omega] at hr';simp -implicitDefEqProofs (disch := omega) [slices_DeleteFunc_of_api_Glyph_api_Glyph, e1, hne, hr', slices_DeleteFunc_of_api_Glyph_api_Glyph_l1k_x0, sl1, c1, sl2]
  refine ⟨_, _, _, hR e2 t1, t2, by simp; omega, fun c hc hne => ?_, fun c hc => by injection hc with hc; subst hc; simp; omega⟩;have hcb : c ≠ b := fun e => hne (by rw [e]);rw [get_push_lt _ _ _ (by simp; omega), get_set_ne _ _ _ _ hcb, c6 c hcb, hk2 c (by omega) hcb];exact keep1 c hc
theorem lineClean_star (k : Nat) {H0 H : Heap} {L : List It} (h : Star H0 H L) (i : Nat) {c : Nat} {o : Option Nat} {l : List Gl} (hi : L[i]? = some (itLine c o l)) (hl : l.length < 2 ^ 31) :
  ∃ o' H', R (T k) F.line_Line_Clean [ptrV c] H = .ok (.tuple #[]) H' ∧ Star H0 H' (L.set i (itLine c o' (cleanG l))) := by
 obtain ⟨hne, s, h1, h2⟩ := h.box i hi;have hcn := Heap.get_lt h1;obtain ⟨s', o', H1, e1, e2, e3, e4, e5⟩ := DeleteG_run k h2 hl;have h1' : H1.get c = some ⟨[] ++ [s], 1, false⟩ := by rw [e4 c hcn hne]; exact h1
 have hoc : o' ≠ some c := fun e => by have := (e5 c e).1; omega
 have ok2 : OwnO (H1.set c (some ⟨[s'], 1, false⟩)) o' 2 s' encG (cleanG l) := e2.up fun b hb => get_set_ne _ _ _ _ fun e => hoc (by rw [← e]; exact hb);have st := e2.storable;have ce := e2.cells;refine ⟨o', H1.set c (some ⟨[s'], 1, false⟩), ?_, h.step i hi (by simpa using e3) (fun d hd hdx => ?_) _ ⟨hoc, s', by rw [Heap.get_set h1', if_pos rfl]; rfl, ok2⟩ fun b hb => ?_⟩
 ·simp at h1 h1';rw [line_Line_Clean_R];refine nrm_of ?_;simp -implicitDefEqProofs [line_Line_Clean, h1, e1, h1', st, ce]
 ·have hdc : d ≠ c := fun e => hdx (by rw [e]; exact List.mem_cons_self ..);rw [get_set_ne _ _ _ _ hdc];exact e4 d hd fun e => hdx (List.mem_cons_of_mem _ (Option.mem_toList.2 e))
 ·rcases List.mem_cons.1 hb with rfl | hb
  ·exact .inl (List.mem_cons_self ..)
  ·have := e5 b (Option.mem_toList.1 hb);exact .inr ⟨this.1, by simpa using this.2⟩
end Go.Sw
end
section
namespace Go.Sw
open Go.RowKit
theorem cleanG_ins (l : List Gl) (i : Int) (n : Nat) : cleanG (insertG l i (List.replicate n 65535)) = cleanG l := by
 unfold insertG;split
 ·rename_i h;have h2 : ∀ (c : Int) (m : Nat), cleanG ((List.replicate m (65535 : Int)).map fun x => (⟨x, c⟩ : Gl)) = [] := fun c m => by
   unfold cleanG;rw [List.filter_eq_nil_iff];intro g hg;obtain ⟨x, hx, rfl⟩ := List.mem_map.1 hg;have := List.eq_of_mem_replicate hx;simp [this]
  rw [cleanG_app, cleanG_app, h2, List.nil_append, ← cleanG_app, List.take_append_drop]
 ·rfl
set_option maxHeartbeats 2000000 in
theorem LineTwice_run (l : List Gl) (i : Int) (ids : List Int) : R (T F.swashlaw11_speaks) F.swashlaw11_LineTwice [lv encG l, .int .i64 i, lv encI ids] Heap.empty = .ok (.bool true) Heap.empty := by
 generalize hk : F.swashlaw11_speaks = k;have hs := speaks11_run k (by subst hk; rfl);have hk6 : k < 1000000 := by subst hk; decide
 clear hk;rw [swashlaw11_LineTwice_R];generalize Heap.empty = H;by_cases hl : l.length > 60
 ·have hl' : (l.length : Int) > 60 := by omega
  refine nrm_gc ⟨_, ?_, Ext.refl H⟩ (.bool _);simp -implicitDefEqProofs (disch := omega) [swashlaw11_LineTwice, hs, hl']
 have hl' : ¬ (l.length : Int) > 60 := by omega
 by_cases hd : ids.length > 40
 ·have hd' : (ids.length : Int) > 40 := by omega
  refine nrm_gc ⟨_, ?_, Ext.refl H⟩ (.bool _);simp -implicitDefEqProofs (disch := omega) [swashlaw11_LineTwice, hs, hl', hd']
 have hd' : ¬ (ids.length : Int) > 40 := by omega
 obtain ⟨c, o1, H1, e1, g⟩ := lineOf_star k (Star.nil H) (Sl.lv H 2 l) (by omega);simp only [List.nil_append] at g;obtain ⟨H2, e2, g⟩ := lineTurn_star k g 0 rfl (by omega);simp only [List.set_cons_zero] at g;obtain ⟨H3, e3, g⟩ := lineTurn_star k g 0 rfl (by simp; omega);simp only [List.set_cons_zero, List.reverse_reverse] at g;have gl := lineGlyphs_run k hk6 g 0 rfl (by omega);have hsame := fun H' => Same_run k (Rd.lv encG_len H' l) (Rd.lv encG_len H' l) (by omega) (by omega);simp only [decide_true] at hsame;have g := g.more_row (Ext.refl _) (OwnO.nil encI _ 1) (fun b hb => by cases hb);simp only [List.cons_append, List.nil_append] at g
 obtain ⟨x, e', H4, hr, rfl, s, o2, rfl, g⟩ := loop_up (body := swashlaw11_LineTwice_l1 k (R (T k))) ids.length
  (fun j e H' => ∃ s o2, e = [(0, lv encG l), (1, .int .i64 i), (7, ptrV c), (8, s), (33, .int .i64 ids.length), (34, .int .i64 j)] ∧ Star H H' [itLine c o1 l, itRow o2 1 s encI (List.replicate j 65535)])
  (fun x e H' => x = .exit 0 ∧ ∃ s o2, e = [(0, lv encG l), (1, .int .i64 i), (7, ptrV c), (8, s), (33, .int .i64 ids.length), (34, .int .i64 ids.length), (35, .bool false)] ∧ Star H H' [itLine c o1 l, itRow o2 1 s encI (List.replicate ids.length 65535)])
  (e0 := [(0, lv encG l), (1, .int .i64 i), (7, ptrV c), (8, .slice none 0 0), (33, .int .i64 ids.length), (34, .int .i64 0)]) (H0 := H3) ⟨_, none, rfl, by simpa using g⟩ (by omega)
  (fun j e H' hj ⟨s, o2, he, g⟩ => by
   subst he;have hlt : (j : Int) < ids.length := by omega
   obtain ⟨s2, o3, H5, e5, g5⟩ := g.append1 (bytes := 8) 1 encI_len rfl (65535 : Int) (by rw [List.length_replicate]; omega) (by decide);simp only [List.set_cons_zero, List.set_cons_succ] at g5;rw [← List.replicate_succ'] at g5;refine .inl ⟨_, H5, ?_, s2, o3, rfl, g5⟩;rw [swashlaw11_LineTwice_l1_eq];simp -implicitDefEqProofs (disch := omega) [hlt, e5])
  (fun e H' ⟨s, o2, he, g⟩ => by
   subst he;refine ⟨.exit 0, _, H', ?_, by simp, rfl, s, o2, rfl, g⟩;rw [swashlaw11_LineTwice_l1_eq];simp -implicitDefEqProofs)
 obtain ⟨c2, o3, H5, e5, g⟩ := lineOf_star k g (Sl.lv H4 2 l) (by omega);simp only [List.cons_append, List.nil_append] at g;obtain ⟨o4, H6, e6, g⟩ := lineClean_star k g 2 rfl (by omega);simp only [List.set_cons_zero, List.set_cons_succ] at g;have hcl := cleanG_len l;have gl2 := lineGlyphs_run k hk6 g 2 rfl (by omega);obtain ⟨o5, H7, e7, g⟩ := lineInsert_starG k g 0 rfl i (fun _ _ g => (g.row 1 rfl).sl encI_len) (by simp; omega);simp only [List.set_cons_zero] at g;have hil : (insertG l i (List.replicate ids.length 65535)).length ≤ 100 := by
  unfold insertG;split
  ·simp; omega
  ·omega
 obtain ⟨o6, H8, e8, g⟩ := lineClean_star k g 0 rfl (by omega);simp only [List.set_cons_zero, cleanG_ins] at g;have gl3 := lineGlyphs_run k hk6 g 0 rfl (by omega);have hsame2 := Same_run k (Rd.lv encG_len H8 (cleanG l)) (Rd.lv encG_len H8 (cleanG l)) (by omega) (by omega);rw [decide_eq_true rfl] at hsame2;refine nrm_gc ⟨H8, ?_, g.ext⟩ (.bool _);by_cases d1 : i ≥ 0
 ·by_cases d2 : i ≤ l.length
  ·rw [decide_eq_true ⟨d1, d2⟩] at e7;simp -implicitDefEqProofs (disch := omega) [swashlaw11_LineTwice, hs, hl', hd', e1, e2, e3, gl, hsame, hr, swashlaw11_LineTwice_l1k_x0, e5, e6, gl2, e7, d1, d2, e8, gl3, hsame2]
  ·rw [decide_eq_false (fun h => d2 h.2)] at e7;simp -implicitDefEqProofs (disch := omega) [swashlaw11_LineTwice, hs, hl', hd', e1, e2, e3, gl, hsame, hr, swashlaw11_LineTwice_l1k_x0, e5, e6, gl2, e7, d1, d2, e8, gl3, hsame2]
 ·rw [decide_eq_false (fun h => d1 h.1)] at e7;simp -implicitDefEqProofs (disch := omega) [swashlaw11_LineTwice, hs, hl', hd', e1, e2, e3, gl, hsame, hr, swashlaw11_LineTwice_l1k_x0, e5, e6, gl2, e7, d1, e8, gl3, hsame2]
theorem LineTwice_args (vs : List Value) (h : ArgsLay [.one (.slice [.int .i64, .int .i64]), .one (.int .i64), .one (.slice [.int .i64])] vs) : ∃ H', R (T F.swashlaw11_speaks) F.swashlaw11_LineTwice vs Heap.empty = .ok (.bool true) H' := by
 obtain ⟨v1, _, rfl, h1, h⟩ := h.head;obtain ⟨v2, _, rfl, h2, h⟩ := h.head;obtain ⟨v3, _, rfl, h3, h⟩ := h.head;obtain rfl := h.done;obtain ⟨l, rfl⟩ := arg_G h1;obtain ⟨i, rfl, _⟩ := arg_i h2;obtain ⟨ids, rfl, _⟩ := arg_I h3;exact ⟨_, LineTwice_run l i ids⟩
end Go.Sw
end
section
namespace Go.Sw
open Go.RowKit Go.Proofs
set_option maxRecDepth 20000 in
theorem catch_short (p : Addr) (b : Bool) (w : World) (hc : (w.alloc (.cells #[] 190)).cell? p = some (.bool b)) (hz : (w.alloc (.cells #[] 190)).frozen? p = false) :
  CallsD Prog 100 #[.pointer (some p)] (.panicking [{ v := .iface 190 (.agg #[]), recovered := false }]) w fun e u' w' =>
   e = .returned (.tuple #[]) ∧ u' = .panicking [{ v := .iface 190 (.agg #[]), recovered := true }] ∧ w' = (w.alloc (.cells #[] 190)).setCell p (.bool false) := by
 refine callsD_of_wpS Try.func100 rfl fun c₀ cs hu => ?_;apply wpS_seq;apply wpS_region;simp [wpOpsS, go_sem, recoverD, hu, Try.ntmps100, Exit.thenS];have hta : ∀ w, (Instr.typeAssert (.iface 190 (.agg #[])) 20 190 true).run Prog w = .ok (.tuple #[.agg #[], .bool true]) w := fun w => by kernel_rfl
 refine wpS_of_wp ?_
 go_wp2
 cases c₀;simp_all [bodyPostS, results, Try.results100]
theorem catch_idle (p : Addr) (w : World) :
  CallsD Prog 100 #[.pointer (some p)] .returning w fun e u' w' => e = .returned (.tuple #[]) ∧ u' = .returning ∧ w' = w := by
 refine callsD_of_wpS Try.func100 rfl fun c₀ cs hu => ?_;apply wpS_seq;apply wpS_region;simp [wpOpsS, go_sem, recoverD, hu, Try.ntmps100, Exit.thenS];refine wpS_of_wp ?_
 go_wp2
 cases c₀;simp_all [bodyPostS, results, Try.results100]
set_option maxRecDepth 20000 in
theorem try_walk (g : FuncId) (first cap : Array Value) (w : World) (R : Ending → World → Prop)
  (hcf : (callFunc g (first ++ cap)).run Prog (w.alloc (.cells #[.bool false] 4)) = .ok (.enter g (first ++ cap)) (w.alloc (.cells #[.bool false] 4)))
  (hcall : Calls Prog g (first ++ cap) (w.alloc (.cells #[.bool false] 4)) fun e w' => match e with
   | .returned _ => w'.heap[w.heap.size]? = some (.cells #[.bool false] 4 (0, 0)) ∧ R (.returned (.bool true)) (w'.setCell ⟨w.heap.size, 0, none⟩ (.bool true))
   | .panicked chain => chain = [{ v := .iface 190 (.agg #[]), recovered := false }] ∧ w'.heap[w.heap.size]? = some (.cells #[.bool false] 4 (0, 0)) ∧ R (.returned (.bool false)) ((w'.alloc (.cells #[] 190)).setCell ⟨w.heap.size, 0, none⟩ (.bool false))
   | .outgrown => False) :
  Calls Prog 40 #[.func (.func g) first cap] w R := by
 have hmf : ∀ (fn : Fn) (first cap : Array Value) (w : World), (Instr.makeFunc fn first cap).run Prog w = .ok (.func fn first cap) w := fun _ _ _ _ => rfl
 go_enter_defers Try.func40, Try.ntmps40
 go_wp2
 rename_i K2 hK2 K1 hK1;refine hcall.mono fun e w' he => ?_;cases e with
 | returned v =>
  obtain ⟨h1, h2⟩ := he;have hc : w'.cell? ⟨w.heap.size, 0, none⟩ = some (.bool false) := by simp [World.cell?, h1]
  have hz : w'.frozen? ⟨w.heap.size, 0, none⟩ = false := by simp [World.frozen?, h1]
  apply hK1;apply hK2
  go_wp2
  have hc2 : (w'.setCell ⟨w.heap.size, 0, none⟩ (.bool true)).cell? ⟨w.heap.size, 0, none⟩ = some (.bool true) := World.cell?_setCell_same _ _ _ hc;refine leaves_cons (f := 100) (args := #[.pointer (some ⟨w.heap.size, 0, none⟩)]) (by simp) (by simp [go_sem]) ?_;refine (catch_idle ⟨w.heap.size, 0, none⟩ _).mono ?_;rintro e u' w'' ⟨rfl, rfl, rfl⟩;simp [Leaves, settle, results, Try.results40, go_sem, hc2];exact h2
 | panicked chain =>
  obtain ⟨h0, h1, h2⟩ := he;subst h0;have hlt : w.heap.size < w'.heap.size := by
   rcases Nat.lt_or_ge w.heap.size w'.heap.size with h | h
   ·exact h
   ·rw [Array.getElem?_eq_none h] at h1; cases h1
  have h3 : (w'.alloc (.cells #[] 190)).heap[w.heap.size]? = some (.cells #[.bool false] 4 (0, 0)) := by
   rw [heap_alloc_lt _ _ _ hlt]; exact h1
  have hc : (w'.alloc (.cells #[] 190)).cell? ⟨w.heap.size, 0, none⟩ = some (.bool false) := by simp only [World.cell?, h3]; rfl
  have hz : (w'.alloc (.cells #[] 190)).frozen? ⟨w.heap.size, 0, none⟩ = false := by simp [World.frozen?, h3]
  have hc2 : ((w'.alloc (.cells #[] 190)).setCell ⟨w.heap.size, 0, none⟩ (.bool false)).cell? ⟨w.heap.size, 0, none⟩ = some (.bool false) := World.cell?_setCell_same _ _ _ hc;show Leaves _ _ _ _ _ _ _;refine leaves_cons (f := 100) (args := #[.pointer (some ⟨w.heap.size, 0, none⟩)]) (by simp) (by simp [go_sem]) ?_;refine (catch_short ⟨w.heap.size, 0, none⟩ false _ hc hz).mono ?_;rintro e u' w'' ⟨rfl, rfl, rfl⟩;simp [Leaves, settle, results, Try.results40, go_sem, hc2];exact h2
 | outgrown => exact he.elim
theorem try_is : SpIs Prog 40 (tryV 190) := try_of (bt := 4) Try.func40 rfl (by kernel_rfl) try_walk
end Go.Sw
end
section
namespace Go.Sw
open Go.RowKit Go.Proofs Go.Lib
theorem cp_wp {P : Program} {w : World} {o : Oper} {a : Act} {K : Act → World → Prop} {Q : Exit → Act → World → Prop} {d s : Operand} {t t' : TypeId} (ho : o.op = .call { callee := .builtin .copy, args := #[d, s], argTypes := #[t, t'] }) {v u v' : Value} {w' : World} (hd : a.eval d = v) (hs : a.eval s = u)
  (hr : (Builtin.copy_ #[t, t'] o.type #[v, u]).run P w = .ok v' w') (h : K (a.put o.dst v') w') : o.wp P a w K Q := by
 refine wp_value (v := v') (w' := w') ?_ h;simp [execOp, ho, resolve, invoke, builtin, hd, hs, hr, Result.andThen]
theorem cp_list {P : Program} {w : World} {ops : Array Oper} {rest : List Oper} {o : Oper} {a : Act} {Q : Exit → Act → World → Prop} (hgd : o.guard = none) {d s : Operand} {t t' : TypeId} (ho : o.op = .call { callee := .builtin .copy, args := #[d, s], argTypes := #[t, t'] }) {v u v' : Value} {w' : World} (hd : a.eval d = v) (hs : a.eval s = u)
  (hr : (Builtin.copy_ #[t, t'] o.type #[v, u]).run P w = .ok v' w') (h : wpList P ops Q rest (a.put o.dst v') w') : wpList P ops Q (o :: rest) a w :=
 wpList_plain hgd fun _ hK => cp_wp ho hd hs hr (hK _ _ h)
theorem cp_step {P : Program} {ops : Array Oper} {o : Oper} {a : Act} {w : World} {K : Act → World → Prop} {Q : Exit → Act → World → Prop} {E : Prop} (hg : o.guard = none) {d s : Operand} {t t' : TypeId} (ho : o.op = .call { callee := .builtin .copy, args := #[d, s], argTypes := #[t, t'] }) {v u v' : Value} {w' : World} (hd : a.eval d = v) (hs : a.eval s = u)
  (hr : (Builtin.copy_ #[t, t'] o.type #[v, u]).run P w = .ok v' w') (h : K (a.put o.dst v') w') : if Region.wanted o (yielded ops a.tmps) = true then Oper.wp P o a w K Q else E := by
 have hw : Region.wanted o (yielded ops a.tmps) = true := by simp [Region.wanted, hg]
 rw [if_pos hw];exact cp_wp ho hd hs hr h
theorem run_copyN {P : Program} (w : World) (dT sT ty elem : TypeId) (b o dLen dCap : Nat) (a : Addr) (sLen sCap sz : Nat) (cs : List Value)
  (hu : P.underlying dT = some (.slice elem)) (hs : (P.info? elem).map (·.size) = some sz) (hn : cs.length = Nat.min sLen dLen * sz)
  (hsrc : ∀ j v, cs[j]? = some v → w.cell? (a.add j) = some v) (hc : ∀ j, j < cs.length → (w.cell? ⟨b, o + j, none⟩).isSome = true) (hf : ∀ j, j < cs.length → w.frozen? ⟨b, o + j, none⟩ = false) (h1 : ∀ v ∈ cs, v.oneCell' = true) :
  (Builtin.copy_ #[dT, sT] ty #[.slice (some ⟨b, o, none⟩) dLen dCap, .slice (some a) sLen sCap]).run P w = .ok (goInt (Nat.min sLen dLen)) (w.setCells b o cs) := by
 have hl := run_loadCells_list (P := P) w a cs hsrc;have hst := run_storeCells_cells (P := P) b o cs 0 w (by simpa using hc) (by simpa using hf) h1;cases hq : P.info? elem with
 | none => simp [hq] at hs
 | some i =>
  have hi : i.size = sz := by simpa [hq] using hs
  rw [hn] at hl;simp [Builtin.copy_, run_underlying hu, Builtin.lenOf, Builtin.firstCells, sizeOf, typeInfo, hq, hi, hl, hst]
theorem insT : Prog.underlying 22 = some (.slice 57) := by kernel_rfl
theorem insZ : (Prog.info? 57).map (·.size) = some 2 := by kernel_rfl
theorem insI : (Prog.info? 57).map (fun i => (i.zero, i.size, i.bytes)) = some (some (.agg #[.int .i64 0, .int .i64 0]), 2, 16) := by kernel_rfl
set_option maxRecDepth 100000 in
set_option maxHeartbeats 4000000 in
theorem ins_none (base : Option Addr) (n c i : Nat) (vb : Option Addr) (vc : Nat) (w : World) (hi : i ≤ n) (hn : n ≤ c) (hb : base = none → n = 0 ∧ c = 0) :
  Calls Prog 75 #[.slice base n c, .int .i64 (i : Nat), .slice vb 0 vc] w fun e w' => e = .returned (.slice base n c) ∧ w' = w := by
 go_enter Try.func75, Try.ntmps75
 cases base with
 | none =>
  obtain ⟨rfl, rfl⟩ := hb rfl;obtain rfl : i = 0 := by omega
  go_wp2
  go_ret
  exact ⟨rfl, rfl⟩
 | some a =>
  obtain ⟨ab, ao, asp⟩ := a
  go_wp2
  all_goals (go_ret; exact ⟨rfl, rfl⟩)
set_option maxRecDepth 100000 in
set_option maxHeartbeats 4000000 in
theorem ins_end (base : Option Addr) (n c : Nat) (vb : Option Addr) (m vc : Nat) (w : World) (v' : Value) (w1 : World) (hn : n ≤ c) (hb : base = none → n = 0 ∧ c = 0) (hm : 0 < m) (hr : (Builtin.append_ #[22, 22] 22 #[.slice base n c, .slice vb m vc]).run Prog w = .ok v' w1) :
  Calls Prog 75 #[.slice base n c, .int .i64 (n : Nat), .slice vb m vc] w fun e w' => e = .returned v' ∧ w' = w1 := by
 have hz1 : ¬ ((m : Int) = 0) := by omega
 go_enter Try.func75, Try.ntmps75
 cases base with
 | none =>
  obtain ⟨rfl, rfl⟩ := hb rfl
  go_wp2_with (at_builtin; refine Lib.wpList_append_run _ rfl _ _ _ _ rfl _ _ rfl rfl _ _ hr ?_)
  go_ret
  exact ⟨rfl, rfl⟩
 | some a =>
  obtain ⟨ab, ao, asp⟩ := a
  go_wp2_with (at_builtin; refine Lib.wpList_append_run _ rfl _ _ _ _ rfl _ _ rfl rfl _ _ hr ?_)
  all_goals (go_ret; exact ⟨rfl, rfl⟩)
set_option maxRecDepth 100000 in
set_option maxHeartbeats 4000000 in
theorem ins_shift (b off n c i vb voff m vc : Nat) (CS VS : Array Value) (el el2 : TypeId) (cs vs : List Value) (w : World) (hi : i < n) (hm : 0 < m) (hroom : n + m ≤ c) (h31 : n + m ≤ 2 ^ 31) (hvb : vb ≠ b) (g1 : w.heap[b]? = some (.cells CS el (0, 0))) (g2 : w.heap[vb]? = some (.cells VS el2 (0, 0))) (f1 : off + c * 2 ≤ CS.size) (f2 : voff + m * 2 ≤ VS.size)
  (hcs : cs = (CS.toList.drop off).take (n * 2)) (hvs : vs = (VS.toList.drop voff).take (m * 2)) (h1c : Ones cs) (h1v : Ones vs) :
  Calls Prog 75 #[.slice (some ⟨b, off, none⟩) n c, .int .i64 (i : Nat), .slice (some ⟨vb, voff, none⟩) m vc] w fun e w' => e = .returned (.slice (some ⟨b, off, none⟩) (n + m) c) ∧ w' = (w.drew.setCells b (off + (i + m) * 2) (cs.drop (i * 2))).setCells b (off + i * 2) vs := by
 have hz1 : ¬ ((m : Int) = 0) := by omega
 have hz2 : ¬ ((i : Int) = (n : Int)) := by omega
 have hz3 : ¬ (c : Int) < (n : Int) + (m : Int) := by omega
 have hcl : cs.length = n * 2 := by rw [hcs, List.length_take, List.length_drop, Array.length_toList]; omega
 have hvl : vs.length = m * 2 := by rw [hvs, List.length_take, List.length_drop, Array.length_toList]; omega
 have cellB : ∀ j, w.cell? ⟨b, j, none⟩ = CS[j]? := fun j => by simp [World.cell?, g1]
 have cellV : ∀ j, w.cell? ⟨vb, j, none⟩ = VS[j]? := fun j => by simp [World.cell?, g2]
 have frB : ∀ j, w.frozen? ⟨b, j, none⟩ = false := fun j => by simp [World.frozen?, g1]
 have frV : ∀ j, w.frozen? ⟨vb, j, none⟩ = false := fun j => by simp [World.frozen?, g2]
 have atB : ∀ j v, cs[j]? = some v → w.cell? ⟨b, off + j, none⟩ = some v := fun j v hj => by
  rw [cellB];rw [hcs, List.getElem?_take] at hj;split at hj
  ·rw [List.getElem?_drop] at hj;simpa using hj
  ·cases hj
 have atV : ∀ j v, vs[j]? = some v → w.cell? ⟨vb, voff + j, none⟩ = some v := fun j v hj => by
  rw [cellV];rw [hvs, List.getElem?_take] at hj;split at hj
  ·rw [List.getElem?_drop] at hj;simpa using hj
  ·cases hj
 have hsa : w.shape? vb = some (el2, VS.size) := by simp [World.shape?, g2]
 have hsb : w.shape? b = some (el, CS.size) := by simp [World.shape?, g1]
 have hov : ∀ lb cb, (callFunc 148 #[.slice (some ⟨vb, voff, none⟩) m vc, .slice (some ⟨b, off + (i + m) * 2, none⟩) lb cb]).run Prog w = .ok (.value (.bool false)) w := fun lb cb => by
  rw [run_callFunc_extern (f := 148) (fn := Try.f148) Try.func148 (by kernel_rfl) (by kernel_rfl) (by kernel_rfl) (e := Extern.SlicesOverlaps.overlaps #[22, 22] #[4]) (by kernel_rfl),
   Lib.run_overlaps_apart w 22 4 57 insT 2 (fun w => by kernel_rfl) ⟨vb, voff, none⟩ ⟨b, off + (i + m) * 2, none⟩ m vc lb cb hvb el2 el VS.size CS.size hsa hsb (by omega) (frV _) (frV _)]
  rfl
 have hdl : (cs.drop (i * 2)).length = (n - i) * 2 := by rw [List.length_drop, hcl]; omega
 have hw1 : IntKind.i64.wrap ((i : Int) + (m : Int)) = (i : Int) + (m : Int) := by rw [IntKind.wrap_i64]; omega
 have hw2 : IntKind.i64.wrap ((n : Int) + (m : Int)) = (n : Int) + (m : Int) := by rw [IntKind.wrap_i64]; omega
 have hb1 : (0 : Int) ≤ (i : Int) + (m : Int) := by omega
 have hb1' : (0 : Int) ≤ (n : Int) + (m : Int) := by omega
 have hin : i ≤ n := by omega
 have htn : ((i : Int) + (m : Int)).toNat = i + m := by omega
 have htn' : ((n : Int) + (m : Int)).toNat = n + m := by omega
 have hb2 : ¬ (c = i + m) := by omega
 have hb3 : (i : Int) ≤ (n : Int) + (m : Int) := by omega
 have hb4 : ¬ (c = i) := by omega
 have hcp1 : ∀ ty dc sc, (Builtin.copy_ #[22, 22] ty #[.slice (some ⟨b, off + (i + m) * 2, none⟩) (n + m - (i + m)) dc, .slice (some ⟨b, off + i * 2, none⟩) (n + m - i) sc]).run Prog w.drew = .ok (goInt (Nat.min (n + m - i) (n + m - (i + m)))) (w.drew.setCells b (off + (i + m) * 2) (cs.drop (i * 2))) := fun ty dc sc =>
  run_copyN w.drew 22 22 ty 57 b (off + (i + m) * 2) (n + m - (i + m)) dc ⟨b, off + i * 2, none⟩ (n + m - i) sc 2 (cs.drop (i * 2)) insT insZ (by rw [hdl, show Nat.min (n + m - i) (n + m - (i + m)) = n - i by simp only [Nat.min_def]; split <;> omega])
   (fun j v hj => by rw [Addr.add_lit, Nat.add_assoc]; exact atB (i * 2 + j) v (by rwa [List.getElem?_drop] at hj))
   (fun j hj => by
    show (w.cell? _).isSome = true;rw [cellB, Array.getElem?_eq_getElem (by omega)]; rfl) (fun j hj => frB _) (fun v hv => h1c v (List.mem_of_mem_drop hv))
 obtain ⟨W1, hW1⟩ : ∃ W1, W1 = w.drew.setCells b (off + (i + m) * 2) (cs.drop (i * 2)) := ⟨_, rfl⟩
 have hW1r : W1 = w.drew.setRow b (splice CS.toList (off + (i + m) * 2) (cs.drop (i * 2))).toArray := by rw [hW1]; exact setCells_row b el (0, 0) _ _ CS w.drew g1 (by omega)
 have hW1b : W1.heap[b]? = some (.cells (splice CS.toList (off + (i + m) * 2) (cs.drop (i * 2))).toArray el (0, 0)) := by rw [hW1r]; exact setRow_heap _ _ _ _ _ _ g1
 have hspl : (splice CS.toList (off + (i + m) * 2) (cs.drop (i * 2))).length = CS.size := by rw [splice_length _ _ _ (by rw [Array.length_toList (xs := CS)]; omega)]; simp
 have hcp2 : ∀ (W : World), (∀ x, W.cell? x = W1.cell? x) → (∀ x, W.frozen? x = W1.frozen? x) → ∀ ty dc, (Builtin.copy_ #[22, 22] ty #[.slice (some ⟨b, off + i * 2, none⟩) (n + m - i) dc, .slice (some ⟨vb, voff, none⟩) m vc]).run Prog W = .ok (goInt (Nat.min m (n + m - i))) (W.setCells b (off + i * 2) vs) := fun W hWc hWf ty dc =>
  run_copyN W 22 22 ty 57 b (off + i * 2) (n + m - i) dc ⟨vb, voff, none⟩ m vc 2 vs insT insZ (by rw [hvl, show Nat.min m (n + m - i) = m by simp only [Nat.min_def]; split <;> omega])
   (fun j v hj => by
    rw [Addr.add_lit, hWc, hW1, World.cell?_setCells_out b _ _ _ _ (fun h _ => absurd h hvb)];exact atV j v hj)
   (fun j hj => by
    rw [hWc];simp only [World.cell?, hW1b];rw [Array.getElem?_eq_getElem (by rw [List.size_toArray, hspl]; omega)]; rfl) (fun j hj => by rw [hWf]; simp [World.frozen?, hW1b]) h1v
 rw [← hW1] at hcp1;clear hcs hvs
 go_enter Try.func75, Try.ntmps75
 go_wp2_with (simp only [hov])
 go_region_law (refine cp_step rfl rfl (by simp [Act.eval, Act.put]) (by simp [Act.eval, Act.put]) (hcp1 _ _ _) ?_)
 go_wp2_with (at_builtin; refine cp_list rfl rfl rfl rfl (hcp2 _ (fun _ => rfl) (fun _ => rfl) _ _) ?_)
 go_ret
 first | exact ⟨rfl, rfl⟩ | exact ⟨rfl, by rw [hW1]⟩
set_option maxRecDepth 100000 in
set_option maxHeartbeats 4000000 in
theorem ins_grow (b off n c i vb voff m vc : Nat) (CS VS : Array Value) (el el2 : TypeId) (cs vs : List Value) (w : World) (hi : i < n) (hm : 0 < m) (hnc : n ≤ c) (hroom : c < n + m) (h31 : n + m ≤ 2 ^ 31) (g1 : w.heap[b]? = some (.cells CS el (0, 0))) (g2 : w.heap[vb]? = some (.cells VS el2 (0, 0))) (f1 : off + n * 2 ≤ CS.size) (f2 : voff + m * 2 ≤ VS.size)
  (hcs : cs = (CS.toList.drop off).take (n * 2)) (hvs : vs = (VS.toList.drop voff).take (m * 2)) (h1c : Ones cs) (h1v : Ones vs) :
  ∃ G, n + m ≤ G ∧ Calls Prog 75 #[.slice (some ⟨b, off, none⟩) n c, .int .i64 (i : Nat), .slice (some ⟨vb, voff, none⟩) m vc] w fun r w' => r = .returned (.slice (some ⟨w.heap.size, 0, none⟩) (n + m) G) ∧
   w' = (((w.alloc (.cells ((cs.take (i * 2)).toArray ++ Builtin.zeroCells (Value.agg #[.int .i64 0, .int .i64 0]).cells (n + m - i) ++ Builtin.zeroCells (Value.agg #[.int .i64 0, .int .i64 0]).cells (G - (n + m))) 57)).drew.setCells w.heap.size (i * 2) vs).drew).setCells w.heap.size ((i + m) * 2) (cs.drop (i * 2)) := by
 refine ⟨grownCap w (n + m) c 57, grownCap_ge w _ _ _, ?_⟩;obtain ⟨i0, hi0, hz0, hzs, hzb⟩ := info_parts insI;have hz1 : ¬ ((m : Int) = 0) := by omega
 have hz2 : ¬ ((i : Int) = (n : Int)) := by omega
 have hz3 : (c : Int) < (n : Int) + (m : Int) := by omega
 have hcl : cs.length = n * 2 := by rw [hcs, List.length_take, List.length_drop, Array.length_toList]; omega
 have hvl : vs.length = m * 2 := by rw [hvs, List.length_take, List.length_drop, Array.length_toList]; omega
 have cellB : ∀ j, w.cell? ⟨b, j, none⟩ = CS[j]? := fun j => by simp [World.cell?, g1]
 have cellV : ∀ j, w.cell? ⟨vb, j, none⟩ = VS[j]? := fun j => by simp [World.cell?, g2]
 have atB : ∀ j v, cs[j]? = some v → w.cell? ⟨b, off + j, none⟩ = some v := fun j v hj => by
  rw [cellB];rw [hcs, List.getElem?_take] at hj;split at hj
  ·rw [List.getElem?_drop] at hj;simpa using hj
  ·cases hj
 have atV : ∀ j v, vs[j]? = some v → w.cell? ⟨vb, voff + j, none⟩ = some v := fun j v hj => by
  rw [cellV];rw [hvs, List.getElem?_take] at hj;split at hj
  ·rw [List.getElem?_drop] at hj;simpa using hj
  ·cases hj
 have hbw : b < w.heap.size := (Array.getElem?_eq_some_iff.1 g1).1;have hvw : vb < w.heap.size := (Array.getElem?_eq_some_iff.1 g2).1;have hkk : (n : Int) + (m : Int) - (i : Int) = ((n + m - i : Nat) : Int) := by omega
 have hik : i + (n + m - i) = n + m := by omega
 have hold : (Builtin.firstCells i0.size i (.slice (some ⟨b, off, none⟩) i c)).run Prog w.drew = .ok (cs.take (i * 2)).toArray w.drew := by
  rw [hzs];exact run_firstCells_some w.drew 2 i ⟨b, off, none⟩ i c (cs.take (i * 2)) (by rw [List.length_take]; omega) (fun j v hj => by
   rw [Addr.add_lit];rw [List.getElem?_take] at hj;split at hj
   ·exact atB j v hj
   ·cases hj)
 have hfit : Builtin.nextslicecap (n + m) c * i0.bytes ≤ 281474976710656 := by
  rw [hzb];exact growslice_fits hroom (by omega)
 have hrz : ∀ ty, (Builtin.append_ #[22, 3] ty #[.slice (some ⟨b, off, none⟩) i c, .int .i64 ((n : Int) + (m : Int) - (i : Int))]).run Prog w =
   .ok (.slice (some ⟨w.heap.size, 0, none⟩) (n + m) (grownCap w (n + m) c 57)) (w.drew.alloc (.cells ((cs.take (i * 2)).toArray ++ Builtin.zeroCells (Value.agg #[.int .i64 0, .int .i64 0]).cells (n + m - i) ++ Builtin.zeroCells (Value.agg #[.int .i64 0, .int .i64 0]).cells (grownCap w (n + m) c 57 - (n + m))) 57)) := fun ty => by
  have h := Lib.run_append_grow_zeros w 22 3 ty 57 i0 _ .i64 .i64 insT (by kernel_rfl) hi0 hz0 (some ⟨b, off, none⟩) i c (cs.take (i * 2)) hold (n + m - i) (by omega) (by omega) (by omega) (by omega) (by rw [hzb]; omega) (by rw [hik]; exact hfit);rw [hik] at h;rw [hkk];exact h
 obtain ⟨G, hG⟩ : ∃ G, G = grownCap w (n + m) c 57 := ⟨_, rfl⟩
 obtain ⟨ROW, hROW⟩ : ∃ ROW : Array Value, ROW = (cs.take (i * 2)).toArray ++ Builtin.zeroCells (Value.agg #[.int .i64 0, .int .i64 0]).cells (n + m - i) ++ Builtin.zeroCells (Value.agg #[.int .i64 0, .int .i64 0]).cells (G - (n + m)) := ⟨_, rfl⟩
 rw [← hG] at hrz ⊢;rw [← hROW] at hrz ⊢;have hGn : n + m ≤ G := by rw [hG]; exact grownCap_ge w _ _ _
 have hRl : (n + m) * 2 ≤ ROW.size := by
  rw [hROW];simp only [Array.size_append, List.size_toArray, size_zeroCells, List.length_take, hcl];show _ ≤ _ + (n + m - i) * 2 + (G - (n + m)) * 2;omega
 obtain ⟨W1, hW1⟩ : ∃ W1, W1 = w.drew.alloc (.cells ROW 57) := ⟨_, rfl⟩
 rw [← hW1] at hrz;have hNh : W1.heap[w.heap.size]? = some (.cells ROW 57 (0, 0)) := by rw [hW1]; exact heap_alloc_new' _ _
 have hN : ∀ j, j < (n + m) * 2 → (W1.cell? ⟨w.heap.size, j, none⟩).isSome = true := fun j hj => by
  simp only [World.cell?, hNh];rw [Array.getElem?_eq_getElem (by omega)]; rfl
 have hNf : ∀ j, W1.frozen? ⟨w.heap.size, j, none⟩ = false := fun j => by simp [World.frozen?, hNh]
 have hOb : ∀ j v, w.cell? ⟨b, j, none⟩ = some v → W1.cell? ⟨b, j, none⟩ = some v := fun j v h => by rw [hW1, World.cell?_alloc_past (w := w.drew) _ b j hbw]; exact h
 have hOv : ∀ j v, w.cell? ⟨vb, j, none⟩ = some v → W1.cell? ⟨vb, j, none⟩ = some v := fun j v h => by rw [hW1, World.cell?_alloc_past (w := w.drew) _ vb j hvw]; exact h
 have hcpA : ∀ (W : World), (∀ x, W.cell? x = W1.cell? x) → (∀ x, W.frozen? x = W1.frozen? x) → ∀ ty dc, (Builtin.copy_ #[22, 22] ty #[.slice (some ⟨w.heap.size, i * 2, none⟩) (n + m - i) dc, .slice (some ⟨vb, voff, none⟩) m vc]).run Prog W = .ok (goInt (Nat.min m (n + m - i))) (W.setCells w.heap.size (i * 2) vs) := fun W hWc hWf ty dc =>
  run_copyN W 22 22 ty 57 w.heap.size (i * 2) (n + m - i) dc ⟨vb, voff, none⟩ m vc 2 vs insT insZ (by rw [hvl, show Nat.min m (n + m - i) = m by simp only [Nat.min_def]; split <;> omega])
   (fun j v hj => by rw [Addr.add_lit, hWc]; exact hOv _ v (atV j v hj))
   (fun j hj => by rw [hWc]; exact hN _ (by omega)) (fun j hj => by rw [hWf]; exact hNf _) h1v
 have hG63 : G ≤ 9223372036854775807 := by
  have := grownCap_le_maxLen w (n + m) c 57 (by unfold maxLen; omega);rw [← hG] at this;unfold maxLen at this;omega
 have hGi : ¬ (G = i) := by omega
 have hGim : ¬ (G = i + m) := by omega
 have hci : ¬ (c = i) := by omega
 have hbN : b ≠ w.heap.size := by omega
 have hdl : (cs.drop (i * 2)).length = (n - i) * 2 := by rw [List.length_drop, hcl]; omega
 have hcpB : ∀ (W : World), (∀ x, W.cell? x = (W1.setCells w.heap.size (i * 2) vs).cell? x) → (∀ x, W.frozen? x = (W1.setCells w.heap.size (i * 2) vs).frozen? x) → ∀ ty dc sc, (Builtin.copy_ #[22, 22] ty #[.slice (some ⟨w.heap.size, (i + m) * 2, none⟩) (n + m - (i + m)) dc, .slice (some ⟨b, off + i * 2, none⟩) (n - i) sc]).run Prog W = .ok (goInt (Nat.min (n - i) (n + m - (i + m)))) (W.setCells w.heap.size ((i + m) * 2) (cs.drop (i * 2))) := fun W hWc hWf ty dc sc =>
  run_copyN W 22 22 ty 57 w.heap.size ((i + m) * 2) (n + m - (i + m)) dc ⟨b, off + i * 2, none⟩ (n - i) sc 2 (cs.drop (i * 2)) insT insZ (by rw [hdl, show Nat.min (n - i) (n + m - (i + m)) = n - i by simp only [Nat.min_def]; split <;> omega])
   (fun j v hj => by
    rw [Addr.add_lit, hWc, World.cell?_setCells_out _ _ _ _ _ (fun h _ => absurd h hbN), Nat.add_assoc];exact hOb _ v (atB (i * 2 + j) v (by rwa [List.getElem?_drop] at hj)))
   (fun j hj => by
    rw [hWc, setCells_row w.heap.size 57 (0, 0) _ _ ROW W1 hNh (by omega)];simp only [World.cell?, setRow_heap _ _ _ _ _ _ hNh];rw [Array.getElem?_eq_getElem (by rw [List.size_toArray, splice_length _ _ _ (by rw [Array.length_toList (xs := ROW)]; omega), Array.length_toList (xs := ROW)]; omega)]; rfl)
   (fun j hj => by rw [hWf, World.frozen?_setCells]; exact hNf _) (fun v hv => h1c v (List.mem_of_mem_drop hv))
 subst hW1;have hE1 : ∀ x, ((w.alloc (.cells ROW 57)).drew).cell? x = (w.drew.alloc (.cells ROW 57)).cell? x := fun x => rfl;have hE2 : ∀ x, ((w.alloc (.cells ROW 57)).drew).frozen? x = (w.drew.alloc (.cells ROW 57)).frozen? x := fun x => rfl;have hF1 : ∀ x, (((w.alloc (.cells ROW 57)).drew.setCells w.heap.size (i * 2) vs).drew).cell? x = ((w.drew.alloc (.cells ROW 57)).setCells w.heap.size (i * 2) vs).cell? x := fun x => rfl;have hF2 : ∀ x, (((w.alloc (.cells ROW 57)).drew.setCells w.heap.size (i * 2) vs).drew).frozen? x = ((w.drew.alloc (.cells ROW 57)).setCells w.heap.size (i * 2) vs).frozen? x := fun x => rfl;have hw1 : IntKind.i64.wrap ((i : Int) + (m : Int)) = (i : Int) + (m : Int) := by rw [IntKind.wrap_i64]; omega
 have hw2 : IntKind.i64.wrap ((n : Int) + (m : Int)) = (n : Int) + (m : Int) := by rw [IntKind.wrap_i64]; omega
 have hw3 : IntKind.i64.wrap ((n : Int) + (m : Int) - (i : Int)) = (n : Int) + (m : Int) - (i : Int) := by rw [IntKind.wrap_i64]; omega
 have hb1 : (0 : Int) ≤ (i : Int) + (m : Int) := by omega
 have hin : i ≤ n := by omega
 have htn : ((i : Int) + (m : Int)).toNat = i + m := by omega
 have hb3 : (i : Int) ≤ (n : Int) := by omega
 clear hkk hik hold hROW hG hRl hN hNf hNh cellB cellV;clear hcs hvs
 go_enter Try.func75, Try.ntmps75
 go_wp2_with (first
  | (at_builtin; refine Lib.wpList_append_run _ rfl _ _ _ _ rfl _ _ rfl rfl _ _ (hrz _) ?_)
  | (at_builtin; refine cp_list rfl rfl rfl rfl (hcpA _ hE1 hE2 _ _) ?_)
  | (at_builtin; refine cp_list rfl rfl rfl rfl (hcpB _ (fun _ => rfl) (fun _ => rfl) _ _ _) ?_))
 go_region_law (refine cp_step rfl rfl (v := .slice (some ⟨w.heap.size, (i + m) * 2, none⟩) (n + m - (i + m)) (G - (i + m))) (u := .slice (some ⟨b, off + i * 2, none⟩) (n - i) (c - i)) (by simp [Act.eval, Act.put]) (by simp [Act.eval, Act.put]) (hcpB _ hF1 hF2 _ (G - (i + m)) (c - i)) ?_)
 go_wp2
 go_ret
 exact ⟨rfl, rfl⟩
theorem ins_walk : InsWalk Prog 75 22 57 2 (.agg #[.int .i64 0, .int .i64 0]) :=
 ⟨⟨Try.f75, Try.func75, by kernel_rfl, by kernel_rfl⟩, ins_none, ins_end, ins_shift, ins_grow⟩
theorem insertG_is : SpIs Prog F.slices_Insert_of_api_Glyph_api_Glyph fun _ args H => insertV 2 16 args H := by
 obtain ⟨i0, hi0, hz0, hzs, hzb⟩ := info_parts insI;exact insert_of (inf := i0) insT hi0 hz0 (by rw [hzs]; rfl) hzs hzb (by decide) ins_walk
end Go.Sw
end
section
namespace Go.Sw
open Go.RowKit
theorem names_ok : NamesOk Prog := NamesOk.of (by kernel_rfl)
theorem mixed_ok : Prog.follows .mixedOrders = true := Checked.mixed Go.Proofs.Try.checked
theorem laid_ok : laidOutB Prog = true := by kernel_rfl
theorem cloneGlyph_is : SpIs Prog F.slices_Clone_of_api_Glyph_api_Glyph fun _ args H => cloneV 2 16 args H :=
 clone_is (c := { P := Prog, kp := kpS, sp := fun _ => none }) (fun _ => rfl) names_ok mixed_ok (t := 22) (e := 57) (by kernel_rfl) fun call a H => (slices_Clone_of_api_Glyph_api_Glyph_body 0 _ call a H).trans (by
  unfold slices_Clone_of_api_Glyph_api_Glyph cloneF;simp only [be_22_0, ap_22, beR_bare])
theorem clonePlace_is : SpIs Prog F.slices_Clone_of_api_Place_api_Place fun _ args H => cloneV 3 12 args H :=
 clone_is (c := { P := Prog, kp := kpS, sp := fun _ => none }) (fun _ => rfl) names_ok mixed_ok (t := 98) (e := 137) (by kernel_rfl) fun call a H => (slices_Clone_of_api_Place_api_Place_body 0 _ call a H).trans (by
  unfold slices_Clone_of_api_Place_api_Place cloneF;simp only [be_98_0, ap_98, beR_bare])
theorem clonePart_is : SpIs Prog F.slices_Clone_of_sfnt_Part_sfnt_Part fun _ args H => cloneV 2 40 args H :=
 clone_is (c := { P := Prog, kp := kpS, sp := fun _ => none }) (fun _ => rfl) names_ok mixed_ok (t := 142) (e := 140) (by kernel_rfl) fun call a H => (slices_Clone_of_sfnt_Part_sfnt_Part_body 0 _ call a H).trans (by
  unfold slices_Clone_of_sfnt_Part_sfnt_Part cloneF;simp only [be_142_0, ap_142, beR_bare])
theorem more_is (f : FuncId) (s : Sp) (h : moreS f = some s) : SpIs Prog f s := by
 unfold moreS at h;cases h40 : Nat.beq f 40 with
 | true => have := Nat.eq_of_beq_eq_true h40; subst this; rw [h40, cond_true] at h; injection h with h; subst h; exact try_is
 | false =>
 rw [h40, cond_false] at h;cases h71 : Nat.beq f 71 with
 | true => have := Nat.eq_of_beq_eq_true h71; subst this; rw [h71, cond_true] at h; injection h with h; subst h; exact cloneGlyph_is
 | false =>
 rw [h71, cond_false] at h;cases h73 : Nat.beq f 73 with
 | true => have := Nat.eq_of_beq_eq_true h73; subst this; rw [h73, cond_true] at h; injection h with h; subst h; exact trim_is (c := { P := Prog, kp := kpS, sp := fun _ => none }) (fun _ => rfl) names_ok mixed_ok
 | false =>
 rw [h73, cond_false] at h;cases h75 : Nat.beq f 75 with
 | true => have := Nat.eq_of_beq_eq_true h75; subst this; rw [h75, cond_true] at h; injection h with h; subst h; exact insertG_is
 | false =>
 rw [h75, cond_false] at h;cases h115 : Nat.beq f 115 with
 | true => have := Nat.eq_of_beq_eq_true h115; subst this; rw [h115, cond_true] at h; injection h with h; subst h; exact clonePlace_is
 | false =>
 rw [h115, cond_false] at h;cases h134 : Nat.beq f 134 with
 | true => have := Nat.eq_of_beq_eq_true h134; subst this; rw [h134, cond_true] at h; injection h with h; subst h; exact clonePart_is
 | false =>
 rw [h134, cond_false] at h;cases h
theorem T_prog (k : Nat) : (T k).c.P = Prog := by unfold T C; rfl
theorem told_ok {k m : Nat} (hsp : okTrue (run (baseCfg Prog kpS moreS) m (k % 1000000) [] Heap.empty) = true) : SpOk (T k).c := by
 have h0 : CallOk Prog (run (baseCfg Prog kpS moreS) m) := run_ok (c := baseCfg Prog kpS moreS) names_ok mixed_ok (SpOk.base more_is) m;have h1 : SpOk (C k) := by
  unfold C;exact SpOk.of (P := Prog) (kp := kpS) (speaks := speaksT) (more := moreS) (k := k % 1000000) h0 hsp more_is
 exact h1
end Go.Sw
end
