/-
  Functions' forms, and what is proved of them, part 11.
-/
import Derived.Test.YtnaodjnimkndbabSwW10
import Derived.Test.YtnaodjnimkndbabSwW7
import Derived.Test.YtnaodjnimkndbabSwW8
import Derived.Test.YtnaodjnimkndbabSwW9
import Derived.Test.YtnaodjnimkndbabSwW4
import Derived.Test.YtnaodjnimkndbabSwLib8
import Derived.Eval
import Derived.Test.YtnaodjnimkndbabSwCfg
import Derived.Test.YtnaodjnimkndbabSwW2
set_option linter.unusedSimpArgs false
set_option linter.unusedVariables false
set_option linter.unusedSectionVars false
section
namespace Go.Sw
open Go.RowKit
theorem and_high (n : Nat) (h : n < 2 ^ 32) : n &&& 3221225472 = n / 1073741824 * 1073741824 := by
 have e : n / 1073741824 * 1073741824 = (n >>> 30) <<< 30 := by rw [Nat.shiftLeft_eq, Nat.shiftRight_eq_div_pow]
 rw [e]
 apply Nat.eq_of_testBit_eq
 intro j
 rw [Nat.testBit_and, Nat.testBit_shiftLeft, Nat.testBit_shiftRight, show (3221225472 : Nat) = 3 <<< 30 by rfl, Nat.testBit_shiftLeft]
 by_cases h1 : j ≥ 30
 ·rw [show 30 + (j - 30) = j by omega]
  by_cases h2 : j < 32
  ·have : j = 30 ∨ j = 31 := by omega
   have e1 : Nat.testBit 3 1 = true := by decide
   rcases this with rfl | rfl
   ·simp
   ·simp [e1]
  ·rw [Nat.testBit_lt_two_pow (Nat.lt_of_lt_of_le h (Nat.pow_le_pow_right (by decide) (by omega)))]
   simp
 ·simp [h1]
theorem and3031 (P : Program) (t : TypeId) (H : Heap) {a : Int} (h0 : 0 ≤ a) (h1 : a < 4294967296) : binR P .and t (.int .i64 a) (.int .i64 3221225472) H = .ok (.int .i64 (a / 1073741824 * 1073741824)) H := by
 obtain ⟨n, rfl⟩ := Int.eq_ofNat_of_zero_le h0
 have e : (BitVec.ofInt 64 (n : Int) &&& BitVec.ofInt 64 3221225472).toNat = n / 1073741824 * 1073741824 := by
  rw [BitVec.toNat_and, BitVec.toNat_ofInt, BitVec.toNat_ofInt]
  rw [show (((n : Int)) % ((2 ^ 64 : Nat) : Int)).toNat = n by omega, show ((3221225472 : Int) % ((2 ^ 64 : Nat) : Int)).toNat = 3221225472 from by decide, and_high n (by omega)]
 have e1 : binV P .and t (.int .i64 (n : Int)) (.int .i64 3221225472) = some (.int .i64 (IntKind.i64.wrap (BitVec.ofInt 64 (n : Int) &&& BitVec.ofInt 64 3221225472).toNat)) := rfl
 unfold binR
 rw [e1, e, wrap_i64 (by omega) (by omega)]
 rfl
theorem ζo1 {vs : List Int} (hb : Byt vs) {a : Int} (h0 : 0 ≤ a) (h : lastB vs a = true) : ∃ x, uS vs (4 * a) 4 = some x ∧ gU vs (4 * a) 4 = x ∧ 0 ≤ x ∧ x < 4294967296 ∧ 4 * a + 4 ≤ vs.length ∧ (¬ x ≥ 2147483648 → lastB vs (a + 1) = true) := by
 obtain ⟨i, i1, i2, i3⟩ := ζ6o.1 h
 obtain ⟨x, hx⟩ : ∃ x, uS vs (4 * a) 4 = some x := uS_of_in (by unfold inS; rw [decide_eq_true_eq]; omega)
 have hxb := uS_four hb hx
 refine ⟨x, hx, gU_some hx, hxb.1, hxb.2, by omega, fun hlt => ζ6o.2 ⟨i, ?_, i2, i3⟩⟩
 by_cases hia : (i : Int) = a
 ·rw [hia, gU_some hx] at i3
  exact absurd i3 hlt
 ·omega
theorem ζk1 {l : List Gl} {i : Int} (h : ¬ (0 ≤ i ∧ i < l.length)) : ∀ ks : List Int, joinG l i ks = l
 | [] => rfl
 | k :: ks => by
  have : join1 i l k = l := by
   unfold join1
   split
   ·rw [if_neg h]
   ·rfl
  show joinG (join1 i l k) i ks = l
  rw [this]
  exact ζk1 h ks
theorem ζme (l : List Gl) (i : Int) (ks : List Int) (k : Int) : joinG l i (ks ++ [k]) = join1 i (joinG l i ks) k := by unfold joinG; rw [List.foldl_append]; rfl
theorem ζnn (l : List Gl) (ks : List Int) (k : Int) : delG l (ks ++ [k]) = setG (delG l ks) k 65535 := by unfold delG; rw [List.foldl_append]; rfl
set_option maxHeartbeats 1000000 in
theorem ζig (k : Nat) {H0 H : Heap} {L : List It} (h : Star H0 H L) (il ir : Nat) (hne : il ≠ ir) {c : Nat} {o : Option Nat} {l : List Gl} (hil : L[il]? = some (itLine c o l)) {og : Option Nat} {s : Value} {ks : List Int} (hir : L[ir]? = some (itRow og 1 s encI ks)) (hks : ks.length < 2 ^ 31) (i : Int) :
  ∃ H', R (T k) F.ζ14 [ptrV c, .int .i64 i, s] H = .ok (.tuple #[]) H' ∧ Star H0 H' (L.set il (itLine c o (joinG l i ks))) := by
 have hin := ζez k h il hil (Ext.refl H) i
 rw [ζf1]
 by_cases hj : 0 ≤ i ∧ i < l.length
 rotate_left
 ·rw [ζk1 hj, set_same hil]
  rw [decide_eq_false hj] at hin
  refine ⟨H, nrm_of ?_, h⟩
  simp -implicitDefEqProofs [ζ14, hin]
 rw [decide_eq_true hj] at hin
 obtain ⟨n, rfl⟩ := Int.eq_ofNat_of_zero_le hj.1
 have hlt := (List.getElem?_eq_some_iff.1 hil).1
 have hlr := (List.getElem?_eq_some_iff.1 hir).1
 have hlen := (h.row ir hir).len
 obtain ⟨xx, e', H1, hr, rfl, rfl, g⟩ := loop_up (body := ζ6b k (R (T k))) ks.length
  (fun j e H' => e = [(0, ptrV c), (1, .int .i64 n), (14, s), (15, .int .i64 ks.length), (16, .int .i64 j)] ∧ Star H0 H' (L.set il (itLine c o (joinG l n (ks.take j)))))
  (fun xx e H' => xx = .exit 0 ∧ e = [(0, ptrV c), (1, .int .i64 n), (14, s), (15, .int .i64 ks.length), (16, .int .i64 ks.length), (17, .bool false)] ∧ Star H0 H' (L.set il (itLine c o (joinG l n ks))))
  (e0 := [(0, ptrV c), (1, .int .i64 n), (14, s), (15, .int .i64 ks.length), (16, .int .i64 0)]) (H0 := H) ⟨rfl, by rw [List.take_zero]; show Star H0 H (L.set il (itLine c o l)); rw [set_same hil]; exact h⟩ (by omega)
  (fun j e H' hj2 ⟨he, g⟩ => by
   subst he
   have hjl : (j : Int) < ks.length := by omega
   obtain ⟨x, hx⟩ : ∃ x, ks[j]? = some x := ⟨_, List.getElem?_eq_getElem hj2⟩
   have hir2 : (L.set il (itLine c o (joinG l n (ks.take j))))[ir]? = some (itRow og 1 s encI ks) := by rw [List.getElem?_set_ne hne]; exact hir
   have hil2 : (L.set il (itLine c o (joinG l n (ks.take j))))[il]? = some (itLine c o (joinG l n (ks.take j))) := List.getElem?_set_self hlt
   obtain ⟨p, i1, i2⟩ := ((g.row ir hir2).sl encI_len).ix1 encI_len j x hx _ rfl
   have i2 := i2 H' (Ext.refl _)
   have hat := ζey k g il hil2 x
   have hjn := ζhg (n : Int) (ks.take j) l
   rw [ζ1b hx]
   have e2 := ζme l n (ks.take j) x
   cases hq : atG (joinG l n (ks.take j)) x with
   | none =>
    rw [hq] at hat
    have : joinG l n (ks.take j ++ [x]) = joinG l n (ks.take j) := by rw [e2]; unfold join1; rw [hq]
    rw [this]
    refine .inl ⟨_, H'.push ⟨[.int .i64 0, .int .i64 0], 1, false⟩, ?_, rfl, g.rest ((Ext.refl _).push _)⟩
    rw [ζ3y]
    simp -implicitDefEqProofs (disch := omega) [hjl, i1, i2, hat, encA, ζc0]
   | some q =>
    rw [hq] at hat
    have gp := g.push ⟨encG q, 1, false⟩
    have hil3 : (L.set il (itLine c o (joinG l n (ks.take j))) ++ [itBlk H'.n ⟨encG q, 1, false⟩])[il]? = some (itLine c o (joinG l n (ks.take j))) := by rw [List.getElem?_append_left (by simpa using hlt)]; exact hil2
    obtain ⟨y, hy⟩ : ∃ y, (joinG l n (ks.take j))[n]? = some y := ⟨_, List.getElem?_eq_getElem (by omega)⟩
    obtain ⟨_, s3, h1, h2⟩ := gp.box il hil3
    simp at h1
    obtain ⟨b, rfl, hs, hb, ix⟩ := h2.ix .i64 n (by omega)
    have l1 := ld1_row encG_len hb (i := n) (c := 1) hy (by decide) rfl
    obtain ⟨H3, e3, g3, _⟩ := gp.stBox il hil3 encG_len (c := 1) (n := 1) (⟨y.id, min y.cl q.cl⟩ : Gl) (v := .int .i64 (min y.cl q.cl)) hy rfl rfl (by decide) rfl
    have hcn : ¬ c = H'.n := by
     have := (g.lt il hil2 c (by simp [itLine, itBox])).2
     omega
    have hfin : joinG l n (ks.take j ++ [x]) = (joinG l n (ks.take j)).set n ⟨y.id, min y.cl q.cl⟩ := by
     rw [e2]
     unfold join1
     rw [hq]
     dsimp only
     rw [if_pos ⟨by omega, by omega⟩, Int.toNat_natCast, ζf5 _ _ _ _ hy]
    have hmin : (if q.cl < y.cl then q.cl else y.cl) = min y.cl q.cl := by rw [Int.min_def]; split <;> split <;> omega
    refine .inl ⟨_, H3, ?_, rfl, ?_⟩
    ·rw [ζ3y]
     have gq : (H'.push ⟨encG q, 1, false⟩).get H'.n = some ⟨encG q, 1, false⟩ := ζf _ _ _ rfl
     rw [if_neg hcn] at h1
     simp -implicitDefEqProofs (disch := omega) [-stR_ptr, stR_ptr 2 H'.n 0, -ld1_ptr, ld1_ptr H'.n 1, ld1_ptr c 0, hjl, i1, i2, hat, encA, h1, ix, l1, hmin, e3, gq, ζbz, hcn]
    ·rw [hfin]
     rw [List.set_append_left _ _ (by simpa using hlt), List.set_set] at g3
     exact g3.ζc9)
  (fun e H' ⟨he, g⟩ => by
   subst he
   rw [List.take_length] at g
   refine ⟨.exit 0, _, H', ?_, by simp, rfl, rfl, g⟩
   rw [ζ3y]
   simp -implicitDefEqProofs)
 refine ⟨H1, nrm_of ?_, g⟩
 simp -implicitDefEqProofs [ζ14, hin, hlen, hr, ζb2]
set_option maxHeartbeats 1000000 in
theorem ζhj (k : Nat) (t : LTab) (ht : t.ok) {H0 H : Heap} {L : List It} (h : Star H0 H L) (il ir : Nat) (hne : il ≠ ir) {c : Nat} {o : Option Nat} {l : List Gl} (hil : L[il]? = some (itLine c o l)) {og : Option Nat} {s : Value} {ks : List Int} (hir : L[ir]? = some (itRow og 1 s encI ks)) (hks : ks.length < 2 ^ 31) (i sum : Int) :
  ∃ H', R (T k) F.ζ1a [ligaV t, ptrV c, .int .i64 i, .int .i64 sum, s] H = .ok (.bool (entryS t.ligs sum).isSome) H' ∧ Star H0 H' (L.set il (itLine c o (match entryS t.ligs sum with | some id => storeG l i id ks | none => l))) := by
 have hen := fun H' => ζdd k t.ligs ht.byt.2.2 ht.len.2.2 sum H'
 have hlt := (List.getElem?_eq_some_iff.1 hil).1
 rw [ζcv]
 cases he : entryS t.ligs sum with
 | none =>
  rw [he] at hen
  refine ⟨H, nrm_of ?_, by dsimp only; rw [set_same hil]; exact h⟩
  simp -implicitDefEqProofs (disch := omega) [ζ1a, hen]
 | some id =>
  rw [he] at hen
  obtain ⟨H1, e1, g⟩ := ζf0 k h il hil i id
  have hir2 : (L.set il (itLine c o (setG l i id)))[ir]? = some (itRow og 1 s encI ks) := by rw [List.getElem?_set_ne hne]; exact hir
  obtain ⟨H2, e2, g⟩ := ζig k g il ir hne (List.getElem?_set_self hlt) hir2 hks i
  rw [List.set_set] at g
  have hlen := (h.row ir hir).len
  obtain ⟨xx, e', H3, hr, rfl, rfl, g⟩ := loop_up (body := ζ4g k (R (T k))) ks.length
   (fun j e H' => e = [(1, ptrV c), (34, s), (35, .int .i64 ks.length), (36, .int .i64 j)] ∧ Star H0 H' (L.set il (itLine c o (delG (joinG (setG l i id) i ks) (ks.take j)))))
   (fun xx e H' => xx = .exit 0 ∧ e = [(1, ptrV c), (34, s), (35, .int .i64 ks.length), (36, .int .i64 ks.length), (37, .bool false)] ∧ Star H0 H' (L.set il (itLine c o (delG (joinG (setG l i id) i ks) ks))))
   (e0 := [(1, ptrV c), (34, s), (35, .int .i64 ks.length), (36, .int .i64 0)]) (H0 := H2) ⟨rfl, g⟩ (by omega)
   (fun j e H' hj2 ⟨he, g⟩ => by
    subst he
    have hjl : (j : Int) < ks.length := by omega
    obtain ⟨x, hx⟩ : ∃ x, ks[j]? = some x := ⟨_, List.getElem?_eq_getElem hj2⟩
    have hir2 : (L.set il (itLine c o (delG (joinG (setG l i id) i ks) (ks.take j))))[ir]? = some (itRow og 1 s encI ks) := by rw [List.getElem?_set_ne hne]; exact hir
    obtain ⟨p, i1, i2⟩ := ((g.row ir hir2).sl encI_len).ix1 encI_len j x hx _ rfl
    have i2 := i2 H' (Ext.refl _)
    obtain ⟨H4, e4, g4⟩ := ζf0 k g il (List.getElem?_set_self hlt) x 65535
    rw [List.set_set, ← ζnn, ← ζ1b hx] at g4
    refine .inl ⟨_, H4, ?_, rfl, g4⟩
    rw [ζ5m]
    simp -implicitDefEqProofs (disch := omega) [hjl, i1, i2, e4])
   (fun e H' ⟨he, g⟩ => by
    subst he
    rw [List.take_length] at g
    refine ⟨.exit 0, _, H', ?_, by simp, rfl, rfl, g⟩
    rw [ζ5m]
    simp -implicitDefEqProofs)
  refine ⟨H3, nrm_of ?_, g⟩
  simp -implicitDefEqProofs (disch := omega) [ζ1a, hen, e1, e2, hlen, hr, ζ9r]
end Go.Sw
end
section
namespace Go.Sw
open Go.RowKit
variable {σ ω : Type}
def ActOkG (k : Nat) (m : Mach) (H0 : Heap) (W : σ → ω → List It) (Inv : σ → Prop) (a : Value) (f : σ → Int → En → σ × Int × Int) : Prop :=
 ∀ s w i e H X, Inv s → Star H0 H (W s w ++ X) → 0 ≤ i → i < 2 ^ 50 → e ∈ m.ents →
  ∃ H' w', callV (R (T k)) a [.int .i64 i, encE e] H = .ok (.tuple #[.int .i64 (f s i e).2.1, .int .i64 (f s i e).2.2]) H' ∧ Star H0 H' (W (f s i e).1 w' ++ X) ∧ Inv (f s i e).1 ∧ (f s i e).2.1 ≤ i + 128 ∧ (f s i e).2.2 ≤ i + 128
set_option maxHeartbeats 2000000 in
theorem ζg2 (k : Nat) (m : Mach) (hm : m.ok) {H0 H : Heap} (W : σ → ω → List It) (Inv : σ → Prop) (ln : σ → List Gl) (c : Nat) (hW : ∀ s w, ∃ (i : Nat) (o : Option Nat), (W s w)[i]? = some (itLine c o (ln s))) (a : Value) (f : σ → Int → En → σ × Int × Int) (ha : ActOkG k m H0 W Inv a f)
  (X : List It) (q : Nat) (s : σ) (w : ω) (d : Drv) (hI : Inv s) (h : Star H0 H (W s w ++ X ++ [itBlk q ⟨drvC m c d, 1, false⟩])) (hp : 0 ≤ d.pl ∧ d.pl < 2 ^ 50) (hst : 0 ≤ d.stp ∧ d.stp < 2 ^ 50) (hr : 0 ≤ d.rest ∧ d.rest < 2 ^ 50) (hse : 0 ≤ d.st ∧ d.st < m.rows.length) :
  ∃ H' w', R (T k) F.ζ1s [ptrV q, a] H = .ok (.bool (stepD m ln f (s, d)).2) H' ∧ Star H0 H' (W (stepD m ln f (s, d)).1.1 w' ++ X ++ [itBlk q ⟨drvC m c (stepD m ln f (s, d)).1.2, 1, false⟩]) ∧ Inv (stepD m ln f (s, d)).1.1 ∧ (stepD m ln f (s, d)).1.2.pl ≤ d.pl + 128 ∧ 0 ≤ (stepD m ln f (s, d)).1.2.st ∧ (stepD m ln f (s, d)).1.2.st < m.rows.length := by
 obtain ⟨i, o, ho⟩ := hW s w
 have hq := h.memBlk (c := q) (k := ⟨drvC m c d, 1, false⟩) (by simp)
 have hline : (W s w ++ X ++ [itBlk q ⟨drvC m c d, 1, false⟩])[i]? = some (itLine c o (ln s)) := by
  have h0 : i < (W s w).length := (List.getElem?_eq_some_iff.1 ho).1
  rw [List.append_assoc, List.getElem?_append_left h0]
  exact ho
 have hcls := ζg1 k m hm h i hline hq
 have hstep := fun H' => Step_run k m hm d.st (clsS m (ln s) d.pl).1 H'
 have heb := ζm2 hm (ln s) d
 have hmem := entS_mem hm (ln s) d hse
 have hnx := hm.ent _ hmem
 have hee : encEA (stepS m d.st (clsS m (ln s) d.pl).1) = encE (entS m (ln s) d) := rfl
 rw [hee] at hstep
 have hx := ha s w d.pl (entS m (ln s) d)
 unfold stepD
 dsimp only
 generalize (stepS m d.st (clsS m (ln s) d.pl).1).isSome = z at hstep
 generalize (clsS m (ln s) d.pl) = cl at hcls hstep
 generalize entS m (ln s) d = e at hstep heb hx hmem hnx ⊢
 dsimp only at heb
 generalize f s d.pl e = r at hx ⊢
 have g := h.push ⟨encEn e, 1, false⟩
 rw [List.append_assoc, List.singleton_append] at g
 have hqn : ¬ q = H.n := by have := Heap.get_lt hq; omega
 obtain ⟨H2, e2, g⟩ := g.stEnd 4 (v := .int .i64 (d.stp + 1)) rfl rfl (by simp)
 simp only [List.set_cons_zero, List.set_cons_succ] at g
 have he2 := g.memBlk (c := H.n) (k := ⟨encEn e, 1, false⟩) (by simp)
 have hq2 := g.memBlk (c := q) (k := ⟨[machV m, ptrV c, .int .i64 d.st, .int .i64 d.pl, .int .i64 (d.stp + 1), .int .i64 d.rest], 1, false⟩) (by simp)
 obtain ⟨H3, e3, g⟩ := g.stEnd 2 (v := .int .i64 e.next) rfl rfl (by simp)
 simp only [List.set_cons_zero, List.set_cons_succ] at g
 have hq3 := g.memBlk (c := q) (k := ⟨[machV m, ptrV c, .int .i64 e.next, .int .i64 d.pl, .int .i64 (d.stp + 1), .int .i64 d.rest], 1, false⟩) (by simp)
 have he3 := g.memBlk (c := H.n) (k := ⟨encEn e, 1, false⟩) (by simp)
 rw [List.append_assoc] at g
 obtain ⟨H4, w4, e4, g4, hI4, hs4, ho4⟩ := hx H3 _ hI g hp.1 hp.2 hmem
 rw [← List.append_assoc] at g4
 have hq4 := g4.memBlk (c := q) (k := ⟨[machV m, ptrV c, .int .i64 e.next, .int .i64 d.pl, .int .i64 (d.stp + 1), .int .i64 d.rest], 1, false⟩) (by simp)
 have he4 := g4.memBlk (c := H.n) (k := ⟨encEn e, 1, false⟩) (by simp)
 have han := fun H => and14 Prog 3 H heb.2.2.1 heb.2.2.2.1
 rw [List.append_assoc] at g4
 by_cases hfl : e.flags / 16384 % 2 = 1
 ·rw [if_pos hfl]
  rw [if_pos hfl] at han
  have hmx : (if 0 > r.2.1 then 0 else r.2.1) = max r.2.1 0 := by split <;> omega
  obtain ⟨H5, e5, g5⟩ := Star.stEnd (A := W r.1 w4 ++ X) (by simpa using g4) 3 (v := .int .i64 (max r.2.1 0)) rfl rfl (by simp)
  simp only [List.set_cons_zero, List.set_cons_succ] at g5
  have hq5 := g5.memBlk (c := q) (k := ⟨[machV m, ptrV c, .int .i64 e.next, .int .i64 (max r.2.1 0), .int .i64 (d.stp + 1), .int .i64 d.rest], 1, false⟩) (by simp)
  obtain ⟨H6, e6, g6⟩ := g5.stEnd 5 (v := .int .i64 (d.rest + 1)) rfl rfl (by simp)
  simp only [List.set_cons_zero, List.set_cons_succ] at g6
  refine ⟨H6, w4, ?_, ?_, hI4, by dsimp only; omega, hnx.1, hnx.2.1⟩
  ·rw [ζ7q]
   simp -implicitDefEqProofs (disch := omega) [-stR_ptr, ζ1s, hcls, hq, hqn, hstep, stR_ptr 4 H.n 0, e2, hq2, he2, e3, hq3, he3, e4, hq4, he4, han, hmx, e5, hq5, e6]
  ·have := g6.take ((W r.1 w4 ++ X).length + 1)
   rw [take_mid] at this
   exact this
 ·rw [if_neg hfl]
  rw [if_neg hfl] at han
  have hmx : (if 0 > r.2.2 then 0 else r.2.2) = max r.2.2 0 := by split <;> omega
  obtain ⟨H5, e5, g5⟩ := Star.stEnd (A := W r.1 w4 ++ X) (by simpa using g4) 3 (v := .int .i64 (max r.2.2 0)) rfl rfl (by simp)
  simp only [List.set_cons_zero, List.set_cons_succ] at g5
  have hq5 := g5.memBlk (c := q) (k := ⟨[machV m, ptrV c, .int .i64 e.next, .int .i64 (max r.2.2 0), .int .i64 (d.stp + 1), .int .i64 d.rest], 1, false⟩) (by simp)
  obtain ⟨H6, e6, g6⟩ := g5.stEnd 5 (v := .int .i64 0) rfl rfl (by simp)
  simp only [List.set_cons_zero, List.set_cons_succ] at g6
  refine ⟨H6, w4, ?_, ?_, hI4, by dsimp only; omega, hnx.1, hnx.2.1⟩
  ·rw [ζ7q]
   simp -implicitDefEqProofs (disch := omega) [-stR_ptr, ζ1s, hcls, hq, hqn, hstep, stR_ptr 4 H.n 0, e2, hq2, he2, e3, hq3, he3, e4, hq4, he4, han, hmx, bne, e5, hq5, e6]
  ·have := g6.take ((W r.1 w4 ++ X).length + 1)
   rw [take_mid] at this
   exact this
set_option maxHeartbeats 1000000 in
theorem ζhc (k : Nat) (m : Mach) (hm : m.ok) {H0 H : Heap} (W : σ → ω → List It) (Inv : σ → Prop) (ln : σ → List Gl) (c : Nat) (hW : ∀ s w, ∃ (i : Nat) (o : Option Nat), (W s w)[i]? = some (itLine c o (ln s))) (a : Value) (f : σ → Int → En → σ × Int × Int) (ha : ActOkG k m H0 W Inv a f)
  (X : List It) (s : σ) (w : ω) (hI : Inv s) (h : Star H0 H (W s w ++ X)) (hl : (ln s).length < 2 ^ 40) :
  ∃ H' w', R (T k) F.ζ4b [machV m, ptrV c, a] H = .ok (.tuple #[.int .i64 (runD m ln f (2 * (ln s).length + 128) (2 * (ln s).length + 128) (s, ⟨0, 0, 0, 0⟩)).1, .int .i64 (runD m ln f (2 * (ln s).length + 128) (2 * (ln s).length + 128) (s, ⟨0, 0, 0, 0⟩)).2.1]) H' ∧
   Star H0 H' (W (runD m ln f (2 * (ln s).length + 128) (2 * (ln s).length + 128) (s, ⟨0, 0, 0, 0⟩)).2.2 w' ++ X) ∧ Inv (runD m ln f (2 * (ln s).length + 128) (2 * (ln s).length + 128) (s, ⟨0, 0, 0, 0⟩)).2.2 := by
 rw [ζl0]
 obtain ⟨N, hN⟩ : ∃ N, N = 2 * (ln s).length + 128 := ⟨_, rfl⟩
 have hNi : (2 * ((ln s).length : Int) + 128) = (N : Int) := by omega
 obtain ⟨x0, hx0⟩ : ∃ x0 : σ × Drv, x0 = (s, ⟨0, 0, 0, 0⟩) := ⟨_, rfl⟩
 rw [← hN, hNi, ← hx0]
 generalize hR0 : runD m ln f (N : Int) N x0 = R0
 have g := h.push ⟨drvC m c ⟨0, 0, 0, 0⟩, 1, false⟩
 obtain ⟨i, o, ho⟩ := hW s w
 have hline : (W s w ++ X ++ [itBlk H.n ⟨drvC m c ⟨0, 0, 0, 0⟩, 1, false⟩])[i]? = some (itLine c o (ln s)) := by
  have h0 : i < (W s w).length := (List.getElem?_eq_some_iff.1 ho).1
  rw [List.append_assoc, List.getElem?_append_left h0]
  exact ho
 have hlen := ζgr k g i hline
 obtain ⟨e, eE, H1, hr1, hQ⟩ := loop_up (body := ζbt k (R (T k))) N
  (fun j e H' => e = [(2, a), (8, ptrV H.n), (9, .int .i64 N)] ∧ ∃ (x : σ × Drv) (w : ω), Star H0 H' (W x.1 w ++ X ++ [itBlk H.n ⟨drvC m c x.2, 1, false⟩]) ∧ Inv x.1 ∧ x.2.stp = j ∧ 0 ≤ x.2.pl ∧ x.2.pl ≤ 128 * j ∧ 0 ≤ x.2.rest ∧ x.2.rest ≤ j ∧ (0 ≤ x.2.st ∧ x.2.st < m.rows.length) ∧ runD m ln f N (N - j) x = R0)
  (fun x' e H' => ∃ r : Int × Int × σ, r = R0 ∧ ∃ (d : Drv) (w : ω), Star H0 H' (W r.2.2 w ++ X ++ [itBlk H.n ⟨drvC m c d, 1, false⟩]) ∧ Inv r.2.2 ∧
   ((x' = .ret ∧ e = [(6, .int .i64 r.1), (7, .int .i64 0)] ∧ r.2.1 = 0) ∨ (x' = .exit 0 ∧ d.stp = r.1 ∧ r.2.1 = 4 ∧ (e = [(2, a), (8, ptrV H.n), (9, .int .i64 N), (35, .bool true)] ∨ e = [(2, a), (8, ptrV H.n), (9, .int .i64 N), (23, .bool false)]))))
  (e0 := [(2, a), (8, ptrV H.n), (9, .int .i64 N)]) (H0 := H.push ⟨drvC m c ⟨0, 0, 0, 0⟩, 1, false⟩)
  ⟨rfl, x0, w, by rw [hx0]; exact g, by rw [hx0]; exact hI, by rw [hx0]; rfl, by rw [hx0]; exact Int.le_refl _, by rw [hx0]; exact Int.le_refl _, by rw [hx0]; exact Int.le_refl _, by rw [hx0]; exact Int.le_refl _, by rw [hx0]; have := hm.two; dsimp only; omega, by rw [Nat.sub_zero]; exact hR0⟩ (by omega)
  (fun j e H' hj ⟨he, x, w, g, hI, h1, h2, h3, h4, h5, hse, hrun⟩ => by
   subst he
   obtain ⟨H2, w2, e2, g2, hI2, h6, h7⟩ := ζg2 k m hm W Inv ln c hW a f ha X H.n x.1 w x.2 hI g (by omega) (by omega) (by omega) hse
   have hq := g.memBlk (c := H.n) (k := ⟨drvC m c x.2, 1, false⟩) (by simp)
   have p1 := ζos m ln f x
   have p2 := stepD_pl m ln f x
   have p3 := ζn1 m ln f x h4
   have hlt : x.2.stp < (N : Int) := by omega
   have hNj : N - j = (N - (j + 1)) + 1 := by omega
   rw [hNj] at hrun
   unfold runD at hrun
   rw [if_pos hlt] at hrun
   have hxx : (x.1, x.2) = x := rfl
   rw [hxx] at e2 g2 hI2 h6 h7
   generalize stepD m ln f x = y at *
   have hq2 := g2.memBlk (c := H.n) (k := ⟨drvC m c y.1.2, 1, false⟩) (by simp)
   cases hy : y.2 with
   | true =>
    rw [hy] at hrun e2
    simp only [if_true] at hrun
    refine .inr ⟨.ret, _, H2, ?_, by simp, _, hrun, y.1.2, w2, g2, hI2, .inl ⟨rfl, rfl, rfl⟩⟩
    rw [ζ5g]
    simp -implicitDefEqProofs (disch := omega) [hq, hlt, e2, hq2]
   | false =>
    rw [hy] at hrun e2
    simp only [Bool.false_eq_true, if_false] at hrun
    by_cases hr : y.1.2.rest > 64
    ·rw [if_pos hr] at hrun
     refine .inr ⟨.exit 0, _, H2, ?_, by simp, _, hrun, y.1.2, w2, g2, hI2, .inr ⟨rfl, rfl, rfl, .inl rfl⟩⟩
     rw [ζ5g]
     simp -implicitDefEqProofs (disch := omega) [hq, hlt, e2, hq2, hr]
    ·rw [if_neg hr] at hrun
     refine .inl ⟨_, H2, ?_, rfl, y.1, w2, g2, hI2, by omega, p2, by omega, p3.1, by omega, h7, hrun⟩
     rw [ζ5g]
     simp -implicitDefEqProofs (disch := omega) [hq, hlt, e2, hq2, hr])
  (fun e H' ⟨he, x, w, g, hI, h1, h2, h3, h4, h5, hse, hrun⟩ => by
   subst he
   rw [Nat.sub_self] at hrun
   have hq := g.memBlk (c := H.n) (k := ⟨drvC m c x.2, 1, false⟩) (by simp)
   refine ⟨.exit 0, _, H', ?_, by simp, _, hrun, x.2, w, g, hI, .inr ⟨rfl, rfl, rfl, .inr rfl⟩⟩
   have hnl : ¬ x.2.stp < (N : Int) := by omega
   rw [ζ5g]
   simp -implicitDefEqProofs (disch := omega) [hq, hnl])
 obtain ⟨r, hr, d, w3, g, hIr, hcase⟩ := hQ
 subst hr
 have hq := g.memBlk (c := H.n) (k := ⟨drvC m c d, 1, false⟩) (by simp)
 have gX : Star H0 H1 (W r.2.2 w3 ++ X) := g.ζc9
 refine ⟨H1, w3, ?_, gX, hIr⟩
 rcases hcase with ⟨rfl, rfl, hc⟩ | ⟨rfl, hd, hc, rfl | rfl⟩
 ·rw [hc]
  simp -implicitDefEqProofs (disch := omega) [ζ4b, hlen, hNi, hr1, ζg0]
 ·rw [hc]
  simp -implicitDefEqProofs (disch := omega) [ζ4b, hlen, hNi, hr1, ζel, hq, hd]
 ·rw [hc]
  simp -implicitDefEqProofs (disch := omega) [ζ4b, hlen, hNi, hr1, ζcu, hq, hd]
def DoOkG (k : Nat) (m : Mach) (H0 : Heap) (W : σ → ω → List It) (Inv : σ → Prop) (a : Value) (g : σ → Int → En → σ) : Prop :=
 ∀ s w i e H X, Inv s → Star H0 H (W s w ++ X) → 0 ≤ i → i < 2 ^ 50 → e ∈ m.ents →
  ∃ v H' w', callV (R (T k)) a [.int .i64 i, encE e] H = .ok v H' ∧ Star H0 H' (W (g s i e) w' ++ X) ∧ Inv (g s i e)
theorem ζof (k : Nat) {m : Mach} {H0 : Heap} {W : σ → ω → List It} {Inv : σ → Prop} {a : Value} {g : σ → Int → En → σ} (h : DoOkG k m H0 W Inv a g) (p : Nat) :
  ActOkG k m H0 (fun s w => W s w ++ [itBlk p ⟨[a], 1, false⟩]) Inv (.func (.func F.ζ1k) #[] #[ptrV p]) (fun s i e => (g s i e, i, i + 1)) := by
 intro s w i e H X hI st h0 h1 he
 have st2 := st.push ⟨encEn e, 1, false⟩
 have hp := st2.memBlk (c := p) (k := ⟨[a], 1, false⟩) (by simp)
 have hpn : ¬ p = H.n := by have := Heap.get_lt (st.memBlk (c := p) (k := ⟨[a], 1, false⟩) (by simp)); omega
 obtain ⟨v, H', w', e1, st3, hI2⟩ := h s w i e (H.push ⟨encEn e, 1, false⟩) ([itBlk p ⟨[a], 1, false⟩] ++ X ++ [itBlk H.n ⟨encEn e, 1, false⟩]) hI (by simpa [List.append_assoc] using st2) h0 h1 he
 have st4 : Star H0 H' (W (g s i e) w' ++ [itBlk p ⟨[a], 1, false⟩] ++ X) := by
  have : W (g s i e) w' ++ ([itBlk p ⟨[a], 1, false⟩] ++ X ++ [itBlk H.n ⟨encEn e, 1, false⟩]) = (W (g s i e) w' ++ [itBlk p ⟨[a], 1, false⟩] ++ X) ++ [itBlk H.n ⟨encEn e, 1, false⟩] := by simp
  rw [this] at st3
  exact st3.ζc9
 refine ⟨H', w', ?_, st4, hI2, by dsimp only; omega, by dsimp only; omega⟩
 simp only [callV, List.nil_append, List.cons_append]
 rw [ζdl, nrm_of]
 simp -implicitDefEqProofs (disch := omega) [ζ1k, hp, hpn, e1]
end Go.Sw
end
section
namespace Go.Sw
open Go.RowKit
set_option maxHeartbeats 4000000 in
theorem ζer (k : Nat) (t : LTab) (ht : t.ok) {H0 H : Heap} {L : List It} (h : Star H0 H L) (il ip : Nat) (hne : il ≠ ip) {c cp : Nat} {o ob : Option Nat} {l : List Gl} {ps : List Int} (hil : L[il]? = some (itLine c o l)) (hip : L[ip]? = some (itLP cp ob ps)) (hps : ps.length ≤ 64) (a : Int) (ha : 0 ≤ a ∧ a < 65536) (hlast : lastB t.acts a = true) :
  ∃ ob' H', R (T k) F.ζa [ligaV t, ptrV c, ptrV cp, .int .i64 a] H = .ok (.tuple #[]) H' ∧ Star H0 H' ((L.set il (itLine c o (perfS t ps a 0 [] l).1)).set ip (itLP cp ob' (perfS t ps a 0 [] l).2)) := by
 have hltl := (List.getElem?_eq_some_iff.1 hil).1
 have hltp := (List.getElem?_eq_some_iff.1 hip).1
 obtain ⟨res, hres⟩ : ∃ res, res = perfS t ps a 0 [] l := ⟨_, rfl⟩
 rw [← hres]
 obtain ⟨S, hS⟩ : ∃ S : List Gl → Option Nat → List Int → Option Nat → Value → List Int → List It, S = fun l' ob' ps' og s gone => (L.set il (itLine c o l')).set ip (itLP cp ob' ps') ++ [itRow og 1 s encI gone] := ⟨_, rfl⟩
 have hSv : ∀ l' ob' ps' og s gone, S l' ob' ps' og s gone = (L.set il (itLine c o l')).set ip (itLP cp ob' ps') ++ [itRow og 1 s encI gone] := fun _ _ _ _ _ _ => by rw [hS]
 clear hS
 have atl : ∀ l' ob' ps' og s gone, (S l' ob' ps' og s gone)[il]? = some (itLine c o l') := fun l' ob' ps' og s gone => by
  rw [hSv, List.getElem?_append_left (by simpa using hltl), List.getElem?_set_ne (fun h => hne h.symm), List.getElem?_set_self hltl]
 have atp : ∀ l' ob' ps' og s gone, (S l' ob' ps' og s gone)[ip]? = some (itLP cp ob' ps') := fun l' ob' ps' og s gone => by
  rw [hSv, List.getElem?_append_left (by simpa using hltp), List.getElem?_set_self (by simpa using hltp)]
 have atr : ∀ l' ob' ps' og s gone, (S l' ob' ps' og s gone)[L.length]? = some (itRow og 1 s encI gone) := fun l' ob' ps' og s gone => by
  rw [hSv, List.getElem?_append_right (by simp)]
  simp
 have setl : ∀ l' l2 ob' ps' og s gone, (S l' ob' ps' og s gone).set il (itLine c o l2) = S l2 ob' ps' og s gone := fun l' l2 ob' ps' og s gone => by
  rw [hSv, hSv, List.set_append_left _ _ (by simpa using hltl), List.set_comm _ _ (fun h => hne h.symm), List.set_set]
 have setp : ∀ l' ob' ps' ob2 ps2 og s gone, (S l' ob' ps' og s gone).set ip (itLP cp ob2 ps2) = S l' ob2 ps2 og s gone := fun l' ob' ps' ob2 ps2 og s gone => by
  rw [hSv, hSv, List.set_append_left _ _ (by simpa using hltp), List.set_set]
 have setr : ∀ l' ob' ps' og s gone og2 s2 gone2, (S l' ob' ps' og s gone).set L.length (itRow og2 1 s2 encI gone2) = S l' ob' ps' og2 s2 gone2 := fun l' ob' ps' og s gone og2 s2 gone2 => by
  rw [hSv, hSv, List.set_append_right _ _ (by simp)]
  simp
 have fin : ∀ {H' : Heap} {l' ob' ps' og s gone}, Star H0 H' (S l' ob' ps' og s gone) → (l', ps') = res → ∃ ob', Star H0 H' ((L.set il (itLine c o res.1)).set ip (itLP cp ob' res.2)) := fun {H' l' ob' ps' og s gone} g he => by
  rw [hSv] at g
  subst he
  exact ⟨ob', g.ζc9⟩
 have h1 : Star H0 H (S l ob ps none (.slice none 0 0) []) := by
  rw [hSv, set_same hil, set_same hip]
  exact h.more_row (Ext.refl _) (OwnO.nil encI _ 1) (fun b hb => by cases hb)
 have hvb : veq (vwB t.comps) (vwB t.comps) = true := veq_agg (l := [lv encB t.comps]) fun u hu => by simp at hu; subst hu; exact veq_B t.comps
 obtain ⟨xx, e', H1, hr, hE, g⟩ := loop_up (body := ζ3o k (R (T k))) ps.length
  (fun j e H' => ∃ (sum : Int) (gone : List Int) (l' : List Gl) (og ob' : Option Nat) (s : Value), e = [(0, ligaV t), (1, ptrV c), (2, ptrV cp), (3, .int .i64 (a + j)), (8, .int .i64 sum), (9, s)] ∧ Star H0 H' (S l' ob' (ps.drop j) og s gone) ∧ lastB t.acts (a + j) = true ∧ 0 ≤ sum ∧ sum ≤ 65535 * j ∧ gone.length ≤ j ∧ perfS t (ps.drop j) (a + j) sum gone l' = res)
  (fun xx e H' => (xx = .ret ∧ ((∃ b0 b8 b9 b10 b24, e = [(0, b0), (1, ptrV c), (2, ptrV cp), (3, .int .i64 (a + ps.length)), (8, b8), (9, b9), (10, b10), (24, b24)]) ∨ (∃ b0 b3 b8 b9 b10 b12 b15 b52, e = [(0, b0), (1, ptrV c), (2, ptrV cp), (3, b3), (8, b8), (9, b9), (10, b10), (12, b12), (15, b15), (52, b52)]) ∨ (∃ b0 b3 b8 b10 b12 b65, e = [(0, b0), (1, ptrV c), (2, ptrV cp), (3, b3), (8, b8), (10, b10), (12, b12), (65, b65)]) ∨ e = [])) ∧ ∃ ob', Star H0 H' ((L.set il (itLine c o res.1)).set ip (itLP cp ob' res.2)))
  (e0 := [(0, ligaV t), (1, ptrV c), (2, ptrV cp), (3, .int .i64 a), (8, .int .i64 0), (9, .slice none 0 0)]) (H0 := H) ⟨0, [], l, none, ob, .slice none 0 0, by simp, by simpa using h1, by simpa using hlast, Int.le_refl _, Int.le_refl _, Nat.le_refl _, by simpa using hres.symm⟩ (by omega)
  (fun j e H' hj ⟨sum, gone, l', og, ob', s, he, g, hl, hs0, hs1, hgl, hp⟩ => by
   subst he
   have hd : ps.drop j = ps[j] :: ps.drop (j + 1) := List.drop_eq_getElem_cons hj
   obtain ⟨x, hx⟩ : ∃ x, x = ps[j] := ⟨_, rfl⟩
   rw [← hx] at hd
   have hdl : (ps.drop (j + 1)).length ≤ 63 := by rw [List.length_drop]; omega
   rw [hd] at hp g
   obtain ⟨H2, e2, g⟩ := ζes k g ip (by rw [List.length_cons]; omega) (atp _ _ _ _ _ _)
   rw [setp] at g
   simp only [List.head?_cons, Option.getD_some, List.isEmpty_cons, Bool.not_false, List.tail_cons] at e2 g
   obtain ⟨y, hy, hgy, hy0, hy1, hyl, hyn⟩ := ζo1 ht.byt.1 (by omega) hl
   have hU := fun H' => U32_run k (H := H') (Sl.lv H' 1 t.acts) ht.byt.1 (4 * (a + j)) (by have := ht.len.1; omega)
   rw [hy] at hU
   have hat := ζey k g il (atl _ _ _ _ _ _) x
   obtain ⟨q, hq⟩ : ∃ q, q = (atG l' x).getD ⟨0, 0⟩ := ⟨_, rfl⟩
   have hatA : encA (atG l' x) = .agg (encG q).toArray := by rw [hq]; rfl
   rw [hatA] at hat
   have hoff := fun H' => ζhi k y hy0 hy1 H'
   have hen := fun H' => ζdd k t.comps ht.byt.2.1 ht.len.2.1 (IntKind.i64.wrap (q.id + offS y)) H'
   have hx2 : Ext H2 (H2.push ⟨encG q, 1, false⟩) := (Ext.refl H2).push _
   have gq : (H2.push ⟨encG q, 1, false⟩).get H2.n = some ⟨encG q, 1, false⟩ := ζf _ _ _ rfl
   unfold perfS at hp
   rw [hgy, ← hq] at hp
   have gp := g.rest hx2
   cases hc : entryS t.comps (IntKind.i64.wrap (q.id + offS y)) with
   | none =>
    rw [hc] at hp hen
    dsimp only at hp
    refine .inr ⟨.ret, _, _, ?_, by simp, ⟨rfl, .inr (.inl ⟨ligaV t, .int .i64 (a + j), .int .i64 sum, s, .int .i64 x, .int .i64 y, .int .i64 0, .bool true, rfl⟩)⟩, fin gp hp⟩
    rw [ζ13]
    simp -implicitDefEqProofs (disch := omega) [e2, hU, orF, hat, hoff, hen, gq, hvb]
   | some part =>
    rw [hc] at hp hen
    dsimp only at hp
    have hpart : 0 ≤ part ∧ part < 65536 := by
     unfold entryS at hc
     split at hc
     ·injection hc with hc
      subst hc
      obtain ⟨z, hz⟩ : ∃ z, uS t.comps (2 * IntKind.i64.wrap (q.id + offS y)) 2 = some z := uS_of_in (by unfold inS; rw [decide_eq_true_eq]; omega)
      rw [gU_some hz]
      exact uS_two ht.byt.2.1 hz
     ·cases hc
    have hw : IntKind.i64.wrap (sum + part) = sum + part := wrap_i64 (by omega) (by omega)
    have an := fun H => and3031 Prog 3 H hy0 hy1
    have an2 := fun H => and31 Prog 3 H hy0 hy1
    have hgl2 : gone.length < 2 ^ 31 := by omega
    have hj1 : a + ((j + 1 : Nat) : Int) = a + j + 1 := by omega
    by_cases d1 : y ≥ 1073741824
    ·rw [if_pos d1] at hp
     have hne0 : (y / 1073741824 * 1073741824 == 0) = false := by rw [beq_eq_false_iff_ne]; omega
     obtain ⟨H3, e3, g3⟩ := ζhj k t ht gp il L.length (by omega) (atl _ _ _ _ _ _) (atr _ _ _ _ _ _) hgl2 x (sum + part)
     rw [setl] at g3
     cases hlg : entryS t.ligs (sum + part) with
     | none =>
      rw [hlg] at hp e3 g3
      dsimp only at hp g3
      refine .inr ⟨.ret, _, _, ?_, by simp, ⟨rfl, .inr (.inr (.inl ⟨ligaV t, .int .i64 (a + j), .int .i64 (sum + part), .int .i64 x, .int .i64 y, .bool true, rfl⟩))⟩, fin g3 hp⟩
      rw [ζ13]
      simp -implicitDefEqProofs (disch := omega) [e2, hU, orF, hat, hoff, hen, gq, hvb, hw, an, bne, hne0, e3]
     | some id =>
      rw [hlg] at hp e3 g3
      dsimp only at hp g3
      by_cases d2 : y ≥ 2147483648
      ·rw [if_pos d2] at hp an2
       obtain ⟨ob2, H4, e4, g4⟩ := ζde k g3 ip (by omega) (atp _ _ _ _ _ _) x
       rw [setp] at g4
       refine .inr ⟨.ret, _, _, ?_, by simp, ⟨rfl, .inr (.inr (.inr rfl))⟩, fin g4 hp⟩
       rw [ζ13]
       simp -implicitDefEqProofs (disch := omega) [e2, hU, orF, hat, hoff, hen, gq, hvb, hw, an, hne0, e3, ζ4f, an2, bne, e4]
      ·rw [if_neg d2] at hp an2
       have g3 := g3.same L.length (atr _ _ _ _ _ _) (itRow none 1 (.slice none 0 0) encI []) (OwnO.nil encI _ 1) (fun b hb => by simp [itRow] at hb)
       rw [setr] at g3
       obtain ⟨s5, o5, H5, e5, g5⟩ := g3.append1 (bytes := 8) L.length encI_len (atr _ _ _ _ _ _) x (by simp) (by decide)
       rw [setr] at g5
       refine .inl ⟨_, H5, ?_, sum + part, [x], storeG l' x id gone, o5, ob', s5, rfl, g5, by rw [hj1]; exact hyn d2, by omega, by omega, by simp, by rw [hj1]; exact hp⟩
       rw [ζ13, hj1]
       simp -implicitDefEqProofs (disch := omega) [e2, hU, orF, hat, hoff, hen, gq, hvb, hw, an, hne0, e3, ζ4f, an2, bne, e5]
    ·rw [if_neg d1] at hp
     have hne0 : (y / 1073741824 * 1073741824 == 0) = true := by rw [beq_iff_eq]; omega
     rw [if_neg (show ¬ y ≥ 2147483648 by omega)] at an2
     obtain ⟨s5, o5, H5, e5, g5⟩ := gp.append1 (bytes := 8) L.length encI_len (atr _ _ _ _ _ _) x (by omega) (by decide)
     rw [setr] at g5
     simp only [hn_push] at e5
     refine .inl ⟨_, H5, ?_, sum + part, gone ++ [x], l', o5, ob', s5, rfl, g5, by rw [hj1]; exact hyn (by omega), by omega, by omega, by simp; omega, by rw [hj1]; exact hp⟩
     rw [ζ13, hj1]
     simp -implicitDefEqProofs (disch := omega) [e2, hU, orF, hat, hoff, hen, gq, hvb, hw, an, hne0, ζ97, an2, bne, e5])
  (fun e H' ⟨sum, gone, l', og, ob', s, he, g, hl, hs0, hs1, hgl, hp⟩ => by
   subst he
   rw [List.drop_length] at g hp
   obtain ⟨H2, e2, g⟩ := ζes k g ip (by simp) (atp _ _ _ _ _ _)
   rw [setp] at g
   simp only [List.head?_nil, Option.getD_none, List.isEmpty_nil, Bool.not_true, List.tail_nil] at e2 g
   refine ⟨.ret, _, H2, ?_, by simp, ⟨rfl, .inl ⟨ligaV t, .int .i64 sum, s, .int .i64 0, .bool true, rfl⟩⟩, fin g hp⟩
   rw [ζ13]
   simp -implicitDefEqProofs [e2])
 obtain ⟨ob', g⟩ := g
 obtain ⟨rfl, hE⟩ := hE
 refine ⟨ob', H1, ?_, g⟩
 rw [ζbx, nrm_of]
 rcases hE with ⟨b0, b8, b9, b10, b24, rfl⟩ | ⟨b0, b3, b8, b9, b10, b12, b15, b52, rfl⟩ | ⟨b0, b3, b8, b10, b12, b65, rfl⟩ | rfl
 ·simp -implicitDefEqProofs [ζa, hr, ζ98]
 ·simp -implicitDefEqProofs [ζa, hr, ζ84]
 ·simp -implicitDefEqProofs [ζa, hr, ζ85]
 ·simp -implicitDefEqProofs [ζa, hr, ζ86]
end Go.Sw
end
section
namespace Go.Sw
open Go.RowKit
theorem veq_liga (t : LTab) : veq (ligaV t) (ligaV t) = true := veq_boxV (l := ligaC t) fun v hv => by
 simp [ligaC] at hv
 rcases hv with rfl | rfl | rfl | rfl
 ·exact veq_mach _
 ·exact veq_B _
 ·exact veq_B _
 ·exact veq_B _
def ligaW (t : LTab) (L : List It) (il c p3 p4 cp : Nat) (o : Option Nat) (s : List Gl × List Int) (ob : Option Nat) : List It :=
 L.set il (itLine c o s.1) ++ [itLP cp ob s.2, itBlk p3 ⟨[ptrV c], 1, false⟩, itBlk p4 ⟨[ligaV t], 1, false⟩]
set_option maxHeartbeats 2000000 in
theorem liga_do (k : Nat) (t : LTab) (ht : t.ok) (L : List It) (il c p3 p4 cp : Nat) (o : Option Nat) (hil : il < L.length) (n : Int) {H0 : Heap} :
  DoOkG k t.m H0 (ligaW t L il c p3 p4 cp o) (fun s => (s.1.length : Int) = n ∧ KeptOk n s.2) (.func (.func F.ζh) #[] #[ptrV p3, ptrV cp, ptrV p4]) (doLi t) := by
 intro s w j e H X hI st h0 h1 he
 have hlen' := doLi_len t s j e
 have hkept' := ζno t hI.1 hI.2 h0 e
 obtain ⟨l, ps⟩ := s
 dsimp only at hI hlen' hkept'
 have heb := ht.m.ent e he
 have hhas := ht.has e he
 unfold ligaW at st
 dsimp only at st
 obtain ⟨B, hB⟩ : ∃ B : List It, B = [itBlk p3 ⟨[ptrV c], 1, false⟩, itBlk p4 ⟨[ligaV t], 1, false⟩] ++ (X ++ [itBlk H.n ⟨encEn e, 1, false⟩]) := ⟨_, rfl⟩
 obtain ⟨S, hS⟩ : ∃ S : List Gl → Option Nat → List Int → List It, S = fun l' ob' ps' => L.set il (itLine c o l') ++ itLP cp ob' ps' :: B := ⟨_, rfl⟩
 have hSv : ∀ l' ob' ps', S l' ob' ps' = L.set il (itLine c o l') ++ itLP cp ob' ps' :: B := fun _ _ _ => by rw [hS]
 clear hS
 have hpx : ∀ l' ob' ps', (S l' ob' ps')[L.length]? = some (itLP cp ob' ps') := fun l' ob' ps' => by
  rw [hSv, List.getElem?_append_right (by simp)]
  simp
 have hlx : ∀ l' ob' ps', (S l' ob' ps')[il]? = some (itLine c o l') := fun l' ob' ps' => by
  rw [hSv, List.getElem?_append_left (by simpa using hil), List.getElem?_set_self hil]
 have setP : ∀ l' ob' ps' ob2 ps2, (S l' ob' ps').set L.length (itLP cp ob2 ps2) = S l' ob2 ps2 := fun l' ob' ps' ob2 ps2 => by
  rw [hSv, hSv, List.set_append_right _ _ (by simp)]
  simp
 have setL : ∀ l' ob' ps' l2, (S l' ob' ps').set il (itLine c o l2) = S l2 ob' ps' := fun l' ob' ps' l2 => by
  rw [hSv, hSv, List.set_append_left _ _ (by simpa using hil), List.set_set]
 have look : ∀ {H' : Heap} {l' ob' ps'}, Star H0 H' (S l' ob' ps') → H'.get p3 = some ⟨[ptrV c], 1, false⟩ ∧ H'.get p4 = some ⟨[ligaV t], 1, false⟩ ∧ H'.get H.n = some ⟨encEn e, 1, false⟩ ∧ R (T k) F.ζ2o [ptrV c] H' = .ok (.int .i64 l'.length) H' := fun {H' l' ob' ps'} h => by
  have hl := ζgr k h il (hlx _ _ _)
  rw [hSv, hB] at h
  exact ⟨h.memBlk (by simp), h.memBlk (by simp), h.memBlk (by simp), hl⟩
 have st2 : Star H0 (H.push ⟨encEn e, 1, false⟩) (S l w ps) := by
  have := st.push ⟨encEn e, 1, false⟩
  rw [hSv, hB]
  simpa using this
 have fin : ∀ {H' : Heap} {l' ob' ps'}, Star H0 H' (S l' ob' ps') → Star H0 H' (ligaW t L il c p3 p4 cp o (l', ps') ob' ++ X) := fun {H' l' ob' ps'} h => by
  rw [hSv, hB] at h
  have e1 : L.set il (itLine c o l') ++ itLP cp ob' ps' :: ([itBlk p3 ⟨[ptrV c], 1, false⟩, itBlk p4 ⟨[ligaV t], 1, false⟩] ++ (X ++ [itBlk H.n ⟨encEn e, 1, false⟩])) = (ligaW t L il c p3 p4 cp o (l', ps') ob' ++ X) ++ [itBlk H.n ⟨encEn e, 1, false⟩] := by
   unfold ligaW
   simp
  rw [e1] at h
  exact h.ζc9
 have ha15 := fun H => and15 Prog 3 H heb.2.2.1 heb.2.2.2.1
 have ha13 := fun H => and13 Prog 3 H heb.2.2.1 heb.2.2.2.1
 obtain ⟨v3, v4, v7, v8⟩ := look st2
 clear st
 obtain ⟨k1, hk1⟩ : ∃ k1, k1 = if e.flags ≥ 32768 ∧ j < (l.length : Int) then pushP j ps else ps := ⟨_, rfl⟩
 have hdo : doLi t (l, ps) j e = if e.flags / 8192 % 2 = 1 then perfS t k1 e.a 0 [] l else (l, k1) := by
  unfold doLi
  rw [hk1]
 have hk64 : k1.length ≤ 64 := by
  rw [hk1]
  split
  ·rename_i hc
   exact (pushP_ok hI.2 ⟨h0, by rw [← hI.1]; exact hc.2⟩).1
  ·exact hI.2.1
 -- the second part
 have tail : ∀ {H' : Heap} {ob1}, Star H0 H' (S l ob1 k1) → ∃ H'' w', ζ3m k (R (T k)) (ptrV p3) (ptrV cp) (ptrV p4) (ptrV H.n) H' = .ok (.tuple #[]) H'' ∧ (∀ a0 a16, ζ3n k (R (T k)) a0 (ptrV p3) (ptrV cp) (ptrV p4) (ptrV H.n) a16 H' = .ok (.tuple #[]) H'') ∧ Star H0 H'' (ligaW t L il c p3 p4 cp o (doLi t (l, ps) j e) w' ++ X) := fun {H' ob1} h => by
  obtain ⟨w3, w4, w7, _⟩ := look h
  rw [hdo]
  by_cases d : e.flags / 8192 % 2 = 1
  ·rw [if_pos d] at ha13 ⊢
   obtain ⟨ob2, H2, e2, g2⟩ := ζer k t ht h il L.length (by omega) (hlx _ _ _) (hpx _ _ _) hk64 e.a (by omega) (hhas.resolve_left (fun hh => hh d))
   rw [setL, setP] at g2
   refine ⟨H2, ob2, ?_, fun a0 a16 => ?_, fin g2⟩
   ·rw [ζ4d]
    simp -implicitDefEqProofs (disch := omega) [w7, ha13, bne, w3, w4, e2]
   ·rw [ζ4e]
    simp -implicitDefEqProofs (disch := omega) [w7, ha13, bne, w3, w4, e2]
  ·rw [if_neg d] at ha13 ⊢
   refine ⟨H', ob1, ?_, fun a0 a16 => ?_, fin h⟩
   ·rw [ζ4d]
    simp -implicitDefEqProofs (disch := omega) [w7, ha13, bne]
   ·rw [ζ4e]
    simp -implicitDefEqProofs (disch := omega) [w7, ha13, bne]
 by_cases d2 : e.flags ≥ 32768
 ·rw [if_pos d2] at ha15
  by_cases d3 : j < (l.length : Int)
  ·rw [if_pos ⟨d2, d3⟩] at hk1
   obtain ⟨ob1, H2, e2, g2⟩ := ζde k st2 L.length hI.2.1 (hpx _ _ _) j
   rw [setP, ← hk1] at g2
   obtain ⟨H3, w', t1, _, t3⟩ := tail g2
   refine ⟨.tuple #[], H3, w', ?_, t3, ⟨by rw [hlen']; exact hI.1, hkept'⟩⟩
   simp only [callV, List.nil_append, List.cons_append]
   rw [ζ3x, nrm_of]
   simp -implicitDefEqProofs (disch := omega) [ζh, v7, ha15, bne, v3, v8, d3, e2, t1]
  ·rw [if_neg fun h => d3 h.2] at hk1
   rw [← hk1] at st2
   obtain ⟨H3, w', _, t1, t3⟩ := tail st2
   refine ⟨.tuple #[], H3, w', ?_, t3, ⟨by rw [hlen']; exact hI.1, hkept'⟩⟩
   simp only [callV, List.nil_append, List.cons_append]
   rw [ζ3x, nrm_of]
   simp -implicitDefEqProofs (disch := omega) [ζh, v7, ha15, bne, v3, v8, d3, t1]
 ·rw [if_neg d2] at ha15
  rw [if_neg fun h => d2 h.1] at hk1
  rw [← hk1] at st2
  obtain ⟨H3, w', _, t1, t3⟩ := tail st2
  refine ⟨.tuple #[], H3, w', ?_, t3, ⟨by rw [hlen']; exact hI.1, hkept'⟩⟩
  simp only [callV, List.nil_append, List.cons_append]
  rw [ζ3x, nrm_of]
  simp -implicitDefEqProofs (disch := omega) [ζh, v7, ha15, bne, t1]
set_option maxRecDepth 20000 in
set_option maxHeartbeats 1000000 in
theorem ζ95 (k : Nat) (t : LTab) (ht : t.ok) {H0 H : Heap} {L : List It} (h : Star H0 H L) (il : Nat) {c : Nat} {o : Option Nat} {l : List Gl} (hil : L[il]? = some (itLine c o l)) (hl : l.length < 2 ^ 40) :
  ∃ H', R (T k) F.ζ1t [ligaV t, ptrV c] H = .ok (.int .i64 (runL t l).2) H' ∧ Star H0 H' (L.set il (itLine c o (runL t l).1)) := by
 have hll := (List.getElem?_eq_some_iff.1 hil).1
 have st := ((h.push ⟨[ligaV t], 1, false⟩).push ⟨[ptrV c], 1, false⟩).push ⟨[.slice none 0 0], 1, false⟩
 simp only [hn_push] at st
 obtain ⟨H3, hH3⟩ : ∃ H3, H3 = ((H.push ⟨[ligaV t], 1, false⟩).push ⟨[ptrV c], 1, false⟩).push ⟨[.slice none 0 0], 1, false⟩ := ⟨_, rfl⟩
 rw [← hH3] at st
 have ik : (L ++ [itBlk H.n ⟨[ligaV t], 1, false⟩] ++ [itBlk (H.n + 1) ⟨[ptrV c], 1, false⟩] ++ [itBlk (H.n + 1 + 1) ⟨[.slice none 0 0], 1, false⟩])[L.length + 2]? = some (itBlk (H.n + 1 + 1) ⟨[.slice none 0 0], 1, false⟩) := by
  rw [List.getElem?_append_right (by simp)]
  simp
 have st := st.same (L.length + 2) ik (itLP (H.n + 1 + 1) none []) ⟨_, st.get _ ik, .inl ⟨rfl, rfl, rfl⟩⟩ fun b hb => by simpa [itLP, itBlk] using hb
 have eset : ∀ (x1 x2 x3 y : It), (L ++ [x1] ++ [x2] ++ [x3]).set (L.length + 2) y = L ++ ([x1, x2] ++ [y]) := fun x1 x2 x3 y => by
  rw [List.set_append_right _ _ (by simp)]
  simp
 rw [eset] at st
 have st : Star H0 H3 (ligaW t L il c (H.n + 1) H.n (H.n + 1 + 1) o (l, []) none) := by
  refine st.perm ?_
  unfold ligaW
  dsimp only
  rw [set_same hil]
  refine List.Perm.append_left L ?_
  exact List.perm_append_comm.trans (List.Perm.cons _ (List.Perm.swap _ _ _))
 have ePl := plainNew k (.func F.ζh) #[] #[ptrV (H.n + 1), ptrV (H.n + 1 + 1), ptrV H.n] H3
 have st4 := st.push ⟨[.func (.func F.ζh) #[] #[ptrV (H.n + 1), ptrV (H.n + 1 + 1), ptrV H.n]], 1, false⟩
 have hact := ζof k (liga_do k t ht L il c (H.n + 1) H.n (H.n + 1 + 1) o hll (l.length : Int) (H0 := H0)) H3.n
 obtain ⟨H7, w7, eR, st5, _⟩ := ζhc k t.m ht.m (fun (s : List Gl × List Int) (ob : Option Nat) => ligaW t L il c (H.n + 1) H.n (H.n + 1 + 1) o s ob ++ [itBlk H3.n ⟨[.func (.func F.ζh) #[] #[ptrV (H.n + 1), ptrV (H.n + 1 + 1), ptrV H.n]], 1, false⟩]) (fun s => (s.1.length : Int) = (l.length : Int) ∧ KeptOk (l.length : Int) s.2) (fun s => s.1) c
  (fun s ob => ⟨il, o, by
   unfold ligaW
   rw [List.append_assoc, List.getElem?_append_left (by simpa using hll), List.getElem?_set_self hll]⟩) _ _ hact [] (l, []) none ⟨rfl, by simp, fun x hx => by simp at hx⟩ (by simpa [List.append_assoc] using st4) hl
 have hr : runD t.m (fun s : List Gl × List Int => s.1) (fun s i e => (doLi t s i e, i, i + 1)) (2 * (l.length : Int) + 128) (2 * l.length + 128) ((l, []), ⟨0, 0, 0, 0⟩) = runLr t l := by unfold runLr; rfl
 rw [hr] at eR st5
 have b0 := st4.memBlk (c := H.n) (k := ⟨[ligaV t], 1, false⟩) (by unfold ligaW; simp)
 have b1 := st4.memBlk (c := H.n + 1) (k := ⟨[ptrV c], 1, false⟩) (by unfold ligaW; simp)
 refine ⟨H7, ?_, ?_⟩
 ·rw [ζet, nrm_of]
  have v1 := veq_liga t
  have v2 := veq_mach t.m
  unfold runL
  generalize runLr t l = r at eR ⊢
  rw [hH3] at ePl eR b0 b1
  simp only [hn_push] at ePl eR
  simp -implicitDefEqProofs (disch := omega) [ζ1t, ePl, eR, v1, v2]
 ·unfold runL
  generalize runLr t l = r at st5 ⊢
  unfold ligaW at st5
  have := st5.take L.length
  rw [List.append_assoc, List.append_assoc, List.take_append_of_le_length (by simp), List.take_of_length_le (by simp)] at this
  exact this
end Go.Sw
end
section
namespace Go.Sw
open Go.RowKit
theorem ζhz (k : Nat) (hk : k < 1000000) {H : Heap} (b : List Int) (hb : Byt b) (hl : b.length < 2 ^ 31) (p2 p3 : Nat) (old : Value)
  (h2 : H.get p2 = some ⟨[lv encB b], 1, false⟩) (h3 : H.get p3 = some ⟨[old], 1, false⟩) :
  R (T k) F.ζk [ptrV p2, ptrV p3] H = match ligaS b 40 with
   | some x => .ok (.tuple #[]) (H.set p3 (some ⟨[ligaV x], 1, false⟩))
   | none => .panic failV H := by
 rw [ζ8a]
 have ht := ζ96 k hk b hb 40 (by omega) hl H
 have ho := fun H => Of_lv k b H
 cases h : ligaS b 40 with
 | none =>
  rw [h] at ht
  refine ζ15 ⟨H, ?_, Ext.refl H⟩ Flat.fail.alive
  simp -implicitDefEqProofs (disch := omega) [ζk, h2, ho, ht]
 | some x =>
  rw [h] at ht
  simp -implicitDefEqProofs (disch := omega) [ζk, h2, h3, ho, ht]
set_option maxHeartbeats 2000000 in
theorem ζi0 (b : List Int) (hb : Byt b) (ids : List Int) : R (T F.ζl) F.ζu [lv encB b, lv encI ids] Heap.empty = .ok (.bool true) Heap.empty := by
 generalize hk : F.ζl = k
 have hs := ζc3 k (by subst hk; rfl)
 have hk6 : k < 1000000 := by subst hk; decide
 clear hk
 rw [ζal]
 generalize Heap.empty = H
 have hx1 : Ext H (H.push ⟨[lv encB b], 1, false⟩) := (Ext.refl H).push _
 by_cases hl : b.length > 800
 ·have hl' : (b.length : Int) > 800 := by omega
  refine nrm_gc ⟨_, ?_, hx1⟩ (.bool _)
  simp -implicitDefEqProofs (disch := omega) [ζu, hs, hl']
 have hl' : ¬ (b.length : Int) > 800 := by omega
 by_cases hi : ids.length > 40
 ·have hi' : (ids.length : Int) > 40 := by omega
  refine nrm_gc ⟨_, ?_, hx1⟩ (.bool _)
  simp -implicitDefEqProofs (disch := omega) [ζu, hs, hl', hi']
 have hi' : ¬ (ids.length : Int) > 40 := by omega
 have hin := ζhz k hk6 (H := (H.push ⟨[lv encB b], 1, false⟩).push ⟨[.pointer none], 1, false⟩) b hb (by omega) H.n (H.n + 1) (.pointer none) (by simp) (by simp)
 have hrd := fun H' => ζbw k (H := H') (Sl.lv H' 1 b) hb 40 (by omega) (fun _ H' => ζ96 k hk6 b hb 40 (by omega) (by omega) H')
 unfold ligaO ligaN at hrd
 rw [if_pos (by omega), if_pos (by omega)] at hrd
 cases h : ligaS b 40 with
 | none =>
  rw [h] at hin hrd
  simp only [ligaP, Option.isSome_none, Bool.false_eq_true, if_false] at hrd
  have ht := Try_no k F.ζk #[ptrV H.n, ptrV (H.n + 1)] hin
  refine nrm_gc ⟨_, ?_, hx1.push ⟨[.pointer none], 1, false⟩⟩ (.bool _)
  simp -implicitDefEqProofs (disch := omega) [ζu, hs, hl', hi', ht, hrd]
 | some t =>
  rw [h] at hin hrd
  simp only [ligaP, Option.isSome_some, if_true] at hrd
  have ht := Try_ok k F.ζk #[ptrV H.n, ptrV (H.n + 1)] hin
  simp at ht
  have hok := ligaS_ok hb (by omega) (by omega) (by omega) h
  have g := ((Star.nil H).push ⟨[lv encB b], 1, false⟩).push ⟨[ligaV t], 1, false⟩
  simp only [List.nil_append, List.cons_append, hn_push] at g
  obtain ⟨c1, o1, H1, e1, g⟩ := ζby k g ids (by omega)
  simp only [List.nil_append, List.cons_append] at g
  obtain ⟨c2, o2, H2, e2, g⟩ := ζby k g ids (by omega)
  simp only [List.nil_append, List.cons_append] at g
  have b2 := g.get 1 rfl
  have v2 := veq_liga t
  obtain ⟨H3, e3, g⟩ := ζ95 k t hok g 2 rfl (by simp; omega)
  simp only [List.set_cons_zero, List.set_cons_succ] at g
  obtain ⟨H4, e4, g⟩ := ζ95 k t hok g 3 rfl (by simp; omega)
  simp only [List.set_cons_zero, List.set_cons_succ] at g
  have hlen := runL_len t hok.m (newG ids)
  rw [newG_len] at hlen
  generalize runL t (newG ids) = r at e3 e4 g hlen
  have gl1 := ζ6p k hk6 g 2 rfl (by omega)
  have gl2 := ζ6p k hk6 g 3 rfl (by omega)
  have hsame := Same_run k (Rd.lv encG_len H4 r.1) (Rd.lv encG_len H4 r.1) (by omega) (by omega)
  refine nrm_gc ⟨H4, ?_, g.ext⟩ (.bool _)
  simp -implicitDefEqProofs (disch := omega) [ζu, hs, hl', hi', ht, hrd, e1, e2, b2, v2, e3, e4, gl1, gl2, hsame]
theorem ζna (vs : List Value) (h : ArgsLay [.one (.slice [.int .u8]), .one (.slice [.int .i64])] vs) : ∃ H', R (T F.ζl) F.ζu vs Heap.empty = .ok (.bool true) H' := by
 obtain ⟨v1, _, rfl, h1, h⟩ := h.head
 obtain ⟨v2, _, rfl, h2, h⟩ := h.head
 obtain rfl := h.done
 obtain ⟨b, rfl, hb⟩ := arg_B h1
 obtain ⟨ids, rfl, _⟩ := arg_I h2
 exact ⟨_, ζi0 b hb ids⟩
theorem wf_u32 {n : Int} (h : (Lit.int .u32 n).wf = true) : 0 ≤ n ∧ n < 4294967296 := by
 simp [Lit.wf, IntKind.min, IntKind.max, IntKind.signed, IntKind.bits] at h
 omega
abbrev lplSh : ASh := .agg [.slice [.int .u8], .slice [.slice [.int .u8]], .slice [.int .i64, .int .i64, .int .i64, .int .i64], .int .u8, .slice [.int .u32], .slice [.int .u16], .slice [.int .u16]]
theorem row_F {r : List Da} {cs : List Value} (h : LayRow [.int .u32] r cs) : ∃ n : Int, cs = encF n ∧ (0 ≤ n ∧ n < 4294967296) := by
 obtain ⟨_, v1, _, _, rfl, h1, h⟩ := h.head
 obtain rfl := h.done
 obtain ⟨n, rfl, w⟩ := h1.intv
 exact ⟨n, rfl, wf_u32 w⟩
theorem row_H {r : List Da} {cs : List Value} (h : LayRow [.int .u16] r cs) : ∃ n : Int, cs = encH n ∧ (0 ≤ n ∧ n < 65536) := by
 obtain ⟨_, v1, _, _, rfl, h1, h⟩ := h.head
 obtain rfl := h.done
 obtain ⟨n, rfl, w⟩ := h1.intv
 exact ⟨n, rfl, wf_u16 w⟩
theorem arg_lpl {v : Value} (h : ArgLay lplSh v) : ∃ x, v = lplV x ∧ x.ok := by
 cases h with
 | agg ss ds vs h =>
  obtain ⟨_, v1, _, _, rfl, h1, h⟩ := h.head
  obtain ⟨_, v2, _, _, rfl, h2, h⟩ := h.head
  obtain ⟨_, v3, _, _, rfl, h3, h⟩ := h.head
  obtain ⟨_, v4, _, _, rfl, h4, h⟩ := h.head
  obtain ⟨_, v5, _, _, rfl, h5, h⟩ := h.head
  obtain ⟨_, v6, _, _, rfl, h6, h⟩ := h.head
  obtain ⟨_, v7, _, _, rfl, h7, h⟩ := h.head
  obtain rfl := h.done
  obtain ⟨a, rfl, wa⟩ := Lay.list (enc := encB) (ok := fun n => 0 ≤ n ∧ n < 256) (fun r cs h => row_B h) h1
  obtain ⟨b, rfl, wb⟩ := Lay.list (enc := encBR) (ok := Byt) (fun r cs h => row_BR h) h2
  obtain ⟨c, rfl, wc⟩ := Lay.list (enc := encEn) (ok := fun _ => True) (fun r cs h => row_En h) h3
  obtain ⟨d, rfl, wd⟩ := h4.intv
  obtain ⟨f, rfl, wf⟩ := Lay.list (enc := encF) (ok := fun n => 0 ≤ n ∧ n < 4294967296) (fun r cs h => row_F h) h5
  obtain ⟨p, rfl, wp⟩ := Lay.list (enc := encH) (ok := fun n => 0 ≤ n ∧ n < 65536) (fun r cs h => row_H h) h6
  obtain ⟨q, rfl, wq⟩ := Lay.list (enc := encH) (ok := fun n => 0 ≤ n ∧ n < 65536) (fun r cs h => row_H h) h7
  exact ⟨⟨⟨a, b, c, d⟩, f, p, q⟩, rfl, ⟨⟨wa, wb, wf_u8 wd⟩, wf, wp, wq⟩⟩
end Go.Sw
end
section
namespace Go.Sw
open Go.RowKit
theorem names_ok : NamesOk Prog := NamesOk.of (by kernel_rfl)
theorem mixed_ok : Prog.follows .mixedOrders = true := Checked.mixed Go.Proofs.Try.checked
theorem laid_ok : laidOutB Prog = true := by kernel_rfl
theorem ζnl : SpIs Prog F.ζn fun _ args H => cloneV 3 12 args H :=
 clone_is (c := { P := Prog, kp := kpS, sp := fun _ => none }) names_ok mixed_ok (t := 70) (e := 91) (by kernel_rfl) fun call a H => (ζ3b 0 _ call a H).trans (by
  unfold ζn cloneF
  simp only [be_70_0, ap_70, beR_bare])
theorem ζnk : SpIs Prog F.ζ7 fun _ args H => cloneV 2 16 args H :=
 clone_is (c := { P := Prog, kp := kpS, sp := fun _ => none }) names_ok mixed_ok (t := 48) (e := 115) (by kernel_rfl) fun call a H => (ζ3a 0 _ call a H).trans (by
  unfold ζ7 cloneF
  simp only [be_48_0, ap_48, beR_bare])
theorem ζnm : SpIs Prog F.ζo fun _ args H => cloneV 2 40 args H :=
 clone_is (c := { P := Prog, kp := kpS, sp := fun _ => none }) names_ok mixed_ok (t := 167) (e := 165) (by kernel_rfl) fun call a H => (ζ3c 0 _ call a H).trans (by
  unfold ζo cloneF
  simp only [be_167_0, ap_167, beR_bare])
theorem more_is (f : FuncId) (s : Sp) (h : moreS f = some s) : SpIs Prog f s := by
 unfold moreS at h
 cases h0 : Nat.beq f 35 with
 | true => have := Nat.eq_of_beq_eq_true h0; subst this; rw [h0, cond_true] at h; injection h with h; subst h; exact try_is
 | false =>
 rw [h0, cond_false] at h
 cases h1 : Nat.beq f 104 with
 | true => have := Nat.eq_of_beq_eq_true h1; subst this; rw [h1, cond_true] at h; injection h with h; subst h; exact ζnk
 | false =>
 rw [h1, cond_false] at h
 cases h2 : Nat.beq f 118 with
 | true => have := Nat.eq_of_beq_eq_true h2; subst this; rw [h2, cond_true] at h; injection h with h; subst h; exact ζnl
 | false =>
 rw [h2, cond_false] at h
 cases h3 : Nat.beq f 159 with
 | true => have := Nat.eq_of_beq_eq_true h3; subst this; rw [h3, cond_true] at h; injection h with h; subst h; exact ζnm
 | false =>
 rw [h3, cond_false] at h
 cases h4 : Nat.beq f 244 with
 | true => rw [h4, cond_true] at h; injection h with h; subst h; exact SpIs.stuck _ _
 | false =>
 rw [h4, cond_false] at h
 cases h
theorem T_prog (k : Nat) : (T k).c.P = Prog := by unfold T C; rfl
theorem told_ok {k m : Nat} (hsp : okTrue (run (baseCfg Prog kpS moreS) m (k % 1000000) [] Heap.empty) = true) : SpOk (T k).c := by
 have h0 : CallOk Prog (run (baseCfg Prog kpS moreS) m) := run_ok (c := baseCfg Prog kpS moreS) names_ok mixed_ok (SpOk.base more_is) m
 have h1 : SpOk (C k) := by
  unfold C
  exact SpOk.of (P := Prog) (kp := kpS) (speaks := speaksT) (more := moreS) (k := k % 1000000) h0 hsp more_is
 exact h1
end Go.Sw
end
section
set_option maxRecDepth 100000
set_option linter.unusedVariables false
namespace Go.Sw
noncomputable section
end
end Go.Sw
end
section
namespace Go.Sw
open Go.RowKit
structure SPlan where
 p : Plan
 vals : List Int
def SPlan.ok (x : SPlan) : Prop := x.p.ok
def SSmall (x : SPlan) (n : Nat) : Prop := x.p.cls.length ≤ 40 ∧ x.p.rows.length ≤ 20 ∧ x.p.ents.length ≤ 40 ∧ x.vals.length ≤ 100 ∧ n ≤ 60
instance (x : SPlan) (n : Nat) : Decidable (SSmall x n) := by unfold SSmall; exact inferInstance
end Go.Sw
end
section
namespace Go.Sw
open Go.RowKit
theorem ζfz : ∀ n : Nat, repeatCells [Value.int .i64 0] n = rows encI (List.replicate n 0)
 | 0 => rfl
 | n + 1 => by
  have ih := ζfz n
  show [Value.int .i64 0] ++ repeatCells [Value.int .i64 0] n = _
  rw [ih, List.replicate_succ]
  rfl
end Go.Sw
end
section
namespace Go.Sw
open Go.RowKit
theorem slOf {α : Type} {enc : α → List Value} {H : Heap} {m b : Nat} {k : Blk} (l : List α) (hg : H.get b = some k) (hk : k.cells = rows enc l) (he : ∀ x, (enc x).length = m) : Sl H m (.slice (some ⟨b, 0, none⟩) l.length l.length) enc l :=
 .inr (.inr ⟨b, 0, _, _, rfl, Nat.le_refl _, hg, by rw [List.drop_zero, hk, List.take_of_length_le (by rw [ζi he]; exact Nat.le_refl _)]⟩)
theorem ζij (N : Nat) (hN : 0 < N) : rows encI (longIds N) = (rows encI (List.replicate N 0)).take (N - 1) ++ Value.int .i64 1 :: (rows encI (List.replicate N 0)).drop N := by
 have hr : ∀ l : List Int, rows encI l = l.map (Value.int .i64) := fun l => by
  induction l with
  | nil => rfl
  | cons a l ih => rw [List.map_cons, ← ih]; rfl
 rw [hr, hr]
 unfold longIds
 rw [List.map_set, List.map_replicate, List.set_eq_take_append_cons_drop, if_pos (by simp; omega), show N - 1 + 1 = N from by omega]
theorem long_ix (N : Nat) (hN : 0 < N) {H : Heap} {b : Nat} (hb : H.get b = some ⟨repeatCells [Value.int .i64 0] N, 1, false⟩) (H' : Heap) : ixS 1 (.slice (some ⟨b, 0, none⟩) N N) (.int .i64 ((N : Int) - 1)) H' = .ok (.pointer (some ⟨b, N - 1, none⟩)) H' := by
 unfold ixS
 dsimp only
 rw [if_pos ⟨by omega, by omega⟩]
 have : ((N : Int) - 1).toNat = N - 1 := by omega
 simp [this]
theorem long_len (N : Nat) : N ≤ (repeatCells [Value.int .i64 0] N).length := by rw [ζfz, ζi encI_len, List.length_replicate]; omega
theorem long_sp (N : Nat) (hN : 0 < N) : splice (repeatCells [Value.int .i64 0] N) (N - 1) [Value.int .i64 1] = rows encI (longIds N) := by
 rw [ζfz, ζij N hN]
 have h1 : N - 1 + 1 = N := by omega
 simp [splice, h1]
end Go.Sw
end
section
namespace Go.Sw
open Go.RowKit
theorem fzS {α : Type} {enc : α → List Value} {m n0 d b off n cap : Nat} {H : Heap} {k : Blk} {l : List α} (hb : n0 ≤ b) (hg : H.get b = some k) (hro : k.ro = false) (hesz : k.esz = m) (hfit : off + n * m ≤ k.cells.length) (hl : n = l.length) (hc : (k.cells.drop off).take (n * m) = rows enc l) (hs : ∀ x, x ∈ l → ∀ v, v ∈ enc x → Still v) :
  fzV n0 H (d + 2) (.slice (some ⟨b, off, none⟩) n cap) = some (lv enc l, [b]) := by
 have hlt : Nat.blt b n0 = false := by
  cases hb' : Nat.blt b n0 with
  | false => rfl
  | true => have := Nat.le_of_ble_eq_true hb'; omega
 unfold fzV
 dsimp only
 rw [hlt, cond_false, hg]
 dsimp only
 rw [hro, hesz, show (false || !Nat.ble (off + n * m) k.cells.length) = false from by simp; exact hfit, cond_false, hc, ζaa (ζfh hs), hl]
 rfl
abbrev pairPl : LPlan := ⟨lgPlan, [0, 2147483648], [0, 1], [8, 9]⟩
set_option maxRecDepth 20000 in
set_option maxHeartbeats 2000000 in
theorem ζmp (k : Nat) (H : Heap) : R (T k) F.ζ2w [] H = .ok (lplV pairPl) H := by
 rw [ζds]
 have g := ((((((Star.nil H).push ⟨[.slice none 0 0, .slice none 0 0, .slice none 0 0, .int .u8 0, .slice none 0 0, .slice none 0 0, .slice none 0 0], 1, false⟩).push ⟨[.int .u8 0, .int .u8 0, .int .u8 0, .int .u8 0, .int .u8 1, .int .u8 2], 1, false⟩).push ⟨[.int .u8 0, .int .u8 0, .int .u8 0, .int .u8 0, .int .u8 1, .int .u8 2], 1, false⟩).push ⟨[.slice (some ⟨H.n + 1, 0, none⟩) 6 6, .slice (some ⟨H.n + 1 + 1, 0, none⟩) 6 6], 1, false⟩).push ⟨[.int .u8 4, .int .u8 5], 1, false⟩).push ⟨[.int .i64 0, .int .i64 0, .int .i64 0, .int .i64 0, .int .i64 0, .int .i64 32768, .int .i64 0, .int .i64 0, .int .i64 0, .int .i64 40960, .int .i64 0, .int .i64 0], 4, false⟩
 have g := (((g.push ⟨[.slice (some ⟨H.n + 1 + 1 + 1 + 1, 0, none⟩) 2 2, .slice (some ⟨H.n + 1 + 1 + 1, 0, none⟩) 2 2, .slice (some ⟨H.n + 1 + 1 + 1 + 1 + 1, 0, none⟩) 3 3, .int .u8 2], 1, false⟩).push ⟨[.int .u32 0, .int .u32 2147483648], 1, false⟩).push ⟨[.int .u16 0, .int .u16 1], 1, false⟩).push ⟨[.int .u16 8, .int .u16 9], 1, false⟩
 simp only [List.nil_append, List.cons_append, hn_push] at g
 obtain ⟨H1, e1, g, _⟩ := g.stAll 0 rfl [.slice (some ⟨H.n + 1 + 1 + 1 + 1, 0, none⟩) 2 2, .slice (some ⟨H.n + 1 + 1 + 1, 0, none⟩) 2 2, .slice (some ⟨H.n + 1 + 1 + 1 + 1 + 1, 0, none⟩) 3 3, .int .u8 2, .slice (some ⟨H.n + 1 + 1 + 1 + 1 + 1 + 1 + 1, 0, none⟩) 2 2, .slice (some ⟨H.n + 1 + 1 + 1 + 1 + 1 + 1 + 1 + 1, 0, none⟩) 2 2, .slice (some ⟨H.n + 1 + 1 + 1 + 1 + 1 + 1 + 1 + 1 + 1, 0, none⟩) 2 2] 7 rfl rfl
 simp only [List.set_cons_zero] at g
 have b0 := g.get 0 rfl
 have q1 := fzS (n0 := H.n) (d := 4) (cap := 6) (off := 0) (n := 6) (enc := encB) (m := 1) (l := [0, 0, 0, 0, 1, 2]) (by omega) (g.get 1 rfl) rfl rfl (by decide) rfl rfl (fun x _ v hv => by simp at hv; subst hv; trivial)
 have q2 := fzS (n0 := H.n) (d := 4) (cap := 6) (off := 0) (n := 6) (enc := encB) (m := 1) (l := [0, 0, 0, 0, 1, 2]) (by omega) (g.get 2 rfl) rfl rfl (by decide) rfl rfl (fun x _ v hv => by simp at hv; subst hv; trivial)
 have q4 := fzS (n0 := H.n) (d := 5) (cap := 2) (off := 0) (n := 2) (enc := encB) (m := 1) (l := [4, 5]) (by omega) (g.get 4 rfl) rfl rfl (by decide) rfl rfl (fun x _ v hv => by simp at hv; subst hv; trivial)
 have q5 := fzS (n0 := H.n) (d := 5) (cap := 3) (off := 0) (n := 3) (enc := encEn) (m := 4) (l := [⟨0, 0, 0, 0⟩, ⟨0, 32768, 0, 0⟩, ⟨0, 40960, 0, 0⟩]) (by omega) (g.get 5 rfl) rfl rfl (by decide) rfl rfl (fun x _ v hv => by simp at hv; rcases hv with rfl | rfl | rfl | rfl <;> trivial)
 have q7 := fzS (n0 := H.n) (d := 5) (cap := 2) (off := 0) (n := 2) (enc := encF) (m := 1) (l := [0, 2147483648]) (by omega) (g.get 7 rfl) rfl rfl (by decide) rfl rfl (fun x _ v hv => by simp at hv; subst hv; trivial)
 have q8 := fzS (n0 := H.n) (d := 5) (cap := 2) (off := 0) (n := 2) (enc := encH) (m := 1) (l := [0, 1]) (by omega) (g.get 8 rfl) rfl rfl (by decide) rfl rfl (fun x _ v hv => by simp at hv; subst hv; trivial)
 have q9 := fzS (n0 := H.n) (d := 5) (cap := 2) (off := 0) (n := 2) (enc := encH) (m := 1) (l := [8, 9]) (by omega) (g.get 9 rfl) rfl rfl (by decide) rfl rfl (fun x _ v hv => by simp at hv; subst hv; trivial)
 have q3 : fzV H.n H1 7 (.slice (some ⟨H.n + 1 + 1 + 1, 0, none⟩) 2 2) = some (lv encBR [[0, 0, 0, 0, 1, 2], [0, 0, 0, 0, 1, 2]], [H.n + 1 + 1 + 1, H.n + 1, H.n + 1 + 1]) := by
  have hlt : Nat.blt (H.n + 1 + 1 + 1) H.n = false := by
   cases hb' : Nat.blt (H.n + 1 + 1 + 1) H.n with
   | false => rfl
   | true => have := Nat.le_of_ble_eq_true hb'; omega
  unfold fzV
  dsimp only
  rw [hlt, cond_false, g.get 3 rfl]
  dsimp only
  show Option.map _ (mapF (fzV H.n H1 6) [.slice (some ⟨H.n + 1, 0, none⟩) 6 6, .slice (some ⟨H.n + 1 + 1, 0, none⟩) 6 6]) = _
  simp only [mapF, q1, q2]
  rfl
 have hfz : fzV H.n H1 fzDepth (.agg #[.slice (some ⟨H.n + 1 + 1 + 1 + 1, 0, none⟩) 2 2, .slice (some ⟨H.n + 1 + 1 + 1, 0, none⟩) 2 2, .slice (some ⟨H.n + 1 + 1 + 1 + 1 + 1, 0, none⟩) 3 3, .int .u8 2, .slice (some ⟨H.n + 1 + 1 + 1 + 1 + 1 + 1 + 1, 0, none⟩) 2 2, .slice (some ⟨H.n + 1 + 1 + 1 + 1 + 1 + 1 + 1 + 1, 0, none⟩) 2 2, .slice (some ⟨H.n + 1 + 1 + 1 + 1 + 1 + 1 + 1 + 1 + 1, 0, none⟩) 2 2]) = some (lplV pairPl, [H.n + 1 + 1 + 1 + 1, H.n + 1 + 1 + 1, H.n + 1, H.n + 1 + 1, H.n + 1 + 1 + 1 + 1 + 1, H.n + 1 + 1 + 1 + 1 + 1 + 1 + 1, H.n + 1 + 1 + 1 + 1 + 1 + 1 + 1 + 1, H.n + 1 + 1 + 1 + 1 + 1 + 1 + 1 + 1 + 1]) := by
  have q6 : fzV H.n H1 7 (.int .u8 2) = some (.int .u8 2, []) := rfl
  show Option.map _ (mapF (fzV H.n H1 7) [_, _, _, _, _, _, _]) = _
  simp only [mapF, q3, q4, q5, q6, q7, q8, q9]
  rfl
 have hal : Flat (lplV pairPl) := .aggL (.cons (Flat.B _) (.cons (Flat.BRs _) (.cons (Flat.Ens _) (.cons (.int _ _) (.cons (.lv fun p _ => .cons (.int _ _) .nil) (.cons (.lv fun p _ => .cons (.int _ _) .nil) (.cons (.lv fun p _ => .cons (.int _ _) .nil) .nil)))))))
 refine nrm_fz (H' := H1) ?_ hfz g.ext hal.alive
 simp -implicitDefEqProofs (disch := omega) [-stR_ptr, stR_ptr 4 _ 0, ζ2w, e1, b0]
theorem lg_l1 (k : Nat) {H0 H : Heap} {c : Nat} {p1 p2 p3 p4 p6 p7 : Value} (nv : Value) (K : Nat) (hK : K ≤ 200) (g : Star H0 H [itBlk c ⟨[p1, p2, p3, p4, .slice none 0 0, p6, p7], 1, false⟩, itRow none 1 (.slice none 0 0) encF []]) :
  ∃ s' o' H', loopN (ζ27 k (R (T k))) loopFuel [(5, nv), (6, ptrV c), (31, .int .i64 K), (32, .int .i64 0)] H =
   .ok (.exit 0, [(5, nv), (6, ptrV c), (31, .int .i64 K), (32, .int .i64 K), (33, .bool false)]) H' ∧
   Star H0 H' [itBlk c ⟨[p1, p2, p3, p4, s', p6, p7], 1, false⟩, itRow o' 1 s' encF (List.replicate K 0)] := by
 obtain ⟨xx, e', H1, hr1, rfl, rfl, s', o', g1⟩ := loop_up (body := ζ27 k (R (T k))) K
  (fun j e H' => e = [(5, nv), (6, ptrV c), (31, .int .i64 K), (32, .int .i64 j)] ∧ ∃ s' o', Star H0 H' [itBlk c ⟨[p1, p2, p3, p4, s', p6, p7], 1, false⟩, itRow o' 1 s' encF (List.replicate j 0)])
  (fun xx e H' => xx = .exit 0 ∧ e = [(5, nv), (6, ptrV c), (31, .int .i64 K), (32, .int .i64 K), (33, .bool false)] ∧ ∃ s' o', Star H0 H' [itBlk c ⟨[p1, p2, p3, p4, s', p6, p7], 1, false⟩, itRow o' 1 s' encF (List.replicate K 0)])
  (e0 := [(5, nv), (6, ptrV c), (31, .int .i64 K), (32, .int .i64 0)]) (H0 := H) ⟨rfl, _, none, g⟩ (by omega)
  (fun j e H' hj ⟨he, s', o', g⟩ => by
   subst he
   have hjl : (j : Int) < K := by omega
   have b8 := g.get 0 rfl
   obtain ⟨s2, o2, H2, e2, g2⟩ := g.append1 1 (bytes := 4) encF_len rfl (0 : Int) (by rw [List.length_replicate]; omega) (by decide)
   simp only [List.set_cons_zero, List.set_cons_succ] at g2
   rw [show List.replicate j (0 : Int) ++ [0] = List.replicate (j + 1) 0 by rw [List.replicate_succ']] at g2
   have b9 := g2.get 0 rfl
   obtain ⟨a9, n9, c9, rfl⟩ := (g2.row 1 rfl).shape
   have g3 := g2.setBlk 0 rfl ⟨[p1, p2, p3, p4, .slice a9 n9 c9, p6, p7], 1, false⟩
   simp only [List.set_cons_zero] at g3
   refine .inl ⟨_, _, ?_, rfl, _, o2, g3⟩
   rw [ζ49]
   simp -implicitDefEqProofs (disch := omega) [hjl, b8, e2, b9])
  (fun e H' ⟨he, s', o', g⟩ => by
   subst he
   refine ⟨.exit 0, _, H', ?_, by simp, rfl, rfl, s', o', g⟩
   rw [ζ49]
   simp -implicitDefEqProofs)
 exact ⟨s', o', H1, hr1, g1⟩
theorem lg_l2 (k : Nat) {H : Heap} {c : Nat} {p1 p2 p3 p4 p6 p7 sA vI : Value} (N M : Nat) (hN : 2 ≤ N) (hM : N ≤ M) (hNb : M ≤ 200) (hc : H.get c = some ⟨[p1, p2, p3, p4, sA, p6, p7], 1, false⟩) (hA : ∀ H', lnS sA H' = .ok (.int .i64 M) H') (hI : Sl H 1 vI encI (longIds N)) (r : List Gl) (hrl : r.length = N)
  (hr : ∀ i : Nat, i < N → r[i]? = some (if M ≤ min N 64 then (if i = N - M then ⟨9, i⟩ else ⟨65535, i⟩) else ⟨if i + 1 = N then 1 else 0, i⟩)) :
  ∃ H', loopN (ζ28 k (R (T k))) loopFuel [(5, .int .i64 N), (6, ptrV c), (7, vI), (13, .bool (decide (M ≤ min N 64))), (84, lv encG r), (85, .int .i64 N), (86, .int .i64 0)] H =
   .ok (.exit 2, [(5, .int .i64 N), (6, ptrV c), (7, vI), (13, .bool (decide (M ≤ min N 64))), (84, lv encG r), (85, .int .i64 N), (86, .int .i64 N), (87, .bool false)]) H' ∧ Ext H H' := by
 obtain ⟨xx, e', H1, hr1, rfl, rfl, g1⟩ := loop_up (body := ζ28 k (R (T k))) N
  (fun j e H' => e = [(5, .int .i64 N), (6, ptrV c), (7, vI), (13, .bool (decide (M ≤ min N 64))), (84, lv encG r), (85, .int .i64 N), (86, .int .i64 j)] ∧ Ext H H')
  (fun xx e H' => xx = .exit 2 ∧ e = [(5, .int .i64 N), (6, ptrV c), (7, vI), (13, .bool (decide (M ≤ min N 64))), (84, lv encG r), (85, .int .i64 N), (86, .int .i64 N), (87, .bool false)] ∧ Ext H H')
  (e0 := [(5, .int .i64 N), (6, ptrV c), (7, vI), (13, .bool (decide (M ≤ min N 64))), (84, lv encG r), (85, .int .i64 N), (86, .int .i64 0)]) (H0 := H) ⟨rfl, Ext.refl _⟩ (by omega)
  (fun j e H' hj ⟨he, hx⟩ => by
   subst he
   have hjl : (j : Int) < N := by omega
   have hq := hr j hj
   have i1 := fun H' => ixS_lvN encG_len r .i64 j _ hq H'
   obtain ⟨p, i2, i3⟩ := hI.ix1 encI_len j _ (ζa7 hj) _ rfl
   have hcn : ¬ c = H'.n := by have := Heap.get_lt (hx.get hc); omega
   have hcn2 : ¬ c = H'.n + 1 := by have := Heap.get_lt (hx.get hc); omega
   have hc2 := hx.get hc
   by_cases hf : M ≤ min N 64
   ·rw [if_pos hf] at i1
    rw [decide_eq_true hf]
    by_cases h0 : j = N - M
    ·rw [if_pos h0] at i1
     have i4 := i3 (H'.push ⟨encG ⟨9, (j : Nat)⟩, 1, false⟩) (hx.push _)
     have hjm : ((j : Int) == (N : Int) - (M : Int)) = true := by rw [beq_iff_eq]; omega
     refine .inl ⟨_, (H'.push ⟨encG ⟨9, (j : Nat)⟩, 1, false⟩).push ⟨encG ⟨9, (j : Nat)⟩, 1, false⟩, ?_, rfl, (hx.push _).push _⟩
     rw [ζ1r]
     simp -implicitDefEqProofs (disch := omega) [hjl, i1, i2, i4, hc2, hcn, hcn2, hA, hjm, ζ48]
    ·rw [if_neg h0] at i1
     have i4 := i3 (H'.push ⟨encG ⟨65535, (j : Nat)⟩, 1, false⟩) (hx.push _)
     have hjm : ((j : Int) == (N : Int) - (M : Int)) = false := by rw [beq_eq_false_iff_ne]; omega
     have hjg : (j : Int) > (N : Int) - (M : Int) := by omega
     refine .inl ⟨_, (H'.push ⟨encG ⟨65535, (j : Nat)⟩, 1, false⟩).push ⟨encG ⟨65535, (j : Nat)⟩, 1, false⟩, ?_, rfl, (hx.push _).push _⟩
     rw [ζ1r]
     simp -implicitDefEqProofs (disch := omega) [hjl, i1, i2, i4, hc2, hcn, hcn2, hA, hjm, hjg, ζ48]
   ·rw [if_neg hf] at i1
    rw [decide_eq_false hf]
    obtain ⟨y, hy⟩ : ∃ y : Int, y = if j + 1 = N then 1 else 0 := ⟨_, rfl⟩
    rw [← hy] at i1 i3
    have i4 := i3 (H'.push ⟨encG ⟨y, (j : Nat)⟩, 1, false⟩) (hx.push _)
    refine .inl ⟨_, (H'.push ⟨encG ⟨y, (j : Nat)⟩, 1, false⟩).push ⟨encG ⟨y, (j : Nat)⟩, 1, false⟩, ?_, rfl, (hx.push _).push _⟩
    rw [ζ1r]
    simp -implicitDefEqProofs (disch := omega) [hjl, i1, i2, i4, hc2, hcn, hcn2, hA, ζ8m])
  (fun e H' ⟨he, hx⟩ => by
   subst he
   refine ⟨.exit 2, _, H', ?_, by simp, rfl, rfl, hx⟩
   rw [ζ1r]
   simp -implicitDefEqProofs)
 exact ⟨H1, hr1, g1⟩
theorem ζhq : pairPl.p.ok := ζft byt45 _ _ _
set_option maxRecDepth 20000 in
set_option maxHeartbeats 4000000 in
theorem ζjc (u w : Int) (hu : 0 ≤ u ∧ u < 256) (hw : 0 ≤ w ∧ w < 256) : R (T F.ζl) F.ζ9 [.int .u8 u, .int .u8 w] Heap.empty = .ok (.bool true) Heap.empty := by
 generalize hk : F.ζl = k
 have hs := ζc3 k (by subst hk; rfl)
 have hW : ownW k = .no := by subst hk; rfl
 have hk6 : k < 1000000 := by subst hk; decide
 clear hk
 rw [ζb5]
 generalize Heap.empty = H
 obtain ⟨N, hN⟩ : ∃ N : Nat, 2 + u % 120 = (N : Int) := ⟨(2 + u % 120).toNat, by omega⟩
 obtain ⟨K, hK⟩ : ∃ K : Nat, (N : Int) + w % 3 - 1 = (K : Int) := ⟨((N : Int) + w % 3 - 1).toNat, by omega⟩
 have hN0 : 2 ≤ N ∧ N ≤ 121 := by omega
 have hK0 : N ≤ K + 1 ∧ K ≤ 150 := by omega
 have q3 := fun H => bin_rem Prog 3 H .i64 u 120 (by decide)
 have q4 := fun H => bin_rem Prog 3 H .i64 w 3 (by decide)
 rw [Int.tmod_eq_emod_of_nonneg hu.1] at q3
 rw [Int.tmod_eq_emod_of_nonneg hw.1] at q4
 have hpr := fun H => ζmp k H
 have g := (Star.nil H).push ⟨[lv encB lgPlan.cls, lv encBR lgPlan.rows, lv encEn lgPlan.ents, .int .u8 lgPlan.wide, .slice none 0 0, lv encH [0, 1], lv encH [8, 9]], 1, false⟩
 have g := g.more_row (Ext.refl _) (OwnO.nil encF _ 1) (fun b hb => by cases hb)
 simp only [List.nil_append, List.cons_append, hn_push] at g
 obtain ⟨sA, oA, H1, e1, g⟩ := lg_l1 k (.int .i64 N) K (by omega) g
 have b1 := g.get 0 rfl
 obtain ⟨sB, oB, H2, e2, g⟩ := g.append1 1 (bytes := 4) encF_len rfl (2147483648 : Int) (by rw [List.length_replicate]; omega) (by decide)
 simp only [List.set_cons_zero, List.set_cons_succ] at g
 have hacts : List.replicate K (0 : Int) ++ [2147483648] = lgActs (K + 1) := by unfold lgActs; rw [Nat.add_sub_cancel]
 rw [hacts] at g
 have b2 := g.get 0 rfl
 obtain ⟨aB, nB, cB, rfl⟩ := (g.row 1 rfl).shape
 have g := g.setBlk 0 rfl ⟨[lv encB lgPlan.cls, lv encBR lgPlan.rows, lv encEn lgPlan.ents, .int .u8 lgPlan.wide, .slice aB nB cB, lv encH [0, 1], lv encH [8, 9]], 1, false⟩
 simp only [List.set_cons_zero] at g
 obtain ⟨H3, hH3⟩ : ∃ H3, H3 = H2.set H.n (some ⟨[lv encB lgPlan.cls, lv encBR lgPlan.rows, lv encEn lgPlan.ents, .int .u8 lgPlan.wide, .slice aB nB cB, lv encH [0, 1], lv encH [8, 9]], 1, false⟩) := ⟨_, rfl⟩
 rw [← hH3] at g
 have g := g.push ⟨repeatCells [Value.int .i64 0] N, 1, false⟩
 simp only [List.nil_append, List.cons_append, hn_push] at g
 have hmk := fun (h : Heap) => mkR_nat 1 8 [Value.int .i64 0] .i64 .i64 N h (by omega) (by decide)
 have b9 := g.get 2 rfl
 have hix := long_ix N (by omega) b9
 have b0 := g.get 0 rfl
 have hne : ¬ H.n = H3.n := by have := (g.lt 0 rfl H.n (by simp [itBlk])).2; have := Heap.get_lt b9; have h2 := Heap.get_lt b0; intro h; rw [h] at b0; rw [b9] at b0; injection b0 with b0; injection b0 with b0; cases N with
  | zero => omega
  | succ n => cases n with
   | zero => omega
   | succ n => injection b0 with b0 _; cases b0
 have g := g.setBlk 2 rfl ⟨rows encI (longIds N), 1, false⟩
 simp only [List.set_cons_zero, List.set_cons_succ] at g
 have hps : (H3.push ⟨repeatCells [Value.int .i64 0] N, 1, false⟩).set H3.n (some ⟨rows encI (longIds N), 1, false⟩) = H3.push ⟨rows encI (longIds N), 1, false⟩ := by simp
 rw [hps] at g
 have hle := long_len N
 have hsp := long_sp N (by omega)
 generalize hH4 : H3.push ⟨rows encI (longIds N), 1, false⟩ = H4 at g
 have b8 := g.get 0 rfl
 have hP : PlanSl H4 lgPlan (lv encB lgPlan.cls) (lv encBR lgPlan.rows) (lv encEn lgPlan.ents) _ := PlanSl.lv H4 lgPlan (Sl.lv H4 4 lgPlan.ents)
 have hwr := ζja k hk6 hW ⟨lgPlan, lgActs (K + 1), [0, 1], [8, 9]⟩ ⟨ζhq, fun n hn => by
   unfold lgActs at hn
   rw [List.mem_append, List.mem_replicate, List.mem_singleton] at hn
   omega, fun n hn => by
   have : n = 0 ∨ n = 1 := by simpa using hn
   omega, fun n hn => by
   have : n = 8 ∨ n = 9 := by simpa using hn
   omega⟩ (show lgPlan.cls.length ≤ 1000 by decide) (show lgPlan.rows.length ≤ 1000 by decide) (show lgPlan.ents.length ≤ 1000 by decide) (by dsimp only; rw [ζa6 (by omega)]; omega) (show ([0, 1] : List Int).length ≤ 1000 by decide) (show ([8, 9] : List Int).length ≤ 1000 by decide) hP ((g.row 1 rfl).sl encF_len) (Sl.lv H4 1 [0, 1]) (Sl.lv H4 1 [8, 9])
 have hwr : R (T k) F.ζ8 [.agg #[lv encB lgPlan.cls, lv encBR lgPlan.rows, lv encEn lgPlan.ents, .int .u8 lgPlan.wide, .slice aB nB cB, lv encH [0, 1], lv encH [8, 9]]] H4 = .ok (lv encB (ligB lgPlan (lgActs (K + 1)) [0, 1] [8, 9])) H4 := hwr
 obtain ⟨m, hm, hr⟩ := ζo6 (n := K + 1) (by omega) (by omega)
 have hb := ligB_byt (p := lgPlan) ζhq (lgActs (K + 1)) [0, 1] [8, 9]
 have hbl : (ligB lgPlan (lgActs (K + 1)) [0, 1] [8, 9]).length ≤ 108000 := ligB_len ζhq (by decide) (by decide) (by decide) (by rw [ζa6 (by omega)]; omega) (by decide) (by decide)
 generalize ligB lgPlan (lgActs (K + 1)) [0, 1] [8, 9] = b at hwr hm hb hbl
 have htok := ligaS_ok hb (by omega) (by omega) (by omega) hm
 have hrd := fun H' => ζbw k (H := H') (Sl.lv H' 1 b) hb 9 (by omega) (fun _ H' => ζ96 k hk6 b hb 9 (by omega) (by omega) H')
 unfold ligaO ligaN at hrd
 rw [if_pos (by omega), if_pos (by omega), hm] at hrd
 simp only [ligaP, Option.isSome_some, if_true] at hrd
 have hl := slOf (enc := encI) (m := 1) (longIds N) (g.get 2 rfl) rfl encI_len
 rw [ζ8i] at hl
 obtain ⟨c4, o4, H5, e4, g⟩ := ζih k g hl (by rw [ζ8i]; omega)
 simp only [List.nil_append, List.cons_append] at g
 obtain ⟨H6, e5, g⟩ := ζ95 k (lgTab m (K + 1)) htok g 3 rfl (by simp [ζ8i]; omega)
 simp only [List.set_cons_zero, List.set_cons_succ] at g
 obtain ⟨r2, rl, rL⟩ := ligaLong (mm := m) htok.m hr (n := N) (m := K + 1) hN0.1 hK0.1
 generalize runL (lgTab m (K + 1)) (newG (longIds N)) = r at e5 g r2 rl rL
 rw [r2] at e5
 have a1 := ζ6p k hk6 g 3 rfl (by omega)
 have b6 := g.get 0 rfl
 have hlA := (g.row 1 rfl).len
 rw [ζa6 (by omega)] at hlA
 have hl6 := slOf (enc := encI) (m := 1) (longIds N) (g.get 2 rfl) rfl encI_len
 rw [ζ8i] at hl6
 obtain ⟨H7, e6, hx7⟩ := lg_l2 k (H := H6) N (K + 1) hN0.1 hK0.1 (by omega) b6 hlA hl6 r.1 rl rL
 have hfits : (((K : Int) + 1) ≤ if (64 : Int) < N then 64 else (N : Int)) = (K + 1 ≤ min N 64) := by
  refine propext ⟨fun h => ?_, fun h => ?_⟩
  ·split at h <;> omega
  ·split <;> omega
 refine nrm_gc ⟨H7, ?_, (g.rest hx7).ext⟩ (.bool _)
 simp -implicitDefEqProofs (disch := omega) [ζ9, hs, q3, q4, hN, hK, hpr, e1, ζ88, b1, e2, b2, ← hH3, hmk, hix, hle, hsp, hH4, b8, hwr, hrd, e4, e5, a1, b6, hlA, rl, hfits, e6, ζ89]
theorem ζhy (vs : List Value) (h : ArgsLay [.one (.int .u8), .one (.int .u8)] vs) : ∃ H', R (T F.ζl) F.ζ9 vs Heap.empty = .ok (.bool true) H' := by
 obtain ⟨v1, _, rfl, h1, h⟩ := h.head
 obtain ⟨v2, _, rfl, h2, h⟩ := h.head
 obtain rfl := h.done
 obtain ⟨u, rfl, w1⟩ := arg_i h1
 obtain ⟨w, rfl, w2⟩ := arg_i h2
 exact ⟨_, ζjc u w (wf_u8 w1) (wf_u8 w2)⟩
end Go.Sw
end
