/-
  Functions' forms, and what is proved of them, part 9.
-/
import Derived.Test.YtnaodjnimkndbabSwW8
import Derived.Test.YtnaodjnimkndbabSwW6
import Derived.Test.YtnaodjnimkndbabSwW5
import Derived.Test.YtnaodjnimkndbabSwLib9
import Derived.Laws.IdiomCopy
import Derived.Test.YtnaodjnimkndbabSwCfg
import Derived.Tactics
import Derived.Tactics2
import Derived.WalkKit
import Derived.Lib.Walk
import Derived.Lib.SliceRun
import Derived.Lib.JoinLaws
import Derived.Lib.AppendZeros
import Derived.Lib.AppendZerosOnto
import Derived.Lib.Overlaps
import Derived.Laws.Externs
import Derived.Laws.NewBlocks
import Derived.Deep.RegionLaw
set_option linter.unusedSimpArgs false
set_option linter.unusedVariables false
set_option linter.unusedSectionVars false
section
namespace Go.Sw
open Go.RowKit
theorem act2_i {list : List Int} {s : InsSt} {i : Int} {e : En} (hf : 0 ≤ e.flags) : (act2 list s i e).2.1 = i ∧ (act2 list s i e).2.2 ≤ i + 32 := by
 have hm := hereS_le hf;unfold act2;dsimp only;generalize (if e.flags / 2048 % 2 = 1 then i else min (i + 1) (s.l.length : Int)) = pl;by_cases hc : hereS e > 0
 ·rw [if_pos hc];by_cases hr : (putS list s pl e.a (hereS e)).2 = false
  ·rw [if_pos hr];dsimp only; omega
  ·rw [if_neg hr];dsimp only; omega
 ·rw [if_neg hc];dsimp only; omega
theorem actI_i {list : List Int} {s : InsSt} {i : Int} {e : En} (hf : 0 ≤ e.flags) : (actI list s i e).2.1 ≤ i + 128 ∧ (actI list s i e).2.2 ≤ i + 128 := by
 have h1 := act1_i (list := list) (s := s) (i := i) hf;have h2 := act2_i (list := list) (s := (act1 list s i e).1) (i := (act1 list s i e).2.1) hf;unfold actI;split
 ·dsimp only; omega
 ·dsimp only;split
  ·dsimp only; omega
  ·omega
set_option maxHeartbeats 8000000 in
theorem insAct_ok (k : Nat) (t : ITab) (ht : t.ok) (L : List It) (il c q : Nat) (hil : il < L.length) (n left : Int) (hn : 0 ≤ n ∧ n ≤ 2 ^ 20) (hleft : -2 ^ 20 ≤ left ∧ left ≤ 2 ^ 20) {H0 : Heap} :
  ActOkG k t.m H0 (insW t L il c q) (InsOk n left) (.func (.func F.ins_run_act) #[ptrV q] #[]) (fun s i e => actI t.list s i e) := by
 intro s w i e H X hI st h0 h1 he;dsimp only;have heb := ht.m.ent e he;have hhas := ht.has e he;have hI' := hI.act t.list i h0 e heb.2.2.1;have hhl := hereS_le (e := e) heb.2.2.1;have hml := markS_le (e := e) heb.2.2.1;unfold insW at st;obtain ⟨B, hB⟩ : ∃ B : List It, B = X ++ [itBlk H.n ⟨encEn e, 1, false⟩] := ⟨_, rfl⟩
 obtain ⟨S, hS⟩ : ∃ S : InsSt → Option Nat → List It, S = fun s o => L.set il (itLine c o s.l) ++ itBlk q ⟨run18 t c s, 1, false⟩ :: B := ⟨_, rfl⟩
 have hSv : ∀ s o, S s o = L.set il (itLine c o s.l) ++ itBlk q ⟨run18 t c s, 1, false⟩ :: B := fun _ _ => by rw [hS]
 clear hS;have hqx : ∀ s o, (S s o)[L.length]? = some (itBlk q ⟨run18 t c s, 1, false⟩) := fun s o => by
  rw [hSv, List.getElem?_append_right (by simp)];simp
 have hlx : ∀ s o, (S s o)[il]? = some (itLine c o s.l) := fun s o => by
  rw [hSv, List.getElem?_append_left (by simpa using hil), List.getElem?_set_self hil]
 have setB : ∀ s o s2 o2, ((S s o).set il (itLine c o2 s2.l)).set L.length (itBlk q ⟨run18 t c s2, 1, false⟩) = S s2 o2 := fun s o s2 o2 => by
  rw [hSv, hSv, List.set_append_left _ _ (by simpa using hil), List.set_set, List.set_append_right _ _ (by simp)];simp
 have setQ : ∀ s o s2, s2.l = s.l → (S s o).set L.length (itBlk q ⟨run18 t c s2, 1, false⟩) = S s2 o := fun s o s2 hl => by
  rw [hSv, hSv, List.set_append_right _ _ (by simp), hl];simp
 have hqlt : q < H.n := Heap.get_lt (st.memBlk (c := q) (k := ⟨run18 t c s, 1, false⟩) (by simp));have look : ∀ {H' : Heap} {s o}, Star H0 H' (S s o) → H'.get q = some ⟨run18 t c s, 1, false⟩ ∧ H'.get H.n = some ⟨encEn e, 1, false⟩ ∧ R (T k) F.line_Line_Len [ptrV c] H' = .ok (.int .i64 s.l.length) H' ∧ ¬ q = H.n := fun {H' s o} h => by
  have hl := lineLen_run k h il (hlx _ _);have hq := h.get _ (hqx s o);have hneq : ¬ q = H.n := by omega
  rw [hSv, hB] at h;exact ⟨hq, h.memBlk (by simp), hl, hneq⟩
 have st2 : Star H0 (H.push ⟨encEn e, 1, false⟩) (S s w) := by
  have := st.push ⟨encEn e, 1, false⟩;rw [hSv, hB];simpa using this
 have fin : ∀ {H' : Heap} {s o}, Star H0 H' (S s o) → Star H0 H' (insW t L il c q s o ++ X) := fun {H' s o} h => by
  rw [hSv, hB] at h;have e1 : L.set il (itLine c o s.l) ++ itBlk q ⟨run18 t c s, 1, false⟩ :: (X ++ [itBlk H.n ⟨encEn e, 1, false⟩]) = (insW t L il c q s o ++ X) ++ [itBlk H.n ⟨encEn e, 1, false⟩] := by
   unfold insW;simp
  rw [e1] at h;exact h.drop_last
 have ha15 := fun H => and15 Prog 3 H heb.2.2.1 heb.2.2.2.1;have ha11 := fun H => and11 Prog 3 H heb.2.2.1 heb.2.2.2.1;have ha10 := fun H => and10 Prog 3 H heb.2.2.1 heb.2.2.2.1;have hcnt := fun H => counts_run k e ⟨heb.2.2.1, heb.2.2.2.1⟩ H;have bnd : ∀ s : InsSt, InsOk n left s → -2 ^ 30 ≤ s.left ∧ s.left ≤ 2 ^ 30 ∧ 0 ≤ s.done ∧ s.done ≤ 2 ^ 30 ∧ s.l.length ≤ 2 ^ 29 := fun s h => by
  have h1 := h.sum; have h2 := h.done; have h3 := h.len;omega
 clear st
 -- the mark
 have mark : ∀ (s : InsSt) (o : Option Nat) (H' : Heap) (i here own : Int) (over : Bool), Star H0 H' (S s o) → 0 ≤ i → i < 2 ^ 55 → 0 ≤ here → here ≤ 31 →
   ∃ H2, (∀ a87, ins_run_act_j8 k (R (T k)) (ptrV q) (.int .i64 i) (ptrV H.n) (.int .i64 here) (.bool over) (.int .i64 own) a87 H' = .ok (.tuple #[.int .i64 i, .int .i64 (i + here + 1)]) H2) ∧
    ins_run_act_j11 k (R (T k)) (ptrV q) (.int .i64 i) (ptrV H.n) (.int .i64 here) (.bool over) (.int .i64 own) H' = .ok (.tuple #[.int .i64 i, .int .i64 (i + here + 1)]) H2 ∧
    (∀ a119, ins_run_act_j12 k (R (T k)) (ptrV q) (.int .i64 i) (ptrV H.n) (.int .i64 here) (.bool over) (.int .i64 own) a119 H' = .ok (.tuple #[.int .i64 i, .int .i64 (i + here + 1)]) H2) ∧
    Star H0 H2 (S { s with mark := if e.flags ≥ 32768 ∧ over = false then own else s.mark } o) := by
  intro s o H' i here own over h i0 i1 p0 p1;obtain ⟨w1, w2, w3, w4⟩ := look h;have hw1 : IntKind.i64.wrap (i + here) = i + here := wrap_i64 (by omega) (by omega);have hw2 : IntKind.i64.wrap (i + here + 1) = i + here + 1 := wrap_i64 (by omega) (by omega);by_cases d : e.flags ≥ 32768
  ·rw [if_pos d] at ha15;cases over with
   | false =>
    rw [if_pos ⟨d, rfl⟩];have g := h.setBlk _ (hqx s o) ⟨run18 t c { s with mark := own }, 1, false⟩;rw [setQ s o { s with mark := own } rfl] at g;refine ⟨_, fun a87 => ?_, ?_, fun a119 => ?_, g⟩
    ·rw [ins_run_act_j8_eq];simp -implicitDefEqProofs (disch := omega) [w2, ha15, bne, w1, ins_run_act_j13_eq, hw1, hw2]
    ·rw [ins_run_act_j11_eq];simp -implicitDefEqProofs (disch := omega) [w2, ha15, bne, w1, ins_run_act_j13_eq, hw1, hw2]
    ·rw [ins_run_act_j12_eq];simp -implicitDefEqProofs (disch := omega) [w2, ha15, bne, w1, ins_run_act_j13_eq, hw1, hw2]
   | true =>
    rw [if_neg (fun hh => by cases hh.2)];refine ⟨H', fun a87 => ?_, ?_, fun a119 => ?_, h⟩
    ·rw [ins_run_act_j8_eq];simp -implicitDefEqProofs (disch := omega) [w2, ha15, bne, w1, ins_run_act_j14_eq, hw1, hw2]
    ·rw [ins_run_act_j11_eq];simp -implicitDefEqProofs (disch := omega) [w2, ha15, bne, w1, ins_run_act_j14_eq, hw1, hw2]
    ·rw [ins_run_act_j12_eq];simp -implicitDefEqProofs (disch := omega) [w2, ha15, bne, w1, ins_run_act_j14_eq, hw1, hw2]
  ·rw [if_neg d] at ha15;rw [if_neg (fun hh => d hh.1)];refine ⟨H', fun a87 => ?_, ?_, fun a119 => ?_, h⟩
   ·rw [ins_run_act_j8_eq];simp -implicitDefEqProofs (disch := omega) [w2, ha15, bne, w1, ins_run_act_j14_eq, hw1, hw2]
   ·rw [ins_run_act_j11_eq];simp -implicitDefEqProofs (disch := omega) [w2, ha15, bne, w1, ins_run_act_j14_eq, hw1, hw2]
   ·rw [ins_run_act_j12_eq];simp -implicitDefEqProofs (disch := omega) [w2, ha15, bne, w1, ins_run_act_j14_eq, hw1, hw2]
 -- glyphs put here
 have here : ∀ (s : InsSt) (o : Option Nat) (H' : Heap) (i own place : Int) (over : Bool), Star H0 H' (S s o) → InsOk n left s → 0 ≤ i → i < 2 ^ 55 → hereS e > 0 →
   ∃ H2 o2 s2 j2, ((putS t.list s place e.a (hereS e)).2 = false → s2 = (putS t.list s place e.a (hereS e)).1 ∧ j2 = i + 1) ∧
    ((putS t.list s place e.a (hereS e)).2 = true → s2 = { (putS t.list s place e.a (hereS e)).1 with mark := if e.flags ≥ 32768 ∧ over = false then own else (if place ≤ (putS t.list s place e.a (hereS e)).1.mark then (putS t.list s place e.a (hereS e)).1.mark + hereS e else (putS t.list s place e.a (hereS e)).1.mark) } ∧ j2 = i + hereS e + 1) ∧
    ins_run_act_j6 k (R (T k)) (ptrV q) (.int .i64 i) (ptrV H.n) (.int .i64 (hereS e)) (.bool over) (.int .i64 own) (.int .i64 place) H' = .ok (.tuple #[.int .i64 i, .int .i64 j2]) H2 ∧
    (∀ a99, ins_run_act_j7 k (R (T k)) (ptrV q) (.int .i64 i) (ptrV H.n) (.int .i64 (hereS e)) (.bool over) (.int .i64 own) (.int .i64 place) a99 H' = .ok (.tuple #[.int .i64 i, .int .i64 j2]) H2) ∧
    Star H0 H2 (S s2 o2) := by
  intro s o H' i own place over h hI i0 i1 hc;obtain ⟨w1, w2, w3, w4⟩ := look h;obtain ⟨o2, H2, e2, g2⟩ := put_star k t ht h il L.length (by omega) (hlx _ _) (hqx _ _) place e.a (hereS e) heb.2.2.2.2.1 ⟨hc, hhl.2⟩ (by have := hhas.1 hc; omega) (bnd s hI);rw [setB] at g2;have hIp := hI.put t.list place e.a (hereS e) hc;have hw0 : IntKind.i64.wrap (i + 1) = i + 1 := wrap_i64 (by omega) (by omega);generalize putS t.list s place e.a (hereS e) = r at e2 g2 hIp;obtain ⟨r1, r2⟩ := r;dsimp only at e2 g2 hIp ⊢;obtain ⟨u1, u2, u3, u4⟩ := look g2;cases r2 with
  | false =>
   refine ⟨H2, o2, r1, i + 1, fun _ => ⟨rfl, rfl⟩, (fun h => by cases h), ?_, fun a99 => ?_, g2⟩
   ·rw [ins_run_act_j6_eq];simp -implicitDefEqProofs (disch := omega) [w2, e2, hw0]
   ·rw [ins_run_act_j7_eq];simp -implicitDefEqProofs (disch := omega) [w2, e2, hw0]
  | true =>
   have hm := hIp.mark;have hb := bnd r1 hIp;by_cases d : place ≤ r1.mark
   ·have hw3 : IntKind.i64.wrap (r1.mark + hereS e) = r1.mark + hereS e := wrap_i64 (by omega) (by omega);have g3 := g2.setBlk _ (hqx r1 o2) ⟨run18 t c { r1 with mark := r1.mark + hereS e }, 1, false⟩;rw [setQ r1 o2 { r1 with mark := r1.mark + hereS e } rfl] at g3;obtain ⟨H4, _, m2, _, m4⟩ := mark { r1 with mark := r1.mark + hereS e } o2 _ i (hereS e) own over g3 i0 i1 hhl.1 hhl.2;dsimp only at m4;refine ⟨H4, o2, _, i + hereS e + 1, (fun h => by cases h), fun _ => ⟨rfl, rfl⟩, ?_, fun a99 => ?_, ?_⟩
    ·rw [ins_run_act_j6_eq];simp -implicitDefEqProofs (disch := omega) [w2, e2, u1, d, hw3, m2]
    ·rw [ins_run_act_j7_eq];simp -implicitDefEqProofs (disch := omega) [w2, e2, u1, d, hw3, m2]
    ·rw [if_pos d];exact m4
   ·obtain ⟨H4, _, _, m2, m4⟩ := mark r1 o2 _ i (hereS e) own over g2 i0 i1 hhl.1 hhl.2;refine ⟨H4, o2, _, i + hereS e + 1, (fun h => by cases h), fun _ => ⟨rfl, rfl⟩, ?_, fun a99 => ?_, ?_⟩
    ·rw [ins_run_act_j6_eq];simp -implicitDefEqProofs (disch := omega) [w2, e2, u1, d, m2]
    ·rw [ins_run_act_j7_eq];simp -implicitDefEqProofs (disch := omega) [w2, e2, u1, d, m2]
    ·rw [if_neg d];exact m4
 -- at the place
 have at2 : ∀ (s : InsSt) (o : Option Nat) (H' : Heap) (i : Int), Star H0 H' (S s o) → InsOk n left s → 0 ≤ i → i < 2 ^ 55 →
   ∃ H2 o2, (∀ a9 a34, ins_run_act_j3 k (R (T k)) (ptrV q) (.int .i64 i) (ptrV H.n) (.int .i64 (hereS e)) a9 a34 H' = .ok (.tuple #[.int .i64 (act2 t.list s i e).2.1, .int .i64 (act2 t.list s i e).2.2]) H2) ∧
    ins_run_act_j9 k (R (T k)) (ptrV q) (.int .i64 i) (ptrV H.n) (.int .i64 (hereS e)) H' = .ok (.tuple #[.int .i64 (act2 t.list s i e).2.1, .int .i64 (act2 t.list s i e).2.2]) H2 ∧
    (∀ a9 a74, ins_run_act_j10 k (R (T k)) (ptrV q) (.int .i64 i) (ptrV H.n) (.int .i64 (hereS e)) a9 a74 H' = .ok (.tuple #[.int .i64 (act2 t.list s i e).2.1, .int .i64 (act2 t.list s i e).2.2]) H2) ∧
    Star H0 H2 (S (act2 t.list s i e).1 o2) := by
  intro s o H' i h hI i0 i1;obtain ⟨w1, w2, w3, w4⟩ := look h;have hb := bnd s hI;have hw0 : IntKind.i64.wrap (i + 1) = i + 1 := wrap_i64 (by omega) (by omega);have hw1 : IntKind.i64.wrap (i + hereS e) = i + hereS e := wrap_i64 (by omega) (by omega);have hgeq : (i ≥ (s.l.length : Int)) = (i ≥ (s.l.length : Int)) := rfl;by_cases hc : hereS e > 0
  ·by_cases d : e.flags / 2048 % 2 = 1
   ·rw [if_pos d] at ha11;obtain ⟨H2, o2, s2, j2, a1, a2, b1, b2, g2⟩ := here s o H' i (i + hereS e) i (decide (i ≥ s.l.length)) h hI i0 i1 hc;have hres : act2 t.list s i e = (s2, i, j2) := by
     unfold act2;dsimp only;rw [if_pos hc, if_pos d, if_pos (show hereS e > 0 ∧ e.flags / 2048 % 2 = 1 from ⟨hc, d⟩)];by_cases hr : (putS t.list s i e.a (hereS e)).2 = false
     ·obtain ⟨q1, q2⟩ := a1 hr;simp only [if_pos hr, q1, q2]
     ·obtain ⟨q1, q2⟩ := a2 ((Bool.not_eq_false _).mp hr);simp only [if_neg hr, q1, q2]
    rw [hres];refine ⟨H2, o2, fun a9 a34 => ?_, ?_, fun a9 a74 => ?_, g2⟩
    ·rw [ins_run_act_j3_eq];simp -implicitDefEqProofs (disch := omega) [w1, w3, hc, w2, ha11, bne, hw0, hw1, b1]
    ·rw [ins_run_act_j9_eq];simp -implicitDefEqProofs (disch := omega) [w1, w3, hc, w2, ha11, bne, hw0, hw1, b1]
    ·rw [ins_run_act_j10_eq];simp -implicitDefEqProofs (disch := omega) [w1, w3, hc, w2, ha11, bne, hw0, hw1, b1]
   ·rw [if_neg d] at ha11;obtain ⟨H2, o2, s2, j2, a1, a2, b1, b2, g2⟩ := here s o H' i i (min (i + 1) s.l.length) (decide (i ≥ s.l.length)) h hI i0 i1 hc;have hres : act2 t.list s i e = (s2, i, j2) := by
     unfold act2;dsimp only;rw [if_pos hc, if_neg d, if_neg (show ¬ (hereS e > 0 ∧ e.flags / 2048 % 2 = 1) from fun hh => d hh.2)];by_cases hr : (putS t.list s (min (i + 1) s.l.length) e.a (hereS e)).2 = false
     ·obtain ⟨q1, q2⟩ := a1 hr;simp only [if_pos hr, q1, q2]
     ·obtain ⟨q1, q2⟩ := a2 ((Bool.not_eq_false _).mp hr);simp only [if_neg hr, q1, q2]
    rw [hres];have hmin : (if (s.l.length : Int) < i + 1 then (s.l.length : Int) else i + 1) = min (i + 1) (s.l.length : Int) := by rw [Int.min_def]; split <;> split <;> omega
    refine ⟨H2, o2, fun a9 a34 => ?_, ?_, fun a9 a74 => ?_, g2⟩
    ·rw [ins_run_act_j3_eq];simp -implicitDefEqProofs (disch := omega) [w1, w3, hc, w2, ha11, bne, hw0, hw1, hmin, b2]
    ·rw [ins_run_act_j9_eq];simp -implicitDefEqProofs (disch := omega) [w1, w3, hc, w2, ha11, bne, hw0, hw1, hmin, b2]
    ·rw [ins_run_act_j10_eq];simp -implicitDefEqProofs (disch := omega) [w1, w3, hc, w2, ha11, bne, hw0, hw1, hmin, b2]
  ·obtain ⟨H2, m1, _, _, m4⟩ := mark s o H' i (hereS e) i (decide (i ≥ s.l.length)) h i0 i1 hhl.1 hhl.2;have hres : act2 t.list s i e = ({ s with mark := if e.flags ≥ 32768 ∧ decide (i ≥ s.l.length) = false then i else s.mark }, i, i + hereS e + 1) := by
    unfold act2;dsimp only;rw [if_neg hc, if_neg (show ¬ (hereS e > 0 ∧ e.flags / 2048 % 2 = 1) from fun hh => hc hh.1)]
   rw [hres];refine ⟨H2, o, fun a9 a34 => ?_, ?_, fun a9 a74 => ?_, m4⟩
   ·rw [ins_run_act_j3_eq];simp -implicitDefEqProofs (disch := omega) [w1, w3, hc, m1]
   ·rw [ins_run_act_j9_eq];simp -implicitDefEqProofs (disch := omega) [w1, w3, hc, m1]
   ·rw [ins_run_act_j10_eq];simp -implicitDefEqProofs (disch := omega) [w1, w3, hc, m1]
 have hil3 := hI';obtain ⟨w1, w2, w3, w4⟩ := look st2;have hw0 : IntKind.i64.wrap (i + 1) = i + 1 := wrap_i64 (by omega) (by omega);have hres2 : (actI t.list s i e).2.1 ≤ i + 128 ∧ (actI t.list s i e).2.2 ≤ i + 128 := actI_i heb.2.2.1;by_cases hbr : s.broke = true
 ·have hr : actI t.list s i e = (s, i, i + 1) := by unfold actI; rw [if_pos hbr]
  rw [hr];refine ⟨_, w, ?_, fin st2, hI, by dsimp only; omega, by dsimp only; omega⟩;simp only [callV, List.nil_append, List.cons_append];rw [ins_run_act_R, nrm_of];simp -implicitDefEqProofs (disch := omega) [ins_run_act, hcnt, w1, w4, hbr, hw0]
 have hbf : s.broke = false := by
  cases h : s.broke with
  | false => rfl
  | true => exact absurd h hbr
 have hA : actI t.list s i e = (let r := act1 t.list s i e; if r.2.2 = false then (r.1, i, i + 1) else act2 t.list r.1 r.2.1 e) := by unfold actI; rw [if_neg hbr]
 have hI1 := hI.act1 t.list i e;by_cases hm : markS e > 0 ∧ s.mark ≥ 0;rotate_left
 ·have hr : actI t.list s i e = act2 t.list s i e := by
   rw [hA];unfold act1;rw [if_neg hm];rfl
  obtain ⟨H2, o2, a1, _, _, g2⟩ := at2 s w _ i st2 hI h0 (by omega);rw [hr] at hI' hres2 ⊢;refine ⟨H2, o2, ?_, fin g2, hI', hres2⟩;simp only [callV, List.nil_append, List.cons_append];rw [ins_run_act_R, nrm_of];by_cases d : markS e > 0
  ·have d2 : ¬ s.mark ≥ 0 := fun h => hm ⟨d, h⟩;simp -implicitDefEqProofs (disch := omega) [ins_run_act, hcnt, w1, w4, hbf, d, d2, a1]
  ·simp -implicitDefEqProofs (disch := omega) [ins_run_act, hcnt, w1, w4, hbf, d, a1]
 obtain ⟨hm1, hm2⟩ := hm;have hbb := bnd s hI;have hmk := hI.mark
 have atm : ∀ place, place = markPlace s e → ∃ H2 o2, ins_run_act_j1 k (R (T k)) (ptrV q) (.int .i64 i) (ptrV H.n) (.int .i64 (hereS e)) (.int .i64 (markS e)) (.int .i64 place) (H.push ⟨encEn e, 1, false⟩) = .ok (.tuple #[.int .i64 (actI t.list s i e).2.1, .int .i64 (actI t.list s i e).2.2]) H2 ∧
   (∀ a43, ins_run_act_j2 k (R (T k)) (ptrV q) (.int .i64 i) (ptrV H.n) (.int .i64 (hereS e)) (.int .i64 (markS e)) (.int .i64 place) a43 (H.push ⟨encEn e, 1, false⟩) = .ok (.tuple #[.int .i64 (actI t.list s i e).2.1, .int .i64 (actI t.list s i e).2.2]) H2) ∧ Star H0 H2 (S (actI t.list s i e).1 o2) := by
  intro place hpl;have hC : act1 t.list s i e = (let r := putS t.list s place e.b (markS e); if r.2 = false then (r.1, i, false) else ({ r.1 with mark := if place ≤ r.1.mark then r.1.mark + markS e else r.1.mark }, if place ≤ i then i + markS e else i, true)) := by
   unfold act1;rw [if_pos ⟨hm1, hm2⟩, hpl]
  obtain ⟨o2, H2, e2, g2⟩ := put_star k t ht st2 il L.length (by omega) (hlx _ _) (hqx _ _) place e.b (markS e) (by have := ht.m.ent e he; omega) ⟨hm1, hml.2⟩ (by have := hhas.2 hm1; omega) hbb;rw [setB] at g2;have hIp := hI.put t.list place e.b (markS e) hm1;rw [hC] at hI1 hA;generalize putS t.list s place e.b (markS e) = r at e2 g2 hIp hI1 hA;obtain ⟨r1, r2⟩ := r;dsimp only at e2 g2 hIp hI1 hA;obtain ⟨u1, u2, u3, u4⟩ := look g2;cases r2 with
  | false =>
   have hA : actI t.list s i e = (r1, i, i + 1) := hA;rw [hA];refine ⟨H2, o2, ?_, fun a43 => ?_, g2⟩
   ·rw [ins_run_act_j1_eq];simp -implicitDefEqProofs (disch := omega) [w2, e2, hw0]
   ·rw [ins_run_act_j2_eq];simp -implicitDefEqProofs (disch := omega) [w2, e2, hw0]
  | true =>
   rw [if_neg (show ¬ (true = false) by decide)] at hA hI1;dsimp only at hA hI1;have hmr := hIp.mark;have hbr1 := bnd r1 hIp;have hwi : IntKind.i64.wrap (i + markS e) = i + markS e := wrap_i64 (by omega) (by omega);by_cases d : place ≤ r1.mark
   ·rw [if_pos d] at hA hI1;have hw3 : IntKind.i64.wrap (r1.mark + markS e) = r1.mark + markS e := wrap_i64 (by omega) (by omega);have g3 := g2.setBlk _ (hqx r1 o2) ⟨run18 t c { r1 with mark := r1.mark + markS e }, 1, false⟩;rw [setQ r1 o2 { r1 with mark := r1.mark + markS e } rfl] at g3;by_cases d2 : place ≤ i
    ·rw [if_pos d2] at hA;have hA : actI t.list s i e = act2 t.list { r1 with mark := r1.mark + markS e } (i + markS e) e := hA;obtain ⟨H4, o4, _, b2, _, g4⟩ := at2 { r1 with mark := r1.mark + markS e } o2 _ (i + markS e) g3 hI1 (by omega) (by omega);rw [hA];refine ⟨H4, o4, ?_, fun a43 => ?_, g4⟩
     ·rw [ins_run_act_j1_eq];simp -implicitDefEqProofs (disch := omega) [w2, e2, u1, d, hw3, ins_run_act_j4_eq, d2, hwi, b2]
     ·rw [ins_run_act_j2_eq];simp -implicitDefEqProofs (disch := omega) [w2, e2, u1, d, hw3, ins_run_act_j4_eq, d2, hwi, b2]
    ·rw [if_neg d2] at hA;have hA : actI t.list s i e = act2 t.list { r1 with mark := r1.mark + markS e } i e := hA;obtain ⟨H4, o4, _, _, b2, g4⟩ := at2 { r1 with mark := r1.mark + markS e } o2 _ i g3 hI1 h0 (by omega);rw [hA];refine ⟨H4, o4, ?_, fun a43 => ?_, g4⟩
     ·rw [ins_run_act_j1_eq];simp -implicitDefEqProofs (disch := omega) [w2, e2, u1, d, hw3, ins_run_act_j4_eq, d2, b2]
     ·rw [ins_run_act_j2_eq];simp -implicitDefEqProofs (disch := omega) [w2, e2, u1, d, hw3, ins_run_act_j4_eq, d2, b2]
   ·rw [if_neg d] at hA hI1;by_cases d2 : place ≤ i
    ·rw [if_pos d2] at hA;have hA : actI t.list s i e = act2 t.list r1 (i + markS e) e := hA;obtain ⟨H4, o4, _, b2, _, g4⟩ := at2 r1 o2 _ (i + markS e) g2 hIp (by omega) (by omega);rw [hA];refine ⟨H4, o4, ?_, fun a43 => ?_, g4⟩
     ·rw [ins_run_act_j1_eq];simp -implicitDefEqProofs (disch := omega) [w2, e2, u1, d, ins_run_act_j5_eq, d2, hwi, b2]
     ·rw [ins_run_act_j2_eq];simp -implicitDefEqProofs (disch := omega) [w2, e2, u1, d, ins_run_act_j5_eq, d2, hwi, b2]
    ·rw [if_neg d2] at hA;have hA : actI t.list s i e = act2 t.list r1 i e := hA;obtain ⟨H4, o4, _, _, b2, g4⟩ := at2 r1 o2 _ i g2 hIp h0 (by omega);rw [hA];refine ⟨H4, o4, ?_, fun a43 => ?_, g4⟩
     ·rw [ins_run_act_j1_eq];simp -implicitDefEqProofs (disch := omega) [w2, e2, u1, d, ins_run_act_j5_eq, d2, b2]
     ·rw [ins_run_act_j2_eq];simp -implicitDefEqProofs (disch := omega) [w2, e2, u1, d, ins_run_act_j5_eq, d2, b2]
 by_cases d : e.flags / 1024 % 2 = 1
 ·rw [if_pos d] at ha10;obtain ⟨H2, o2, a1, _, g2⟩ := atm s.mark (by unfold markPlace; rw [if_pos d]);refine ⟨H2, o2, ?_, fin g2, hI', hres2⟩;simp only [callV, List.nil_append, List.cons_append];rw [ins_run_act_R, nrm_of];simp -implicitDefEqProofs (disch := omega) [ins_run_act, hcnt, w1, w4, hbf, hm1, hm2, w2, ha10, bne, a1]
 ·rw [if_neg d] at ha10;obtain ⟨H2, o2, _, a1, g2⟩ := atm (s.mark + 1) (by unfold markPlace; rw [if_neg d]);have hw5 : IntKind.i64.wrap (s.mark + 1) = s.mark + 1 := wrap_i64 (by omega) (by omega);refine ⟨H2, o2, ?_, fin g2, hI', hres2⟩;simp only [callV, List.nil_append, List.cons_append];rw [ins_run_act_R, nrm_of];simp -implicitDefEqProofs (disch := omega) [ins_run_act, hcnt, w1, w4, hbf, hm1, hm2, w2, ha10, bne, hw5, a1]
end Go.Sw
end
section
namespace Go.Sw
open Go.RowKit
theorem veq_ins (t : ITab) : veq (insV t) (insV t) = true := veq_boxV (l := insC t) fun v hv => by
 simp [insC] at hv;rcases hv with rfl | rfl
 ·exact veq_mach _
 ·exact veq_B _
set_option maxRecDepth 20000 in
set_option maxHeartbeats 1000000 in
theorem insRun_star (k : Nat) (t : ITab) (ht : t.ok) {H0 H : Heap} {L : List It} (h : Star H0 H L) (il : Nat) {c : Nat} {o : Option Nat} {l : List Gl} (hil : L[il]? = some (itLine c o l)) (hl : l.length ≤ 2 ^ 20) (left : Int) (hleft : -2 ^ 20 ≤ left ∧ left ≤ 2 ^ 20) :
  ∃ H' o', R (T k) F.ins_Table_Run [insV t, ptrV c, .int .i64 left] H = .ok (.tuple #[.int .i64 (runIr t l left).2.2.done, .int .i64 (codeI (runIr t l left))]) H' ∧ Star H0 H' (L.set il (itLine c o' (runIr t l left).2.2.l)) ∧ InsOk l.length left (runIr t l left).2.2 := by
 have hll := (List.getElem?_eq_some_iff.1 hil).1;have st := h.push ⟨run18 t c ⟨l, -1, left, 0, false⟩, 1, false⟩;have st : Star H0 (H.push ⟨run18 t c ⟨l, -1, left, 0, false⟩, 1, false⟩) (insW t L il c H.n ⟨l, -1, left, 0, false⟩ o ++ []) := by
  unfold insW;dsimp only;rw [set_same hil, List.append_nil];exact st
 have hact := insAct_ok k t ht L il c H.n hll (l.length : Int) left ⟨by omega, by omega⟩ hleft (H0 := H0)
 obtain ⟨H7, w7, eR, st5, hok⟩ := driveRun_starG k t.m ht.m (insW t L il c H.n) (InsOk (l.length : Int) left) (fun s : InsSt => s.l) c
  (fun s ob => ⟨il, ob, by
   unfold insW;rw [List.getElem?_append_left (by simpa using hll), List.getElem?_set_self hll]⟩) _ _ hact [] ⟨l, -1, left, 0, false⟩ o ⟨by simp, by simp, by simp, by dsimp only; omega⟩ st (by dsimp only; omega)
 have hr : runD t.m (fun s : InsSt => s.l) (fun s i e => actI t.list s i e) (2 * (l.length : Int) + 128) (2 * l.length + 128) (⟨l, -1, left, 0, false⟩, ⟨0, 0, 0, 0⟩) = runIr t l left := by unfold runIr; rfl
 dsimp only at eR st5 hok;rw [hr] at eR st5 hok;have hq := st5.memBlk (c := H.n) (k := ⟨run18 t c (runIr t l left).2.2, 1, false⟩) (by unfold insW; simp);refine ⟨H7, w7, ?_, ?_, hok⟩
 ·rw [ins_Table_Run_R, nrm_of];have v1 := veq_ins t;have v2 := veq_mach t.m;unfold codeI;generalize runIr t l left = r at eR hq ⊢;cases hb : r.2.2.broke with
  | true =>
   simp only [run18, hb] at hq;simp -implicitDefEqProofs (disch := omega) [ins_Table_Run, eR, v1, v2, hq, ins_Table_Run_j1_eq]
  | false =>
   simp only [run18, hb] at hq;simp -implicitDefEqProofs (disch := omega) [ins_Table_Run, eR, v1, v2, hq, ins_Table_Run_j2_eq]
 ·generalize runIr t l left = r at st5 ⊢;unfold insW at st5;have := st5.take L.length;rw [List.append_nil, List.take_append_of_le_length (by simp), List.take_of_length_le (by simp)] at this;exact this
end Go.Sw
end
section
namespace Go.Sw
open Go.RowKit
theorem runD_code {σ : Type} (m : Mach) (ln : σ → List Gl) (f : σ → Int → En → σ × Int × Int) (most : Int) : ∀ (n : Nat) (x : σ × Drv), (runD m ln f most n x).2.1 = 0 ∨ (runD m ln f most n x).2.1 = 4
 | 0, x => .inr rfl
 | n + 1, x => by
  unfold runD;split
  ·split
   ·exact .inl rfl
   ·split
    ·exact .inr rfl
    ·exact runD_code m ln f most n _
  ·exact .inr rfl
theorem codeI_two (t : ITab) (l : List Gl) (left : Int) : codeI (runIr t l left) = 0 ∨ codeI (runIr t l left) = 4 := by
 unfold codeI;cases (runIr t l left).2.2.broke with
 | true => exact .inr (if_pos rfl)
 | false =>
  rw [if_neg (by decide)];unfold runIr;exact runD_code _ _ _ _ _ _
theorem InsTakes_in1 (k : Nat) (hk : k < 1000000) {H : Heap} (b : List Int) (hb : Byt b) (hl : b.length < 2 ^ 31) (p2 p3 : Nat) (old : Value)
  (h2 : H.get p2 = some ⟨[lv encB b], 1, false⟩) (h3 : H.get p3 = some ⟨[old], 1, false⟩) :
  R (T k) F.swashlaw18_InsTakes_in1 [ptrV p2, ptrV p3] H = match insS b 40 with
   | some x => .ok (.tuple #[]) (H.set p3 (some ⟨[insV x], 1, false⟩))
   | none => .panic failV H := by
 rw [swashlaw18_InsTakes_in1_R];have ht := insTake_run k hk b hb 40 (by omega) hl H;have ho := fun H => Of_lv k b H;cases h : insS b 40 with
 | none =>
  rw [h] at ht;refine nrm_throw ⟨H, ?_, Ext.refl H⟩ Flat.fail.alive;simp -implicitDefEqProofs (disch := omega) [swashlaw18_InsTakes_in1, h2, ho, ht]
 | some x =>
  rw [h] at ht;simp -implicitDefEqProofs (disch := omega) [swashlaw18_InsTakes_in1, h2, h3, ho, ht]
set_option maxHeartbeats 2000000 in
theorem InsTakes_run (b : List Int) (hb : Byt b) (ids : List Int) : R (T F.swashlaw18_speaks) F.swashlaw18_InsTakes [lv encB b, lv encI ids] Heap.empty = .ok (.bool true) Heap.empty := by
 generalize hk : F.swashlaw18_speaks = k;have hs := speaks18_run k (by subst hk; rfl);have hk6 : k < 1000000 := by subst hk; decide
 clear hk;rw [swashlaw18_InsTakes_R];generalize Heap.empty = H;have hx1 : Ext H (H.push ⟨[lv encB b], 1, false⟩) := (Ext.refl H).push _;by_cases hl : b.length > 800
 ·have hl' : (b.length : Int) > 800 := by omega
  refine nrm_gc ⟨_, ?_, hx1⟩ (.bool _);simp -implicitDefEqProofs (disch := omega) [swashlaw18_InsTakes, hs, hl']
 have hl' : ¬ (b.length : Int) > 800 := by omega
 by_cases hi : ids.length > 40
 ·have hi' : (ids.length : Int) > 40 := by omega
  refine nrm_gc ⟨_, ?_, hx1⟩ (.bool _);simp -implicitDefEqProofs (disch := omega) [swashlaw18_InsTakes, hs, hl', hi']
 have hi' : ¬ (ids.length : Int) > 40 := by omega
 have hin := InsTakes_in1 k hk6 (H := (H.push ⟨[lv encB b], 1, false⟩).push ⟨[.pointer none], 1, false⟩) b hb (by omega) H.n (H.n + 1) (.pointer none) (by simp) (by simp);have hrd := fun H' => insRead_run k (H := H') (Sl.lv H' 1 b) hb 40 (by omega) (fun _ H' => insTake_run k hk6 b hb 40 (by omega) (by omega) H');unfold insO insN at hrd;rw [if_pos (by omega), if_pos (by omega)] at hrd;cases h : insS b 40 with
 | none =>
  rw [h] at hin hrd;simp only [insP, Option.isSome_none, Bool.false_eq_true, if_false] at hrd;have ht := Try_no k F.swashlaw18_InsTakes_in1 #[ptrV H.n, ptrV (H.n + 1)] hin;refine nrm_gc ⟨_, ?_, hx1.push ⟨[.pointer none], 1, false⟩⟩ (.bool _);simp -implicitDefEqProofs (disch := omega) [swashlaw18_InsTakes, hs, hl', hi', ht, hrd]
 | some t =>
  rw [h] at hin hrd;simp only [insP, Option.isSome_some, if_true] at hrd;have ht := Try_ok k F.swashlaw18_InsTakes_in1 #[ptrV H.n, ptrV (H.n + 1)] hin;simp at ht;have hok := insS_ok hb (by omega) (by omega) (by omega) h;have g := ((Star.nil H).push ⟨[lv encB b], 1, false⟩).push ⟨[insV t], 1, false⟩;simp only [List.nil_append, List.cons_append, hn_push] at g;obtain ⟨c1, o1, H1, e1, g⟩ := lineNew_star k g ids (by omega);simp only [List.nil_append, List.cons_append] at g;obtain ⟨c2, o2, H2, e2, g⟩ := lineNew_star k g ids (by omega);simp only [List.nil_append, List.cons_append] at g;have b2 := g.get 1 rfl;have v2 := veq_ins t;obtain ⟨H3, o3, e3, g, hI⟩ := insRun_star k t hok g 2 rfl (by simp; omega) 50 (by omega);simp only [List.set_cons_zero, List.set_cons_succ] at g;obtain ⟨H4, o4, e4, g, _⟩ := insRun_star k t hok g 3 rfl (by simp; omega) 50 (by omega);simp only [List.set_cons_zero, List.set_cons_succ] at g;have hlen := hI.len;have hdn := hI.done;rw [newG_len] at hlen;generalize hr : runIr t (newG ids) 50 = r at e3 e4 g hlen hdn;have gl1 := lineGlyphs_run k hk6 g 2 rfl (by omega);have gl2 := lineGlyphs_run k hk6 g 3 rfl (by omega);have hsame := Same_run k (Rd.lv encG_len H4 r.2.2.l) (Rd.lv encG_len H4 r.2.2.l) (by omega) (by omega);refine nrm_gc ⟨H4, ?_, g.ext⟩ (.bool _);simp -implicitDefEqProofs (disch := omega) [swashlaw18_InsTakes, hs, hl', hi', ht, hrd, e1, e2, b2, v2, e3, e4, gl1, gl2, hsame]
theorem InsTakes_args (vs : List Value) (h : ArgsLay [.one (.slice [.int .u8]), .one (.slice [.int .i64])] vs) : ∃ H', R (T F.swashlaw18_speaks) F.swashlaw18_InsTakes vs Heap.empty = .ok (.bool true) H' := by
 obtain ⟨v1, _, rfl, h1, h⟩ := h.head;obtain ⟨v2, _, rfl, h2, h⟩ := h.head;obtain rfl := h.done;obtain ⟨b, rfl, hb⟩ := arg_B h1;obtain ⟨ids, rfl, _⟩ := arg_I h2;exact ⟨_, InsTakes_run b hb ids⟩
set_option maxHeartbeats 4000000 in
theorem InsLeft_run (x : IPlan) (hx : x.ok) (ids : List Int) (most : Int) (hmost : 0 ≤ most ∧ most < 256) : R (T F.swashlaw18_speaks) F.swashlaw18_InsLeft [iplV x, lv encI ids, .int .u8 most] Heap.empty = .ok (.bool true) Heap.empty := by
 generalize hk : F.swashlaw18_speaks = k;have hs := speaks18_run k (by subst hk; rfl);have hW : ownW k = .no := by subst hk; rfl
 have hk6 : k < 1000000 := by subst hk; decide
 clear hk;rw [swashlaw18_InsLeft_R];generalize Heap.empty = H;have hx1 : Ext H (H.push ⟨iplC x, 1, false⟩) := (Ext.refl H).push _;have hsm := fun H => small18_run k x ids H;by_cases c1 : ISmall x ids.length;rotate_left
 ·refine nrm_gc ⟨_, ?_, hx1⟩ (.bool _);rw [decide_eq_false c1] at hsm;simp -implicitDefEqProofs (disch := omega) [swashlaw18_InsLeft, hs, hsm]
 rw [decide_eq_true c1] at hsm;unfold ISmall at c1;have hw := fun H => write18_fz k hk6 hW x.p hx.p (by omega) (by omega) (by omega) (PlanSl.lv H x.p (Sl.lv H 4 x.p.ents)) (Sl.lv H 1 x.vals) hx.vals (by omega);have hcb : Byt (roomB x.p 2 0 x.vals) := roomB_byt hx.p _ _ _;have hcl := roomB_len hx.p 2 0 (l := x.vals) (by omega) (by omega) (by omega) (by omega);generalize roomB x.p 2 0 x.vals = b at hw hcb hcl;have hrd := fun H' => insRead_run k (H := H') (Sl.lv H' 1 b) hcb 40 (by omega) (fun _ H' => insTake_run k hk6 b hcb 40 (by omega) (by omega) H');unfold insO insN at hrd;rw [if_pos (by omega), if_pos (by omega)] at hrd;cases h : insS b 40 with
 | none =>
  rw [h] at hrd;simp only [insP, Option.isSome_none, Bool.false_eq_true, if_false] at hrd;refine nrm_gc ⟨_, ?_, hx1⟩ (.bool _);simp -implicitDefEqProofs (disch := omega) [swashlaw18_InsLeft, hs, hsm, hw, hrd]
 | some t =>
  rw [h] at hrd;simp only [insP, Option.isSome_some, if_true] at hrd;have hok := insS_ok hcb (by omega) (by omega) (by omega) h;have g := (Star.nil H).push ⟨iplC x, 1, false⟩;simp only [List.nil_append] at g;obtain ⟨c1', o1, H1, e1, g⟩ := lineNew_star k g ids (by omega);simp only [List.nil_append, List.cons_append] at g;obtain ⟨c2', o2, H2, e2, g⟩ := lineNew_star k g ids (by omega);simp only [List.nil_append, List.cons_append] at g;obtain ⟨c3', o3, H3, e3, g⟩ := lineNew_star k g ids (by omega);simp only [List.nil_append, List.cons_append] at g;have hw0 : IntKind.i64.wrap most = most := wrap_i64 (by omega) (by omega);have hw1 : IntKind.i64.wrap (100 + most) = 100 + most := wrap_i64 (by omega) (by omega);obtain ⟨H4, o4, e4, g, hI⟩ := insRun_star k t hok g 1 rfl (by simp; omega) (100 + most) (by omega);simp only [List.set_cons_zero, List.set_cons_succ] at g;have hcode := codeI_two t (newG ids) (100 + most);have hl1 := hI.len; have hd1 := hI.done; have hs1 := hI.sum;rw [newG_len] at hl1;by_cases hc0 : codeI (runIr t (newG ids) (100 + most)) = 0;rotate_left
  ·have hc4 := hcode.resolve_left hc0;refine nrm_gc ⟨H4, ?_, g.ext⟩ (.bool _);rw [hc4] at e4;simp -implicitDefEqProofs (disch := omega) [swashlaw18_InsLeft, hs, hsm, hw, hrd, e1, e2, e3, hw0, hw1, e4]
  have hbr : (runIr t (newG ids) (100 + most)).2.2.broke = false := by
   unfold codeI at hc0;cases hb : (runIr t (newG ids) (100 + most)).2.2.broke with
   | false => rfl
   | true => rw [hb] at hc0; simp at hc0
  obtain ⟨n, hn⟩ : ∃ n, n = (runIr t (newG ids) (100 + most)).2.2.done := ⟨_, rfl⟩
  obtain ⟨j1, j2, j3, j4, j5⟩ := ins_same t (newG ids) (100 + most) n hbr (.inl (by omega));obtain ⟨H5, o5, e5, g, hI5⟩ := insRun_star k t hok g 2 rfl (by simp; omega) n (by omega);simp only [List.set_cons_zero, List.set_cons_succ] at g;have hc5 : codeI (runIr t (newG ids) n) = 0 := by
   unfold codeI at hc0 ⊢;rw [j5, j2];rw [hbr] at hc0;exact hc0
  rw [j3] at g;have gl1 := lineGlyphs_run k hk6 g 1 rfl (by omega);have gl2 := lineGlyphs_run k hk6 g 2 rfl (by omega);have hsame := Same_run k (Rd.lv encG_len H5 (runIr t (newG ids) (100 + most)).2.2.l) (Rd.lv encG_len H5 (runIr t (newG ids) (100 + most)).2.2.l) (by omega) (by omega);obtain ⟨H6, o6, e6, g, hI6⟩ := insRun_star k t hok g 3 rfl (by simp; omega) (n - 1) (by omega);simp only [List.set_cons_zero, List.set_cons_succ] at g;have hlast : n = 0 ∨ (¬ n = 0 ∧ (runIr t (newG ids) (n - 1)).2.2.done < n ∧ codeI (runIr t (newG ids) (n - 1)) = 4) := by
   by_cases hn0 : n = 0
   ·exact .inl hn0
   ·have hd6 := hI6.done;refine .inr ⟨hn0, by omega, ?_⟩;cases hb : (runIr t (newG ids) (n - 1)).2.2.broke with
    | true => unfold codeI; rw [hb]; rfl
    | false =>
     obtain ⟨q1, q2, q3, q4, q5⟩ := ins_same t (newG ids) (n - 1) n hb (.inr (by omega));omega
  rw [hc0, ← hn] at e4;rw [hc5, j4, ← hn] at e5;have hd0 : 0 ≤ n ∧ n ≤ 355 := by omega
  have hw2 : IntKind.i64.wrap (n - 1) = n - 1 := wrap_i64 (by omega) (by omega);refine nrm_gc ⟨H6, ?_, g.ext⟩ (.bool _);clear hI hI5 hI6 j1 j2 j3 j4 j5 hc0 hc5 hcode hbr;generalize (runIr t (newG ids) (n - 1)).2.2.done = d6 at e6 hlast;generalize codeI (runIr t (newG ids) (n - 1)) = k6 at e6 hlast;rcases hlast with hn0 | ⟨hn0, hlt, hk4⟩
  ·have hb0 : (n == 0) = true := by simp [hn0]
   simp -implicitDefEqProofs (disch := omega) [swashlaw18_InsLeft, hs, hsm, hw, hrd, e1, e2, e3, hw0, hw1, e4, e5, gl1, gl2, hsame, hw2, e6, hb0]
  ·have hb0 : (n == 0) = false := by simp [hn0]
   subst hk4;simp -implicitDefEqProofs (disch := omega) [swashlaw18_InsLeft, hs, hsm, hw, hrd, e1, e2, e3, hw0, hw1, e4, e5, gl1, gl2, hsame, hw2, e6, hb0, hlt]
abbrev iplSh : ASh := .agg [.slice [.int .u8], .slice [.slice [.int .u8]], .slice [.int .i64, .int .i64, .int .i64, .int .i64], .int .u8, .slice [.int .u16]]
theorem row_H {r : List Da} {cs : List Value} (h : LayRow [.int .u16] r cs) : ∃ n : Int, cs = encH n ∧ (0 ≤ n ∧ n < 65536) := by
 obtain ⟨_, v1, _, _, rfl, h1, h⟩ := h.head;obtain rfl := h.done;obtain ⟨n, rfl, w⟩ := h1.intv;exact ⟨n, rfl, wf_u16 w⟩
theorem arg_ipl {v : Value} (h : ArgLay iplSh v) : ∃ x, v = iplV x ∧ x.ok := by
 cases h with
 | agg ss ds vs h =>
  obtain ⟨_, v1, _, _, rfl, h1, h⟩ := h.head;obtain ⟨_, v2, _, _, rfl, h2, h⟩ := h.head;obtain ⟨_, v3, _, _, rfl, h3, h⟩ := h.head;obtain ⟨_, v4, _, _, rfl, h4, h⟩ := h.head;obtain ⟨_, v5, _, _, rfl, h5, h⟩ := h.head;obtain rfl := h.done;obtain ⟨a, rfl, wa⟩ := Lay.list (enc := encB) (ok := fun n => 0 ≤ n ∧ n < 256) (fun r cs h => row_B h) h1;obtain ⟨b, rfl, wb⟩ := Lay.list (enc := encBR) (ok := Byt) (fun r cs h => row_BR h) h2;obtain ⟨c, rfl, wc⟩ := Lay.list (enc := encEn) (ok := fun _ => True) (fun r cs h => row_En h) h3;obtain ⟨d, rfl, wd⟩ := h4.intv;obtain ⟨f, rfl, wf⟩ := Lay.list (enc := encH) (ok := fun n => 0 ≤ n ∧ n < 65536) (fun r cs h => row_H h) h5;exact ⟨⟨⟨a, b, c, d⟩, f⟩, rfl, ⟨⟨wa, wb, wf_u8 wd⟩, wf⟩⟩
theorem InsLeft_args (vs : List Value) (h : ArgsLay [iplSh, .one (.slice [.int .i64]), .one (.int .u8)] vs) : ∃ H', R (T F.swashlaw18_speaks) F.swashlaw18_InsLeft vs Heap.empty = .ok (.bool true) H' := by
 obtain ⟨v1, _, rfl, h1, h⟩ := h.head;obtain ⟨v2, _, rfl, h2, h⟩ := h.head;obtain ⟨v3, _, rfl, h3, h⟩ := h.head;obtain rfl := h.done;obtain ⟨x, rfl, hx⟩ := arg_ipl h1;obtain ⟨ids, rfl, _⟩ := arg_I h2;obtain ⟨most, rfl, wm⟩ := arg_i h3;exact ⟨_, InsLeft_run x hx ids most (wf_u8 wm)⟩
end Go.Sw
end
section
namespace Go.Sw
open Go.RowKit
theorem setCells_row (g : Nat) (el : TypeId) (fz : Nat × Nat) : ∀ (vs : List Value) (o : Nat) (cs : Array Value) (w : World), w.heap[g]? = some (.cells cs el fz) → o + vs.length ≤ cs.size → w.setCells g o vs = w.setRow g (splice cs.toList o vs).toArray
 | [], o, cs, w, hg, _ => by
  rw [World.setCells];unfold splice;simp only [List.length_nil, Nat.add_zero, List.nil_append, List.take_append_drop, Array.toArray_toList];exact (setRow_self w g cs el fz hg).symm
 | v :: r, o, cs, w, hg, hl => by
  rw [World.setCells, setCell_eq_setRow w g o cs el fz v hg, setCells_row g el fz r (o + 1) (cs.setIfInBounds o v) _ (setRow_heap w g cs _ el fz hg) (by simp at hl ⊢; omega), setRow_setRow];congr 2;have e := list_seg_step cs.toList o v r (by simp at hl ⊢; omega);unfold splice;simpa [Array.toList_setIfInBounds, Nat.add_assoc, Nat.add_comm 1] using e
theorem splice_two (l a b : List Value) (o : Nat) (h : o + a.length + b.length ≤ l.length) : splice (splice l (o + a.length) b) o a = splice l o (a ++ b) := by
 apply List.ext_getElem?;intro j;have h1 : (splice l (o + a.length) b).length = l.length := splice_length _ _ _ (by omega);rw [splice_get _ _ _ (by rw [h1]; omega), splice_get _ _ _ (by omega), splice_get _ _ _ (by rw [List.length_append]; omega)];rw [List.length_append];by_cases c0 : j < o
 ·have c1 : j < o + a.length := by omega
  simp only [if_pos c0, if_pos c1]
 ·simp only [if_neg c0];by_cases c1 : j < o + a.length
  ·have c3 : j < o + (a.length + b.length) := by omega
   simp only [if_pos c1, if_pos c3];rw [List.getElem?_append_left (by omega)]
  ·simp only [if_neg c1];by_cases c2 : j < o + a.length + b.length
   ·have c3 : j < o + (a.length + b.length) := by omega
    simp only [if_pos c2, if_pos c3];rw [List.getElem?_append_right (by omega), show j - o - a.length = j - (o + a.length) by omega]
   ·have c3 : ¬ j < o + (a.length + b.length) := by omega
    simp only [if_neg c2, if_neg c3]
theorem VRs.cut {μ : Mu} {k : List Value} {cs : Array Value} {base off N : Nat} (h4 : ∀ (i : Nat) v, k[i]? = some v → ∃ v', cs[base + i]? = some v' ∧ VR μ v v') (hk : off + N ≤ k.length) :
  VRs μ ((k.drop off).take N) ((cs.toList.drop (base + off)).take N) := by
 have hcs : ∀ i, i < N → base + off + i < cs.size := fun i hi => by
  obtain ⟨v', e, _⟩ := h4 (off + i) _ (List.getElem?_eq_getElem (by omega));have := (Array.getElem?_eq_some_iff.1 e).1;omega
 refine ⟨?_, fun i v v' hv hv' => ?_⟩
 ·rw [List.length_take, List.length_take, List.length_drop, List.length_drop, Array.length_toList (xs := cs)];by_cases h0 : N = 0
  ·subst h0; simp
  ·have := hcs (N - 1) (by omega);have e1 : N ≤ k.length - off := by omega
   have e2 : N ≤ cs.size - (base + off) := by omega
   rw [Nat.min_eq_left e1, Nat.min_eq_left e2]
 ·rw [List.getElem?_take] at hv hv';split at hv
  ·rename_i hi;rw [if_pos hi, List.getElem?_drop] at hv';rw [List.getElem?_drop] at hv;obtain ⟨u, e, r⟩ := h4 _ v hv;rw [← Nat.add_assoc] at e;simp only [Array.getElem?_toList] at hv';rw [e] at hv';injection hv' with hv';subst hv';exact r
  ·cases hv
structure InsWalk (P : Program) (f : FuncId) (tS e : TypeId) (sz : Nat) (z : Value) : Prop where
 fn : ∃ fn, P.funcs[f]? = some fn ∧ fn.body.isSome = true ∧ (fn.name == "runtime.NumGoroutine") = false
 none_ : ∀ (base : Option Addr) (n c i : Nat) (vb : Option Addr) (vc : Nat) (w : World), i ≤ n → n ≤ c → (base = none → n = 0 ∧ c = 0) → Calls P f #[.slice base n c, .int .i64 (i : Nat), .slice vb 0 vc] w fun e w' => e = .returned (.slice base n c) ∧ w' = w
 end_ : ∀ (base : Option Addr) (n c : Nat) (vb : Option Addr) (m vc : Nat) (w : World) (v' : Value) (w1 : World), n ≤ c → (base = none → n = 0 ∧ c = 0) → 0 < m → (Builtin.append_ #[tS, tS] tS #[.slice base n c, .slice vb m vc]).run P w = .ok v' w1 →
  Calls P f #[.slice base n c, .int .i64 (n : Nat), .slice vb m vc] w fun e w' => e = .returned v' ∧ w' = w1
 shift : ∀ (b off n c i vb voff m vc : Nat) (CS VS : Array Value) (el el2 : TypeId) (cs vs : List Value) (w : World), i < n → 0 < m → n + m ≤ c → n + m ≤ 2 ^ 31 → vb ≠ b → w.heap[b]? = some (.cells CS el (0, 0)) → w.heap[vb]? = some (.cells VS el2 (0, 0)) → off + c * sz ≤ CS.size → voff + m * sz ≤ VS.size →
  cs = (CS.toList.drop off).take (n * sz) → vs = (VS.toList.drop voff).take (m * sz) → Ones cs → Ones vs →
  Calls P f #[.slice (some ⟨b, off, none⟩) n c, .int .i64 (i : Nat), .slice (some ⟨vb, voff, none⟩) m vc] w fun e w' => e = .returned (.slice (some ⟨b, off, none⟩) (n + m) c) ∧ w' = (w.drew.setCells b (off + (i + m) * sz) (cs.drop (i * sz))).setCells b (off + i * sz) vs
 grow : ∀ (b off n c i vb voff m vc : Nat) (CS VS : Array Value) (el el2 : TypeId) (cs vs : List Value) (w : World), i < n → 0 < m → n ≤ c → c < n + m → n + m ≤ 2 ^ 31 → w.heap[b]? = some (.cells CS el (0, 0)) → w.heap[vb]? = some (.cells VS el2 (0, 0)) → off + n * sz ≤ CS.size → voff + m * sz ≤ VS.size →
  cs = (CS.toList.drop off).take (n * sz) → vs = (VS.toList.drop voff).take (m * sz) → Ones cs → Ones vs →
  ∃ G, n + m ≤ G ∧ Calls P f #[.slice (some ⟨b, off, none⟩) n c, .int .i64 (i : Nat), .slice (some ⟨vb, voff, none⟩) m vc] w fun r w' => r = .returned (.slice (some ⟨w.heap.size, 0, none⟩) (n + m) G) ∧
   w' = (((w.alloc (.cells ((cs.take (i * sz)).toArray ++ Builtin.zeroCells z.cells (n + m - i) ++ Builtin.zeroCells z.cells (G - (n + m))) e)).drew.setCells w.heap.size (i * sz) vs).drew).setCells w.heap.size ((i + m) * sz) (cs.drop (i * sz))
theorem lenL_slice {μ : Mu} {v v' : Value} {n : Nat} (h : VR μ v v') (hl : lenL v = some n) : ∃ a c, v' = .slice a n c := by
 unfold lenL at hl;split at hl
 ·injection hl with hl; subst hl;cases h <;> exact ⟨_, _, rfl⟩
 ·injection hl with hl; subst hl;cases h <;> exact ⟨_, _, rfl⟩
 ·cases hl
theorem slice_shape {μ : Mu} {base : Option Addr} {n c : Nat} {s' : Value} (h : VR μ (.slice base n c) s') : ∃ base' c', s' = .slice base' n c' ∧ n ≤ c' ∧ (base' = none → n = 0 ∧ c' = 0) := by
 cases h with
 | nilSlice => exact ⟨_, _, rfl, Nat.le_refl _, fun _ => ⟨rfl, rfl⟩⟩
 | slice b off off' len cap cap' m h hl hc ho hx => exact ⟨_, _, rfl, Nat.le_trans hl hc, fun h => by cases h⟩
 | unsure a => exact ⟨_, _, rfl, Nat.le_refl _, fun _ => ⟨rfl, rfl⟩⟩
 | bare a => exact ⟨_, _, rfl, Nat.le_refl _, fun h => by cases h⟩
theorem heap_setRow_new (w : World) (A B : Array Value) (e : TypeId) : ((w.alloc (.cells A e)).setRow w.heap.size B).heap = (w.alloc (.cells B e)).heap := by
 have h1 : (w.alloc (.cells A e)).heap[w.heap.size]? = some (.cells A e (0, 0)) := heap_alloc_new' _ _;apply Array.ext_getElem?;intro j;by_cases hj : j = w.heap.size
 ·subst hj;rw [setRow_heap _ _ _ _ _ _ h1, heap_alloc_new']
 ·rw [setRow_other _ _ _ _ hj];show (w.heap.push _)[j]? = (w.heap.push _)[j]?;rw [Array.getElem?_push, Array.getElem?_push, if_neg hj, if_neg hj]
set_option maxHeartbeats 1000000 in
theorem insert_of {P : Program} {f : FuncId} {tS e : TypeId} {inf : TypeInfo} {z : Value} {sz bytes : Nat} (ht : P.underlying tS = some (.slice e)) (hi : P.info? e = some inf) (hz : inf.zero = some z) (hzs : z.cells.size = inf.size) (es : inf.size = sz) (eb : inf.bytes = bytes) (h0 : 0 < sz)
  (hW : InsWalk P f tS e sz z) : SpIs P f fun _ args H => insertV sz bytes args H := by
 subst es eb;intro call _ args H hne;refine ⟨hW.fn, fun w0 μ w args' hH hargs => ?_⟩;dsimp only at hne ⊢;unfold insertV at hne ⊢;split at hne;rotate_left
 ·exact absurd rfl hne
 rename_i base n cap i v;obtain ⟨s', r1, rfl, hs, ha⟩ := hargs.cons_inv;obtain ⟨i', r2, rfl, hi', ha⟩ := ha.cons_inv;obtain ⟨v', r3, rfl, hv, ha⟩ := ha.cons_inv;have := ha.nil_inv;subst this;cases hi';obtain ⟨base', cap', rfl, hnc, hnil⟩ := slice_shape hs;cases hl : lenL v with
 | none => rw [hl] at hne; exact absurd rfl hne
 | some q =>
 rw [hl] at hne;obtain ⟨vb', vc', rfl⟩ := lenL_slice hv hl;cases q with
 | zero =>
  dsimp only at hne ⊢;split at hne;rotate_left
  ·exact absurd rfl hne
  rename_i hin;rw [if_pos hin];obtain ⟨p, rfl⟩ := Int.eq_ofNat_of_zero_le hin.1;refine (hW.none_ base' n cap' p vb' vc' w (by omega) hnc hnil).mono ?_;rintro _ _ ⟨rfl, rfl⟩;exact ⟨μ, _, Mu.le_refl _, hH, hs, rfl⟩
 | succ q =>
  dsimp only at hne ⊢;split at hne
  ·rename_i hin;rw [if_pos hin];subst hin;unfold apR at hne ⊢;dsimp only at hne ⊢;rw [lenL_lenV hl] at hne ⊢;dsimp only at hne ⊢;cases hr : appendK inf.size inf.bytes inf.size (q + 1) base n cap v H with
   | stuck => rw [hr] at hne; exact absurd rfl hne
   | panic u H' =>
    exfalso;revert hr;unfold appendK
    repeat' split
    all_goals (intro h; cases h)
   | ok u H' =>
    obtain ⟨μ', u', w1, e1, e2, e3, e4⟩ := appendK_sim (ty := tS) hH ht (.inl ⟨e, ht⟩) hi hz hs hv (lenL_lenV hl) (by rw [hzs]; exact hr);refine (hW.end_ base' n cap' vb' (q + 1) vc' w u' w1 hnc hnil (by omega) e1).mono ?_;rintro _ _ ⟨rfl, rfl⟩;exact ⟨μ', u', e2, e3, e4, rfl⟩
  ·rename_i hin;rw [if_neg hin];split at hne;rotate_left
   ·exact absurd rfl hne
   rename_i b off c voff m vcap _;split at hne;rotate_left
   ·exact absurd rfl hne
   rename_i k kc hk hkc;split at hne;rotate_left
   ·exact absurd rfl hne
   rename_i hcond;rw [if_pos hcond];obtain ⟨c1, c2, c3, c4, c5, c6, c7, c8, c9, c10, c11⟩ := hcond;obtain ⟨p, rfl⟩ := Int.eq_ofNat_of_zero_le c1;have hpn : p < n := by omega
   cases hs with
   | slice _ _ off' _ _ cap' M hM hl1 hc1 ho1 hx1 =>
   cases hv with
   | slice _ _ voff' _ _ vcap' Mc hMc hl2 hc2 ho2 hx2 =>
   have hm0 : 0 < q + 1 := by omega
   generalize q + 1 = m at *;have ho1 := ho1.resolve_left (by omega);have ho2 := ho2.resolve_left (by omega);subst ho1 ho2;obtain ⟨M', hM', bM⟩ := hH.blk b k hk;rw [hM] at hM'; injection hM' with hM'; subst hM';obtain ⟨Mc', hMc', bMc⟩ := hH.blk c kc hkc;rw [hMc] at hMc'; injection hMc' with hMc'; subst hMc';obtain ⟨CS, el, fz, g1, g2, g3, g4⟩ := bM.here;obtain ⟨VS, el2, fz2, f1, f2, f3, f4⟩ := bMc.here;have g2 := g2 c6;have f2 := f2 c10;subst g2 f2;have hesz : M.esz = inf.size := bM.esz.trans c7;have hext := bM.ext;have hext2 := bMc.ext;have hroomx : off + cap' * inf.size ≤ M.ext := by
    rcases hx1 with h | h | h
    ·rw [h]; omega
    ·rw [bM.ro, c6] at h; cases h
    ·rw [hesz] at h; exact h
   have hne2 : Mc.blk ≠ M.blk := hH.other hk hkc hM hMc c6 c9;have hnsz : n * inf.size ≤ cap * inf.size := Nat.mul_le_mul_right _ c3;have hps : p * inf.size ≤ n * inf.size := Nat.mul_le_mul_right _ (by omega);have kcut := VRs.cut (N := n * inf.size) (off := off) (base := M.base) g4 (by omega);have vcut := VRs.cut (N := m * inf.size) (off := voff) (base := Mc.base) f4 (by omega);have ko : Ones ((k.cells.drop off).take (n * inf.size)) := (bM.ones.drop _).take _;have vo : Ones ((kc.cells.drop voff).take (m * inf.size)) := (bMc.ones.drop _).take _;have ko' := kcut.ones ko;have vo' := vcut.ones vo;have kl : ((k.cells.drop off).take (n * inf.size)).length = n * inf.size := by rw [List.length_take, List.length_drop]; omega
   have vl : ((kc.cells.drop voff).take (m * inf.size)).length = m * inf.size := by rw [List.length_take, List.length_drop]; omega
   have kl' := kcut.1.symm.trans kl;have vl' := vcut.1.symm.trans vl;obtain ⟨cs, hcs⟩ : ∃ cs, cs = (CS.toList.drop (M.base + off)).take (n * inf.size) := ⟨_, rfl⟩
   obtain ⟨vs, hvs⟩ : ∃ vs, vs = (VS.toList.drop (Mc.base + voff)).take (m * inf.size) := ⟨_, rfl⟩
   rw [← hcs] at kcut ko' kl';rw [← hvs] at vcut vo' vl';have hd : HR w0 μ H w.drew := hH.drew rfl rfl rfl rfl;have e1 : (n + m) * inf.size = n * inf.size + m * inf.size := Nat.add_mul _ _ _;have e2 : (p + m) * inf.size = p * inf.size + m * inf.size := Nat.add_mul _ _ _;have hdl : (cs.drop (p * inf.size)).length = n * inf.size - p * inf.size := by rw [List.length_drop, kl']
   by_cases hroom : n + m ≤ cap'
   ·
    have hnm : (n + m) * inf.size ≤ cap' * inf.size := Nat.mul_le_mul_right _ hroom;refine (hW.shift M.blk (M.base + off) n cap' p Mc.blk (Mc.base + voff) m vc' CS VS el el2 cs vs w hpn (by omega) hroom c4 hne2 g1 f1 (by omega) (by omega) hcs hvs ko' vo').mono ?_;rintro _ _ ⟨rfl, rfl⟩;have hsr : (w.drew.setCells M.blk (M.base + off + (p + m) * inf.size) (cs.drop (p * inf.size))).setCells M.blk (M.base + off + p * inf.size) vs = w.drew.setRow M.blk (splice CS.toList (M.base + off + p * inf.size) (vs ++ cs.drop (p * inf.size))).toArray := by
     rw [setCells_row M.blk el (0, 0) _ _ CS w.drew g1 (by omega)];have hsl : (splice CS.toList (M.base + off + (p + m) * inf.size) (cs.drop (p * inf.size))).length = CS.size := by rw [splice_length _ _ _ (by rw [Array.length_toList (xs := CS)]; omega)]; simp
     rw [setCells_row M.blk el (0, 0) _ _ _ _ (setRow_heap w.drew M.blk CS _ el (0, 0) g1) (by rw [List.size_toArray, hsl]; omega), setRow_setRow];congr 2;rw [List.toList_toArray, ← splice_two CS.toList vs (cs.drop (p * inf.size)) (M.base + off + p * inf.size) (by rw [Array.length_toList (xs := CS)]; omega), vl', e2, Nat.add_assoc (M.base + off)]
    rw [hsr];obtain ⟨i1, i2⟩ := inplace_sim (size := inf.size) (off := off) (p := p * inf.size) hd hk hM c6 c7 g1 (by omega) (vcut.append (kcut.drop (p * inf.size))) (vo.append (ko.drop _)) (by rw [List.length_append, hdl, vl']; omega) g3;refine ⟨_, _, i1, ?_, ?_, rfl⟩
    ·rw [Int.toNat_natCast, List.take_take, Nat.min_eq_left hps];exact i2
    ·have := VR.slice (μ := μ.set H.n ⟨M.blk, M.base + off, M.ext - off, inf.size, false⟩) H.n 0 (M.base + off) (n + m) (n + m) cap' ⟨M.blk, M.base + off, M.ext - off, inf.size, false⟩ (by simp [Mu.set]) (Nat.le_refl _) hroom (.inr rfl) (.inr (.inr (by dsimp only; omega)));exact this
   ·obtain ⟨G, hG, hcall⟩ := hW.grow M.blk (M.base + off) n cap' p Mc.blk (Mc.base + voff) m vc' CS VS el el2 cs vs w hpn (by omega) hnc (by omega) c4 g1 f1 (by omega) (by omega) hcs hvs ko' vo';refine hcall.mono ?_;rintro _ _ ⟨rfl, rfl⟩;have hGs : (n + m) * inf.size ≤ G * inf.size := Nat.mul_le_mul_right _ hG;obtain ⟨ROW, hROW⟩ : ∃ ROW : Array Value, ROW = (cs.take (p * inf.size)).toArray ++ Builtin.zeroCells z.cells (n + m - p) ++ Builtin.zeroCells z.cells (G - (n + m)) := ⟨_, rfl⟩
    have hRl : ROW.size = G * inf.size := by
     rw [hROW];simp only [Array.size_append, List.size_toArray, size_zeroCells, hzs, Nat.sub_mul, Nat.add_mul, List.length_take, kl'];omega
    rw [← hROW];obtain ⟨FIN, hFIN⟩ : ∃ FIN : List Value, FIN = splice (splice ROW.toList (p * inf.size) vs) ((p + m) * inf.size) (cs.drop (p * inf.size)) := ⟨_, rfl⟩
    have hs1 : (splice ROW.toList (p * inf.size) vs).length = ROW.size := by rw [splice_length _ _ _ (by rw [Array.length_toList (xs := ROW)]; omega)]; simp
    have hFl : FIN.length = G * inf.size := by rw [hFIN, splice_length _ _ _ (by rw [hs1]; omega), hs1, hRl]
    have hN : (w.alloc (.cells ROW e)).drew.heap[w.heap.size]? = some (.cells ROW e (0, 0)) := heap_alloc_new' _ _;have hw : ((((w.alloc (.cells ROW e)).drew.setCells w.heap.size (p * inf.size) vs).drew).setCells w.heap.size ((p + m) * inf.size) (cs.drop (p * inf.size))) = ((w.alloc (.cells ROW e)).drew.setRow w.heap.size (splice ROW.toList (p * inf.size) vs).toArray).drew.setRow w.heap.size FIN.toArray := by
     rw [setCells_row w.heap.size e (0, 0) _ _ ROW _ hN (by omega)];have hN2 : ((w.alloc (.cells ROW e)).drew.setRow w.heap.size (splice ROW.toList (p * inf.size) vs).toArray).drew.heap[w.heap.size]? = some (.cells (splice ROW.toList (p * inf.size) vs).toArray e (0, 0)) := setRow_heap _ _ _ _ _ _ hN;rw [setCells_row w.heap.size e (0, 0) _ _ _ _ hN2 (by rw [List.size_toArray, hs1]; omega), hFIN]
    rw [hw];have hheap : (((w.alloc (.cells ROW e)).drew.setRow w.heap.size (splice ROW.toList (p * inf.size) vs).toArray).drew.setRow w.heap.size FIN.toArray).heap = (w.alloc (.cells FIN.toArray e)).heap := by
     have h1 : (((w.alloc (.cells ROW e)).drew.setRow w.heap.size (splice ROW.toList (p * inf.size) vs).toArray).drew.setRow w.heap.size FIN.toArray).heap = (((w.alloc (.cells ROW e)).setRow w.heap.size (splice ROW.toList (p * inf.size) vs).toArray).setRow w.heap.size FIN.toArray).heap := rfl;rw [h1, setRow_setRow];exact heap_setRow_new _ _ _ _
    have hkill := hH.kill hk;have hnew := kcut.take (p * inf.size);have hall : VRs μ (((k.cells.drop off).take (n * inf.size)).take (p * inf.size) ++ ((kc.cells.drop voff).take (m * inf.size) ++ ((k.cells.drop off).take (n * inf.size)).drop (p * inf.size))) (cs.take (p * inf.size) ++ (vs ++ cs.drop (p * inf.size))) := hnew.append (vcut.append (kcut.drop _))
    have hal := hkill.alloc (((k.cells.drop off).take (n * inf.size)).take (p * inf.size) ++ ((kc.cells.drop voff).take (m * inf.size) ++ ((k.cells.drop off).take (n * inf.size)).drop (p * inf.size))) FIN.toArray e inf.size (G * inf.size) (by rw [List.size_toArray, hFl]; exact Nat.le_refl _)
     (by
      simp only [List.length_append, List.length_take, List.length_drop];omega)
     ((ko.take _).append (vo.append (ko.drop _)))
     (fun j u hj => by
      obtain ⟨u', e', r⟩ := hall.get hj;refine ⟨u', ?_, r⟩;have hjl : j < (cs.take (p * inf.size) ++ (vs ++ cs.drop (p * inf.size))).length := (List.getElem?_eq_some_iff.1 e').1;simp only [List.length_append, List.length_take, kl', hdl, vl'] at hjl;have htl : (cs.take (p * inf.size)).length = p * inf.size := by rw [List.length_take, kl']; omega
      rw [List.getElem?_toArray, hFIN, splice_get _ _ _ (by rw [hs1]; omega), splice_get ROW.toList (p * inf.size) vs (by rw [Array.length_toList (xs := ROW)]; omega)];by_cases d1 : j < p * inf.size
      ·rw [List.getElem?_append_left (by omega)] at e';rw [if_pos (show j < (p + m) * inf.size by omega), if_pos d1, hROW];simp only [Array.getElem?_toList];rw [Array.append_assoc, Array.getElem?_append_left (by simp only [List.size_toArray]; omega)];simpa using e'
      ·rw [List.getElem?_append_right (by omega), htl] at e';by_cases d2 : j < (p + m) * inf.size
       ·rw [List.getElem?_append_left (by omega)] at e';rw [if_pos d2, if_neg d1, if_pos (by omega)];exact e'
       ·rw [List.getElem?_append_right (by omega), vl'] at e';rw [if_neg d2, if_pos (by omega), show j - (p + m) * inf.size = j - p * inf.size - m * inf.size by omega];exact e')
    have hn : (H.set b none).n = H.n := Heap.n_set _ _ _;rw [hn] at hal;refine ⟨μ.set H.n ⟨w.heap.size, 0, G * inf.size, inf.size, false⟩, _, Mu.le_set (μ := μ) hH.dom _, ?_, ?_, rfl⟩
    ·rw [Int.toNat_natCast];exact hal.drew hheap rfl rfl rfl
    ·exact VR.slice H.n 0 0 (n + m) (n + m) G ⟨w.heap.size, 0, G * inf.size, inf.size, false⟩ (by simp [Mu.set]) (Nat.le_refl _) hG (.inr rfl) (.inr (.inr (by dsimp only; omega)))
end Go.Sw
end
section
namespace Go.Sw
open Go.RowKit Go.Proofs Go.Lib
theorem cp_wp {P : Program} {w : World} {o : Oper} {a : Act} {K : Act → World → Prop} {Q : Exit → Act → World → Prop} {d s : Operand} {t t' : TypeId} (ho : o.op = .call { callee := .builtin .copy, args := #[d, s], argTypes := #[t, t'] }) {v u v' : Value} {w' : World} (hd : a.eval d = v) (hs : a.eval s = u)
  (hr : (Builtin.copy_ #[t, t'] o.type #[v, u]).run P w = .ok v' w') (h : K (a.put o.dst v') w') : o.wp P a w K Q := by
 refine wp_value (v := v') (w' := w') ?_ h;simp [execOp, ho, resolve, invoke, builtin, hd, hs, hr, Result.andThen]
theorem cp_list {P : Program} {w : World} {ops : Array Oper} {rest : List Oper} {o : Oper} {a : Act} {Q : Exit → Act → World → Prop} (hgd : o.guard = none) {d s : Operand} {t t' : TypeId} (ho : o.op = .call { callee := .builtin .copy, args := #[d, s], argTypes := #[t, t'] }) {v u v' : Value} {w' : World} (hd : a.eval d = v) (hs : a.eval s = u)
  (hr : (Builtin.copy_ #[t, t'] o.type #[v, u]).run P w = .ok v' w') (h : wpList P ops Q rest (a.put o.dst v') w') : wpList P ops Q (o :: rest) a w :=
 wpList_plain hgd fun _ hK => cp_wp ho hd hs hr (hK _ _ h)
theorem cp_step {P : Program} {ops : Array Oper} {o : Oper} {a : Act} {w : World} {K : Act → World → Prop} {Q : Exit → Act → World → Prop} {E : Prop} (hg : o.guard = none) {d s : Operand} {t t' : TypeId} (ho : o.op = .call { callee := .builtin .copy, args := #[d, s], argTypes := #[t, t'] }) {v u v' : Value} {w' : World} (hd : a.eval d = v) (hs : a.eval s = u)
  (hr : (Builtin.copy_ #[t, t'] o.type #[v, u]).run P w = .ok v' w') (h : K (a.put o.dst v') w') : if Region.wanted o (yielded ops a.tmps) = true then Oper.wp P o a w K Q else E := by
 have hw : Region.wanted o (yielded ops a.tmps) = true := by simp [Region.wanted, hg]
 rw [if_pos hw];exact cp_wp ho hd hs hr h
theorem run_copyN {P : Program} (w : World) (dT sT ty elem : TypeId) (b o dLen dCap : Nat) (a : Addr) (sLen sCap sz : Nat) (cs : List Value)
  (hu : P.underlying dT = some (.slice elem)) (hs : (P.info? elem).map (·.size) = some sz) (hn : cs.length = Nat.min sLen dLen * sz)
  (hsrc : ∀ j v, cs[j]? = some v → w.cell? (a.add j) = some v) (hc : ∀ j, j < cs.length → (w.cell? ⟨b, o + j, none⟩).isSome = true) (hf : ∀ j, j < cs.length → w.frozen? ⟨b, o + j, none⟩ = false) (h1 : ∀ v ∈ cs, v.oneCell' = true) :
  (Builtin.copy_ #[dT, sT] ty #[.slice (some ⟨b, o, none⟩) dLen dCap, .slice (some a) sLen sCap]).run P w = .ok (goInt (Nat.min sLen dLen)) (w.setCells b o cs) := by
 have hl := run_loadCells_list (P := P) w a cs hsrc;have hst := run_storeCells_cells (P := P) b o cs 0 w (by simpa using hc) (by simpa using hf) h1;cases hq : P.info? elem with
 | none => simp [hq] at hs
 | some i =>
  have hi : i.size = sz := by simpa [hq] using hs
  rw [hn] at hl;simp [Builtin.copy_, run_underlying hu, Builtin.lenOf, Builtin.firstCells, sizeOf, typeInfo, hq, hi, hl, hst]
theorem insT : Prog.underlying 48 = some (.slice 115) := by kernel_rfl
theorem insZ : (Prog.info? 115).map (·.size) = some 2 := by kernel_rfl
theorem insI : (Prog.info? 115).map (fun i => (i.zero, i.size, i.bytes)) = some (some (.agg #[.int .i64 0, .int .i64 0]), 2, 16) := by kernel_rfl
set_option maxRecDepth 100000 in
set_option maxHeartbeats 4000000 in
theorem ins_none (base : Option Addr) (n c i : Nat) (vb : Option Addr) (vc : Nat) (w : World) (hi : i ≤ n) (hn : n ≤ c) (hb : base = none → n = 0 ∧ c = 0) :
  Calls Prog 244 #[.slice base n c, .int .i64 (i : Nat), .slice vb 0 vc] w fun e w' => e = .returned (.slice base n c) ∧ w' = w := by
 go_enter Try.func244, Try.ntmps244
 cases base with
 | none =>
  obtain ⟨rfl, rfl⟩ := hb rfl;obtain rfl : i = 0 := by omega
  go_wp2
  go_ret
  exact ⟨rfl, rfl⟩
 | some a =>
  obtain ⟨ab, ao, asp⟩ := a
  go_wp2
  all_goals (go_ret; exact ⟨rfl, rfl⟩)
set_option maxRecDepth 100000 in
set_option maxHeartbeats 4000000 in
theorem ins_end (base : Option Addr) (n c : Nat) (vb : Option Addr) (m vc : Nat) (w : World) (v' : Value) (w1 : World) (hn : n ≤ c) (hb : base = none → n = 0 ∧ c = 0) (hm : 0 < m) (hr : (Builtin.append_ #[48, 48] 48 #[.slice base n c, .slice vb m vc]).run Prog w = .ok v' w1) :
  Calls Prog 244 #[.slice base n c, .int .i64 (n : Nat), .slice vb m vc] w fun e w' => e = .returned v' ∧ w' = w1 := by
 have hz1 : ¬ ((m : Int) = 0) := by omega
 go_enter Try.func244, Try.ntmps244
 cases base with
 | none =>
  obtain ⟨rfl, rfl⟩ := hb rfl
  go_wp2_with (at_builtin; refine Lib.wpList_append_run _ rfl _ _ _ _ rfl _ _ rfl rfl _ _ hr ?_)
  go_ret
  exact ⟨rfl, rfl⟩
 | some a =>
  obtain ⟨ab, ao, asp⟩ := a
  go_wp2_with (at_builtin; refine Lib.wpList_append_run _ rfl _ _ _ _ rfl _ _ rfl rfl _ _ hr ?_)
  all_goals (go_ret; exact ⟨rfl, rfl⟩)
set_option maxRecDepth 100000 in
set_option maxHeartbeats 4000000 in
theorem ins_shift (b off n c i vb voff m vc : Nat) (CS VS : Array Value) (el el2 : TypeId) (cs vs : List Value) (w : World) (hi : i < n) (hm : 0 < m) (hroom : n + m ≤ c) (h31 : n + m ≤ 2 ^ 31) (hvb : vb ≠ b) (g1 : w.heap[b]? = some (.cells CS el (0, 0))) (g2 : w.heap[vb]? = some (.cells VS el2 (0, 0))) (f1 : off + c * 2 ≤ CS.size) (f2 : voff + m * 2 ≤ VS.size)
  (hcs : cs = (CS.toList.drop off).take (n * 2)) (hvs : vs = (VS.toList.drop voff).take (m * 2)) (h1c : Ones cs) (h1v : Ones vs) :
  Calls Prog 244 #[.slice (some ⟨b, off, none⟩) n c, .int .i64 (i : Nat), .slice (some ⟨vb, voff, none⟩) m vc] w fun e w' => e = .returned (.slice (some ⟨b, off, none⟩) (n + m) c) ∧ w' = (w.drew.setCells b (off + (i + m) * 2) (cs.drop (i * 2))).setCells b (off + i * 2) vs := by
 have hz1 : ¬ ((m : Int) = 0) := by omega
 have hz2 : ¬ ((i : Int) = (n : Int)) := by omega
 have hz3 : ¬ (c : Int) < (n : Int) + (m : Int) := by omega
 have hcl : cs.length = n * 2 := by rw [hcs, List.length_take, List.length_drop, Array.length_toList]; omega
 have hvl : vs.length = m * 2 := by rw [hvs, List.length_take, List.length_drop, Array.length_toList]; omega
 have cellB : ∀ j, w.cell? ⟨b, j, none⟩ = CS[j]? := fun j => by simp [World.cell?, g1]
 have cellV : ∀ j, w.cell? ⟨vb, j, none⟩ = VS[j]? := fun j => by simp [World.cell?, g2]
 have frB : ∀ j, w.frozen? ⟨b, j, none⟩ = false := fun j => by simp [World.frozen?, g1]
 have frV : ∀ j, w.frozen? ⟨vb, j, none⟩ = false := fun j => by simp [World.frozen?, g2]
 have atB : ∀ j v, cs[j]? = some v → w.cell? ⟨b, off + j, none⟩ = some v := fun j v hj => by
  rw [cellB];rw [hcs, List.getElem?_take] at hj;split at hj
  ·rw [List.getElem?_drop] at hj;simpa using hj
  ·cases hj
 have atV : ∀ j v, vs[j]? = some v → w.cell? ⟨vb, voff + j, none⟩ = some v := fun j v hj => by
  rw [cellV];rw [hvs, List.getElem?_take] at hj;split at hj
  ·rw [List.getElem?_drop] at hj;simpa using hj
  ·cases hj
 have hsa : w.shape? vb = some (el2, VS.size) := by simp [World.shape?, g2]
 have hsb : w.shape? b = some (el, CS.size) := by simp [World.shape?, g1]
 have hov : ∀ lb cb, (callFunc 248 #[.slice (some ⟨vb, voff, none⟩) m vc, .slice (some ⟨b, off + (i + m) * 2, none⟩) lb cb]).run Prog w = .ok (.value (.bool false)) w := fun lb cb => by
  rw [run_callFunc_extern (f := 248) (fn := Try.f248) Try.func248 (by kernel_rfl) (by kernel_rfl) (by kernel_rfl) (e := Extern.SlicesOverlaps.overlaps #[48, 48] #[4]) (by kernel_rfl),
   Lib.run_overlaps_apart w 48 4 115 insT 2 (fun w => by kernel_rfl) ⟨vb, voff, none⟩ ⟨b, off + (i + m) * 2, none⟩ m vc lb cb hvb el2 el VS.size CS.size hsa hsb (by omega) (frV _) (frV _)]
  rfl
 have hdl : (cs.drop (i * 2)).length = (n - i) * 2 := by rw [List.length_drop, hcl]; omega
 have hw1 : IntKind.i64.wrap ((i : Int) + (m : Int)) = (i : Int) + (m : Int) := by rw [IntKind.wrap_i64]; omega
 have hw2 : IntKind.i64.wrap ((n : Int) + (m : Int)) = (n : Int) + (m : Int) := by rw [IntKind.wrap_i64]; omega
 have hb1 : (0 : Int) ≤ (i : Int) + (m : Int) := by omega
 have hb1' : (0 : Int) ≤ (n : Int) + (m : Int) := by omega
 have hin : i ≤ n := by omega
 have htn : ((i : Int) + (m : Int)).toNat = i + m := by omega
 have htn' : ((n : Int) + (m : Int)).toNat = n + m := by omega
 have hb2 : ¬ (c = i + m) := by omega
 have hb3 : (i : Int) ≤ (n : Int) + (m : Int) := by omega
 have hb4 : ¬ (c = i) := by omega
 have hcp1 : ∀ ty dc sc, (Builtin.copy_ #[48, 48] ty #[.slice (some ⟨b, off + (i + m) * 2, none⟩) (n + m - (i + m)) dc, .slice (some ⟨b, off + i * 2, none⟩) (n + m - i) sc]).run Prog w.drew = .ok (goInt (Nat.min (n + m - i) (n + m - (i + m)))) (w.drew.setCells b (off + (i + m) * 2) (cs.drop (i * 2))) := fun ty dc sc =>
  run_copyN w.drew 48 48 ty 115 b (off + (i + m) * 2) (n + m - (i + m)) dc ⟨b, off + i * 2, none⟩ (n + m - i) sc 2 (cs.drop (i * 2)) insT insZ (by rw [hdl, show Nat.min (n + m - i) (n + m - (i + m)) = n - i by simp only [Nat.min_def]; split <;> omega])
   (fun j v hj => by rw [Addr.add_lit, Nat.add_assoc]; exact atB (i * 2 + j) v (by rwa [List.getElem?_drop] at hj))
   (fun j hj => by
    show (w.cell? _).isSome = true;rw [cellB, Array.getElem?_eq_getElem (by omega)]; rfl) (fun j hj => frB _) (fun v hv => h1c v (List.mem_of_mem_drop hv))
 obtain ⟨W1, hW1⟩ : ∃ W1, W1 = w.drew.setCells b (off + (i + m) * 2) (cs.drop (i * 2)) := ⟨_, rfl⟩
 have hW1r : W1 = w.drew.setRow b (splice CS.toList (off + (i + m) * 2) (cs.drop (i * 2))).toArray := by rw [hW1]; exact setCells_row b el (0, 0) _ _ CS w.drew g1 (by omega)
 have hW1b : W1.heap[b]? = some (.cells (splice CS.toList (off + (i + m) * 2) (cs.drop (i * 2))).toArray el (0, 0)) := by rw [hW1r]; exact setRow_heap _ _ _ _ _ _ g1
 have hspl : (splice CS.toList (off + (i + m) * 2) (cs.drop (i * 2))).length = CS.size := by rw [splice_length _ _ _ (by rw [Array.length_toList (xs := CS)]; omega)]; simp
 have hcp2 : ∀ (W : World), (∀ x, W.cell? x = W1.cell? x) → (∀ x, W.frozen? x = W1.frozen? x) → ∀ ty dc, (Builtin.copy_ #[48, 48] ty #[.slice (some ⟨b, off + i * 2, none⟩) (n + m - i) dc, .slice (some ⟨vb, voff, none⟩) m vc]).run Prog W = .ok (goInt (Nat.min m (n + m - i))) (W.setCells b (off + i * 2) vs) := fun W hWc hWf ty dc =>
  run_copyN W 48 48 ty 115 b (off + i * 2) (n + m - i) dc ⟨vb, voff, none⟩ m vc 2 vs insT insZ (by rw [hvl, show Nat.min m (n + m - i) = m by simp only [Nat.min_def]; split <;> omega])
   (fun j v hj => by
    rw [Addr.add_lit, hWc, hW1, World.cell?_setCells_out b _ _ _ _ (fun h _ => absurd h hvb)];exact atV j v hj)
   (fun j hj => by
    rw [hWc];simp only [World.cell?, hW1b];rw [Array.getElem?_eq_getElem (by rw [List.size_toArray, hspl]; omega)]; rfl) (fun j hj => by rw [hWf]; simp [World.frozen?, hW1b]) h1v
 rw [← hW1] at hcp1;clear hcs hvs
 go_enter Try.func244, Try.ntmps244
 go_wp2_with (simp only [hov])
 go_region_law (refine cp_step rfl rfl (by simp [Act.eval, Act.put]) (by simp [Act.eval, Act.put]) (hcp1 _ _ _) ?_)
 go_wp2_with (at_builtin; refine cp_list rfl rfl rfl rfl (hcp2 _ (fun _ => rfl) (fun _ => rfl) _ _) ?_)
 go_ret
 first | exact ⟨rfl, rfl⟩ | exact ⟨rfl, by rw [hW1]⟩
set_option maxRecDepth 100000 in
set_option maxHeartbeats 4000000 in
theorem ins_grow (b off n c i vb voff m vc : Nat) (CS VS : Array Value) (el el2 : TypeId) (cs vs : List Value) (w : World) (hi : i < n) (hm : 0 < m) (hnc : n ≤ c) (hroom : c < n + m) (h31 : n + m ≤ 2 ^ 31) (g1 : w.heap[b]? = some (.cells CS el (0, 0))) (g2 : w.heap[vb]? = some (.cells VS el2 (0, 0))) (f1 : off + n * 2 ≤ CS.size) (f2 : voff + m * 2 ≤ VS.size)
  (hcs : cs = (CS.toList.drop off).take (n * 2)) (hvs : vs = (VS.toList.drop voff).take (m * 2)) (h1c : Ones cs) (h1v : Ones vs) :
  ∃ G, n + m ≤ G ∧ Calls Prog 244 #[.slice (some ⟨b, off, none⟩) n c, .int .i64 (i : Nat), .slice (some ⟨vb, voff, none⟩) m vc] w fun r w' => r = .returned (.slice (some ⟨w.heap.size, 0, none⟩) (n + m) G) ∧
   w' = (((w.alloc (.cells ((cs.take (i * 2)).toArray ++ Builtin.zeroCells (Value.agg #[.int .i64 0, .int .i64 0]).cells (n + m - i) ++ Builtin.zeroCells (Value.agg #[.int .i64 0, .int .i64 0]).cells (G - (n + m))) 115)).drew.setCells w.heap.size (i * 2) vs).drew).setCells w.heap.size ((i + m) * 2) (cs.drop (i * 2)) := by
 refine ⟨grownCap w (n + m) c 115, grownCap_ge w _ _ _, ?_⟩;obtain ⟨i0, hi0, hz0, hzs, hzb⟩ := info_parts insI;have hz1 : ¬ ((m : Int) = 0) := by omega
 have hz2 : ¬ ((i : Int) = (n : Int)) := by omega
 have hz3 : (c : Int) < (n : Int) + (m : Int) := by omega
 have hcl : cs.length = n * 2 := by rw [hcs, List.length_take, List.length_drop, Array.length_toList]; omega
 have hvl : vs.length = m * 2 := by rw [hvs, List.length_take, List.length_drop, Array.length_toList]; omega
 have cellB : ∀ j, w.cell? ⟨b, j, none⟩ = CS[j]? := fun j => by simp [World.cell?, g1]
 have cellV : ∀ j, w.cell? ⟨vb, j, none⟩ = VS[j]? := fun j => by simp [World.cell?, g2]
 have atB : ∀ j v, cs[j]? = some v → w.cell? ⟨b, off + j, none⟩ = some v := fun j v hj => by
  rw [cellB];rw [hcs, List.getElem?_take] at hj;split at hj
  ·rw [List.getElem?_drop] at hj;simpa using hj
  ·cases hj
 have atV : ∀ j v, vs[j]? = some v → w.cell? ⟨vb, voff + j, none⟩ = some v := fun j v hj => by
  rw [cellV];rw [hvs, List.getElem?_take] at hj;split at hj
  ·rw [List.getElem?_drop] at hj;simpa using hj
  ·cases hj
 have hbw : b < w.heap.size := (Array.getElem?_eq_some_iff.1 g1).1;have hvw : vb < w.heap.size := (Array.getElem?_eq_some_iff.1 g2).1;have hkk : (n : Int) + (m : Int) - (i : Int) = ((n + m - i : Nat) : Int) := by omega
 have hik : i + (n + m - i) = n + m := by omega
 have hold : (Builtin.firstCells i0.size i (.slice (some ⟨b, off, none⟩) i c)).run Prog w.drew = .ok (cs.take (i * 2)).toArray w.drew := by
  rw [hzs];exact run_firstCells_some w.drew 2 i ⟨b, off, none⟩ i c (cs.take (i * 2)) (by rw [List.length_take]; omega) (fun j v hj => by
   rw [Addr.add_lit];rw [List.getElem?_take] at hj;split at hj
   ·exact atB j v hj
   ·cases hj)
 have hfit : Builtin.nextslicecap (n + m) c * i0.bytes ≤ 281474976710656 := by
  rw [hzb];exact growslice_fits hroom (by omega)
 have hrz : ∀ ty, (Builtin.append_ #[48, 3] ty #[.slice (some ⟨b, off, none⟩) i c, .int .i64 ((n : Int) + (m : Int) - (i : Int))]).run Prog w =
   .ok (.slice (some ⟨w.heap.size, 0, none⟩) (n + m) (grownCap w (n + m) c 115)) (w.drew.alloc (.cells ((cs.take (i * 2)).toArray ++ Builtin.zeroCells (Value.agg #[.int .i64 0, .int .i64 0]).cells (n + m - i) ++ Builtin.zeroCells (Value.agg #[.int .i64 0, .int .i64 0]).cells (grownCap w (n + m) c 115 - (n + m))) 115)) := fun ty => by
  have h := Lib.run_append_grow_zeros w 48 3 ty 115 i0 _ .i64 .i64 insT (by kernel_rfl) hi0 hz0 (some ⟨b, off, none⟩) i c (cs.take (i * 2)) hold (n + m - i) (by omega) (by omega) (by omega) (by omega) (by rw [hzb]; omega) (by rw [hik]; exact hfit);rw [hik] at h;rw [hkk];exact h
 obtain ⟨G, hG⟩ : ∃ G, G = grownCap w (n + m) c 115 := ⟨_, rfl⟩
 obtain ⟨ROW, hROW⟩ : ∃ ROW : Array Value, ROW = (cs.take (i * 2)).toArray ++ Builtin.zeroCells (Value.agg #[.int .i64 0, .int .i64 0]).cells (n + m - i) ++ Builtin.zeroCells (Value.agg #[.int .i64 0, .int .i64 0]).cells (G - (n + m)) := ⟨_, rfl⟩
 rw [← hG] at hrz ⊢;rw [← hROW] at hrz ⊢;have hGn : n + m ≤ G := by rw [hG]; exact grownCap_ge w _ _ _
 have hRl : (n + m) * 2 ≤ ROW.size := by
  rw [hROW];simp only [Array.size_append, List.size_toArray, size_zeroCells, List.length_take, hcl];show _ ≤ _ + (n + m - i) * 2 + (G - (n + m)) * 2;omega
 obtain ⟨W1, hW1⟩ : ∃ W1, W1 = w.drew.alloc (.cells ROW 115) := ⟨_, rfl⟩
 rw [← hW1] at hrz;have hNh : W1.heap[w.heap.size]? = some (.cells ROW 115 (0, 0)) := by rw [hW1]; exact heap_alloc_new' _ _
 have hN : ∀ j, j < (n + m) * 2 → (W1.cell? ⟨w.heap.size, j, none⟩).isSome = true := fun j hj => by
  simp only [World.cell?, hNh];rw [Array.getElem?_eq_getElem (by omega)]; rfl
 have hNf : ∀ j, W1.frozen? ⟨w.heap.size, j, none⟩ = false := fun j => by simp [World.frozen?, hNh]
 have hOb : ∀ j v, w.cell? ⟨b, j, none⟩ = some v → W1.cell? ⟨b, j, none⟩ = some v := fun j v h => by rw [hW1, World.cell?_alloc_past (w := w.drew) _ b j hbw]; exact h
 have hOv : ∀ j v, w.cell? ⟨vb, j, none⟩ = some v → W1.cell? ⟨vb, j, none⟩ = some v := fun j v h => by rw [hW1, World.cell?_alloc_past (w := w.drew) _ vb j hvw]; exact h
 have hcpA : ∀ (W : World), (∀ x, W.cell? x = W1.cell? x) → (∀ x, W.frozen? x = W1.frozen? x) → ∀ ty dc, (Builtin.copy_ #[48, 48] ty #[.slice (some ⟨w.heap.size, i * 2, none⟩) (n + m - i) dc, .slice (some ⟨vb, voff, none⟩) m vc]).run Prog W = .ok (goInt (Nat.min m (n + m - i))) (W.setCells w.heap.size (i * 2) vs) := fun W hWc hWf ty dc =>
  run_copyN W 48 48 ty 115 w.heap.size (i * 2) (n + m - i) dc ⟨vb, voff, none⟩ m vc 2 vs insT insZ (by rw [hvl, show Nat.min m (n + m - i) = m by simp only [Nat.min_def]; split <;> omega])
   (fun j v hj => by rw [Addr.add_lit, hWc]; exact hOv _ v (atV j v hj))
   (fun j hj => by rw [hWc]; exact hN _ (by omega)) (fun j hj => by rw [hWf]; exact hNf _) h1v
 have hG63 : G ≤ 9223372036854775807 := by
  have := grownCap_le_maxLen w (n + m) c 115 (by unfold maxLen; omega);rw [← hG] at this;unfold maxLen at this;omega
 have hGi : ¬ (G = i) := by omega
 have hGim : ¬ (G = i + m) := by omega
 have hci : ¬ (c = i) := by omega
 have hbN : b ≠ w.heap.size := by omega
 have hdl : (cs.drop (i * 2)).length = (n - i) * 2 := by rw [List.length_drop, hcl]; omega
 have hcpB : ∀ (W : World), (∀ x, W.cell? x = (W1.setCells w.heap.size (i * 2) vs).cell? x) → (∀ x, W.frozen? x = (W1.setCells w.heap.size (i * 2) vs).frozen? x) → ∀ ty dc sc, (Builtin.copy_ #[48, 48] ty #[.slice (some ⟨w.heap.size, (i + m) * 2, none⟩) (n + m - (i + m)) dc, .slice (some ⟨b, off + i * 2, none⟩) (n - i) sc]).run Prog W = .ok (goInt (Nat.min (n - i) (n + m - (i + m)))) (W.setCells w.heap.size ((i + m) * 2) (cs.drop (i * 2))) := fun W hWc hWf ty dc sc =>
  run_copyN W 48 48 ty 115 w.heap.size ((i + m) * 2) (n + m - (i + m)) dc ⟨b, off + i * 2, none⟩ (n - i) sc 2 (cs.drop (i * 2)) insT insZ (by rw [hdl, show Nat.min (n - i) (n + m - (i + m)) = n - i by simp only [Nat.min_def]; split <;> omega])
   (fun j v hj => by
    rw [Addr.add_lit, hWc, World.cell?_setCells_out _ _ _ _ _ (fun h _ => absurd h hbN), Nat.add_assoc];exact hOb _ v (atB (i * 2 + j) v (by rwa [List.getElem?_drop] at hj)))
   (fun j hj => by
    rw [hWc, setCells_row w.heap.size 115 (0, 0) _ _ ROW W1 hNh (by omega)];simp only [World.cell?, setRow_heap _ _ _ _ _ _ hNh];rw [Array.getElem?_eq_getElem (by rw [List.size_toArray, splice_length _ _ _ (by rw [Array.length_toList (xs := ROW)]; omega), Array.length_toList (xs := ROW)]; omega)]; rfl)
   (fun j hj => by rw [hWf, World.frozen?_setCells]; exact hNf _) (fun v hv => h1c v (List.mem_of_mem_drop hv))
 subst hW1;have hE1 : ∀ x, ((w.alloc (.cells ROW 115)).drew).cell? x = (w.drew.alloc (.cells ROW 115)).cell? x := fun x => rfl;have hE2 : ∀ x, ((w.alloc (.cells ROW 115)).drew).frozen? x = (w.drew.alloc (.cells ROW 115)).frozen? x := fun x => rfl;have hF1 : ∀ x, (((w.alloc (.cells ROW 115)).drew.setCells w.heap.size (i * 2) vs).drew).cell? x = ((w.drew.alloc (.cells ROW 115)).setCells w.heap.size (i * 2) vs).cell? x := fun x => rfl;have hF2 : ∀ x, (((w.alloc (.cells ROW 115)).drew.setCells w.heap.size (i * 2) vs).drew).frozen? x = ((w.drew.alloc (.cells ROW 115)).setCells w.heap.size (i * 2) vs).frozen? x := fun x => rfl;have hw1 : IntKind.i64.wrap ((i : Int) + (m : Int)) = (i : Int) + (m : Int) := by rw [IntKind.wrap_i64]; omega
 have hw2 : IntKind.i64.wrap ((n : Int) + (m : Int)) = (n : Int) + (m : Int) := by rw [IntKind.wrap_i64]; omega
 have hw3 : IntKind.i64.wrap ((n : Int) + (m : Int) - (i : Int)) = (n : Int) + (m : Int) - (i : Int) := by rw [IntKind.wrap_i64]; omega
 have hb1 : (0 : Int) ≤ (i : Int) + (m : Int) := by omega
 have hin : i ≤ n := by omega
 have htn : ((i : Int) + (m : Int)).toNat = i + m := by omega
 have hb3 : (i : Int) ≤ (n : Int) := by omega
 clear hkk hik hold hROW hG hRl hN hNf hNh cellB cellV;clear hcs hvs
 go_enter Try.func244, Try.ntmps244
 go_wp2_with (first
  | (at_builtin; refine Lib.wpList_append_run _ rfl _ _ _ _ rfl _ _ rfl rfl _ _ (hrz _) ?_)
  | (at_builtin; refine cp_list rfl rfl rfl rfl (hcpA _ hE1 hE2 _ _) ?_)
  | (at_builtin; refine cp_list rfl rfl rfl rfl (hcpB _ (fun _ => rfl) (fun _ => rfl) _ _ _) ?_))
 go_region_law (refine cp_step rfl rfl (v := .slice (some ⟨w.heap.size, (i + m) * 2, none⟩) (n + m - (i + m)) (G - (i + m))) (u := .slice (some ⟨b, off + i * 2, none⟩) (n - i) (c - i)) (by simp [Act.eval, Act.put]) (by simp [Act.eval, Act.put]) (hcpB _ hF1 hF2 _ (G - (i + m)) (c - i)) ?_)
 go_wp2
 go_ret
 exact ⟨rfl, rfl⟩
theorem ins_walk : InsWalk Prog 244 48 115 2 (.agg #[.int .i64 0, .int .i64 0]) :=
 ⟨⟨Try.f244, Try.func244, by kernel_rfl, by kernel_rfl⟩, ins_none, ins_end, ins_shift, ins_grow⟩
theorem insertG_is : SpIs Prog F.slices_Insert_of_api_Glyph_api_Glyph fun _ args H => insertV 2 16 args H := by
 obtain ⟨i0, hi0, hz0, hzs, hzb⟩ := info_parts insI;exact insert_of (inf := i0) insT hi0 hz0 (by rw [hzs]; rfl) hzs hzb (by decide) ins_walk
end Go.Sw
end
