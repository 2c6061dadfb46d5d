/-
  Functions' forms, and what is proved of them, part 11.
-/
import Derived.Test.YtnaodjnimkndbaaSwW10
import Derived.Test.YtnaodjnimkndbaaSwW9
set_option linter.unusedSimpArgs false
set_option linter.unusedVariables false
set_option linter.unusedSectionVars false
section
namespace Go.Sw
open Go.RowKit
theorem goS_facts (y : Way) (e : En) (n : Int) (hp : 0 ≤ y.pl) (hr : 0 ≤ y.rest) : let z := goS y e n y.pl (y.pl + 1)
  z.most = y.most ∧ z.stp = y.stp + 1 ∧ z.st = e.next ∧ 0 ≤ z.pl ∧ z.pl ≤ y.pl + 1 ∧ 0 ≤ z.rest ∧ z.rest ≤ y.rest + 1 ∧ (z.over = false → z.stp < z.most) := by
 intro z
 have hz : z = goS y e n y.pl (y.pl + 1) := rfl
 clear_value z
 unfold goS at hz
 dsimp only at hz
 by_cases c1 : e.flags / 16384 % 2 = 1
 ·rw [decide_eq_true c1] at hz
  simp only [Bool.not_true, Bool.false_and, Bool.false_eq_true, if_false, if_true] at hz
  split at hz <;> subst hz <;> dsimp only <;> refine ⟨rfl, rfl, rfl, by omega, by omega, by omega, by omega, fun h => ?_⟩
  ·cases h
  ·omega
 ·rw [decide_eq_false c1] at hz
  simp only [Bool.not_false, Bool.true_and, Bool.false_eq_true, if_false] at hz
  split at hz
  ·subst hz; dsimp only; exact ⟨rfl, rfl, rfl, by omega, by omega, by omega, by omega, fun h => by cases h⟩
  ·split at hz <;> subst hz <;> dsimp only <;> refine ⟨rfl, rfl, rfl, by omega, by omega, by omega, by omega, fun h => ?_⟩
   ·cases h
   ·omega
set_option maxHeartbeats 2000000 in
theorem run15_run (k : Nat) {b : List Int} (hb : Byt b) (hbl : b.length < 2 ^ 31) {g : Int} (hg : 1 ≤ g ∧ g ≤ 65535) (t : CTab) (ht : t.ok) (hm : machS b g 2 = some t.m) (rs : List (List Int × List RP)) (hrs : Subs15 t.subs rs) (l : List Gl) (hl : l.length < 2 ^ 29) (H : Heap) :
  R (T k) F.swashref15_Run [r15V (rmOf b g 2 t.m) rs, lv encG l] H = .ok (.tuple #[lv encG (runC t l).1, .int .i64 (runC t l).2]) H := by
 rw [swashref15_Run_R]
 obtain ⟨N, hN⟩ : ∃ N, N = 2 * l.length + 128 := ⟨_, rfl⟩
 obtain ⟨x0, hx0⟩ : ∃ x0 : (List Gl × Int) × Way, x0 = ((l, -1), ⟨0, 0, 0, 0, N, false, 0⟩) := ⟨_, rfl⟩
 have hpure := doc_runD t (N : Int) N (l, -1) ⟨0, 0, 0, 0, N, false, 0⟩ rfl rfl (Int.le_refl _) rfl (by dsimp only; omega) (by dsimp only; omega)
 rw [← hx0] at hpure
 have hrun : runC t l = ((docR t N x0).1.1, (docR t N x0).2.code) := by
  unfold runC runCr
  rw [show (2 * (l.length : Int) + 128) = (N : Int) by omega, ← hN]
  have : runD t.m (fun s : List Gl × Int => s.1) (fun s i e => (doC t s i e, i, i + 1)) (N : Int) N ((l, -1), ⟨0, 0, 0, 0⟩) = ((docR t N x0).2.stp, (docR t N x0).2.code, (docR t N x0).1) := hpure
  rw [this]
 rw [hrun]
 clear hrun hpure
 generalize hr0 : docR t N x0 = r
 have hnext := fun y hy hp l hl H' => Next_run k hb hg (.inr (.inr rfl)) hbl ht.m hm y hy hp l hl H'
 have hbegin := fun H' => Begin_run k l.length (by omega) (by omega) H'
 rw [show (2 * (l.length : Int) + 128) = (N : Int) by omega] at hbegin
 have hsw := fun l hl j w hw H' => swap15_run k t ht (rmOf b g 2 t.m) rs hrs l hl j w hw H'
 generalize rmOf b g 2 t.m = rm at hnext hsw ⊢
 have st := ((Star.nil H).push ⟨r15C rm rs, 1, false⟩).push ⟨wayC ⟨0, 0, 0, 0, N, false, 0⟩, 1, false⟩
 simp only [List.nil_append, List.cons_append, hn_push] at st
 obtain ⟨e, eE, H1, hr1, rfl, rfl, g1⟩ := loop_up (body := swashref15_Run_l1 k (R (T k))) N
  (fun j e H' => ∃ x : (List Gl × Int) × Way, e = [(1, lv encG x.1.1), (2, ptrV H.n), (6, ptrV (H.n + 1)), (7, .int .i64 x.1.2)] ∧ Star H H' [itBlk H.n ⟨r15C rm rs, 1, false⟩, itBlk (H.n + 1) ⟨wayC x.2, 1, false⟩] ∧ docR t (N - j) x = r ∧ x.1.1.length = l.length ∧
   (x.2.over = false → x.2.stp = j ∧ x.2.stp < N ∧ x.2.most = N ∧ 0 ≤ x.2.pl ∧ x.2.pl ≤ j ∧ 0 ≤ x.2.rest ∧ x.2.rest ≤ j ∧ 0 ≤ x.2.st ∧ x.2.st < t.m.rows.length))
  (fun x' e H' => x' = .exit 0 ∧ e = [(1, lv encG r.1.1), (2, ptrV H.n), (6, ptrV (H.n + 1)), (7, .int .i64 r.1.2), (15, .bool false)] ∧ Star H H' [itBlk H.n ⟨r15C rm rs, 1, false⟩, itBlk (H.n + 1) ⟨wayC r.2, 1, false⟩])
  (e0 := [(1, lv encG l), (2, ptrV H.n), (6, ptrV (H.n + 1)), (7, .int .i64 (-1))]) (H0 := (H.push ⟨r15C rm rs, 1, false⟩).push ⟨wayC ⟨0, 0, 0, 0, N, false, 0⟩, 1, false⟩)
  ⟨x0, by rw [hx0], by rw [hx0]; exact st, by rw [Nat.sub_zero]; exact hr0, by rw [hx0], fun _ => by rw [hx0]; have := ht.m.two; dsimp only; omega⟩ (by omega)
  (fun j e H' hj ⟨x, he, g, hd, hlen, hnot⟩ => by
   subst he
   obtain ⟨⟨lj, mark⟩, y⟩ := x
   dsimp only at g hd hlen hnot ⊢
   have b1 := g.get 0 rfl
   have b2 := g.get 1 rfl
   cases hov : y.over with
   | true =>
    rw [docR_over _ _ _ hov] at hd
    subst hd
    refine .inr ⟨.exit 0, _, H', ?_, by simp, rfl, rfl, g⟩
    rw [swashref15_Run_l1_eq]
    simp -implicitDefEqProofs (disch := omega) [b2, hov]
   | false =>
    obtain ⟨n1, n2, n3, n4, n5, n6, n7, n8, n9⟩ := hnot hov
    have hNj : N - j = (N - (j + 1)) + 1 := by omega
    rw [hNj] at hd
    have hd2 : docR t (N - (j + 1)) (docStep t ((lj, mark), y)) = r := by
     rw [← hd]
     show _ = (if y.over = true then _ else docR t (N - (j + 1)) (docStep t ((lj, mark), y)))
     rw [if_neg (by rw [hov]; simp)]
    unfold docStep at hd2
    dsimp only at hd2
    have hne := hnext y hov n4 lj (by omega)
    have hmem := entS_mem ht.m lj (drvW y) ⟨n8, n9⟩
    have hent := ht.m.ent _ hmem
    have hhas := ht.has _ hmem
    have hee : encEA (stepS t.m y.st (clsS t.m lj y.pl).1) = encE (entS t.m lj (drvW y)) := rfl
    rw [hee] at hne
    generalize (stepS t.m y.st (clsS t.m lj y.pl).1).isSome = zz at hne
    generalize entS t.m lj (drvW y) = en at hd2 hne hmem hent hhas
    have f := goS_facts y en (lj.length : Int) n4 n6
    dsimp only at f
    have hgo := fun H' => Go_run k y en (lj.length : Int) y.pl (y.pl + 1) (by omega) ⟨hent.2.2.1, hent.2.2.2.1⟩ H'
    have s1 := fun H' => hsw lj (by omega) mark en.a (by omega) H'
    have s2 := fun H' => hsw (swapC t lj mark en.a) (by simp; omega) y.pl en.b (by omega) H'
    generalize goS y en (lj.length : Int) y.pl (y.pl + 1) = z at hd2 f hgo
    have st2 := (g.push ⟨encEn en, 1, false⟩).setBlk 1 rfl ⟨wayC z, 1, false⟩
    simp only [List.cons_append, List.nil_append, List.set_cons_zero, List.set_cons_succ] at st2
    have st3 := st2.take 2
    simp only [List.take_succ_cons, List.take_zero] at st3
    refine .inl ⟨_, _, ?_, _, rfl, st3, hd2, by simp [doC]; omega, fun hz => ?_⟩
    ·rw [swashref15_Run_l1_eq]
     have hov' : (!y.over) = true := by rw [hov]; rfl
     have hnn : ¬ H.n + 1 = H'.n := by have := Heap.get_lt b2; omega
     have hnm : ¬ H.n = H'.n := by have := Heap.get_lt b1; omega
     unfold doC
     dsimp only
     by_cases d1 : en.flags ≥ 32768
     ·by_cases d2 : y.pl < (lj.length : Int)
      ·rw [if_pos ⟨d1, d2⟩]
       simp -implicitDefEqProofs (disch := omega) [b1, b2, hnn, hnm, hov', hne, s1, s2, d1, d2, hgo, swashref15_Run_j1_eq]
      ·rw [if_neg fun h => d2 h.2]
       simp -implicitDefEqProofs (disch := omega) [b1, b2, hnn, hnm, hov', hne, s1, s2, d1, d2, hgo, swashref15_Run_j2_eq]
     ·rw [if_neg fun h => d1 h.1]
      simp -implicitDefEqProofs (disch := omega) [b1, b2, hnn, hnm, hov', hne, s1, s2, d1, hgo, swashref15_Run_j2_eq]
    ·have := f.2.2.2.2.2.2.2 hz
     dsimp only
     omega)
  (fun e H' ⟨x, he, g, hd, hlen, hnot⟩ => by
   subst he
   rw [Nat.sub_self] at hd
   have hd : x = r := hd
   subst hd
   have b2 := g.get 1 rfl
   have hov : x.2.over = true := by
    cases h : x.2.over with
    | true => rfl
    | false => have := hnot h; omega
   refine ⟨.exit 0, _, H', ?_, by simp, rfl, rfl, g⟩
   rw [swashref15_Run_l1_eq]
   simp -implicitDefEqProofs (disch := omega) [b2, hov])
 have b2 := g1.get 1 rfl
 refine nrm_fz (v := .tuple #[lv encG r.1.1, .int .i64 r.2.code]) (L := []) (H' := H1) ?_ rfl g1.ext (Flat.tupleL (.cons (Flat.Gls _) (.cons (.int _ _) .nil))).alive
 simp -implicitDefEqProofs (disch := omega) [swashref15_Run, hbegin, hr1, swashref15_Run_l1k_x0, b2]
end Go.Sw
end
section
namespace Go.Sw
open Go.RowKit
abbrev tC (r : RMach) (s : Value) : List Value := [lv encB r.b, .int .i64 r.cl, .int .i64 r.rowsAt, .int .i64 r.entsAt, .int .i64 r.states, .int .i64 r.n, .int .i64 r.words, lv encB r.tb, lv encRP r.parts, s]
abbrev zC10 : List Value := [.slice none 0 0, .int .i64 0, .int .i64 0, .int .i64 0, .int .i64 0, .int .i64 0, .int .i64 0, .slice none 0 0, .slice none 0 0, .slice none 0 0]
abbrev rmC (r : RMach) : List Value := rmCells r.b r.cl r.rowsAt r.entsAt r.states r.n r.words r.tb r.parts
def st15 (X : List It) (p4 p6 p9 : Nat) (z : List Value) (r : RMach) (s : Value) (o : Option Nat) (rs : List (List Int × List RP)) : List It :=
 itBlk p4 ⟨z, 1, false⟩ :: itBlk p6 ⟨rmC r, 1, false⟩ :: itBlk p9 ⟨tC r s, 1, false⟩ :: itRow o 2 s encRT rs :: X
def To15 (sb : List Int) (g : Int) (c : Nat) (rs : List (List Int × List RP)) : Prop := ∃ subs, subsS sb g c = some subs ∧ Subs15 subs rs
theorem To15.len {sb : List Int} {g : Int} {c : Nat} {rs : List (List Int × List RP)} (h : To15 sb g c rs) : rs.length = c := by
 obtain ⟨subs, h1, h2⟩ := h
 rw [← h2.1, subsS_len h1]
theorem Subs15.snoc {subs : List (Int × List Pt)} {rs : List (List Int × List RP)} (h : Subs15 subs rs) {x : Int × List Pt} {y : List Int × List RP} (hy : Byt y.1 ∧ y.1.length < 2 ^ 31 ∧ Rel y.1 x.2 y.2 ∧ (∀ r, r ∈ y.2 → r.ok) ∧ y.2.length < 2 ^ 31) : Subs15 (subs ++ [x]) (rs ++ [y]) := by
 refine ⟨by simp [h.1], fun i a b ha hb => ?_⟩
 by_cases hi : i < subs.length
 ·rw [List.getElem?_append_left hi] at ha
  rw [List.getElem?_append_left (by rw [← h.1]; exact hi)] at hb
  exact h.2 i a b ha hb
 ·rw [List.getElem?_append_right (by omega)] at ha
  rw [List.getElem?_append_right (by rw [← h.1]; omega)] at hb
  rw [← h.1] at hb
  have hz : i - subs.length = 0 := by
   have := (List.getElem?_eq_some_iff.1 ha).1
   simp at this; omega
  rw [hz] at ha hb
  simp at ha hb
  subst ha hb
  exact hy
set_option maxHeartbeats 1000000 in
theorem r15_l3 (k : Nat) (X : List It) (b : List Int) (hb : Byt b) (hbl : b.length < 2 ^ 31) (g : Int) (hg : 1 ≤ g ∧ g ≤ 65535) {p : Int} {sb : List Int} (hsb : restS b p = some sb) (p4 p6 p9 : Nat) (z0 : List Value) (hz0 : z0.length = 10) (r : RMach) (x : Int) (hx : 0 ≤ x ∧ x < 65536) (a10 a11 a12 : Value)
  (c : Nat) {H0 H : Heap} {s : Value} {o : Option Nat} {rs : List (List Int × List RP)} (hc : c ≤ 65536) (hto : To15 sb g c rs) (st : Star H0 H (st15 X p4 p6 p9 z0 r s o rs)) :
  ∃ H', (∃ c' rs' s' o' zz, ((c' : Nat) : Int) = (if x = 65535 then (c : Int) else max c (x + 1)) ∧ To15 sb g c' rs' ∧ Star H0 H' (st15 X p4 p6 p9 z0 r s' o' rs') ∧
    loopN (swashref15_Read_l3 k (R (T k))) loopFuel [(0, lv encB b), (1, .int .i64 g), (4, ptrV p4), (6, ptrV p6), (8, .int .i64 p), (9, ptrV p9), (10, a10), (11, a11), (12, a12), (13, .int .i64 x)] H =
     .ok (.exit 4, [(0, lv encB b), (1, .int .i64 g), (4, ptrV p4), (6, ptrV p6), (8, .int .i64 p), (9, ptrV p9), (10, a10), (11, a11), (12, a12), (13, .int .i64 x), (67, zz)]) H') ∨
   (∃ n rs' s' o', subsS sb g n = none ∧ (n : Int) ≤ (if x = 65535 then (c : Int) else max c (x + 1)) ∧ Star H0 H' (st15 X p4 p6 p9 (tC r s') r s' o' rs') ∧
    loopN (swashref15_Read_l3 k (R (T k))) loopFuel [(0, lv encB b), (1, .int .i64 g), (4, ptrV p4), (6, ptrV p6), (8, .int .i64 p), (9, ptrV p9), (10, a10), (11, a11), (12, a12), (13, .int .i64 x)] H = .ok (.ret, [(4, ptrV p4), (5, .bool false)]) H') := by
 have hzd : z0.drop 10 = [] := List.drop_of_length_le (by omega)
 have hpr := restS_iff.1 hsb
 have hsl := restS_length hsb
 have hU := fun (j : Int) H' => refU_run k (H := H') (Sl.lv H' 1 b) hb j 4 (by omega) (by omega)
 have hsbl : sb.length ≤ b.length := restS_len hsb
 have hR := fun tb htb hl H' => read06_run k tb htb g 2 hg (.inl rfl) hl H'
 obtain ⟨N, hN⟩ : ∃ N : Nat, (if x = 65535 then (c : Int) else max c (x + 1)) = ((c + N : Nat) : Int) := ⟨((if x = 65535 then (c : Int) else max c (x + 1)) - c).toNat, by split <;> omega⟩
 rw [hN]
 obtain ⟨xx, e', H1, hr1, hQ⟩ := loop_up (body := swashref15_Read_l3 k (R (T k))) N
  (fun j e H' => e = [(0, lv encB b), (1, .int .i64 g), (4, ptrV p4), (6, ptrV p6), (8, .int .i64 p), (9, ptrV p9), (10, a10), (11, a11), (12, a12), (13, .int .i64 x)] ∧ ∃ rs' s' o', To15 sb g (c + j) rs' ∧ Star H0 H' (st15 X p4 p6 p9 z0 r s' o' rs'))
  (fun xx e H' => (∃ rs' s' o' zz, xx = .exit 4 ∧ e = [(0, lv encB b), (1, .int .i64 g), (4, ptrV p4), (6, ptrV p6), (8, .int .i64 p), (9, ptrV p9), (10, a10), (11, a11), (12, a12), (13, .int .i64 x), (67, zz)] ∧ To15 sb g (c + N) rs' ∧ Star H0 H' (st15 X p4 p6 p9 z0 r s' o' rs')) ∨
   (∃ n rs' s' o', xx = .ret ∧ e = [(4, ptrV p4), (5, .bool false)] ∧ subsS sb g n = none ∧ n ≤ c + N ∧ Star H0 H' (st15 X p4 p6 p9 (tC r s') r s' o' rs')))
  (e0 := [(0, lv encB b), (1, .int .i64 g), (4, ptrV p4), (6, ptrV p6), (8, .int .i64 p), (9, ptrV p9), (10, a10), (11, a11), (12, a12), (13, .int .i64 x)]) (H0 := H) ⟨rfl, rs, s, o, hto, st⟩ (by split at hN <;> omega)
  (fun j e H' hj ⟨he, rs', s', o', hto', st⟩ => by
   subst he
   have hx5 : ¬ x = 65535 := fun h => by rw [if_pos h] at hN; omega
   rw [if_neg hx5] at hN
   obtain ⟨nn, hnn⟩ : ∃ nn, c + j = nn := ⟨_, rfl⟩
   have en : c + (j + 1) = nn + 1 := by omega
   rw [hnn] at hto'
   have hcx : (nn : Int) ≤ x := by omega
   have hx5' : (x != 65535) = true := by simpa using hx5
   have hlen := hto'.len
   obtain ⟨subs, t1, t2⟩ := hto'
   unfold st15 at st
   have q9 := st.get 2 rfl
   have q4 := st.get 0 rfl
   have hln : ∀ H', lnS s' H' = .ok (.int .i64 rs'.length) H' := (st.row 3 rfl).len
   have hvs := (st.row 3 rfl).veq
   have hsucc := subsS_succ sb g nn
   rw [t1, Option.bind_some] at hsucc
   have hu := fun H' => hU (p + 4 * (nn : Int)) H'
   have hur := uS_rest hsb (x := 4 * (nn : Int)) (by omega) 4
   rw [← hur] at hu
   have setz := st.setBlk 0 rfl ⟨tC r s', 1, false⟩
   simp only [List.set_cons_zero] at setz
   rw [hlen] at hln
   cases e1 : uS sb (4 * (nn : Int)) 4 with
   | none =>
    have hno : subsS sb g (nn + 1) = none := by rw [hsucc]; unfold subS; rw [e1]; rfl
    simp only [e1, Option.getD_none] at hu
    refine .inr ⟨.ret, _, H'.set p4 (some ⟨tC r s', 1, false⟩), ?_, by simp, .inr ⟨nn + 1, rs', s', o', rfl, rfl, hno, by omega, setz⟩⟩
    rw [swashref15_Read_l3_eq]
    simp -implicitDefEqProofs (disch := omega) [hx5', q9, q4, hln, hcx, hu, hz0, hzd]
   | some f =>
    have hf := uS_four (hb.rest hsb) e1
    simp only [e1, Option.getD_some] at hu
    have hf0 : ¬ f < 0 := by omega
    cases e2 : restS sb f with
    | none =>
     have hno : subsS sb g (nn + 1) = none := by rw [hsucc]; unfold subS; rw [e1, Option.bind_some, e2]; rfl
     have hbig : f > (b.length : Int) - p := by
      unfold restS at e2
      split at e2
      ·cases e2
      ·omega
     refine .inr ⟨.ret, _, H'.set p4 (some ⟨tC r s', 1, false⟩), ?_, by simp, .inr ⟨nn + 1, rs', s', o', rfl, rfl, hno, by omega, setz⟩⟩
     rw [swashref15_Read_l3_eq]
     simp -implicitDefEqProofs (disch := omega) [hx5', q9, q4, hln, hcx, hu, hf0, hbig, hz0, hzd]
    | some tb =>
     have htr := restS_iff.1 e2
     have hnb : ¬ f > (b.length : Int) - p := by omega
     have htl := restS_len e2
     have htb := (hb.rest hsb).rest e2
     have hcut : ∀ H', slS 1 (lv encB b) (some (.int .i64 (p + f))) none none H' = .ok (lv encB tb) H' := fun H' => by
      rw [slS_lv encB_len b (some (.int .i64 (p + f))) none none (p + f).toNat b.length b.length (by unfold boundOf; dsimp only; rw [if_pos (by omega)]) rfl rfl (fun h => by cases h) (by omega) (Nat.le_refl _) (Nat.le_refl _), List.take_length, htr.2, hpr.2, List.drop_drop]
      congr 3
      omega
     have hr := fun H' => hR tb htb (by omega) H'
     have hlr := look_ref htb hg.1 hg.2 (.inl rfl : (2 : Int) = 2 ∨ (2 : Int) = 4)
     cases e3 : lookS tb g 2 with
     | none =>
      have hno : subsS sb g (nn + 1) = none := by rw [hsucc]; unfold subS; rw [e1, Option.bind_some, e2, Option.bind_some, e3]; rfl
      rw [hlr.2 e3] at hr
      simp [tabRO] at hr
      have st2 := (st.push ⟨[lv encB [], lv encRP []], 1, false⟩).setBlk 0 rfl ⟨tC r s', 1, false⟩
      simp only [List.cons_append, List.nil_append, List.set_cons_zero] at st2
      have n4 : ¬ p4 = H'.n := by have := Heap.get_lt q4; omega
      have n9 : ¬ p9 = H'.n := by have := Heap.get_lt q9; omega
      refine .inr ⟨.ret, _, (H'.push ⟨[lv encB [], lv encRP []], 1, false⟩).set p4 (some ⟨tC r s', 1, false⟩), ?_, by simp, .inr ⟨nn + 1, rs', s', o', rfl, rfl, hno, by omega, (show Star H0 _ (st15 X p4 p6 p9 (tC r s') r s' o' rs' ++ [itBlk H'.n ⟨[lv encB [], lv encRP []], 1, false⟩]) from st2).drop_last⟩⟩
      rw [swashref15_Read_l3_eq]
      simp -implicitDefEqProofs (disch := omega) [hx5', q9, q4, hln, hcx, hu, hf0, hnb, hcut, hr, hz0, hzd, n4, n9]
     | some xt =>
      obtain ⟨rr, hrr, hrel⟩ := hlr.1 xt e3
      have hrok := refRead_ok htb hg (.inl rfl) hrr
      have hrl := refRead_len htb hg (.inl rfl) e3 hrr
      rw [hrr] at hr
      simp [tabRO] at hr
      have hyes : subsS sb g (nn + 1) = some (subs ++ [xt]) := by rw [hsucc]; unfold subS; rw [e1, Option.bind_some, e2, Option.bind_some, e3]; rfl
      have n9 : ¬ p9 = H'.n := by have := Heap.get_lt q9; omega
      have n91 : ¬ p9 = H'.n + 1 := by have := Heap.get_lt q9; omega
      have st2 := st.push ⟨[lv encB tb, lv encRP rr], 1, false⟩
      simp only [List.cons_append, List.nil_append] at st2
      obtain ⟨s2, o2, H2, f2, st3⟩ := st2.append1 (bytes := 48) 3 encRT_len rfl (tb, rr) (by omega) (by decide)
      simp only [List.set_cons_zero, List.set_cons_succ, hn_push] at st3 f2
      obtain ⟨H3, f3, st4, _⟩ := st3.stCell 2 rfl 9 (st3.row 3 rfl).storable (st3.row 3 rfl).cells (by simp)
      simp only [List.set_cons_zero, List.set_cons_succ] at st4
      refine .inl ⟨_, H3, ?_, rfl, rs' ++ [(tb, rr)], s2, o2, by rw [en]; exact ⟨subs ++ [xt], hyes, t2.snoc ⟨htb, by dsimp only; omega, hrel, hrok, hrl⟩⟩, (show Star H0 _ (st15 X p4 p6 p9 z0 r s2 o2 (rs' ++ [(tb, rr)]) ++ [itBlk H'.n ⟨[lv encB tb, lv encRP rr], 1, false⟩]) from st4).drop_last⟩
      rw [swashref15_Read_l3_eq]
      simp -implicitDefEqProofs (disch := omega) [-stR_ptr, stR_ptr 2 H'.n 0, hx5', q9, hln, hcx, hu, hf0, hnb, hcut, hr, n9, n91, f2, f3])
  (fun e H' ⟨he, rs', s', o', hto', st⟩ => by
   subst he
   have hlen := hto'.len
   have hst := st
   unfold st15 at st
   have q9 := st.get 2 rfl
   have hln : ∀ H', lnS s' H' = .ok (.int .i64 rs'.length) H' := (st.row 3 rfl).len
   rw [hlen] at hln
   refine ⟨.exit 4, _, H', ?_, by simp, .inl ⟨rs', s', o', .bool false, rfl, rfl, hto', hst⟩⟩
   rw [swashref15_Read_l3_eq]
   by_cases hx5 : x = 65535
   ·simp -implicitDefEqProofs (disch := omega) [hx5]
   ·rw [if_neg hx5] at hN
    have hx5' : (x != 65535) = true := by simpa using hx5
    obtain ⟨nn, hnn⟩ : ∃ nn, c + N = nn := ⟨_, rfl⟩
    rw [hnn] at hln
    have hcx : ¬ (nn : Int) ≤ x := by omega
    simp -implicitDefEqProofs (disch := omega) [hx5', q9, hln, hcx])
 refine ⟨H1, ?_⟩
 rcases hQ with ⟨rs', s', o', zz, rfl, rfl, h1, h2⟩ | ⟨n, rs', s', o', rfl, rfl, h1, h2, h3⟩
 ·exact .inl ⟨c + N, rs', s', o', zz, rfl, h1, h2, hr1⟩
 ·exact .inr ⟨n, rs', s', o', h1, by omega, h3, hr1⟩
end Go.Sw
end
section
namespace Go.Sw
open Go.RowKit
theorem subs_before {sb : List Int} {g : Int} {n m : Nat} (h : n ≤ m) (hn : subsS sb g n = none) : subsS sb g m = none := mapO_none_of h hn
set_option maxHeartbeats 1000000 in
/-- An entry's two lookups. -/
theorem r15_l2 (k : Nat) (b : List Int) (hb : Byt b) (hbl : b.length < 2 ^ 31) (g : Int) (hg : 1 ≤ g ∧ g ≤ 65535) {p : Int} {sb : List Int} (hsb : restS b p = some sb) (p4 p6 p9 p11 : Nat) (z0 : List Value) (hz0 : z0.length = 10) (r : RMach) (e : En) (he : 0 ≤ e.a ∧ e.a < 65536 ∧ 0 ≤ e.b ∧ e.b < 65536) (a10 : Value)
  (c : Nat) {H0 H : Heap} {s : Value} {o : Option Nat} {rs : List (List Int × List RP)} (hc : c ≤ 65536) (hto : To15 sb g c rs) (st : Star H0 H (st15 [itBlk p11 ⟨encEn e, 1, false⟩] p4 p6 p9 z0 r s o rs)) :
  ∃ H', (∃ c' rs' s' o' zz, ((c' : Nat) : Int) = manyE c e ∧ To15 sb g c' rs' ∧ Star H0 H' (st15 [itBlk p11 ⟨encEn e, 1, false⟩] p4 p6 p9 z0 r s' o' rs') ∧
    loopN (swashref15_Read_l2 k (R (T k))) loopFuel [(0, lv encB b), (1, .int .i64 g), (4, ptrV p4), (6, ptrV p6), (8, .int .i64 p), (9, ptrV p9), (10, a10), (11, ptrV p11), (12, .int .i64 0)] H =
     .ok (.exit 2, [(0, lv encB b), (1, .int .i64 g), (4, ptrV p4), (6, ptrV p6), (8, .int .i64 p), (9, ptrV p9), (10, a10), (11, ptrV p11), (12, zz), (50, .bool false)]) H') ∨
   (∃ n rs' s' o', subsS sb g n = none ∧ (n : Int) ≤ manyE c e ∧ Star H0 H' (st15 [itBlk p11 ⟨encEn e, 1, false⟩] p4 p6 p9 (tC r s') r s' o' rs') ∧
    loopN (swashref15_Read_l2 k (R (T k))) loopFuel [(0, lv encB b), (1, .int .i64 g), (4, ptrV p4), (6, ptrV p6), (8, .int .i64 p), (9, ptrV p9), (10, a10), (11, ptrV p11), (12, .int .i64 0)] H = .ok (.ret, [(4, ptrV p4), (5, .bool false)]) H') := by
 obtain ⟨f, hf⟩ : ∃ f : Nat → Int, f = fun i => if i = 0 then (c : Int) else if i = 1 then (if e.a = 65535 then (c : Int) else max c (e.a + 1)) else manyE c e := ⟨_, rfl⟩
 have f0 : f 0 = c := by rw [hf]; rfl
 have f1 : f 1 = (if e.a = 65535 then (c : Int) else max c (e.a + 1)) := by rw [hf]; rfl
 have f2 : f 2 = manyE c e := by rw [hf]; rfl
 have f2' : f 2 = (if e.b = 65535 then f 1 else max (f 1) (e.b + 1)) := by rw [f2, f1]; rfl
 have fb : (c : Int) ≤ f 1 ∧ f 1 ≤ 65536 := by rw [f1]; split <;> omega
 have fb2 : f 1 ≤ f 2 ∧ f 2 ≤ 65536 := by rw [f2']; split <;> omega
 rw [← f2]
 obtain ⟨xx, e', H1, hr1, hQ⟩ := loop_up (body := swashref15_Read_l2 k (R (T k))) 2
  (fun j e' H' => e' = [(0, lv encB b), (1, .int .i64 g), (4, ptrV p4), (6, ptrV p6), (8, .int .i64 p), (9, ptrV p9), (10, a10), (11, ptrV p11), (12, .int .i64 j)] ∧ ∃ c' rs' s' o', ((c' : Nat) : Int) = f j ∧ To15 sb g c' rs' ∧ Star H0 H' (st15 [itBlk p11 ⟨encEn e, 1, false⟩] p4 p6 p9 z0 r s' o' rs'))
  (fun xx e' H' => (∃ c' rs' s' o' zz, xx = .exit 2 ∧ e' = [(0, lv encB b), (1, .int .i64 g), (4, ptrV p4), (6, ptrV p6), (8, .int .i64 p), (9, ptrV p9), (10, a10), (11, ptrV p11), (12, zz), (50, .bool false)] ∧ ((c' : Nat) : Int) = f 2 ∧ To15 sb g c' rs' ∧ Star H0 H' (st15 [itBlk p11 ⟨encEn e, 1, false⟩] p4 p6 p9 z0 r s' o' rs')) ∨
   (∃ n rs' s' o', xx = .ret ∧ e' = [(4, ptrV p4), (5, .bool false)] ∧ subsS sb g n = none ∧ (n : Int) ≤ f 2 ∧ Star H0 H' (st15 [itBlk p11 ⟨encEn e, 1, false⟩] p4 p6 p9 (tC r s') r s' o' rs')))
  (e0 := [(0, lv encB b), (1, .int .i64 g), (4, ptrV p4), (6, ptrV p6), (8, .int .i64 p), (9, ptrV p9), (10, a10), (11, ptrV p11), (12, .int .i64 0)]) (H0 := H) ⟨rfl, c, rs, s, o, f0.symm, hto, st⟩ (by omega)
  (fun j e' H' hj ⟨he', c1, rs', s', o', hc1, hto', st⟩ => by
   subst he'
   have q11 := st.get 4 rfl
   have hj2 : j = 0 ∨ j = 1 := by omega
   rcases hj2 with rfl | rfl
   ·obtain ⟨H2, h | h⟩ := r15_l3 k [itBlk p11 ⟨encEn e, 1, false⟩] b hb hbl g hg hsb p4 p6 p9 z0 hz0 r e.a ⟨he.1, he.2.1⟩ a10 (ptrV p11) (.int .i64 0) c1 (by omega) hto' st
    ·obtain ⟨c2, rs2, s2, o2, zz, k1, k2, k3, k4⟩ := h
     refine .inl ⟨_, H2, ?_, rfl, c2, rs2, s2, o2, by rw [k1, f1, hc1, f0], k2, k3⟩
     rw [swashref15_Read_l2_eq]
     simp -implicitDefEqProofs (disch := omega) [q11, swashref15_Read_j2_eq, k4, swashref15_Read_l3k_x4]
    ·obtain ⟨n, rs2, s2, o2, k1, k2, k3, k4⟩ := h
     refine .inr ⟨.ret, _, H2, ?_, by simp, .inr ⟨n, rs2, s2, o2, rfl, rfl, k1, ?_, k3⟩⟩
     ·rw [swashref15_Read_l2_eq]
      simp -implicitDefEqProofs (disch := omega) [q11, swashref15_Read_j2_eq, k4, swashref15_Read_l3k_r]
     ·rw [hc1, f0, ← f1] at k2; omega
   ·obtain ⟨H2, h | h⟩ := r15_l3 k [itBlk p11 ⟨encEn e, 1, false⟩] b hb hbl g hg hsb p4 p6 p9 z0 hz0 r e.b ⟨he.2.2.1, he.2.2.2⟩ a10 (ptrV p11) (.int .i64 1) c1 (by omega) hto' st
    ·obtain ⟨c2, rs2, s2, o2, zz, k1, k2, k3, k4⟩ := h
     refine .inl ⟨_, H2, ?_, rfl, c2, rs2, s2, o2, by rw [k1, f2', hc1], k2, k3⟩
     rw [swashref15_Read_l2_eq]
     simp -implicitDefEqProofs (disch := omega) [q11, swashref15_Read_j1_eq, k4, swashref15_Read_l3k_x4]
    ·obtain ⟨n, rs2, s2, o2, k1, k2, k3, k4⟩ := h
     refine .inr ⟨.ret, _, H2, ?_, by simp, .inr ⟨n, rs2, s2, o2, rfl, rfl, k1, ?_, k3⟩⟩
     ·rw [swashref15_Read_l2_eq]
      simp -implicitDefEqProofs (disch := omega) [q11, swashref15_Read_j1_eq, k4, swashref15_Read_l3k_r]
     ·rw [hc1, ← f2'] at k2; omega)
  (fun e' H' ⟨he', c1, rs', s', o', hc1, hto', st⟩ => by
   subst he'
   refine ⟨.exit 2, _, H', ?_, by simp, .inl ⟨c1, rs', s', o', .int .i64 ((2 : Nat) : Int), rfl, rfl, hc1, hto', st⟩⟩
   rw [swashref15_Read_l2_eq]
   simp -implicitDefEqProofs)
 refine ⟨H1, ?_⟩
 rcases hQ with ⟨c', rs', s', o', zz, rfl, rfl, h1, h2, h3⟩ | ⟨n, rs', s', o', rfl, rfl, h1, h2, h3⟩
 ·exact .inl ⟨c', rs', s', o', zz, h1, h2, h3, hr1⟩
 ·exact .inr ⟨n, rs', s', o', h1, h2, h3, hr1⟩
theorem many_take (es : List En) (j : Nat) : manyS (es.take j) ≤ manyS es := by
 have : manyS es = (es.drop j).foldl manyE (manyS (es.take j)) := by
  unfold manyS
  rw [← List.foldl_append, List.take_append_drop]
 rw [this]
 exact (many_has (es.drop j) _).1
theorem fin15 {H H' : Heap} {r : RMach} {s : Value} {rs : List (List Int × List RP)} {bb : Bool} (own : Own H H' 2 s encRT rs) (hx : Ext H H') {res : Res Value} (hr : res = .ok (.tuple #[.agg (tC r s).toArray, .bool bb]) H') : nrm .fz H res = .ok (.tuple #[r15V r rs, .bool bb]) H := by
 obtain ⟨L, hf⟩ := own.freeze encRT_len (fun n _ v hv => by simp at hv; rcases hv with rfl | rfl <;> trivial) 4
 have h1 : mapF (fzV H.n H' 6) (tC r s) = some (r15C r rs, [] ++ (L ++ [])) :=
  mapF_append (a := rmC r) (b := [s]) (r1 := rmC r) (r2 := [lv encRT rs]) (mapF_still fun v hv => by simp at hv; rcases hv with rfl | rfl | rfl | rfl | rfl | rfl | rfl | rfl | rfl <;> trivial) (mapF_cons hf rfl)
 have h2 : fzV H.n H' fzDepth (.tuple #[.agg (tC r s).toArray, .bool bb]) = some (.tuple #[r15V r rs, .bool bb], ([] ++ (L ++ [])) ++ []) :=
  fz_tuple (l := [.agg (tC r s).toArray, .bool bb]) (r := [r15V r rs, .bool bb]) (mapF_cons (fz_agg h1) (mapF_still fun v hv => by simp at hv; subst hv; trivial))
 exact nrm_fz hr h2 hx (Flat.tupleL (l := [r15V r rs, .bool bb]) (.cons (.aggL (.cons (Flat.B _) (.cons (.int _ _) (.cons (.int _ _) (.cons (.int _ _) (.cons (.int _ _) (.cons (.int _ _) (.cons (.int _ _) (.cons (Flat.B _) (.cons (Flat.RPs _) (.cons (.lv fun p _ => .cons (Flat.B _) (.cons (Flat.RPs _) .nil)) .nil))))))))))) (.cons (.bool _) .nil))).alive
theorem To15.nil (sb : List Int) (g : Int) : To15 sb g 0 [] := ⟨[], rfl, rfl, fun i x y h => by simp at h⟩
set_option maxHeartbeats 2000000 in
theorem ref15Read_run (k : Nat) (b : List Int) (hb : Byt b) (g : Int) (hg : 1 ≤ g ∧ g ≤ 65535) (hl : b.length < 2 ^ 31) (H : Heap) :
  ∃ r rs, R (T k) F.swashref15_Read [lv encB b, .int .i64 g] H = .ok (.tuple #[r15V r rs, .bool (ctxS b g).isSome]) H ∧ ∀ t, ctxS b g = some t → r = rmOf b g 2 t.m ∧ Subs15 t.subs rs := by
 have u16 := fun H' => refU_run k (H := H') (Sl.lv H' 1 b) hb 16 4 (by omega) (by omega)
 have hrm := fun H' => ref7Read_run k b hb g 2 hg (.inr (.inr rfl)) hl H'
 unfold refMachS at hrm
 obtain ⟨a16, ha16⟩ : ∃ a16, a16 = (uS b 16 4).getD (-1) := ⟨_, rfl⟩
 rw [← ha16] at u16
 -- what lies there at first
 have start : ∀ r : RMach, Star H (((H.push ⟨zC10, 1, false⟩).push ⟨rmC r, 1, false⟩).push ⟨tC r (.slice none 0 0), 1, false⟩) (st15 [] H.n (H.n + 1) (H.n + 2) zC10 r (.slice none 0 0) none []) := fun r => by
  have g := (((Star.nil H).push ⟨zC10, 1, false⟩).push ⟨rmC r, 1, false⟩).push ⟨tC r (.slice none 0 0), 1, false⟩
  have g := g.more_row (Ext.refl _) (OwnO.nil encRT _ 2) (fun b hb => by cases hb)
  simp only [List.nil_append, List.cons_append, hn_push] at g
  exact g
 cases hm : machS b g 2 with
 | none =>
  have hc : ctxS b g = none := by unfold ctxS; rw [hm]; rfl
  rw [hm] at hrm
  simp only [Option.map_none, rmO, Option.getD_none, Option.isSome_none] at hrm
  have g0 := ((start rmZ).setBlk 0 rfl ⟨tC rmZ (.slice none 0 0), 1, false⟩)
  refine ⟨rmZ, [], ?_, fun t ht => by rw [hc] at ht; cases ht⟩
  rw [hc, swashref15_Read_R]
  refine fin15 (g0.own 3 rfl) g0.ext ?_
  simp -implicitDefEqProofs (disch := omega) [swashref15_Read, hrm, u16]
 | some m =>
  have hok := machS_ok hb hg.1 hg.2 (by omega) hm
  have hent := fun (i : Nat) (e : En) (he : m.ents[i]? = some e) (hi : i ≤ 65536) H' => entry7_run k hb (.inr (.inr rfl)) hl hm (i := (i : Int)) (by omega) (by omega) (e := e) (by simpa using he) H'
  rw [hm] at hrm
  simp only [Option.map_some, rmO, Option.getD_some, Option.isSome_some] at hrm
  have hn : (rmOf b g 2 m).n = m.ents.length := rfl
  generalize hrr : rmOf b g 2 m = r at hrm hent hn
  have fail : (a16 < 0 ∨ a16 > b.length) → ∃ r rs, R (T k) F.swashref15_Read [lv encB b, .int .i64 g] H = .ok (.tuple #[r15V r rs, .bool (ctxS b g).isSome]) H ∧ ∀ t, ctxS b g = some t → r = rmOf b g 2 t.m ∧ Subs15 t.subs rs := fun hbad => by
   have hc : ctxS b g = none := by
    unfold ctxS
    rw [hm, Option.bind_some]
    cases hu : uS b 16 4 with
    | none => rfl
    | some p =>
     rw [hu] at ha16
     have ha16 : a16 = p := ha16
     have : restS b p = none := by unfold restS; rw [if_neg (by omega)]
     rw [Option.bind_some, this]; rfl
   have g0 := ((start r).setBlk 0 rfl ⟨tC r (.slice none 0 0), 1, false⟩)
   refine ⟨r, [], ?_, fun t ht => by rw [hc] at ht; cases ht⟩
   rw [hc, swashref15_Read_R]
   refine fin15 (g0.own 3 rfl) g0.ext ?_
   by_cases c1 : a16 < 0
   ·simp -implicitDefEqProofs (disch := omega) [swashref15_Read, hrm, u16, c1]
   ·have c2 : a16 > b.length := by omega
    simp -implicitDefEqProofs (disch := omega) [swashref15_Read, hrm, u16, c1, c2]
  by_cases c1 : a16 < 0
  ·exact fail (.inl c1)
  by_cases c2 : a16 > b.length
  ·exact fail (.inr c2)
  clear fail
  have hu : uS b 16 4 = some a16 := by
   cases hu : uS b 16 4 with
   | none => rw [hu] at ha16; simp at ha16; omega
   | some p => rw [hu] at ha16; rw [ha16]; rfl
  obtain ⟨sb, hsb⟩ : ∃ sb, restS b a16 = some sb := ⟨_, restS_iff.2 ⟨⟨by omega, by omega⟩, rfl⟩⟩
  have hes : ∀ e, e ∈ m.ents → 0 ≤ e.a ∧ e.a < 65536 ∧ 0 ≤ e.b ∧ e.b < 65536 := fun e he => by have := hok.ent e he; omega
  have hc : ctxS b g = (subsS sb g (manyS m.ents).toNat).map fun subs => ⟨m, subs⟩ := by
   unfold ctxS
   rw [hm, Option.bind_some, hu, Option.bind_some, hsb, Option.bind_some]
  obtain ⟨xx, e', H1, hr1, hQ⟩ := loop_up (body := swashref15_Read_l1 k (R (T k))) m.ents.length
   (fun j e H' => e = [(0, lv encB b), (1, .int .i64 g), (4, ptrV H.n), (6, ptrV (H.n + 1)), (8, .int .i64 a16), (9, ptrV (H.n + 2)), (10, .int .i64 j)] ∧ ∃ c rs s o, ((c : Nat) : Int) = manyS (m.ents.take j) ∧ To15 sb g c rs ∧ Star H H' (st15 [] H.n (H.n + 1) (H.n + 2) zC10 r s o rs))
   (fun xx e H' => (∃ c rs s o, xx = .exit 0 ∧ e = [(0, lv encB b), (1, .int .i64 g), (4, ptrV H.n), (6, ptrV (H.n + 1)), (8, .int .i64 a16), (9, ptrV (H.n + 2)), (10, .int .i64 m.ents.length), (43, .bool false)] ∧ ((c : Nat) : Int) = manyS m.ents ∧ To15 sb g c rs ∧ Star H H' (st15 [] H.n (H.n + 1) (H.n + 2) zC10 r s o rs)) ∨
    (∃ n rs s o X, xx = .ret ∧ e = [(4, ptrV H.n), (5, .bool false)] ∧ subsS sb g n = none ∧ (n : Int) ≤ manyS m.ents ∧ Star H H' (st15 X H.n (H.n + 1) (H.n + 2) (tC r s) r s o rs)))
   (e0 := [(0, lv encB b), (1, .int .i64 g), (4, ptrV H.n), (6, ptrV (H.n + 1)), (8, .int .i64 a16), (9, ptrV (H.n + 2)), (10, .int .i64 0)]) (H0 := ((H.push ⟨zC10, 1, false⟩).push ⟨rmC r, 1, false⟩).push ⟨tC r (.slice none 0 0), 1, false⟩)
   ⟨rfl, 0, [], _, none, rfl, To15.nil sb g, start r⟩ (by have := hok.elen; omega)
   (fun j e H' hj ⟨he, c, rs, s, o, hcm, hto, st⟩ => by
    subst he
    have hjn : (j : Int) < r.n := by omega
    have hel := hok.elen
    obtain ⟨en, hen⟩ : ∃ en, m.ents[j]? = some en := ⟨_, List.getElem?_eq_getElem hj⟩
    have heb := hes en (List.mem_of_getElem? hen)
    have hE := fun H' => hent j en hen (by have := hok.elen; omega) H'
    have hmb := manyS_bound (es := m.ents.take j) fun e he => hes e (List.mem_of_mem_take he)
    have hsn : manyS (m.ents.take (j + 1)) = manyE (c : Int) en := by rw [take_snoc hen, manyS_snoc, hcm]
    have q6 := st.get 1 rfl
    have n6 : ¬ H.n + 1 = H'.n := by have := Heap.get_lt q6; omega
    have st2 : Star H (H'.push ⟨encEn en, 1, false⟩) (st15 [itBlk H'.n ⟨encEn en, 1, false⟩] H.n (H.n + 1) (H.n + 2) zC10 r s o rs) := st.push ⟨encEn en, 1, false⟩
    obtain ⟨H2, h | h⟩ := r15_l2 k b hb hl g hg hsb H.n (H.n + 1) (H.n + 2) H'.n zC10 rfl r en heb (.int .i64 j) c (by omega) hto st2
    ·obtain ⟨c2, rs2, s2, o2, zz, k1, k2, k3, k4⟩ := h
     refine .inl ⟨_, H2, ?_, rfl, c2, rs2, s2, o2, by rw [k1, hsn], k2, (show Star H H2 (st15 [] H.n (H.n + 1) (H.n + 2) zC10 r s2 o2 rs2 ++ [itBlk H'.n ⟨encEn en, 1, false⟩]) from k3).drop_last⟩
     rw [swashref15_Read_l1_eq]
     simp -implicitDefEqProofs (disch := omega) [q6, hjn, hE, k4, swashref15_Read_l2k_x2]
    ·obtain ⟨n, rs2, s2, o2, k1, k2, k3, k4⟩ := h
     refine .inr ⟨.ret, _, H2, ?_, by simp, .inr ⟨n, rs2, s2, o2, _, rfl, rfl, k1, ?_, k3⟩⟩
     ·rw [swashref15_Read_l1_eq]
      simp -implicitDefEqProofs (disch := omega) [q6, hjn, hE, k4, swashref15_Read_l2k_r]
     ·have := many_take m.ents (j + 1)
      omega)
   (fun e H' ⟨he, c, rs, s, o, hcm, hto, st⟩ => by
    subst he
    rw [List.take_length] at hcm
    have q6 := st.get 1 rfl
    refine ⟨.exit 0, _, H', ?_, by simp, .inl ⟨c, rs, s, o, rfl, rfl, hcm, hto, st⟩⟩
    rw [swashref15_Read_l1_eq]
    have hns : ¬ (m.ents.length : Int) < r.n := by omega
    simp -implicitDefEqProofs (disch := omega) [q6, hns])
  rcases hQ with ⟨c, rs, s, o, rfl, rfl, hcm, ⟨subs, t1, t2⟩, st⟩ | ⟨n, rs, s, o, X, rfl, rfl, h1, h2, st⟩
  ·have hyes : ctxS b g = some ⟨m, subs⟩ := by rw [hc, ← hcm, Int.toNat_natCast, t1]; rfl
   have q9 := st.get 2 rfl
   have g0 := st.setBlk 0 rfl ⟨tC r s, 1, false⟩
   refine ⟨r, rs, ?_, fun t ht => by rw [hyes] at ht; injection ht with ht; subst ht; exact ⟨hrr.symm, t2⟩⟩
   rw [hyes, swashref15_Read_R]
   refine fin15 (g0.own 3 rfl) g0.ext ?_
   have q4 := st.get 0 rfl
   have q4' := g0.get 0 rfl
   simp -implicitDefEqProofs (disch := omega) [swashref15_Read, hrm, u16, c1, c2, hr1, swashref15_Read_l1k_x0, q9, q4, q4']
  ·have hno : ctxS b g = none := by rw [hc, subs_before (n := n) (by omega) h1]; rfl
   have q4 := st.get 0 rfl
   refine ⟨r, rs, ?_, fun t ht => by rw [hno] at ht; cases ht⟩
   rw [hno, swashref15_Read_R]
   refine fin15 (st.own 3 rfl) st.ext ?_
   simp -implicitDefEqProofs (disch := omega) [swashref15_Read, hrm, u16, c1, c2, hr1, swashref15_Read_l1k_r, q4]
end Go.Sw
end
section
namespace Go.Sw
open Go.RowKit
end Go.Sw
end
section
namespace Go.Sw
open Go.RowKit
end Go.Sw
end
section
namespace Go.Sw
open Go.RowKit
structure CPlan where
 m : Plan
 subs : List (List Int)
abbrev encUs (s : List Int) : List Value := [lv encU2 s]
theorem encUs_len (s : List Int) : (encUs s).length = 1 := rfl
abbrev cplC (p : CPlan) : List Value := [lv encB p.m.cls, lv encBR p.m.rows, lv encEn p.m.ents, .int .u8 p.m.wide, lv encUs p.subs]
abbrev cplV (p : CPlan) : Value := .agg (cplC p).toArray
def CPlan.ok (p : CPlan) : Prop := (p.m.ok ∧ p.subs.length < 2 ^ 63) ∧ ∀ s, s ∈ p.subs → ∀ n, n ∈ s → 0 ≤ n ∧ n < 65536
def CSmall (p : CPlan) (n : Nat) : Prop := (∀ s, s ∈ p.subs → s.length ≤ 60) ∧ p.m.cls.length ≤ 40 ∧ p.m.rows.length ≤ 20 ∧ p.m.ents.length ≤ 40 ∧ p.subs.length ≤ 20 ∧ n ≤ 60
theorem lvU_subs (l : List (List Int)) : lv encUs l = lv encSu (l.map fun s => (s, lv encU2 s)) := by
 unfold lv
 rw [List.length_map]
 congr 2
 unfold rows
 rw [List.flatMap_map]
 rfl
instance (p : CPlan) (n : Nat) : Decidable (CSmall p n) := by unfold CSmall; infer_instance
theorem small15_run (k : Nat) (p : CPlan) (ids : List Int) (H : Heap) (hs : p.subs.length < 2 ^ 63) : R (T k) F.swashlaw15_small [cplV p, lv encI ids] H = .ok (.bool (decide (CSmall p ids.length))) H := by
 rw [swashlaw15_small_R]
 have hx1 : Ext H (H.push ⟨cplC p, 1, false⟩) := (Ext.refl H).push _
 have hq : (H.push ⟨cplC p, 1, false⟩).get H.n = some ⟨cplC p, 1, false⟩ := get_push_eq _ _ _ rfl
 obtain ⟨xx, e', H1, hr1, hQ, rfl⟩ := loop_up (body := swashlaw15_small_l1 k (R (T k))) p.subs.length
  (fun j e H' => e = [(1, lv encI ids), (2, ptrV H.n), (8, lv encUs p.subs), (9, .int .i64 p.subs.length), (10, .int .i64 j)] ∧ (∀ (i : Nat) s, i < j → p.subs[i]? = some s → s.length ≤ 60) ∧ H' = H.push ⟨cplC p, 1, false⟩)
  (fun xx e H' => ((xx = .exit 0 ∧ (∀ s, s ∈ p.subs → s.length ≤ 60) ∧ e = [(1, lv encI ids), (2, ptrV H.n), (8, lv encUs p.subs), (9, .int .i64 p.subs.length), (10, .int .i64 p.subs.length), (11, .bool false)]) ∨ (xx = .ret ∧ e = [(4, .bool false)] ∧ ¬ ∀ s, s ∈ p.subs → s.length ≤ 60)) ∧ H' = H.push ⟨cplC p, 1, false⟩)
  (e0 := [(1, lv encI ids), (2, ptrV H.n), (8, lv encUs p.subs), (9, .int .i64 p.subs.length), (10, .int .i64 0)]) (H0 := H.push ⟨cplC p, 1, false⟩) ⟨rfl, fun i s h => by omega, rfl⟩ (by omega)
  (fun j e H' hj ⟨he, hall, hH⟩ => by
   subst he hH
   have hjl : (j : Int) < p.subs.length := by omega
   obtain ⟨s, hs⟩ : ∃ s, p.subs[j]? = some s := ⟨_, List.getElem?_eq_getElem hj⟩
   have i1 := fun H' => ixS_lvN encUs_len p.subs .i64 j s hs H'
   by_cases c : s.length > 60
   ·have c' : (s.length : Int) > 60 := by omega
    refine .inr ⟨.ret, _, _, ?_, by simp, .inr ⟨rfl, rfl, fun h => by have := h s (List.mem_of_getElem? hs); omega⟩, rfl⟩
    rw [swashlaw15_small_l1_eq]
    simp -implicitDefEqProofs (disch := omega) [hjl, i1, c']
   ·have c' : ¬ (s.length : Int) > 60 := by omega
    refine .inl ⟨_, _, ?_, rfl, fun i s' hi hs' => ?_, rfl⟩
    ·rw [swashlaw15_small_l1_eq]
     simp -implicitDefEqProofs (disch := omega) [hjl, i1, c']
    ·by_cases hij : i = j
     ·subst hij; rw [hs] at hs'; injection hs' with hs'; subst hs'; omega
     ·exact hall i s' (by omega) hs')
  (fun e H' ⟨he, hall, hH⟩ => by
   subst he hH
   refine ⟨.exit 0, _, _, ?_, by simp, .inl ⟨rfl, fun s h => ?_, rfl⟩, rfl⟩
   ·rw [swashlaw15_small_l1_eq]
    simp -implicitDefEqProofs
   ·obtain ⟨i, hi⟩ := List.getElem?_of_mem h
    exact hall i s (List.getElem?_eq_some_iff.1 hi).1 hi)
 refine nrm_gc ⟨_, ?_, hx1⟩ (.bool _)
 rcases hQ with ⟨rfl, hall, rfl⟩ | ⟨rfl, rfl, hno⟩
 ·by_cases h1 : p.m.cls.length ≤ 40
  ·have h1' : (p.m.cls.length : Int) ≤ 40 := by omega
   by_cases h2 : p.m.rows.length ≤ 20
   ·have h2' : (p.m.rows.length : Int) ≤ 20 := by omega
    by_cases h3 : p.m.ents.length ≤ 40
    ·have h3' : (p.m.ents.length : Int) ≤ 40 := by omega
     by_cases h4 : p.subs.length ≤ 20
     ·have h4' : (p.subs.length : Int) ≤ 20 := by omega
      by_cases h5 : ids.length ≤ 60
      ·have h5' : (ids.length : Int) ≤ 60 := by omega
       rw [decide_eq_true (p := CSmall p ids.length) ⟨hall, h1, h2, h3, h4, h5⟩]
       simp -implicitDefEqProofs [swashlaw15_small, hr1, swashlaw15_small_l1k_x0, h1', h2', h3', h4', h5']
      ·have h5' : ¬ (ids.length : Int) ≤ 60 := by omega
       rw [decide_eq_false (p := CSmall p ids.length) (fun h => h5 h.2.2.2.2.2)]
       simp -implicitDefEqProofs [swashlaw15_small, hr1, swashlaw15_small_l1k_x0, h1', h2', h3', h4', h5']
     ·have h4' : ¬ (p.subs.length : Int) ≤ 20 := by omega
      rw [decide_eq_false (p := CSmall p ids.length) (fun h => h4 h.2.2.2.2.1)]
      simp -implicitDefEqProofs [swashlaw15_small, hr1, swashlaw15_small_l1k_x0, h1', h2', h3', h4']
    ·have h3' : ¬ (p.m.ents.length : Int) ≤ 40 := by omega
     rw [decide_eq_false (p := CSmall p ids.length) (fun h => h3 h.2.2.2.1)]
     simp -implicitDefEqProofs [swashlaw15_small, hr1, swashlaw15_small_l1k_x0, h1', h2', h3']
   ·have h2' : ¬ (p.m.rows.length : Int) ≤ 20 := by omega
    rw [decide_eq_false (p := CSmall p ids.length) (fun h => h2 h.2.2.1)]
    simp -implicitDefEqProofs [swashlaw15_small, hr1, swashlaw15_small_l1k_x0, h1', h2']
  ·have h1' : ¬ (p.m.cls.length : Int) ≤ 40 := by omega
   rw [decide_eq_false (p := CSmall p ids.length) (fun h => h1 h.2.1)]
   simp -implicitDefEqProofs [swashlaw15_small, hr1, swashlaw15_small_l1k_x0, h1']
 ·rw [decide_eq_false (p := CSmall p ids.length) (fun h => hno h.1)]
  simp -implicitDefEqProofs [swashlaw15_small, hr1, swashlaw15_small_l1k_r]
theorem ctxBytes_byt {p : Plan} (hp : p.ok) (subs : List (List Int)) : Byt (ctxBytes p subs) := by
 unfold ctxBytes
 refine (planRoom_byt hp 2 (bytesOf_byt _ _)).app (Byt.app ?_ ?_)
 ·exact Byt.flat fun r hr => by obtain ⟨j, _, rfl⟩ := List.mem_map.1 hr; exact bytesOf_byt _ _
 ·exact Byt.flat fun r hr => by
   obtain ⟨s, _, rfl⟩ := List.mem_map.1 hr
   exact ((((bytesOf_byt _ _).app (bytesOf_byt _ _)).app (bytesOf_byt _ _)).app (Byt.flat fun r hr => by obtain ⟨x, _, rfl⟩ := List.mem_map.1 hr; exact bytesOf_byt _ _))
theorem ctxBytes_len {p : Plan} (hp : p.ok) (h1 : p.cls.length ≤ 1000) (h2 : p.rows.length ≤ 1000) (h3 : p.ents.length ≤ 1000) {subs : List (List Int)} (hs : ∀ s, s ∈ subs → s.length ≤ 60) (hn : subs.length ≤ 1000) : (ctxBytes p subs).length ≤ 300000 := by
 have hl := planRoom_len hp 2 (rm := bytesOf ((planRoom p 2 (List.replicate 4 0)).length : Int) 4) (by simp) h1 h2 h3
 have := offsB_len subs
 have := lksB_le subs hs
 unfold ctxBytes
 simp only [List.length_append]
 omega
theorem runC_cl (t : CTab) (l : List Gl) (ht : t.ok) : ((runC t l).1).map Gl.cl = l.map Gl.cl := by
 have hsw : ∀ (l : List Gl) (i w : Int), (swapC t l i w).map Gl.cl = l.map Gl.cl := fun l i w => by
  unfold swapC
  split
  ·rfl
  ·split
   ·split
    ·unfold setG
     split
     ·apply List.ext_getElem?
      intro j
      rw [List.getElem?_map, List.getElem?_map, List.getElem?_modify]
      cases l[j]? with
      | none => rfl
      | some g => dsimp only [Option.map_some]; split <;> rfl
     ·rfl
    ·rfl
   ·rfl
 unfold runC runCr
 have := runD_inv t.m ht.m (fun s : List Gl × Int => s.1) (fun s i e => (doC t s i e, i, i + 1)) (fun s => s.1.map Gl.cl = l.map Gl.cl) (fun s i e hs _ he => by
  dsimp only [doC]
  rw [hsw, hsw]
  exact hs) (2 * (l.length : Int) + 128) (2 * l.length + 128) ((l, -1), ⟨0, 0, 0, 0⟩) rfl (Int.le_refl _) (Int.le_refl _) (by have := ht.m.two; dsimp only; omega)
 dsimp only at this ⊢
 exact this
theorem newG_cl (ids : List Int) (i : Nat) : ((newG ids).map Gl.cl)[i]? = if i < ids.length then some (i : Int) else none := by
 unfold newG
 rw [List.getElem?_map, List.getElem?_map, List.getElem?_zipIdx]
 by_cases hi : i < ids.length
 ·rw [if_pos hi, List.getElem?_eq_getElem hi]; simp
 ·rw [if_neg hi, List.getElem?_eq_none (by omega)]; rfl
set_option maxHeartbeats 1000000 in
theorem CtxRuns_run (p : CPlan) (hp : p.ok) (ids : List Int) : R (T F.swashlaw15_speaks) F.swashlaw15_CtxRuns [cplV p, lv encI ids] Heap.empty = .ok (.bool true) Heap.empty := by
 generalize hk : F.swashlaw15_speaks = k
 have hs := speaks15_run k (by subst hk; rfl)
 have hk6 : k < 1000000 := by subst hk; decide
 have hW : ownW k = .no := by subst hk; rfl
 clear hk
 rw [swashlaw15_CtxRuns_R]
 generalize Heap.empty = H
 have hx1 : Ext H (H.push ⟨cplC p, 1, false⟩) := (Ext.refl H).push _
 have hsm := fun H => small15_run k p ids H hp.1.2
 by_cases c1 : CSmall p ids.length
 rotate_left
 ·refine nrm_gc ⟨_, ?_, hx1⟩ (.bool _)
  rw [decide_eq_false c1] at hsm
  simp -implicitDefEqProofs (disch := omega) [swashlaw15_CtxRuns, hs, hsm]
 rw [decide_eq_true c1] at hsm
 obtain ⟨q1, q2, q3, q4, q5, q6⟩ := c1
 have hw := ctxWrite_run k hW p.m hp.1.1 (by omega) (by omega) (by omega) (H := H.push ⟨cplC p, 1, false⟩) (Sl.lv _ 4 p.m.ents) (p.subs.map fun s => (s, lv encU2 s)) (fun x hx => by
  obtain ⟨s, h, rfl⟩ := List.mem_map.1 hx
  exact ⟨Sl.lv _ 1 s, q1 s h, hp.2 s h⟩) (by simp; omega) (vS := lv encUs p.subs) (by rw [lvU_subs]; exact Sl.lv _ 1 _)
 have hfst : (p.subs.map fun s => (s, lv encU2 s)).map Prod.fst = p.subs := by rw [List.map_map]; simp [Function.comp_def]
 rw [hfst] at hw
 have hcb := ctxBytes_byt hp.1.1 p.subs
 have hcl := ctxBytes_len hp.1.1 (by omega) (by omega) (by omega) q1 (by omega)
 generalize ctxBytes p.m p.subs = b at hw hcb hcl
 have hrd := fun H' => ctxRead_run k hk6 b hcb 40 (by omega) (by omega) H'
 have hx2 := hx1
 obtain ⟨r, rs, hrr, hrs⟩ := ref15Read_run k b hcb 40 (by omega) (by omega) (H.push ⟨cplC p, 1, false⟩)
 cases h : ctxS b 40 with
 | none =>
  rw [h] at hrd hrr
  simp only [cV, Option.isSome_none, Bool.false_eq_true, if_false] at hrd hrr
  refine nrm_gc ⟨_, ?_, hx1.push ⟨r15C r rs, 1, false⟩⟩ (.bool _)
  simp -implicitDefEqProofs (disch := omega) [swashlaw15_CtxRuns, hs, hsm, hw, hrd, hrr]
 | some t =>
  rw [h] at hrd hrr
  simp only [cV, Option.isSome_some, if_true] at hrd hrr
  obtain ⟨rfl, hsub⟩ := hrs t h
  have hok := ctxS_ok hcb (by omega) (by omega) h
  have hm : machS b 40 2 = some t.m := by
   unfold ctxS at h
   obtain ⟨m, hm, h⟩ := Option.bind_eq_some_iff.1 h
   obtain ⟨_, _, h⟩ := Option.bind_eq_some_iff.1 h
   obtain ⟨_, _, h⟩ := Option.bind_eq_some_iff.1 h
   obtain ⟨_, _, h⟩ := Option.map_eq_some_iff.1 h
   subst h
   exact hm
  have g := ((Star.nil H).push ⟨cplC p, 1, false⟩).push ⟨r15C (rmOf b 40 2 t.m) rs, 1, false⟩
  simp only [List.nil_append, List.cons_append, hn_push] at g
  obtain ⟨c, o, H1, e1, g⟩ := lineNew_star k g ids (by omega)
  simp only [List.nil_append, List.cons_append] at g
  obtain ⟨H2, e2, g, hlen⟩ := ctxRun_star k t hok g 2 rfl (by simp; omega)
  simp only [List.set_cons_zero, List.set_cons_succ] at g
  have b2 := g.get 1 rfl
  have hnew := fun H' => refNew_run k ids (by omega) H'
  have hrun := fun H' => run15_run k hcb (by omega) (by omega) t hok hm rs hsub (newG ids) (by simp; omega) H'
  have hcls := runC_cl t (newG ids) hok
  rw [newG_len] at hlen
  generalize rmOf b 40 2 t.m = rm at hrr e1 g b2 hrun
  generalize runC t (newG ids) = res at e2 g hlen hrun hcls
  have gl := lineGlyphs_run k hk6 g 2 rfl (by omega)
  have hveq : veq (r15V rm rs) (r15V rm rs) = true := veq_agg (l := r15C rm rs) fun v hv => by
   simp at hv
   rcases hv with rfl | rfl | rfl | rfl | rfl | rfl | rfl | rfl | rfl | rfl <;> first | exact veq_B _ | exact veq_RP _ | simp | skip
   exact veq_lv fun p _ v hv => by
    simp at hv
    rcases hv with rfl | rfl
    ·exact veq_B _
    ·exact veq_RP _
  obtain ⟨xx, e', H3, hr3, rfl, rfl, hx3⟩ := loop_up (body := swashlaw15_CtxRuns_l1 k (R (T k))) res.1.length
   (fun j e H' => e = [(1, lv encI ids), (11, .int .i64 res.2), (12, lv encG res.1), (13, .int .i64 res.2), (14, lv encG res.1), (66, lv encG res.1), (67, .int .i64 res.1.length), (68, .int .i64 j)] ∧ Ext H2 H')
   (fun xx e H' => xx = .exit 0 ∧ e = [(1, lv encI ids), (11, .int .i64 res.2), (12, lv encG res.1), (13, .int .i64 res.2), (14, lv encG res.1), (66, lv encG res.1), (67, .int .i64 res.1.length), (68, .int .i64 res.1.length), (69, .bool false)] ∧ Ext H2 H')
   (e0 := [(1, lv encI ids), (11, .int .i64 res.2), (12, lv encG res.1), (13, .int .i64 res.2), (14, lv encG res.1), (66, lv encG res.1), (67, .int .i64 res.1.length), (68, .int .i64 0)]) (H0 := H2) ⟨rfl, Ext.refl _⟩ (by omega)
   (fun j e H' hj ⟨he, hx⟩ => by
    subst he
    have hjl : (j : Int) < res.1.length := by omega
    obtain ⟨gl, hgl⟩ : ∃ gl, res.1[j]? = some gl := ⟨_, List.getElem?_eq_getElem hj⟩
    have i1 := fun H' => ixS_lvN encG_len res.1 .i64 j gl hgl H'
    have hc : gl.cl = (j : Int) := by
     have : (res.1.map Gl.cl)[j]? = some gl.cl := by rw [List.getElem?_map, hgl]; rfl
     rw [hcls, newG_cl, if_pos (by omega)] at this
     injection this with this
     exact this.symm
    refine .inl ⟨_, H'.push ⟨[.int .i64 gl.id, .int .i64 j], 1, false⟩, ?_, rfl, hx.push _⟩
    rw [swashlaw15_CtxRuns_l1_eq]
    simp -implicitDefEqProofs (disch := omega) [hjl, i1, hc])
   (fun e H' ⟨he, hx⟩ => by
    subst he
    refine ⟨.exit 0, _, H', ?_, by simp, rfl, rfl, hx⟩
    rw [swashlaw15_CtxRuns_l1_eq]
    simp -implicitDefEqProofs)
  have hsame := fun H' => Same_run k (Rd.lv encG_len H' res.1) (Rd.lv encG_len H' res.1) (by omega) (by omega)
  have hli : (res.1.length : Int) = ids.length := by omega
  rw [hli] at hr3
  refine nrm_gc ⟨H3, ?_, g.ext.trans hx3⟩ (.bool _)
  simp -implicitDefEqProofs (disch := omega) [swashlaw15_CtxRuns, hs, hsm, hw, hrd, hrr, e1, e2, b2, hnew, hrun, hveq, gl, hr3, swashlaw15_CtxRuns_l1k_x0, hli, hsame]
theorem row_UR {r : List Da} {cs : List Value} (h : LayRow [.slice [.int .u16]] r cs) : ∃ b : List Int, cs = encUs b ∧ ∀ n, n ∈ b → 0 ≤ n ∧ n < 65536 := by
 obtain ⟨_, v1, _, _, rfl, h1, h⟩ := h.head
 obtain rfl := h.done
 obtain ⟨b, rfl, hb⟩ := Lay.list (enc := encU2) (ok := fun n => 0 ≤ n ∧ n < 65536) (fun r cs h => by
  obtain ⟨d, v, ds, vs, rfl, h1, h2⟩ := h.head
  obtain rfl := h2.done
  obtain ⟨n, rfl, w⟩ := h1.intv
  exact ⟨n, rfl, wf_u16 w⟩) h1
 exact ⟨b, rfl, hb⟩
abbrev cplSh : ASh := .agg [.slice [.int .u8], .slice [.slice [.int .u8]], .slice [.int .i64, .int .i64, .int .i64, .int .i64], .int .u8, .slice [.slice [.int .u16]]]
theorem arg_cpl {v : Value} (h : ArgLay cplSh v) : ∃ p, v = cplV p ∧ p.ok := by
 cases h with
 | agg ss ds vs h =>
  obtain ⟨_, v1, _, _, rfl, h1, h⟩ := h.head
  obtain ⟨_, v2, _, _, rfl, h2, h⟩ := h.head
  obtain ⟨_, v3, _, _, rfl, h3, h⟩ := h.head
  obtain ⟨_, v4, _, _, rfl, h4, h⟩ := h.head
  obtain ⟨_, v5, _, _, rfl, h5, h⟩ := h.head
  obtain rfl := h.done
  obtain ⟨a, rfl, wa⟩ := Lay.list (enc := encB) (ok := fun n => 0 ≤ n ∧ n < 256) (fun r cs h => row_B h) h1
  obtain ⟨b, rfl, wb⟩ := Lay.list (enc := encBR) (ok := Byt) (fun r cs h => row_BR h) h2
  obtain ⟨c, rfl, wc⟩ := Lay.list (enc := encEn) (ok := fun _ => True) (fun r cs h => row_En h) h3
  obtain ⟨d, rfl, wd⟩ := h4.intv
  obtain ⟨f, rfl, wn, wf⟩ := Lay.listN (enc := encUs) (ok := fun b => ∀ n, n ∈ b → 0 ≤ n ∧ n < 65536) (fun r cs h => row_UR h) h5
  exact ⟨⟨⟨a, b, c, d⟩, f⟩, rfl, ⟨⟨wa, wb, wf_u8 wd⟩, wn⟩, wf⟩
theorem CtxRuns_args (vs : List Value) (h : ArgsLay [cplSh, .one (.slice [.int .i64])] vs) : ∃ H', R (T F.swashlaw15_speaks) F.swashlaw15_CtxRuns vs Heap.empty = .ok (.bool true) H' := by
 obtain ⟨v1, _, rfl, h1, h⟩ := h.head
 obtain ⟨v2, _, rfl, h2, h⟩ := h.head
 obtain rfl := h.done
 obtain ⟨p, rfl, hp⟩ := arg_cpl h1
 obtain ⟨ids, rfl, _⟩ := arg_I h2
 exact ⟨_, CtxRuns_run p hp ids⟩
end Go.Sw
end
