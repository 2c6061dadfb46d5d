/-
  Functions' forms, and what is proved of them, part 11.
-/
import Derived.Test.YtnaodjnimkndbabSwW9
import Derived.Test.YtnaodjnimkndbabSwW8
import Derived.Test.YtnaodjnimkndbabSwW10
import Derived.Test.YtnaodjnimkndbabSwW4
import Derived.Test.YtnaodjnimkndbabSwLib8
import Derived.Eval
set_option linter.unusedSimpArgs false
set_option linter.unusedVariables false
set_option linter.unusedSectionVars false
section
namespace Go.Sw
open Go.RowKit
abbrev r17C (r : RMach) (a c l : List Int) : List Value := [lv encB r.b, .int .i64 r.cl, .int .i64 r.rowsAt, .int .i64 r.entsAt, .int .i64 r.states, .int .i64 r.n, .int .i64 r.words, lv encB r.tb, lv encRP r.parts, lv encB a, lv encB c, lv encB l]
abbrev zC12 : List Value := [.slice none 0 0, .int .i64 0, .int .i64 0, .int .i64 0, .int .i64 0, .int .i64 0, .int .i64 0, .slice none 0 0, .slice none 0 0, .slice none 0 0, .slice none 0 0, .slice none 0 0]
theorem ζc9 (k : Nat) (b : List Int) (g : Int) (H : Heap) : R (T k) F.ζb [lv encB b, .int .i64 g] H = nrm .fz H (ζb k (R (T k)) (lv encB b) (.int .i64 g) H) :=
 ζd3 k _ _ _ _ H [] (ζbk fun v hv => by simp at hv; rcases hv with rfl | rfl <;> trivial)
theorem ζl1 (k : Nat) (x : Int) (H : Heap) : R (T k) F.ζ2p [.int .i64 x] H = .ok (.bool (decide (x ≥ 2147483648))) H := by
 rw [ζd4];refine nrm_gc ⟨H, ?_, Ext.refl H⟩ (.bool _);simp -implicitDefEqProofs [ζ2p]
theorem r17_l3 (k : Nat) {vs : List Int} (hb : Byt vs) (hl : vs.length < 2 ^ 31) {p4 p8 : Nat} (a : Int) (ha : 0 ≤ a ∧ a < 65536) (a6 a13 : Value) {z : List Value} (hz : z.length = 12) {r : RMach} {c l : List Int} {H : Heap} (hp : H.get p4 = some ⟨z, 1, false⟩) (h8 : H.get p8 = some ⟨r17C r vs c l, 1, false⟩) :
  (∃ zz, loopN (ζ2g k (R (T k))) loopFuel [(4, ptrV p4), (6, a6), (8, ptrV p8), (13, a13), (15, .int .i64 a)] H = .ok (.exit 4, [(4, ptrV p4), (6, a6), (8, ptrV p8), (13, a13), (15, zz), (84, .bool false)]) H ∧ lastB vs a = true) ∨
  (loopN (ζ2g k (R (T k))) loopFuel [(4, ptrV p4), (6, a6), (8, ptrV p8), (13, a13), (15, .int .i64 a)] H = .ok (.ret, [(4, ptrV p4), (5, .bool false)]) (H.set p4 (some ⟨zC12, 1, false⟩)) ∧ lastB vs a = false) := by
 have hdz : z.drop 12 = [] := List.drop_eq_nil_of_le (by omega);have hU := fun i H' => refU_run k (H := H') (Sl.lv H' 1 vs) hb i 4 (by omega) (by omega);have hla := fun x H' => ζl1 k x H'
 obtain ⟨xx, e', H1, hr1, hQ⟩ := loop_up (body := ζ2g k (R (T k))) vs.length
  (fun j e' H' => e' = [(4, ptrV p4), (6, a6), (8, ptrV p8), (13, a13), (15, .int .i64 (a + j))] ∧ H' = H ∧ ∀ i : Nat, a ≤ i → (i : Int) < a + j → ¬ gU vs (4 * (i : Int)) 4 ≥ 2147483648)
  (fun xx e' H' => (xx = .exit 4 ∧ (∃ w, e' = [(4, ptrV p4), (6, a6), (8, ptrV p8), (13, a13), (15, w), (84, .bool false)]) ∧ H' = H ∧ lastB vs a = true) ∨ (xx = .ret ∧ e' = [(4, ptrV p4), (5, .bool false)] ∧ H' = H.set p4 (some ⟨zC12, 1, false⟩) ∧ lastB vs a = false))
  (e0 := [(4, ptrV p4), (6, a6), (8, ptrV p8), (13, a13), (15, .int .i64 a)]) (H0 := H) ⟨by simp, rfl, fun i i1 i2 => by omega⟩ (by omega)
  (fun j e' H' hj ⟨he', hH, hno⟩ => by
   subst he' hH;cases hu : uS vs (4 * (a + j)) 4 with
   | none =>
    have h16 := hU (4 * (a + j)) H';rw [hu] at h16;have h16 : R (T k) F.ζ1 [lv encB vs, .int .i64 (4 * (a + j)), .int .i64 4] H' = .ok (.int .i64 (-1)) H' := h16;refine .inr ⟨.ret, _, _, ?_, by simp, .inr ⟨rfl, rfl, rfl, ?_⟩⟩
    ·rw [ζ29];simp -implicitDefEqProofs (disch := omega) [h8, h16, hla, hp, hz, hdz]
    ·rw [Bool.eq_false_iff];intro ho;obtain ⟨i, i1, i2, i3⟩ := ζ7d.1 ho;by_cases hij : (i : Int) < a + j
     ·exact hno i i1 hij i3
     ·unfold uS pieceS at hu;rw [if_pos ⟨by omega, by omega, by omega, by omega⟩] at hu;simp at hu
   | some x =>
    have h16 := hU (4 * (a + j)) H';rw [hu] at h16;have h16 : R (T k) F.ζ1 [lv encB vs, .int .i64 (4 * (a + j)), .int .i64 4] H' = .ok (.int .i64 x) H' := h16;have hg := gU_some hu;have hxb := uS_four hb hu;have hnn : ¬ x < 0 := by omega
    by_cases d : x ≥ 2147483648
    ·refine .inr ⟨.exit 4, _, H', ?_, by simp, .inl ⟨rfl, ⟨.int .i64 (a + j), rfl⟩, rfl, ?_⟩⟩
     ·rw [ζ29];simp -implicitDefEqProofs (disch := omega) [h8, h16, hla, d]
     ·refine ζ7d.2 ⟨(a + j).toNat, by omega, ?_, ?_⟩
      ·have := uS_fits hu;omega
      ·rw [show (((a + j).toNat : Nat) : Int) = a + j by omega, hg];exact d
    ·have hj1 : a + ((j + 1 : Nat) : Int) = a + j + 1 := by omega
     refine .inl ⟨_, H', ?_, rfl, rfl, fun i i1 i2 => ?_⟩
     ·rw [ζ29, hj1];simp -implicitDefEqProofs (disch := omega) [h8, h16, hla, d, hnn]
     ·by_cases hij : (i : Int) < a + j
      ·exact hno i i1 hij
      ·rw [show (i : Int) = a + j by omega, hg];exact d)
  (fun e' H' ⟨he', hH, hno⟩ => by
   subst he' hH;have hu : uS vs (4 * (a + vs.length)) 4 = none := by
    cases h : uS vs (4 * (a + vs.length)) 4 with
    | none => rfl
    | some x =>
     have := uS_fits h;omega
   have h16 := hU (4 * (a + vs.length)) H';rw [hu] at h16;have h16 : R (T k) F.ζ1 [lv encB vs, .int .i64 (4 * (a + vs.length)), .int .i64 4] H' = .ok (.int .i64 (-1)) H' := h16;refine ⟨.ret, _, _, ?_, by simp, .inr ⟨rfl, rfl, rfl, ?_⟩⟩
   ·rw [ζ29];simp -implicitDefEqProofs (disch := omega) [h8, h16, hla, hp, hz, hdz]
   ·rw [Bool.eq_false_iff];intro ho;obtain ⟨i, i1, i2, i3⟩ := ζ7d.1 ho;exact hno i i1 (by omega) i3)
 rcases hQ with ⟨rfl, ⟨w, rfl⟩, rfl, hE⟩ | ⟨rfl, rfl, rfl, hE⟩
 ·exact .inl ⟨w, hr1, hE⟩
 ·exact .inr ⟨hr1, hE⟩
theorem r17_l2 (k : Nat) {vs : List Int} (hb : Byt vs) (hl : vs.length < 2 ^ 31) {r : RMach} {es : List En} (hes : ∀ e, e ∈ es → (0 ≤ e.a ∧ e.a < 65536) ∧ 0 ≤ e.flags ∧ e.flags < 65536) (hel : es.length < 65537) (hn : r.n = es.length) (hent : ∀ (i : Nat) (e : En), es[i]? = some e → ∀ H', R (T k) F.ζh [rmV r, .int .i64 i] H' = .ok (.agg (encEn e).toArray) H')
  {p4 p6 p8 : Nat} {z : List Value} (hz : z.length = 12) {c l : List Int} {H0 H : Heap} (st : Star H0 H [itBlk p4 ⟨z, 1, false⟩, itBlk p6 ⟨rmC r, 1, false⟩, itBlk p8 ⟨r17C r vs c l, 1, false⟩]) :
  (∃ a b H', loopN (ζ1t k (R (T k))) loopFuel [(4, ptrV p4), (6, ptrV p6), (8, ptrV p8), (13, .int .i64 0)] H = .ok (.exit 2, [(4, ptrV p4), (6, ptrV p6), (8, ptrV p8), (13, a), (65, b)]) H' ∧ Star H0 H' [itBlk p4 ⟨z, 1, false⟩, itBlk p6 ⟨rmC r, 1, false⟩, itBlk p8 ⟨r17C r vs c l, 1, false⟩] ∧ es.all (entLast vs) = true) ∨
  (∃ H', loopN (ζ1t k (R (T k))) loopFuel [(4, ptrV p4), (6, ptrV p6), (8, ptrV p8), (13, .int .i64 0)] H = .ok (.ret, [(4, ptrV p4), (5, .bool false)]) H' ∧ Star H0 H' [itBlk p4 ⟨zC12, 1, false⟩, itBlk p6 ⟨rmC r, 1, false⟩, itBlk p8 ⟨r17C r vs c l, 1, false⟩] ∧ es.all (entLast vs) = false) := by
 obtain ⟨rb, rc, ra, re, rs, rn, rw, rt, rp⟩ := r;dsimp only at hn;subst hn
 obtain ⟨xx, e', H1, hr1, hQ⟩ := loop_up (body := ζ1t k (R (T k))) es.length
  (fun j e' H' => e' = [(4, ptrV p4), (6, ptrV p6), (8, ptrV p8), (13, .int .i64 j)] ∧ Star H0 H' [itBlk p4 ⟨z, 1, false⟩, itBlk p6 ⟨rmC ⟨rb, rc, ra, re, rs, (es.length : Int), rw, rt, rp⟩, 1, false⟩, itBlk p8 ⟨r17C ⟨rb, rc, ra, re, rs, (es.length : Int), rw, rt, rp⟩ vs c l, 1, false⟩] ∧ (es.take j).all (entLast vs) = true)
  (fun xx e' H' => (xx = .exit 2 ∧ (∃ a b, e' = [(4, ptrV p4), (6, ptrV p6), (8, ptrV p8), (13, a), (65, b)]) ∧ Star H0 H' [itBlk p4 ⟨z, 1, false⟩, itBlk p6 ⟨rmC ⟨rb, rc, ra, re, rs, (es.length : Int), rw, rt, rp⟩, 1, false⟩, itBlk p8 ⟨r17C ⟨rb, rc, ra, re, rs, (es.length : Int), rw, rt, rp⟩ vs c l, 1, false⟩] ∧ es.all (entLast vs) = true) ∨ (xx = .ret ∧ e' = [(4, ptrV p4), (5, .bool false)] ∧ Star H0 H' [itBlk p4 ⟨zC12, 1, false⟩, itBlk p6 ⟨rmC ⟨rb, rc, ra, re, rs, (es.length : Int), rw, rt, rp⟩, 1, false⟩, itBlk p8 ⟨r17C ⟨rb, rc, ra, re, rs, (es.length : Int), rw, rt, rp⟩ vs c l, 1, false⟩] ∧ es.all (entLast vs) = false))
  (e0 := [(4, ptrV p4), (6, ptrV p6), (8, ptrV p8), (13, .int .i64 0)]) (H0 := H) ⟨rfl, st, rfl⟩ (by omega)
  (fun j e' H' hj ⟨he', st, hall⟩ => by
   subst he';have hjl : (j : Int) < es.length := by omega
   obtain ⟨en, hen⟩ : ∃ en, es[j]? = some en := ⟨_, List.getElem?_eq_getElem hj⟩
   have hmem := List.mem_of_getElem? hen;have hE := hent j en hen;have hfl := hes en hmem;have g4 := st.get 0 rfl;have g6 := st.get 1 rfl;have st2 := st.push ⟨encEn en, 1, false⟩;simp only [List.cons_append, List.nil_append] at st2;have hne : ¬ p6 = H'.n := by have := Heap.get_lt g6; omega
   have gq := st2.get 3 rfl;have q1 := fun H => bin_quo Prog 3 H .i64 en.flags 8192 (by decide);rw [Int.tdiv_eq_ediv_of_nonneg hfl.2.1] at q1;have q2 := fun H => bin_rem Prog 3 H .i64 (en.flags / 8192) 2 (by decide);rw [Int.tmod_eq_emod_of_nonneg (by omega)] at q2;by_cases d : en.flags / 8192 % 2 = 1
   ·have hEv : entLast vs en = lastB vs en.a := by unfold entLast; rw [decide_eq_false (fun hh => hh d)]; rfl
    have d' : (en.flags / 8192 % 2 == 0) = false := by rw [d]; rfl
    rcases r17_l3 k hb hl en.a hfl.1 (p4 := p4) (p8 := p8) (ptrV p6) (.int .i64 j) hz (st2.get 0 rfl) (st2.get 2 rfl) with ⟨zz, e2, hO⟩ | ⟨e2, hO⟩
    ·refine .inl ⟨_, _, ?_, rfl, by simpa using st2.take 3, ?_⟩
     ·rw [ζ28];simp -implicitDefEqProofs (disch := omega) [g6, hjl, hE, q1, q2, d', e2, ζa0, ζao]
     ·rw [ζ1b hen, List.all_append, hall];simp [hEv, hO]
    ·have st3 := st2.setBlk 0 rfl ⟨zC12, 1, false⟩;simp only [List.set_cons_zero] at st3;refine .inr ⟨.ret, _, _, ?_, by simp, .inr ⟨rfl, rfl, by simpa using st3.take 3, ?_⟩⟩
     ·rw [ζ28];simp -implicitDefEqProofs (disch := omega) [g6, hjl, hE, q1, q2, d', e2, ζaq]
     ·rw [Bool.eq_false_iff];intro h;have := List.all_eq_true.1 h en hmem;rw [hEv, hO] at this;cases this
   ·have hEv : entLast vs en = true := by unfold entLast; rw [decide_eq_true d]; rfl
    have d' : (en.flags / 8192 % 2 == 0) = true := by rw [beq_iff_eq]; omega
    refine .inl ⟨_, _, ?_, rfl, by simpa using st2.take 3, ?_⟩
    ·rw [ζ28];simp -implicitDefEqProofs (disch := omega) [g6, hjl, hE, q1, q2, d', ζan]
    ·rw [ζ1b hen, List.all_append, hall];simp [hEv])
  (fun e' H' ⟨he', st, hall⟩ => by
   subst he';have g6 := st.get 1 rfl;rw [List.take_length] at hall;refine ⟨.exit 2, _, H', ?_, by simp, .inl ⟨rfl, ⟨.int .i64 es.length, .bool false, rfl⟩, st, hall⟩⟩;rw [ζ28];simp -implicitDefEqProofs [g6])
 rcases hQ with ⟨rfl, ⟨a, b, rfl⟩, st, hE⟩ | ⟨rfl, rfl, st, hE⟩
 ·exact .inl ⟨a, b, H1, hr1, st, hE⟩
 ·exact .inr ⟨H1, hr1, st, hE⟩
def list17 (b : List Int) (j : Nat) : List Int := (listAt b (16 + 4 * (j : Int))).getD []
def has17 (b : List Int) (ok0 : Bool) : Nat → Bool
 | 0 => ok0
 | j + 1 => has17 b ok0 j && (listAt b (16 + 4 * (j : Int))).isSome
theorem ζjy (b : List Int) (i : Int) : listAt b i = restS b ((uS b i 4).getD (-1)) := by
 unfold listAt;cases uS b i 4 with
 | none => rw [Option.getD_none, ζn3]; rfl
 | some p => rfl
theorem r17_l1 (k : Nat) {b : List Int} (hb : Byt b) (hbl : b.length < 2 ^ 31) (ok0 : Bool) {p4 p6 p8 : Nat} {z1 z2 z3 : List Value} {H0 H : Heap} (st : Star H0 H [itBlk p4 ⟨z1, 1, false⟩, itBlk p6 ⟨z2, 1, false⟩, itBlk p8 ⟨z3, 1, false⟩]) :
  ∃ s o a10 a29 H', loopN (ζ3d k (R (T k))) loopFuel [(0, lv encB b), (4, ptrV p4), (6, ptrV p6), (7, .bool ok0), (8, ptrV p8), (9, bareV), (10, .int .i64 0)] H =
   .ok (.exit 0, [(0, lv encB b), (4, ptrV p4), (6, ptrV p6), (7, .bool (has17 b ok0 3)), (8, ptrV p8), (9, s), (10, a10), (29, a29)]) H' ∧ ∃ ls, Star H0 H' [itBlk p4 ⟨z1, 1, false⟩, itBlk p6 ⟨z2, 1, false⟩, itBlk p8 ⟨z3, 1, false⟩, itRow o 1 s encBR ls] ∧ (has17 b ok0 3 = true → ls = [list17 b 0, list17 b 1, list17 b 2]) := by
 have st := st.more_row (Ext.refl _) (OwnO.bare encBR _ 1) (fun b hb => by cases hb);simp only [List.cons_append, List.nil_append] at st;have hU := fun i H' => refU_run k (H := H') (Sl.lv H' 1 b) hb i 4 (by omega) (by omega);have hF := fun a H' => ζk4 k b a H'
 obtain ⟨xx, e', H1, hr1, rfl, s, o, a10, a29, rfl, ls, g1, hls⟩ := loop_up (body := ζ3d k (R (T k))) 3
  (fun j e H' => ∃ s o, e = [(0, lv encB b), (4, ptrV p4), (6, ptrV p6), (7, .bool (has17 b ok0 j)), (8, ptrV p8), (9, s), (10, .int .i64 j)] ∧ Star H0 H' [itBlk p4 ⟨z1, 1, false⟩, itBlk p6 ⟨z2, 1, false⟩, itBlk p8 ⟨z3, 1, false⟩, itRow o 1 s encBR ((List.range j).map (list17 b))])
  (fun xx e H' => xx = .exit 0 ∧ ∃ s o a10 a29, e = [(0, lv encB b), (4, ptrV p4), (6, ptrV p6), (7, .bool (has17 b ok0 3)), (8, ptrV p8), (9, s), (10, a10), (29, a29)] ∧ ∃ ls, Star H0 H' [itBlk p4 ⟨z1, 1, false⟩, itBlk p6 ⟨z2, 1, false⟩, itBlk p8 ⟨z3, 1, false⟩, itRow o 1 s encBR ls] ∧ (has17 b ok0 3 = true → ls = [list17 b 0, list17 b 1, list17 b 2]))
  (e0 := [(0, lv encB b), (4, ptrV p4), (6, ptrV p6), (7, .bool ok0), (8, ptrV p8), (9, bareV), (10, .int .i64 0)]) (H0 := H) ⟨bareV, none, rfl, st⟩ (by omega)
  (fun j e H' hj ⟨s, o, he, g⟩ => by
   subst he;have hjl : (j : Int) < 3 := by omega
   cases hh : has17 b ok0 j with
   | false =>
    have h3 : has17 b ok0 3 = false := by
     have up : ∀ i, has17 b ok0 i = false → has17 b ok0 (i + 1) = false := fun i hi => by unfold has17; rw [hi]; rfl
     have hjj : j = 0 ∨ j = 1 ∨ j = 2 := by omega
     rcases hjj with rfl | rfl | rfl
     ·exact up _ (up _ (up _ hh))
     ·exact up _ (up _ hh)
     ·exact up _ hh
    refine .inr ⟨.exit 0, _, H', ?_, by simp, rfl, s, o, .int .i64 j, .bool false, by rw [h3], _, g, fun h => by rw [h3] at h; cases h⟩;rw [ζ3j];simp -implicitDefEqProofs (disch := omega) [hjl]
   | true =>
    have h1 := hU (16 + 4 * (j : Int)) H';have h2 := hF ((uS b (16 + 4 * (j : Int)) 4).getD (-1)) H';rw [← ζjy] at h2;obtain ⟨s2, o2, H2, e2, g2⟩ := g.append1 3 (bytes := 24) ζm9 rfl (list17 b j) (by simp; omega) (by decide);simp only [List.set_cons_zero, List.set_cons_succ] at g2;have hls : (List.range j).map (list17 b) ++ [list17 b j] = (List.range (j + 1)).map (list17 b) := by rw [List.range_succ, List.map_append]; rfl
    rw [hls] at g2;have hnx : has17 b ok0 (j + 1) = (listAt b (16 + 4 * (j : Int))).isSome := by unfold has17; rw [hh]; rfl
    have hl17 : (listAt b (16 + 4 * (j : Int))).getD [] = list17 b j := rfl;rw [hl17] at h2;refine .inl ⟨_, H2, ?_, s2, o2, rfl, g2⟩;rw [ζ3j, hnx];simp -implicitDefEqProofs (disch := omega) [hjl, h1, h2, e2])
  (fun e H' ⟨s, o, he, g⟩ => by
   subst he;refine ⟨.exit 0, _, H', ?_, by simp, rfl, s, o, .int .i64 3, .bool false, rfl, _, g, fun _ => rfl⟩;rw [ζ3j];simp -implicitDefEqProofs)
 exact ⟨s, o, a10, a29, H1, hr1, ls, g1, hls⟩
theorem flat17 (r : RMach) (a c l : List Int) (x : Bool) : Flat (.tuple #[.agg (r17C r a c l).toArray, .bool x]) :=
 .tupleL (l := [.agg (r17C r a c l).toArray, .bool x]) (.cons (.aggL (l := r17C r a c l) (.cons (Flat.B _) (.cons (.int _ _) (.cons (.int _ _) (.cons (.int _ _) (.cons (.int _ _) (.cons (.int _ _) (.cons (.int _ _) (.cons (Flat.B _) (.cons (Flat.RPs _) (.cons (Flat.B _) (.cons (Flat.B _) (.cons (Flat.B _) .nil))))))))))))) (.cons (.bool _) .nil))
abbrev rN17 (r : RMach) : List Value := [lv encB r.b, .int .i64 r.cl, .int .i64 r.rowsAt, .int .i64 r.entsAt, .int .i64 r.states, .int .i64 r.n, .int .i64 r.words, lv encB r.tb, lv encRP r.parts, .slice none 0 0, .slice none 0 0, .slice none 0 0]
set_option maxRecDepth 10000 in
set_option maxHeartbeats 1000000 in
theorem ζhk (k : Nat) (b : List Int) (hb : Byt b) (g : Int) (hg : 1 ≤ g ∧ g ≤ 65535) (hl : b.length < 2 ^ 31) (H : Heap) :
  ∃ (r : RMach) (a c l : List Int), R (T k) F.ζb [lv encB b, .int .i64 g] H = .ok (.tuple #[.agg (r17C r a c l).toArray, .bool (ligaS b g).isSome]) H ∧ ∀ t, ligaS b g = some t → r = rmOf b g 1 t.m ∧ a = t.acts ∧ c = t.comps ∧ l = t.ligs := by
 have hrm := fun H' => ζib k b hb g 1 hg (.inr (.inl rfl)) hl H';unfold refMachS at hrm;have fz0 : ∀ H', fzV H.n H' fzDepth (.tuple #[.agg zC12.toArray, .bool false]) = some (.tuple #[.agg (r17C rmZ [] [] []).toArray, .bool false], []) := fun H' => rfl;have fl0 : Flat (.tuple #[.agg (r17C rmZ [] [] []).toArray, .bool false]) := flat17 rmZ [] [] [] false;have g0 := fun (r : RMach) => (((Star.nil H).push ⟨zC12, 1, false⟩).push ⟨rmC r, 1, false⟩).push ⟨rN17 r, 1, false⟩;simp only [List.nil_append, List.cons_append, hn_push] at g0
 -- the machine, and whether there is one
 obtain ⟨r, ok0, hrd, hr1, hr2⟩ : ∃ (r : RMach) (ok0 : Bool), (∀ H', R (T k) F.ζ4 [lv encB b, .int .i64 g, .int .i64 1] H' = .ok (.tuple #[rmV r, .bool ok0]) H') ∧ ok0 = (machS b g 1).isSome ∧ ∀ m, machS b g 1 = some m → r = rmOf b g 1 m := by
  cases hm : machS b g 1 with
  | none =>
   rw [hm] at hrm;exact ⟨rmZ, false, fun H' => hrm H', rfl, fun m h => by cases h⟩
  | some m =>
   rw [hm] at hrm;exact ⟨rmOf b g 1 m, true, fun H' => hrm H', rfl, fun m' h => by injection h with h; rw [h]⟩
 obtain ⟨s, o, a10, a29, H1, e1, ls, g1, hls⟩ := r17_l1 k hb hl ok0 (g0 r);have hh3 : has17 b ok0 3 = (((ok0 && (listAt b 16).isSome) && (listAt b 20).isSome) && (listAt b 24).isSome) := rfl;have hS : ligaS b g = (machS b g 1).bind fun m => (listAt b 16).bind fun a => (listAt b 20).bind fun c => (listAt b 24).bind fun l => if m.ents.all (entLast a) then some ⟨m, a, c, l⟩ else none := rfl
 have hfl : Flat (rmV r) := Flat.rm _;have x1 : ∀ H', Ext H' (H'.push ⟨zC12, 1, false⟩) := fun H' => (Ext.refl _).push _;cases h3 : has17 b ok0 3 with
 | false =>
  have hN : ligaS b g = none := by
   rw [hS];rw [h3] at hh3;cases hm : machS b g 1 with
   | none => rfl
   | some m =>
    rw [hm] at hr1;rw [hr1] at hh3;cases ha : listAt b 16 with
    | none => rfl
    | some a =>
     cases hc : listAt b 20 with
     | none => rfl
     | some c =>
      cases hd : listAt b 24 with
      | none => rfl
      | some l => rw [ha, hc, hd] at hh3; cases hh3
  rw [hN];refine ⟨rmZ, [], [], [], ?_, fun t h => by cases h⟩;rw [h3] at e1;have b0 := g1.get 0 rfl;have b0s : (H1.get H.n).isSome = true := by rw [b0]; rfl
  have g2 := g1.setBlk 0 rfl ⟨zC12, 1, false⟩;simp only [List.set_cons_zero] at g2;rw [ζc9];refine nrm_fz (H' := H1.set H.n (some ⟨zC12, 1, false⟩)) ?_ (fz0 _) g2.ext fl0.alive;simp -implicitDefEqProofs (disch := omega) [ζb, hrd, e1, ζ5u, b0, b0s]
 | true =>
  have hls := hls h3;subst hls;rw [h3] at hh3 e1;obtain ⟨m, hm⟩ : ∃ m, machS b g 1 = some m := by
   cases hm : machS b g 1 with
   | some m => exact ⟨m, rfl⟩
   | none => rw [hm] at hr1; rw [hr1] at hh3; cases hh3
  have hr2 := hr2 m hm;obtain ⟨a, ha⟩ : ∃ a, listAt b 16 = some a := by
   cases ha : listAt b 16 with
   | some a => exact ⟨a, rfl⟩
   | none => rw [ha] at hh3; cases ok0 <;> cases hh3
  obtain ⟨c, hc⟩ : ∃ c, listAt b 20 = some c := by
   cases hc : listAt b 20 with
   | some c => exact ⟨c, rfl⟩
   | none => rw [ha, hc] at hh3; cases ok0 <;> cases hh3
  obtain ⟨l, hd⟩ : ∃ l, listAt b 24 = some l := by
   cases hd : listAt b 24 with
   | some l => exact ⟨l, rfl⟩
   | none => rw [ha, hc, hd] at hh3; cases ok0 <;> cases hh3
  have l0 : list17 b 0 = a := by unfold list17; rw [show (16 : Int) + 4 * ((0 : Nat) : Int) = 16 from rfl, ha]; rfl
  have l1 : list17 b 1 = c := by unfold list17; rw [show (16 : Int) + 4 * ((1 : Nat) : Int) = 20 from rfl, hc]; rfl
  have l2 : list17 b 2 = l := by unfold list17; rw [show (16 : Int) + 4 * ((2 : Nat) : Int) = 24 from rfl, hd]; rfl
  rw [l0, l1, l2] at g1;rw [hm, ha, hc, hd] at hS;have hS : ligaS b g = if m.ents.all (entLast a) then some ⟨m, a, c, l⟩ else none := hS
  have hok := machS_ok hb hg.1 hg.2 (by omega) hm;have ab := ζdc hb ha;have hn : r.n = m.ents.length := by rw [hr2]; rfl
  have hent := fun (i : Nat) (e : En) (he : m.ents[i]? = some e) (hi : i ≤ 65536) H' => ζkq k hb (.inr (.inl rfl)) hl hm (i := (i : Int)) (by omega) (by omega) (e := e) (by simpa using he) H';rw [← hr2] at hent;have helen := hok.elen;have hes : ∀ e, e ∈ m.ents → (0 ≤ e.a ∧ e.a < 65536) ∧ 0 ≤ e.flags ∧ e.flags < 65536 := fun e he => by have := hok.ent e he; omega
  -- the lists are laid into the table
  obtain ⟨bb, hbb, hgb, _⟩ := g1.ix 3 rfl .i64 0 (by simp);subst hbb;have i0 : ∀ H', ixS 1 s (.int .i64 0) H' = .ok (.pointer (some ⟨bb, 0, none⟩)) H' := fun H' => by
   obtain ⟨b', h1, _, h4⟩ := g1.ix 3 rfl .i64 0 (by simp);have h1 := Option.some.inj h1;subst h1;simpa using h4 H'
  have i1 : ∀ H', ixS 1 s (.int .i64 1) H' = .ok (.pointer (some ⟨bb, 1, none⟩)) H' := fun H' => by
   obtain ⟨b', h1, _, h4⟩ := g1.ix 3 rfl .i64 1 (by simp);have h1 := Option.some.inj h1;subst h1;simpa using h4 H'
  have i2 : ∀ H', ixS 1 s (.int .i64 2) H' = .ok (.pointer (some ⟨bb, 2, none⟩)) H' := fun H' => by
   obtain ⟨b', h1, _, h4⟩ := g1.ix 3 rfl .i64 2 (by simp);have h1 := Option.some.inj h1;subst h1;simpa using h4 H'
  have b8 := g1.get 2 rfl;have hbn : ¬ H.n + 1 + 1 = bb := fun h => by
   have := g1.ne 2 3 (by decide) rfl rfl (b := H.n + 1 + 1) (by simp [itBlk]);exact this (by simp [itRow, h])
  have hbn' : ¬ bb = H.n + 1 + 1 := fun h => hbn h.symm;have hrw : rows encBR [a, c, l] = [lv encB a, lv encB c, lv encB l] := rfl;rw [hrw] at hgb;have g2 := g1.setBlk 2 rfl ⟨r17C r a c l, 1, false⟩;simp only [List.set_cons_zero, List.set_cons_succ] at g2;obtain ⟨H2, hH2⟩ : ∃ H2, H2 = H1.set (H.n + 1 + 1) (some ⟨r17C r a c l, 1, false⟩) := ⟨_, rfl⟩
  rw [← hH2] at g2;have gs : ∀ (k1 : Blk) d, (H1.set (H.n + 1 + 1) (some k1)).get d = if d = H.n + 1 + 1 then some k1 else H1.get d := fun k1 d => Heap.get_set b8 _ _
  have fin : ζ4m k (R (T k)) (.exit 0) [(0, lv encB b), (4, ptrV H.n), (6, ptrV (H.n + 1)), (7, .bool true), (8, ptrV (H.n + 1 + 1)), (9, s), (10, a10), (29, a29)] H1 =
    (loopN (ζ1t k (R (T k))) loopFuel [(4, ptrV H.n), (6, ptrV (H.n + 1)), (8, ptrV (H.n + 1 + 1)), (13, .int .i64 0)] H2).bind fun r81 h82 => ζ2y k (R (T k)) r81.1 r81.2 h82 := by
   rw [ζ5u];simp -implicitDefEqProofs (disch := omega) [i0, i1, i2, hgb, b8, gs, hbn', ← hH2]
  rcases r17_l2 k ab.1 (by omega) hes (by omega) hn (fun i e he H' => hent i e he (by have := (List.getElem?_eq_some_iff.1 he).1; omega) H') (p4 := H.n) (p6 := H.n + 1) (p8 := H.n + 1 + 1) (z := zC12) rfl (by simpa using g2.take 3) with ⟨a13, b65, H', e2, st, hall⟩ | ⟨H', e2, st, hall⟩
  ·rw [hall, if_pos rfl] at hS;rw [hS];refine ⟨r, a, c, l, ?_, fun t h => by injection h with h; subst h; exact ⟨hr2, rfl, rfl, rfl⟩⟩;have q4 := st.get 0 rfl;have q4s : (H'.get H.n).isSome = true := by rw [q4]; rfl
   have q8 := st.get 2 rfl;have st2 := st.setBlk 0 rfl ⟨r17C r a c l, 1, false⟩;rw [ζc9];refine nrm_fz (H' := H'.set H.n (some ⟨r17C r a c l, 1, false⟩)) (v := .tuple #[.agg (r17C r a c l).toArray, .bool true]) (L := []) ?_ rfl st2.ext (flat17 r a c l true).alive;simp -implicitDefEqProofs (disch := omega) [ζb, hrd, e1, fin, e2, ζ9z, q4, q4s, q8]
  ·rw [hall, if_neg (by decide)] at hS;rw [hS];refine ⟨rmZ, [], [], [], ?_, fun t h => by cases h⟩;have q4 := st.get 0 rfl;rw [ζc9];refine nrm_fz (H' := H') ?_ (fz0 _) st.ext fl0.alive;simp -implicitDefEqProofs (disch := omega) [ζb, hrd, e1, fin, e2, ζap, q4]
end Go.Sw
end
section
namespace Go.Sw
open Go.RowKit
theorem ζl3 {b : List Int} {g : Int} {t : LTab} (h : ligaS b g = some t) : machS b g 1 = some t.m := by
 unfold ligaS at h;obtain ⟨m, hm, h⟩ := Option.bind_eq_some_iff.1 h;obtain ⟨a, ha, h⟩ := Option.bind_eq_some_iff.1 h;obtain ⟨c, hc, h⟩ := Option.bind_eq_some_iff.1 h;obtain ⟨l, hL, h⟩ := Option.bind_eq_some_iff.1 h;split at h
 ·injection h with h;subst h;exact hm
 ·cases h
def setL (f : Bool) (e : En) : En := ⟨e.next, if f then andN e.flags 8192 else andN e.flags 32768, e.a, e.b⟩
set_option maxHeartbeats 4000000 in
theorem ζi1 (x : LPlan) (hx : x.ok) (ids : List Int) (f : Bool) : R (T F.ζ1w) F.ζd [lplV x, lv encI ids, .bool f] Heap.empty = .ok (.bool true) Heap.empty := by
 generalize hk : F.ζ1w = k;have hs := ζid k (by subst hk; rfl);have hW : ownW k = .no := by subst hk; rfl
 have hk6 : k < 1000000 := by subst hk; decide
 clear hk;rw [ζac];generalize Heap.empty = H;have hx1 : Ext H (H.push ⟨lplC x, 1, false⟩) := (Ext.refl H).push _;have hsm := fun H => ζk9 k x ids H;by_cases c1 : LSmall x ids.length;rotate_left
 ·refine nrm_gc ⟨_, ?_, hx1⟩ (.bool _);rw [decide_eq_false c1] at hsm;simp -implicitDefEqProofs (disch := omega) [ζd, hs, hsm]
 rw [decide_eq_true c1] at hsm;unfold LSmall at c1;have g := (Star.nil H).push ⟨lplC x, 1, false⟩;have g := g.push ⟨lplC x, 1, false⟩;have g := g.more_row (Ext.refl _) (OwnO.bare encEn _ 4) (fun b hb => by cases hb);simp only [List.nil_append, List.cons_append, hn_push] at g;obtain ⟨s1, o1, H1, e1, g⟩ := g.append (bytes := 32) 2 ζ39 rfl (b := lv encEn x.p.ents) (l2 := x.p.ents) rfl (lv_first ζ39 x.p.ents _) (by simp; omega) (by decide);simp only [List.nil_append, List.cons_append, List.set_cons_zero, List.set_cons_succ] at g;have b1 := g.get 0 rfl;obtain ⟨H2, e2, g, _⟩ := g.stCell 1 rfl 2 (g.row 2 rfl).storable (g.row 2 rfl).cells (by simp);simp only [List.set_cons_zero, List.set_cons_succ] at g;have b2 := g.get 1 rfl;have hln : ∀ H', lnS s1 H' = .ok (.int .i64 x.p.ents.length) H' := (g.row 2 rfl).len
 obtain ⟨xx, e', H3, hr3, rfl, rfl, g⟩ := loop_up (body := ζ36 k (R (T k))) x.p.ents.length
  (fun j e H' => e = [(1, lv encI ids), (2, .bool f), (7, ptrV (H.n + 1)), (31, .int .i64 x.p.ents.length), (32, .int .i64 j)] ∧ Star H H' [itBlk H.n ⟨lplC x, 1, false⟩, itBlk (H.n + 1) ⟨[lv encB x.p.cls, lv encBR x.p.rows, s1, .int .u8 x.p.wide, lv encF x.acts, lv encH x.comps, lv encH x.ligs], 1, false⟩, itRow o1 4 s1 encEn ((x.p.ents.take j).map (setL f) ++ x.p.ents.drop j)])
  (fun xx e H' => xx = .exit 0 ∧ e = [(1, lv encI ids), (2, .bool f), (7, ptrV (H.n + 1)), (31, .int .i64 x.p.ents.length), (32, .int .i64 x.p.ents.length), (33, .bool false)] ∧ Star H H' [itBlk H.n ⟨lplC x, 1, false⟩, itBlk (H.n + 1) ⟨[lv encB x.p.cls, lv encBR x.p.rows, s1, .int .u8 x.p.wide, lv encF x.acts, lv encH x.comps, lv encH x.ligs], 1, false⟩, itRow o1 4 s1 encEn (x.p.ents.map (setL f))])
  (e0 := [(1, lv encI ids), (2, .bool f), (7, ptrV (H.n + 1)), (31, .int .i64 x.p.ents.length), (32, .int .i64 0)]) (H0 := H2) ⟨rfl, by simpa using g⟩ (by omega)
  (fun j e H' hj ⟨he, g⟩ => by
   subst he;have hlt : (j : Int) < x.p.ents.length := by omega
   obtain ⟨y, hy⟩ : ∃ y, x.p.ents[j]? = some y := ⟨_, List.getElem?_eq_getElem hj⟩
   have hyj := map_at (f := setL f) hy;have bq := g.get 1 rfl;obtain ⟨c, hc, hgc, i2⟩ := g.ix 2 rfl .i64 j (by simp; omega);subst hc;have l1 := ld1_row ζ39 hgc (i := j) (c := 1) hyj (by decide) rfl;have an1 := fun H => bin_andN Prog 3 H y.flags 8192;have an2 := fun H => bin_andN Prog 3 H y.flags 32768;obtain ⟨H5, e5, g5, _⟩ := g.stRow 2 rfl ζ39 (j := j) (c := 1) (n := 1) (setL f y) (v := .int .i64 (setL f y).flags) hyj rfl rfl (by decide) rfl;rw [map_step hy] at g5;simp only [List.set_cons_zero, List.set_cons_succ] at g5;refine .inl ⟨_, H5, ?_, rfl, g5⟩;rw [ζ3z];cases f with
   | true =>
    simp only [setL, if_true] at e5;simp -implicitDefEqProofs (disch := omega) [-stR_ptr, -ld1_ptr, ld1_ptr (H.n + 1) 2, hlt, bq, i2, l1, an1, e5, ζ3y]
   | false =>
    simp only [setL, Bool.false_eq_true, if_false] at e5;simp -implicitDefEqProofs (disch := omega) [-stR_ptr, -ld1_ptr, ld1_ptr (H.n + 1) 2, hlt, bq, i2, l1, an2, e5, ζ3y])
  (fun e H' ⟨he, g⟩ => by
   subst he;rw [List.take_length, List.drop_length, List.append_nil] at g;refine ⟨.exit 0, _, H', ?_, by simp, rfl, rfl, g⟩;rw [ζ3z];simp -implicitDefEqProofs)
 obtain ⟨p2, hp2⟩ : ∃ p2 : Plan, p2 = ⟨x.p.cls, x.p.rows, x.p.ents.map (setL f), x.p.wide⟩ := ⟨_, rfl⟩
 have z1 : p2.cls = x.p.cls := by rw [hp2]
 have z2 : p2.rows = x.p.rows := by rw [hp2]
 have z3 : p2.ents = x.p.ents.map (setL f) := by rw [hp2]
 have z4 : p2.wide = x.p.wide := by rw [hp2]
 have z5 : p2.ok := by rw [hp2]; exact hx.p
 have z6 : p2.ents.length = x.p.ents.length := by rw [z3]; simp
 have hrow : Sl H3 4 s1 encEn p2.ents := by rw [z3]; exact (g.row 2 rfl).sl ζ39
 have b3 := g.get 1 rfl;have hw : R (T k) F.ζa [.agg #[lv encB x.p.cls, lv encBR x.p.rows, s1, .int .u8 x.p.wide, lv encF x.acts, lv encH x.comps, lv encH x.ligs]] H3 = .ok (lv encB (ligB p2 x.acts x.comps x.ligs)) H3 := by
  have := ζlr k hk6 hW ⟨p2, x.acts, x.comps, x.ligs⟩ ⟨z5, hx.acts, hx.comps, hx.ligs⟩ (by dsimp only; rw [z1]; omega) (by dsimp only; rw [z2]; omega) (by dsimp only; omega) (by dsimp only; omega) (by dsimp only; omega) (by dsimp only; omega) (PlanSl.lv H3 p2 hrow) (Sl.lv H3 1 x.acts) (Sl.lv H3 1 x.comps) (Sl.lv H3 1 x.ligs);dsimp only at this;rw [z1, z2, z4] at this;exact this
 have hcb : Byt (ligB p2 x.acts x.comps x.ligs) := ligB_byt z5 _ _ _;have hcl := ligB_len z5 (a := x.acts) (c := x.comps) (l := x.ligs) (by rw [z1]; omega) (by rw [z2]; omega) (by omega) (by omega) (by omega) (by omega);have hent := fun (m : Mach) (h : machS (ligB p2 x.acts x.comps x.ligs) 40 1 = some m) hn e he => ζla (p := p2) z5 (w := 1) (.inr (.inl rfl)) (rm := ligRm (ligN p2) x.acts.length x.comps.length) (more := fours x.acts ++ (twos x.comps ++ twos x.ligs)) (by rw [ζgh]; omega) (by rw [z1]; omega) (by rw [z2]; omega) (g := 40) (m := m) h hn (e := e) he;generalize ligB p2 x.acts x.comps x.ligs = b at hw hcb hcl hent;have hrd := fun H' => ζi3 k (H := H') (Sl.lv H' 1 b) hcb 40 (by omega) (fun _ H' => ζi5 k hk6 b hcb 40 (by omega) (by omega) H');unfold ligaO ligaN at hrd;rw [if_pos (by omega), if_pos (by omega)] at hrd;obtain ⟨r, ra, rc, rl, hrr, hrs⟩ := ζhk k b hcb 40 (by omega) (by omega) H3;have hnn : ¬ H.n + 1 = H3.n := by have := Heap.get_lt b3; omega
 cases h : ligaS b 40 with
 | none =>
  rw [h] at hrd hrr;simp only [ligaP, Option.isSome_none, Bool.false_eq_true, if_false] at hrd hrr;refine nrm_gc ⟨_, ?_, g.ext.push ⟨r17C r ra rc rl, 1, false⟩⟩ (.bool _);simp -implicitDefEqProofs (disch := omega) [-stR_ptr, stR_ptr 7 (H.n + 1) 0, stR_ptr 12 H3.n 0, ζd, hs, hsm, e1, b1, e2, b2, hln, hr3, ζ1i, b3, hw, hrd, hrr]
 | some t =>
  obtain ⟨hr2, _, _, _⟩ := hrs t h;rw [h] at hrd hrr;simp only [ligaP, Option.isSome_some, if_true] at hrd hrr;have hok := ligaS_ok hcb (by omega) (by omega) (by omega) h;have hrn : r.n = t.m.ents.length := by rw [hr2]; rfl
  have gP := g.push ⟨r17C r ra rc rl, 1, false⟩;simp only [List.cons_append, List.nil_append] at gP;have b4 := gP.get 1 rfl;by_cases d1 : r.n > x.p.ents.length
  ·refine nrm_gc ⟨_, ?_, gP.ext⟩ (.bool _);simp -implicitDefEqProofs (disch := omega) [-stR_ptr, stR_ptr 7 (H.n + 1) 0, stR_ptr 12 H3.n 0, ζd, hs, hsm, e1, b1, e2, b2, hln, hr3, ζ1i, b3, hw, hrd, hrr, b4, hnn, d1]
  by_cases d2 : r.states > x.p.rows.length
  ·refine nrm_gc ⟨_, ?_, gP.ext⟩ (.bool _);simp -implicitDefEqProofs (disch := omega) [-stR_ptr, stR_ptr 7 (H.n + 1) 0, stR_ptr 12 H3.n 0, ζd, hs, hsm, e1, b1, e2, b2, hln, hr3, ζ1i, b3, hw, hrd, hrr, b4, hnn, d1, d2]
  have hsame : (runL t (newG ids)).1 = newG ids := by
   refine ζmo t hok.m ?_ _;have hq := hent t.m (ζl3 h) (by omega);cases f with
   | true =>
    refine .inl fun e he => ?_;obtain ⟨q, hq, rfl⟩ := hq e he;rw [z3] at hq;obtain ⟨y, _, rfl⟩ := List.mem_map.1 hq;exact andN_bit y.flags 13 (by omega) 8192 rfl
   | false =>
    refine .inr fun e he => ?_;obtain ⟨q, hq, rfl⟩ := hq e he;rw [z3] at hq;obtain ⟨y, _, rfl⟩ := List.mem_map.1 hq;have h1 := andN_bit y.flags 15 (by omega) 32768 rfl;have h2 := ζ6a (andN y.flags 32768);show m16 (andN y.flags 32768) < 32768;omega
  obtain ⟨c, o, H5, e5, g⟩ := ζi8 k gP ids (by omega);simp only [List.nil_append, List.cons_append] at g;obtain ⟨H6, e6, g⟩ := ζi4 k t hok g 4 rfl (by simp; omega);simp only [List.set_cons_zero, List.set_cons_succ] at g;rw [hsame] at g;generalize (runL t (newG ids)).2 = w at e6;have gl := ζgk k hk6 g 4 rfl (by rw [newG_len]; omega);have hnew := fun H' => ζld k ids (by omega) H';have hsm2 := fun H' => Same_run k (Rd.lv encG_len H' (newG ids)) (Rd.lv encG_len H' (newG ids)) (by rw [newG_len]; omega) (by rw [newG_len]; omega);refine nrm_gc ⟨H6, ?_, g.ext⟩ (.bool _);simp -implicitDefEqProofs (disch := omega) [-stR_ptr, stR_ptr 7 (H.n + 1) 0, stR_ptr 12 H3.n 0, ζd, hs, hsm, e1, b1, e2, b2, hln, hr3, ζ1i, b3, hw, hrd, hrr, b4, hnn, d1, d2, e5, e6, gl, hnew, hsm2]
theorem ζgw (vs : List Value) (h : ArgsLay [lplSh, .one (.slice [.int .i64]), .one .bool] vs) : ∃ H', R (T F.ζ1w) F.ζd vs Heap.empty = .ok (.bool true) H' := by
 obtain ⟨v1, _, rfl, h1, h⟩ := h.head;obtain ⟨v2, _, rfl, h2, h⟩ := h.head;obtain ⟨v3, _, rfl, h3, h⟩ := h.head;obtain rfl := h.done;obtain ⟨x, rfl, hx⟩ := arg_lpl h1;obtain ⟨ids, rfl, _⟩ := arg_I h2;obtain ⟨f, rfl⟩ := arg_b h3;exact ⟨_, ζi1 x hx ids f⟩
end Go.Sw
end
section
namespace Go.Sw
open Go.RowKit
theorem names_ok : NamesOk Prog := NamesOk.of (by kernel_rfl)
theorem mixed_ok : Prog.follows .mixedOrders = true := Checked.mixed Go.Proofs.Try.checked
theorem laid_ok : laidOutB Prog = true := by kernel_rfl
theorem ζm5 : SpIs Prog F.ζk fun _ args H => cloneV 3 12 args H :=
 clone_is (c := { P := Prog, kp := kpS, sp := fun _ => none }) names_ok mixed_ok (t := 70) (e := 91) (by kernel_rfl) fun call a H => (ζ33 0 _ call a H).trans (by
  unfold ζk cloneF;simp only [be_70_0, ap_70, beR_bare])
theorem ζm4 : SpIs Prog F.ζ7 fun _ args H => cloneV 2 16 args H :=
 clone_is (c := { P := Prog, kp := kpS, sp := fun _ => none }) names_ok mixed_ok (t := 48) (e := 115) (by kernel_rfl) fun call a H => (ζ32 0 _ call a H).trans (by
  unfold ζ7 cloneF;simp only [be_48_0, ap_48, beR_bare])
theorem ζm6 : SpIs Prog F.ζl fun _ args H => cloneV 2 40 args H :=
 clone_is (c := { P := Prog, kp := kpS, sp := fun _ => none }) names_ok mixed_ok (t := 167) (e := 165) (by kernel_rfl) fun call a H => (ζ34 0 _ call a H).trans (by
  unfold ζl cloneF;simp only [be_167_0, ap_167, beR_bare])
theorem more_is (f : FuncId) (s : Sp) (h : moreS f = some s) : SpIs Prog f s := by
 unfold moreS at h;cases h0 : Nat.beq f 35 with
 | true => have := Nat.eq_of_beq_eq_true h0; subst this; rw [h0, cond_true] at h; injection h with h; subst h; exact try_is
 | false =>
 rw [h0, cond_false] at h;cases h1 : Nat.beq f 104 with
 | true => have := Nat.eq_of_beq_eq_true h1; subst this; rw [h1, cond_true] at h; injection h with h; subst h; exact ζm4
 | false =>
 rw [h1, cond_false] at h;cases h2 : Nat.beq f 118 with
 | true => have := Nat.eq_of_beq_eq_true h2; subst this; rw [h2, cond_true] at h; injection h with h; subst h; exact ζm5
 | false =>
 rw [h2, cond_false] at h;cases h3 : Nat.beq f 159 with
 | true => have := Nat.eq_of_beq_eq_true h3; subst this; rw [h3, cond_true] at h; injection h with h; subst h; exact ζm6
 | false =>
 rw [h3, cond_false] at h;cases h4 : Nat.beq f 244 with
 | true => rw [h4, cond_true] at h; injection h with h; subst h; exact SpIs.stuck _ _
 | false =>
 rw [h4, cond_false] at h;cases h
theorem T_prog (k : Nat) : (T k).c.P = Prog := by unfold T C; rfl
theorem told_ok {k m : Nat} (hsp : okTrue (run (baseCfg Prog kpS moreS) m (k % 1000000) [] Heap.empty) = true) : SpOk (T k).c := by
 have h0 : CallOk Prog (run (baseCfg Prog kpS moreS) m) := run_ok (c := baseCfg Prog kpS moreS) names_ok mixed_ok (SpOk.base more_is) m;have h1 : SpOk (C k) := by
  unfold C;exact SpOk.of (P := Prog) (kp := kpS) (speaks := speaksT) (more := moreS) (k := k % 1000000) h0 hsp more_is
 exact h1
end Go.Sw
end
