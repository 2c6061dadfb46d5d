/-
  Functions' forms, and what is proved of them, part 9.
-/
import Derived.Test.YtanfippcmdialaaSwW5
import Derived.Test.YtanfippcmdialaaSwW8
import Derived.Test.YtanfippcmdialaaSwW6
import Derived.Test.YtanfippcmdialaaSwW3
import Derived.Test.YtanfippcmdialaaSwW1
import Derived.Test.YtanfippcmdialaaSwCfg
set_option linter.unusedSimpArgs false
set_option linter.unusedVariables false
set_option linter.unusedSectionVars false
section
namespace Go.Sw
open Go.RowKit
end Go.Sw
end
section
namespace Go.Sw
open Go.RowKit
abbrev encPr (p : Pr) : List Value := [.int .u16 p.id, .int .u16 p.x]
theorem encPr_len (p : Pr) : (encPr p).length = 2 := rfl
theorem head_star (k : Nat) {H0 H : Heap} {L : List It} (h : Star H0 H L) (fmt z n : Int) (h1 : 0 ≤ fmt ∧ fmt < 65536) (h2 : 0 ≤ z ∧ z < 65536) (h3 : 0 ≤ n ∧ n < 65536) :
  ∃ s o H', R (T k) F.swashlaw06_head [.int .i64 fmt, .int .i64 z, .int .i64 n] H = .ok s H' ∧ Star H0 H' (L ++ [itRow o 1 s encB (headS fmt z n)]) := by
 have g0 : Star H0 H (L ++ [itRow none 1 (.slice none 0 0) encB []]) := h.more_row (Ext.refl H) (OwnO.nil _ _ _) fun b hb => by cases hb
 have at_ : ∀ x : It, (L ++ [x])[L.length]? = some x := fun x => by simp
 have set_ : ∀ x y : It, (L ++ [x]).set L.length y = L ++ [y] := fun x y => by simp
 obtain ⟨s1, o1, H1, e1, g1⟩ := Put_star k g0 L.length (at_ _) fmt 2 2 rfl h1.1 (by omega) (by omega) (by simp);rw [set_] at g1;obtain ⟨s2, o2, H2, e2, g2⟩ := Put_star k g1 L.length (at_ _) z 2 2 rfl h2.1 (by omega) (by omega) (by simp [bytesOf_len]);rw [set_] at g2;obtain ⟨s3, o3, H3, e3, g3⟩ := Put_star k g2 L.length (at_ _) n 2 2 rfl h3.1 (by omega) (by omega) (by simp [bytesOf_len]);rw [set_] at g3;have g4 := g3.rest ((Ext.refl H3).push ⟨rows encB [0, 0, 0, 0, 0, 0], 1, false⟩);obtain ⟨s5, o5, H5, e5, g5⟩ := g4.append (bytes := 1) L.length encB_len (at_ _) (b := .slice (some ⟨H3.n, 0, none⟩) 6 6) (l2 := [0, 0, 0, 0, 0, 0]) rfl (by
  unfold firstV;dsimp only;rw [if_neg (by simp), cellsAt_eq, get_push_eq _ _ _ rfl];rfl) (by simp [bytesOf_len]) (by decide)
 rw [set_] at g5;refine ⟨s5, o5, H5, ?_, by simpa [headS] using g5⟩;rw [swashlaw06_head_R];simp [rows] at e5;simp -implicitDefEqProofs (disch := omega) [swashlaw06_head, e1, e2, e3, e5]
end Go.Sw
end
section
namespace Go.Sw
open Go.RowKit
theorem fourRows_snoc (p : Pr) : ∀ (l : List Pr) (a : Int), fourRows a (l ++ [p]) = fourRows a l ++ [fourRow p (a + 2 * l.length)]
 | [], a => by simp [fourRows]
 | q :: l, a => by
  rw [List.cons_append, fourRows, fourRows_snoc p l (a + 2), fourRows, List.cons_append];congr 4;simp; omega
theorem valS_snoc (l : List Pr) (p : Pr) : valS (l ++ [p]) = valS l ++ bytesOf p.x 2 := by simp [valS]
theorem flat_take_len (f : Pr → List Int) (l : List Pr) (j m : Nat) (hf : ∀ p, (f p).length = m) : (((l.take j).map f).flatten).length ≤ l.length * m := by
 rw [flat_len (z := m) (fun r hr => by obtain ⟨p, _, rfl⟩ := List.mem_map.1 hr; exact hf p)];exact Nat.mul_le_mul_right _ (by simp; omega)
theorem four_take_len (l : List Pr) (j : Nat) (a : Int) : ((fourRows a (l.take j)).flatten).length ≤ l.length * 6 := by
 have hm : ∀ (l : List Pr) (a : Int) r, r ∈ fourRows a l → r.length = 6 := by
  intro l
  induction l with
  | nil => intro a r h; cases h
  | cons p l ih =>
   intro a r h;rcases List.mem_cons.1 h with rfl | h
   ·simp [fourRow]
   ·exact ih _ r h
 rw [flat_len (z := 6) (hm _ _), fourRows_len];exact Nat.mul_le_mul_right _ (by simp; omega)
theorem head_app (k : Nat) {H0 H : Heap} {L : List It} (h : Star H0 H L) (fmt z n : Int) (h1 : 0 ≤ fmt ∧ fmt < 65536) (h2 : 0 ≤ z ∧ z < 65536) (h3 : 0 ≤ n ∧ n < 65536) (j : Nat) {o : Option Nat} {s : Value} {l : List Int} (hj : L[j]? = some (itRow o 1 s encB l)) (hl : l.length < 2 ^ 30) :
  ∃ s1 H1 s2 o2 H2, R (T k) F.swashlaw06_head [.int .i64 fmt, .int .i64 z, .int .i64 n] H = .ok s1 H1 ∧ apR 1 1 s1 s H1 = .ok s2 H2 ∧ Star H0 H2 (L ++ [itRow o2 1 s2 encB (headS fmt z n ++ l)]) := by
 obtain ⟨s1, o1, H1, e1, g⟩ := head_star k h fmt z n h1 h2 h3;have hjl := (List.getElem?_eq_some_iff.1 hj).1;obtain ⟨s2, o2, H2, e2, g⟩ := g.appendRow (bytes := 1) L.length j encB_len (list_at_end _) (by rw [List.getElem?_append_left hjl]; exact hj) (by simp; omega) (by decide);rw [set_at_end] at g;exact ⟨s1, H1, s2, o2, H2, e1, e2, g⟩
theorem eightS_ne {l : List Pr} (h : l.length ≠ 1) : eightS l = bytesOf 8 2 ++ (bytesOf 0 2 ++ (bytesOf 0 2 ++ [])) := by
 match l, h with
 | [], _ => rfl
 | [p], h => exact absurd rfl h
 | _ :: _ :: _, _ => rfl
theorem forms_end (k : Nat) {H H1 : Heap} (v0 : Value) (l : List Pr) (hln : ∀ H', lnS v0 H' = .ok (.int .i64 l.length) H') (hl : l.length ≤ 1000) {K : Blk} {o2 o4 o6 ov o8 : Option Nat} {s2 s4 s6 sv s8 x : Value} {M : List It} (m : Nat) (hm : M[m]? = some (itRow o8 1 s8 encB (eightS l))) (hK : K.cells.length = 4)
  (g : Star H H1 (itBlk H.n K :: itRow o2 1 s2 encB (l.map twoRow).flatten :: itRow o4 1 s4 encB (fourRows (12 + 6 * l.length) l).flatten :: itRow o6 1 s6 encB (l.map (sixRow 2)).flatten :: itRow ov 1 sv encB (valS l) :: M)) (hro : K.ro = false) :
  ∃ v H' L, swashlaw06_Forms_j2 k (R (T k)) v0 (.pointer (some ⟨H.n, 0, none⟩)) s2 s4 s6 sv s8 x H1 = .ok v H' ∧ fzV H.n H' fzDepth v = some (.agg #[lv encB (twoS l), lv encB (fourS l), lv encB (sixS 2 l), lv encB (eightS l)], L) ∧ Ext H H' := by
 have l2 := flat_take_len twoRow l l.length 6 (fun p => by simp [twoRow]);have l4 := four_take_len l l.length (12 + 6 * l.length);have l6 := flat_take_len (sixRow 2) l l.length 4 (fun p => by simp [sixRow]);have l8 := flat_take_len (fun p => bytesOf p.x 2) l l.length 2 (fun p => by simp);rw [List.take_length] at l2 l4 l6 l8;obtain ⟨a1, K1, t1, u1, J1, e1, f1, g⟩ := head_app k g 2 6 l.length (by omega) (by omega) (by omega) 1 rfl (by omega);obtain ⟨a2, K2, e2', g2⟩ : ∃ a2 K2, R (T k) F.swashlaw06_head [.int .i64 4, .int .i64 6, .int .i64 l.length] J1 = .ok a2 K2 ∧ ∃ o, Star H K2 (((itBlk H.n K :: itRow o2 1 s2 encB (l.map twoRow).flatten :: itRow o4 1 s4 encB (fourRows (12 + 6 * l.length) l).flatten :: itRow o6 1 s6 encB (l.map (sixRow 2)).flatten :: itRow ov 1 sv encB (valS l) :: M) ++ [itRow u1 1 t1 encB (headS 2 6 l.length ++ (l.map twoRow).flatten)]) ++ [itRow o 1 a2 encB (headS 4 6 l.length)]) := by
  obtain ⟨s, o, K2, e, g⟩ := head_star k g 4 6 l.length (by omega) (by omega) (by omega);exact ⟨s, K2, e, o, g⟩
 obtain ⟨oa, g⟩ := g2;obtain ⟨t2, u2, J2, f2, g⟩ := g.appendRow (bytes := 1) _ 2 encB_len (list_at_end _) rfl (by simp only [headS_len]; omega) (by decide);rw [set_at_end] at g;obtain ⟨t3, u3, J3, f3, g⟩ := g.appendRow (bytes := 1) _ 4 encB_len (list_at_end _) rfl (by simp only [List.length_append, headS_len]; unfold valS; omega) (by decide);rw [set_at_end] at g;obtain ⟨a4, K4, t4, u4, J4, e4, f4, g⟩ := head_app k g 6 4 l.length (by omega) (by omega) (by omega) 3 rfl (by omega);have hget := g.get 0 rfl;have hne : J4.n ≠ H.n := by have := Heap.get_lt hget; omega
 obtain ⟨kc, ke, kr⟩ := K;dsimp only at hro hK;subst hro;obtain ⟨c1, c2, c3, c4, rfl⟩ : ∃ c1 c2 c3 c4, kc = [c1, c2, c3, c4] := by
  match kc, hK with
  | [c1, c2, c3, c4], _ => exact ⟨c1, c2, c3, c4, rfl⟩
 have g := g.setBlk 0 rfl ⟨[t1, t3, t4, s8], ke, false⟩;have hget2 := g.get 0 rfl;have hd : ∀ (x y z : It), (((((itBlk H.n ⟨[t1, t3, t4, s8], ke, false⟩ :: itRow o2 1 s2 encB (l.map twoRow).flatten :: itRow o4 1 s4 encB (fourRows (12 + 6 * l.length) l).flatten :: itRow o6 1 s6 encB (l.map (sixRow 2)).flatten :: itRow ov 1 sv encB (valS l) :: M) ++ [x]) ++ [y]) ++ [z])[m + 5]? = some (itRow o8 1 s8 encB (eightS l))) := fun x y z => by
  have hml := (List.getElem?_eq_some_iff.1 hm).1;rw [List.getElem?_append_left (by simp; omega), List.getElem?_append_left (by simp; omega), List.getElem?_append_left (by simp; omega)];simpa using hm
 obtain ⟨M1, z1⟩ := g.fzRow (M.length + 5) encB_len (by simp; rfl) (fun n _ v hv => by simp at hv; subst hv; trivial) 5;obtain ⟨M2, z2⟩ := g.fzRow (M.length + 6) encB_len (by simp; rfl) (fun n _ v hv => by simp at hv; subst hv; trivial) 5;obtain ⟨M3, z3⟩ := g.fzRow (M.length + 7) encB_len (by simp; rfl) (fun n _ v hv => by simp at hv; subst hv; trivial) 5;obtain ⟨M4, z4⟩ := g.fzRow (m + 5) encB_len (hd _ _ _) (fun n _ v hv => by simp at hv; subst hv; trivial) 5;rw [show headS 2 6 (l.length : Int) ++ (l.map twoRow).flatten = twoS l by simp [twoS]] at z1;rw [show headS 4 6 (l.length : Int) ++ ((fourRows (12 + 6 * (l.length : Int)) l).flatten ++ valS l) = fourS l from rfl] at z2;rw [show headS 6 4 (l.length : Int) ++ (l.map (sixRow 2)).flatten = sixS 2 l by simp [sixS]] at z3;have st1 := (g.row (M.length + 5) (enc := encB) (by simp; rfl)).storable;have st2 := (g.row (M.length + 6) (enc := encB) (by simp; rfl)).storable;have st3 := (g.row (M.length + 7) (enc := encB) (by simp; rfl)).storable;have st4 := (g.row (m + 5) (hd _ _ _)).storable;have ce1 := (g.row (M.length + 5) (enc := encB) (by simp; rfl)).cells;have ce2 := (g.row (M.length + 6) (enc := encB) (by simp; rfl)).cells;have ce3 := (g.row (M.length + 7) (enc := encB) (by simp; rfl)).cells;have ce4 := (g.row (m + 5) (hd _ _ _)).cells;refine ⟨.agg #[t1, t3, t4, s8], _, _, ?_, fz_agg (mapF_cons z1 (mapF_cons z2 (mapF_cons z3 (mapF_cons z4 mapF_nil)))), g.ext⟩;rw [swashlaw06_Forms_j2_eq];simp -implicitDefEqProofs (disch := omega) [hln, e1, f1, e2', f2, f3, e4, f4, hget, hget2, st1, st2, st3, st4, ce1, ce2, ce3, ce4]
theorem Flat.forms (l : List Pr) : Flat (.agg #[Go.Sw.lv encB (twoS l), Go.Sw.lv encB (fourS l), Go.Sw.lv encB (sixS 2 l), Go.Sw.lv encB (eightS l)]) := .aggL (.cons (.B _) (.cons (.B _) (.cons (.B _) (.cons (.B _) .nil))))
theorem Forms_runS (k : Nat) (H : Heap) {v0 : Value} (l : List Pr) (hv : Sl H 2 v0 encPr l) (hl : l.length ≤ 1000) (hok : ∀ p, p ∈ l → p.ok) :
  R (T k) F.swashlaw06_Forms [v0] H = .ok (.agg #[lv encB (twoS l), lv encB (fourS l), lv encB (sixS 2 l), lv encB (eightS l)]) H := by
 rw [swashlaw06_Forms_R];have g0 := (((((Star.nil H).push ⟨[.slice none 0 0, .slice none 0 0, .slice none 0 0, .slice none 0 0], 1, false⟩).more_row (Ext.refl _) (OwnO.nil encB _ 1) (fun b hb => by cases hb)).more_row (Ext.refl _) (OwnO.nil encB _ 1) (fun b hb => by cases hb)).more_row (Ext.refl _) (OwnO.nil encB _ 1) (fun b hb => by cases hb)).more_row (Ext.refl _) (OwnO.bare encB _ 1) (fun b hb => by cases hb)
 obtain ⟨x, e', H1, hr, rfl, s2, s4, s6, sv, o2, o4, o6, ov, rfl, g1⟩ := loop_up (body := swashlaw06_Forms_l1 k (R (T k))) l.length
  (fun j e H' => ∃ s2 s4 s6 sv o2 o4 o6 ov, e = [(0, v0), (2, .pointer (some ⟨H.n, 0, none⟩)), (3, s2), (4, s4), (5, s6), (6, sv), (7, .int .i64 (12 + 6 * l.length)), (18, v0), (19, .int .i64 l.length), (20, .int .i64 j)] ∧
   Star H H' [itBlk H.n ⟨[.slice none 0 0, .slice none 0 0, .slice none 0 0, .slice none 0 0], 1, false⟩, itRow o2 1 s2 encB ((l.take j).map twoRow).flatten, itRow o4 1 s4 encB (fourRows (12 + 6 * l.length) (l.take j)).flatten, itRow o6 1 s6 encB ((l.take j).map (sixRow 2)).flatten, itRow ov 1 sv encB (valS (l.take j))])
  (fun x e H' => x = .exit 0 ∧ ∃ s2 s4 s6 sv o2 o4 o6 ov, e = [(0, v0), (2, .pointer (some ⟨H.n, 0, none⟩)), (3, s2), (4, s4), (5, s6), (6, sv), (7, .int .i64 (12 + 6 * l.length)), (18, v0), (19, .int .i64 l.length), (20, .int .i64 l.length), (21, .bool false)] ∧
   Star H H' [itBlk H.n ⟨[.slice none 0 0, .slice none 0 0, .slice none 0 0, .slice none 0 0], 1, false⟩, itRow o2 1 s2 encB (l.map twoRow).flatten, itRow o4 1 s4 encB (fourRows (12 + 6 * l.length) l).flatten, itRow o6 1 s6 encB (l.map (sixRow 2)).flatten, itRow ov 1 sv encB (valS l)])
  (e0 := [(0, v0), (2, .pointer (some ⟨H.n, 0, none⟩)), (3, .slice none 0 0), (4, .slice none 0 0), (5, .slice none 0 0), (6, bareV), (7, .int .i64 (12 + 6 * l.length)), (18, v0), (19, .int .i64 l.length), (20, .int .i64 0)])
  (H0 := H.push ⟨[.slice none 0 0, .slice none 0 0, .slice none 0 0, .slice none 0 0], 1, false⟩)
  ⟨_, _, _, _, _, _, _, _, rfl, by simpa [fourRows, valS] using g0⟩ (by omega)
  (fun j e H' hj ⟨s2, s4, s6, sv, o2, o4, o6, ov, he, g⟩ => by
   subst he;have hlt : (j : Int) < l.length := by omega
   obtain ⟨p, hp⟩ : ∃ p, l[j]? = some p := ⟨_, List.getElem?_eq_getElem hj⟩
   obtain ⟨q1, q2, q3, q4⟩ := hok p (List.mem_of_getElem? hp);obtain ⟨ip, i1, i2⟩ := ((hv.up g.ext).rd (by decide) encPr_len).2 j p hp;have hH := g;have l2 := flat_take_len twoRow l j 6 (fun p => by simp [twoRow]);have l4 := four_take_len l j (12 + 6 * l.length);have l6 := flat_take_len (sixRow 2) l j 4 (fun p => by simp [sixRow]);have l8 := flat_take_len (fun p => bytesOf p.x 2) l j 2 (fun p => by simp);have g := g.rest ((Ext.refl H').push ⟨[.int .u16 p.id, .int .u16 p.x], 1, false⟩);have w1 : IntKind.i64.wrap p.id = p.id := wrap_i64 (by omega) (by omega);have w2 : IntKind.i64.wrap p.x = p.x := wrap_i64 (by omega) (by omega);obtain ⟨t1, u1, H1, e1, g⟩ := Put_star k g 1 rfl p.id 2 2 rfl q1 (by omega) (by decide) (by omega);obtain ⟨t2, u2, H2, e2, g⟩ := Put_star k g 1 rfl p.id 2 2 rfl q1 (by omega) (by decide) (by simp only [List.length_append, bytesOf_len]; omega);obtain ⟨t3, u3, H3, e3, g⟩ := Put_star k g 1 rfl p.x 2 2 rfl q3 (by omega) (by decide) (by simp only [List.length_append, bytesOf_len]; omega);obtain ⟨t4, u4, H4, e4, g⟩ := Put_star k g 2 rfl p.id 2 2 rfl q1 (by omega) (by decide) (by omega);obtain ⟨t5, u5, H5, e5, g⟩ := Put_star k g 2 rfl p.id 2 2 rfl q1 (by omega) (by decide) (by simp only [List.length_append, bytesOf_len]; omega);obtain ⟨t6, u6, H6, e6, g⟩ := Put_star k g 2 rfl (12 + 6 * l.length + 2 * j) 2 2 rfl (by omega) (by omega) (by decide) (by simp only [List.length_append, bytesOf_len]; omega);obtain ⟨t7, u7, H7, e7, g⟩ := Put_star k g 3 rfl p.id 2 2 rfl q1 (by omega) (by decide) (by omega);obtain ⟨t8, u8, H8, e8, g⟩ := Put_star k g 3 rfl p.x 2 2 rfl q3 (by omega) (by decide) (by simp only [List.length_append, bytesOf_len]; omega);obtain ⟨t9, u9, H9, e9, g⟩ := Put_star k g 4 rfl p.x 2 2 rfl q3 (by omega) (by decide) (by unfold valS; omega);refine .inl ⟨_, H9, ?_, t3, t6, t8, t9, u3, u6, u8, u9, rfl, ?_⟩
   ·rw [swashlaw06_Forms_l1_eq];simp -implicitDefEqProofs (disch := omega) [hlt, i1, i2, w1, w2, e1, e2, e3, e4, e5, e6, e7, e8, e9]
   ·have hlen : (l.take j).length = j := by simp; omega
    rw [take_snoc hp, valS_snoc, fourRows_snoc, hlen];simpa [twoRow, sixRow, fourRow] using g)
  (fun e H' ⟨s2, s4, s6, sv, o2, o4, o6, ov, he, g⟩ => by
   subst he;refine ⟨.exit 0, _, H', ?_, by simp, rfl, s2, s4, s6, sv, o2, o4, o6, ov, rfl, by simpa using g⟩;rw [swashlaw06_Forms_l1_eq];simp -implicitDefEqProofs)
 have l8 : (valS l).length ≤ l.length * 2 := by
  have := flat_take_len (fun p => bytesOf p.x 2) l l.length 2 (fun p => by simp)
  rwa [List.take_length] at this
 have g := g1.more_row (Ext.refl _) (OwnO.nil encB _ 1) (fun b hb => by cases hb);obtain ⟨t1, u1, K1, e1, g⟩ := Put_star k g 5 rfl 8 2 2 rfl (by decide) (by decide) (by decide) (by simp);obtain ⟨t2, u2, K2, e2, g⟩ := Put_star k g 5 rfl 0 2 2 rfl (by decide) (by decide) (by decide) (by simp);obtain ⟨t3, u3, K3, e3, g⟩ := Put_star k g 5 rfl 0 2 2 rfl (by decide) (by decide) (by decide) (by simp);by_cases h1 : l.length = 1
 ·obtain ⟨p, rfl⟩ := List.length_eq_one_iff.1 h1;obtain ⟨q1, q2, q3, q4⟩ := hok p (by simp);have w1 : IntKind.i64.wrap p.id = p.id := wrap_i64 (by omega) (by omega);have w2 : IntKind.i64.wrap p.x = p.x := wrap_i64 (by omega) (by omega);have x3 := g.ext;have g := g.more_row (Ext.refl _) (OwnO.nil encB _ 1) (fun b hb => by cases hb);obtain ⟨t4, u4, K4, e4, g⟩ := Put_star k g 6 rfl 8 2 2 rfl (by decide) (by decide) (by decide) (by simp);have x4 := g.ext;obtain ⟨t5, u5, K5, e5, g⟩ := Put_star k g 6 rfl p.id 2 2 rfl q1 (by omega) (by decide) (by simp);have x5 := g.ext;obtain ⟨t6, u6, K6, e6, g⟩ := Put_star k g 6 rfl 1 2 2 rfl (by decide) (by decide) (by decide) (by simp);have x6 := g.ext;obtain ⟨t7, u7, K7, e7, g⟩ := Put_star k g 6 rfl p.x 2 2 rfl q3 (by omega) (by decide) (by simp);have x7 := g.ext;obtain ⟨v, H', L, r1, r2, r3⟩ := forms_end k v0 [p] hv.len (by simp) (x := .bool true) 1 (by simp [eightS]; rfl) rfl g rfl;refine nrm_fz (v := v) (H' := H') ?_ r2 r3 (Flat.forms _).alive;have hvl := hv.len;simp at hr hvl;rcases hv with rfl | ⟨h, _⟩ | ⟨b, off, cap, kk, rfl, hc, hb, hrw⟩
  ·have i1 := fun H' => ixS_lvN encPr_len [p] .i64 0 p rfl H';simp at i1;simp -implicitDefEqProofs (disch := omega) [swashlaw06_Forms, hvl, hr, swashlaw06_Forms_l1k_x0, e1, e2, e3, e4, e5, e6, e7, i1, w1, w2];rw [← r1, swashlaw06_Forms_j1_eq, swashlaw06_Forms_j2_eq]
  ·cases h
  ·have c0 : kk.cells[off]? = some (.int .u16 p.id) := by
    have := congrArg (fun l => l[0]?) hrw;simpa [List.getElem?_take, List.getElem?_drop, rows] using this
   have c1 : kk.cells[off + 1]? = some (.int .u16 p.x) := by
    have := congrArg (fun l => l[1]?) hrw;simpa [List.getElem?_take, List.getElem?_drop, rows] using this
   have hc1 : 1 ≤ cap := hc;have i1 : ∀ H', ixS 2 (.slice (some ⟨b, off, none⟩) 1 cap) (.int .i64 0) H' = .ok (.pointer (some ⟨b, off, none⟩)) H' := fun H' => by
    have := ixS_slice 2 b off 1 cap .i64 0 H' (by decide);simpa using this
   simp only [List.length_cons, List.length_nil, Nat.zero_add] at hr hvl r1 ⊢;simp -implicitDefEqProofs (disch := omega) [swashlaw06_Forms, hvl, hr, swashlaw06_Forms_l1k_x0, e1, e2, e3, e4, e5, e6, e7, i1, w1, w2, x3.get hb, x4.get hb, x5.get hb, x6.get hb, x7.get hb, c0, c1];rw [← r1, swashlaw06_Forms_j1_eq, swashlaw06_Forms_j2_eq]
 ·obtain ⟨v, H', L, r1, r2, r3⟩ := forms_end k v0 l hv.len hl (x := .bool false) 0 (by rw [eightS_ne h1]; simp; rfl) rfl g rfl;refine nrm_fz (v := v) (H' := H') ?_ r2 r3 (Flat.forms _).alive;have h1' : ((l.length : Int) == 1) = false := by rw [beq_eq_false_iff_ne]; omega
  simp -implicitDefEqProofs (disch := omega) [swashlaw06_Forms, hv.len, hr, swashlaw06_Forms_l1k_x0, e1, e2, e3, h1', r1]
end Go.Sw
end
section
namespace Go.Sw
open Go.RowKit
theorem wantS_snoc (l : List Pr) (p : Pr) (id : Int) : wantS (l ++ [p]) id = (wantS l id).or (if p.id = id then some p.x else none) := by
 unfold wantS;rw [List.find?_append];cases l.find? (fun p => decide (p.id = id)) with
 | some q => rfl
 | none =>
  by_cases h : p.id = id
  ·simp [h]
  ·simp [h]
theorem wantS_take {l : List Pr} {n : Int} (hr : RiseTo l n) {j : Nat} {p : Pr} (hp : l[j]? = some p) : wantS (l.take j) p.id = none := by
 unfold wantS;rw [Option.map_eq_none_iff, List.find?_eq_none];intro q hq;obtain ⟨i, hi⟩ := List.getElem?_of_mem hq;rw [List.getElem?_take] at hi;split at hi
 ·have := hr.1 i j q p (by omega) hi hp;simp; omega
 ·cases hi
theorem wantS_mem {l : List Pr} {n : Int} (hr : RiseTo l n) {p : Pr} (hp : p ∈ l) : wantS l p.id = some p.x := by
 obtain ⟨i, hi⟩ := List.getElem?_of_mem hp;have h1 := wantS_take hr hi;have h2 := take_snoc hi;have h3 : wantS (l.take (i + 1)) p.id = some p.x := by rw [h2, wantS_snoc, h1, if_pos rfl]; rfl
 unfold wantS at h3 ⊢;have : l.find? (fun q => decide (q.id = p.id)) = some p := by
  obtain ⟨q, hq, hx⟩ := Option.map_eq_some_iff.1 h3;rw [h2, List.find?_append] at hq;unfold wantS at h1;rw [Option.map_eq_none_iff.1 h1] at hq;simp at hq;rw [← List.take_append_drop (i + 1) l, List.find?_append, h2, List.find?_append, Option.map_eq_none_iff.1 h1];simp
 rw [this]; rfl
theorem twoS_byt (l : List Pr) : Byt (twoS l) := (headS_byt _ _ _).app ((Byt.flat fun r hr => by
 obtain ⟨p, _, rfl⟩ := List.mem_map.1 hr;exact (bytesOf_byt _ _).app ((bytesOf_byt _ _).app ((bytesOf_byt _ _).app Byt.nil))).app Byt.nil)
theorem sixS_byt (z : Nat) (l : List Pr) : Byt (sixS z l) := (headS_byt _ _ _).app ((Byt.flat fun r hr => by
 obtain ⟨p, _, rfl⟩ := List.mem_map.1 hr;exact (bytesOf_byt _ _).app ((bytesOf_byt _ _).app Byt.nil)).app Byt.nil)
theorem fourS_byt (l : List Pr) : Byt (fourS l) := (headS_byt _ _ _).app ((Byt.flat fun r hr => by
 obtain ⟨i, hi⟩ := List.getElem?_of_mem hr;have hlt := (List.getElem?_eq_some_iff.1 hi).1;rw [fourRows_len] at hlt;rw [fourRows_get l _ i _ (List.getElem?_eq_getElem hlt)] at hi;injection hi with hi;subst hi;exact (bytesOf_byt _ _).app ((bytesOf_byt _ _).app ((bytesOf_byt _ _).app Byt.nil))).app (Byt.flat fun r hr => by
 obtain ⟨p, _, rfl⟩ := List.mem_map.1 hr;exact bytesOf_byt _ _))
theorem eightS_byt (l : List Pr) : Byt (eightS l) := by
 unfold eightS;split
 ·exact (bytesOf_byt _ _).app ((bytesOf_byt _ _).app ((bytesOf_byt _ _).app ((bytesOf_byt _ _).app Byt.nil)))
 ·exact (bytesOf_byt _ _).app ((bytesOf_byt _ _).app ((bytesOf_byt _ _).app Byt.nil))
theorem flat_map_len (f : Pr → List Int) (l : List Pr) (m : Nat) (hf : ∀ p, (f p).length = m) : ((l.map f).flatten).length = l.length * m := by
 rw [flat_len (z := m) (fun r hr => by obtain ⟨p, _, rfl⟩ := List.mem_map.1 hr; exact hf p), List.length_map]
theorem twoS_len (l : List Pr) : (twoS l).length = 12 + l.length * 6 := by
 simp only [twoS, List.length_append, headS_len, flat_map_len twoRow l 6 (fun p => by simp [twoRow]), List.length_nil, Nat.add_zero]
theorem sixS_len (z : Nat) (l : List Pr) : (sixS z l).length = 12 + l.length * (2 + z) := by
 simp only [sixS, List.length_append, headS_len, flat_map_len (sixRow z) l (2 + z) (fun p => by simp [sixRow]), List.length_nil, Nat.add_zero]
theorem fourS_len (l : List Pr) : (fourS l).length ≤ 12 + l.length * 8 := by
 have := four_take_len l l.length (12 + 6 * l.length);rw [List.take_length] at this;simp only [fourS, List.length_append, headS_len, valS, flat_map_len (fun p => bytesOf p.x 2) l 2 (fun p => by simp)];omega
theorem eightS_len (l : List Pr) : (eightS l).length ≤ 8 := by
 unfold eightS;split <;> simp
end Go.Sw
end
section
namespace Go.Sw
open Go.RowKit
def toPr (e : List Int) : Pr := ⟨IntKind.u16.wrap (e[0]?.getD 0), IntKind.u16.wrap (e[1]?.getD 0)⟩
theorem wrap16 {n : Int} (h : 0 ≤ n ∧ n < 65536) : IntKind.u16.wrap n = n := wrap_u16 h.1 (by omega)
theorem wrap_u16_lt (n : Int) : 0 ≤ IntKind.u16.wrap n ∧ IntKind.u16.wrap n < 65536 := by
 unfold IntKind.wrap;simp [IntKind.signed, IntKind.bits];omega
theorem toPr_ok (e : List Int) : (toPr e).ok := ⟨(wrap_u16_lt _).1, (wrap_u16_lt _).2, (wrap_u16_lt _).1, (wrap_u16_lt _).2⟩
theorem rising_mem {ps : List Pt} : ∀ {L : List (List Int)} {last : Int}, -1 ≤ last → Rising ps last L → ∀ e, e ∈ L → ∃ id x, e = [id, x] ∧ last < id ∧ id < 65536 ∧ getS ps id = some x
 | [], _, _, _, e, he => by cases he
 | f :: L, last, hl, h, e, he => by
  obtain ⟨id, x, rfl, h1, h2, h3, h4, h5⟩ := h;rcases List.mem_cons.1 he with rfl | hm
  ·exact ⟨id, x, rfl, h1, h2, h3⟩
  ·obtain ⟨id', x', e1, e2, e3, e4⟩ := rising_mem (by omega) h5 e hm;exact ⟨id', x', e1, by omega, e3, e4⟩
theorem riseTo_cons {p : Pr} {l : List Pr} {n : Int} (hp : p.id < n) (h : RiseTo l n) (hlt : ∀ q, q ∈ l → p.id < q.id) : RiseTo (p :: l) n := by
 refine ⟨fun i j a b hij ha hb => ?_, fun q hq => ?_⟩
 ·obtain ⟨j, rfl⟩ : ∃ j', j = j' + 1 := ⟨j - 1, by omega⟩
  have hb : l[j]? = some b := by simpa using hb
  cases i with
  | zero => simp at ha; subst ha; exact hlt b (List.mem_of_getElem? hb)
  | succ i => exact h.1 i j a b (by omega) (by simpa using ha) hb
 ·rcases List.mem_cons.1 hq with rfl | hm
  ·exact hp
  ·exact h.2 q hm
theorem rising_rise {ps : List Pt} : ∀ {L : List (List Int)} {last : Int}, -1 ≤ last → Rising ps last L → (∀ e, e ∈ L → e[0]?.getD 0 ≠ 65535) → RiseTo (L.map toPr) 65535
 | [], _, _, _, _ => ⟨fun i j p q _ h => by simp at h, fun p h => by simp at h⟩
 | f :: L, last, hl, h, hne => by
  obtain ⟨id, x, rfl, h1, h2, h3, h4, h5⟩ := h;have h65 : id ≠ 65535 := by have := hne [id, x] (by simp); simpa using this
  have hid : (toPr [id, x]).id = id := by simp [toPr, wrap16 ⟨by omega, h2⟩]
  refine riseTo_cons (by rw [hid]; omega) (rising_rise (by omega) h5 fun e he => hne e (by simp [he])) fun q hq => ?_;obtain ⟨e, he, rfl⟩ := List.mem_map.1 hq;obtain ⟨id', x', rfl, e1, e2, _⟩ := rising_mem (by omega) h5 e he;rw [hid];simpa [toPr, wrap16 ⟨by omega, e2⟩] using e1
theorem get_mem {ps : List Pt} {i x : Int} (h : getS ps i = some x) : [i, x] ∈ ps.flatMap ptL ∧ ∃ p, p ∈ ps ∧ x ∈ p.vals := by
 unfold getS at h;obtain ⟨p, hp, h⟩ := Option.bind_eq_some_iff.1 h;have hm := List.mem_of_find?_eq_some hp;have hle := List.find?_some hp;simp at hle;split at h
 ·rename_i hf;refine ⟨List.mem_flatMap.2 ⟨p, hm, List.mem_map.2 ⟨(i - p.first).toNat, List.mem_range.2 (by omega), ?_⟩⟩, p, hm, ?_⟩
  ·rw [show p.first + ((i - p.first).toNat : Int) = i by omega, h]; rfl
  ·unfold Pt.num at h;exact List.mem_of_getElem? h
 ·cases h
theorem want_get {ps : List Pt} (hok : ∀ p, p ∈ ps → p.ok) (hr : risesS ps = true) (hne : ∀ e, e ∈ ps.flatMap ptL → e[0]?.getD 0 ≠ 65535) (hx : ∀ p, p ∈ ps → ∀ x, x ∈ p.vals → x < 65536) (i : Int) :
  wantS ((ps.flatMap ptL).map toPr) i = getS ps i := by
 have hR := rising_tab hok hr;have hrise := rising_rise (by decide) hR hne;have hxr : ∀ {i x}, getS ps i = some x → 0 ≤ x ∧ x < 65536 := fun h => by
  obtain ⟨_, p, hp, hxm⟩ := get_mem h;have := (hok p hp).2.2.2.2.2 _ hxm;have := hx p hp _ hxm;omega
 cases hg : getS ps i with
 | some x =>
  obtain ⟨hm, _⟩ := get_mem hg;have hxx := hxr hg;obtain ⟨id, x', e, h1, h2, _⟩ := rising_mem (by decide) hR _ hm;injection e with e1 e; injection e with e2 _; subst e1 e2;have hp : (⟨i, x⟩ : Pr) ∈ (ps.flatMap ptL).map toPr := List.mem_map.2 ⟨[i, x], hm, by simp [toPr, wrap16 ⟨by omega, h2⟩, wrap16 hxx]⟩;exact wantS_mem hrise hp
 | none =>
  cases hw : wantS ((ps.flatMap ptL).map toPr) i with
  | none => rfl
  | some y =>
   unfold wantS at hw;obtain ⟨p, hp, _⟩ := Option.map_eq_some_iff.1 hw;have hm := List.mem_of_find?_eq_some hp;have hid := List.find?_some hp;simp at hid;obtain ⟨e, he, rfl⟩ := List.mem_map.1 hm;obtain ⟨id, x, rfl, h1, h2, h3⟩ := rising_mem (by decide) hR e he;have : id = i := by rw [← hid]; simp [toPr, wrap16 ⟨by omega, h2⟩]
   rw [this] at h3;rw [h3] at hg; cases hg
theorem foldl_max_le (l : List Int) : ∀ (m n : Int), l.foldl max m ≤ n ↔ m ≤ n ∧ ∀ x, x ∈ l → x ≤ n := by
 induction l with
 | nil => intro m n; simp
 | cons x l ih =>
  intro m n;rw [List.foldl_cons, ih];constructor
  ·intro ⟨h1, h2⟩;exact ⟨by omega, fun y hy => by
    rcases List.mem_cons.1 hy with rfl | hm
    ·omega
    ·exact h2 y hm⟩
  ·intro ⟨h1, h2⟩;exact ⟨by have := h2 x (by simp); omega, fun y hy => h2 y (by simp [hy])⟩
theorem mostS_le (ps : List Pt) (n : Int) : mostS ps ≤ n ↔ -1 ≤ n ∧ ∀ p, p ∈ ps → ∀ x, x ∈ p.vals → x ≤ n := by
 unfold mostS;have : ∀ (ps : List Pt) (m : Int), ps.foldl (fun m p => p.vals.foldl max m) m ≤ n ↔ m ≤ n ∧ ∀ p, p ∈ ps → ∀ x, x ∈ p.vals → x ≤ n := by
  intro ps
  induction ps with
  | nil => intro m; simp
  | cons p ps ih =>
   intro m;rw [List.foldl_cons, ih, foldl_max_le];constructor
   ·intro ⟨⟨h1, h2⟩, h3⟩;refine ⟨h1, fun q hq => ?_⟩;rcases List.mem_cons.1 hq with rfl | hm
    ·exact h2
    ·exact h3 q hm
   ·intro ⟨h1, h2⟩;exact ⟨⟨h1, h2 p (by simp)⟩, fun q hq => h2 q (by simp [hq])⟩
 exact this ps (-1)
theorem rel_lens {b : List Int} : ∀ {ps : List Pt} {rs : List RP}, Rel b ps rs → (∀ p, p ∈ ps → p.ok) → ∀ p, p ∈ ps → (p.vals.length : Int) ≤ p.last - p.first + 1
 | [], _, _, _, p, hp => by cases hp
 | q :: ps, [], h, _, _, _ => h.elim
 | q :: ps, r :: rs, h, hok, p, hp => by
  rcases List.mem_cons.1 hp with rfl | hm
  ·obtain ⟨h1, h2, _, h4⟩ := h.1;have := (hok p (by simp)).2.1;rcases h4 with h4 | h4 <;> omega
  ·exact rel_lens h.2 (fun p hp => hok p (by simp [hp])) p hm
theorem most_pairs {ps : List Pt} (hok : ∀ p, p ∈ ps → p.ok) (hr : risesS ps = true) (hlen : ∀ p, p ∈ ps → (p.vals.length : Int) ≤ p.last - p.first + 1) (hx : ∀ p, p ∈ ps → ∀ x, x ∈ p.vals → x < 65536) :
  mostS (((ps.flatMap ptL).map toPr).map Pr.pt) = mostS ps := by
 have key : ∀ n, mostS (((ps.flatMap ptL).map toPr).map Pr.pt) ≤ n ↔ mostS ps ≤ n := by
  intro n;rw [mostS_le, mostS_le];refine and_congr Iff.rfl ⟨fun h p hp x hxm => ?_, fun h q hq x hxm => ?_⟩
  ·obtain ⟨i, hi⟩ := List.getElem?_of_mem hxm;have hil := (List.getElem?_eq_some_iff.1 hi).1;have hl := hlen p hp;have hpk := hok p hp;have hnum : p.num (p.first + (i : Nat)) = some x := by
    unfold Pt.num;rw [show (min (p.first + (i : Int) - p.first) ((p.vals.length : Int) - 1)).toNat = i by omega];exact hi
   have hx1 := hx p hp x hxm;have hx0 := (hpk.2.2.2.2.2 x hxm).1;have hE : [p.first + (i : Nat), x] ∈ ps.flatMap ptL := List.mem_flatMap.2 ⟨p, hp, List.mem_map.2 ⟨i, List.mem_range.2 (by omega), by rw [hnum]; rfl⟩⟩;exact h (Pr.pt (toPr [p.first + (i : Nat), x])) (List.mem_map.2 ⟨_, List.mem_map.2 ⟨_, hE, rfl⟩, rfl⟩) x (by simp [Pr.pt, toPr, wrap16 ⟨hx0, hx1⟩])
  ·obtain ⟨r, hr', rfl⟩ := List.mem_map.1 hq;obtain ⟨e, he, rfl⟩ := List.mem_map.1 hr';obtain ⟨id, y, rfl, h1, h2, h3⟩ := rising_mem (by decide) (rising_tab hok hr) e he;obtain ⟨_, p, hp, hy⟩ := get_mem h3;have hy1 := hx p hp y hy;have hy0 := ((hok p hp).2.2.2.2.2 y hy).1;simp [Pr.pt, toPr, wrap16 ⟨hy0, hy1⟩] at hxm;subst hxm;exact h p hp _ hy
 have h1 := (key (mostS ps)).2 (Int.le_refl _);have h2 := (key (mostS (((ps.flatMap ptL).map toPr).map Pr.pt))).1 (Int.le_refl _);omega
end Go.Sw
end
section
set_option maxRecDepth 100000
set_option linter.unusedVariables false
namespace Go.Sw
noncomputable section
def swashtop_WholeLookups_g1 (k : Nat) (call : Caller) : Env → Heap → Res AExit := rangeB CI call F.swashtop_WholeLookups [1, 1, 1, 1, 1, 1, 0, 1, 0, 0] [1, 1, 1, 1, 1, 1, 0, 1, 0, 1]
def swashtop_WholeLookups_g1k (k : Nat) (call : Caller) : Kont Value := kBlock 0 (kSeq (pieceK CI call F.swashtop_WholeLookups [1, 1, 1, 1, 1, 1, 1]) (kDone Prog (resOf Prog F.swashtop_WholeLookups)))
def swashtop_WholeLookups_l2 (k : Nat) (call : Caller) : Env → Heap → Res (AExit × Env) := loopB CI call F.swashtop_WholeLookups [1, 1, 1, 1, 1, 1, 1, 0, 1, 0, 0]
def swashtop_WholeLookups_l2k (k : Nat) (call : Caller) : Kont Value := kBlock 2 (kSeq (pieceK CI call F.swashtop_WholeLookups [1, 1, 1, 1, 1, 1, 1, 1]) (kDone Prog (resOf Prog F.swashtop_WholeLookups)))
def swashtop_WholeLookups_j1 (k : Nat) (call : Caller) (a1 a4 a7 a9 a13 a71 a72 a87 : Value) (h : Heap) : Res (AExit × Env) :=
 kSeq (pieceK CI call F.swashtop_WholeLookups [1, 1, 1, 1, 1, 1, 1, 0, 1, 0, 0, 1, 1, 1]) (kRound (ownOf CI F.swashtop_WholeLookups [1, 1, 1, 1, 1, 1, 1, 0, 1, 0, 0])) .normal [(1, a1), (4, a4), (7, a7), (9, a9), (13, a13), (71, a71), (72, a72), (87, a87)] h
def swashtop_WholeLookups_l3 (k : Nat) (call : Caller) : Env → Heap → Res (AExit × Env) := loopB CI call F.swashtop_WholeLookups [1, 1, 1, 1, 1, 1, 1, 0, 1, 0, 0, 1, 1, 0, 0, 1, 1, 1, 1, 0, 1, 0, 0]
def swashtop_WholeLookups_l3k (k : Nat) (call : Caller) : Kont (AExit × Env) := kBlock 4 (kSeq (pieceK CI call F.swashtop_WholeLookups [1, 1, 1, 1, 1, 1, 1, 0, 1, 0, 0, 1, 1, 0, 0, 1, 1, 1, 1, 1]) (kBlock 3 (kSeq (pieceK CI call F.swashtop_WholeLookups [1, 1, 1, 1, 1, 1, 1, 0, 1, 0, 0, 1, 1, 1]) (kRound (ownOf CI F.swashtop_WholeLookups [1, 1, 1, 1, 1, 1, 1, 0, 1, 0, 0])))))
def swashtop_WholeLookups_j2 (k : Nat) (call : Caller) (a1 a4 a7 a9 a71 a72 a149 : Value) (h : Heap) : Res (AExit × Env) :=
 kSeq (pieceK CI call F.swashtop_WholeLookups [1, 1, 1, 1, 1, 1, 1, 0, 1, 0, 0, 1, 1, 1]) (kRound (ownOf CI F.swashtop_WholeLookups [1, 1, 1, 1, 1, 1, 1, 0, 1, 0, 0])) .normal [(1, a1), (4, a4), (7, a7), (9, a9), (71, a71), (72, a72), (149, a149)] h
def swashtop_WholeLookups (k : Nat) (call : Caller) (a0 a1 : Value) (h : Heap) : Res Value :=
 (allocR Prog 4 h).bind fun v1 h2 =>
 (buildSliceR Prog 31 8 [(0, (.int .u8 0)), (1, (.int .u8 8)), (2, (.int .u8 0)), (3, (.int .u8 5)), (4, (.int .u8 0)), (5, (.int .u8 1)), (6, (.int .u8 0)), (7, (.int .u8 7))] h2).bind fun v3 h4 =>
 (call F.lookup_Read [v3, (.int .i64 10), (.int .i64 2)] h4).bind fun v5 h6 =>
 (extractR v5 0 h6).bind fun v7 h8 =>
 (extractR v5 1 h8).bind fun v9 h10 =>
 (binR Prog .neq 33 v9 (.int .i64 0) h10).bind fun v11 h12 =>
 ((bif wantVal v11 false then Res.ok v7 h12 else Res.ok undef h12)).bind fun v13 h14 =>
 ((bif wantVal v11 false then binR Prog .eql 32 v13 (.pointer none) h14 else Res.ok undef h14)).bind fun v15 h16 =>
 (condV (some v11) (Res.ok (.bool true) h16) (Res.ok v15 h16)).bind fun v17 h18 =>
 ((bif wantVal v17 false then Res.ok v7 h18 else Res.ok undef h18)).bind fun v19 h20 =>
 ((bif wantVal v17 false then call F.lookup_Table_Most [v19] h20 else Res.ok undef h20)).bind fun v21 h22 =>
 ((bif wantVal v17 false then binR Prog .neq 3 v21 (.int .i64 7) h22 else Res.ok undef h22)).bind fun v23 h24 =>
 (condV (some v17) (Res.ok (.bool true) h24) (Res.ok v23 h24)).bind fun v25 h26 =>
 condV (some v25) (
 (storeR Prog 4 v1 (.bool false) h26).bind fun _v27 h28 =>
 (loadR Prog 4 v1 h28).bind fun v29 h30 =>
 .ok v29 h30)
 (
 (builtinV Prog .len [31] [a0] h26).bind fun v31 h32 =>
 (binR Prog .gtr 3 v31 (.int .i64 100) h32).bind fun v33 h34 =>
 condV (some v33) (
 (storeR Prog 4 v1 (.bool true) h34).bind fun _v35 h36 =>
 (loadR Prog 4 v1 h36).bind fun v37 h38 =>
 .ok v37 h38)
 (
 (call F.lookup_Read [a0, (.int .i64 40), (.int .i64 2)] h34).bind fun v39 h40 =>
 (extractR v39 0 h40).bind fun v41 h42 =>
 (extractR v39 1 h42).bind fun v43 h44 =>
 (binR Prog .eql 32 v41 (.pointer none) h44).bind fun v45 h46 =>
 condV (some v45) (
 (storeR Prog 4 v1 (.bool true) h46).bind fun _v47 h48 =>
 (loadR Prog 4 v1 h48).bind fun v49 h50 =>
 .ok v49 h50)
 (
 (allocR Prog 79 h46).bind fun v51 h52 =>
 (call F.lookup_Table_All [v41] h52).bind fun v53 h54 =>
 ((opt (itS v53 h54) h54).bind fun l55 h56 => rangeN (swashtop_WholeLookups_g1 k call) [53, 54] [(1, a1), (4, v1), (7, v41), (9, v51)] l55 h56).bind fun r57 h58 =>
 swashtop_WholeLookups_g1k k call r57.1 r57.2 h58)))
theorem swashtop_WholeLookups_body (k : Nat) (sp : FuncId → Option Sp) (call : Caller) (a0 a1 : Value) (h : Heap) : bodyK CI call F.swashtop_WholeLookups [a0, a1] h = swashtop_WholeLookups k call a0 a1 h := by kernel_rfl
theorem swashtop_WholeLookups_g1_eq (k : Nat) (call : Caller) (a1 a4 a7 a9 a53 a54 : Value) (h : Heap) : swashtop_WholeLookups_g1 k call [(1, a1), (4, a4), (7, a7), (9, a9), (53, a53), (54, a54)] h =
 (binR Prog .eql 3 a53 (.int .i64 65535) h).bind fun v59 h60 =>
 ((bif wantVal v59 false then loadR Prog 79 a9 h60 else Res.ok undef h60)).bind fun v61 h62 =>
 ((bif wantVal v59 false then builtinV Prog .len [79] [v61] h62 else Res.ok undef h62)).bind fun v63 h64 =>
 ((bif wantVal v59 false then binR Prog .gtr 3 v63 (.int .i64 200) h64 else Res.ok undef h64)).bind fun v65 h66 =>
 (condV (some v59) (Res.ok (.bool true) h66) (Res.ok v65 h66)).bind fun v67 h68 =>
 condV (some v67) (
 (storeR Prog 4 a4 (.bool true) h68).bind fun _v69 h70 =>
 .ok .ret h70)
 (
 (loadR Prog 79 a9 h68).bind fun v71 h72 =>
 (convR Prog 3 80 a53 h72).bind fun v73 h74 =>
 (convR Prog 3 80 a54 h74).bind fun v75 h76 =>
 (buildR Prog 82 [(0, v73), (1, v75)] h76).bind fun v77 h78 =>
 (buildSliceR Prog 79 1 [(0, v77)] h78).bind fun v79 h80 =>
 (builtinV Prog .append [79, 79] [v71, v79] h80).bind fun v81 h82 =>
 (storeR Prog 79 a9 v81 h82).bind fun _v83 h84 =>
 .ok .normal h84) :=
 (rangeB_eq _ _).trans (by kernel_rfl)
theorem swashtop_WholeLookups_g1k_n (k : Nat) (call : Caller) (a1 a4 a7 a9 : Value) (h : Heap) : swashtop_WholeLookups_g1k k call .normal [(1, a1), (4, a4), (7, a7), (9, a9)] h =
 (loadR Prog 79 a9 h).bind fun v85 h86 =>
 (call F.swashlaw06_Forms [v85] h86).bind fun v87 h88 =>
 (loopN (swashtop_WholeLookups_l2 k call) loopFuel [(1, a1), (4, a4), (7, a7), (9, a9), (71, v87), (72, (.int .i64 0))] h88).bind fun r89 h90 =>
 swashtop_WholeLookups_l2k k call r89.1 r89.2 h90 := by kernel_rfl
theorem swashtop_WholeLookups_l2_eq (k : Nat) (call : Caller) (a1 a4 a7 a9 a71 a72 : Value) (h : Heap) : swashtop_WholeLookups_l2 k call [(1, a1), (4, a4), (7, a7), (9, a9), (71, a71), (72, a72)] h =
 (binR Prog .lss 3 a72 (.int .i64 4) h).bind fun v91 h92 =>
 condV (some v91) (
 (indexR Prog 83 a71 a72 h92).bind fun v93 h94 =>
 (binR Prog .eql 3 a72 (.int .i64 3) h94).bind fun v95 h96 =>
 ((bif wantVal v95 true then loadR Prog 79 a9 h96 else Res.ok undef h96)).bind fun v97 h98 =>
 ((bif wantVal v95 true then builtinV Prog .len [79] [v97] h98 else Res.ok undef h98)).bind fun v99 h100 =>
 ((bif wantVal v95 true then binR Prog .gtr 3 v99 (.int .i64 1) h100 else Res.ok undef h100)).bind fun v101 h102 =>
 (condV (some v95) (Res.ok v101 h102) (Res.ok (.bool false) h102)).bind fun v103 h104 =>
 ((bif wantVal v103 false then Res.ok a7 h104 else Res.ok undef h104)).bind fun v105 h106 =>
 ((bif wantVal v103 false then call F.lookup_Table_Most [v105] h106 else Res.ok undef h106)).bind fun v107 h108 =>
 ((bif wantVal v103 false then binR Prog .gtr 3 v107 (.int .i64 65535) h108 else Res.ok undef h108)).bind fun v109 h110 =>
 (condV (some v103) (Res.ok (.bool true) h110) (Res.ok v109 h110)).bind fun v111 h112 =>
 condV (some v111) (
 swashtop_WholeLookups_j1 k call a1 a4 a7 a9 v93 a71 a72 v111 h112)
 (
 (call F.lookup_Read [v93, (.int .i64 40), (.int .i64 2)] h112).bind fun v113 h114 =>
 (extractR v113 0 h114).bind fun v115 h116 =>
 (extractR v113 1 h116).bind fun v117 h118 =>
 (binR Prog .neq 33 v117 (.int .i64 0) h118).bind fun v119 h120 =>
 ((bif wantVal v119 false then Res.ok v115 h120 else Res.ok undef h120)).bind fun v121 h122 =>
 ((bif wantVal v119 false then binR Prog .eql 32 v121 (.pointer none) h122 else Res.ok undef h122)).bind fun v123 h124 =>
 (condV (some v119) (Res.ok (.bool true) h124) (Res.ok v123 h124)).bind fun v125 h126 =>
 ((bif wantVal v125 false then Res.ok v115 h126 else Res.ok undef h126)).bind fun v127 h128 =>
 ((bif wantVal v125 false then call F.lookup_Table_Most [v127] h128 else Res.ok undef h128)).bind fun v129 h130 =>
 ((bif wantVal v125 false then Res.ok a7 h130 else Res.ok undef h130)).bind fun v131 h132 =>
 ((bif wantVal v125 false then call F.lookup_Table_Most [v131] h132 else Res.ok undef h132)).bind fun v133 h134 =>
 ((bif wantVal v125 false then binR Prog .neq 3 v129 v133 h134 else Res.ok undef h134)).bind fun v135 h136 =>
 (condV (some v125) (Res.ok (.bool true) h136) (Res.ok v135 h136)).bind fun v137 h138 =>
 condV (some v137) (
 (storeR Prog 4 a4 (.bool false) h138).bind fun _v139 h140 =>
 .ok (.ret, [(4, a4)]) h140)
 (
 (loopN (swashtop_WholeLookups_l3 k call) loopFuel [(1, a1), (4, a4), (7, a7), (9, a9), (14, v115), (16, (.int .i64 (-1))), (71, a71), (72, a72)] h138).bind fun r141 h142 =>
 swashtop_WholeLookups_l3k k call r141.1 r141.2 h142)))
 (
 .ok ((.exit 2), [(1, a1), (4, a4), (7, a7), (9, a9), (71, a71), (72, a72), (73, v91)]) h92) :=
 (loopB_eq _ _).trans (by kernel_rfl)
theorem swashtop_WholeLookups_j1_eq (k : Nat) (call : Caller) (a1 a4 a7 a9 a13 a71 a72 a87 : Value) (h : Heap) : swashtop_WholeLookups_j1 k call a1 a4 a7 a9 a13 a71 a72 a87 h =
 (binR Prog .add 3 a72 (.int .i64 1) h).bind fun v143 h144 =>
 .ok (.normal, [(1, a1), (4, a4), (7, a7), (9, a9), (71, a71), (72, v143)]) h144 := by kernel_rfl
theorem swashtop_WholeLookups_l3_eq (k : Nat) (call : Caller) (a1 a4 a7 a9 a14 a16 a71 a72 : Value) (h : Heap) : swashtop_WholeLookups_l3 k call [(1, a1), (4, a4), (7, a7), (9, a9), (14, a14), (16, a16), (71, a71), (72, a72)] h =
 (binR Prog .lss 3 a16 (.int .i64 60) h).bind fun v145 h146 =>
 condV (some v145) (
 (call F.lookup_Table_Get [a7, a16] h146).bind fun v147 h148 =>
 (extractR v147 0 h148).bind fun v149 h150 =>
 (extractR v147 1 h150).bind fun v151 h152 =>
 (call F.lookup_Table_Get [a14, a16] h152).bind fun v153 h154 =>
 (extractR v153 0 h154).bind fun v155 h156 =>
 (extractR v153 1 h156).bind fun v157 h158 =>
 (binR Prog .neq 3 v149 v155 h158).bind fun v159 h160 =>
 ((bif wantVal v159 false then Res.ok v151 h160 else Res.ok undef h160)).bind fun v161 h162 =>
 ((bif wantVal v159 false then Res.ok v157 h162 else Res.ok undef h162)).bind fun v163 h164 =>
 ((bif wantVal v159 false then binR Prog .neq 4 v161 v163 h164 else Res.ok undef h164)).bind fun v165 h166 =>
 (condV (some v159) (Res.ok (.bool true) h166) (Res.ok v165 h166)).bind fun v167 h168 =>
 condV (some v167) (
 (storeR Prog 4 a4 (.bool false) h168).bind fun _v169 h170 =>
 .ok (.ret, [(4, a4)]) h170)
 (
 (binR Prog .add 3 a16 (.int .i64 1) h168).bind fun v171 h172 =>
 .ok (.normal, [(1, a1), (4, a4), (7, a7), (9, a9), (14, a14), (16, v171), (71, a71), (72, a72)]) h172))
 (
 .ok ((.exit 4), [(1, a1), (4, a4), (7, a7), (9, a9), (14, a14), (16, a16), (71, a71), (72, a72), (107, v145)]) h146) :=
 (loopB_eq _ _).trans (by kernel_rfl)
theorem swashtop_WholeLookups_g1k_r (k : Nat) (call : Caller) (a1 a4 a7 a9 : Value) (h : Heap) : swashtop_WholeLookups_g1k k call .ret [(1, a1), (4, a4), (7, a7), (9, a9)] h =
 (loadR Prog 4 a4 h).bind fun v173 h174 =>
 .ok v173 h174 := by kernel_rfl
theorem swashtop_WholeLookups_l2k_x2 (k : Nat) (call : Caller) (a1 a4 a7 a9 a71 a72 a73 : Value) (h : Heap) : swashtop_WholeLookups_l2k k call (.exit 2) [(1, a1), (4, a4), (7, a7), (9, a9), (71, a71), (72, a72), (73, a73)] h =
 (storeR Prog 4 a4 (.bool true) h).bind fun _v177 h178 =>
 (loadR Prog 4 a4 h178).bind fun v179 h180 =>
 .ok v179 h180 := by kernel_rfl
theorem swashtop_WholeLookups_l3k_x4 (k : Nat) (call : Caller) (a1 a4 a7 a9 a14 a16 a71 a72 a107 : Value) (h : Heap) : swashtop_WholeLookups_l3k k call (.exit 4) [(1, a1), (4, a4), (7, a7), (9, a9), (14, a14), (16, a16), (71, a71), (72, a72), (107, a107)] h =
 (call F.lookup_Table_Get [a7, a1] h).bind fun v181 h182 =>
 (extractR v181 0 h182).bind fun v183 h184 =>
 (extractR v181 1 h184).bind fun v185 h186 =>
 (call F.lookup_Table_Get [a14, a1] h186).bind fun v187 h188 =>
 (extractR v187 0 h188).bind fun v189 h190 =>
 (extractR v187 1 h190).bind fun v191 h192 =>
 (binR Prog .neq 3 v183 v189 h192).bind fun v193 h194 =>
 ((bif wantVal v193 false then Res.ok v185 h194 else Res.ok undef h194)).bind fun v195 h196 =>
 ((bif wantVal v193 false then Res.ok v191 h196 else Res.ok undef h196)).bind fun v197 h198 =>
 ((bif wantVal v193 false then binR Prog .neq 4 v195 v197 h198 else Res.ok undef h198)).bind fun v199 h200 =>
 (condV (some v193) (Res.ok (.bool true) h200) (Res.ok v199 h200)).bind fun v201 h202 =>
 condV (some v201) (
 (storeR Prog 4 a4 (.bool false) h202).bind fun _v203 h204 =>
 .ok (.ret, [(4, a4)]) h204)
 (
 swashtop_WholeLookups_j2 k call a1 a4 a7 a9 a71 a72 v201 h202) := by kernel_rfl
theorem swashtop_WholeLookups_j2_eq (k : Nat) (call : Caller) (a1 a4 a7 a9 a71 a72 a149 : Value) (h : Heap) : swashtop_WholeLookups_j2 k call a1 a4 a7 a9 a71 a72 a149 h =
 (binR Prog .add 3 a72 (.int .i64 1) h).bind fun v205 h206 =>
 .ok (.normal, [(1, a1), (4, a4), (7, a7), (9, a9), (71, a71), (72, v205)]) h206 := by kernel_rfl
end
end Go.Sw
end
section
namespace Go.Sw
open Go.RowKit
theorem WholeLookups_R (k : Nat) (a0 a1 : Value) (h : Heap) : R (T k) F.swashtop_WholeLookups [a0, a1] h = nrm .gc h (swashtop_WholeLookups k (R (T k)) a0 a1 h) :=
 (R_sp (t := T k) (T_scott k) (s := fun call args H => bodyK CI call F.swashtop_WholeLookups args H) (by kernel_rfl) [a0, a1] h).trans (by
  show nrm ((T k).md F.swashtop_WholeLookups) h (bodyK _ _ _ _ _) = _;rw [swashtop_WholeLookups_body k (fun _ => none)];rfl)
def wlE (a1 : Value) (p : Nat) (tab : Value) (c : Nat) : Env := [(1, a1), (4, .pointer (some ⟨p, 0, none⟩)), (7, tab), (9, .pointer (some ⟨c, 0, none⟩))]
abbrev wlL (p c : Nat) (r : Bool) (s : Value) (o : Option Nat) (l : List Pr) : List It := [itBlk p ⟨[.bool r], 1, false⟩, itBlk c ⟨[s], 1, false⟩, itRow o 2 s encPr l]
set_option maxHeartbeats 1000000 in
/-- One round: a pair more, or the end. -/
theorem wl_round (k : Nat) (a1 tab : Value) {H0 H : Heap} {p c : Nat} {s : Value} {o : Option Nat} {l : List Pr} (g : Star H0 H (wlL p c false s o l)) (hl : l.length ≤ 201) (id x : Int) :
  (∃ H' s o l, swashtop_WholeLookups_g1 k (R (T k)) (putAll (wlE a1 p tab c) [53, 54] [id, x]) H = .ok .ret H' ∧ Star H0 H' (wlL p c true s o l)) ∨
  (∃ s' o' H', swashtop_WholeLookups_g1 k (R (T k)) (putAll (wlE a1 p tab c) [53, 54] [id, x]) H = .ok .normal H' ∧ Star H0 H' (wlL p c false s' o' (l ++ [toPr [id, x]])) ∧ id ≠ 65535 ∧ l.length ≤ 200) := by
 have hp := g.get 0 rfl;have hc := g.get 1 rfl;have hln := (g.row 2 rfl).len;have hst := (g.row 2 rfl).storable;have e0 : putAll (wlE a1 p tab c) [53, 54] [id, x] = [(1, a1), (4, .pointer (some ⟨p, 0, none⟩)), (7, tab), (9, .pointer (some ⟨c, 0, none⟩)), (53, .int .i64 id), (54, .int .i64 x)] := rfl;rw [e0, swashtop_WholeLookups_g1_eq];by_cases h1 : id = 65535
 ·subst h1;refine .inl ⟨_, s, o, l, ?_, g.setBlk 0 rfl ⟨[.bool true], 1, false⟩⟩;simp -implicitDefEqProofs (disch := omega) [hp]
 have h1' : (id == 65535) = false := by simpa using h1
 by_cases h2 : l.length > 200
 ·have h2' : (l.length : Int) > 200 := by omega
  refine .inl ⟨_, s, o, l, ?_, g.setBlk 0 rfl ⟨[.bool true], 1, false⟩⟩;simp -implicitDefEqProofs (disch := omega) [hp, hc, hln, h1', h2']
 have h2' : ¬ (l.length : Int) > 200 := by omega
 obtain ⟨s', o', H1, e1, g1⟩ := g.append1 (bytes := 4) 2 encPr_len rfl (toPr [id, x]) (by omega) (by decide);simp only [List.set_cons_succ, List.set_cons_zero] at g1;have hc1 := g1.get 1 rfl;have st1 := (g1.row 2 rfl).storable;have ce1 := (g1.row 2 rfl).cells;have g2 := g1.setBlk 1 rfl ⟨[s'], 1, false⟩;simp only [List.set_cons_succ, List.set_cons_zero] at g2;refine .inr ⟨s', o', _, ?_, g2, h1, by omega⟩;simp only [toPr, List.getElem?_cons_zero, List.getElem?_cons_succ, Option.getD_some] at e1;simp -implicitDefEqProofs (disch := omega) [hp, hc, hln, h1', h2', e1, hc1, st1, ce1]
theorem wl_rounds (k : Nat) (a1 tab : Value) {H0 : Heap} {p c : Nat} : ∀ (L : List (List Int)) (H : Heap) (s : Value) (o : Option Nat) (l : List Pr), Star H0 H (wlL p c false s o l) → l.length ≤ 201 → (∀ e, e ∈ L → ∃ id x, e = [id, x]) →
  (∃ H' s o l, rangeN (swashtop_WholeLookups_g1 k (R (T k))) [53, 54] (wlE a1 p tab c) L H = .ok (.ret, wlE a1 p tab c) H' ∧ Star H0 H' (wlL p c true s o l)) ∨
  (∃ s' o' H', rangeN (swashtop_WholeLookups_g1 k (R (T k))) [53, 54] (wlE a1 p tab c) L H = .ok (.normal, wlE a1 p tab c) H' ∧ Star H0 H' (wlL p c false s' o' (l ++ L.map toPr)) ∧ (∀ e, e ∈ L → e[0]?.getD 0 ≠ 65535) ∧ (l ++ L.map toPr).length ≤ 201)
 | [], H, s, o, l, g, hl, _ => .inr ⟨s, o, H, rfl, by simpa using g, fun e he => (by cases he), by simpa using hl⟩
 | e :: L, H, s, o, l, g, hl, hL => by
  obtain ⟨id, x, rfl⟩ := hL e (by simp);unfold rangeN;rcases wl_round k a1 tab g hl id x with ⟨H', s', o', l', h1, g'⟩ | ⟨s', o', H', h1, g', h2, h3⟩
  ·refine .inl ⟨H', s', o', l', ?_, g'⟩;simp only [List.length_cons, List.length_nil, Nat.beq_refl, cond_true, h1, Res.bind_ok]
  ·simp only [List.length_cons, List.length_nil, Nat.beq_refl, cond_true, h1, Res.bind_ok];have := wl_rounds k a1 tab L H' s' o' (l ++ [toPr [id, x]]) g' (by simp; omega) fun e he => hL e (by simp [he]);rw [List.append_assoc] at this;rcases this with h | ⟨s2, o2, H2, e1, e2, e3, e4⟩
   ·exact .inl h
   ·refine .inr ⟨s2, o2, H2, e1, e2, fun e he => ?_, e4⟩;rcases List.mem_cons.1 he with rfl | hm
    ·simpa using h2
    ·exact e3 e hm
def FormW (k : Nat) (x : Int × List Pt) (v : Value) : Prop := ∃ y : Int × List Pt, (∀ H, R (T k) F.lookup_Read [v, .int .i64 40, .int .i64 2] H = .ok (.tuple #[tabV y, .int .i64 0]) H) ∧ (∀ H, R (T k) F.lookup_Table_Most [tabV y] H = .ok (.int .i64 (mostS x.2)) H) ∧
 ∀ i H, R (T k) F.lookup_Table_Get [tabV y, .int .i64 i] H = .ok (.tuple #[.int .i64 ((getS x.2 i).getD 0), .bool (getS x.2 i).isSome]) H
theorem formW_of (k : Nat) (x : Int × List Pt) {r : List Pr} (hok : ∀ p, p ∈ r → p.ok) (hr : RiseTo r 65535) (hl : r.length ≤ 1000) (hm : mostS (r.map Pr.pt) = mostS x.2) (hg : ∀ i, wantS r i = getS x.2 i) {b : List Int} {fmt : Int} (hb : Byt b) (hbl : b.length < 2 ^ 31) (h : lookS b 40 2 = some (fmt, r.map Pr.pt)) : FormW k x (lv encB b) := by
 refine ⟨(fmt, r.map Pr.pt), fun H => ?_, fun H => ?_, fun i H => ?_⟩
 ·rw [lookRead_run k (Sl.lv H 1 b) hb 40 2 hbl];unfold lookO lookN;rw [show badS 40 2 = false from rfl, h];rfl
 ·rw [Most_run k (fmt, r.map Pr.pt) (pts_ok hok) (by simp; omega) H, hm]
 ·rw [Get_run k (fmt, r.map Pr.pt) (pts_ok hok) (rise_pts hr) i (by simp; omega) H, get_pts hr, hg]
theorem wl_l3 (k : Nat) (id : Int) (a4 a9 a71 a72 tx ty : Value) (H : Heap) (f : Int → Option Int) (hx : ∀ i H, R (T k) F.lookup_Table_Get [tx, .int .i64 i] H = .ok (.tuple #[.int .i64 ((f i).getD 0), .bool (f i).isSome]) H) (hy : ∀ i H, R (T k) F.lookup_Table_Get [ty, .int .i64 i] H = .ok (.tuple #[.int .i64 ((f i).getD 0), .bool (f i).isSome]) H) :
  ∃ a, loopN (swashtop_WholeLookups_l3 k (R (T k))) loopFuel [(1, .int .i64 id), (4, a4), (7, tx), (9, a9), (14, ty), (16, .int .i64 (-1)), (71, a71), (72, a72)] H = .ok (.exit 4, [(1, .int .i64 id), (4, a4), (7, tx), (9, a9), (14, ty), (16, .int .i64 60), (71, a71), (72, a72), (107, a)]) H := by
 obtain ⟨y, e', H1, h1, rfl, rfl, a, rfl⟩ := loop_up (body := swashtop_WholeLookups_l3 k (R (T k))) 61
  (fun j e H' => H' = H ∧ e = [(1, .int .i64 id), (4, a4), (7, tx), (9, a9), (14, ty), (16, .int .i64 ((j : Int) - 1)), (71, a71), (72, a72)])
  (fun y e H' => H' = H ∧ y = .exit 4 ∧ ∃ a, e = [(1, .int .i64 id), (4, a4), (7, tx), (9, a9), (14, ty), (16, .int .i64 60), (71, a71), (72, a72), (107, a)])
  (e0 := [(1, .int .i64 id), (4, a4), (7, tx), (9, a9), (14, ty), (16, .int .i64 (-1)), (71, a71), (72, a72)]) (H0 := H) ⟨rfl, rfl⟩ (by omega)
  (fun j e H' hj ⟨hH, he⟩ => by
   subst he hH;have hlt : (j : Int) - 1 < 60 := by omega
   refine .inl ⟨_, _, ?_, rfl, rfl⟩;rw [swashtop_WholeLookups_l3_eq, show ((j + 1 : Nat) : Int) - 1 = (j : Int) - 1 + 1 by omega];simp -implicitDefEqProofs (disch := omega) [hlt, hx, hy, bne])
  (fun e H' ⟨hH, he⟩ => by
   subst he hH;refine ⟨.exit 4, _, _, ?_, by simp, rfl, rfl, .bool false, rfl⟩;rw [swashtop_WholeLookups_l3_eq];simp -implicitDefEqProofs (disch := omega))
 exact ⟨a, h1⟩
set_option maxHeartbeats 1000000 in
theorem wl_tail (k : Nat) (id : Int) (x : Int × List Pt) (hok : ∀ p, p ∈ x.2 → p.ok) (hr : risesS x.2 = true) (hl : x.2.length < 2 ^ 31) (hlen : ∀ p, p ∈ x.2 → (p.vals.length : Int) ≤ p.last - p.first + 1) {H0 H : Heap} {p c : Nat} {s : Value} {o : Option Nat} {r : List Pr} (hrE : r = (x.2.flatMap ptL).map toPr)
  (hne : ∀ e, e ∈ x.2.flatMap ptL → e[0]?.getD 0 ≠ 65535) (hrl : r.length ≤ 201) (g : Star H0 H (wlL p c false s o r)) :
  ∃ H', swashtop_WholeLookups_g1k k (R (T k)) .normal (wlE (.int .i64 id) p (tabV x) c) H = .ok (.bool true) H' ∧ Ext H0 H' := by
 have hp := g.get 0 rfl;have hc := g.get 1 rfl;have hln := (g.row 2 rfl).len;have hrok : ∀ p, p ∈ r → p.ok := fun p hp => by
  rw [hrE] at hp;obtain ⟨e, _, rfl⟩ := List.mem_map.1 hp;exact toPr_ok e
 have hF := Forms_runS k H r ((g.row 2 rfl).sl encPr_len) (by omega) hrok;have hget := fun id H' => Get_run k x hok hr id hl H';have hmost := fun H' => Most_run k x hok hl H';have hsk : ∀ j : Nat, j < 4 → (j = 3 ∧ (r.length : Int) > 1) ∨ mostS x.2 > 65535 ∨ ∃ v, FormW k x v ∧ (#[lv encB (twoS r), lv encB (fourS r), lv encB (sixS 2 r), lv encB (eightS r)][j]? = some v) ∧ ¬ (j = 3 ∧ (r.length : Int) > 1) := fun j hj => by
  by_cases hm : mostS x.2 > 65535
  ·exact .inr (.inl hm)
  have hx : ∀ p, p ∈ x.2 → ∀ y, y ∈ p.vals → y < 65536 := fun p hp y hy => by
   have := ((mostS_le x.2 65535).1 (by omega)).2 p hp y hy;omega
  have hrise : RiseTo r 65535 := by rw [hrE]; exact rising_rise (by decide) (rising_tab hok hr) hne
  have hm2 : mostS (r.map Pr.pt) = mostS x.2 := by rw [hrE]; exact most_pairs hok hr hlen hx
  have hg2 : ∀ i, wantS r i = getS x.2 i := fun i => by rw [hrE]; exact want_get hok hr hne hx i
  have f2 := formW_of k x hrok hrise (by omega) hm2 hg2 (twoS_byt r) (by rw [twoS_len]; omega) (two_look hrok hrise (by omega) 40);have f4 := formW_of k x hrok hrise (by omega) hm2 hg2 (fourS_byt r) (by have := fourS_len r; omega) (four_look hrok hrise (by omega) 40);have f6 := formW_of k x hrok hrise (by omega) hm2 hg2 (sixS_byt 2 r) (by rw [sixS_len]; omega) (six_look 2 (.inl rfl) hrok hrise (by omega) 40);have f8 : ¬ r.length > 1 → FormW k x (lv encB (eightS r)) := fun h => formW_of k x hrok hrise (by omega) hm2 hg2 (eightS_byt r) (by have := eightS_len r; omega) (eight_look hrok (by omega) 40)
  match j, hj with
  | 0, _ => exact .inr (.inr ⟨_, f2, rfl, by omega⟩)
  | 1, _ => exact .inr (.inr ⟨_, f4, rfl, by omega⟩)
  | 2, _ => exact .inr (.inr ⟨_, f6, rfl, by omega⟩)
  | 3, _ =>
   by_cases h : r.length > 1
   ·exact .inl ⟨rfl, by omega⟩
   ·exact .inr (.inr ⟨_, f8 h, rfl, by omega⟩)
 obtain ⟨y, e', H2, hr2, rfl, rfl, b, rfl⟩ := loop_up (body := swashtop_WholeLookups_l2 k (R (T k))) 4
  (fun j e H' => H' = H ∧ e = [(1, .int .i64 id), (4, .pointer (some ⟨p, 0, none⟩)), (7, tabV x), (9, .pointer (some ⟨c, 0, none⟩)), (71, .agg #[lv encB (twoS r), lv encB (fourS r), lv encB (sixS 2 r), lv encB (eightS r)]), (72, .int .i64 j)])
  (fun y e H' => H' = H ∧ y = .exit 2 ∧ ∃ b, e = [(1, .int .i64 id), (4, .pointer (some ⟨p, 0, none⟩)), (7, tabV x), (9, .pointer (some ⟨c, 0, none⟩)), (71, .agg #[lv encB (twoS r), lv encB (fourS r), lv encB (sixS 2 r), lv encB (eightS r)]), (72, .int .i64 4), (73, b)])
  (e0 := [(1, .int .i64 id), (4, .pointer (some ⟨p, 0, none⟩)), (7, tabV x), (9, .pointer (some ⟨c, 0, none⟩)), (71, .agg #[lv encB (twoS r), lv encB (fourS r), lv encB (sixS 2 r), lv encB (eightS r)]), (72, .int .i64 0)]) (H0 := H) ⟨rfl, rfl⟩ (by omega)
  (fun j e H' hj ⟨hH, he⟩ => by
   subst he hH;have hlt : (j : Int) < 4 := by omega
   obtain ⟨v, hv⟩ : ∃ v, #[lv encB (twoS r), lv encB (fourS r), lv encB (sixS 2 r), lv encB (eightS r)][j]? = some v := ⟨_, Array.getElem?_eq_getElem (by simpa using hj)⟩
   have i2 := fun H' => iv1_get (k := .i64) hj hv H';refine .inl ⟨_, _, ?_, rfl, rfl⟩;rw [swashtop_WholeLookups_l2_eq];rcases hsk j hj with ⟨rfl, hgt⟩ | hm | ⟨v', ⟨y, hrd, hmy, hgy⟩, hget', hns⟩
   ·simp -implicitDefEqProofs (disch := omega) at i2;simp -implicitDefEqProofs (disch := omega) [i2, hgt, hc, hln, hmost, swashtop_WholeLookups_j1_eq]
   ·by_cases h3 : j = 3
    ·have h3' : ((j : Int) == 3) = true := by simp; omega
     by_cases hgt : (r.length : Int) > 1
     ·simp -implicitDefEqProofs (disch := omega) [hlt, i2, h3', hgt, hc, hln, hmost, hm, swashtop_WholeLookups_j1_eq]
     ·simp -implicitDefEqProofs (disch := omega) [hlt, i2, h3', hgt, hc, hln, hmost, hm, swashtop_WholeLookups_j1_eq]
    ·have h3' : ((j : Int) == 3) = false := by simp; omega
     simp -implicitDefEqProofs (disch := omega) [hlt, i2, h3', hc, hln, hmost, hm, swashtop_WholeLookups_j1_eq]
   ·rw [hv] at hget'; injection hget' with hget'; subst hget';obtain ⟨a, hin⟩ := wl_l3 k id (.pointer (some ⟨p, 0, none⟩)) (.pointer (some ⟨c, 0, none⟩)) (.agg #[lv encB (twoS r), lv encB (fourS r), lv encB (sixS 2 r), lv encB (eightS r)]) (.int .i64 j) (tabV x) (tabV y) H' (getS x.2) hget hgy;by_cases hm : mostS x.2 > 65535
    ·by_cases h3 : j = 3
     ·have h3' : ((j : Int) == 3) = true := by simp; omega
      have hlen : ¬ (r.length : Int) > 1 := fun h => hns ⟨h3, h⟩;simp -implicitDefEqProofs (disch := omega) [hlt, i2, h3', hlen, hc, hln, hmost, hm, swashtop_WholeLookups_j1_eq]
     ·have h3' : ((j : Int) == 3) = false := by simp; omega
      simp -implicitDefEqProofs (disch := omega) [hlt, i2, h3', hc, hln, hmost, hm, swashtop_WholeLookups_j1_eq]
    by_cases h3 : j = 3
    ·have h3' : ((j : Int) == 3) = true := by simp; omega
     have hlen : ¬ (r.length : Int) > 1 := fun h => hns ⟨h3, h⟩;simp -implicitDefEqProofs (disch := omega) [hlt, i2, h3', hlen, hc, hln, hmost, hm, hrd, hmy, hgy, hget, hin, bne, swashtop_WholeLookups_l3k_x4, swashtop_WholeLookups_j2_eq]
    ·have h3' : ((j : Int) == 3) = false := by simp; omega
     simp -implicitDefEqProofs (disch := omega) [hlt, i2, h3', hc, hln, hmost, hm, hrd, hmy, hgy, hget, hin, bne, swashtop_WholeLookups_l3k_x4, swashtop_WholeLookups_j2_eq])
  (fun e H' ⟨hH, he⟩ => by
   subst he hH;refine ⟨.exit 2, _, _, ?_, by simp, rfl, rfl, .bool false, rfl⟩;rw [swashtop_WholeLookups_l2_eq];simp -implicitDefEqProofs)
 have hp2 := (g.setBlk 0 rfl ⟨[.bool true], 1, false⟩).get 0 rfl;refine ⟨_, ?_, (g.setBlk 0 rfl ⟨[.bool true], 1, false⟩).ext⟩;unfold wlE;rw [swashtop_WholeLookups_g1k_n];simp -implicitDefEqProofs (disch := omega) [hc, hF, hr2, swashtop_WholeLookups_l2k_x2, hp, hp2]
theorem WholeLookups_run (k : Nat) (b : List Int) (hb : Byt b) (id : Int) : R (T k) F.swashtop_WholeLookups [lv encB b, .int .i64 id] Heap.empty = .ok (.bool true) Heap.empty := by
 rw [WholeLookups_R];generalize Heap.empty = H;have hb8 : Byt [0, 8, 0, 5, 0, 1, 0, 7] := by intro x hx; simp at hx; omega
 have hrd8 : ∀ H' v, Sl H' 1 v encB [0, 8, 0, 5, 0, 1, 0, 7] → R (T k) F.lookup_Read [v, .int .i64 10, .int .i64 2] H' = .ok (.tuple #[tabV (8, [⟨5, 5, [7]⟩]), .int .i64 0]) H' := fun H' v hv => by
  rw [lookRead_run k hv hb8 10 2 (by decide)];have : lookS [0, 8, 0, 5, 0, 1, 0, 7] 10 2 = some (8, [⟨5, 5, [7]⟩]) := by rfl
  unfold lookO lookN;rw [show badS 10 2 = false from rfl, this];rfl
 have hm8 : ∀ H', R (T k) F.lookup_Table_Most [tabV (8, [⟨5, 5, [7]⟩])] H' = .ok (.int .i64 7) H' := fun H' => by
  rw [Most_run k (8, [⟨5, 5, [7]⟩]) (fun p hp => by simp at hp; subst hp; exact ⟨by decide, by decide, by decide, by decide, by decide, by simp⟩) (by decide) H'];rfl
 have gA := (Star.nil H).push ⟨[.bool false], 1, false⟩;have gB := gA.rest ((Ext.refl _).push ⟨rows encB [0, 8, 0, 5, 0, 1, 0, 7], 1, false⟩);simp only [List.nil_append] at gB;have s8 : Sl ((H.push ⟨[.bool false], 1, false⟩).push ⟨rows encB [0, 8, 0, 5, 0, 1, 0, 7], 1, false⟩) 1 (.slice (some ⟨H.n + 1, 0, none⟩) 8 8) encB [0, 8, 0, 5, 0, 1, 0, 7] :=
  .inr (.inr ⟨H.n + 1, 0, 8, _, rfl, by decide, by simp; rfl, rfl⟩)
 have r8 := hrd8 _ _ s8;simp only [rows, List.flatMap_cons, List.flatMap_nil, List.append_nil, List.cons_append, List.nil_append] at r8 gB;have hpB := gB.get 0 rfl;have gT := gB.setBlk 0 rfl ⟨[.bool true], 1, false⟩;have hpT := gT.get 0 rfl;by_cases hl : b.length > 100
 ·have hl' : (b.length : Int) > 100 := by omega
  refine nrm_gc ⟨_, ?_, gT.ext⟩ (.bool _);simp -implicitDefEqProofs (disch := omega) [swashtop_WholeLookups, r8, hm8, hl', hpB, hpT]
 have hl' : ¬ (b.length : Int) > 100 := by omega
 have hrd := fun H' => lookRead_run k (H := H') (Sl.lv H' 1 b) hb 40 2 (by omega);have hbad : badS 40 2 = false := by decide
 unfold lookO lookN at hrd;rw [hbad] at hrd;cases h : lookS b 40 2 with
 | none =>
  rw [h] at hrd;simp [lookV] at hrd;refine nrm_gc ⟨_, ?_, gT.ext⟩ (.bool _);simp -implicitDefEqProofs (disch := omega) [swashtop_WholeLookups, r8, hm8, hl', hpB, hpT, hrd]
 | some x =>
  rw [h] at hrd;simp [lookV] at hrd;have hok := lookS_ok hb (by decide) (by decide) (.inl rfl) h;have hpl := lookS_len hb h;obtain ⟨rs, _, hrel⟩ := (look_ref hb (by decide) (by decide) (.inl rfl)).1 x h;have hlens := rel_lens hrel hok.2.1;have hall := fun H' => lookAll_run k x H';have gC := (gB.push ⟨[.slice none 0 0], 1, false⟩).more_row (Ext.refl _) (OwnO.nil encPr _ 2) (fun b hb => by cases hb);have gD := gC.rest ((Ext.refl _).push ⟨[tabV x], 1, false⟩);simp only [List.cons_append, List.nil_append] at gD;have hit := itS_tab x hok.2.1 hpl _ _ (get_push_eq ((((H.push ⟨[.bool false], 1, false⟩).push ⟨[.int .u8 0, .int .u8 8, .int .u8 0, .int .u8 5, .int .u8 0, .int .u8 1, .int .u8 0, .int .u8 7], 1, false⟩).push ⟨[.slice none 0 0], 1, false⟩)) ⟨[tabV x], 1, false⟩ _ rfl);have hEl : ∀ e, e ∈ x.2.flatMap ptL → ∃ id x, e = [id, x] := fun e he => by
   obtain ⟨id, y, h1, _⟩ := rising_mem (by decide) (rising_tab hok.2.1 hok.2.2) e he;exact ⟨id, y, h1⟩
  simp only [Heap.n_push] at gD hit;rcases wl_rounds k (.int .i64 id) (tabV x) (x.2.flatMap ptL) _ _ _ [] gD (by simp) hEl with ⟨H', s', o', l', e1, g'⟩ | ⟨s', o', H', e1, g', hne, hll⟩
  ·have hq := g'.get 0 rfl;refine nrm_gc ⟨H', ?_, g'.ext⟩ (.bool _);simp -implicitDefEqProofs (disch := omega) [swashtop_WholeLookups, r8, hm8, hl', hrd, hall, Heap.n_push];refine Eq.trans (b := ((opt (some (x.2.flatMap ptL)) ((((H.push ⟨[.bool false], 1, false⟩).push ⟨[.int .u8 0, .int .u8 8, .int .u8 0, .int .u8 5, .int .u8 0, .int .u8 1, .int .u8 0, .int .u8 7], 1, false⟩).push ⟨[.slice none 0 0], 1, false⟩).push ⟨[tabV x], 1, false⟩)).bind fun l h => rangeN (swashtop_WholeLookups_g1 k (R (T k))) [53, 54] (wlE (.int .i64 id) H.n (tabV x) (H.n + 1 + 1)) l h).bind fun r57 h58 => swashtop_WholeLookups_g1k k (R (T k)) r57.1 r57.2 h58) (by rw [← hit]; rfl) ?_;simp only [opt, Res.bind_ok];refine (congrArg (fun z : Res (AExit × Env) => z.bind fun r57 h58 => swashtop_WholeLookups_g1k k (R (T k)) r57.1 r57.2 h58) e1).trans ?_;simp only [Res.bind_ok];unfold wlE;rw [swashtop_WholeLookups_g1k_r];simp -implicitDefEqProofs [hq]
  ·obtain ⟨H2, e2, hx2⟩ := wl_tail k id x hok.2.1 hok.2.2 hpl hlens (by simp) hne (by simpa using hll) g';refine nrm_gc ⟨H2, ?_, hx2⟩ (.bool _);simp -implicitDefEqProofs (disch := omega) [swashtop_WholeLookups, r8, hm8, hl', hrd, hall, Heap.n_push];refine Eq.trans (b := ((opt (some (x.2.flatMap ptL)) ((((H.push ⟨[.bool false], 1, false⟩).push ⟨[.int .u8 0, .int .u8 8, .int .u8 0, .int .u8 5, .int .u8 0, .int .u8 1, .int .u8 0, .int .u8 7], 1, false⟩).push ⟨[.slice none 0 0], 1, false⟩).push ⟨[tabV x], 1, false⟩)).bind fun l h => rangeN (swashtop_WholeLookups_g1 k (R (T k))) [53, 54] (wlE (.int .i64 id) H.n (tabV x) (H.n + 1 + 1)) l h).bind fun r57 h58 => swashtop_WholeLookups_g1k k (R (T k)) r57.1 r57.2 h58) (by rw [← hit]; rfl) ?_;simp only [opt, Res.bind_ok];refine (congrArg (fun z : Res (AExit × Env) => z.bind fun r57 h58 => swashtop_WholeLookups_g1k k (R (T k)) r57.1 r57.2 h58) e1).trans ?_;simp only [Res.bind_ok];exact e2
theorem WholeLookups_args (vs : List Value) (h : ArgsLay [.one (.slice [.int .u8]), .one (.int .i64)] vs) : ∃ H', R (T 0) F.swashtop_WholeLookups vs Heap.empty = .ok (.bool true) H' := by
 obtain ⟨v1, _, rfl, h1, h⟩ := h.head;obtain ⟨v2, _, rfl, h2, h⟩ := h.head;obtain rfl := h.done;obtain ⟨b, rfl, hb⟩ := arg_B h1;obtain ⟨id, rfl, _⟩ := arg_i h2;exact ⟨_, WholeLookups_run 0 b hb id⟩
end Go.Sw
end
