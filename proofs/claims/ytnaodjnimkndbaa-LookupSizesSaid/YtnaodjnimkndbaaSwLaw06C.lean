/-
  Pairs, as lookups of each form.
-/
import Derived.Test.YtnaodjnimkndbaaSwLaw06B
namespace Go.Sw
open Go.RowKit

theorem fourRows_snoc (p : Pr) : ∀ (l : List Pr) (a : Int), fourRows a (l ++ [p]) = fourRows a l ++ [fourRow p (a + 2 * l.length)]
  | [], a => by simp [fourRows]
  | q :: l, a => by
    rw [List.cons_append, fourRows, fourRows_snoc p l (a + 2), fourRows, List.cons_append]
    congr 4
    simp; omega
theorem valS_snoc (l : List Pr) (p : Pr) : valS (l ++ [p]) = valS l ++ bytesOf p.x 2 := by simp [valS]
theorem take_snoc {α : Type} {l : List α} {j : Nat} {p : α} (h : l[j]? = some p) : l.take (j + 1) = l.take j ++ [p] := by
  rw [List.take_add_one, h]; rfl
theorem flat_take_len (f : Pr → List Int) (l : List Pr) (j m : Nat) (hf : ∀ p, (f p).length = m) : (((l.take j).map f).flatten).length ≤ l.length * m := by
  rw [flat_len (z := m) (fun r hr => by obtain ⟨p, _, rfl⟩ := List.mem_map.1 hr; exact hf p)]
  exact Nat.mul_le_mul_right _ (by simp; omega)
theorem four_take_len (l : List Pr) (j : Nat) (a : Int) : ((fourRows a (l.take j)).flatten).length ≤ l.length * 6 := by
  have hm : ∀ (l : List Pr) (a : Int) r, r ∈ fourRows a l → r.length = 6 := by
    intro l
    induction l with
    | nil => intro a r h; cases h
    | cons p l ih =>
      intro a r h
      rcases List.mem_cons.1 h with rfl | h
      · simp [fourRow]
      · exact ih _ r h
  rw [flat_len (z := 6) (hm _ _), fourRows_len]
  exact Nat.mul_le_mul_right _ (by simp; omega)

/-- A head, and a row behind it. -/
theorem head_app (k : Nat) {H0 H : Heap} {L : List It} (h : Star H0 H L) (fmt z n : Int) (h1 : 0 ≤ fmt ∧ fmt < 65536) (h2 : 0 ≤ z ∧ z < 65536) (h3 : 0 ≤ n ∧ n < 65536) (j : Nat) {o : Option Nat} {s : Value} {l : List Int} (hj : L[j]? = some (itRow o 1 s encB l)) (hl : l.length < 2 ^ 30) :
    ∃ s1 H1 s2 o2 H2, R (T k) F.swashlaw06_head [.int .i64 fmt, .int .i64 z, .int .i64 n] H = .ok s1 H1 ∧ apR 1 1 s1 s H1 = .ok s2 H2 ∧ Star H0 H2 (L ++ [itRow o2 1 s2 encB (headS fmt z n ++ l)]) := by
  obtain ⟨s1, o1, H1, e1, g⟩ := head_star k h fmt z n h1 h2 h3
  have hjl := (List.getElem?_eq_some_iff.1 hj).1
  obtain ⟨s2, o2, H2, e2, g⟩ := g.appendRow (bytes := 1) L.length j encB_len (list_at_end _) (by rw [List.getElem?_append_left hjl]; exact hj) (by simp; omega) (by decide)
  rw [set_at_end] at g
  exact ⟨s1, H1, s2, o2, H2, e1, e2, g⟩

theorem eightS_ne {l : List Pr} (h : l.length ≠ 1) : eightS l = bytesOf 8 2 ++ (bytesOf 0 2 ++ (bytesOf 0 2 ++ [])) := by
  match l, h with
  | [], _ => rfl
  | [p], h => exact absurd rfl h
  | _ :: _ :: _, _ => rfl

theorem forms_end (k : Nat) {H H1 : Heap} (l : List Pr) (hl : l.length ≤ 1000) {K : Blk} {o2 o4 o6 ov o8 : Option Nat} {s2 s4 s6 sv s8 x : Value} {M : List It} (m : Nat) (hm : M[m]? = some (itRow o8 1 s8 encB (eightS l))) (hK : K.cells.length = 4)
    (g : Star H H1 (itBlk H.n K :: itRow o2 1 s2 encB (l.map twoRow).flatten :: itRow o4 1 s4 encB (fourRows (12 + 6 * l.length) l).flatten :: itRow o6 1 s6 encB (l.map (sixRow 2)).flatten :: itRow ov 1 sv encB (valS l) :: M)) (hro : K.ro = false) :
    ∃ v H' L, swashlaw06_Forms_j2 k (R (T k)) (lv encPr l) (.pointer (some ⟨H.n, 0, none⟩)) s2 s4 s6 sv s8 x H1 = .ok v H' ∧ fzV H.n H' fzDepth v = some (.agg #[lv encB (twoS l), lv encB (fourS l), lv encB (sixS 2 l), lv encB (eightS l)], L) ∧ Ext H H' := by
  have l2 := flat_take_len twoRow l l.length 6 (fun p => by simp [twoRow])
  have l4 := four_take_len l l.length (12 + 6 * l.length)
  have l6 := flat_take_len (sixRow 2) l l.length 4 (fun p => by simp [sixRow])
  have l8 := flat_take_len (fun p => bytesOf p.x 2) l l.length 2 (fun p => by simp)
  rw [List.take_length] at l2 l4 l6 l8
  obtain ⟨a1, K1, t1, u1, J1, e1, f1, g⟩ := head_app k g 2 6 l.length (by omega) (by omega) (by omega) 1 rfl (by omega)
  obtain ⟨a2, K2, e2', g2⟩ : ∃ a2 K2, R (T k) F.swashlaw06_head [.int .i64 4, .int .i64 6, .int .i64 l.length] J1 = .ok a2 K2 ∧ ∃ o, Star H K2 (((itBlk H.n K :: itRow o2 1 s2 encB (l.map twoRow).flatten :: itRow o4 1 s4 encB (fourRows (12 + 6 * l.length) l).flatten :: itRow o6 1 s6 encB (l.map (sixRow 2)).flatten :: itRow ov 1 sv encB (valS l) :: M) ++ [itRow u1 1 t1 encB (headS 2 6 l.length ++ (l.map twoRow).flatten)]) ++ [itRow o 1 a2 encB (headS 4 6 l.length)]) := by
    obtain ⟨s, o, K2, e, g⟩ := head_star k g 4 6 l.length (by omega) (by omega) (by omega)
    exact ⟨s, K2, e, o, g⟩
  obtain ⟨oa, g⟩ := g2
  obtain ⟨t2, u2, J2, f2, g⟩ := g.appendRow (bytes := 1) _ 2 encB_len (list_at_end _) rfl (by simp only [headS_len]; omega) (by decide)
  rw [set_at_end] at g
  obtain ⟨t3, u3, J3, f3, g⟩ := g.appendRow (bytes := 1) _ 4 encB_len (list_at_end _) rfl (by simp only [List.length_append, headS_len]; unfold valS; omega) (by decide)
  rw [set_at_end] at g
  obtain ⟨a4, K4, t4, u4, J4, e4, f4, g⟩ := head_app k g 6 4 l.length (by omega) (by omega) (by omega) 3 rfl (by omega)
  have hget := g.get 0 rfl
  have hne : J4.n ≠ H.n := by have := Heap.get_lt hget; omega
  obtain ⟨kc, ke, kr⟩ := K
  dsimp only at hro hK
  subst hro
  obtain ⟨c1, c2, c3, c4, rfl⟩ : ∃ c1 c2 c3 c4, kc = [c1, c2, c3, c4] := by
    match kc, hK with
    | [c1, c2, c3, c4], _ => exact ⟨c1, c2, c3, c4, rfl⟩
  have g := g.setBlk 0 rfl ⟨[t1, t3, t4, s8], ke, false⟩
  have hget2 := g.get 0 rfl
  have hd : ∀ (x y z : It), (((((itBlk H.n ⟨[t1, t3, t4, s8], ke, false⟩ :: itRow o2 1 s2 encB (l.map twoRow).flatten :: itRow o4 1 s4 encB (fourRows (12 + 6 * l.length) l).flatten :: itRow o6 1 s6 encB (l.map (sixRow 2)).flatten :: itRow ov 1 sv encB (valS l) :: M) ++ [x]) ++ [y]) ++ [z])[m + 5]? = some (itRow o8 1 s8 encB (eightS l))) := fun x y z => by
    have hml := (List.getElem?_eq_some_iff.1 hm).1
    rw [List.getElem?_append_left (by simp; omega), List.getElem?_append_left (by simp; omega), List.getElem?_append_left (by simp; omega)]
    simpa using hm
  obtain ⟨M1, z1⟩ := g.fzRow (M.length + 5) encB_len (by simp; rfl) (fun n _ v hv => by simp at hv; subst hv; trivial) 5
  obtain ⟨M2, z2⟩ := g.fzRow (M.length + 6) encB_len (by simp; rfl) (fun n _ v hv => by simp at hv; subst hv; trivial) 5
  obtain ⟨M3, z3⟩ := g.fzRow (M.length + 7) encB_len (by simp; rfl) (fun n _ v hv => by simp at hv; subst hv; trivial) 5
  obtain ⟨M4, z4⟩ := g.fzRow (m + 5) encB_len (hd _ _ _) (fun n _ v hv => by simp at hv; subst hv; trivial) 5
  rw [show headS 2 6 (l.length : Int) ++ (l.map twoRow).flatten = twoS l by simp [twoS]] at z1
  rw [show headS 4 6 (l.length : Int) ++ ((fourRows (12 + 6 * (l.length : Int)) l).flatten ++ valS l) = fourS l from rfl] at z2
  rw [show headS 6 4 (l.length : Int) ++ (l.map (sixRow 2)).flatten = sixS 2 l by simp [sixS]] at z3
  have st1 := (g.row (M.length + 5) (enc := encB) (by simp; rfl)).storable
  have st2 := (g.row (M.length + 6) (enc := encB) (by simp; rfl)).storable
  have st3 := (g.row (M.length + 7) (enc := encB) (by simp; rfl)).storable
  have st4 := (g.row (m + 5) (hd _ _ _)).storable
  have ce1 := (g.row (M.length + 5) (enc := encB) (by simp; rfl)).cells
  have ce2 := (g.row (M.length + 6) (enc := encB) (by simp; rfl)).cells
  have ce3 := (g.row (M.length + 7) (enc := encB) (by simp; rfl)).cells
  have ce4 := (g.row (m + 5) (hd _ _ _)).cells
  refine ⟨.agg #[t1, t3, t4, s8], _, _, ?_, fz_agg (mapF_cons z1 (mapF_cons z2 (mapF_cons z3 (mapF_cons z4 mapF_nil)))), g.ext⟩
  rw [swashlaw06_Forms_j2_eq]
  simp -implicitDefEqProofs (disch := omega) [e1, f1, e2', f2, f3, e4, f4, hget, hget2, st1, st2, st3, st4, ce1, ce2, ce3, ce4]

theorem Flat.forms (l : List Pr) : Flat (.agg #[Go.Sw.lv encB (twoS l), Go.Sw.lv encB (fourS l), Go.Sw.lv encB (sixS 2 l), Go.Sw.lv encB (eightS l)]) := .aggL (.cons (.B _) (.cons (.B _) (.cons (.B _) (.cons (.B _) .nil))))
theorem Forms_run (k : Nat) (H : Heap) (l : List Pr) (hl : l.length ≤ 1000) (hok : ∀ p, p ∈ l → p.ok) :
    R (T k) F.swashlaw06_Forms [lv encPr l] H = .ok (.agg #[lv encB (twoS l), lv encB (fourS l), lv encB (sixS 2 l), lv encB (eightS l)]) H := by
  rw [swashlaw06_Forms_R]
  have g0 := (((((Star.nil H).push ⟨[.slice none 0 0, .slice none 0 0, .slice none 0 0, .slice none 0 0], 1, false⟩).more_row (Ext.refl _) (OwnO.nil encB _ 1) (fun b hb => by cases hb)).more_row (Ext.refl _) (OwnO.nil encB _ 1) (fun b hb => by cases hb)).more_row (Ext.refl _) (OwnO.nil encB _ 1) (fun b hb => by cases hb)).more_row (Ext.refl _) (OwnO.bare encB _ 1) (fun b hb => by cases hb)
  obtain ⟨x, e', H1, hr, rfl, s2, s4, s6, sv, o2, o4, o6, ov, rfl, g1⟩ := loop_up (body := swashlaw06_Forms_l1 k (R (T k))) l.length
    (fun j e H' => ∃ s2 s4 s6 sv o2 o4 o6 ov, e = [(0, lv encPr l), (2, .pointer (some ⟨H.n, 0, none⟩)), (3, s2), (4, s4), (5, s6), (6, sv), (7, .int .i64 (12 + 6 * l.length)), (18, lv encPr l), (19, .int .i64 l.length), (20, .int .i64 j)] ∧
      Star H H' [itBlk H.n ⟨[.slice none 0 0, .slice none 0 0, .slice none 0 0, .slice none 0 0], 1, false⟩, itRow o2 1 s2 encB ((l.take j).map twoRow).flatten, itRow o4 1 s4 encB (fourRows (12 + 6 * l.length) (l.take j)).flatten, itRow o6 1 s6 encB ((l.take j).map (sixRow 2)).flatten, itRow ov 1 sv encB (valS (l.take j))])
    (fun x e H' => x = .exit 0 ∧ ∃ s2 s4 s6 sv o2 o4 o6 ov, e = [(0, lv encPr l), (2, .pointer (some ⟨H.n, 0, none⟩)), (3, s2), (4, s4), (5, s6), (6, sv), (7, .int .i64 (12 + 6 * l.length)), (18, lv encPr l), (19, .int .i64 l.length), (20, .int .i64 l.length), (21, .bool false)] ∧
      Star H H' [itBlk H.n ⟨[.slice none 0 0, .slice none 0 0, .slice none 0 0, .slice none 0 0], 1, false⟩, itRow o2 1 s2 encB (l.map twoRow).flatten, itRow o4 1 s4 encB (fourRows (12 + 6 * l.length) l).flatten, itRow o6 1 s6 encB (l.map (sixRow 2)).flatten, itRow ov 1 sv encB (valS l)])
    (e0 := [(0, lv encPr l), (2, .pointer (some ⟨H.n, 0, none⟩)), (3, .slice none 0 0), (4, .slice none 0 0), (5, .slice none 0 0), (6, bareV), (7, .int .i64 (12 + 6 * l.length)), (18, lv encPr l), (19, .int .i64 l.length), (20, .int .i64 0)])
    (H0 := H.push ⟨[.slice none 0 0, .slice none 0 0, .slice none 0 0, .slice none 0 0], 1, false⟩)
    ⟨_, _, _, _, _, _, _, _, rfl, by simpa [fourRows, valS] using g0⟩ (by omega)
    (fun j e H' hj ⟨s2, s4, s6, sv, o2, o4, o6, ov, he, g⟩ => by
      subst he
      have hlt : (j : Int) < l.length := by omega
      obtain ⟨p, hp⟩ : ∃ p, l[j]? = some p := ⟨_, List.getElem?_eq_getElem hj⟩
      obtain ⟨q1, q2, q3, q4⟩ := hok p (List.mem_of_getElem? hp)
      have i1 := fun H' => ixS_lvN encPr_len l .i64 j p hp H'
      have l2 := flat_take_len twoRow l j 6 (fun p => by simp [twoRow])
      have l4 := four_take_len l j (12 + 6 * l.length)
      have l6 := flat_take_len (sixRow 2) l j 4 (fun p => by simp [sixRow])
      have l8 := flat_take_len (fun p => bytesOf p.x 2) l j 2 (fun p => by simp)
      have g := g.rest ((Ext.refl H').push ⟨[.int .u16 p.id, .int .u16 p.x], 1, false⟩)
      have w1 : IntKind.i64.wrap p.id = p.id := wrap_i64 (by omega) (by omega)
      have w2 : IntKind.i64.wrap p.x = p.x := wrap_i64 (by omega) (by omega)
      obtain ⟨t1, u1, H1, e1, g⟩ := Put_star k g 1 rfl p.id 2 2 rfl q1 (by omega) (by decide) (by omega)
      obtain ⟨t2, u2, H2, e2, g⟩ := Put_star k g 1 rfl p.id 2 2 rfl q1 (by omega) (by decide) (by simp only [List.length_append, bytesOf_len]; omega)
      obtain ⟨t3, u3, H3, e3, g⟩ := Put_star k g 1 rfl p.x 2 2 rfl q3 (by omega) (by decide) (by simp only [List.length_append, bytesOf_len]; omega)
      obtain ⟨t4, u4, H4, e4, g⟩ := Put_star k g 2 rfl p.id 2 2 rfl q1 (by omega) (by decide) (by omega)
      obtain ⟨t5, u5, H5, e5, g⟩ := Put_star k g 2 rfl p.id 2 2 rfl q1 (by omega) (by decide) (by simp only [List.length_append, bytesOf_len]; omega)
      obtain ⟨t6, u6, H6, e6, g⟩ := Put_star k g 2 rfl (12 + 6 * l.length + 2 * j) 2 2 rfl (by omega) (by omega) (by decide) (by simp only [List.length_append, bytesOf_len]; omega)
      obtain ⟨t7, u7, H7, e7, g⟩ := Put_star k g 3 rfl p.id 2 2 rfl q1 (by omega) (by decide) (by omega)
      obtain ⟨t8, u8, H8, e8, g⟩ := Put_star k g 3 rfl p.x 2 2 rfl q3 (by omega) (by decide) (by simp only [List.length_append, bytesOf_len]; omega)
      obtain ⟨t9, u9, H9, e9, g⟩ := Put_star k g 4 rfl p.x 2 2 rfl q3 (by omega) (by decide) (by unfold valS; omega)
      refine .inl ⟨_, H9, ?_, t3, t6, t8, t9, u3, u6, u8, u9, rfl, ?_⟩
      · rw [swashlaw06_Forms_l1_eq]
        simp -implicitDefEqProofs (disch := omega) [hlt, i1, w1, w2, e1, e2, e3, e4, e5, e6, e7, e8, e9]
      · have hlen : (l.take j).length = j := by simp; omega
        rw [take_snoc hp, valS_snoc, fourRows_snoc, hlen]
        simpa [twoRow, sixRow, fourRow] using g)
    (fun e H' ⟨s2, s4, s6, sv, o2, o4, o6, ov, he, g⟩ => by
      subst he
      refine ⟨.exit 0, _, H', ?_, by simp, rfl, s2, s4, s6, sv, o2, o4, o6, ov, rfl, by simpa using g⟩
      rw [swashlaw06_Forms_l1_eq]
      simp -implicitDefEqProofs)
  have l8 : (valS l).length ≤ l.length * 2 := by
    have := flat_take_len (fun p => bytesOf p.x 2) l l.length 2 (fun p => by simp)
    rwa [List.take_length] at this
  have g := g1.more_row (Ext.refl _) (OwnO.nil encB _ 1) (fun b hb => by cases hb)
  obtain ⟨t1, u1, K1, e1, g⟩ := Put_star k g 5 rfl 8 2 2 rfl (by decide) (by decide) (by decide) (by simp)
  obtain ⟨t2, u2, K2, e2, g⟩ := Put_star k g 5 rfl 0 2 2 rfl (by decide) (by decide) (by decide) (by simp)
  obtain ⟨t3, u3, K3, e3, g⟩ := Put_star k g 5 rfl 0 2 2 rfl (by decide) (by decide) (by decide) (by simp)
  by_cases h1 : l.length = 1
  · obtain ⟨p, rfl⟩ := List.length_eq_one_iff.1 h1
    obtain ⟨q1, q2, q3, q4⟩ := hok p (by simp)
    have w1 : IntKind.i64.wrap p.id = p.id := wrap_i64 (by omega) (by omega)
    have w2 : IntKind.i64.wrap p.x = p.x := wrap_i64 (by omega) (by omega)
    have i1 := fun H' => ixS_lvN encPr_len [p] .i64 0 p rfl H'
    have g := g.more_row (Ext.refl _) (OwnO.nil encB _ 1) (fun b hb => by cases hb)
    obtain ⟨t4, u4, K4, e4, g⟩ := Put_star k g 6 rfl 8 2 2 rfl (by decide) (by decide) (by decide) (by simp)
    obtain ⟨t5, u5, K5, e5, g⟩ := Put_star k g 6 rfl p.id 2 2 rfl q1 (by omega) (by decide) (by simp)
    obtain ⟨t6, u6, K6, e6, g⟩ := Put_star k g 6 rfl 1 2 2 rfl (by decide) (by decide) (by decide) (by simp)
    obtain ⟨t7, u7, K7, e7, g⟩ := Put_star k g 6 rfl p.x 2 2 rfl q3 (by omega) (by decide) (by simp)
    obtain ⟨v, H', L, r1, r2, r3⟩ := forms_end k [p] (by simp) (x := .bool true) 1 (by simp [eightS]; rfl) rfl g rfl
    refine nrm_fz (v := v) (H' := H') ?_ r2 r3 (Flat.forms _).alive
    simp at i1 hr
    simp -implicitDefEqProofs (disch := omega) [swashlaw06_Forms, hr, swashlaw06_Forms_l1k_x0, e1, e2, e3, e4, e5, e6, e7, i1, w1, w2]
    rw [← r1, swashlaw06_Forms_j1_eq, swashlaw06_Forms_j2_eq]
  · obtain ⟨v, H', L, r1, r2, r3⟩ := forms_end k l hl (x := .bool false) 0 (by rw [eightS_ne h1]; simp; rfl) rfl g rfl
    refine nrm_fz (v := v) (H' := H') ?_ r2 r3 (Flat.forms _).alive
    have h1' : ((l.length : Int) == 1) = false := by rw [beq_eq_false_iff_ne]; omega
    simp -implicitDefEqProofs (disch := omega) [swashlaw06_Forms, hr, swashlaw06_Forms_l1k_x0, e1, e2, e3, h1', r1]
end Go.Sw
