/-
  Pairs by rising glyphs; heads.
-/
import Derived.Test.YtnaodjnimkndbaaSwLaw06A
import Derived.Test.YtnaodjnimkndbaaSwRef2
namespace Go.Sw
open Go.RowKit

abbrev encPr (p : Pr) : List Value := [.int .u16 p.id, .int .u16 p.x]
theorem encPr_len (p : Pr) : (encPr p).length = 2 := rfl
theorem encPr_still (l : List Pr) : ∀ p, p ∈ l → ∀ v, v ∈ encPr p → Still v := fun p _ v hv => by
  simp [encPr] at hv
  rcases hv with rfl | rfl <;> trivial
theorem Flat.Prs (l : List Pr) : Flat (Go.Sw.lv encPr l) := .lv fun p _ => .cons (.int _ _) (.cons (.int _ _) .nil)

theorem RiseTo.snoc {l : List Pr} {n : Int} (h : RiseTo l n) (p : Pr) (hp : p.id = n) : RiseTo (l ++ [p]) (n + 1) := by
  constructor
  · intro i j a b hij ha hb
    have hj := (List.getElem?_eq_some_iff.1 hb).1
    simp at hj
    rw [List.getElem?_append_left (by omega)] at ha
    by_cases hl : j < l.length
    · rw [List.getElem?_append_left hl] at hb
      exact h.1 i j a b hij ha hb
    · have : j = l.length := by omega
      subst this
      simp at hb
      subst hb
      have := h.2 a (List.mem_of_getElem? ha)
      omega
  · intro q hq
    rcases List.mem_append.1 hq with hq | hq
    · have := h.2 q hq; omega
    · simp at hq; subst hq; omega
theorem RiseTo.up {l : List Pr} {n : Int} (h : RiseTo l n) : RiseTo l (n + 1) := ⟨h.1, fun p hp => by have := h.2 p hp; omega⟩
theorem count_up (l : List Pr) (n : Int) : l.countP (fun p => decide (p.id < n + 1)) = l.countP (fun p => decide (p.id < n)) + l.countP (fun p => decide (p.id = n)) := by
  induction l with
  | nil => rfl
  | cons p l ih =>
    simp only [List.countP_cons, ih, decide_eq_true_eq]
    split <;> split <;> split <;> omega
theorem count_pos {l : List Pr} {n : Int} {p : Pr} (hp : p ∈ l) (h : p.id = n) : 1 ≤ l.countP (fun p => decide (p.id = n)) := by
  have : 0 < l.countP (fun p => decide (p.id = n)) := List.countP_pos_iff.2 ⟨p, hp, by simpa using h⟩
  omega

theorem rising_in (k : Nat) {H H1 : Heap} (l : List Pr) (hl : l.length ≤ 1000) (hok : ∀ p, p ∈ l → p.ok) (out : List Pr) (hout : ∀ p, p ∈ out → p.ok) (id : Int) (h0 : 0 ≤ id) (hid : id < 65535) (s : Value) (ho : Own H H1 2 s encPr out) (hx : Ext H H1) (hr : RiseTo out id) (hc : out.length ≤ l.countP fun p => decide (p.id < id)) :
    ∃ s' out' H2 a, loopN (swashlaw06_rising_l2 k (R (T k))) loopFuel [(0, lv encPr l), (3, s), (4, .int .i64 id), (7, .int .i64 id), (10, lv encPr l), (11, .int .i64 l.length), (12, .int .i64 0)] H1 =
      .ok (.exit 2, [(0, lv encPr l), (3, s'), (4, .int .i64 id), (7, .int .i64 id), (10, lv encPr l), (11, .int .i64 l.length), (12, .int .i64 l.length), (13, a)]) H2 ∧
      Own H H2 2 s' encPr out' ∧ Ext H H2 ∧ (out' = out ∨ ∃ p, p ∈ l ∧ p.id = id ∧ out' = out ++ [p]) := by
  have hpbT : ∀ p : Pr, p.id = id → (p.id == id) = true := fun p h => by simpa using h
  have hcl : l.countP (fun p => decide (p.id < id)) ≤ l.length := List.countP_le_length
  obtain ⟨x, e', H2, hr', s', out', rfl, ⟨a, rfl⟩, q1, q2, q3⟩ := loop_up (body := swashlaw06_rising_l2 k (R (T k))) l.length
    (fun j e H2 => ∃ s' out', e = [(0, lv encPr l), (3, s'), (4, .int .i64 id), (7, .int .i64 id), (10, lv encPr l), (11, .int .i64 l.length), (12, .int .i64 j)] ∧ Own H H2 2 s' encPr out' ∧ Ext H H2 ∧ (out' = out ∨ ∃ p, p ∈ l ∧ p.id = id ∧ out' = out ++ [p]))
    (fun x e H2 => ∃ s' out', x = .exit 2 ∧ (∃ a, e = [(0, lv encPr l), (3, s'), (4, .int .i64 id), (7, .int .i64 id), (10, lv encPr l), (11, .int .i64 l.length), (12, .int .i64 l.length), (13, a)]) ∧ Own H H2 2 s' encPr out' ∧ Ext H H2 ∧ (out' = out ∨ ∃ p, p ∈ l ∧ p.id = id ∧ out' = out ++ [p]))
    (e0 := [(0, lv encPr l), (3, s), (4, .int .i64 id), (7, .int .i64 id), (10, lv encPr l), (11, .int .i64 l.length), (12, .int .i64 0)]) (H0 := H1) ⟨s, out, rfl, ho, hx, .inl rfl⟩ (by omega)
    (fun j e H2 hj ⟨s', out', he, q1, q2, q3⟩ => by
      subst he
      have hlt : (j : Int) < l.length := by omega
      obtain ⟨p, hp⟩ : ∃ p, l[j]? = some p := ⟨_, List.getElem?_eq_getElem hj⟩
      have hpm := List.mem_of_getElem? hp
      have hpo := hok p hpm
      have i1 := fun H' => ixS_lvN encPr_len l .i64 j p hp H'
      have hx2 : Ext H2 (H2.push ⟨[.int .u16 p.id, .int .u16 p.x], 1, false⟩) := (Ext.refl H2).push _
      have hol : out'.length ≤ out.length + 1 := by rcases q3 with h | ⟨_, _, _, h⟩ <;> simp [h]
      have hln := fun H' => q1.len H'
      rw [swashlaw06_rising_l2_eq]
      have hw : IntKind.i64.wrap p.id = p.id := wrap_i64 (by have := hpo.1; omega) (by have := hpo.2.1; omega)
      by_cases hpid : p.id = id
      · by_cases hne : out'.length = 0
        · have : out' = [] := List.length_eq_zero_iff.1 hne
          subst this
          have hout : out = [] := by
            rcases q3 with h | ⟨_, _, _, h⟩
            · exact h.symm
            · simp at h
          subst hout
          obtain ⟨s2, H3, e1, o1, x1⟩ := ap1_own (bytes := 4) encPr_len (q1.up hx2) (q2.trans hx2) p (by simp) (by decide)
          simp at e1
          refine .inl ⟨_, H3, ?_, s2, [p], rfl, by simpa using o1, x1, .inr ⟨p, hpm, hpid, by simp⟩⟩
          have hln0 : ∀ H', lnS s' H' = .ok (.int .i64 0) H' := fun H' => hln H'
          simp -implicitDefEqProofs (disch := omega) [hlt, i1, hw, hpbT p hpid, hln0, e1, swashlaw06_rising_j1_eq]
        · obtain ⟨q, hq⟩ : ∃ q, out'[out'.length - 1]? = some q := ⟨_, List.getElem?_eq_getElem (by omega)⟩
          obtain ⟨b, hs, hb, hg, _⟩ := ixS_own q1 .i64 (out'.length - 1) (by omega) H2
          have hix : ∀ H', ixS 2 s' (.int .i64 ((out'.length : Int) - 1)) H' = .ok (.pointer (some ⟨b, (out'.length - 1) * 2, none⟩)) H' := fun H' => by
            rw [hs, show ((out'.length : Int) - 1) = ((out'.length - 1 : Nat) : Int) by omega]
            have := ixS_slice 2 b 0 out'.length out'.length .i64 (out'.length - 1) H' (by omega)
            rw [this, Nat.zero_add]
          have hbn : ¬ b = H2.n := by have := Heap.get_lt hg; omega
          have hcell : (rows encPr out')[(out'.length - 1) * 2]? = some (.int .u16 q.id) := by
            have := rows_cell encPr_len out' (out'.length - 1) 0 q hq (by decide)
            simpa using this
          have hqm := List.mem_of_getElem? hq
          have hqo : q.ok := by
            rcases q3 with h | ⟨r, hr1, hr2, h⟩
            · exact hout q (h ▸ hqm)
            · rw [h] at hqm
              rcases List.mem_append.1 hqm with hm | hm
              · exact hout q hm
              · simp at hm; subst hm; exact hok _ hr1
          have hw2 : IntKind.i64.wrap q.id = q.id := wrap_i64 (by have := hqo.1; omega) (by have := hqo.2.1; omega)
          have hne0 : ((out'.length : Int) == 0) = false := by rw [beq_eq_false_iff_ne]; omega
          by_cases hqid : q.id = id
          · refine .inl ⟨_, _, ?_, s', out', rfl, q1.up hx2, q2.trans hx2, q3⟩
            have hqb : (q.id == id) = true := by simpa using hqid
            simp -implicitDefEqProofs (disch := omega) [hlt, i1, hw, hpbT p hpid, hln, hne0, hix, hbn, hg, hcell, hw2, bne, hqb, swashlaw06_rising_j2_eq]
          · have hqb : (q.id == id) = false := by simpa using hqid
            obtain ⟨s2, H3, e1, o1, x1⟩ := ap1_own (bytes := 4) encPr_len (q1.up hx2) (q2.trans hx2) p (by omega) (by decide)
            simp at e1
            have hout' : out' = out := by
              rcases q3 with h | ⟨r, hr1, hr2, h⟩
              · exact h
              · exfalso
                rw [h] at hq
                simp at hq
                subst hq
                exact hqid hr2
            subst hout'
            refine .inl ⟨_, H3, ?_, s2, out' ++ [p], rfl, o1, x1, .inr ⟨p, hpm, hpid, rfl⟩⟩
            simp -implicitDefEqProofs (disch := omega) [hlt, i1, hw, hpbT p hpid, hln, hne0, hix, hbn, hg, hcell, hw2, bne, hqb, e1, swashlaw06_rising_j1_eq]
      · have hpb : (p.id == id) = false := by simpa using hpid
        refine .inl ⟨_, _, ?_, s', out', rfl, q1.up hx2, q2.trans hx2, q3⟩
        simp -implicitDefEqProofs (disch := omega) [hlt, i1, hw, hpb, swashlaw06_rising_j2_eq])
    (fun e H2 ⟨s', out', he, q1, q2, q3⟩ => by
      subst he
      refine ⟨.exit 2, _, H2, ?_, by simp, s', out', rfl, ⟨.bool false, rfl⟩, q1, q2, q3⟩
      rw [swashlaw06_rising_l2_eq]
      simp -implicitDefEqProofs)
  exact ⟨s', out', H2, a, hr', q1, q2, q3⟩

theorem rising_run (k : Nat) (H : Heap) (l : List Pr) (hl : l.length ≤ 1000) (hok : ∀ p, p ∈ l → p.ok) :
    ∃ r, R (T k) F.swashlaw06_rising [lv encPr l] H = .ok (lv encPr r) H ∧ RiseTo r 65535 ∧ (∀ p, p ∈ r → p.ok) ∧ r.length ≤ l.length := by
  rw [swashlaw06_rising_R]
  obtain ⟨x, e', H1, hr, s, out, rfl, he, ho, hx, h1, h2, h3⟩ := loop_up (body := swashlaw06_rising_l1 k (R (T k))) 65535
    (fun i e H' => ∃ s out, e = [(0, lv encPr l), (3, s), (7, .int .i64 i)] ∧ Own H H' 2 s encPr out ∧ Ext H H' ∧ RiseTo out i ∧ (∀ p, p ∈ out → p.ok) ∧ out.length ≤ l.countP fun p => decide (p.id < (i : Int)))
    (fun x e H' => ∃ s out, x = .exit 0 ∧ ((∃ a b, e = [(0, lv encPr l), (3, s), (7, a), (8, b)]) ∨ ∃ a b, e = [(0, lv encPr l), (3, s), (7, a), (47, b)]) ∧ Own H H' 2 s encPr out ∧ Ext H H' ∧ RiseTo out 65535 ∧ (∀ p, p ∈ out → p.ok) ∧ out.length ≤ l.length)
    (e0 := [(0, lv encPr l), (3, .slice none 0 0), (7, .int .i64 0)]) (H0 := H) ⟨_, [], rfl, Own.nil _ _ _, Ext.refl H, ⟨fun i j p q _ h => by simp at h, fun p h => by simp at h⟩, fun p h => by simp at h, by simp⟩ (by omega)
    (fun i e H' hi ⟨s, out, he, ho, hx, h1, h2, h3⟩ => by
      subst he
      have hlt : (i : Int) < 65535 := by omega
      obtain ⟨s', out', H2, a, hr, o1, x1, q⟩ := rising_in k l hl hok out h2 i (by omega) hlt s ho hx h1 h3
      have hc : l.countP (fun p => decide (p.id < ((i + 1 : Nat) : Int))) = l.countP (fun p => decide (p.id < (i : Int))) + l.countP (fun p => decide (p.id = (i : Int))) := count_up l i
      have hcl : l.countP (fun p => decide (p.id < ((i + 1 : Nat) : Int))) ≤ l.length := List.countP_le_length
      have hrise : RiseTo out' ((i + 1 : Nat) : Int) ∧ (∀ p, p ∈ out' → p.ok) ∧ out'.length ≤ l.countP (fun p => decide (p.id < ((i + 1 : Nat) : Int))) := by
        rcases q with rfl | ⟨p, hp, hpi, rfl⟩
        · exact ⟨h1.up, h2, by omega⟩
        · refine ⟨h1.snoc p hpi, fun q hq => ?_, ?_⟩
          · rcases List.mem_append.1 hq with hq | hq
            · exact h2 q hq
            · simp at hq; subst hq; exact hok _ hp
          · have := count_pos hp hpi
            rw [List.length_append, hc]
            simp only [List.length_cons, List.length_nil]
            omega
      have hln := fun H' => o1.len H'
      by_cases hlen : out'.length = l.length
      · refine .inr ⟨.exit 0, _, H2, ?_, by simp, s', out', rfl, .inr ⟨.int .i64 i, .bool true, rfl⟩, o1, x1, ⟨hrise.1.1, fun p hp => by have := hrise.1.2 p hp; omega⟩, hrise.2.1, by omega⟩
        rw [swashlaw06_rising_l1_eq]
        simp -implicitDefEqProofs (disch := omega) [hlt, hr, swashlaw06_rising_l2k_x2, hln, hlen]
      · refine .inl ⟨_, H2, ?_, s', out', rfl, o1, x1, hrise⟩
        have hne : ((out'.length : Int) == (l.length : Int)) = false := by rw [beq_eq_false_iff_ne]; omega
        rw [swashlaw06_rising_l1_eq]
        simp -implicitDefEqProofs (disch := omega) [hlt, hr, swashlaw06_rising_l2k_x2, hln, hne])
    (fun e H' ⟨s, out, he, ho, hx, h1, h2, h3⟩ => by
      subst he
      refine ⟨.exit 0, _, H', ?_, by simp, s, out, rfl, .inl ⟨.int .i64 65535, .bool false, rfl⟩, ho, hx, h1, h2, Nat.le_trans h3 List.countP_le_length⟩
      rw [swashlaw06_rising_l1_eq]
      simp -implicitDefEqProofs (disch := omega))
  obtain ⟨L, hf⟩ := ho.freeze encPr_len (encPr_still _) 6
  refine ⟨out, nrm_fz (v := s) (H' := H1) ?_ hf hx (Flat.Prs out).alive, h1, h2, h3⟩
  rcases he with ⟨a, b, rfl⟩ | ⟨a, b, rfl⟩ <;> simp -implicitDefEqProofs (disch := omega) [swashlaw06_rising, hr, swashlaw06_rising_l1k_x0, swashlaw06_rising_l1k_x0_1]

theorem head_star (k : Nat) {H0 H : Heap} {L : List It} (h : Star H0 H L) (fmt z n : Int) (h1 : 0 ≤ fmt ∧ fmt < 65536) (h2 : 0 ≤ z ∧ z < 65536) (h3 : 0 ≤ n ∧ n < 65536) :
    ∃ s o H', R (T k) F.swashlaw06_head [.int .i64 fmt, .int .i64 z, .int .i64 n] H = .ok s H' ∧ Star H0 H' (L ++ [itRow o 1 s encB (headS fmt z n)]) := by
  have g0 : Star H0 H (L ++ [itRow none 1 (.slice none 0 0) encB []]) := h.more_row (Ext.refl H) (OwnO.nil _ _ _) fun b hb => by cases hb
  have at_ : ∀ x : It, (L ++ [x])[L.length]? = some x := fun x => by simp
  have set_ : ∀ x y : It, (L ++ [x]).set L.length y = L ++ [y] := fun x y => by simp
  obtain ⟨s1, o1, H1, e1, g1⟩ := Put_star k g0 L.length (at_ _) fmt 2 2 rfl h1.1 (by omega) (by omega) (by simp)
  rw [set_] at g1
  obtain ⟨s2, o2, H2, e2, g2⟩ := Put_star k g1 L.length (at_ _) z 2 2 rfl h2.1 (by omega) (by omega) (by simp [bytesOf_len])
  rw [set_] at g2
  obtain ⟨s3, o3, H3, e3, g3⟩ := Put_star k g2 L.length (at_ _) n 2 2 rfl h3.1 (by omega) (by omega) (by simp [bytesOf_len])
  rw [set_] at g3
  have g4 := g3.rest ((Ext.refl H3).push ⟨rows encB [0, 0, 0, 0, 0, 0], 1, false⟩)
  obtain ⟨s5, o5, H5, e5, g5⟩ := g4.append (bytes := 1) L.length encB_len (at_ _) (b := .slice (some ⟨H3.n, 0, none⟩) 6 6) (l2 := [0, 0, 0, 0, 0, 0]) rfl (by
    unfold firstV
    dsimp only
    rw [if_neg (by simp), cellsAt_eq, get_push_eq _ _ _ rfl]
    rfl) (by simp [bytesOf_len]) (by decide)
  rw [set_] at g5
  refine ⟨s5, o5, H5, ?_, by simpa [headS] using g5⟩
  rw [swashlaw06_head_R]
  simp [rows] at e5
  simp -implicitDefEqProofs (disch := omega) [swashlaw06_head, e1, e2, e3, e5]
end Go.Sw
