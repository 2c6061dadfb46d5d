/-
  The document's places: lists told by value.
-/
import Derived.Test.YtnaodjnimkndbaaSwPlaceA
namespace Go.Sw

def newPl (l : List Int) : List Pl := l.map fun n => ⟨clampI n, 0, 0⟩

theorem refNew_run (k : Nat) (l : List Int) (hl : l.length ≤ 1000) (H : Heap) : R (T k) F.swashref21_New [lv encI l] H = .ok (lv encP (newPl l)) H := by
  rw [swashref21_New_R]
  obtain ⟨x, e', H1, hr, s, v, rfl, rfl, ho, hx⟩ := loop_up (body := swashref21_New_l1 k (R (T k))) l.length
    (fun i e H' => ∃ s, e = [(0, lv encI l), (3, s), (4, .int .i64 i)] ∧ Own H H' 3 s encP (newPl (l.take i)) ∧ Ext H H')
    (fun x e H' => ∃ s v, x = .exit 0 ∧ e = [(0, lv encI l), (3, s), (4, .int .i64 l.length), (9, v)] ∧ Own H H' 3 s encP (newPl l) ∧ Ext H H')
    (e0 := [(0, lv encI l), (3, bareV), (4, .int .i64 0)]) (H0 := H) ⟨bareV, rfl, Own.bare _ _ _, Ext.refl H⟩ (by omega)
    (fun i e H' hi ⟨s, he, ho, hx⟩ => by
      subst he
      obtain ⟨n, hg⟩ : ∃ n, l[i]? = some n := ⟨l[i], List.getElem?_eq_getElem hi⟩
      obtain ⟨s', H2, e1, o1, x1⟩ := ap1_own (bytes := 12) encP_len ho hx ⟨clampI n, 0, 0⟩ (by simp [newPl]; omega) (by decide)
      rw [swashref21_New_l1_eq]
      have h1 := clampI_lo n
      have h2 := clampI_hi n
      have hlt : (i : Int) < l.length := by omega
      simp only [encP] at e1
      have : newPl (l.take (i + 1)) = newPl (l.take i) ++ [⟨clampI n, 0, 0⟩] := by simp [newPl, List.take_add_one, hg]
      exact .inl ⟨_, H2, by simp -implicitDefEqProofs (disch := omega) [hlt, ixS_lvN encI_len l _ i _ hg, encI, e1], s', rfl, by rw [this]; exact o1, x1⟩)
    (fun e H' ⟨s, he, ho, hx⟩ => by
      subst he
      rw [swashref21_New_l1_eq]
      exact ⟨.exit 0, _, H', by simp; rfl, by simp, s, _, rfl, rfl, by simpa using ho, hx⟩)
  obtain ⟨L, hf⟩ := ho.freeze encP_len (encP_still _) 6
  refine nrm_fz (v := s) (H' := H1) ?_ hf hx (Flat.alive (Flat.lv (encP_flat _)))
  simp -implicitDefEqProofs [swashref21_New, hr, swashref21_New_l1k_x0]

theorem Pl.eqb (p q : Pl) : ([p.adv, p.x, p.y] == [q.adv, q.x, q.y]) = decide (p = q) := by
  obtain ⟨a, b, c⟩ := p
  obtain ⟨d, e, f⟩ := q
  by_cases h : a = d <;> by_cases h1 : b = e <;> by_cases h2 : c = f <;> simp [h, h1, h2]

theorem refSame_rd (k : Nat) {H : Heap} {sa sb : Value} {a b : List Pl} (ra : Rd H 3 sa encP a) (rb : Rd H 3 sb encP b) (ha : a.length ≤ 2 ^ 31) : R (T k) F.swashref21_Same [sa, sb] H = .ok (.bool (decide (a = b))) H := by
  rw [swashref21_Same_R]
  refine nrm_gc (Pure.of ?_) (.bool _)
  by_cases hl : a.length = b.length
  · obtain ⟨x, e', H1, hr, rfl, hq⟩ := loop_up (body := swashref21_Same_l1 k (R (T k))) a.length
      (fun i e H' => e = [(0, sa), (1, sb), (5, .int .i64 i)] ∧ H' = H ∧ a.take i = b.take i)
      (fun x e H' => H' = H ∧ ((x = .ret ∧ e = [(4, .bool false)] ∧ a ≠ b) ∨ ∃ v, x = .exit 0 ∧ e = [(0, sa), (1, sb), (5, .int .i64 a.length), (14, v)] ∧ a = b))
      (e0 := [(0, sa), (1, sb), (5, .int .i64 0)]) (H0 := H) ⟨rfl, rfl, by simp⟩ (by omega)
      (fun i e H' hi ⟨he, hH, ht⟩ => by
        subst he hH
        obtain ⟨p, hp⟩ : ∃ p, a[i]? = some p := ⟨a[i], List.getElem?_eq_getElem hi⟩
        obtain ⟨q, hq⟩ : ∃ q, b[i]? = some q := ⟨b[i], List.getElem?_eq_getElem (by omega)⟩
        have hlt : (i : Int) < a.length := by omega
        obtain ⟨pa, x1, y1⟩ := ra.2 i p hp
        obtain ⟨pb, x2, y2⟩ := rb.2 i q hq
        have x1 := x1 .i64
        have x2 := x2 .i64
        rw [swashref21_Same_l1_eq]
        by_cases hpq : p = q
        · subst hpq
          exact .inl ⟨_, H', by simp -implicitDefEqProofs (disch := omega) [hlt, ra.1, x1, x2, y1, y2], rfl, rfl, by rw [List.take_add_one, List.take_add_one, ht, hp, hq]⟩
        · refine .inr ⟨.ret, _, H', by simp -implicitDefEqProofs (disch := omega) [hlt, ra.1, x1, x2, y1, y2, Pl.eqb, hpq, -List.cons_beq_cons, -List.cons.injEq], by simp, rfl, .inl ⟨rfl, rfl, ?_⟩⟩
          intro hab
          subst hab
          rw [hp] at hq
          exact hpq (Option.some.inj hq))
      (fun e H' ⟨he, hH, ht⟩ => by
        subst he hH
        rw [swashref21_Same_l1_eq]
        refine ⟨.exit 0, _, H', by simp [ra.1]; rfl, by simp, rfl, .inr ⟨_, rfl, rfl, ?_⟩⟩
        rw [List.take_length, hl, List.take_length] at ht
        exact ht)
    have hbeq : ((a.length : Int) != (b.length : Int)) = false := by simp [hl]
    rcases hq with ⟨rfl, rfl, hne⟩ | ⟨v, rfl, rfl, heq⟩
    · simp -implicitDefEqProofs [swashref21_Same, ra.1, rb.1, hbeq, hr, swashref21_Same_l1k_r, hne]
    · subst heq; simp -implicitDefEqProofs [swashref21_Same, ra.1, rb.1, hr, swashref21_Same_l1k_x0]
  · have hne : ¬ a = b := fun h => hl (by rw [h])
    have : ((a.length : Int) != (b.length : Int)) = true := by simp; omega
    simp -implicitDefEqProofs [swashref21_Same, ra.1, rb.1, this, hne]

theorem refSame_run (k : Nat) (a b : List Pl) (ha : a.length ≤ 2 ^ 31) (H : Heap) : R (T k) F.swashref21_Same [lv encP a, lv encP b] H = .ok (.bool (decide (a = b))) H :=
  refSame_rd k (.lv encP_len H a) (.lv encP_len H b) ha

/-- One place is changed, if there is one. -/
def updPl (l : List Pl) (i : Int) (f : Pl → Pl) : List Pl := if 0 ≤ i then l.modify i.toNat f else l

theorem refMore_run (k : Nat) (l : List Pl) (i a x y : Int) (hl : l.length ≤ 2 ^ 20) (hok : ∀ p, p ∈ l → p.ok) (H : Heap) :
    R (T k) F.swashref21_More [lv encP l, .int .i64 i, .int .i64 a, .int .i64 x, .int .i64 y] H = .ok (lv encP (updPl l i fun p => ⟨addI p.adv a, addI p.x x, addI p.y y⟩)) H := by
  rw [swashref21_More_R]
  obtain ⟨s, H1, e1, o1, x1, _⟩ := apR_own (bytes := 12) encP_len (Own.bare H H 3) (Ext.refl H) (b := lv encP l) (l2 := l) rfl (lv_first encP_len l H) (by simp; omega) (by decide)
  rw [List.nil_append] at o1
  by_cases hi : 0 ≤ i ∧ i < l.length
  · obtain ⟨n, rfl⟩ : ∃ n : Nat, i = n := ⟨i.toNat, by omega⟩
    have hn : n < l.length := by omega
    obtain ⟨p, hp⟩ : ∃ p, l[n]? = some p := ⟨l[n], List.getElem?_eq_getElem hn⟩
    have hpo := hok p (List.mem_of_getElem? hp)
    obtain ⟨b, rfl, hb, hg, _⟩ := ixS_own o1 .i64 n hn H1
    have hix : ∀ H' : Heap, ixS 3 (.slice (some ⟨b, 0, none⟩) l.length l.length) (.int .i64 n) H' = .ok (.pointer (some ⟨b, n * 3, none⟩)) H' := fun H' => by
      obtain ⟨b', he, _, _, h⟩ := ixS_own o1 .i64 n hn H'
      injection he with he; injection he with he; injection he with he
      subst he; exact h
    have r1 := ld1_row encP_len hg (c := 0) hp (by decide) rfl
    obtain ⟨H2, s1, g1, k1, n1⟩ := st_row encP_len hg (c := 0) (n := 1) ⟨addI p.adv a, p.x, p.y⟩ (v := .int .i32 (addI p.adv a)) hp rfl rfl (by decide) rfl
    have hp2 : (l.set n ⟨addI p.adv a, p.x, p.y⟩)[n]? = some ⟨addI p.adv a, p.x, p.y⟩ := by rw [List.getElem?_set_self hn]
    have r2 := ld1_row encP_len g1 (c := 1) hp2 (by decide) rfl
    obtain ⟨H3, s2, g2, k2, n2⟩ := st_row encP_len g1 (c := 1) (n := 1) ⟨addI p.adv a, addI p.x x, p.y⟩ (v := .int .i32 (addI p.x x)) hp2 rfl rfl (by decide) rfl
    rw [List.set_set] at g2
    have hp3 : (l.set n ⟨addI p.adv a, addI p.x x, p.y⟩)[n]? = some ⟨addI p.adv a, addI p.x x, p.y⟩ := by rw [List.getElem?_set_self hn]
    have r3 := ld1_row encP_len g2 (c := 2) hp3 (by decide) rfl
    obtain ⟨H4, s3, g3, k3, n3⟩ := st_row encP_len g2 (c := 2) (n := 1) ⟨addI p.adv a, addI p.x x, addI p.y y⟩ (v := .int .i32 (addI p.y y)) hp3 rfl rfl (by decide) rfl
    rw [List.set_set] at g3
    have hupd : updPl l n (fun p => ⟨addI p.adv a, addI p.x x, addI p.y y⟩) = l.set n ⟨addI p.adv a, addI p.x x, addI p.y y⟩ := by
      unfold updPl
      rw [if_pos (by omega)]
      rw [Int.toNat_natCast, modify_set _ l n p hp]
    have hx4 : Ext H H4 := ⟨by rw [n3, n2, n1]; exact x1.n, fun c hc hs => by
      rw [k3 c (by omega), k2 c (by omega), k1 c (by omega)]; exact x1.2 c hc hs⟩
    have o4 : Own H H4 3 (.slice (some ⟨b, 0, none⟩) l.length l.length) encP (updPl l n fun p => ⟨addI p.adv a, addI p.x x, addI p.y y⟩) := by
      rw [hupd]
      exact .inr ⟨b, by simp, hb, g3⟩
    obtain ⟨L, hf⟩ := o4.freeze encP_len (encP_still _) 6
    refine nrm_fz (v := .slice (some ⟨b, 0, none⟩) l.length l.length) (H' := H4) ?_ hf hx4 (Flat.alive (Flat.lv (encP_flat _)))
    have hlt : (n : Int) < l.length := hi.2
    simp only [Nat.add_zero] at r1 s1
    simp -implicitDefEqProofs [-ld1_ptr, -stR_ptr, swashref21_More, e1, hlt, hix, r1, s1, r2, s2, r3, s3, refAdd_run _ _ _ hpo.1.1 hpo.1.2, refAdd_run _ _ _ hpo.2.1.1 hpo.2.1.2, refAdd_run _ _ _ hpo.2.2.1 hpo.2.2.2, swashref21_More_j1_eq]
  · have hupd : updPl l i (fun p => ⟨addI p.adv a, addI p.x x, addI p.y y⟩) = l := by
      unfold updPl
      split
      · exact modify_none _ _ _ (by omega)
      · rfl
    rw [hupd]
    obtain ⟨L, hf⟩ := o1.freeze encP_len (encP_still _) 6
    refine nrm_fz (v := s) (H' := H1) ?_ hf x1 (Flat.alive (Flat.lv (encP_flat _)))
    by_cases h0 : 0 ≤ i
    · have hlt : ¬ i < l.length := fun h => hi ⟨h0, h⟩
      simp -implicitDefEqProofs [swashref21_More, e1, h0, o1.len, hlt, swashref21_More_j2_eq]
    · simp -implicitDefEqProofs [swashref21_More, e1, h0, swashref21_More_j2_eq]

def acrossPl (l : List Pl) (down : Bool) (i n : Int) : List Pl := if down then updPl l i fun p => ⟨addI p.adv 0, addI p.x n, addI p.y 0⟩ else updPl l i fun p => ⟨addI p.adv 0, addI p.x 0, addI p.y n⟩

theorem refAcross_run (k : Nat) (l : List Pl) (down : Bool) (i n : Int) (hl : l.length ≤ 2 ^ 20) (hok : ∀ p, p ∈ l → p.ok) (H : Heap) :
    R (T k) F.swashref21_Across [lv encP l, .bool down, .int .i64 i, .int .i64 n] H = .ok (lv encP (acrossPl l down i n)) H := by
  rw [swashref21_Across_R]
  have hflat : ∀ l : List Pl, Alive H (lv encP l) := fun l => Flat.alive (Flat.lv (encP_flat l))
  have hst : ∀ l : List Pl, fzV H.n H fzDepth (lv encP l) = some (lv encP l, []) := fun l => rfl
  cases down
  · exact nrm_fz (by simp -implicitDefEqProofs [swashref21_Across, refMore_run k l i 0 0 n hl hok, acrossPl]) (hst _) (Ext.refl H) (hflat _)
  · exact nrm_fz (by simp -implicitDefEqProofs [swashref21_Across, refMore_run k l i 0 n 0 hl hok, acrossPl]) (hst _) (Ext.refl H) (hflat _)

def levelPl (l : List Pl) (down : Bool) (i : Int) : List Pl := updPl l i fun p => if down then ⟨p.adv, 0, p.y⟩ else ⟨p.adv, p.x, 0⟩

theorem refLevel_run (k : Nat) (l : List Pl) (down : Bool) (i : Int) (hl : l.length ≤ 2 ^ 20) (H : Heap) :
    R (T k) F.swashref21_Level [lv encP l, .bool down, .int .i64 i] H = .ok (lv encP (levelPl l down i)) H := by
  rw [swashref21_Level_R]
  obtain ⟨s, H1, e1, o1, x1, _⟩ := apR_own (bytes := 12) encP_len (Own.bare H H 3) (Ext.refl H) (b := lv encP l) (l2 := l) rfl (lv_first encP_len l H) (by simp; omega) (by decide)
  rw [List.nil_append] at o1
  by_cases hi : 0 ≤ i ∧ i < l.length
  · obtain ⟨n, rfl⟩ : ∃ n : Nat, i = n := ⟨i.toNat, by omega⟩
    have hn : n < l.length := by omega
    obtain ⟨p, hp⟩ : ∃ p, l[n]? = some p := ⟨l[n], List.getElem?_eq_getElem hn⟩
    obtain ⟨b, rfl, hb, hg, _⟩ := ixS_own o1 .i64 n hn H1
    have hix : ∀ H' : Heap, ixS 3 (.slice (some ⟨b, 0, none⟩) l.length l.length) (.int .i64 n) H' = .ok (.pointer (some ⟨b, n * 3, none⟩)) H' := fun H' => by
      obtain ⟨b', he, _, _, h⟩ := ixS_own o1 .i64 n hn H'
      injection he with he; injection he with he; injection he with he
      subst he; exact h
    have hlt : (n : Int) < l.length := hi.2
    have fin : ∀ (H2 : Heap) (q : Pl), H2.get b = some ⟨rows encP (l.set n q), 3, false⟩ → (∀ d, d ≠ b → H2.get d = H1.get d) → H2.n = H1.n → ∀ r, r = .ok (.slice (some ⟨b, 0, none⟩) l.length l.length) H2 → nrm .fz H r = .ok (lv encP (l.set n q)) H := by
      intro H2 q g1 k1 n1 r hr
      have hx2 : Ext H H2 := ⟨by rw [n1]; exact x1.n, fun c hc hs => by rw [k1 c (by omega)]; exact x1.2 c hc hs⟩
      have o2 : Own H H2 3 (.slice (some ⟨b, 0, none⟩) l.length l.length) encP (l.set n q) := .inr ⟨b, by simp, hb, g1⟩
      obtain ⟨L, hf⟩ := o2.freeze encP_len (encP_still _) 6
      exact nrm_fz hr hf hx2 (Flat.alive (Flat.lv (encP_flat _)))
    cases down
    · obtain ⟨H2, s1, g1, k1, n1⟩ := st_row encP_len hg (c := 2) (n := 1) ⟨p.adv, p.x, 0⟩ (v := .int .i32 0) hp rfl rfl (by decide) rfl
      have hup : levelPl l false n = l.set n ⟨p.adv, p.x, 0⟩ := by
        unfold levelPl updPl
        rw [if_pos (by omega), Int.toNat_natCast, modify_set _ l n p hp]; rfl
      rw [hup]
      refine fin H2 _ g1 k1 n1 _ ?_
      simp -implicitDefEqProofs [-ld1_ptr, -stR_ptr, swashref21_Level, e1, hlt, hix, s1, swashref21_Level_j1_eq]
    · obtain ⟨H2, s1, g1, k1, n1⟩ := st_row encP_len hg (c := 1) (n := 1) ⟨p.adv, 0, p.y⟩ (v := .int .i32 0) hp rfl rfl (by decide) rfl
      have hup : levelPl l true n = l.set n ⟨p.adv, 0, p.y⟩ := by
        unfold levelPl updPl
        rw [if_pos (by omega), Int.toNat_natCast, modify_set _ l n p hp]; rfl
      rw [hup]
      refine fin H2 _ g1 k1 n1 _ ?_
      simp -implicitDefEqProofs [-ld1_ptr, -stR_ptr, swashref21_Level, e1, hlt, hix, s1, swashref21_Level_j1_eq]
  · have hupd : levelPl l down i = l := by
      unfold levelPl updPl
      split
      · exact modify_none _ _ _ (by omega)
      · rfl
    rw [hupd]
    obtain ⟨L, hf⟩ := o1.freeze encP_len (encP_still _) 6
    refine nrm_fz (v := s) (H' := H1) ?_ hf x1 (Flat.alive (Flat.lv (encP_flat _)))
    by_cases h0 : 0 ≤ i
    · have hlt : ¬ i < l.length := fun h => hi ⟨h0, h⟩
      simp -implicitDefEqProofs [swashref21_Level, e1, h0, o1.len, hlt, swashref21_Level_j2_eq]
    · simp -implicitDefEqProofs [swashref21_Level, e1, h0, swashref21_Level_j2_eq]

theorem refTurn_run (k : Nat) (l : List Pl) (hl : l.length ≤ 2 ^ 20) (H : Heap) : R (T k) F.swashref21_Turn [lv encP l] H = .ok (lv encP l.reverse) H := by
  rw [swashref21_Turn_R]
  obtain ⟨x, e', H1, hr, s, v, rfl, rfl, ho, hx⟩ := loop_up (body := swashref21_Turn_l1 k (R (T k))) l.length
    (fun i e H' => ∃ s, e = [(0, lv encP l), (3, s), (4, .int .i64 ((l.length : Int) - 1 - i))] ∧ Own H H' 3 s encP (l.reverse.take i) ∧ Ext H H')
    (fun x e H' => ∃ s v, x = .exit 0 ∧ e = [(0, lv encP l), (3, s), (4, .int .i64 (-1)), (10, v)] ∧ Own H H' 3 s encP l.reverse ∧ Ext H H')
    (e0 := [(0, lv encP l), (3, bareV), (4, .int .i64 ((l.length : Int) - 1))]) (H0 := H) ⟨bareV, by simp, Own.bare _ _ _, Ext.refl H⟩ (by omega)
    (fun i e H' hi ⟨s, he, ho, hx⟩ => by
      subst he
      obtain ⟨n, hg⟩ : ∃ n, l[l.length - 1 - i]? = some n := ⟨l[l.length - 1 - i], List.getElem?_eq_getElem (by omega)⟩
      obtain ⟨s', H2, e1, o1, x1⟩ := ap1_own (bytes := 12) encP_len ho hx n (by simp; omega) (by decide)
      rw [swashref21_Turn_l1_eq]
      have hge : 0 ≤ (l.length : Int) - 1 - i := by omega
      have hge2 : (i : Int) ≤ l.length - 1 := by omega
      simp only [encP] at e1
      have : l.reverse.take (i + 1) = l.reverse.take i ++ [n] := by
        rw [List.take_add_one, List.getElem?_reverse (by omega), hg]; rfl
      exact .inl ⟨_, H2, by simp -implicitDefEqProofs (disch := omega) [hge2, ixS_lv encP_len l .i64 ((l.length : Int) - 1 - i) n hge (by rw [show ((l.length : Int) - 1 - i).toNat = l.length - 1 - i by omega]; exact hg), encP, e1] <;> rfl, s', by rw [show (l.length : Int) - 1 - (i + 1 : Nat) = l.length - 1 - i - 1 by omega], by rw [this]; exact o1, x1⟩)
    (fun e H' ⟨s, he, ho, hx⟩ => by
      subst he
      rw [swashref21_Turn_l1_eq]
      have hneg : ¬ 0 ≤ (l.length : Int) - 1 - l.length := by omega
      have e2 : (l.length : Int) - 1 - l.length = -1 := by omega
      exact ⟨.exit 0, _, H', by rw [e2]; simp -implicitDefEqProofs <;> rfl, by simp, s, _, rfl, rfl, by rwa [List.take_of_length_le (by simp)] at ho, hx⟩)
  obtain ⟨L, hf⟩ := ho.freeze encP_len (encP_still _) 6
  refine nrm_fz (v := s) (H' := H1) ?_ hf hx (Flat.alive (Flat.lv (encP_flat _)))
  simp -implicitDefEqProofs (disch := omega) [swashref21_Turn, hr, swashref21_Turn_l1k_x0]
end Go.Sw
