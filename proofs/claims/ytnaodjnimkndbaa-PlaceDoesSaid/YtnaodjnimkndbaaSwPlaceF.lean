/-
  The laws PlaceOwn and PlaceDoes on the evaluator.
-/
import Derived.Test.YtnaodjnimkndbaaSwPlaceE
import Derived.Test.YtnaodjnimkndbaaSwGswashlaw21
namespace Go.Sw
open Go.RowKit

theorem newPl_ok (l : List Int) : ∀ q, q ∈ newPl l → q.ok := by
  intro q hq
  obtain ⟨n, _, rfl⟩ := List.mem_map.1 hq
  have := clampI_lo n
  have := clampI_hi n
  unfold Pl.ok
  dsimp only
  omega
@[simp] theorem newPl_len (l : List Int) : (newPl l).length = l.length := by simp [newPl]

theorem speaks21_own (H : Heap) : R (T 1000043) F.swashlaw21_speaks [] H = .ok (.bool true) H :=
  (R_sp (t := T 1000043) (T_scott _) (s := constSp (.bool true)) (by kernel_rfl) _ _).trans (nrm_gc (Pure.of rfl) (.bool true))
theorem speaks21_run (H : Heap) : R (T 43) F.swashlaw21_speaks [] H = .ok (.bool true) H :=
  (R_sp (t := T 43) (T_scott _) (s := constSp (.bool true)) (by kernel_rfl) _ _).trans (nrm_gc (Pure.of rfl) (.bool true))

theorem PlaceOwn_run (l : List Int) : R (T 1000043) F.swashlaw21_PlaceOwn [lv encI l] Heap.empty = .ok (.bool true) Heap.empty := by
  rw [swashlaw21_PlaceOwn_R]
  refine nrm_gc ?_ (.bool true)
  by_cases hl : (l.length : Int) > 60
  · refine Pure.of ?_
    simp -implicitDefEqProofs [swashlaw21_PlaceOwn, speaks21_own, hl]
  · have hlen : l.length ≤ 60 := by omega
    obtain ⟨H1, o, e1, p1, f1, x1⟩ := New_run 1000043 2 l (by omega) Heap.empty
    obtain ⟨s, H2, e2, own2, x2⟩ := AllOwn_run 1000043 (by omega) p1 (by simp; omega)
    obtain ⟨o2, own3, hn⟩ := own2.toO
    have p2 := p1.ext x2
    obtain ⟨x, e', H3, hr, rfl, rfl, q3⟩ := loop_up (body := swashlaw21_PlaceOwn_l1 1000043 (R (T 1000043))) l.length
      (fun i e H' => e = [(0, lv encI l), (3, .pointer (some ⟨Heap.empty.n, 0, none⟩)), (4, s), (16, .int .i64 l.length), (17, .int .i64 i)] ∧ (∃ r, OwnO H' o2 3 s encP r ∧ r.length = l.length) ∧ (∀ c, o2 ≠ some c → H'.get c = H2.get c) ∧ H'.n = H2.n)
      (fun x e H' => x = .exit 0 ∧ e = [(0, lv encI l), (3, .pointer (some ⟨Heap.empty.n, 0, none⟩)), (4, s), (16, .int .i64 l.length), (17, .int .i64 l.length), (18, .bool false)] ∧ ∀ c, o2 ≠ some c → H'.get c = H2.get c)
      (e0 := [(0, lv encI l), (3, .pointer (some ⟨Heap.empty.n, 0, none⟩)), (4, s), (16, .int .i64 l.length), (17, .int .i64 0)]) (H0 := H2) ⟨rfl, ⟨_, own3, by simp⟩, fun _ _ => rfl, rfl⟩ (by omega)
      (fun i e H' hi ⟨he, ⟨r, hr, hrl⟩, hk, hn'⟩ => by
        subst he
        obtain ⟨q, hq⟩ : ∃ q, r[i]? = some q := ⟨r[i], List.getElem?_eq_getElem (by omega)⟩
        obtain ⟨b, rfl, hs, hb, hix⟩ := hr.ix .i64 i (by omega)
        have r1 := ld1_row encP_len hb (c := 1) hq (by decide) rfl
        obtain ⟨H3, s1, g1, k1, n1⟩ := st_row encP_len hb (c := 1) (n := 1) ⟨q.adv, IntKind.i32.wrap (q.x + 1), q.y⟩ (v := .int .i32 (IntKind.i32.wrap (q.x + 1))) hq rfl rfl (by decide) rfl
        have hlt : (i : Int) < l.length := by omega
        refine .inl ⟨_, H3, ?_, rfl, ⟨_, .inr ⟨b, rfl, by simpa using hs, g1⟩, by simpa using hrl⟩, fun c hc => by rw [k1 c fun e => hc (by rw [e])]; exact hk c hc, by rw [n1, hn']⟩
        rw [swashlaw21_PlaceOwn_l1_eq]
        simp -implicitDefEqProofs (disch := omega) [-ld1_ptr, -stR_ptr, hlt, hix, r1, s1])
      (fun e H' ⟨he, _, hk, hn'⟩ => by
        subst he
        refine ⟨.exit 0, _, H', ?_, by simp, rfl, rfl, hk⟩
        rw [swashlaw21_PlaceOwn_l1_eq]
        simp -implicitDefEqProofs)
    have hp3 : PlAt H3 Heap.empty.n o true (newPl l) := p2.up (q3 _ fun e => by have := hn _ e; have := p1.lt; omega) fun b hb => q3 b fun e => by have := hn _ e; have := p1.lto b hb; omega
    obtain ⟨s4, H4, e4, own4, x4⟩ := AllOwn_run 1000043 (by omega) hp3 (by simp; omega)
    obtain ⟨o4, own5, _⟩ := own4.toO
    have hsame := refSame_rd 1000043 (own5.rd encP_len) (.lv encP_len H4 (newPl l)) (by simp; omega)
    refine ⟨H4, ?_, .empty H4⟩
    · simp -implicitDefEqProofs [swashlaw21_PlaceOwn, speaks21_own, hl, e1, e2, own3.len, hr, swashlaw21_PlaceOwn_l1k_x0, e4, refNew_run 1000043 l (by omega), hsame]

/-- A change of places. -/
structure Chg where
  what : Int
  i : Int
  n : Int
  m : Int
abbrev encC (c : Chg) : List Value := [.int .i64 c.what, .int .i64 c.i, .int .i64 c.n, .int .i64 c.m]
theorem encC_len (c : Chg) : (encC c).length = 4 := rfl

theorem addI_0 {a : Int} (h : -2147483648 ≤ a ∧ a ≤ 2147483647) : addI a 0 = a := by
  unfold addI clampI
  omega
theorem addI_ok (a n : Int) : -2147483648 ≤ addI a n ∧ addI a n ≤ 2147483647 := ⟨addI_lo _ _, addI_hi _ _⟩

theorem updPl_ok {l : List Pl} (h : ∀ q, q ∈ l → q.ok) (i : Int) {f : Pl → Pl} (hf : ∀ q, q.ok → (f q).ok) : ∀ q, q ∈ updPl l i f → q.ok := by
  unfold updPl
  split
  · intro q hq
    obtain ⟨j, hj⟩ := List.getElem?_of_mem hq
    rw [List.getElem?_modify] at hj
    cases hg : l[j]? with
    | none => rw [hg] at hj; simp at hj
    | some x =>
      have hx := h x (List.mem_of_getElem? hg)
      rw [hg] at hj
      simp at hj
      subst hj
      split
      · exact hf x hx
      · exact hx
  · exact h
theorem updPl_congr {l : List Pl} (h : ∀ q, q ∈ l → q.ok) (i : Int) {f g : Pl → Pl} (hf : ∀ q, q.ok → f q = g q) : updPl l i f = updPl l i g := by
  unfold updPl
  split
  · apply List.ext_getElem?
    intro j
    rw [List.getElem?_modify, List.getElem?_modify]
    cases hg : l[j]? with
    | none => rfl
    | some x =>
      have := hf x (h x (List.mem_of_getElem? hg))
      simp [this]
  · rfl
@[simp] theorem updPl_len (l : List Pl) (i : Int) (f : Pl → Pl) : (updPl l i f).length = l.length := by
  unfold updPl
  split <;> simp

/-- One change: what the document makes of it. -/
def chgPl (down : Bool) (c : Chg) (l : List Pl) : List Pl :=
  if c.what = 0 then updPl l c.i fun p => ⟨addI p.adv c.n, addI p.x 0, addI p.y 0⟩
  else if c.what = 1 then acrossPl l down c.i c.n
  else if c.what = 2 then levelPl l down c.i
  else if c.what = 3 then updPl l c.i fun p => ⟨addI p.adv 0, addI p.x c.n, addI p.y c.m⟩
  else if c.what = 4 then l.reverse
  else l
theorem chgPl_len (down : Bool) (c : Chg) (l : List Pl) : (chgPl down c l).length = l.length := by
  unfold chgPl acrossPl levelPl
  repeat' split
  all_goals simp
theorem chgPl_ok (down : Bool) (c : Chg) {l : List Pl} (h : ∀ q, q ∈ l → q.ok) : ∀ q, q ∈ chgPl down c l → q.ok := by
  unfold chgPl acrossPl levelPl
  repeat' split
  all_goals first
    | exact h
    | exact updPl_ok h _ fun q hq => ⟨addI_ok _ _, addI_ok _ _, addI_ok _ _⟩
    | (refine updPl_ok h _ fun q hq => ?_
       obtain ⟨h1, h2, h3⟩ := hq
       unfold Pl.ok
       simp_all
       done)
    | (intro q hq; exact h q (by simpa using hq))

theorem PlaceDoes_run (dir : Int) (l : List Int) (cs : List Chg) : R (T 43) F.swashlaw21_PlaceDoes [.int .i64 dir, lv encI l, lv encC cs] Heap.empty = .ok (.bool true) Heap.empty := by
  rw [swashlaw21_PlaceDoes_R]
  refine nrm_gc ?_ (.bool true)
  by_cases hl : (l.length : Int) > 60
  · refine Pure.of ?_
    simp -implicitDefEqProofs [swashlaw21_PlaceDoes, speaks21_run, hl]
  by_cases hl2 : (cs.length : Int) > 100
  · refine Pure.of ?_
    simp -implicitDefEqProofs [swashlaw21_PlaceDoes, speaks21_run, hl, hl2]
  have hlen : l.length ≤ 60 := by omega
  obtain ⟨H1, o, e1, p1, f1, x1⟩ := New_run 43 dir l (by omega) Heap.empty
  have hn0 : Heap.empty.n = 0 := rfl
  rw [hn0] at e1 p1
  obtain ⟨x, e', H3, hr, rfl, q, hq1, hq2, rfl⟩ := loop_up (body := swashlaw21_PlaceDoes_l1 43 (R (T 43))) cs.length
    (fun i e H' => ∃ q, PlAt H' 0 o (dir == 2) q ∧ q.length = l.length ∧ (∀ p, p ∈ q → p.ok) ∧ e = [(7, .pointer (some ⟨0, 0, none⟩)), (8, lv encP q), (9, .bool (dir == 2)), (29, lv encC cs), (30, .int .i64 cs.length), (31, .int .i64 i)])
    (fun x e H' => x = .exit 0 ∧ ∃ q, PlAt H' 0 o (dir == 2) q ∧ q.length = l.length ∧ e = [(7, .pointer (some ⟨0, 0, none⟩)), (8, lv encP q), (9, .bool (dir == 2)), (29, lv encC cs), (30, .int .i64 cs.length), (31, .int .i64 cs.length), (32, .bool false)])
    (e0 := [(7, .pointer (some ⟨0, 0, none⟩)), (8, lv encP (newPl l)), (9, .bool (dir == 2)), (29, lv encC cs), (30, .int .i64 cs.length), (31, .int .i64 0)]) (H0 := H1) ⟨_, p1, by simp, newPl_ok l, rfl⟩ (by omega)
    (fun i e H' hi ⟨q, hp, hql, hok, he⟩ => by
      subst he
      obtain ⟨c, hc⟩ : ∃ c, cs[i]? = some c := ⟨cs[i], List.getElem?_eq_getElem hi⟩
      have hlt : (i : Int) < cs.length := by omega
      have hix := ixS_lvN encC_len cs .i64 i c hc
      have hpp := hp.ext ((Ext.refl H').push ⟨encC c, 1, false⟩)
      -- the change
      have key : ∀ H2 : Heap, Keeps (fpP 0 o) (H'.push ⟨encC c, 1, false⟩) H2 → H2.get H'.n = some ⟨encC c, 1, false⟩ := fun H2 hk => by
        rw [hk.2 H'.n (by simp) (by
          have h1 := hp.lt
          have h2 := hp.lto
          cases o with
          | none => simp [fpP]; omega
          | some b => have := h2 b rfl; simp [fpP]; omega), Heap.get_push, if_pos rfl]
      have fin : ∀ H2 : Heap, PlAt H2 0 o (dir == 2) (chgPl (dir == 2) c q) → ∀ a95, swashlaw21_PlaceDoes_j1 43 (R (T 43)) (.pointer (some ⟨0, 0, none⟩)) (lv encP (chgPl (dir == 2) c q)) (.bool (dir == 2)) (lv encC cs) (.int .i64 cs.length) (.int .i64 i) H2 = .ok (.normal, [(7, .pointer (some ⟨0, 0, none⟩)), (8, lv encP (chgPl (dir == 2) c q)), (9, .bool (dir == 2)), (29, lv encC cs), (30, .int .i64 cs.length), (31, .int .i64 (i + 1 : Nat))]) H2 ∧ swashlaw21_PlaceDoes_j2 43 (R (T 43)) (.pointer (some ⟨0, 0, none⟩)) (lv encP (chgPl (dir == 2) c q)) (.bool (dir == 2)) (lv encC cs) (.int .i64 cs.length) (.int .i64 i) a95 H2 = .ok (.normal, [(7, .pointer (some ⟨0, 0, none⟩)), (8, lv encP (chgPl (dir == 2) c q)), (9, .bool (dir == 2)), (29, lv encC cs), (30, .int .i64 cs.length), (31, .int .i64 (i + 1 : Nat))]) H2 := fun H2 h2 a95 => by
        have ha := All_run 43 (by omega) h2 (by rw [chgPl_len]; omega)
        have hs := refSame_run 43 (chgPl (dir == 2) c q) (chgPl (dir == 2) c q) (by rw [chgPl_len]; omega) H2
        rw [swashlaw21_PlaceDoes_j1_eq, swashlaw21_PlaceDoes_j2_eq]
        constructor <;> simp -implicitDefEqProofs (disch := omega) [ha, hs]
      have hlq : q.length ≤ 2 ^ 20 := by omega
      have ok2 := chgPl_ok (dir == 2) c hok
      have ln2 := chgPl_len (dir == 2) c q
      obtain ⟨w, ci, cn, cm⟩ := c
      by_cases c0 : w = 0
      · subst c0
        obtain ⟨H2, r1, p2, k2⟩ := Along_run 43 hpp hok ci cn
        have p2' := p2
        rw [updPl_congr hok ci (g := fun p => ⟨addI p.adv cn, addI p.x 0, addI p.y 0⟩) fun p hp => by rw [addI_0 hp.2.1, addI_0 hp.2.2]] at p2'
        have g2 := key H2 k2
        have rr : R (T 43) F.swashref21_More [lv encP q, .int .i64 ci, .int .i64 cn, .int .i64 0, .int .i64 0] H2 = .ok (lv encP (chgPl (dir == 2) ⟨0, ci, cn, cm⟩ q)) H2 := by
          rw [refMore_run 43 q ci cn 0 0 hlq hok]; simp [chgPl]
        have p3 : PlAt H2 0 o (dir == 2) (chgPl (dir == 2) ⟨0, ci, cn, cm⟩ q) := by
          simpa [chgPl] using p2'
        refine .inl ⟨_, H2, ?_, _, p3, by rw [ln2, hql], ok2, rfl⟩
        rw [swashlaw21_PlaceDoes_l1_eq]
        simp -implicitDefEqProofs (disch := omega) [hlt, hix, r1, g2, rr, (fin H2 p3 undef).1]
      by_cases c1 : w = 1
      · subst c1
        obtain ⟨H2, r1, p2, k2⟩ := Across_run 43 hpp hok ci cn
        have p2' : PlAt H2 0 o (dir == 2) (acrossPl q (dir == 2) ci cn) := by
          unfold acrossPl
          cases hd : (dir == 2)
          · rw [hd] at p2; rw [if_neg (by simp), ← updPl_congr hok ci (f := fun q => if false = true then ⟨q.adv, addI q.x cn, q.y⟩ else ⟨q.adv, q.x, addI q.y cn⟩) fun p hp => by rw [if_neg (by simp), addI_0 hp.1, addI_0 hp.2.1]]; exact p2
          · rw [hd] at p2; rw [if_pos rfl, ← updPl_congr hok ci (f := fun q => if true = true then ⟨q.adv, addI q.x cn, q.y⟩ else ⟨q.adv, q.x, addI q.y cn⟩) fun p hp => by rw [if_pos rfl, addI_0 hp.1, addI_0 hp.2.2]]; exact p2
        have g2 := key H2 k2
        have rr : R (T 43) F.swashref21_Across [lv encP q, .bool (dir == 2), .int .i64 ci, .int .i64 cn] H2 = .ok (lv encP (chgPl (dir == 2) ⟨1, ci, cn, cm⟩ q)) H2 := by
          rw [refAcross_run 43 q (dir == 2) ci cn hlq hok]; simp [chgPl]
        have p3 : PlAt H2 0 o (dir == 2) (chgPl (dir == 2) ⟨1, ci, cn, cm⟩ q) := by
          simpa [chgPl] using p2'
        refine .inl ⟨_, H2, ?_, _, p3, by rw [ln2, hql], ok2, rfl⟩
        rw [swashlaw21_PlaceDoes_l1_eq]
        simp -implicitDefEqProofs (disch := omega) [hlt, hix, r1, g2, rr, (fin H2 p3 undef).1]
      by_cases c2 : w = 2
      · subst c2
        obtain ⟨H2, r1, p2, k2⟩ := Level_run 43 hpp hok ci
        have g2 := key H2 k2
        have rr : R (T 43) F.swashref21_Level [lv encP q, .bool (dir == 2), .int .i64 ci] H2 = .ok (lv encP (chgPl (dir == 2) ⟨2, ci, cn, cm⟩ q)) H2 := by
          rw [refLevel_run 43 q (dir == 2) ci hlq]; simp [chgPl]
        have p3 : PlAt H2 0 o (dir == 2) (chgPl (dir == 2) ⟨2, ci, cn, cm⟩ q) := by
          simpa [chgPl] using p2
        refine .inl ⟨_, H2, ?_, _, p3, by rw [ln2, hql], ok2, rfl⟩
        rw [swashlaw21_PlaceDoes_l1_eq]
        simp -implicitDefEqProofs (disch := omega) [hlt, hix, r1, g2, rr, (fin H2 p3 undef).1]
      by_cases c3 : w = 3
      · subst c3
        obtain ⟨H2, r1, p2, k2⟩ := Shift_run 43 hpp hok ci cn cm
        have p2' := p2
        rw [updPl_congr hok ci (g := fun p => ⟨addI p.adv 0, addI p.x cn, addI p.y cm⟩) fun p hp => by rw [addI_0 hp.1]] at p2'
        have g2 := key H2 k2
        have rr : R (T 43) F.swashref21_More [lv encP q, .int .i64 ci, .int .i64 0, .int .i64 cn, .int .i64 cm] H2 = .ok (lv encP (chgPl (dir == 2) ⟨3, ci, cn, cm⟩ q)) H2 := by
          rw [refMore_run 43 q ci 0 cn cm hlq hok]; simp [chgPl]
        have p3 : PlAt H2 0 o (dir == 2) (chgPl (dir == 2) ⟨3, ci, cn, cm⟩ q) := by
          simpa [chgPl] using p2'
        refine .inl ⟨_, H2, ?_, _, p3, by rw [ln2, hql], ok2, rfl⟩
        rw [swashlaw21_PlaceDoes_l1_eq]
        simp -implicitDefEqProofs (disch := omega) [hlt, hix, r1, g2, rr, (fin H2 p3 undef).1]
      by_cases c4 : w = 4
      · subst c4
        obtain ⟨H2, r1, p2, k2⟩ := Turn_run 43 hpp (by omega)
        have g2 := key H2 k2
        have rr : R (T 43) F.swashref21_Turn [lv encP q] H2 = .ok (lv encP (chgPl (dir == 2) ⟨4, ci, cn, cm⟩ q)) H2 := by
          rw [refTurn_run 43 q hlq]; simp [chgPl]
        have p3 : PlAt H2 0 o (dir == 2) (chgPl (dir == 2) ⟨4, ci, cn, cm⟩ q) := by
          simpa [chgPl] using p2
        refine .inl ⟨_, H2, ?_, _, p3, by rw [ln2, hql], ok2, rfl⟩
        rw [swashlaw21_PlaceDoes_l1_eq]
        simp -implicitDefEqProofs (disch := omega) [hlt, hix, r1, g2, rr, (fin H2 p3 undef).1]
      · have he : chgPl (dir == 2) ⟨w, ci, cn, cm⟩ q = q := by simp [chgPl, c0, c1, c2, c3, c4]
        rw [he] at fin
        refine .inl ⟨_, _, ?_, _, hpp, hql, hok, rfl⟩
        rw [swashlaw21_PlaceDoes_l1_eq]
        have b0 : (w == 0) = false := by simpa using c0
        have b1 : (w == 1) = false := by simpa using c1
        have b2 : (w == 2) = false := by simpa using c2
        have b3 : (w == 3) = false := by simpa using c3
        have b4 : (w == 4) = false := by simpa using c4
        simp -implicitDefEqProofs (disch := omega) [hlt, hix, b0, b1, b2, b3, b4, (fin _ hpp _).2])
    (fun e H' ⟨q, hp, hql, hok, he⟩ => by
      subst he
      refine ⟨.exit 0, _, H', ?_, by simp, rfl, q, hp, hql, rfl⟩
      rw [swashlaw21_PlaceDoes_l1_eq]
      simp -implicitDefEqProofs)
  refine ⟨H3, ?_, .empty H3⟩
  have ha := All_run 43 (by omega) hq1 (by omega)
  have hs := refSame_run 43 q q (by omega) H3
  have hn := Len_run 43 hq1
  simp -implicitDefEqProofs [swashlaw21_PlaceDoes, speaks21_run, hl, hl2, e1, refNew_run 43 l (by omega), hr, swashlaw21_PlaceDoes_l1k_x0, ha, hs, hn]
end Go.Sw
