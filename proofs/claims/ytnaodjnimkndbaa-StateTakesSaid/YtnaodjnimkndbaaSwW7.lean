/-
  Functions' forms, and what is proved of them, part 7.
-/
import Derived.Test.YtnaodjnimkndbaaSwW6
import Derived.Test.YtnaodjnimkndbaaSwCfg
import Derived.Test.YtnaodjnimkndbaaSwLib8
import Derived.Tactics
import Derived.Tactics2
import Derived.Defers
import Derived.Recover
import Derived.Laws.Pointers
import Derived.Test.YtnaodjnimkndbaaSwW3
import Derived.Eval
set_option linter.unusedSimpArgs false
set_option linter.unusedVariables false
set_option linter.unusedSectionVars false
section
namespace Go.Sw
open Go.RowKit
theorem speaks07_run (k : Nat) (hk : k % 1000000 = F.swashlaw07_speaks) (H : Heap) : R (T k) F.swashlaw07_speaks [] H = .ok (.bool true) H :=
  (R_sp (t := T k) (T_scott k) (s := constSp (.bool true)) (by unfold T C; dsimp only; rw [hk]; kernel_rfl) [] H).trans (nrm_gc (Pure.of rfl) (.bool _))
theorem veq_RP (l : List RP) : veq (lv encRP l) (lv encRP l) = true := veq_lv fun p _ v hv => by
  simp [encRP] at hv
  rcases hv with rfl | rfl | rfl | rfl | rfl <;> simp
theorem veq_rm (r : RMach) : veq (rmV r) (rmV r) = true := veq_agg fun v hv => by
  simp [rmCells] at hv
  rcases hv with rfl | rfl | rfl | rfl | rfl | rfl | rfl | rfl | rfl
  · simp
  · simp
  · simp
  · simp
  · simp
  · simp
  · simp
  · simp
  · exact veq_RP _
theorem veq_En (a b c d : Int) : veq (.agg #[.int .i64 a, .int .i64 b, .int .i64 c, .int .i64 d]) (.agg #[.int .i64 a, .int .i64 b, .int .i64 c, .int .i64 d]) = true := veq_agg (l := [.int .i64 a, .int .i64 b, .int .i64 c, .int .i64 d]) fun v hv => by
  simp at hv
  rcases hv with rfl | rfl | rfl | rfl <;> simp
theorem step7_run (k : Nat) {b : List Int} (hb : Byt b) {g w : Int} (hw : w = 0 ∨ w = 1 ∨ w = 2) (hl : b.length < 2 ^ 31) {m : Mach} (hm : m.ok) (h : machS b g w = some m) (s c : Int) (H : Heap) :
    R (T k) F.swashref07_Step [rmV (rmOf b g w m), .int .i64 s, .int .i64 c] H = .ok (.tuple #[encEA (stepS m s c), .bool (stepS m s c).isSome]) H := by
  rw [swashref07_Step_R]
  have fl : Flat (.tuple #[encEA (stepS m s c), .bool (stepS m s c).isSome]) := .tupleL (.cons (encEA_flat _) (.cons (.bool _) .nil))
  have no : ¬ (0 ≤ s ∧ s < m.rows.length ∧ 0 ≤ c ∧ c < m.classes) → stepS m s c = none := fun h => by unfold stepS; rw [if_neg h]
  have hx1 : Ext H (H.push ⟨rmCells b m.classes (gU b 8 4) (gU b 12 4) m.rows.length m.ents.length w (b.drop (gU b 4 4).toNat) ((refReadS (b.drop (gU b 4 4).toNat) g 2).getD []), 1, false⟩) := (Ext.refl H).push _
  have hx := hx1.push ⟨[.int .i64 0, .int .i64 0, .int .i64 0, .int .i64 0], 1, false⟩
  obtain ⟨r, hr⟩ : ∃ r, r = rmOf b g w m := ⟨_, rfl⟩
  have hent := fun i h0 h6 e he H => entry7_run k hb (g := g) hw hl h (i := i) h0 h6 (e := e) he H
  rw [← hr] at hent ⊢
  have r1 : r.states = m.rows.length := by rw [hr]; rfl
  have r2 : r.cl = m.classes := by rw [hr]; rfl
  have r3 : r.rowsAt = gU b 8 4 := by rw [hr]; rfl
  have r4 : r.b = b := by rw [hr]; rfl
  have hx1 : Ext H (H.push ⟨rmCells r.b r.cl r.rowsAt r.entsAt r.states r.n r.words r.tb r.parts, 1, false⟩) := (Ext.refl H).push _
  have hx := hx1.push ⟨[.int .i64 0, .int .i64 0, .int .i64 0, .int .i64 0], 1, false⟩
  have hcl := hm.cl
  by_cases h1 : s < 0
  · rw [no (by omega)] at fl ⊢
    refine nrm_gc ⟨_, ?_, hx⟩ fl.alive
    simp -implicitDefEqProofs (disch := omega) [swashref07_Step, h1, encEA]
  by_cases h2 : s ≥ m.rows.length
  · rw [no (by omega)] at fl ⊢
    refine nrm_gc ⟨_, ?_, hx⟩ fl.alive
    simp -implicitDefEqProofs (disch := omega) [swashref07_Step, h1, h2, r1, encEA]
  by_cases h3 : c < 0
  · rw [no (by omega)] at fl ⊢
    refine nrm_gc ⟨_, ?_, hx⟩ fl.alive
    simp -implicitDefEqProofs (disch := omega) [swashref07_Step, h1, h2, h3, r1, encEA]
  by_cases h4 : c ≥ m.classes
  · rw [no (by omega)] at fl ⊢
    refine nrm_gc ⟨_, ?_, hx⟩ fl.alive
    simp -implicitDefEqProofs (disch := omega) [swashref07_Step, h1, h2, h3, h4, r1, r2, encEA]
  obtain ⟨row, x, e, hrow, hxx, hx0, he, hs⟩ := stepS_some hm (s := s) (c := c) (by omega)
  rw [hs] at fl ⊢
  obtain ⟨hj, _, _, hat⟩ := mach_at hb (by omega) h
  have hpos := hat s.toNat c.toNat row x hrow hxx
  have hxm := (hm.row row (List.mem_of_getElem? hrow)).2 x (List.mem_of_getElem? hxx)
  have hel := hm.elen
  have htwo := hm.two
  obtain ⟨s, rfl⟩ := Int.eq_ofNat_of_zero_le (show 0 ≤ s by omega)
  obtain ⟨c, rfl⟩ := Int.eq_ofNat_of_zero_le (show 0 ≤ c by omega)
  simp only [Int.toNat_natCast] at hpos
  have hm0 : 0 ≤ (s : Int) * m.classes := Int.mul_nonneg (by omega) (by omega)
  have hm1 : (s : Int) * m.classes ≤ 65536 * 65535 := Int.mul_le_mul (by omega) (by omega) (by omega) (by omega)
  have hpe : gU b 8 4 + (m.classes * (s : Int) + (c : Nat)) * 2 = gU b 8 4 + 2 * ((s : Int) * m.classes + (c : Int)) := by rw [Int.mul_comm m.classes]; omega
  rw [hpe] at hpos
  have hU := fun j H' => refU_run k (H := H') (Sl.lv H' 1 b) hb j 2 (by omega) (by omega)
  have hu : ∀ H', R (T k) F.swashref01_U [lv encB b, .int .i64 (gU b 8 4 + 2 * ((s : Int) * m.classes + (c : Int))), .int .i64 2] H' = .ok (.int .i64 x) H' := fun H' => by
    rw [hU]; unfold gU at hpos; rw [hpos]; rfl
  have he' := hent x hx0 (by omega) e he
  have hq := veq_rm r
  refine nrm_gc ⟨(H.push ⟨rmCells r.b r.cl r.rowsAt r.entsAt r.states r.n r.words r.tb r.parts, 1, false⟩).push ⟨encEn e, 1, false⟩, ?_, hx1.push _⟩ fl.alive
  simp only [rmV, rmCells, r1, r2, r3, r4] at he' hq ⊢
  simp -implicitDefEqProofs (disch := omega) at he' hq ⊢
  simp -implicitDefEqProofs (disch := omega) [swashref07_Step, h1, h2, h3, h4, hu, he', hq, encEA]
theorem Entries_any (k : Nat) (m : Mach) (hl : m.ents.length ≤ 65536) (H : Heap) : ∃ s H', R (T k) F.state_Machine_Entries [machV m] H = .ok s H' ∧ Sl H' 4 s encEn m.ents ∧ Ext H H' := by
  by_cases hk : k < 1000000
  · exact ⟨_, H, Entries_run k hk m hl H, Sl.lv _ _ _, Ext.refl H⟩
  · obtain ⟨s, o, H', e, g⟩ := Entries_own k (by omega) m hl (Star.nil H)
    exact ⟨s, H', e, (g.own 0 rfl).sl encEn_len, g.ext⟩
theorem same_l3 (k : Nat) {b : List Int} (hb : Byt b) {g w : Int} (hw : w = 0 ∨ w = 1 ∨ w = 2) (hl : b.length < 2 ^ 31) {m : Mach} (hm : m.ok) (h : machS b g w = some m) (s : Int) {r : RMach} (hr : r = rmOf b g w m) (p : Nat) (H : Heap)
    (hp : H.get p = some ⟨rmCells r.b r.cl r.rowsAt r.entsAt r.states r.n r.words r.tb r.parts, 1, false⟩) :
    ∃ a H', loopN (swashlaw07_same_l3 k (R (T k))) loopFuel [(0, machV m), (3, ptrV p), (7, .int .i64 s), (8, .int .i64 (-1))] H = .ok (.exit 4, [(0, machV m), (3, ptrV p), (7, .int .i64 s), (8, a), (56, .bool false)]) H' ∧ Ext H H' := by
  have hcl := hm.cl
  have r2 : r.cl = m.classes := by rw [hr]; rfl
  obtain ⟨x, e', H1, hr', rfl, ⟨a, rfl⟩, hx⟩ := loop_up (body := swashlaw07_same_l3 k (R (T k))) (m.classes.toNat + 2)
    (fun j e H' => e = [(0, machV m), (3, ptrV p), (7, .int .i64 s), (8, .int .i64 ((j : Int) - 1))] ∧ Ext H H')
    (fun x e H' => x = .exit 4 ∧ (∃ a, e = [(0, machV m), (3, ptrV p), (7, .int .i64 s), (8, a), (56, .bool false)]) ∧ Ext H H')
    (e0 := [(0, machV m), (3, ptrV p), (7, .int .i64 s), (8, .int .i64 (-1))]) (H0 := H) ⟨rfl, Ext.refl H⟩ (by omega)
    (fun j e H' hj ⟨he, hx⟩ => by
      subst he
      have hlt : (j : Int) - 1 ≤ m.classes := by omega
      have hp' := hx.get hp
      have hpn : ¬ p = H'.n := by have := Heap.get_lt hp'; omega
      have h1 := fun H => Step_run k m hm s ((j : Int) - 1) H
      have h2 := fun H => step7_run k hb (g := g) hw hl hm h s ((j : Int) - 1) H
      rw [← hr] at h2
      generalize stepS m s ((j : Int) - 1) = o at h1 h2
      have hj1 : (j : Int) - 1 + 1 = ((j + 1 : Nat) : Int) - 1 := by omega
      refine .inl ⟨_, (H'.push ⟨encEn (o.getD ⟨0, 0, 0, 0⟩), 1, false⟩).push ⟨encEn (o.getD ⟨0, 0, 0, 0⟩), 1, false⟩, ?_, rfl, (hx.push _).push _⟩
      rw [swashlaw07_same_l3_eq, ← hj1]
      simp only [rmV, rmCells] at h2 hp'
      unfold encEA at h1 h2
      rw [r2] at h2 hp'
      simp -implicitDefEqProofs (disch := omega) [hp', hpn, r2, hlt, h1, h2, bne])
    (fun e H' ⟨he, hx⟩ => by
      subst he
      have hp' := hx.get hp
      have hlt : ¬ ((m.classes.toNat + 2 : Nat) : Int) - 1 ≤ m.classes := by omega
      refine ⟨.exit 4, _, H', ?_, by simp, rfl, ⟨.int .i64 (((m.classes.toNat + 2 : Nat) : Int) - 1), rfl⟩, hx⟩
      rw [swashlaw07_same_l3_eq]
      rw [r2] at hp'
      have e1 : ∀ H', ld1 (.pointer (some ⟨p, 0 + 1, none⟩)) H' = opt ((H'.get p).bind fun k => k.cells[0 + 1]?) H' := fun H' => rfl
      simp -implicitDefEqProofs (disch := omega) only [fa_137_1, faR_ptr, Res.bind_ok, ld_3, ld1_ptr, hp', Option.bind_some, bin_leq, hlt, decide_false, condV_bool, Bool.false_eq_true, if_false, rmCells, Nat.zero_add, gS, g0, optR_some])
  exact ⟨a, H1, hr', hx⟩
theorem same_run (k : Nat) {b : List Int} (hb : Byt b) {g w : Int} (hw : w = 0 ∨ w = 1 ∨ w = 2) (hl : b.length < 2 ^ 31) {m : Mach} (hm : m.ok) (h : machS b g w = some m) (H : Heap) :
    R (T k) F.swashlaw07_same [machV m, rmV (rmOf b g w m)] H = .ok (.bool true) H := by
  rw [swashlaw07_same_R]
  have hent := fun i h0 h6 e he H => entry7_run k hb (g := g) hw hl h (i := i) h0 h6 (e := e) he H
  obtain ⟨r, hr⟩ : ∃ r, r = rmOf b g w m := ⟨_, rfl⟩
  rw [← hr] at hent ⊢
  have r1 : r.states = m.rows.length := by rw [hr]; rfl
  have r2 : r.cl = m.classes := by rw [hr]; rfl
  have r5 : r.n = m.ents.length := by rw [hr]; rfl
  obtain ⟨B, hB⟩ : ∃ B : Blk, B = ⟨rmCells r.b r.cl r.rowsAt r.entsAt r.states r.n r.words r.tb r.parts, 1, false⟩ := ⟨_, rfl⟩
  have hx0 : Ext H (H.push B) := (Ext.refl H).push _
  obtain ⟨s1, H1, e1, l1, x1⟩ := Entries_any k m hm.elen (H.push B)
  obtain ⟨s2, H2, e2, l2, x2⟩ := Entries_any k m hm.elen H1
  have g1 : H1.get H.n = some B := x1.get (get_push_eq _ _ _ rfl)
  have g2 : H2.get H.n = some B := x2.get g1
  have hcl := fun H => Classes_run k m H
  have hst := fun H => States_run k m H
  have hel := hm.elen
  have htwo := hm.two
  -- the entries
  obtain ⟨x, e', H3, hr3, rfl, ⟨a, rfl⟩, x3⟩ := loop_up (body := swashlaw07_same_l1 k (R (T k))) m.ents.length
    (fun j e H' => e = [(0, machV m), (3, ptrV H.n), (34, s2), (35, .int .i64 m.ents.length), (36, .int .i64 j)] ∧ Ext H2 H')
    (fun x e H' => x = .exit 0 ∧ (∃ a, e = [(0, machV m), (3, ptrV H.n), (34, s2), (35, .int .i64 m.ents.length), (36, a), (37, .bool false)]) ∧ Ext H2 H')
    (e0 := [(0, machV m), (3, ptrV H.n), (34, s2), (35, .int .i64 m.ents.length), (36, .int .i64 0)]) (H0 := H2) ⟨rfl, Ext.refl _⟩ (by omega)
    (fun j e H' hj ⟨he, hx⟩ => by
      subst he
      have hlt : (j : Int) < m.ents.length := by omega
      obtain ⟨en, hen⟩ : ∃ en, m.ents[j]? = some en := ⟨_, List.getElem?_eq_getElem hj⟩
      obtain ⟨p, p1, p2⟩ := ((l2.up hx).rd (by decide) encEn_len).2 j en hen
      have hp := hx.get g2
      rw [hB] at hp
      have hpn : ¬ H.n = H'.n := by have := Heap.get_lt hp; omega
      have h2 := hent j (by omega) (by omega) en (by simpa using hen)
      simp only [rmV] at h2
      refine .inl ⟨_, H'.push ⟨encEn en, 1, false⟩, ?_, rfl, hx.push _⟩
      rw [swashlaw07_same_l1_eq]
      simp -implicitDefEqProofs (disch := omega) [hlt, p1, p2, hp, hpn, h2, bne, veq_En])
    (fun e H' ⟨he, hx⟩ => by
      subst he
      refine ⟨.exit 0, _, H', ?_, by simp, rfl, ⟨.int .i64 m.ents.length, rfl⟩, hx⟩
      rw [swashlaw07_same_l1_eq]
      simp -implicitDefEqProofs)
  have g3 := x3.get g2
  -- the steps
  obtain ⟨x, e', H4, hr4, rfl, ⟨a, rfl⟩, x4⟩ := loop_up (body := swashlaw07_same_l2 k (R (T k))) (m.rows.length + 2)
    (fun j e H' => e = [(0, machV m), (3, ptrV H.n), (7, .int .i64 ((j : Int) - 1))] ∧ Ext H3 H')
    (fun x e H' => x = .exit 2 ∧ (∃ a, e = [(0, machV m), (3, ptrV H.n), (7, a), (50, .bool false)]) ∧ Ext H3 H')
    (e0 := [(0, machV m), (3, ptrV H.n), (7, .int .i64 (-1))]) (H0 := H3) ⟨rfl, Ext.refl _⟩ (by omega)
    (fun j e H' hj ⟨he, hx⟩ => by
      subst he
      have hlt : (j : Int) - 1 ≤ m.rows.length := by omega
      have hp := hx.get g3
      rw [hB] at hp
      obtain ⟨a, H5, e5, x5⟩ := same_l3 k hb hw hl hm h ((j : Int) - 1) hr H.n H' hp
      have hj1 : (j : Int) - 1 + 1 = ((j + 1 : Nat) : Int) - 1 := by omega
      refine .inl ⟨_, H5, ?_, rfl, hx.trans x5⟩
      rw [swashlaw07_same_l2_eq, ← hj1]
      rw [r1] at hp
      simp -implicitDefEqProofs (disch := omega) [hp, hlt, e5, swashlaw07_same_l3k_x4])
    (fun e H' ⟨he, hx⟩ => by
      subst he
      have hp := hx.get g3
      rw [hB, r1] at hp
      have hlt : ¬ ((m.rows.length + 2 : Nat) : Int) - 1 ≤ m.rows.length := by omega
      refine ⟨.exit 2, _, H', ?_, by simp, rfl, ⟨.int .i64 (((m.rows.length + 2 : Nat) : Int) - 1), rfl⟩, hx⟩
      rw [swashlaw07_same_l2_eq]
      simp -implicitDefEqProofs (disch := omega) only [fa_137_4, faR_ptr, Res.bind_ok, ld_3, ld1_ptr, hp, Option.bind_some, bin_leq, hlt, decide_false, condV_bool, Bool.false_eq_true, if_false, rmCells, Nat.zero_add, gS, g0, optR_some])
  refine nrm_gc ⟨H4, ?_, hx0.trans (x1.trans (x2.trans (x3.trans x4)))⟩ (.bool _)
  rw [hB] at e1 g1
  have q1 := fun H' => l1.len H'
  have q2 := fun H' => l2.len H'
  rw [r1, r2, r5] at g1 e1
  simp only [rmV, rmCells, r1, r2, r5] at *
  simp -implicitDefEqProofs (disch := omega) [swashlaw07_same, hcl, hst, bne, e1, e2, g1, q1, q2, hr3, swashlaw07_same_l1k_x0, hr4, swashlaw07_same_l2k_x2]
theorem StateTakes_in1 (k : Nat) {H : Heap} {v : Value} {b : List Int} (hv : Sl H 1 v encB b) (hb : Byt b) (w : Int) (hw : w = 0 ∨ w = 1 ∨ w = 2) (hl : b.length < 2 ^ 31) (p1 p2 p3 : Nat) (old : Value)
    (h1 : H.get p1 = some ⟨[v], 1, false⟩) (h2 : H.get p2 = some ⟨[.int .i64 w], 1, false⟩) (h3 : H.get p3 = some ⟨[old], 1, false⟩) :
    R (T k) F.swashlaw07_StateTakes_in1 [ptrV p1, ptrV p2, ptrV p3] H = match machS b 30 w with
      | some x => .ok (.tuple #[]) (H.set p3 (some ⟨[machV x], 1, false⟩))
      | none => .panic failV H := by
  rw [swashlaw07_StateTakes_in1_R]
  have ht := stateTake_run k hv hb 30 w (by omega) (by omega) hw hl
  cases h : machS b 30 w with
  | none =>
    rw [h] at ht
    refine nrm_throw ⟨H, ?_, Ext.refl H⟩ Flat.fail.alive
    simp -implicitDefEqProofs (disch := omega) [swashlaw07_StateTakes_in1, h1, h2, Of_run k hv, ht]
  | some x =>
    rw [h] at ht
    simp -implicitDefEqProofs (disch := omega) [swashlaw07_StateTakes_in1, h1, h2, h3, Of_run k hv, ht]
theorem mod3 {n : Int} (h0 : 0 ≤ n) : n.tmod 3 = n % 3 := Int.tmod_eq_emod_of_nonneg h0
theorem StateTakes_run (b : List Int) (hb : Byt b) (n : Int) (hn : 0 ≤ n ∧ n < 256) : R (T F.swashlaw07_speaks) F.swashlaw07_StateTakes [lv encB b, .int .u8 n] Heap.empty = .ok (.bool true) Heap.empty := by
  generalize hk : F.swashlaw07_speaks = k
  have hs := speaks07_run k (by subst hk; rfl)
  clear hk
  rw [swashlaw07_StateTakes_R]
  generalize Heap.empty = H
  have hx1 : Ext H (H.push ⟨[lv encB b], 1, false⟩) := (Ext.refl H).push _
  by_cases hl : b.length > 600
  · have hl' : (b.length : Int) > 600 := by omega
    refine nrm_gc ⟨_, ?_, hx1⟩ (.bool _)
    simp -implicitDefEqProofs (disch := omega) [swashlaw07_StateTakes, hs, hl']
  have hl' : ¬ (b.length : Int) > 600 := by omega
  have h3 : (3 : Int) ≠ 0 := by decide
  have hrem := fun H => bin_rem Prog 3 H .i64 n 3 h3
  rw [mod3 hn.1] at hrem
  obtain ⟨w, hw⟩ : ∃ w, w = n % 3 := ⟨_, rfl⟩
  rw [← hw] at hrem
  have hw2 : w = 0 ∨ w = 1 ∨ w = 2 := by omega
  have hx2 := (hx1.push ⟨[.int .i64 w], 1, false⟩).push ⟨[.pointer none], 1, false⟩
  have hin := StateTakes_in1 k (H := ((H.push ⟨[lv encB b], 1, false⟩).push ⟨[.int .i64 w], 1, false⟩).push ⟨[.pointer none], 1, false⟩) (Sl.lv _ 1 b) hb w hw2 (by omega) H.n (H.n + 1) (H.n + 2) (.pointer none) (by simp) (by simp) (by simp)
  have hrd := fun H' => ref7Read_run k b hb 30 w (by omega) hw2 (by omega) H'
  unfold refMachS rmO at hrd
  cases h : machS b 30 w with
  | none =>
    rw [h] at hin hrd
    simp at hrd
    have ht := Try_no k F.swashlaw07_StateTakes_in1 #[ptrV H.n, ptrV (H.n + 1), ptrV (H.n + 2)] hin
    refine nrm_gc ⟨_, ?_, hx2.push ⟨rmCells [] 0 0 0 0 0 0 [] [], 1, false⟩⟩ (.bool _)
    simp -implicitDefEqProofs (disch := omega) [swashlaw07_StateTakes, hs, hl', hrem, ht, hrd]
  | some m =>
    rw [h] at hin hrd
    simp at hrd
    have ht := Try_ok k F.swashlaw07_StateTakes_in1 #[ptrV H.n, ptrV (H.n + 1), ptrV (H.n + 2)] hin
    simp at ht
    have hok := machS_ok hb (by omega) (by omega) (by omega) h
    have hsame := fun H => same_run k hb hw2 (by omega) hok h H
    generalize rmOf b 30 w m = r at hsame hrd
    refine nrm_gc ⟨_, ?_, (((hx1.push ⟨[.int .i64 w], 1, false⟩).push ⟨[machV m], 1, false⟩).push ⟨rmCells r.b r.cl r.rowsAt r.entsAt r.states r.n r.words r.tb r.parts, 1, false⟩)⟩ (.bool _)
    simp -implicitDefEqProofs (disch := omega) [swashlaw07_StateTakes, hs, hl', hrem, ht, hrd, hsame]
theorem StateTakes_args (vs : List Value) (h : ArgsLay [.one (.slice [.int .u8]), .one (.int .u8)] vs) : ∃ H', R (T F.swashlaw07_speaks) F.swashlaw07_StateTakes vs Heap.empty = .ok (.bool true) H' := by
  obtain ⟨v1, _, rfl, h1, h⟩ := h.head
  obtain ⟨v2, _, rfl, h2, h⟩ := h.head
  obtain rfl := h.done
  obtain ⟨b, rfl, hb⟩ := arg_B h1
  obtain ⟨n, rfl, hn⟩ := arg_i h2
  exact ⟨_, StateTakes_run b hb n (wf_u8 hn)⟩
end Go.Sw
end
section
namespace Go.Sw
open Go.RowKit Go.Proofs
set_option maxRecDepth 20000 in
theorem catch_short (p : Addr) (b : Bool) (w : World) (hc : (w.alloc (.cells #[] 233)).cell? p = some (.bool b)) (hz : (w.alloc (.cells #[] 233)).frozen? p = false) :
    CallsD Prog 160 #[.pointer (some p)] (.panicking [{ v := .iface 233 (.agg #[]), recovered := false }]) w fun e u' w' =>
      e = .returned (.tuple #[]) ∧ u' = .panicking [{ v := .iface 233 (.agg #[]), recovered := true }] ∧ w' = (w.alloc (.cells #[] 233)).setCell p (.bool false) := by
  refine callsD_of_wpS Try.func160 rfl fun c₀ cs hu => ?_
  apply wpS_seq
  apply wpS_region
  simp [wpOpsS, go_sem, recoverD, hu, Try.ntmps160, Exit.thenS]
  have hta : ∀ w, (Instr.typeAssert (.iface 233 (.agg #[])) 20 233 true).run Prog w = .ok (.tuple #[.agg #[], .bool true]) w := fun w => by kernel_rfl
  refine wpS_of_wp ?_
  go_wp2
  cases c₀
  simp_all [bodyPostS, results, Try.results160]
theorem catch_idle (p : Addr) (w : World) :
    CallsD Prog 160 #[.pointer (some p)] .returning w fun e u' w' => e = .returned (.tuple #[]) ∧ u' = .returning ∧ w' = w := by
  refine callsD_of_wpS Try.func160 rfl fun c₀ cs hu => ?_
  apply wpS_seq
  apply wpS_region
  simp [wpOpsS, go_sem, recoverD, hu, Try.ntmps160, Exit.thenS]
  refine wpS_of_wp ?_
  go_wp2
  cases c₀
  simp_all [bodyPostS, results, Try.results160]
set_option maxRecDepth 20000 in
theorem try_walk (g : FuncId) (first cap : Array Value) (w : World) (R : Ending → World → Prop)
    (hcf : (callFunc g (first ++ cap)).run Prog (w.alloc (.cells #[.bool false] 4)) = .ok (.enter g (first ++ cap)) (w.alloc (.cells #[.bool false] 4)))
    (hcall : Calls Prog g (first ++ cap) (w.alloc (.cells #[.bool false] 4)) fun e w' => match e with
      | .returned _ => w'.heap[w.heap.size]? = some (.cells #[.bool false] 4 (0, 0)) ∧ R (.returned (.bool true)) (w'.setCell ⟨w.heap.size, 0, none⟩ (.bool true))
      | .panicked chain => chain = [{ v := .iface 233 (.agg #[]), recovered := false }] ∧ w'.heap[w.heap.size]? = some (.cells #[.bool false] 4 (0, 0)) ∧ R (.returned (.bool false)) ((w'.alloc (.cells #[] 233)).setCell ⟨w.heap.size, 0, none⟩ (.bool false))
      | .outgrown => False) :
    Calls Prog 77 #[.func (.func g) first cap] w R := by
  have hmf : ∀ (fn : Fn) (first cap : Array Value) (w : World), (Instr.makeFunc fn first cap).run Prog w = .ok (.func fn first cap) w := fun _ _ _ _ => rfl
  go_enter_defers Try.func77, Try.ntmps77
  go_wp2
  rename_i K2 hK2 K1 hK1
  refine hcall.mono fun e w' he => ?_
  cases e with
  | returned v =>
    obtain ⟨h1, h2⟩ := he
    have hc : w'.cell? ⟨w.heap.size, 0, none⟩ = some (.bool false) := by simp [World.cell?, h1]
    have hz : w'.frozen? ⟨w.heap.size, 0, none⟩ = false := by simp [World.frozen?, h1]
    apply hK1
    apply hK2
    go_wp2
    have hc2 : (w'.setCell ⟨w.heap.size, 0, none⟩ (.bool true)).cell? ⟨w.heap.size, 0, none⟩ = some (.bool true) := World.cell?_setCell_same _ _ _ hc
    refine leaves_cons (f := 160) (args := #[.pointer (some ⟨w.heap.size, 0, none⟩)]) (by simp) (by simp [go_sem]) ?_
    refine (catch_idle ⟨w.heap.size, 0, none⟩ _).mono ?_
    rintro e u' w'' ⟨rfl, rfl, rfl⟩
    simp [Leaves, settle, results, Try.results77, go_sem, hc2]
    exact h2
  | panicked chain =>
    obtain ⟨h0, h1, h2⟩ := he
    subst h0
    have hlt : w.heap.size < w'.heap.size := by
      rcases Nat.lt_or_ge w.heap.size w'.heap.size with h | h
      · exact h
      · rw [Array.getElem?_eq_none h] at h1; cases h1
    have h3 : (w'.alloc (.cells #[] 233)).heap[w.heap.size]? = some (.cells #[.bool false] 4 (0, 0)) := by
      rw [heap_alloc_lt _ _ _ hlt]; exact h1
    have hc : (w'.alloc (.cells #[] 233)).cell? ⟨w.heap.size, 0, none⟩ = some (.bool false) := by simp only [World.cell?, h3]; rfl
    have hz : (w'.alloc (.cells #[] 233)).frozen? ⟨w.heap.size, 0, none⟩ = false := by simp [World.frozen?, h3]
    have hc2 : ((w'.alloc (.cells #[] 233)).setCell ⟨w.heap.size, 0, none⟩ (.bool false)).cell? ⟨w.heap.size, 0, none⟩ = some (.bool false) := World.cell?_setCell_same _ _ _ hc
    show Leaves _ _ _ _ _ _ _
    refine leaves_cons (f := 160) (args := #[.pointer (some ⟨w.heap.size, 0, none⟩)]) (by simp) (by simp [go_sem]) ?_
    refine (catch_short ⟨w.heap.size, 0, none⟩ false _ hc hz).mono ?_
    rintro e u' w'' ⟨rfl, rfl, rfl⟩
    simp [Leaves, settle, results, Try.results77, go_sem, hc2]
    exact h2
  | outgrown => exact he.elim
theorem try_is : SpIs Prog 77 (tryV 233) := try_of (bt := 4) Try.func77 rfl (by kernel_rfl) try_walk
end Go.Sw
end
section
namespace Go.Sw
open Go.RowKit
theorem names_ok : NamesOk Prog := NamesOk.of (by kernel_rfl)
theorem mixed_ok : Prog.follows .mixedOrders = true := Checked.mixed Go.Proofs.Try.checked
theorem laid_ok : laidOutB Prog = true := by kernel_rfl
theorem cloneP_is : SpIs Prog F.slices_Clone_of_api_Place_api_Place fun _ args H => cloneV 3 12 args H :=
  clone_is (c := { P := Prog, kp := kpS, sp := fun _ => none }) names_ok mixed_ok (t := 31) (e := 34) (by kernel_rfl) fun call a H => (slices_Clone_of_api_Place_api_Place_body 0 _ call a H).trans (by
    unfold slices_Clone_of_api_Place_api_Place cloneF
    simp only [be_31_0, ap_31, beR_bare])
theorem cloneG_is : SpIs Prog F.slices_Clone_of_api_Glyph_api_Glyph fun _ args H => cloneV 2 16 args H :=
  clone_is (c := { P := Prog, kp := kpS, sp := fun _ => none }) names_ok mixed_ok (t := 50) (e := 55) (by kernel_rfl) fun call a H => (slices_Clone_of_api_Glyph_api_Glyph_body 0 _ call a H).trans (by
    unfold slices_Clone_of_api_Glyph_api_Glyph cloneF
    simp only [be_50_0, ap_50, beR_bare])
theorem more_is (f : FuncId) (s : Sp) (h : moreS f = some s) : SpIs Prog f s := by
  unfold moreS at h
  cases h1 : Nat.beq f 77 with
  | true => have := Nat.eq_of_beq_eq_true h1; subst this; rw [h1, cond_true] at h; injection h with h; subst h; exact try_is
  | false =>
  rw [h1, cond_false] at h
  cases h2 : Nat.beq f 147 with
  | true => have := Nat.eq_of_beq_eq_true h2; subst this; rw [h2, cond_true] at h; injection h with h; subst h; exact cloneP_is
  | false =>
  rw [h2, cond_false] at h
  cases h3 : Nat.beq f 151 with
  | true => have := Nat.eq_of_beq_eq_true h3; subst this; rw [h3, cond_true] at h; injection h with h; subst h; exact cloneG_is
  | false =>
  rw [h3, cond_false] at h
  cases h4 : Nat.beq f 152 with
  | true => rw [h4, cond_true] at h; injection h with h; subst h; exact SpIs.stuck _ _
  | false => rw [h4, cond_false] at h; cases h
theorem T_prog (k : Nat) : (T k).c.P = Prog := by unfold T C; rfl
theorem told_ok {k m : Nat} (hsp : okTrue (run (baseCfg Prog kpS moreS) m (k % 1000000) [] Heap.empty) = true) : SpOk (T k).c := by
  have h0 : CallOk Prog (run (baseCfg Prog kpS moreS) m) := run_ok (c := baseCfg Prog kpS moreS) names_ok mixed_ok (SpOk.base more_is) m
  have h1 : SpOk (C k) := by
    unfold C
    exact SpOk.of (P := Prog) (kp := kpS) (speaks := speaksT) (more := moreS) (k := k % 1000000) h0 hsp more_is
  exact h1
end Go.Sw
end
