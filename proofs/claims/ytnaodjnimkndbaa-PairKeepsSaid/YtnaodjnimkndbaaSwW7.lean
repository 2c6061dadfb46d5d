/-
  Functions' forms, and what is proved of them, part 7.
-/
import Derived.Test.YtnaodjnimkndbaaSwW6
import Derived.Test.YtnaodjnimkndbaaSwCfg
import Derived.Test.YtnaodjnimkndbaaSwLib8
import Derived.Tactics
import Derived.Tactics2
import Derived.Defers
import Derived.Recover
import Derived.Laws.Pointers
import Derived.Test.YtnaodjnimkndbaaSwW3
import Derived.Eval
set_option linter.unusedSimpArgs false
set_option linter.unusedVariables false
set_option linter.unusedSectionVars false
section
namespace Go.Sw
open Go.RowKit
theorem pTake_two {b : List Int} {g : Int} : pTakeS 2 b g = pTabS b 4 g 2 1 := rfl
theorem pTake_six {b : List Int} (hb : Byt b) {g : Int} : pTakeS 6 b g = if gU b 0 4 < 0 then none else if gU b 0 4 % 2 = 1 then pTabS b 8 g 4 4 else pTabS b 8 g 2 2 := by
 unfold pTakeS
 rw [if_neg (by decide), if_neg (by decide), if_pos rfl]
 cases h : uS b 0 4 with
 | none =>
  have : gU b 0 4 = -1 := by unfold gU; rw [h]; rfl
  rw [this, if_pos (by decide)]; rfl
 | some f =>
  have := uS_four hb h
  rw [gU_some h, Option.bind_some, if_neg (show ¬ f < 0 by omega)]
theorem j2_j1 (k : Nat) (c : Caller) (a1 a2 a6 a8 a11 a65 : Value) (h : Heap) : swashref22_Read_j2 k c a1 a2 a6 a8 a11 a65 h = swashref22_Read_j1 k c a1 a2 a6 a8 a11 h := by
 rw [swashref22_Read_j2_eq, swashref22_Read_j1_eq]
theorem j3_j1 (k : Nat) (c : Caller) (a1 a2 a6 a8 a11 a56 : Value) (h : Heap) : swashref22_Read_j3 k c a1 a2 a6 a8 a11 a56 h = swashref22_Read_j1 k c a1 a2 a6 a8 a11 h := by
 rw [swashref22_Read_j3_eq, swashref22_Read_j1_eq]
theorem key_two {b : List Int} {i n : Int} {r : List Int} (hr : rowsS b i n 6 = some r) {j : Nat} (hj : (j : Int) < n) :
  ∃ x y, uS b (i + 6 * j) 2 = some x ∧ uS b (i + 6 * j + 2) 2 = some y ∧ uS b (i + 6 * j) 4 = some (x * 65536 + y) ∧ (keysS r n)[j]? = some (x * 65536 + y) := by
 have hn := rowsS_n hr
 have hpc := rowsS_piece hr
 have hrl := pieceS_len hpc
 obtain ⟨m, rfl⟩ := Int.eq_ofNat_of_zero_le hn.1
 have hjm : j < m := by omega
 have hrl' : r.length = m * 6 := by omega
 have hk4 := keys_at hrl' hjm
 have hkey : (keysS r (m : Int))[j]? = some (num (((r.drop (6 * j)).take 6).take 4)) := by
  unfold keysS
  rw [Int.toNat_natCast, List.getElem?_map, cutRows_get _ _ _ _ hjm]
  rfl
 have e4 := uS_sub hpc (x := 6 * j) (y := 4) (by omega) (by omega) (by omega)
 have e2 := uS_sub hpc (x := 6 * j) (y := 2) (by omega) (by omega) (by omega)
 have e3 := uS_sub hpc (x := 6 * j + 2) (y := 2) (by omega) (by omega) (by omega)
 have hl4 : (((r.drop (6 * j)).take 6).take 4).length = 4 := by simp; omega
 generalize hw : ((r.drop (6 * j)).take 6).take 4 = w at hl4 hk4 hkey
 have hrow : pieceS r (6 * (j : Int)) 4 = some w := by
  rw [pieceS_iff]
  refine ⟨by omega, ?_⟩
  rw [← hw, List.take_take, show (6 * (j : Int)).toNat = 6 * j by omega]
  rfl
 have f2 := uS_sub hrow (x := 0) (y := 2) (by omega) (by omega) (by omega)
 have f3 := uS_sub hrow (x := 2) (y := 2) (by omega) (by omega) (by omega)
 have g2 : uS w 0 2 = some (num (w.take 2)) := by
  unfold uS
  rw [pieceS_iff.2 ⟨by omega, rfl⟩]
  rfl
 have g3 : uS w 2 2 = some (num (w.drop 2)) := by
  unfold uS
  rw [pieceS_iff.2 ⟨by omega, rfl⟩]
  rw [show (2 : Int).toNat = 2 from rfl, List.take_of_length_le (by simp; omega)]
  rfl
 have hnum : num w = num (w.take 2) * 65536 + num (w.drop 2) := by
  conv => lhs; rw [← List.take_append_drop 2 w]
  rw [num_app]
  rw [show (w.drop 2).length = 2 by simp; omega]
  rfl
 refine ⟨num (w.take 2), num (w.drop 2), ?_, ?_, ?_, ?_⟩
 ·rw [← e2, ← g2, f2, Int.add_zero]
 ·rw [show i + 6 * (j : Int) + 2 = i + (6 * (j : Int) + 2) by omega, ← e3, ← g3, f3]
 ·rw [← e4, hk4, hnum]
 ·rw [hkey, hnum]
theorem pList_some {b : List Int} : (∃ n r, gU b 0 4 = n ∧ 0 ≤ n ∧ rowsS b 16 n 6 = some r ∧ rowsB b.length 16 n 6 = true ∧ pListS b = if upS (keysS r n) then some ⟨keysS r n, r, none, none, 0, 2⟩ else none) ∨ (rowsB b.length 16 (gU b 0 4) 6 = false ∧ pListS b = none) := by
 cases hb : rowsB b.length 16 (gU b 0 4) 6 with
 | false =>
  refine .inr ⟨rfl, ?_⟩
  unfold pListS
  cases h : uS b 0 4 with
  | none => rfl
  | some n =>
   rw [gU_some h] at hb
   have : rowsS b 16 n 6 = none := by
    cases hr : rowsS b 16 n 6 with
    | none => rfl
    | some r =>
     have := (rowsS_iff (by decide)).1 hr
     have h2 := (rowsB_iff (s := b.length) (i := 16) (n := n) (z := 6) (by decide)).2 this.1
     rw [h2] at hb; cases hb
   simp [this]
 | true =>
  have hc := (rowsB_iff (by decide)).1 hb
  cases h : uS b 0 4 with
  | none =>
   have : gU b 0 4 = -1 := by unfold gU; rw [h]; rfl
   omega
  | some n =>
   rw [gU_some h] at hb hc ⊢
   have hr := (rowsS_iff (b := b) (i := 16) (n := n) (z := 6) (by decide)).2 ⟨hc, rfl⟩
   refine .inl ⟨n, _, rfl, hc.2.1, hr, hb, ?_⟩
   unfold pListS
   have h2 : (pieceS b 0 16).isSome = true := by rw [inS_piece]; unfold inS; rw [decide_eq_true_eq]; omega
   obtain ⟨c, hc⟩ := Option.isSome_iff_exists.1 h2
   rw [h, Option.bind_some, hc, Option.bind_some, hr]
   rfl
theorem upS_not {l : List Int} {m : Nat} (h : upS (l.take m) = false) : upS l = false := by
 cases hu : upS l with
 | false => rfl
 | true => rw [upS_take l m hu] at h; cases h
theorem ref22Read_R (k : Nat) (kind : Int) (b : List Int) (g : Int) (H : Heap) : R (T k) F.swashref22_Read [.int .i64 kind, lv encB b, .int .i64 g] H = nrm .fz H (swashref22_Read k (R (T k)) (.int .i64 kind) (lv encB b) (.int .i64 g) H) :=
 swashref22_Read_R k _ _ _ _ _ _ H [] (mapF_still fun v hv => by simp at hv; rcases hv with rfl | rfl | rfl <;> trivial)
abbrev rlCells (n : Int) (b : List Int) : List Value := [.int .i64 0, .int .i64 n, .int .i64 2, .int .i64 1, lv encB b, .slice none 0 0, .slice none 0 0, .slice none 0 0, .slice none 0 0, .slice none 0 0]
theorem ref22_list (k : Nat) (b : List Int) (hb : Byt b) (g : Int) (hl : b.length < 2 ^ 31) (H : Heap) :
  ∃ rt, R (T k) F.swashref22_Read [.int .i64 0, lv encB b, .int .i64 g] H = .ok (.tuple #[rtV rt, .bool (pListS b).isSome]) H ∧ ∀ t, pListS b = some t → Is22 t rt := by
 rw [ref22Read_R]
 have hU := fun j H' => refU_run k (H := H') (Sl.lv H' 1 b) hb j 4 (by omega) (by omega)
 have u0 : ∀ H', R (T k) F.swashref01_U [lv encB b, .int .i64 0, .int .i64 4] H' = .ok (.int .i64 (gU b 0 4)) H' := fun H' => hU _ H'
 have bd := gU_four hb 0
 have hrow := fun H' => refRows_run k b.length 16 (gU b 0 4) 6 (by omega) (by omega) H'
 refine ⟨⟨0, gU b 0 4, 2, 1, b, [], ([], []), ([], [])⟩, ?_, fun t ht => ?_⟩
 ·obtain ⟨P, hP⟩ : ∃ P, P = (H.push ⟨rzCells, 1, false⟩).push ⟨rlCells (gU b 0 4) b, 1, false⟩ := ⟨_, rfl⟩
  have hPg : P.get (H.n + 1) = some ⟨rlCells (gU b 0 4) b, 1, false⟩ := by rw [hP]; simp
  have lo : ∃ z c, loopN (swashref22_Read_l1 k (R (T k))) loopFuel [(1, lv encB b), (6, ptrV H.n), (8, ptrV (H.n + 1)), (9, .bool (rowsB b.length 16 (gU b 0 4) 6)), (10, .int .i64 1)] P =
    .ok (.exit 0, [(1, lv encB b), (6, ptrV H.n), (8, ptrV (H.n + 1)), (9, .bool (pListS b).isSome), (10, z), (38, c)]) P := by
   rcases pList_some (b := b) with ⟨n, r, hn, hn0, hr, hrb, hpl⟩ | ⟨hrb, hpl⟩
   ·rw [hn, hrb, hpl]
    have hks : (keysS r n).length = n.toNat := by unfold keysS; simp
    generalize hkk : keysS r n = ks at hks hpl ⊢
    have hif : (if upS ks = true then some (⟨ks, r, none, none, 0, 2⟩ : PTab) else none).isSome = upS ks := by cases upS ks <;> rfl
    rw [hif]
    rw [hn] at hPg bd
    obtain ⟨x, e', H1, hr1, rfl, ⟨z, c, rfl⟩, rfl⟩ := loop_up (body := swashref22_Read_l1 k (R (T k))) (n.toNat - 1)
     (fun j e H' => e = [(1, lv encB b), (6, ptrV H.n), (8, ptrV (H.n + 1)), (9, .bool (upS (ks.take (j + 1)))), (10, .int .i64 ((j : Int) + 1))] ∧ H' = P)
     (fun x e H' => x = .exit 0 ∧ (∃ z c, e = [(1, lv encB b), (6, ptrV H.n), (8, ptrV (H.n + 1)), (9, .bool (upS ks)), (10, z), (38, c)]) ∧ H' = P)
     (e0 := [(1, lv encB b), (6, ptrV H.n), (8, ptrV (H.n + 1)), (9, .bool true), (10, .int .i64 1)]) (H0 := P) ⟨by
      have : upS (ks.take (0 + 1)) = true := by
       cases ks with
       | nil => rfl
       | cons a l => rfl
      rw [this]; rfl, rfl⟩ (by omega)
     (fun j e H' hj ⟨he, hH⟩ => by
      subst he hH
      cases hu : upS (ks.take (j + 1)) with
      | false =>
       refine .inr ⟨.exit 0, _, _, ?_, by simp, rfl, ⟨.int .i64 ((j : Int) + 1), .bool false, rfl⟩, rfl⟩
       rw [swashref22_Read_l1_eq, upS_not hu]
       by_cases c1 : (j : Int) + 1 < n
       ·simp -implicitDefEqProofs (disch := omega) [hPg, c1]
       ·simp -implicitDefEqProofs (disch := omega) [hPg, c1]
      | true =>
       have hlt : (j : Int) + 1 < n := by omega
       obtain ⟨x1, y1, _, _, a1, a2⟩ := key_two hr (j := j) (by omega)
       obtain ⟨x2, y2, _, _, c1, c2⟩ := key_two hr (j := j + 1) (by omega)
       rw [hkk] at a2 c2
       have w1 : ∀ H', R (T k) F.swashref01_U [lv encB b, .int .i64 (16 + 6 * (j : Int)), .int .i64 4] H' = .ok (.int .i64 (x1 * 65536 + y1)) H' := fun H' => (hU _ H').trans (by rw [a1]; rfl)
       have w2 : ∀ H', R (T k) F.swashref01_U [lv encB b, .int .i64 (16 + 6 * ((j : Int) + 1)), .int .i64 4] H' = .ok (.int .i64 (x2 * 65536 + y2)) H' := fun H' => (hU _ H').trans (by rw [show (16 + 6 * ((j : Int) + 1)) = 16 + 6 * ((j + 1 : Nat) : Int) by omega, c1]; rfl)
       have hup : upS (ks.take (j + 1 + 1)) = decide (x1 * 65536 + y1 < x2 * 65536 + y2) := by
        rw [take_snoc c2, upS_snoc, hu, take_snoc a2]
        simp
       refine .inl ⟨_, _, ?_, rfl, rfl⟩
       rw [swashref22_Read_l1_eq, hup]
       simp -implicitDefEqProofs (disch := omega) [hPg, hlt, w1, w2])
     (fun e H' ⟨he, hH⟩ => by
      subst he hH
      rw [List.take_of_length_le (by omega)]
      refine ⟨.exit 0, _, _, ?_, by simp, rfl, ⟨.int .i64 (((n.toNat - 1 : Nat) : Int) + 1), .bool false, rfl⟩, rfl⟩
      rw [swashref22_Read_l1_eq]
      have hnl : ¬ ((n.toNat - 1 : Nat) : Int) + 1 < n := by omega
      simp -implicitDefEqProofs (disch := omega) [hPg, hnl])
    exact ⟨z, c, hr1⟩
   ·rw [hrb, hpl]
    obtain ⟨x, e', H1, hr1, rfl, ⟨z, c, rfl⟩, rfl⟩ := loop_up (body := swashref22_Read_l1 k (R (T k))) 0
     (fun j e H' => e = [(1, lv encB b), (6, ptrV H.n), (8, ptrV (H.n + 1)), (9, .bool false), (10, .int .i64 1)] ∧ H' = P)
     (fun x e H' => x = .exit 0 ∧ (∃ z c, e = [(1, lv encB b), (6, ptrV H.n), (8, ptrV (H.n + 1)), (9, .bool false), (10, z), (38, c)]) ∧ H' = P)
     (e0 := [(1, lv encB b), (6, ptrV H.n), (8, ptrV (H.n + 1)), (9, .bool false), (10, .int .i64 1)]) (H0 := P) ⟨rfl, rfl⟩ (by omega)
     (fun j e H' hj _ => by omega)
     (fun e H' ⟨he, hH⟩ => by
      subst he hH
      refine ⟨.exit 0, _, _, ?_, by simp, rfl, ⟨.int .i64 1, .bool false, rfl⟩, rfl⟩
      rw [swashref22_Read_l1_eq]
      by_cases c1 : 1 < gU b 0 4
      ·simp -implicitDefEqProofs (disch := omega) [hPg, c1]
      ·simp -implicitDefEqProofs (disch := omega) [hPg, c1])
    exact ⟨z, c, hr1⟩
  obtain ⟨z, c, hlo⟩ := lo
  rw [hP] at hlo
  refine nrm_fz (v := .tuple #[.agg (rlCells (gU b 0 4) b).toArray, .bool (pListS b).isSome]) (L := []) (H' := (H.push ⟨rlCells (gU b 0 4) b, 1, false⟩).push ⟨rlCells (gU b 0 4) b, 1, false⟩) ?_ rfl (((Ext.refl H).push _).push _) (Flat.rtO ⟨0, gU b 0 4, 2, 1, b, [], ([], []), ([], [])⟩ _).alive
  simp -implicitDefEqProofs (disch := omega) [swashref22_Read, u0, hrow, hlo, swashref22_Read_l1k_x0]
 ·refine .inl ⟨rfl, hb, hl, ht, ?_⟩
  rcases pList_some (b := b) with ⟨n, r, hn, hn0, hr, hrb, hpl⟩ | ⟨hrb, hpl⟩
  ·rw [hpl] at ht
   split at ht
   ·injection ht with ht
    subst ht
    have : (keysS r n).length = n.toNat := by unfold keysS; simp
    dsimp only
    omega
   ·cases ht
  ·rw [hpl] at ht; cases ht
end Go.Sw
end
section
namespace Go.Sw
open Go.RowKit
theorem ref22Read_run (k : Nat) (kind : Int) (hkd : kind = 0 ∨ kind = 2 ∨ kind = 6) (b : List Int) (hb : Byt b) (g : Int) (hg : 1 ≤ g ∧ g ≤ 65535) (hl : b.length < 2 ^ 31) (H : Heap) :
  ∃ rt, R (T k) F.swashref22_Read [.int .i64 kind, lv encB b, .int .i64 g] H = .ok (.tuple #[rtV rt, .bool (pTakeS kind b g).isSome]) H ∧ ∀ t, pTakeS kind b g = some t → Is22 t rt := by
 rcases hkd with rfl | rfl | rfl
 ·exact ref22_list k b hb g hl H
 ·obtain ⟨rt, h1, h2⟩ := ref22_tail k b hb 2 (by omega) 4 g 2 1 (by omega) hg (by omega) (by omega) hl H
  refine ⟨rt, ?_, h2⟩
  rw [ref22Read_R, pTake_two]
  refine Eq.trans (congrArg _ ?_) h1
  simp -implicitDefEqProofs (disch := omega) [swashref22_Read, j3_j1]
 ·rw [pTake_six hb]
  have hU := fun j H' => refU_run k (H := H') (Sl.lv H' 1 b) hb j 4 (by omega) (by omega)
  have u0 : ∀ H', R (T k) F.swashref01_U [lv encB b, .int .i64 0, .int .i64 4] H' = .ok (.int .i64 (gU b 0 4)) H' := fun H' => hU _ H'
  have bd := gU_four hb 0
  generalize gU b 0 4 = f at u0 bd ⊢
  by_cases c1 : f < 0
  ·rw [if_pos c1]
   refine ⟨⟨6, 0, 2, 2, b, [], ([], []), ([], [])⟩, ?_, fun t ht => by cases ht⟩
   rw [ref22Read_R]
   refine nrm_fz (v := .tuple #[.agg (r0Cells 6 2 2 b).toArray, .bool false]) (L := []) (H' := (H.push ⟨r0Cells 6 2 2 b, 1, false⟩).push ⟨r0Cells 6 2 2 b, 1, false⟩) ?_ rfl (((Ext.refl H).push _).push _) (Flat.rtO ⟨6, 0, 2, 2, b, [], ([], []), ([], [])⟩ _).alive
   simp -implicitDefEqProofs (disch := omega) [swashref22_Read, u0, c1]
  ·rw [if_neg c1]
   have hrem := fun H => bin_rem Prog 3 H .i64 f 2 (by decide)
   rw [Int.tmod_eq_emod_of_nonneg (by omega)] at hrem
   by_cases c2 : f % 2 = 1
   ·rw [if_pos c2]
    obtain ⟨rt, h1, h2⟩ := ref22_tail k b hb 6 (by omega) 8 g 4 4 (by omega) hg (by omega) (by omega) hl H
    refine ⟨rt, ?_, h2⟩
    rw [ref22Read_R]
    refine Eq.trans (congrArg _ ?_) h1
    simp -implicitDefEqProofs (disch := omega) [swashref22_Read, u0, c1, hrem, c2]
   ·rw [if_neg c2]
    obtain ⟨rt, h1, h2⟩ := ref22_tail k b hb 6 (by omega) 8 g 2 2 (by omega) hg (by omega) (by omega) hl H
    refine ⟨rt, ?_, h2⟩
    rw [ref22Read_R]
    refine Eq.trans (congrArg _ ?_) h1
    have c2' : (f % 2 == 1) = false := by simpa using c2
    simp -implicitDefEqProofs (disch := omega) [swashref22_Read, u0, c1, hrem, c2, c2', j2_j1]
theorem signed_run (k : Nat) (b : List Int) (hb : Byt b) (i z : Int) (hz : z = 2 ∨ z = 4) (hl : b.length < 2 ^ 31) (H : Heap) :
  R (T k) F.swashref22_signed [lv encB b, .int .i64 i, .int .i64 z] H = .ok (.int .i64 (if z = 4 then s32 (gU b i 4) else s16 (gU b i 2))) H := by
 rw [swashref22_signed_R]
 refine nrm_gc (Pure.of ?_) (.int _ _)
 have hU := fun n hn => refU_run k (H := H) (Sl.lv H 1 b) hb i n (by omega) hn
 rcases hz with rfl | rfl
 ·have u : R (T k) F.swashref01_U [lv encB b, .int .i64 i, .int .i64 2] H = .ok (.int .i64 (gU b i 2)) H := hU 2 (by omega)
  have bd := gU_two hb i
  generalize gU b i 2 = x at u bd ⊢
  have s := refS16_run k x (by omega) (by omega) H
  simp -implicitDefEqProofs (disch := omega) [swashref22_signed, u, s]
 ·have u : R (T k) F.swashref01_U [lv encB b, .int .i64 i, .int .i64 4] H = .ok (.int .i64 (gU b i 4)) H := hU 4 (by omega)
  have bd := gU_four hb i
  generalize gU b i 4 = x at u bd ⊢
  have s := refS32_run k x (by omega) (by omega) H
  simp -implicitDefEqProofs (disch := omega) [swashref22_signed, u, s]
theorem list_place {b : List Int} {n : Int} {r : List Int} (hr : rowsS b 16 n 6 = some r) (hb : Byt b) (x y : Int) (hx : 0 ≤ x ∧ x < 65536) (hy : 0 ≤ y ∧ y < 65536) (hup : upS (keysS r n) = true) {j : Nat} (hj : (j : Int) < n) (h1 : gU b (16 + 6 * j) 2 = x) (h2 : gU b (18 + 6 * j) 2 = y) :
  placeS (keysS r n) (x * 65536 + y) = some j := by
 obtain ⟨a, c, e1, e2, _, e4⟩ := key_two hr hj
 rw [show (16 + 6 * (j : Int) + 2) = 18 + 6 * j by omega] at e2
 rw [gU_some e1] at h1
 rw [gU_some e2] at h2
 subst h1 h2
 exact placeS_at e4 hup
set_option maxHeartbeats 1000000 in
theorem ref22Get_run (k : Nat) (t : PTab) (rt : RTab) (ht : t.ok) (h : Is22 t rt) (l r : Int) (H : Heap) : R (T k) F.swashref22_Get [rtV rt, .int .i64 l, .int .i64 r] H = .ok (.int .i64 (pgetS t l r)) H := by
 rw [swashref22_Get_R]
 obtain ⟨kind, n, rsize, rstep, b, rvb, rrows, rcols⟩ := rt
 obtain ⟨B, hB⟩ : ∃ B : Blk, B = ⟨rtC ⟨kind, n, rsize, rstep, b, rvb, rrows, rcols⟩, 1, false⟩ := ⟨_, rfl⟩
 have hx : Ext H (H.push B) := (Ext.refl H).push _
 rcases h with ⟨hk0, hb, hl, hpl, hn⟩ | ⟨hk0, a, c, e1, e2, e3, e4, e5, ⟨rb, rl, rr, ro, rn⟩, ⟨cb, cl, cr, co, cn⟩⟩
 ·dsimp only at hk0 hb hl hpl hn
  subst hk0
  rcases pList_some (b := b) with ⟨m, q, hm, hm0, hr, hrb, hpl2⟩ | ⟨hrb, hpl2⟩
  ·rw [hpl2] at hpl
   split at hpl
   ·rename_i hup
    have hpl := Option.some.inj hpl
    subst hpl
    have hkl : (keysS q m).length = m.toNat := by unfold keysS; simp
    have hnm : n = m := by dsimp only at hn; omega
    subst hnm
    have hget : (H.push B).get H.n = some ⟨rtC ⟨0, n, rsize, rstep, b, rvb, rrows, rcols⟩, 1, false⟩ := by rw [get_push_eq _ _ _ rfl, hB]
    have hU := fun i H' => refU_run k (H := H') (Sl.lv H' 1 b) hb i 2 (by omega) (by omega)
    have hu16 : ∀ (j : Nat) H', R (T k) F.swashref01_U [lv encB b, .int .i64 (16 + 6 * (j : Int)), .int .i64 2] H' = .ok (.int .i64 (gU b (16 + 6 * (j : Int)) 2)) H' := fun j H' => hU _ H'
    have hu18 : ∀ (j : Nat) H', R (T k) F.swashref01_U [lv encB b, .int .i64 (18 + 6 * (j : Int)), .int .i64 2] H' = .ok (.int .i64 (gU b (18 + 6 * (j : Int)) 2)) H' := fun j H' => hU _ H'
    have hsg := fun i H' => signed_run k b hb i 2 (by omega) hl H'
    have b2 := fun i => gU_two hb i
    have hpc := rowsS_piece hr
    have hrl := pieceS_len hpc
    have hnb : n * 6 ≤ b.length - 16 := (rowsS_n hr).2.2.2.2.1
    have hnb2 : n < 2 ^ 31 := by omega
    -- the row's distance
    have val : ∀ j : Nat, (j : Int) < n → gU q (6 * (j : Int) + 4) 2 = gU b (20 + 6 * (j : Int)) 2 := fun j hj => by
     have := uS_sub hpc (x := 6 * (j : Int) + 4) (y := 2) (by omega) (by omega) (by omega)
     unfold gU
     rw [this, show 16 + (6 * (j : Int) + 4) = 20 + 6 * j by omega]
    obtain ⟨x', e', H1, hr1, hx1, hres⟩ := loop_up (body := swashref22_Get_l1 k (R (T k))) n.toNat
     (fun j e H' => e = [(1, .int .i64 l), (2, .int .i64 r), (3, ptrV H.n), (7, .int .i64 j)] ∧ H' = H.push B ∧ ∀ i : Nat, i < j → ¬ (gU b (16 + 6 * (i : Int)) 2 = l ∧ gU b (18 + 6 * (i : Int)) 2 = r))
     (fun x e H' => Ext H H' ∧ ((x = .ret ∧ e = [(6, .int .i64 (pgetS ⟨keysS q n, q, none, none, 0, 2⟩ l r))]) ∨ (x = .exit 0 ∧ (∃ z, e = [(1, .int .i64 l), (2, .int .i64 r), (3, ptrV H.n), (7, z), (18, .bool false)]) ∧ pgetS ⟨keysS q n, q, none, none, 0, 2⟩ l r = 0)))
     (e0 := [(1, .int .i64 l), (2, .int .i64 r), (3, ptrV H.n), (7, .int .i64 0)]) (H0 := H.push B) ⟨rfl, rfl, fun i hi => by omega⟩ (by omega)
     (fun j e H' hj ⟨he, hH, hno⟩ => by
      subst he hH
      have hlt : (j : Int) < n := by omega
      have u1 := hu16 j
      have u2 := hu18 j
      have b1 := b2 (16 + 6 * (j : Int))
      have b3 := b2 (18 + 6 * (j : Int))
      by_cases c1 : gU b (16 + 6 * (j : Int)) 2 = l
      ·by_cases c2 : gU b (18 + 6 * (j : Int)) 2 = r
       ·obtain ⟨x1, y1, k1, k2, _, _⟩ := key_two hr hlt
        rw [show (16 + 6 * (j : Int) + 2) = 18 + 6 * j by omega] at k2
        have g1 := gU_some k1
        have g2 := gU_some k2
        have n1 := uS_two hb k1
        have n2 := uS_two hb k2
        rw [g1] at c1
        rw [g2] at c2
        subst c1 c2
        have hpp := list_place hr hb x1 y1 n1 n2 hup hlt g1 g2
        have hres : pgetS ⟨keysS q n, q, none, none, 0, 2⟩ x1 y1 = s16 (gU b (20 + 6 * (j : Int)) 2) := by
         unfold pgetS
         dsimp only
         rw [if_neg (by omega), hpp]
         unfold pvalS
         dsimp only
         rw [if_neg (by omega), val j hlt]
        rw [g1] at u1
        rw [g2] at u2
        refine .inr ⟨.ret, _, _, ?_, by simp, hx, .inl ⟨rfl, rfl⟩⟩
        rw [swashref22_Get_l1_eq, hres]
        simp -implicitDefEqProofs (disch := omega) [hget, hlt, u1, u2, hsg]
       ·have c2' : (gU b (18 + 6 * (j : Int)) 2 == r) = false := by simpa using c2
        have c1' : (gU b (16 + 6 * (j : Int)) 2 == l) = true := by simpa using c1
        refine .inl ⟨_, _, ?_, rfl, rfl, fun i hi => ?_⟩
        ·rw [swashref22_Get_l1_eq]
         simp -implicitDefEqProofs (disch := omega) [hget, hlt, u1, u2, c1', c2']
        ·by_cases hij : i = j
         ·subst hij; exact fun h => c2 h.2
         ·exact hno i (by omega)
      ·have c1' : (gU b (16 + 6 * (j : Int)) 2 == l) = false := by simpa using c1
       refine .inl ⟨_, _, ?_, rfl, rfl, fun i hi => ?_⟩
       ·rw [swashref22_Get_l1_eq]
        simp -implicitDefEqProofs (disch := omega) [hget, hlt, u1, c1']
       ·by_cases hij : i = j
        ·subst hij; exact fun h => c1 h.1
        ·exact hno i (by omega))
     (fun e H' ⟨he, hH, hno⟩ => by
      subst he hH
      refine ⟨.exit 0, _, _, ?_, by simp, hx, .inr ⟨rfl, ⟨.int .i64 (n.toNat : Int), rfl⟩, ?_⟩⟩
      ·rw [swashref22_Get_l1_eq]
       rw [show ((n.toNat : Nat) : Int) = n by omega]
       have hnl : ¬ n < n := by omega
       simp -implicitDefEqProofs (disch := omega) [hget, hnl]
      ·unfold pgetS
       dsimp only
       split
       ·rfl
       ·rename_i hrange
        have hno2 : placeS (keysS q n) (l * 65536 + r) = none := placeS_none fun z hz e => by
         obtain ⟨i, hi⟩ := List.getElem?_of_mem hz
         have hil := (List.getElem?_eq_some_iff.1 hi).1
         obtain ⟨x1, y1, k1, k2, _, k4⟩ := key_two hr (j := i) (by omega)
         rw [show (16 + 6 * (i : Int) + 2) = 18 + 6 * i by omega] at k2
         have n1 := uS_two hb k1
         have n2 := uS_two hb k2
         rw [hi] at k4
         injection k4 with k4
         refine hno i (by omega) ?_
         rw [gU_some k1, gU_some k2]
         omega
        rw [hno2])
    rw [hB] at hr1
    rcases hres with ⟨rfl, rfl⟩ | ⟨rfl, ⟨z, rfl⟩, hz⟩
    ·refine nrm_gc ⟨H1, ?_, hx1⟩ (.int _ _)
     simp -implicitDefEqProofs (disch := omega) [swashref22_Get, hr1, swashref22_Get_l1k_r]
    ·rw [hz]
     refine nrm_gc ⟨H1, ?_, hx1⟩ (.int _ _)
     simp -implicitDefEqProofs (disch := omega) [swashref22_Get, hr1, swashref22_Get_l1k_x0]
   ·cases hpl
  ·rw [hpl2] at hpl; cases hpl
 ·dsimp only at hk0 e3 e4 e5 rb rl rr ro rn cb cl cr co cn
  obtain ⟨hvb, hvl, hbody⟩ := ht
  rcases hbody with ⟨f1, _⟩ | ⟨a', c', f1, f2, oa, oc, hz, hst, hp⟩
  ·rw [e1] at f1; cases f1
  rw [e1] at f1
  rw [e2] at f2
  obtain rfl := Option.some.inj f1
  obtain rfl := Option.some.inj f2
  rw [e3] at hvb hvl hp
  rw [e4] at hst hp
  rw [e5] at hz hp
  have hget : (H.push B).get H.n = some ⟨rtC ⟨kind, n, rsize, rstep, b, rvb, rrows, rcols⟩, 1, false⟩ := by rw [get_push_eq _ _ _ rfl, hB]
  have hk0' : (kind == 0) = false := by simpa using hk0
  have g1 := fun H' => get06_run k rrows.1 rb rrows.2 ro rn rl l H'
  have g2 := fun H' => get06_run k rcols.1 cb rcols.2 co cn cl r H'
  rw [← get_ref rr oa.1 oa.2.1] at g1
  rw [← get_ref cr oc.1 oc.2.1] at g2
  have hv : pgetS t l r = pvalS t (t.step * ((getS a.2 l).getD 0 + (getS c.2 r).getD 0)) := by unfold pgetS; rw [e1, e2]
  rw [hv]
  have b1 := mostS_bound oa.1
  have b2 := mostS_bound oc.1
  have x1 : 0 ≤ (getS a.2 l).getD 0 ∧ (getS a.2 l).getD 0 ≤ max (mostS a.2) 0 := by
   cases h : getS a.2 l with
   | none => simp; omega
   | some x => have := getS_most h; have := getS_nonneg oa.1 h; simp; omega
  have x2 : 0 ≤ (getS c.2 r).getD 0 ∧ (getS c.2 r).getD 0 ≤ max (mostS c.2) 0 := by
   cases h : getS c.2 r with
   | none => simp; omega
   | some x => have := getS_most h; have := getS_nonneg oc.1 h; simp; omega
  unfold pvalS
  rw [e3, e4, e5]
  generalize (getS a.2 l).getD 0 = u at g1 x1 ⊢
  generalize (getS c.2 r).getD 0 = v at g2 x2 ⊢
  generalize (getS a.2 l).isSome = s1 at g1
  generalize (getS c.2 r).isSome = s2 at g2
  have s0 : 0 ≤ rstep * (u + v) := Int.mul_nonneg (by omega) (by omega)
  have s2 : rstep * (u + v) ≤ 4 * 8589934592 := Int.mul_le_mul (by omega) (by omega) (by omega) (by omega)
  have hsg := fun H' => signed_run k rvb hvb (rstep * (u + v)) rsize hz hvl H'
  refine nrm_gc ⟨H.push B, ?_, hx⟩ (.int _ _)
  rw [hB] at hget ⊢
  simp -implicitDefEqProofs (disch := omega) [swashref22_Get, hk0', hget, g1, g2, hsg]
end Go.Sw
end
section
namespace Go.Sw
open Go.RowKit
theorem badP_iff {kind g : Int} : badP kind g = true ↔ ¬ ((kind = 0 ∨ kind = 2 ∨ kind = 6) ∧ 1 ≤ g ∧ g ≤ 65535) := by
 unfold badP
 simp
 omega
end Go.Sw
end
section
namespace Go.Sw
open Go.RowKit
theorem pRead_ok (k : Nat) (kind : Int) (hkd : kind = 0 ∨ kind = 2 ∨ kind = 6) {H : Heap} {v : Value} {b : List Int} (hv : Sl H 1 v encB b) (hb : Byt b) (g : Int) (hg : 1 ≤ g ∧ g ≤ 65535) (hl : b.length ≤ 2 ^ 30) :
  R (T k) F.pair_Read [.int .i64 kind, v, .int .i64 g] H = .ok (.tuple #[pV (pTakeS kind b g), .int .i64 (if (pTakeS kind b g).isSome then 0 else 2)]) H := by
 have h := pRead_run k kind hv hb g hl
 have hbad : badP kind g = false := by
  cases hb : badP kind g with
  | false => rfl
  | true => exact absurd (And.intro hkd hg) (badP_iff.1 hb)
 have hN : pairN kind b g = if (pTakeS kind b g).isSome then 0 else 2 := by unfold pairN; rw [hbad]; rfl
 rw [pairO_take hg, hN] at h
 exact h
def kindOf (n : Int) : Int := if n = 0 then 2 else 6
def stepOf (n : Int) : Int := if n = 0 then 1 else if n = 1 then 2 else 4
theorem gridB_byt (g : Grid) (f : Form) (hp : Byt f.pre) : Byt (gridB g f) := ((((((hp.app (bytesOf_byt _ _)).app (bytesOf_byt _ _)).app (bytesOf_byt _ _)).app (of8_byt _ _)).app (of8_byt _ _)).app (nums_byt _ _))
theorem gridB_len (g : Grid) (f : Form) (h1 : g.rows.length ≤ 1000) (h2 : g.cols.length ≤ 1000) (h3 : g.vals.length ≤ 1000) (hz : f.z = 2 ∨ f.z = 4) (hp : f.pre.length ≤ 100) : (gridB g f).length ≤ 20000 := by
 have hr4 : g.rows.length * f.z ≤ 1000 * 4 := Nat.mul_le_mul h1 (by omega)
 have hc4 : g.cols.length * f.z ≤ 1000 * 4 := Nat.mul_le_mul h2 (by omega)
 have hv4 : g.vals.length * f.z ≤ 1000 * 4 := Nat.mul_le_mul h3 (by omega)
 unfold gridB
 simp [of8_len, nums_len]
 omega
theorem form_facts (n : Int) : ((formOf n).z = 2 ∨ (formOf n).z = 4) ∧ ((formOf n).m = 1 ∨ (formOf n).m = 2) ∧ (formOf n).pre.length ≤ 100 ∧ (formOf n).head = (formOf n).pre.length + 12 ∧ stepOf n * (formOf n).m = (formOf n).z ∧ Byt (formOf n).pre := by
 unfold formOf stepOf
 have z4 : Byt [0, 0, 0, 0] := fun x hx => by simp at hx; omega
 have z8 : Byt [0, 0, 0, 0, 0, 0, 0, 0] := fun x hx => by simp at hx; omega
 have o8 : Byt [0, 0, 0, 1, 0, 0, 0, 0] := fun x hx => by simp at hx; omega
 split
 ·exact ⟨by simp, by simp, by simp, by simp, by simp, z4⟩
 split
 ·exact ⟨by simp, by simp, by simp, by simp, by simp, z8⟩
 ·exact ⟨by simp, by simp, by simp, by simp, by simp, o8⟩
end Go.Sw
end
section
namespace Go.Sw
open Go.RowKit
end Go.Sw
end
section
namespace Go.Sw
open Go.RowKit
theorem row_H {r : List Da} {cs : List Value} (h : LayRow [.int .i16] r cs) : ∃ n : Int, cs = encH n ∧ (-32768 ≤ n ∧ n < 32768) := by
 obtain ⟨_, v1, _, _, rfl, h1, h⟩ := h.head
 obtain rfl := h.done
 obtain ⟨c, rfl, hc⟩ := h1.intv
 refine ⟨c, rfl, ?_⟩
 simp [Lit.wf, IntKind.min, IntKind.max, IntKind.signed, IntKind.bits] at hc
 omega
abbrev gridSh : ASh := .agg [.slice [.int .u8], .slice [.int .u8], .slice [.int .i16]]
theorem arg_grid {v : Value} (h : ArgLay gridSh v) : ∃ g, v = gridV g ∧ g.ok := by
 cases h with
 | agg ss ds vs h =>
  obtain ⟨_, v1, _, _, rfl, h1, h⟩ := h.head
  obtain ⟨_, v2, _, _, rfl, h2, h⟩ := h.head
  obtain ⟨_, v3, _, _, rfl, h3, h⟩ := h.head
  obtain rfl := h.done
  obtain ⟨a, rfl, wa⟩ := Lay.list (enc := encB) (ok := fun n => 0 ≤ n ∧ n < 256) (fun r cs h => row_B h) h1
  obtain ⟨b, rfl, wb⟩ := Lay.list (enc := encB) (ok := fun n => 0 ≤ n ∧ n < 256) (fun r cs h => row_B h) h2
  obtain ⟨c, rfl, wc⟩ := Lay.list (enc := encH) (ok := fun n => -32768 ≤ n ∧ n < 32768) (fun r cs h => row_H h) h3
  exact ⟨⟨a, b, c⟩, rfl, wa, wb, wc⟩
end Go.Sw
end
section
namespace Go.Sw
open Go.RowKit
section
variable {α : Type} {enc : α → List Value}
theorem OwnO.frz {H : Heap} {o : Option Nat} {m : Nat} {s : Value} {l : List α} (he : ∀ x, (enc x).length = m) (h : OwnO H o m s enc l) (hs : ∀ x, x ∈ l → ∀ v, v ∈ enc x → Still v) (d : Nat) : ∃ L, fzV 0 H (d + 2) s = some (lv enc l, L) ∧ ∀ b, b ∈ L → o = some b := by
 rcases h with ⟨h0, rfl, hsv⟩ | ⟨b, rfl, rfl, h2⟩
 ·rcases hsv with rfl | rfl | rfl
  ·exact ⟨[], rfl, fun b hb => by cases hb⟩
  ·exact ⟨[], rfl, fun b hb => by cases hb⟩
  ·exact ⟨[], rfl, fun b hb => by cases hb⟩
 ·refine ⟨b :: [], ?_, fun c hc => by rw [List.mem_singleton.1 hc]⟩
  have hlt : Nat.blt b 0 = false := by
   cases hb : Nat.blt b 0 with
   | false => rfl
   | true => have := Nat.le_of_ble_eq_true hb; omega
  unfold fzV
  dsimp only
  rw [hlt, cond_false, h2]
  dsimp only
  have hlen : (rows enc l).length = l.length * m := rows_length he l
  rw [show (false || !Nat.ble (0 + l.length * m) (rows enc l).length) = false from by rw [hlen, Nat.zero_add]; simp, cond_false, List.drop_zero, List.take_of_length_le (by rw [hlen]; exact Nat.le_refl _)]
  rw [mapF_still (rows_still hs)]
  rfl
theorem Star.killLast {H0 H : Heap} {L : List It} {o : Option Nat} {m : Nat} {s : Value} {l : List α} (h : Star H0 H (L ++ [itRow o m s enc l])) (K : List Nat) (hK : ∀ b, b ∈ K → o = some b) : Star H0 (killAll H K) L := by
 have hi : (L ++ [itRow o m s enc l])[L.length]? = some (itRow o m s enc l) := by simp
 have := h.step (H' := killAll H K) L.length hi (by rw [killAll_n]; exact Nat.le_refl _) (fun c _ hc => by
  rw [killAll_get, if_neg]
  intro hcK
  exact hc (Option.mem_toList.2 (hK c hcK))) (itRow none m (.slice none 0 0) enc ([] : List α)) (OwnO.nil enc _ m) (fun b hb => by cases hb)
 rw [set_at_end] at this
 exact this.drop_last
end
theorem WriteGrid_own (k : Nat) (hk : 1000000 ≤ k) (g : Grid) (hg : g.ok) (h1 : g.rows.length ≤ 1000) (h2 : g.cols.length ≤ 1000) (h3 : g.vals.length ≤ 1000) (n : Int) {H0 H : Heap} {L : List It} (st0 : Star H0 H L) :
  ∃ s o H', R (T k) F.swashlaw22_WriteGrid [gridV g, .int .i64 n] H = .ok s H' ∧ Star H0 H' (L ++ [itRow o 1 s encB (gridB g (formOf n))]) := by
 have ho : own k = .no := by
  unfold own
  rw [show Nat.blt k 1000000 = false from by
   cases hb : Nat.blt k 1000000 with
   | false => rfl
   | true => exact absurd (Nat.le_of_ble_eq_true hb) (by omega)]
  rfl
 rw [swashlaw22_WriteGrid_R, ho]
 obtain ⟨s, o, H', e, st⟩ := grid_core k g hg h1 h2 h3 n (Star.nil H)
 obtain ⟨o', g'⟩ := st0.more_own (st.own 1 rfl) st.ext
 exact ⟨s, o', H', nrm_of e, g'⟩
theorem keeps_l3 (k : Nat) (t : PTab) (rt : RTab) (ht : t.ok) (h : Is22 t rt) (q : Nat) (x : Int) {H0 H : Heap} (hq : H0.get q = some ⟨rtC rt, 1, false⟩) (hx0 : Ext H0 H) :
  ∃ z H', loopN (swashlaw22_PairKeeps_l3 k (R (T k))) loopFuel [(10, ptabV t), (12, ptrV q), (15, .int .i64 x), (79, .int .i64 x), (82, .int .i64 0)] H = .ok (.exit 4, [(10, ptabV t), (12, ptrV q), (15, .int .i64 x), (79, .int .i64 x), (82, z), (83, .bool false)]) H' ∧ Ext H0 H' := by
 have g1 := fun a b H => pGet_run k t ht a b H
 have g2 := fun a b H => ref22Get_run k t rt ht h a b H
 have hv := veq_rt rt
 obtain ⟨xx, e', H1, hr1, rfl, ⟨z, rfl⟩, hx⟩ := loop_up (body := swashlaw22_PairKeeps_l3 k (R (T k))) 20
  (fun j e H' => e = [(10, ptabV t), (12, ptrV q), (15, .int .i64 x), (79, .int .i64 x), (82, .int .i64 j)] ∧ Ext H0 H')
  (fun xx e H' => xx = .exit 4 ∧ (∃ z, e = [(10, ptabV t), (12, ptrV q), (15, .int .i64 x), (79, .int .i64 x), (82, z), (83, .bool false)]) ∧ Ext H0 H')
  (e0 := [(10, ptabV t), (12, ptrV q), (15, .int .i64 x), (79, .int .i64 x), (82, .int .i64 0)]) (H0 := H) ⟨rfl, hx0⟩ (by omega)
  (fun j e H' hj ⟨he, hx⟩ => by
   subst he
   have hjl : (j : Int) < 20 := by omega
   have hq' := hx.get hq
   refine .inl ⟨_, H', ?_, rfl, hx⟩
   rw [swashlaw22_PairKeeps_l3_eq]
   simp -implicitDefEqProofs (disch := omega) [hjl, g1, g2, hq', hv])
  (fun e H' ⟨he, hx⟩ => by
   subst he
   refine ⟨.exit 4, _, H', ?_, by simp, rfl, ⟨.int .i64 20, rfl⟩, hx⟩
   rw [swashlaw22_PairKeeps_l3_eq]
   simp -implicitDefEqProofs)
 exact ⟨z, H1, hr1, hx⟩
theorem keeps_l2 (k : Nat) (t : PTab) (rt : RTab) (ht : t.ok) (h : Is22 t rt) (q : Nat) {H0 H : Heap} (hq : H0.get q = some ⟨rtC rt, 1, false⟩) (hx0 : Ext H0 H) :
  ∃ z H', loopN (swashlaw22_PairKeeps_l2 k (R (T k))) loopFuel [(10, ptabV t), (12, ptrV q), (79, .int .i64 0)] H = .ok (.exit 2, [(10, ptabV t), (12, ptrV q), (79, z), (80, .bool false)]) H' ∧ Ext H0 H' := by
 obtain ⟨xx, e', H1, hr1, rfl, ⟨z, rfl⟩, hx⟩ := loop_up (body := swashlaw22_PairKeeps_l2 k (R (T k))) 20
  (fun j e H' => e = [(10, ptabV t), (12, ptrV q), (79, .int .i64 j)] ∧ Ext H0 H')
  (fun xx e H' => xx = .exit 2 ∧ (∃ z, e = [(10, ptabV t), (12, ptrV q), (79, z), (80, .bool false)]) ∧ Ext H0 H')
  (e0 := [(10, ptabV t), (12, ptrV q), (79, .int .i64 0)]) (H0 := H) ⟨rfl, hx0⟩ (by omega)
  (fun j e H' hj ⟨he, hx⟩ => by
   subst he
   have hjl : (j : Int) < 20 := by omega
   obtain ⟨z, H2, e2, hx2⟩ := keeps_l3 k t rt ht h q (j : Int) hq hx
   refine .inl ⟨_, H2, ?_, rfl, hx2⟩
   rw [swashlaw22_PairKeeps_l2_eq]
   simp -implicitDefEqProofs (disch := omega) [hjl, e2, swashlaw22_PairKeeps_l3k_x4])
  (fun e H' ⟨he, hx⟩ => by
   subst he
   refine ⟨.exit 2, _, H', ?_, by simp, rfl, ⟨.int .i64 20, rfl⟩, hx⟩
   rw [swashlaw22_PairKeeps_l2_eq]
   simp -implicitDefEqProofs)
 exact ⟨z, H1, hr1, hx⟩
theorem keeps_l1 (k : Nat) {H0 H : Heap} {L : List It} {i : Nat} {o : Option Nat} {s : Value} {b : List Int} (hi : L[i]? = some (itRow o 1 s encB b)) (g : Star H0 H L) (hb : b.length < 2 ^ 40) (y : Int) (t p : Value) :
  ∃ z H', loopN (swashlaw22_PairKeeps_l1 k (R (T k))) loopFuel [(2, .int .u8 y), (9, s), (10, t), (12, p), (70, .int .i64 b.length), (71, .int .i64 0)] H = .ok (.exit 0, [(2, .int .u8 y), (9, s), (10, t), (12, p), (70, .int .i64 b.length), (71, z), (72, .bool false)]) H' ∧ ∃ b', Star H0 H' (L.set i (itRow o 1 s encB b')) := by
 have hlt := (List.getElem?_eq_some_iff.1 hi).1
 have same : L.set i (itRow o 1 s encB b) = L := by
  obtain ⟨hlt, hx⟩ := List.getElem?_eq_some_iff.1 hi
  rw [← hx, List.set_getElem_self]
 obtain ⟨xx, e', H1, hr1, rfl, ⟨z, rfl⟩, b', _, g⟩ := loop_up (body := swashlaw22_PairKeeps_l1 k (R (T k))) b.length
  (fun j e H' => e = [(2, .int .u8 y), (9, s), (10, t), (12, p), (70, .int .i64 b.length), (71, .int .i64 j)] ∧ ∃ b' : List Int, b'.length = b.length ∧ Star H0 H' (L.set i (itRow o 1 s encB b')))
  (fun xx e H' => xx = .exit 0 ∧ (∃ z, e = [(2, .int .u8 y), (9, s), (10, t), (12, p), (70, .int .i64 b.length), (71, z), (72, .bool false)]) ∧ ∃ b' : List Int, b'.length = b.length ∧ Star H0 H' (L.set i (itRow o 1 s encB b')))
  (e0 := [(2, .int .u8 y), (9, s), (10, t), (12, p), (70, .int .i64 b.length), (71, .int .i64 0)]) (H0 := H) ⟨rfl, b, rfl, by rw [same]; exact g⟩ (by omega)
  (fun j e H' hj ⟨he, b', hl, g⟩ => by
   subst he
   have hjl : (j : Int) < b.length := by omega
   have hself : (L.set i (itRow o 1 s encB b'))[i]? = some (itRow o 1 s encB b') := List.getElem?_set_self hlt
   obtain ⟨c, hc, _, i2⟩ := g.ix i hself .i64 j (by omega)
   subst hc
   obtain ⟨x, hx⟩ : ∃ x, b'[j]? = some x := ⟨_, List.getElem?_eq_getElem (by omega)⟩
   obtain ⟨H2, e2, g2, _⟩ := g.stRow i hself encB_len (j := j) (c := 0) (n := 1) y (v := .int .u8 y) hx rfl rfl (by decide) rfl
   rw [List.set_set] at g2
   rw [Nat.add_zero] at e2
   refine .inl ⟨_, H2, ?_, rfl, _, by rw [List.length_set]; exact hl, g2⟩
   rw [swashlaw22_PairKeeps_l1_eq]
   simp -implicitDefEqProofs (disch := omega) [-stR_ptr, hjl, i2]
   simp only [Nat.mul_one] at e2
   simp -implicitDefEqProofs (disch := omega) [-stR_ptr, e2])
  (fun e H' ⟨he, b', hl, g⟩ => by
   subst he
   refine ⟨.exit 0, _, H', ?_, by simp, rfl, ⟨.int .i64 b.length, rfl⟩, b', hl, g⟩
   rw [swashlaw22_PairKeeps_l1_eq]
   simp -implicitDefEqProofs)
 exact ⟨z, H1, hr1, b', g⟩
set_option maxHeartbeats 2000000 in
theorem PairKeeps_run (g : Grid) (hg : g.ok) (u y : Int) (hu : 0 ≤ u ∧ u < 256) : R (T 1000119) F.swashlaw22_PairKeeps [gridV g, .int .u8 u, .int .u8 y] Heap.empty = .ok (.bool true) Heap.empty := by
 generalize hk : (1000119 : Nat) = k
 have hs := speaks22_run k (by subst hk; rfl)
 have hk6 : 1000000 ≤ k := by subst hk; decide
 clear hk
 rw [swashlaw22_PairKeeps_R]
 generalize Heap.empty = H
 have hx1 : Ext H (H.push ⟨gridC g, 1, false⟩) := (Ext.refl H).push _
 by_cases c1 : g.rows.length > 20
 ·have c1' : (g.rows.length : Int) > 20 := by omega
  refine nrm_gc ⟨_, ?_, hx1⟩ (.bool _)
  simp -implicitDefEqProofs (disch := omega) [swashlaw22_PairKeeps, hs, c1']
 have c1' : ¬ (g.rows.length : Int) > 20 := by omega
 by_cases c2 : g.cols.length > 20
 ·have c2' : (g.cols.length : Int) > 20 := by omega
  refine nrm_gc ⟨_, ?_, hx1⟩ (.bool _)
  simp -implicitDefEqProofs (disch := omega) [swashlaw22_PairKeeps, hs, c1', c2']
 have c2' : ¬ (g.cols.length : Int) > 20 := by omega
 by_cases c3 : g.vals.length > 600
 ·have c3' : (g.vals.length : Int) > 600 := by omega
  refine nrm_gc ⟨_, ?_, hx1⟩ (.bool _)
  simp -implicitDefEqProofs (disch := omega) [swashlaw22_PairKeeps, hs, c1', c2', c3']
 have c3' : ¬ (g.vals.length : Int) > 600 := by omega
 obtain ⟨n, hn⟩ : ∃ n, n = u % 3 := ⟨_, rfl⟩
 have q3 := fun H => bin_rem Prog 3 H .i64 u 3 (by decide)
 rw [Int.tmod_eq_emod_of_nonneg hu.1, ← hn] at q3
 have st := (Star.nil H).push ⟨gridC g, 1, false⟩
 simp only [List.nil_append] at st
 obtain ⟨s1, o1, H1, e1, st⟩ := WriteGrid_own k hk6 g hg (by omega) (by omega) (by omega) n st
 simp only [List.cons_append, List.nil_append] at st
 have b1 := st.get 0 rfl
 have ff := form_facts n
 have hb := gridB_byt g (formOf n) ff.2.2.2.2.2
 have hl := gridB_len g (formOf n) (by omega) (by omega) (by omega) ff.1 ff.2.2.1
 have hkd : kindOf n = 0 ∨ kindOf n = 2 ∨ kindOf n = 6 := by unfold kindOf; split <;> simp
 have hrd := pRead_ok k (kindOf n) hkd ((st.row 1 rfl).sl encB_len) hb 300 (by omega) (by omega)
 obtain ⟨s2, o2, H2, e2, st⟩ := WriteGrid_own k hk6 g hg (by omega) (by omega) (by omega) n st
 simp only [List.cons_append, List.nil_append] at st
 generalize gridB g (formOf n) = b at hb hl hrd st
 obtain ⟨K, f1, f2⟩ := (st.row 2 rfl).frz encB_len (fun n _ v hv => by simp at hv; subst hv; trivial) 6
 have hfa : mapF (fzV 0 H2 fzDepth) [.int .i64 (kindOf n), s2, .int .i64 300] = some ([.int .i64 (kindOf n), lv encB b, .int .i64 300], K ++ []) := by
  have h1 := mapF_cons (f := fzV 0 H2 fzDepth) (v := .int .i64 (kindOf n)) (u := .int .i64 (kindOf n)) (L1 := []) rfl (mapF_cons f1 (mapF_one (L := []) (v := .int .i64 300) (u := .int .i64 300) rfl))
  exact h1
 have hR := swashref22_Read_R k _ _ _ _ _ _ H2 (K ++ []) hfa
 rw [List.append_nil] at hR
 obtain ⟨rt, r1, r2⟩ := ref22Read_run k (kindOf n) hkd b hb 300 (by omega) (by omega) (killAll H2 K)
 rw [ref22Read_R] at r1
 rw [r1] at hR
 have st : Star H (killAll H2 K) ([itBlk H.n ⟨gridC g, 1, false⟩, itRow o1 1 s1 encB b]) := Star.killLast (L := [itBlk H.n ⟨gridC g, 1, false⟩, itRow o1 1 s1 encB b]) st K f2
 have hln1 : ∀ H', lnS s1 H' = .ok (.int .i64 b.length) H' := (st.row 1 rfl).len
 generalize killAll H2 K = H3 at hR st
 have st := st.push ⟨rtC rt, 1, false⟩
 simp only [List.cons_append, List.nil_append] at st
 cases h : pTakeS (kindOf n) b 300 with
 | none =>
  rw [h] at hrd hR
  simp only [pV, Option.isSome_none, Bool.false_eq_true, if_false] at hrd hR
  refine nrm_gc ⟨_, ?_, st.ext⟩ (.bool _)
  by_cases d : n = 0
  ·have hkn : kindOf n = 2 := if_pos d
   rw [hkn] at hrd hR
   simp -implicitDefEqProofs (disch := omega) [swashlaw22_PairKeeps, hs, c1', c2', c3', q3, d, swashlaw22_PairKeeps_j1_eq]
   rw [d] at e1 e2
   simp -implicitDefEqProofs (disch := omega) [e1, hrd, b1, e2, hR]
  ·have hkn : kindOf n = 6 := if_neg d
   have d' : (n == 0) = false := by rw [beq_eq_false_iff_ne]; exact d
   rw [hkn] at hrd hR
   simp -implicitDefEqProofs (disch := omega) [swashlaw22_PairKeeps, hs, c1', c2', c3', q3, d', swashlaw22_PairKeeps_j2_eq, e1, hrd, b1, e2, hR]
 | some t =>
  have ht := pTakeS_ok hb (by omega) (by omega) h
  have his := r2 t h
  rw [h] at hrd hR
  simp only [pV, Option.isSome_some, if_true] at hrd hR
  obtain ⟨z1, H4, e4, b', st⟩ := keeps_l1 k (i := 1) rfl st (by omega) y (ptabV t) (ptrV H3.n)
  simp only [List.set_cons_zero, List.set_cons_succ] at st
  obtain ⟨z2, H5, e5, hx5⟩ := keeps_l2 k t rt ht his H3.n (st.get 2 rfl) (Ext.refl H4)
  refine nrm_gc ⟨H5, ?_, st.ext.trans hx5⟩ (.bool _)
  by_cases d : n = 0
  ·have hkn : kindOf n = 2 := if_pos d
   rw [hkn] at hrd hR
   rw [d] at e1 e2
   simp -implicitDefEqProofs (disch := omega) [swashlaw22_PairKeeps, hs, c1', c2', c3', q3, d, swashlaw22_PairKeeps_j1_eq, e1, hrd, b1, e2, hR, hln1, e4, swashlaw22_PairKeeps_l1k_x0, e5, swashlaw22_PairKeeps_l2k_x2]
  ·have hkn : kindOf n = 6 := if_neg d
   have d' : (n == 0) = false := by rw [beq_eq_false_iff_ne]; exact d
   rw [hkn] at hrd hR
   simp -implicitDefEqProofs (disch := omega) [swashlaw22_PairKeeps, hs, c1', c2', c3', q3, d', swashlaw22_PairKeeps_j2_eq, e1, hrd, b1, e2, hR, hln1, e4, swashlaw22_PairKeeps_l1k_x0, e5, swashlaw22_PairKeeps_l2k_x2]
theorem PairKeeps_args (vs : List Value) (h : ArgsLay [gridSh, .one (.int .u8), .one (.int .u8)] vs) : ∃ H', R (T 1000119) F.swashlaw22_PairKeeps vs Heap.empty = .ok (.bool true) H' := by
 obtain ⟨v1, _, rfl, h1, h⟩ := h.head
 obtain ⟨v2, _, rfl, h2, h⟩ := h.head
 obtain ⟨v3, _, rfl, h3, h⟩ := h.head
 obtain rfl := h.done
 obtain ⟨g, rfl, hg⟩ := arg_grid h1
 obtain ⟨x, rfl, hx⟩ := arg_i h2
 obtain ⟨y, rfl, _⟩ := arg_i h3
 exact ⟨_, PairKeeps_run g hg x y (wf_u8 hx)⟩
end Go.Sw
end
section
namespace Go.Sw
open Go.RowKit Go.Proofs
set_option maxRecDepth 20000 in
theorem catch_short (p : Addr) (b : Bool) (w : World) (hc : (w.alloc (.cells #[] 233)).cell? p = some (.bool b)) (hz : (w.alloc (.cells #[] 233)).frozen? p = false) :
  CallsD Prog 160 #[.pointer (some p)] (.panicking [{ v := .iface 233 (.agg #[]), recovered := false }]) w fun e u' w' =>
   e = .returned (.tuple #[]) ∧ u' = .panicking [{ v := .iface 233 (.agg #[]), recovered := true }] ∧ w' = (w.alloc (.cells #[] 233)).setCell p (.bool false) := by
 refine callsD_of_wpS Try.func160 rfl fun c₀ cs hu => ?_
 apply wpS_seq
 apply wpS_region
 simp [wpOpsS, go_sem, recoverD, hu, Try.ntmps160, Exit.thenS]
 have hta : ∀ w, (Instr.typeAssert (.iface 233 (.agg #[])) 20 233 true).run Prog w = .ok (.tuple #[.agg #[], .bool true]) w := fun w => by kernel_rfl
 refine wpS_of_wp ?_
 go_wp2
 cases c₀
 simp_all [bodyPostS, results, Try.results160]
theorem catch_idle (p : Addr) (w : World) :
  CallsD Prog 160 #[.pointer (some p)] .returning w fun e u' w' => e = .returned (.tuple #[]) ∧ u' = .returning ∧ w' = w := by
 refine callsD_of_wpS Try.func160 rfl fun c₀ cs hu => ?_
 apply wpS_seq
 apply wpS_region
 simp [wpOpsS, go_sem, recoverD, hu, Try.ntmps160, Exit.thenS]
 refine wpS_of_wp ?_
 go_wp2
 cases c₀
 simp_all [bodyPostS, results, Try.results160]
set_option maxRecDepth 20000 in
theorem try_walk (g : FuncId) (first cap : Array Value) (w : World) (R : Ending → World → Prop)
  (hcf : (callFunc g (first ++ cap)).run Prog (w.alloc (.cells #[.bool false] 4)) = .ok (.enter g (first ++ cap)) (w.alloc (.cells #[.bool false] 4)))
  (hcall : Calls Prog g (first ++ cap) (w.alloc (.cells #[.bool false] 4)) fun e w' => match e with
   | .returned _ => w'.heap[w.heap.size]? = some (.cells #[.bool false] 4 (0, 0)) ∧ R (.returned (.bool true)) (w'.setCell ⟨w.heap.size, 0, none⟩ (.bool true))
   | .panicked chain => chain = [{ v := .iface 233 (.agg #[]), recovered := false }] ∧ w'.heap[w.heap.size]? = some (.cells #[.bool false] 4 (0, 0)) ∧ R (.returned (.bool false)) ((w'.alloc (.cells #[] 233)).setCell ⟨w.heap.size, 0, none⟩ (.bool false))
   | .outgrown => False) :
  Calls Prog 77 #[.func (.func g) first cap] w R := by
 have hmf : ∀ (fn : Fn) (first cap : Array Value) (w : World), (Instr.makeFunc fn first cap).run Prog w = .ok (.func fn first cap) w := fun _ _ _ _ => rfl
 go_enter_defers Try.func77, Try.ntmps77
 go_wp2
 rename_i K2 hK2 K1 hK1
 refine hcall.mono fun e w' he => ?_
 cases e with
 | returned v =>
  obtain ⟨h1, h2⟩ := he
  have hc : w'.cell? ⟨w.heap.size, 0, none⟩ = some (.bool false) := by simp [World.cell?, h1]
  have hz : w'.frozen? ⟨w.heap.size, 0, none⟩ = false := by simp [World.frozen?, h1]
  apply hK1
  apply hK2
  go_wp2
  have hc2 : (w'.setCell ⟨w.heap.size, 0, none⟩ (.bool true)).cell? ⟨w.heap.size, 0, none⟩ = some (.bool true) := World.cell?_setCell_same _ _ _ hc
  refine leaves_cons (f := 160) (args := #[.pointer (some ⟨w.heap.size, 0, none⟩)]) (by simp) (by simp [go_sem]) ?_
  refine (catch_idle ⟨w.heap.size, 0, none⟩ _).mono ?_
  rintro e u' w'' ⟨rfl, rfl, rfl⟩
  simp [Leaves, settle, results, Try.results77, go_sem, hc2]
  exact h2
 | panicked chain =>
  obtain ⟨h0, h1, h2⟩ := he
  subst h0
  have hlt : w.heap.size < w'.heap.size := by
   rcases Nat.lt_or_ge w.heap.size w'.heap.size with h | h
   ·exact h
   ·rw [Array.getElem?_eq_none h] at h1; cases h1
  have h3 : (w'.alloc (.cells #[] 233)).heap[w.heap.size]? = some (.cells #[.bool false] 4 (0, 0)) := by
   rw [heap_alloc_lt _ _ _ hlt]; exact h1
  have hc : (w'.alloc (.cells #[] 233)).cell? ⟨w.heap.size, 0, none⟩ = some (.bool false) := by simp only [World.cell?, h3]; rfl
  have hz : (w'.alloc (.cells #[] 233)).frozen? ⟨w.heap.size, 0, none⟩ = false := by simp [World.frozen?, h3]
  have hc2 : ((w'.alloc (.cells #[] 233)).setCell ⟨w.heap.size, 0, none⟩ (.bool false)).cell? ⟨w.heap.size, 0, none⟩ = some (.bool false) := World.cell?_setCell_same _ _ _ hc
  show Leaves _ _ _ _ _ _ _
  refine leaves_cons (f := 160) (args := #[.pointer (some ⟨w.heap.size, 0, none⟩)]) (by simp) (by simp [go_sem]) ?_
  refine (catch_short ⟨w.heap.size, 0, none⟩ false _ hc hz).mono ?_
  rintro e u' w'' ⟨rfl, rfl, rfl⟩
  simp [Leaves, settle, results, Try.results77, go_sem, hc2]
  exact h2
 | outgrown => exact he.elim
theorem try_is : SpIs Prog 77 (tryV 233) := try_of (bt := 4) Try.func77 rfl (by kernel_rfl) try_walk
end Go.Sw
end
section
namespace Go.Sw
open Go.RowKit
theorem names_ok : NamesOk Prog := NamesOk.of (by kernel_rfl)
theorem mixed_ok : Prog.follows .mixedOrders = true := Checked.mixed Go.Proofs.Try.checked
theorem laid_ok : laidOutB Prog = true := by kernel_rfl
theorem cloneP_is : SpIs Prog F.slices_Clone_of_api_Place_api_Place fun _ args H => cloneV 3 12 args H :=
 clone_is (c := { P := Prog, kp := kpS, sp := fun _ => none }) names_ok mixed_ok (t := 31) (e := 34) (by kernel_rfl) fun call a H => (slices_Clone_of_api_Place_api_Place_body 0 _ call a H).trans (by
  unfold slices_Clone_of_api_Place_api_Place cloneF
  simp only [be_31_0, ap_31, beR_bare])
theorem cloneG_is : SpIs Prog F.slices_Clone_of_api_Glyph_api_Glyph fun _ args H => cloneV 2 16 args H :=
 clone_is (c := { P := Prog, kp := kpS, sp := fun _ => none }) names_ok mixed_ok (t := 50) (e := 55) (by kernel_rfl) fun call a H => (slices_Clone_of_api_Glyph_api_Glyph_body 0 _ call a H).trans (by
  unfold slices_Clone_of_api_Glyph_api_Glyph cloneF
  simp only [be_50_0, ap_50, beR_bare])
theorem more_is (f : FuncId) (s : Sp) (h : moreS f = some s) : SpIs Prog f s := by
 unfold moreS at h
 cases h1 : Nat.beq f 77 with
 | true => have := Nat.eq_of_beq_eq_true h1; subst this; rw [h1, cond_true] at h; injection h with h; subst h; exact try_is
 | false =>
 rw [h1, cond_false] at h
 cases h2 : Nat.beq f 147 with
 | true => have := Nat.eq_of_beq_eq_true h2; subst this; rw [h2, cond_true] at h; injection h with h; subst h; exact cloneP_is
 | false =>
 rw [h2, cond_false] at h
 cases h3 : Nat.beq f 151 with
 | true => have := Nat.eq_of_beq_eq_true h3; subst this; rw [h3, cond_true] at h; injection h with h; subst h; exact cloneG_is
 | false =>
 rw [h3, cond_false] at h
 cases h4 : Nat.beq f 152 with
 | true => rw [h4, cond_true] at h; injection h with h; subst h; exact SpIs.stuck _ _
 | false => rw [h4, cond_false] at h; cases h
theorem T_prog (k : Nat) : (T k).c.P = Prog := by unfold T C; rfl
theorem told_ok {k m : Nat} (hsp : okTrue (run (baseCfg Prog kpS moreS) m (k % 1000000) [] Heap.empty) = true) : SpOk (T k).c := by
 have h0 : CallOk Prog (run (baseCfg Prog kpS moreS) m) := run_ok (c := baseCfg Prog kpS moreS) names_ok mixed_ok (SpOk.base more_is) m
 have h1 : SpOk (C k) := by
  unfold C
  exact SpOk.of (P := Prog) (kp := kpS) (speaks := speaksT) (more := moreS) (k := k % 1000000) h0 hsp more_is
 exact h1
end Go.Sw
end
