/-
  Functions' forms, and what is proved of them, part 9.
-/
import Derived.Test.YtnaodjnimkndbaaSwW8
import Derived.Test.YtnaodjnimkndbaaSwW1
import Derived.Test.YtnaodjnimkndbaaSwLib8
import Derived.Test.YtnaodjnimkndbaaSwW6
import Derived.Test.YtnaodjnimkndbaaSwW7
import Derived.Test.YtnaodjnimkndbaaSwCfg
import Derived.Tactics
import Derived.Tactics2
import Derived.Defers
import Derived.Recover
import Derived.Laws.Pointers
import Derived.Test.YtnaodjnimkndbaaSwW4
import Derived.Eval
set_option linter.unusedSimpArgs false
set_option linter.unusedVariables false
set_option linter.unusedSectionVars false
section
namespace Go.Sw
open Go.RowKit
theorem gU_four {b : List Int} (hb : Byt b) (i : Int) : -1 ≤ gU b i 4 ∧ gU b i 4 < 4294967296 := by
 unfold gU
 cases h : uS b i 4 with
 | none => simp
 | some x => have := uS_four hb h; simp; omega
theorem gU_lt {b : List Int} {i : Int} (h : ¬ gU b i 4 < 0) : uS b i 4 = some (gU b i 4) := by
 unfold gU at h ⊢
 cases hu : uS b i 4 with
 | none => rw [hu] at h; simp at h
 | some x => rfl
set_option maxHeartbeats 1000000 in
theorem ref7Read_run (k : Nat) (b : List Int) (hb : Byt b) (g w : Int) (hg : 1 ≤ g ∧ g ≤ 65535) (hw : w = 0 ∨ w = 1 ∨ w = 2) (hl : b.length < 2 ^ 31) (H : Heap) :
  R (T k) F.swashref07_Read [lv encB b, .int .i64 g, .int .i64 w] H = .ok (.tuple #[rmO (refMachS b g w), .bool (refMachS b g w).isSome]) H := by
 rw [swashref07_Read_R]
 have hU := fun j H' => refU_run k (H := H') (Sl.lv H' 1 b) hb j 4 (by omega) (by omega)
 have u0 : ∀ H', R (T k) F.swashref01_U [lv encB b, .int .i64 0, .int .i64 4] H' = .ok (.int .i64 (gU b 0 4)) H' := fun H' => hU _ H'
 have u4 : ∀ H', R (T k) F.swashref01_U [lv encB b, .int .i64 4, .int .i64 4] H' = .ok (.int .i64 (gU b 4 4)) H' := fun H' => hU _ H'
 have u8 : ∀ H', R (T k) F.swashref01_U [lv encB b, .int .i64 8, .int .i64 4] H' = .ok (.int .i64 (gU b 8 4)) H' := fun H' => hU _ H'
 have u12 : ∀ H', R (T k) F.swashref01_U [lv encB b, .int .i64 12, .int .i64 4] H' = .ok (.int .i64 (gU b 12 4)) H' := fun H' => hU _ H'
 have b0 := gU_four hb 0
 have b4 := gU_four hb 4
 have b8 := gU_four hb 8
 have b12 := gU_four hb 12
 have fl : ∀ o : Option RMach, Flat (.tuple #[rmO o, .bool o.isSome]) := fun o => .tupleL (.cons (Flat.rm _) (.cons (.bool _) .nil))
 obtain ⟨n, hn⟩ : ∃ n, gU b 0 4 = n := ⟨_, rfl⟩
 obtain ⟨i, hi⟩ : ∃ i, gU b 4 4 = i := ⟨_, rfl⟩
 obtain ⟨j, hj⟩ : ∃ j, gU b 8 4 = j := ⟨_, rfl⟩
 obtain ⟨q, hq⟩ : ∃ q, gU b 12 4 = q := ⟨_, rfl⟩
 rw [hn] at u0 b0
 rw [hi] at u4 b4
 rw [hj] at u8 b8
 rw [hq] at u12 b12
 obtain ⟨M1, hM1⟩ : ∃ M1 : Blk, M1 = ⟨[lv encB b, .int .i64 n, .int .i64 j, .int .i64 q, .int .i64 2, .int .i64 0, .int .i64 w, .slice none 0 0, .slice none 0 0], 1, false⟩ := ⟨_, rfl⟩
 have hx2 : Ext H ((H.push ⟨zCells, 1, false⟩).push M1) := ((Ext.refl H).push _).push _
 -- one thing is not as it should be
 have no : machS b g w = none → swashref07_Read k (R (T k)) (lv encB b) (.int .i64 g) (.int .i64 w) H = .ok (.tuple #[.agg zCells.toArray, .bool false]) ((H.push ⟨zCells, 1, false⟩).push M1) → nrm .fz H (swashref07_Read k (R (T k)) (lv encB b) (.int .i64 g) (.int .i64 w) H) = .ok (.tuple #[rmO (refMachS b g w), .bool (refMachS b g w).isSome]) H := fun h1 h2 => by
  have : refMachS b g w = none := by unfold refMachS; rw [h1]; rfl
  rw [this]
  exact nrm_fz (L := []) h2 rfl hx2 (fl none).alive
 have n0 : ∀ m, machS b g w = some m → (4 ≤ n ∧ n ≤ 65535) ∧ 0 ≤ i ∧ i ≤ b.length ∧ 0 ≤ j ∧ j ≤ b.length ∧ 0 ≤ q ∧ q ≤ b.length := fun m hm => by
  obtain ⟨i', j', q', tb, rv, ev, x, h0, h1, h2, h3, h4, h5, h6, h7, h8, h9, _⟩ := machS_parts hm
  have e0 := gU_some h0
  have e3 := gU_some h3
  have e6 := gU_some h6
  have e8 := gU_some h8
  rw [hn] at e0
  rw [hi] at e3
  rw [hj] at e6
  rw [hq] at e8
  have r4 := (restS_iff.1 h4).1
  have r7 := (restS_iff.1 h7).1
  have r9 := (restS_iff.1 h9).1
  omega
 have nn : ¬ ((4 ≤ n ∧ n ≤ 65535) ∧ 0 ≤ i ∧ i ≤ b.length ∧ 0 ≤ j ∧ j ≤ b.length ∧ 0 ≤ q ∧ q ≤ b.length) → machS b g w = none := fun h => by
  cases hm : machS b g w with
  | none => rfl
  | some m => exact absurd (n0 m hm) h
 by_cases c1 : n < 4
 ·refine no (nn (by omega)) ?_
  rw [hM1]
  simp -implicitDefEqProofs (disch := omega) [swashref07_Read, u0, u4, u8, u12, c1]
 by_cases c2 : n > 65535
 ·refine no (nn (by omega)) ?_
  rw [hM1]
  simp -implicitDefEqProofs (disch := omega) [swashref07_Read, u0, u4, u8, u12, c1, c2]
 by_cases c3 : j < 0
 ·refine no (nn (by omega)) ?_
  rw [hM1]
  simp -implicitDefEqProofs (disch := omega) [swashref07_Read, u0, u4, u8, u12, c1, c2, c3]
 by_cases c4 : q < 0
 ·refine no (nn (by omega)) ?_
  rw [hM1]
  simp -implicitDefEqProofs (disch := omega) [swashref07_Read, u0, u4, u8, u12, c1, c2, c3, c4]
 by_cases c5 : j > b.length
 ·refine no (nn (by omega)) ?_
  rw [hM1]
  simp -implicitDefEqProofs (disch := omega) [swashref07_Read, u0, u4, u8, u12, c1, c2, c3, c4, c5]
 by_cases c6 : q > b.length
 ·refine no (nn (by omega)) ?_
  rw [hM1]
  simp -implicitDefEqProofs (disch := omega) [swashref07_Read, u0, u4, u8, u12, c1, c2, c3, c4, c5, c6]
 by_cases c7 : i < 0
 ·refine no (nn (by omega)) ?_
  rw [hM1]
  simp -implicitDefEqProofs (disch := omega) [swashref07_Read, u0, u4, u8, u12, c1, c2, c3, c4, c5, c6, c7]
 by_cases c8 : i > b.length
 ·refine no (nn (by omega)) ?_
  rw [hM1]
  simp -implicitDefEqProofs (disch := omega) [swashref07_Read, u0, u4, u8, u12, c1, c2, c3, c4, c5, c6, c7, c8]
 clear no nn n0
 have hU0 := gU_lt (b := b) (i := 0) (by omega)
 have hU4 := gU_lt (b := b) (i := 4) (by omega)
 have hU8 := gU_lt (b := b) (i := 8) (by omega)
 have hU12 := gU_lt (b := b) (i := 12) (by omega)
 rw [hn] at hU0
 rw [hi] at hU4
 rw [hj] at hU8
 rw [hq] at hU12
 obtain ⟨tb, htb⟩ : ∃ tb, tb = b.drop i.toNat := ⟨_, rfl⟩
 have r4 : restS b i = some tb := restS_iff.2 ⟨by omega, htb⟩
 have r8 : restS b j = some (b.drop j.toNat) := restS_iff.2 ⟨by omega, rfl⟩
 have r12 : restS b q = some (b.drop q.toNat) := restS_iff.2 ⟨by omega, rfl⟩
 have hsl := fun H' => slS_lv encB_len b (some (.int .i64 i)) none none i.toNat b.length b.length (by unfold boundOf; dsimp only; rw [if_pos (by omega)]) rfl rfl (fun h => by cases h) (by omega) (Nat.le_refl _) (Nat.le_refl _) H'
 rw [List.take_length, ← htb] at hsl
 have htbb : Byt tb := hb.rest r4
 have htbl : tb.length < 2 ^ 31 := by rw [htb]; simp; omega
 have hrd := fun H' => read06_run k tb htbb g 2 hg (.inl rfl) htbl H'
 have hlr := look_ref htbb hg.1 hg.2 (.inl rfl : (2 : Int) = 2 ∨ (2 : Int) = 4)
 have hmach : machS b g w = (lookS tb g 2).bind fun tab => (closeA (b.drop j.toNat) (b.drop q.toNat) n w 2).map fun x => ⟨n, tab, x.1, x.2⟩ := by
  unfold machS
  rw [hU0, Option.bind_some, if_pos (by omega), hU4, Option.bind_some, r4, Option.bind_some]
  congr 1
  funext tab
  rw [hU8, Option.bind_some, r8, Option.bind_some, hU12, Option.bind_some, r12, Option.bind_some]
 cases hlk : lookS tb g 2 with
 | none =>
  have hm : refMachS b g w = none := by unfold refMachS; rw [hmach, hlk]; rfl
  rw [hm]
  have hrr := hlr.2 hlk
  rw [hrr] at hrd
  simp only [tabRO, Option.isSome_none] at hrd
  obtain ⟨x, e', H1, hr, rfl, rfl, rfl⟩ := loopDec (body := swashref07_Read_l1 k (R (T k)))
   (fun m e H' => H' = (((H.push ⟨zCells, 1, false⟩).push ⟨rmCells b n j q 2 0 w [] [], 1, false⟩).push ⟨[lv encB [], lv encRP []], 1, false⟩) ∧ e = [(0, lv encB b), (6, ptrV H.n), (8, ptrV (H.n + 1)), (11, .bool false), (12, .int .i64 (4 + 2 * w))])
   (fun x e H' => H' = (((H.push ⟨zCells, 1, false⟩).push ⟨rmCells b n j q 2 0 w [] [], 1, false⟩).push ⟨[lv encB [], lv encRP []], 1, false⟩) ∧ x = .exit 0 ∧ e = [(0, lv encB b), (6, ptrV H.n), (8, ptrV (H.n + 1)), (12, .int .i64 (4 + 2 * w)), (81, .bool false)])
   0 (e0 := [(0, lv encB b), (6, ptrV H.n), (8, ptrV (H.n + 1)), (11, .bool false), (12, .int .i64 (4 + 2 * w))]) (H0 := (((H.push ⟨zCells, 1, false⟩).push ⟨rmCells b n j q 2 0 w [] [], 1, false⟩).push ⟨[lv encB [], lv encRP []], 1, false⟩)) ⟨rfl, rfl⟩ (by omega)
   (fun m e H' ⟨hH, he⟩ => by
    subst hH he
    refine .inr ⟨.exit 0, _, _, ?_, by simp, rfl, rfl, rfl⟩
    rw [swashref07_Read_l1_eq]
    simp -implicitDefEqProofs)
  refine nrm_fz (L := []) (v := .tuple #[.agg zCells.toArray, .bool false]) (H' := ((H.push ⟨zCells, 1, false⟩).push ⟨rmCells b n j q 2 0 w [] [], 1, false⟩).push ⟨[lv encB [], lv encRP []], 1, false⟩) ?_ rfl ((((Ext.refl H).push _).push _).push _) (fl none).alive
  simp -implicitDefEqProofs (disch := omega) [swashref07_Read, u0, u4, u8, u12, c1, c2, c3, c4, c5, c6, c7, c8, hsl, hrd, hr, swashref07_Read_l1k_x0]
 | some tab =>
  obtain ⟨ps, hps, hrel⟩ := hlr.1 tab hlk
  rw [hps] at hrd
  simp only [tabRO, Option.isSome_some] at hrd
  have st := ((Star.nil H).push ⟨zCells, 1, false⟩).push ⟨rmCells b n j q 2 0 w tb ps, 1, false⟩
  have st := st.rest ((Ext.refl _).push ⟨[lv encB tb, lv encRP ps], 1, false⟩)
  have hlp := ref7_loop k b hb hl (n := n) (w := w) (by omega) (by omega) r8 r12 tb ps (by simpa using st)
  cases hcl : closeA (b.drop j.toNat) (b.drop q.toNat) n w 2 with
  | none =>
   have hm : refMachS b g w = none := by unfold refMachS; rw [hmach, hlk, Option.bind_some, hcl]; rfl
   rw [hm]
   rw [hcl] at hlp
   obtain ⟨H2, hr, hx, hz⟩ := hlp
   have hgs : (H2.set H.n (some ⟨zCells, 1, false⟩)).get H.n = some ⟨zCells, 1, false⟩ := get_set_eq _ _ _ (by rw [hz]; rfl)
   have hx3 : Ext H (H2.set H.n (some ⟨zCells, 1, false⟩)) := ⟨by simpa using hx.1, fun d hd hs => by rw [get_set_ne _ _ _ _ (by omega)]; exact hx.2 d hd hs⟩
   refine nrm_fz (L := []) (v := .tuple #[.agg zCells.toArray, .bool false]) (H' := H2.set H.n (some ⟨zCells, 1, false⟩)) ?_ rfl hx3 (fl none).alive
   simp -implicitDefEqProofs (disch := omega) [swashref07_Read, u0, u4, u8, u12, c1, c2, c3, c4, c5, c6, c7, c8, hsl, hrd, hr, swashref07_Read_l1k_x0, hz, hgs]
  | some x =>
   have hm : refMachS b g w = some (rmOf b g w ⟨n, tab, x.1, x.2⟩) := by unfold refMachS; rw [hmach, hlk, Option.bind_some, hcl]; rfl
   rw [hm]
   rw [hcl] at hlp
   obtain ⟨H2, S, N, hr, hx, hz, rfl, rfl⟩ := hlp
   have hrm : rmO (some (rmOf b g w ⟨n, tab, x.1, x.2⟩)) = .agg (rmCells b n j q x.1.length x.2.length w tb ps).toArray := by
    unfold rmO rmOf
    rw [hj, hq, hi, ← htb, hps]
    rfl
   have fl2 := fl (some (rmOf b g w ⟨n, tab, x.1, x.2⟩))
   rw [hrm] at fl2 ⊢
   refine nrm_fz (L := []) (v := .tuple #[.agg (rmCells b n j q x.1.length x.2.length w tb ps).toArray, .bool true]) (H' := H2) ?_ rfl hx fl2.alive
   simp -implicitDefEqProofs (disch := omega) [swashref07_Read, u0, u4, u8, u12, c1, c2, c3, c4, c5, c6, c7, c8, hsl, hrd, hr, swashref07_Read_l1k_r, hz]
theorem mach_at {b : List Int} (hb : Byt b) {g w : Int} (hw : 0 ≤ w ∧ w ≤ 2) {m : Mach} (h : machS b g w = some m) :
  (0 ≤ gU b 8 4 ∧ gU b 8 4 ≤ b.length) ∧ (0 ≤ gU b 12 4 ∧ gU b 12 4 ≤ b.length) ∧
  (∀ (i : Nat) e, m.ents[i]? = some e → e = ⟨gU b (gU b 12 4 + (i : Int) * (4 + 2 * w)) 2, gU b (gU b 12 4 + (i : Int) * (4 + 2 * w) + 2) 2, if 0 < w then gU b (gU b 12 4 + (i : Int) * (4 + 2 * w) + 4) 2 else 0, if 1 < w then gU b (gU b 12 4 + (i : Int) * (4 + 2 * w) + 6) 2 else 0⟩) ∧
  ∀ (s c : Nat) r x, m.rows[s]? = some r → r[c]? = some x → x = gU b (gU b 8 4 + (m.classes * s + (c : Nat)) * 2) 2 := by
 obtain ⟨i, j, q, tb, rv, ev, x, h0, h1, h2, h3, h4, h5, h6, h7, h8, h9, h10, h11, h12⟩ := machS_parts h
 have e6 := gU_some h6
 have e8 := gU_some h8
 rw [e6, e8]
 obtain ⟨c1, c2, c3, c4, c5, c6, c7, _⟩ := closeS_ok (hb.rest h7) (hb.rest h9) (by omega) hw _ _ x (by omega) (by omega) h10
 refine ⟨(restS_iff.1 h7).1, (restS_iff.1 h9).1, fun i e he => ?_, fun s c r x' hr hx => ?_⟩
 ·rw [h12] at he
  obtain ⟨y, g1, g2⟩ := mapO_at c7 (List.getElem?_eq_some_iff.1 he).1
  rw [he] at g2
  injection g2 with g2
  subst g2
  exact ent_at h9 hw g1
 ·rw [h11] at hr
  obtain ⟨y, g1, g2⟩ := mapO_at c6 (List.getElem?_eq_some_iff.1 hr).1
  rw [hr] at g2
  injection g2 with g2
  subst g2
  have hra := row_at h7 (by omega) g1
  have hlt := (List.getElem?_eq_some_iff.1 hx).1
  rw [hra] at hx hlt
  simp at hlt
  rw [List.getElem?_map, List.getElem?_range (by omega)] at hx
  injection hx with hx
  exact hx.symm
theorem entry7_run (k : Nat) {b : List Int} (hb : Byt b) {g w : Int} (hw : w = 0 ∨ w = 1 ∨ w = 2) (hl : b.length < 2 ^ 31) {m : Mach} (h : machS b g w = some m) {i : Int} (hi0 : 0 ≤ i) (hi6 : i ≤ 65536) {e : En} (he : m.ents[i.toNat]? = some e) (H : Heap) :
  R (T k) F.swashref07_Entry [rmV (rmOf b g w m), .int .i64 i] H = .ok (.agg (encEn e).toArray) H := by
 obtain ⟨_, hq, hat, _⟩ := mach_at hb (by omega) h
 have he := hat _ _ he
 clear hat
 obtain ⟨i, rfl⟩ := Int.eq_ofNat_of_zero_le hi0
 rw [Int.toNat_natCast] at he
 obtain ⟨p, hp⟩ : ∃ p, p = gU b 12 4 + (i : Int) * (4 + 2 * w) := ⟨_, rfl⟩
 have hm0 : 0 ≤ (i : Int) * (4 + 2 * w) := Int.mul_nonneg (by omega) (by omega)
 have hm1 : (i : Int) * (4 + 2 * w) ≤ 65536 * 8 := Int.mul_le_mul (by omega) (by omega) (by omega) (by omega)
 have hU := fun j H' => refU_run k (H := H') (Sl.lv H' 1 b) hb j 2 (by omega) (by omega)
 have hu : ∀ j H', R (T k) F.swashref01_U [lv encB b, .int .i64 j, .int .i64 2] H' = .ok (.int .i64 (gU b j 2)) H' := fun j H' => hU j H'
 rw [swashref07_Entry_R]
 rw [← hp] at he
 have hx : Ext H (((H.push ⟨rmCells b m.classes (gU b 8 4) (gU b 12 4) m.rows.length m.ents.length w (b.drop (gU b 4 4).toNat) ((refReadS (b.drop (gU b 4 4).toNat) g 2).getD []), 1, false⟩).push ⟨encEn e, 1, false⟩).push ⟨encEn e, 1, false⟩) := (((Ext.refl H).push _).push _).push _
 refine nrm_gc ⟨_, ?_, hx⟩ (Flat.ofEn e).alive
 subst he
 unfold rmOf
 rcases hw with rfl | rfl | rfl
 ·simp -implicitDefEqProofs at hm0 hm1 hp
  simp -implicitDefEqProofs (disch := omega) [swashref07_Entry, ← hp, hu, swashref07_Entry_j2_eq, swashref07_Entry_j4_eq]
 ·simp -implicitDefEqProofs at hm0 hm1 hp
  simp -implicitDefEqProofs (disch := omega) [swashref07_Entry, ← hp, hu, swashref07_Entry_j1_eq, swashref07_Entry_j4_eq]
 ·simp -implicitDefEqProofs at hm0 hm1 hp
  simp -implicitDefEqProofs (disch := omega) [swashref07_Entry, ← hp, hu, swashref07_Entry_j1_eq, swashref07_Entry_j3_eq]
theorem class7_run (k : Nat) {b : List Int} (hb : Byt b) {g w : Int} (hg : 1 ≤ g ∧ g ≤ 65535) (hl : b.length < 2 ^ 31) {m : Mach} (hm : m.ok) (h : machS b g w = some m) (id : Int) (H : Heap) :
  R (T k) F.swashref07_Class [rmV (rmOf b g w m), .int .i64 id] H = .ok (.int .i64 (classS m id)) H := by
 obtain ⟨i, j, q, tb, rv, ev, x, h0, h1, h2, h3, h4, h5, _⟩ := machS_parts h
 have e3 := gU_some h3
 obtain ⟨hi, htb⟩ := restS_iff.1 h4
 have htbb : Byt tb := hb.rest h4
 have htbl := restS_len h4
 obtain ⟨ps, hps, hrel⟩ := (look_ref htbb hg.1 hg.2 (.inl rfl : (2 : Int) = 2 ∨ (2 : Int) = 4)).1 _ h5
 have hget := fun H' => get06_run k tb htbb ps (refRead_ok htbb hg (.inl rfl) hps) (refRead_len htbb hg (.inl rfl) h5 hps) (by omega) id H'
 rw [← get_ref (id := id) hrel hm.pts hm.rise] at hget
 have hrm : rmV (rmOf b g w m) = .agg (rmCells b m.classes (gU b 8 4) (gU b 12 4) m.rows.length m.ents.length w tb ps).toArray := by
  unfold rmOf
  rw [e3, ← htb, hps]
  rfl
 rw [hrm, swashref07_Class_R]
 refine nrm_gc ⟨_, ?_, (Ext.refl H).push ⟨rmCells b m.classes (gU b 8 4) (gU b 12 4) m.rows.length m.ents.length w tb ps, 1, false⟩⟩ (.int _ _)
 unfold classS
 by_cases h : id = 65535
 ·subst h
  simp -implicitDefEqProofs (disch := omega) [swashref07_Class]
 ·have h' : (id == 65535) = false := by simpa using h
  rw [if_neg h]
  cases hg : getS m.tab.2 id with
  | none =>
   rw [hg] at hget
   simp -implicitDefEqProofs (disch := omega) [swashref07_Class, h', hget]
  | some x =>
   rw [hg] at hget
   dsimp only
   by_cases hx : x < m.classes
   ·have hx' : ¬ x ≥ m.classes := by omega
    simp -implicitDefEqProofs (disch := omega) [swashref07_Class, h', hget, hx, hx']
   ·have hx' : x ≥ m.classes := by omega
    simp -implicitDefEqProofs (disch := omega) [swashref07_Class, h', hget, hx, hx']
end Go.Sw
end
section
namespace Go.Sw
theorem row_I {r : List Da} {cs : List Value} (h : LayRow [.int .i64] r cs) : ∃ n : Int, cs = encI n ∧ (Lit.int .i64 n).wf = true := by
 obtain ⟨d, v, ds, vs, rfl, h1, h2⟩ := h.head
 obtain rfl := h2.done
 obtain ⟨n, rfl, w⟩ := h1.intv
 exact ⟨n, rfl, w⟩
theorem wf_u8 {n : Int} (h : (Lit.int .u8 n).wf = true) : 0 ≤ n ∧ n < 256 := by
 simp [Lit.wf, IntKind.min, IntKind.max, IntKind.signed, IntKind.bits] at h
 omega
theorem wf_u16 {n : Int} (h : (Lit.int .u16 n).wf = true) : 0 ≤ n ∧ n < 65536 := by
 simp [Lit.wf, IntKind.min, IntKind.max, IntKind.signed, IntKind.bits] at h
 omega
theorem row_B {r : List Da} {cs : List Value} (h : LayRow [.int .u8] r cs) : ∃ n : Int, cs = encB n ∧ (0 ≤ n ∧ n < 256) := by
 obtain ⟨d, v, ds, vs, rfl, h1, h2⟩ := h.head
 obtain rfl := h2.done
 obtain ⟨n, rfl, w⟩ := h1.intv
 exact ⟨n, rfl, wf_u8 w⟩
theorem arg_B {v : Value} (h : ArgLay (.one (.slice [.int .u8])) v) : ∃ b, v = lv encB b ∧ Byt b := by
 obtain ⟨d, h1⟩ := h.cell
 obtain ⟨b, rfl, hb⟩ := Lay.list (enc := encB) (ok := fun n => 0 ≤ n ∧ n < 256) (fun r cs h => row_B h) h1
 exact ⟨b, rfl, hb⟩
theorem arg_I {v : Value} (h : ArgLay (.one (.slice [.int .i64])) v) : ∃ l, v = lv encI l ∧ ∀ n, n ∈ l → (Lit.int .i64 n).wf = true := by
 obtain ⟨d, h1⟩ := h.cell
 exact Lay.list (enc := encI) (ok := fun n => (Lit.int .i64 n).wf = true) (fun r cs h => row_I h) h1
end Go.Sw
end
section
namespace Go.Sw
open Go.RowKit
theorem veq_RP (l : List RP) : veq (lv encRP l) (lv encRP l) = true := veq_lv fun p _ v hv => by
 simp [encRP] at hv
 rcases hv with rfl | rfl | rfl | rfl | rfl <;> simp
theorem veq_rm (r : RMach) : veq (rmV r) (rmV r) = true := veq_agg fun v hv => by
 simp [rmCells] at hv
 rcases hv with rfl | rfl | rfl | rfl | rfl | rfl | rfl | rfl | rfl
 ·simp
 ·simp
 ·simp
 ·simp
 ·simp
 ·simp
 ·simp
 ·simp
 ·exact veq_RP _
theorem step7_run (k : Nat) {b : List Int} (hb : Byt b) {g w : Int} (hw : w = 0 ∨ w = 1 ∨ w = 2) (hl : b.length < 2 ^ 31) {m : Mach} (hm : m.ok) (h : machS b g w = some m) (s c : Int) (H : Heap) :
  R (T k) F.swashref07_Step [rmV (rmOf b g w m), .int .i64 s, .int .i64 c] H = .ok (.tuple #[encEA (stepS m s c), .bool (stepS m s c).isSome]) H := by
 rw [swashref07_Step_R]
 have fl : Flat (.tuple #[encEA (stepS m s c), .bool (stepS m s c).isSome]) := .tupleL (.cons (encEA_flat _) (.cons (.bool _) .nil))
 have no : ¬ (0 ≤ s ∧ s < m.rows.length ∧ 0 ≤ c ∧ c < m.classes) → stepS m s c = none := fun h => by unfold stepS; rw [if_neg h]
 have hx1 : Ext H (H.push ⟨rmCells b m.classes (gU b 8 4) (gU b 12 4) m.rows.length m.ents.length w (b.drop (gU b 4 4).toNat) ((refReadS (b.drop (gU b 4 4).toNat) g 2).getD []), 1, false⟩) := (Ext.refl H).push _
 have hx := hx1.push ⟨[.int .i64 0, .int .i64 0, .int .i64 0, .int .i64 0], 1, false⟩
 obtain ⟨r, hr⟩ : ∃ r, r = rmOf b g w m := ⟨_, rfl⟩
 have hent := fun i h0 h6 e he H => entry7_run k hb (g := g) hw hl h (i := i) h0 h6 (e := e) he H
 rw [← hr] at hent ⊢
 have r1 : r.states = m.rows.length := by rw [hr]; rfl
 have r2 : r.cl = m.classes := by rw [hr]; rfl
 have r3 : r.rowsAt = gU b 8 4 := by rw [hr]; rfl
 have r4 : r.b = b := by rw [hr]; rfl
 have hx1 : Ext H (H.push ⟨rmCells r.b r.cl r.rowsAt r.entsAt r.states r.n r.words r.tb r.parts, 1, false⟩) := (Ext.refl H).push _
 have hx := hx1.push ⟨[.int .i64 0, .int .i64 0, .int .i64 0, .int .i64 0], 1, false⟩
 have hcl := hm.cl
 by_cases h1 : s < 0
 ·rw [no (by omega)] at fl ⊢
  refine nrm_gc ⟨_, ?_, hx⟩ fl.alive
  simp -implicitDefEqProofs (disch := omega) [swashref07_Step, h1, encEA]
 by_cases h2 : s ≥ m.rows.length
 ·rw [no (by omega)] at fl ⊢
  refine nrm_gc ⟨_, ?_, hx⟩ fl.alive
  simp -implicitDefEqProofs (disch := omega) [swashref07_Step, h1, h2, r1, encEA]
 by_cases h3 : c < 0
 ·rw [no (by omega)] at fl ⊢
  refine nrm_gc ⟨_, ?_, hx⟩ fl.alive
  simp -implicitDefEqProofs (disch := omega) [swashref07_Step, h1, h2, h3, r1, encEA]
 by_cases h4 : c ≥ m.classes
 ·rw [no (by omega)] at fl ⊢
  refine nrm_gc ⟨_, ?_, hx⟩ fl.alive
  simp -implicitDefEqProofs (disch := omega) [swashref07_Step, h1, h2, h3, h4, r1, r2, encEA]
 obtain ⟨row, x, e, hrow, hxx, hx0, he, hs⟩ := stepS_some hm (s := s) (c := c) (by omega)
 rw [hs] at fl ⊢
 obtain ⟨hj, _, _, hat⟩ := mach_at hb (by omega) h
 have hpos := hat s.toNat c.toNat row x hrow hxx
 have hxm := (hm.row row (List.mem_of_getElem? hrow)).2 x (List.mem_of_getElem? hxx)
 have hel := hm.elen
 have htwo := hm.two
 obtain ⟨s, rfl⟩ := Int.eq_ofNat_of_zero_le (show 0 ≤ s by omega)
 obtain ⟨c, rfl⟩ := Int.eq_ofNat_of_zero_le (show 0 ≤ c by omega)
 simp only [Int.toNat_natCast] at hpos
 have hm0 : 0 ≤ (s : Int) * m.classes := Int.mul_nonneg (by omega) (by omega)
 have hm1 : (s : Int) * m.classes ≤ 65536 * 65535 := Int.mul_le_mul (by omega) (by omega) (by omega) (by omega)
 have hpe : gU b 8 4 + (m.classes * (s : Int) + (c : Nat)) * 2 = gU b 8 4 + 2 * ((s : Int) * m.classes + (c : Int)) := by rw [Int.mul_comm m.classes]; omega
 rw [hpe] at hpos
 have hU := fun j H' => refU_run k (H := H') (Sl.lv H' 1 b) hb j 2 (by omega) (by omega)
 have hu : ∀ H', R (T k) F.swashref01_U [lv encB b, .int .i64 (gU b 8 4 + 2 * ((s : Int) * m.classes + (c : Int))), .int .i64 2] H' = .ok (.int .i64 x) H' := fun H' => by
  rw [hU]; unfold gU at hpos; rw [hpos]; rfl
 have he' := hent x hx0 (by omega) e he
 have hq := veq_rm r
 refine nrm_gc ⟨(H.push ⟨rmCells r.b r.cl r.rowsAt r.entsAt r.states r.n r.words r.tb r.parts, 1, false⟩).push ⟨encEn e, 1, false⟩, ?_, hx1.push _⟩ fl.alive
 simp only [rmV, rmCells, r1, r2, r3, r4] at he' hq ⊢
 simp -implicitDefEqProofs (disch := omega) at he' hq ⊢
 simp -implicitDefEqProofs (disch := omega) [swashref07_Step, h1, h2, h3, h4, hu, he', hq, encEA]
end Go.Sw
end
section
namespace Go.Sw
open Go.RowKit
theorem planRoom_byt {p : Plan} (hp : p.ok) (w : Int) {rm : List Int} (hrm : Byt rm) : Byt (planRoom p w rm) := by
 have tw : ∀ l, Byt (twos l) := fun l => Byt.flat fun r hr => by obtain ⟨c, _, rfl⟩ := List.mem_map.1 hr; exact bytesOf_byt _ _
 unfold planRoom
 refine (bytesOf_byt _ _).app ((bytesOf_byt _ _).app ((bytesOf_byt _ _).app ((bytesOf_byt _ _).app (hrm.app (Byt.app ?_ (Byt.app ?_ ?_))))))
 ·unfold ofS
  exact (((bytesOf_byt _ _).app (bytesOf_byt _ _)).app (bytesOf_byt _ _)).app (tw _)
 ·exact Byt.flat fun r hr => by obtain ⟨c, _, rfl⟩ := List.mem_map.1 hr; exact tw _
 ·refine Byt.flat fun r hr => ?_
  obtain ⟨e, _, rfl⟩ := List.mem_map.1 hr
  unfold entB
  refine (((bytesOf_byt _ _).app (bytesOf_byt _ _)).app ?_).app ?_
  ·split
   ·exact bytesOf_byt _ _
   ·exact Byt.nil
  ·split
   ·exact bytesOf_byt _ _
   ·exact Byt.nil
theorem planRoom_len {p : Plan} (hp : p.ok) (w : Int) {rm : List Int} (hrm : rm.length ≤ 1000) (h1 : p.cls.length ≤ 1000) (h2 : p.rows.length ≤ 1000) (h3 : p.ents.length ≤ 1000) : (planRoom p w rm).length ≤ 100000 := by
 have hN := planN_eq p hp.2.2
 have hofl : (ofS p.cls).length = 6 + p.cls.length * 2 := by unfold ofS; simp [twos_len]; omega
 have hrl : (rowsL (planN p) p.rows).length ≤ 1000 * 22 := by rw [rowsL_len]; exact Nat.mul_le_mul h2 (by omega)
 have hel := entsB_len w p.ents
 unfold planRoom
 simp
 omega
theorem row_En {r : List Da} {cs : List Value} (h : LayRow [.int .i64, .int .i64, .int .i64, .int .i64] r cs) : ∃ p : En, cs = encEn p ∧ True := by
 obtain ⟨_, v1, _, _, rfl, h1, h⟩ := h.head
 obtain ⟨_, v2, _, _, rfl, h2, h⟩ := h.head
 obtain ⟨_, v3, _, _, rfl, h3, h⟩ := h.head
 obtain ⟨_, v4, _, _, rfl, h4, h⟩ := h.head
 obtain rfl := h.done
 obtain ⟨a, rfl, _⟩ := h1.intv
 obtain ⟨b, rfl, _⟩ := h2.intv
 obtain ⟨c, rfl, _⟩ := h3.intv
 obtain ⟨d, rfl, _⟩ := h4.intv
 exact ⟨⟨a, b, c, d⟩, rfl, trivial⟩
theorem row_BR {r : List Da} {cs : List Value} (h : LayRow [.slice [.int .u8]] r cs) : ∃ b : List Int, cs = encBR b ∧ Byt b := by
 obtain ⟨_, v1, _, _, rfl, h1, h⟩ := h.head
 obtain rfl := h.done
 obtain ⟨b, rfl, hb⟩ := Lay.list (enc := encB) (ok := fun n => 0 ≤ n ∧ n < 256) (fun r cs h => row_B h) h1
 exact ⟨b, rfl, hb⟩
end Go.Sw
end
section
set_option maxRecDepth 100000
set_option linter.unusedVariables false
namespace Go.Sw
noncomputable section
end
end Go.Sw
end
section
namespace Go.Sw
open Go.RowKit
variable {σ : Type}
def DoOk (k : Nat) (m : Mach) (H0 : Heap) (W : σ → List It) (Inv : σ → Prop) (a : Value) (g : σ → Int → En → σ) : Prop :=
 ∀ s i e H X, Inv s → Star H0 H (W s ++ X) → 0 ≤ i → i < 2 ^ 50 → e ∈ m.ents →
  ∃ v H', callV (R (T k)) a [.int .i64 i, encE e] H = .ok v H' ∧ Star H0 H' (W (g s i e) ++ X) ∧ Inv (g s i e)
theorem plain_ok (k : Nat) {m : Mach} {H0 : Heap} {W : σ → List It} {Inv : σ → Prop} {a : Value} {g : σ → Int → En → σ} (h : DoOk k m H0 W Inv a g) (p : Nat) :
  ActOk k m H0 (fun s => W s ++ [itBlk p ⟨[a], 1, false⟩]) Inv (.func (.func F.drive_Plain_in1) #[] #[ptrV p]) (fun s i e => (g s i e, i, i + 1)) := by
 intro s i e H X hI st h0 h1 he
 have st2 := st.push ⟨encEn e, 1, false⟩
 have hp := st2.memBlk (c := p) (k := ⟨[a], 1, false⟩) (by simp)
 have hpn : ¬ p = H.n := by have := Heap.get_lt (st.memBlk (c := p) (k := ⟨[a], 1, false⟩) (by simp)); omega
 obtain ⟨v, H', e1, st3, hI2⟩ := h s i e (H.push ⟨encEn e, 1, false⟩) ([itBlk p ⟨[a], 1, false⟩] ++ X ++ [itBlk H.n ⟨encEn e, 1, false⟩]) hI (by simpa [List.append_assoc] using st2) h0 h1 he
 have st4 : Star H0 H' (W (g s i e) ++ [itBlk p ⟨[a], 1, false⟩] ++ X) := by
  have : W (g s i e) ++ ([itBlk p ⟨[a], 1, false⟩] ++ X ++ [itBlk H.n ⟨encEn e, 1, false⟩]) = (W (g s i e) ++ [itBlk p ⟨[a], 1, false⟩] ++ X) ++ [itBlk H.n ⟨encEn e, 1, false⟩] := by simp
  rw [this] at st3
  exact st3.drop_last
 refine ⟨H', ?_, st4, hI2, by dsimp only; omega, by dsimp only; omega⟩
 simp only [callV, List.nil_append, List.cons_append]
 rw [drive_Plain_in1_R, nrm_of]
 simp -implicitDefEqProofs (disch := omega) [drive_Plain_in1, hp, hpn, e1]
end Go.Sw
end
section
namespace Go.Sw
open Go.RowKit Go.Proofs
set_option maxRecDepth 20000 in
theorem catch_short (p : Addr) (b : Bool) (w : World) (hc : (w.alloc (.cells #[] 233)).cell? p = some (.bool b)) (hz : (w.alloc (.cells #[] 233)).frozen? p = false) :
  CallsD Prog 160 #[.pointer (some p)] (.panicking [{ v := .iface 233 (.agg #[]), recovered := false }]) w fun e u' w' =>
   e = .returned (.tuple #[]) ∧ u' = .panicking [{ v := .iface 233 (.agg #[]), recovered := true }] ∧ w' = (w.alloc (.cells #[] 233)).setCell p (.bool false) := by
 refine callsD_of_wpS Try.func160 rfl fun c₀ cs hu => ?_
 apply wpS_seq
 apply wpS_region
 simp [wpOpsS, go_sem, recoverD, hu, Try.ntmps160, Exit.thenS]
 have hta : ∀ w, (Instr.typeAssert (.iface 233 (.agg #[])) 20 233 true).run Prog w = .ok (.tuple #[.agg #[], .bool true]) w := fun w => by kernel_rfl
 refine wpS_of_wp ?_
 go_wp2
 cases c₀
 simp_all [bodyPostS, results, Try.results160]
theorem catch_idle (p : Addr) (w : World) :
  CallsD Prog 160 #[.pointer (some p)] .returning w fun e u' w' => e = .returned (.tuple #[]) ∧ u' = .returning ∧ w' = w := by
 refine callsD_of_wpS Try.func160 rfl fun c₀ cs hu => ?_
 apply wpS_seq
 apply wpS_region
 simp [wpOpsS, go_sem, recoverD, hu, Try.ntmps160, Exit.thenS]
 refine wpS_of_wp ?_
 go_wp2
 cases c₀
 simp_all [bodyPostS, results, Try.results160]
set_option maxRecDepth 20000 in
theorem try_walk (g : FuncId) (first cap : Array Value) (w : World) (R : Ending → World → Prop)
  (hcf : (callFunc g (first ++ cap)).run Prog (w.alloc (.cells #[.bool false] 4)) = .ok (.enter g (first ++ cap)) (w.alloc (.cells #[.bool false] 4)))
  (hcall : Calls Prog g (first ++ cap) (w.alloc (.cells #[.bool false] 4)) fun e w' => match e with
   | .returned _ => w'.heap[w.heap.size]? = some (.cells #[.bool false] 4 (0, 0)) ∧ R (.returned (.bool true)) (w'.setCell ⟨w.heap.size, 0, none⟩ (.bool true))
   | .panicked chain => chain = [{ v := .iface 233 (.agg #[]), recovered := false }] ∧ w'.heap[w.heap.size]? = some (.cells #[.bool false] 4 (0, 0)) ∧ R (.returned (.bool false)) ((w'.alloc (.cells #[] 233)).setCell ⟨w.heap.size, 0, none⟩ (.bool false))
   | .outgrown => False) :
  Calls Prog 77 #[.func (.func g) first cap] w R := by
 have hmf : ∀ (fn : Fn) (first cap : Array Value) (w : World), (Instr.makeFunc fn first cap).run Prog w = .ok (.func fn first cap) w := fun _ _ _ _ => rfl
 go_enter_defers Try.func77, Try.ntmps77
 go_wp2
 rename_i K2 hK2 K1 hK1
 refine hcall.mono fun e w' he => ?_
 cases e with
 | returned v =>
  obtain ⟨h1, h2⟩ := he
  have hc : w'.cell? ⟨w.heap.size, 0, none⟩ = some (.bool false) := by simp [World.cell?, h1]
  have hz : w'.frozen? ⟨w.heap.size, 0, none⟩ = false := by simp [World.frozen?, h1]
  apply hK1
  apply hK2
  go_wp2
  have hc2 : (w'.setCell ⟨w.heap.size, 0, none⟩ (.bool true)).cell? ⟨w.heap.size, 0, none⟩ = some (.bool true) := World.cell?_setCell_same _ _ _ hc
  refine leaves_cons (f := 160) (args := #[.pointer (some ⟨w.heap.size, 0, none⟩)]) (by simp) (by simp [go_sem]) ?_
  refine (catch_idle ⟨w.heap.size, 0, none⟩ _).mono ?_
  rintro e u' w'' ⟨rfl, rfl, rfl⟩
  simp [Leaves, settle, results, Try.results77, go_sem, hc2]
  exact h2
 | panicked chain =>
  obtain ⟨h0, h1, h2⟩ := he
  subst h0
  have hlt : w.heap.size < w'.heap.size := by
   rcases Nat.lt_or_ge w.heap.size w'.heap.size with h | h
   ·exact h
   ·rw [Array.getElem?_eq_none h] at h1; cases h1
  have h3 : (w'.alloc (.cells #[] 233)).heap[w.heap.size]? = some (.cells #[.bool false] 4 (0, 0)) := by
   rw [heap_alloc_lt _ _ _ hlt]; exact h1
  have hc : (w'.alloc (.cells #[] 233)).cell? ⟨w.heap.size, 0, none⟩ = some (.bool false) := by simp only [World.cell?, h3]; rfl
  have hz : (w'.alloc (.cells #[] 233)).frozen? ⟨w.heap.size, 0, none⟩ = false := by simp [World.frozen?, h3]
  have hc2 : ((w'.alloc (.cells #[] 233)).setCell ⟨w.heap.size, 0, none⟩ (.bool false)).cell? ⟨w.heap.size, 0, none⟩ = some (.bool false) := World.cell?_setCell_same _ _ _ hc
  show Leaves _ _ _ _ _ _ _
  refine leaves_cons (f := 160) (args := #[.pointer (some ⟨w.heap.size, 0, none⟩)]) (by simp) (by simp [go_sem]) ?_
  refine (catch_short ⟨w.heap.size, 0, none⟩ false _ hc hz).mono ?_
  rintro e u' w'' ⟨rfl, rfl, rfl⟩
  simp [Leaves, settle, results, Try.results77, go_sem, hc2]
  exact h2
 | outgrown => exact he.elim
theorem try_is : SpIs Prog 77 (tryV 233) := try_of (bt := 4) Try.func77 rfl (by kernel_rfl) try_walk
end Go.Sw
end
section
namespace Go.Sw
open Go.RowKit
def cV (o : Option CTab) : Value := match o with | some t => ctxV t | none => .pointer none
theorem cV_flat (o : Option CTab) : Flat (cV o) := by
 cases o with
 | none => exact .nilPtr
 | some t => exact Flat.ctx t
theorem ctx_in1_run (k : Nat) (hk : k < 1000000) {H : Heap} (b : List Int) (hb : Byt b) (g : Int) (hg : 1 ≤ g ∧ g ≤ 65535) (hl : b.length < 2 ^ 31) (p2 p3 p4 : Nat) (old : Value)
  (h2 : H.get p2 = some ⟨[lv encB b], 1, false⟩) (h3 : H.get p3 = some ⟨[.int .i64 g], 1, false⟩) (h4 : H.get p4 = some ⟨[old], 1, false⟩) :
  R (T k) F.ctx_Read_in1 [ptrV p2, ptrV p3, ptrV p4] H = match ctxS b g with
   | some t => .ok (.tuple #[]) (H.set p4 (some ⟨[ctxV t], 1, false⟩))
   | none => .panic failV H := by
 rw [ctx_Read_in1_R]
 have ht := ctxTake_run k hk b hb g hg hl H
 have ho := fun H => Of_lv k b H
 cases h : ctxS b g with
 | none =>
  rw [h] at ht
  refine nrm_throw ⟨H, ?_, Ext.refl H⟩ Flat.fail.alive
  simp -implicitDefEqProofs (disch := omega) [ctx_Read_in1, h2, h3, ho, ht]
 | some x =>
  rw [h] at ht
  simp -implicitDefEqProofs (disch := omega) [ctx_Read_in1, h2, h3, h4, ho, ht]
theorem ctxRead_run (k : Nat) (hk : k < 1000000) (b : List Int) (hb : Byt b) (g : Int) (hg : 1 ≤ g ∧ g ≤ 65535) (hl : b.length < 2 ^ 31) (H : Heap) :
  R (T k) F.ctx_Read [lv encB b, .int .i64 g] H = .ok (.tuple #[cV (ctxS b g), .int .i64 (if (ctxS b g).isSome then 0 else 2)]) H := by
 rw [ctx_Read_R]
 have c1 : ¬ g < 1 := by omega
 have c2 : ¬ g > 65535 := by omega
 have hx2 := ((Ext.refl H).push ⟨[lv encB b], 1, false⟩).push ⟨[.int .i64 g], 1, false⟩
 have al : ∀ o n, Alive H (.tuple #[cV o, .int .i64 n]) := fun o n => (Flat.tupleL (l := [cV o, .int .i64 n]) (.cons (cV_flat o) (.cons (.int _ _) .nil))).alive
 have fz : ∀ H' o n, fzV H.n H' fzDepth (.tuple #[cV o, .int .i64 n]) = some (.tuple #[cV o, .int .i64 n], []) := fun H' o n => by
  cases o <;> rfl
 have hin := ctx_in1_run k hk (H := ((H.push ⟨[lv encB b], 1, false⟩).push ⟨[.int .i64 g], 1, false⟩).push ⟨[.pointer none], 1, false⟩) b hb g hg hl H.n (H.n + 1) (H.n + 2) (.pointer none) (by simp) (by simp) (by simp)
 cases hc : ctxS b g with
 | none =>
  rw [hc] at hin
  have ht := Try_no k F.ctx_Read_in1 #[ptrV H.n, ptrV (H.n + 1), ptrV (H.n + 2)] hin
  refine nrm_fz (H' := ((H.push ⟨[lv encB b], 1, false⟩).push ⟨[.int .i64 g], 1, false⟩).push ⟨[.pointer none], 1, false⟩) (v := .tuple #[cV none, .int .i64 2]) ?_ (fz _ _ _) (hx2.push _) (al _ _)
  simp -implicitDefEqProofs (disch := omega) [ctx_Read, c1, c2, ht, cV]
 | some x =>
  rw [hc] at hin
  have ht := Try_ok k F.ctx_Read_in1 #[ptrV H.n, ptrV (H.n + 1), ptrV (H.n + 2)] hin
  refine nrm_fz (H' := ((H.push ⟨[lv encB b], 1, false⟩).push ⟨[.int .i64 g], 1, false⟩).push ⟨[ctxV x], 1, false⟩) (v := .tuple #[cV (some x), .int .i64 0]) ?_ (fz _ _ _) (hx2.push _) (al _ _)
  simp at ht
  simp -implicitDefEqProofs (disch := omega) [ctx_Read, c1, c2, ht, cV]
structure CTab.ok (t : CTab) : Prop where
 m : t.m.ok
 subs : ∀ x, x ∈ t.subs → (∀ p, p ∈ x.2 → p.ok) ∧ risesS x.2 = true ∧ x.2.length < 2 ^ 31
 has : ∀ e, e ∈ t.m.ents → (e.a = 65535 ∨ e.a < t.subs.length) ∧ (e.b = 65535 ∨ e.b < t.subs.length)
theorem many_has : ∀ (es : List En) (c : Int), c ≤ es.foldl manyE c ∧ ∀ e, e ∈ es → (e.a = 65535 ∨ e.a < es.foldl manyE c) ∧ (e.b = 65535 ∨ e.b < es.foldl manyE c)
 | [], c => ⟨Int.le_refl _, fun e he => by cases he⟩
 | x :: es, c => by
  have ih := many_has es (manyE c x)
  have hx : c ≤ manyE c x ∧ (x.a = 65535 ∨ x.a < manyE c x) ∧ (x.b = 65535 ∨ x.b < manyE c x) := by
   unfold manyE
   dsimp only
   split <;> split <;> omega
  simp only [List.foldl_cons]
  refine ⟨by omega, fun e he => ?_⟩
  rcases List.mem_cons.1 he with rfl | he
  ·omega
  ·exact ih.2 e he
theorem ctxS_ok {b : List Int} (hb : Byt b) (hl : b.length < 2 ^ 31) {g : Int} (hg : 1 ≤ g ∧ g ≤ 65535) {t : CTab} (h : ctxS b g = some t) : t.ok := by
 unfold ctxS at h
 obtain ⟨m, hm, h⟩ := Option.bind_eq_some_iff.1 h
 obtain ⟨p, hp, h⟩ := Option.bind_eq_some_iff.1 h
 obtain ⟨sb, hsb, h⟩ := Option.bind_eq_some_iff.1 h
 obtain ⟨subs, hs, rfl⟩ := Option.map_eq_some_iff.1 h
 have hok := machS_ok hb hg.1 hg.2 (by omega) hm
 have lsb := restS_len hsb
 refine ⟨hok, fun x hx => ?_, fun e he => ?_⟩
 ·obtain ⟨i, hi⟩ := List.getElem?_of_mem hx
  obtain ⟨j, _, hj⟩ := mapO_get hs hi
  unfold subS at hj
  obtain ⟨p, _, hj⟩ := Option.bind_eq_some_iff.1 hj
  obtain ⟨tb, htb, hj⟩ := Option.bind_eq_some_iff.1 hj
  have ltb := restS_len htb
  have ok1 := lookS_ok ((hb.rest hsb).rest htb) hg.1 hg.2 (.inl rfl) hj
  exact ⟨ok1.2.1, ok1.2.2, lookS_len ((hb.rest hsb).rest htb) hj⟩
 ·have hes : ∀ e, e ∈ m.ents → 0 ≤ e.a ∧ e.a < 65536 ∧ 0 ≤ e.b ∧ e.b < 65536 := fun e he => by have := hok.ent e he; omega
  have h1 := (many_has m.ents 0).2 e he
  have h2 := manyS_bound hes
  have h3 := subsS_len hs
  have h4 : manyS m.ents = m.ents.foldl manyE 0 := rfl
  dsimp only
  omega
def swapC (t : CTab) (l : List Gl) (i w : Int) : List Gl :=
 if w = 65535 then l else match atG l i with
 | some g => match (t.subs[w.toNat]?).bind fun x => getS x.2 g.id with
  | some id => setG l i id
  | none => l
 | none => l
@[simp] theorem swapC_len (t : CTab) (l : List Gl) (i w : Int) : (swapC t l i w).length = l.length := by
 unfold swapC
 split
 ·rfl
 ·split
  ·split <;> simp
  ·rfl
theorem ctxSwap_star (k : Nat) (t : CTab) (ht : t.ok) {H0 H : Heap} {L : List It} (h : Star H0 H L) (i : Nat) {c : Nat} {o : Option Nat} {l : List Gl} (hi : L[i]? = some (itLine c o l)) (j w : Int) (hw : w = 65535 ∨ 0 ≤ w ∧ w < t.subs.length) :
  ∃ v H', R (T k) F.ctx_Table_swap [ctxV t, ptrV c, .int .i64 j, .int .i64 w] H = .ok v H' ∧ Star H0 H' (L.set i (itLine c o (swapC t l j w))) := by
 have hat := lineAt_run k h i hi j
 have same : L.set i (itLine c o l) = L := by
  obtain ⟨hlt, hx⟩ := List.getElem?_eq_some_iff.1 hi
  rw [← hx, List.set_getElem_self]
 suffices hs : ∃ v H', ctx_Table_swap k (R (T k)) (ctxV t) (ptrV c) (.int .i64 j) (.int .i64 w) H = .ok v H' ∧ Star H0 H' (L.set i (itLine c o (swapC t l j w))) by
  obtain ⟨v, H', e, g⟩ := hs
  exact ⟨v, H', by rw [ctx_Table_swap_R]; exact nrm_of e, g⟩
 unfold swapC
 cases ha : atG l j with
 | none =>
  rw [ha] at hat
  unfold encA at hat
  simp at hat
  refine ⟨.tuple #[], _, ?_, by simp only [ite_self]; rw [same]; exact h.rest ((Ext.refl _).push ⟨[.int .i64 0, .int .i64 0], 1, false⟩)⟩
  by_cases hw0 : w = 65535
  ·simp -implicitDefEqProofs (disch := omega) [ctx_Table_swap, hat, hw0]
  ·have hw1 : (w == 65535) = false := by simpa using hw0
   simp -implicitDefEqProofs (disch := omega) [ctx_Table_swap, hat, hw0, hw1]
 | some g =>
  rw [ha] at hat
  unfold encA at hat
  simp at hat
  by_cases hw0 : w = 65535
  ·rw [if_pos hw0, same]
   refine ⟨.tuple #[], _, ?_, h.rest ((Ext.refl _).push ⟨encG g, 1, false⟩)⟩
   simp -implicitDefEqProofs (disch := omega) [ctx_Table_swap, hat, hw0]
  rw [if_neg hw0]
  have hw1 : (w == 65535) = false := by simpa using hw0
  obtain ⟨n, rfl⟩ := Int.eq_ofNat_of_zero_le (show 0 ≤ w by omega)
  obtain ⟨x, hx⟩ : ∃ x, t.subs[n]? = some x := ⟨_, List.getElem?_eq_getElem (by omega)⟩
  have i1 := fun H' => ixS_lvN encT_len t.subs .i64 n x hx H'
  have xo := ht.subs x (List.mem_of_getElem? hx)
  have hget := fun H' => Get_run k x xo.1 xo.2.1 g.id xo.2.2 H'
  dsimp only
  rw [Int.toNat_natCast, hx, Option.bind_some]
  have h2 := h.rest ((Ext.refl _).push ⟨encG g, 1, false⟩)
  cases hg : getS x.2 g.id with
  | none =>
   rw [hg] at hget
   simp at hget
   rw [same]
   refine ⟨.tuple #[], _, ?_, h2⟩
   simp -implicitDefEqProofs (disch := omega) [ctx_Table_swap, hat, hw1, i1, hget]
  | some id =>
   rw [hg] at hget
   simp at hget
   obtain ⟨H2, e2, h3⟩ := lineSet_star k h2 i hi j id
   refine ⟨.tuple #[], H2, ?_, h3⟩
   simp -implicitDefEqProofs (disch := omega) [ctx_Table_swap, hat, hw1, i1, hget, e2]
end Go.Sw
end
section
namespace Go.Sw
open Go.RowKit
theorem and_two15 (n : Nat) : n &&& 2 ^ 15 = if n.testBit 15 then 2 ^ 15 else 0 := by
 apply Nat.eq_of_testBit_eq
 intro i
 rw [Nat.testBit_and, Nat.testBit_two_pow]
 by_cases h : 15 = i
 ·subst h
  cases hb : n.testBit 15 <;> simp <;> decide
 ·cases hb : n.testBit 15
  ·simp [h]
  ·simp only [h, decide_false, Bool.and_false, if_true, Nat.testBit_two_pow]
theorem and15 (P : Program) (t : TypeId) (H : Heap) {a : Int} (h0 : 0 ≤ a) (h1 : a < 65536) : binR P .and t (.int .i64 a) (.int .i64 32768) H = .ok (.int .i64 (if a ≥ 32768 then 32768 else 0)) H := by
 have e : (BitVec.ofInt 64 a &&& BitVec.ofInt 64 32768).toNat = (if a ≥ 32768 then 32768 else 0) := by
  rw [BitVec.toNat_and, BitVec.toNat_ofInt, BitVec.toNat_ofInt]
  rw [show ((32768 : Int) % ((2 ^ 64 : Nat) : Int)).toNat = 2 ^ 15 from by decide, and_two15, Nat.testBit_eq_decide_div_mod_eq]
  obtain ⟨n, rfl⟩ := Int.eq_ofNat_of_zero_le h0
  rw [show (((n : Int)) % ((2 ^ 64 : Nat) : Int)).toNat = n by omega]
  by_cases h : (n : Int) ≥ 32768
  ·rw [if_pos h, decide_eq_true (show n / 2 ^ 15 % 2 = 1 by omega)]; rfl
  ·rw [if_neg h, decide_eq_false (show ¬ n / 2 ^ 15 % 2 = 1 by omega)]; rfl
 have e1 : binV P .and t (.int .i64 a) (.int .i64 32768) = some (.int .i64 (IntKind.i64.wrap (BitVec.ofInt 64 a &&& BitVec.ofInt 64 32768).toNat)) := rfl
 unfold binR
 rw [e1, e]
 by_cases h : a ≥ 32768
 ·simp [h]
 ·simp [h]
def doC (t : CTab) (s : List Gl × Int) (i : Int) (e : En) : List Gl × Int :=
 (swapC t (swapC t s.1 s.2 e.a) i e.b, if e.flags ≥ 32768 ∧ i < (s.1.length : Int) then i else s.2)
def ctxW (t : CTab) (L : List It) (i c : Nat) (o : Option Nat) (p1 p3 pm : Nat) (s : List Gl × Int) : List It :=
 L.set i (itLine c o s.1) ++ [itBlk p1 ⟨[ctxV t], 1, false⟩, itBlk p3 ⟨[ptrV c], 1, false⟩, itBlk pm ⟨[.int .i64 s.2], 1, false⟩]
set_option maxHeartbeats 1000000 in
theorem ctx_do (k : Nat) (t : CTab) (ht : t.ok) (L : List It) (i c : Nat) (o : Option Nat) (hi : i < L.length) (p1 p3 pm n : Nat) {H0 : Heap} :
  DoOk k t.m H0 (ctxW t L i c o p1 p3 pm) (fun s => s.1.length = n) (.func (.func F.ctx_Table_Run_in1) #[] #[ptrV p1, ptrV p3, ptrV pm]) (doC t) := by
 intro s j e H X hI st h0 h1 he
 have hI2 : (swapC t (swapC t s.1 s.2 e.a) j e.b).length = n := by simpa using hI
 have heb := ht.m.ent e he
 have hhas := ht.has e he
 unfold ctxW at st ⊢
 have hline : ∀ (l : List Gl) (B : List It), (L.set i (itLine c o l) ++ B)[i]? = some (itLine c o l) := fun l B => by
  rw [List.getElem?_append_left (by simpa using hi), List.getElem?_set_self hi]
 have hset : ∀ (l l' : List Gl) (B : List It), (L.set i (itLine c o l) ++ B).set i (itLine c o l') = L.set i (itLine c o l') ++ B := fun l l' B => by
  rw [List.set_append_left _ _ (by simpa using hi), List.set_set]
 have st2 := st.push ⟨encEn e, 1, false⟩
 rw [List.append_assoc, List.append_assoc] at st2
 have g1 := st2.memBlk (c := p1) (k := ⟨[ctxV t], 1, false⟩) (by simp)
 have g3 := st2.memBlk (c := p3) (k := ⟨[ptrV c], 1, false⟩) (by simp)
 have gm := st2.memBlk (c := pm) (k := ⟨[.int .i64 s.2], 1, false⟩) (by simp)
 have ge := st2.memBlk (c := H.n) (k := ⟨encEn e, 1, false⟩) (by simp)
 obtain ⟨v1, H1, e1, st3⟩ := ctxSwap_star k t ht st2 i (hline s.1 _) s.2 e.a (by omega)
 rw [hset] at st3
 have f1 := st3.memBlk (c := p1) (k := ⟨[ctxV t], 1, false⟩) (by simp)
 have f3 := st3.memBlk (c := p3) (k := ⟨[ptrV c], 1, false⟩) (by simp)
 have fe := st3.memBlk (c := H.n) (k := ⟨encEn e, 1, false⟩) (by simp)
 obtain ⟨v2, H2, e2, st4⟩ := ctxSwap_star k t ht st3 i (hline _ _) j e.b (by omega)
 rw [hset] at st4
 have k3 := st4.memBlk (c := p3) (k := ⟨[ptrV c], 1, false⟩) (by simp)
 have ke := st4.memBlk (c := H.n) (k := ⟨encEn e, 1, false⟩) (by simp)
 have hlen := lineLen_run k st4 i (hline _ _)
 simp only [swapC_len] at hlen
 have han := fun H => and15 Prog 3 H heb.2.2.1 heb.2.2.2.1
 have fin : ∀ (H' : Heap) (M : Int), Star H0 H' (L.set i (itLine c o (swapC t (swapC t s.1 s.2 e.a) j e.b)) ++ ([itBlk p1 ⟨[ctxV t], 1, false⟩, itBlk p3 ⟨[ptrV c], 1, false⟩, itBlk pm ⟨[.int .i64 M], 1, false⟩] ++ (X ++ [itBlk H.n ⟨encEn e, 1, false⟩]))) →
   Star H0 H' (L.set i (itLine c o (swapC t (swapC t s.1 s.2 e.a) j e.b)) ++ [itBlk p1 ⟨[ctxV t], 1, false⟩, itBlk p3 ⟨[ptrV c], 1, false⟩, itBlk pm ⟨[.int .i64 M], 1, false⟩] ++ X) := fun H' M h => by
  rw [← List.append_assoc, ← List.append_assoc] at h
  exact h.drop_last
 by_cases hf : e.flags ≥ 32768
 ·rw [if_pos hf] at han
  by_cases hj : j < (s.1.length : Int)
  ·have hd : (doC t s j e).2 = j := by unfold doC; exact if_pos ⟨hf, hj⟩
   have hd1 : (doC t s j e).1 = swapC t (swapC t s.1 s.2 e.a) j e.b := rfl
   rw [hd, hd1]
   have hix : (L.set i (itLine c o (swapC t (swapC t s.1 s.2 e.a) j e.b)) ++ ([itBlk p1 ⟨[ctxV t], 1, false⟩, itBlk p3 ⟨[ptrV c], 1, false⟩, itBlk pm ⟨[.int .i64 s.2], 1, false⟩] ++ (X ++ [itBlk H.n ⟨encEn e, 1, false⟩]))) =
     (L.set i (itLine c o (swapC t (swapC t s.1 s.2 e.a) j e.b)) ++ [itBlk p1 ⟨[ctxV t], 1, false⟩, itBlk p3 ⟨[ptrV c], 1, false⟩]) ++ itBlk pm ⟨[.int .i64 s.2], 1, false⟩ :: (X ++ [itBlk H.n ⟨encEn e, 1, false⟩]) := by simp
   rw [hix] at st4
   obtain ⟨H3, e3, st5⟩ := st4.stEnd 0 (v := .int .i64 j) rfl rfl (by simp)
   simp only [List.set_cons_zero] at st5
   refine ⟨.tuple #[], H3, ?_, fin H3 j (by simpa using st5), hI2⟩
   simp only [callV, List.nil_append, List.cons_append]
   rw [ctx_Table_Run_in1_R, nrm_of]
   simp -implicitDefEqProofs (disch := omega) [-stR_ptr, ctx_Table_Run_in1, g1, g3, gm, ge, e1, f1, f3, fe, e2, k3, ke, han, bne, hlen, hj, e3]
  ·have hd : (doC t s j e).2 = s.2 := by unfold doC; exact if_neg fun h => hj h.2
   have hd1 : (doC t s j e).1 = swapC t (swapC t s.1 s.2 e.a) j e.b := rfl
   rw [hd, hd1]
   refine ⟨.tuple #[], H2, ?_, fin H2 s.2 st4, hI2⟩
   simp only [callV, List.nil_append, List.cons_append]
   rw [ctx_Table_Run_in1_R, nrm_of]
   simp -implicitDefEqProofs (disch := omega) [-stR_ptr, ctx_Table_Run_in1, g1, g3, gm, ge, e1, f1, f3, fe, e2, k3, ke, han, bne, hlen, hj]
 ·rw [if_neg hf] at han
  have hd : (doC t s j e).2 = s.2 := by unfold doC; exact if_neg fun h => hf h.1
  have hd1 : (doC t s j e).1 = swapC t (swapC t s.1 s.2 e.a) j e.b := rfl
  rw [hd, hd1]
  refine ⟨.tuple #[], H2, ?_, fin H2 s.2 st4, hI2⟩
  simp only [callV, List.nil_append, List.cons_append]
  rw [ctx_Table_Run_in1_R, nrm_of]
  simp -implicitDefEqProofs (disch := omega) [-stR_ptr, ctx_Table_Run_in1, g1, g3, gm, ge, e1, f1, f3, fe, e2, k3, ke, han, bne]
end Go.Sw
end
section
namespace Go.Sw
open Go.RowKit
end Go.Sw
end
section
namespace Go.Sw
open Go.RowKit
theorem plainNew (k : Nat) (f : Fn) (a b : Array Value) (H : Heap) : R (T k) F.drive_Plain [.func f a b] H = .ok (.func (.func F.drive_Plain_in1) #[] #[ptrV H.n]) (H.push ⟨[.func f a b], 1, false⟩) := by
 rw [drive_Plain_R]
 have e : drive_Plain k (R (T k)) (.func f a b) H = .ok (.func (.func F.drive_Plain_in1) #[] #[ptrV H.n]) (H.push ⟨[.func f a b], 1, false⟩) := by
  simp -implicitDefEqProofs [drive_Plain]
 rw [e]
 have dead : ¬ Alive H (.func (.func F.drive_Plain_in1) #[] #[ptrV H.n]) := fun h => by
  cases h with
  | func fn xs ys h1 h2 =>
   have := h2 0 (ptrV H.n) rfl
   cases this with
   | ptr b off k hg => have := Heap.get_lt hg; omega
 unfold nrm
 exact if_neg fun hc => dead hc.2
end Go.Sw
end
section
namespace Go.Sw
open Go.RowKit
theorem veq_Ens (l : List En) : veq (lv encEn l) (lv encEn l) = true := veq_lv fun p _ v hv => by
 simp [encEn] at hv
 rcases hv with rfl | rfl | rfl | rfl <;> simp
theorem veq_Is (l : List Int) : veq (lv encI l) (lv encI l) = true := veq_lv fun p _ v hv => by
 simp [encI] at hv
 subst hv; simp
theorem veq_Rows (l : List (List Int)) : veq (lv encRow l) (lv encRow l) = true := veq_lv fun p _ v hv => by
 simp [encRow] at hv
 subst hv; exact veq_Is p
theorem veq_Ts (l : List (Int × List Pt)) : veq (lv encT l) (lv encT l) = true := veq_lv fun p _ v hv => by
 simp [encT] at hv
 subst hv; exact veq_tab p
theorem veq_mach (m : Mach) : veq (machV m) (machV m) = true := veq_boxV (l := [.int .i64 m.classes, tabV m.tab, lv encRow m.rows, lv encEn m.ents]) fun v hv => by
 simp at hv
 rcases hv with rfl | rfl | rfl | rfl
 ·simp
 ·exact veq_tab _
 ·exact veq_Rows _
 ·exact veq_Ens _
theorem veq_ctx (t : CTab) : veq (ctxV t) (ctxV t) = true := veq_boxV (l := ctxC t) fun v hv => by
 simp [ctxC] at hv
 rcases hv with rfl | rfl
 ·exact veq_mach _
 ·exact veq_Ts _
def runCr (t : CTab) (l : List Gl) : Int × Int × (List Gl × Int) :=
 runD t.m (fun s : List Gl × Int => s.1) (fun s i e => (doC t s i e, i, i + 1)) (2 * (l.length : Int) + 128) (2 * l.length + 128) ((l, -1), ⟨0, 0, 0, 0⟩)
def runC (t : CTab) (l : List Gl) : List Gl × Int := ((runCr t l).2.2.1, (runCr t l).2.1)
set_option maxHeartbeats 1000000 in
theorem ctxRun_star (k : Nat) (t : CTab) (ht : t.ok) {H0 H : Heap} {L : List It} (h : Star H0 H L) (i : Nat) {c : Nat} {o : Option Nat} {l : List Gl} (hi : L[i]? = some (itLine c o l)) (hl : l.length < 2 ^ 40) :
  ∃ H', R (T k) F.ctx_Table_Run [ctxV t, ptrV c] H = .ok (.int .i64 (runC t l).2) H' ∧ Star H0 H' (L.set i (itLine c o (runC t l).1)) ∧ (runC t l).1.length = l.length := by
 have hlt := (List.getElem?_eq_some_iff.1 hi).1
 have same : L.set i (itLine c o l) = L := by
  obtain ⟨hlt, hx⟩ := List.getElem?_eq_some_iff.1 hi
  rw [← hx, List.set_getElem_self]
 have st := ((h.push ⟨[ctxV t], 1, false⟩).push ⟨[ptrV c], 1, false⟩).push ⟨[.int .i64 (-1)], 1, false⟩
 simp only [hn_push] at st
 obtain ⟨H3, hH3⟩ : ∃ H3, H3 = ((H.push ⟨[ctxV t], 1, false⟩).push ⟨[ptrV c], 1, false⟩).push ⟨[.int .i64 (-1)], 1, false⟩ := ⟨_, rfl⟩
 rw [← hH3] at st
 have hn3 : H3.n = H.n + 3 := by rw [hH3]; simp
 have ePl := plainNew k (.func F.ctx_Table_Run_in1) #[] #[ptrV H.n, ptrV (H.n + 1), ptrV (H.n + 2)] H3
 have st4 := st.push ⟨[.func (.func F.ctx_Table_Run_in1) #[] #[ptrV H.n, ptrV (H.n + 1), ptrV (H.n + 2)]], 1, false⟩
 have g1 := st4.memBlk (c := H.n) (k := ⟨[ctxV t], 1, false⟩) (by simp)
 have g3 := st4.memBlk (c := H.n + 1) (k := ⟨[ptrV c], 1, false⟩) (by simp)
 have hact := plain_ok k (ctx_do k t ht L i c o hlt H.n (H.n + 1) (H.n + 2) l.length (H0 := H0)) H3.n
 obtain ⟨H5, eR, st5, hI5⟩ := driveRun_star k t.m ht.m (fun s : List Gl × Int => ctxW t L i c o H.n (H.n + 1) (H.n + 2) s ++ [itBlk H3.n ⟨[.func (.func F.ctx_Table_Run_in1) #[] #[ptrV H.n, ptrV (H.n + 1), ptrV (H.n + 2)]], 1, false⟩]) (fun s => s.1.length = l.length) (fun s => s.1) c
  (fun s => ⟨i, o, by
   unfold ctxW
   rw [List.append_assoc, List.getElem?_append_left (by simpa using hlt), List.getElem?_set_self hlt]⟩) _ _ hact [] (l, -1) rfl (by
   unfold ctxW
   rw [same]
   simpa [List.append_assoc] using st4) (by simpa using hl)
 refine ⟨H5, ?_, ?_, ?_⟩
 ·rw [ctx_Table_Run_R, nrm_of]
  have v1 := veq_ctx t
  have v2 := veq_mach t.m
  unfold runC
  dsimp only at eR ⊢
  have hr : runD t.m (fun s : List Gl × Int => s.1) (fun s i e => (doC t s i e, i, i + 1)) (2 * (l.length : Int) + 128) (2 * l.length + 128) ((l, -1), ⟨0, 0, 0, 0⟩) = runCr t l := by unfold runCr; rfl
  rw [hr] at eR
  generalize runCr t l = r at eR ⊢
  rw [hH3] at ePl eR g1 g3
  simp only [hn_push] at ePl eR
  simp -implicitDefEqProofs (disch := omega) [ctx_Table_Run, ePl, eR, v1, v2]
 ·unfold runC
  dsimp only at st5 ⊢
  have hr : runD t.m (fun s : List Gl × Int => s.1) (fun s i e => (doC t s i e, i, i + 1)) (2 * (l.length : Int) + 128) (2 * l.length + 128) ((l, -1), ⟨0, 0, 0, 0⟩) = runCr t l := by unfold runCr; rfl
  rw [hr] at st5
  generalize runCr t l = r at st5 ⊢
  unfold ctxW at st5
  have := st5.take L.length
  rw [List.append_assoc, List.append_assoc, List.take_append_of_le_length (by simp), List.take_of_length_le (by simp)] at this
  exact this
 ·unfold runC
  dsimp only at hI5 ⊢
  have hr : runD t.m (fun s : List Gl × Int => s.1) (fun s i e => (doC t s i e, i, i + 1)) (2 * (l.length : Int) + 128) (2 * l.length + 128) ((l, -1), ⟨0, 0, 0, 0⟩) = runCr t l := by unfold runCr; rfl
  rw [hr] at hI5
  exact hI5
end Go.Sw
end
section
set_option maxRecDepth 100000
set_option linter.unusedVariables false
namespace Go.Sw
noncomputable section
def swashlaw15_CtxRuns_l1 (k : Nat) (call : Caller) : Env → Heap → Res (AExit × Env) := loopB (C k) call F.swashlaw15_CtxRuns [1, 1, 1, 1, 1, 1, 1, 1, 1, 1, 1, 1, 0, 1, 0, 0]
def swashlaw15_CtxRuns_l1k (k : Nat) (call : Caller) : Kont Value := kBlock 0 (kSeq (pieceK (C k) call F.swashlaw15_CtxRuns [1, 1, 1, 1, 1, 1, 1, 1, 1, 1, 1, 1, 1]) (kDone Prog (resOf Prog F.swashlaw15_CtxRuns)))
def swashlaw15_CtxRuns (k : Nat) (call : Caller) (a0 a1 : Value) (h : Heap) : Res Value :=
 (boxR a0 h).bind fun v1 h2 =>
 (call F.swashlaw15_speaks [] h2).bind fun v3 h4 =>
 (unR .not v3 h4).bind fun v5 h6 =>
 condV (some v5) (
 .ok (.bool false) h6)
 (
 (loadR Prog 190 v1 h6).bind fun v7 h8 =>
 (call F.swashlaw15_small [v7, a1] h8).bind fun v9 h10 =>
 (unR .not v9 h10).bind fun v11 h12 =>
 condV (some v11) (
 .ok (.bool true) h12)
 (
 (fieldAddrR Prog 190 v1 0 h12).bind fun v13 h14 =>
 (loadR Prog 146 v13 h14).bind fun v15 h16 =>
 (fieldAddrR Prog 190 v1 1 h16).bind fun v17 h18 =>
 (loadR Prog 188 v17 h18).bind fun v19 h20 =>
 (call F.swashlaw15_Write [v15, v19] h20).bind fun v21 h22 =>
 (call F.ctx_Read [v21, (.int .i64 40)] h22).bind fun v23 h24 =>
 (extractR v23 0 h24).bind fun v25 h26 =>
 (extractR v23 1 h26).bind fun v27 h28 =>
 (call F.swashref15_Read [v21, (.int .i64 40)] h28).bind fun v29 h30 =>
 (extractR v29 0 h30).bind fun v31 h32 =>
 (extractR v29 1 h32).bind fun v33 h34 =>
 (allocR Prog 198 h34).bind fun v35 h36 =>
 (storeR Prog 198 v35 v31 h36).bind fun _v37 h38 =>
 (unR .not v33 h38).bind fun v39 h40 =>
 condV (some v39) (
 (binR Prog .eql 69 v27 (.int .i64 2) h40).bind fun v41 h42 =>
 ((bif wantVal v41 true then Res.ok v25 h42 else Res.ok undef h42)).bind fun v43 h44 =>
 ((bif wantVal v41 true then binR Prog .eql 193 v43 (.pointer none) h44 else Res.ok undef h44)).bind fun v45 h46 =>
 (condV (some v41) (Res.ok v45 h46) (Res.ok (.bool false) h46)).bind fun v47 h48 =>
 .ok v47 h48)
 (
 (binR Prog .neq 69 v27 (.int .i64 0) h40).bind fun v49 h50 =>
 ((bif wantVal v49 false then Res.ok v25 h50 else Res.ok undef h50)).bind fun v51 h52 =>
 ((bif wantVal v49 false then binR Prog .eql 193 v51 (.pointer none) h52 else Res.ok undef h52)).bind fun v53 h54 =>
 (condV (some v49) (Res.ok (.bool true) h54) (Res.ok v53 h54)).bind fun v55 h56 =>
 condV (some v55) (
 .ok (.bool false) h56)
 (
 (call F.line_New [a1] h56).bind fun v57 h58 =>
 (call F.ctx_Table_Run [v25, v57] h58).bind fun v59 h60 =>
 (loadR Prog 198 v35 h60).bindN fun v61 h62 =>
 (call F.swashref11_New [a1] h62).bindT (fun p65 h66 => .panic p65 h66) fun v63 h64 =>
 (call F.swashref15_Run [v61, v63] h64).bindT (fun p69 h70 => chkR ((okVal (loadR Prog 198 v35 h64) v61 && true) && true) (.panic p69 h70)) fun v67 h68 =>
 (extractR v67 0 h68).bindN fun v71 h72 =>
 (extractR v67 1 h72).bindN fun v73 h74 =>
 chkR ((okVal (loadR Prog 198 v35 h64) v61 && true) && true) (
 (call F.line_Line_Glyphs [v57] h74).bind fun v75 h76 =>
 (builtinV Prog .len [50] [v75] h76).bind fun v77 h78 =>
 (loopN (swashlaw15_CtxRuns_l1 k call) loopFuel [(1, a1), (11, v59), (12, v71), (13, v73), (14, v75), (66, v75), (67, v77), (68, (.int .i64 0))] h78).bind fun r79 h80 =>
 swashlaw15_CtxRuns_l1k k call r79.1 r79.2 h80)))))
theorem swashlaw15_CtxRuns_R (k : Nat) (a0 a1 : Value) (h : Heap) : R (T k) F.swashlaw15_CtxRuns [a0, a1] h = nrm .gc h (swashlaw15_CtxRuns k (R (T k)) a0 a1 h) :=
 (R_body (t := T k) (T_scott k) (by kernel_rfl) (by kernel_rfl) _ _).trans (by kernel_rfl)
theorem swashlaw15_CtxRuns_l1_eq (k : Nat) (call : Caller) (a1 a11 a12 a13 a14 a66 a67 a68 : Value) (h : Heap) : swashlaw15_CtxRuns_l1 k call [(1, a1), (11, a11), (12, a12), (13, a13), (14, a14), (66, a66), (67, a67), (68, a68)] h =
 (binR Prog .lss 3 a68 a67 h).bind fun v81 h82 =>
 condV (some v81) (
 (indexAddrR Prog 50 a66 a68 h82).bind fun v83 h84 =>
 (loadR Prog 55 v83 h84).bind fun v85 h86 =>
 (allocR Prog 55 h86).bind fun v87 h88 =>
 (storeR Prog 55 v87 v85 h88).bind fun _v89 h90 =>
 (fieldAddrR Prog 55 v87 1 h90).bind fun v91 h92 =>
 (loadR Prog 3 v91 h92).bind fun v93 h94 =>
 (binR Prog .neq 3 v93 a68 h94).bind fun v95 h96 =>
 condV (some v95) (
 .ok (.ret, [(4, (.bool false))]) h96)
 (
 (binR Prog .add 3 a68 (.int .i64 1) h96).bind fun v97 h98 =>
 .ok (.normal, [(1, a1), (11, a11), (12, a12), (13, a13), (14, a14), (66, a66), (67, a67), (68, v97)]) h98))
 (
 .ok ((.exit 0), [(1, a1), (11, a11), (12, a12), (13, a13), (14, a14), (66, a66), (67, a67), (68, a68), (69, v81)]) h82) :=
 (loopB_eq _ _).trans (by kernel_rfl)
theorem swashlaw15_CtxRuns_l1k_x0 (k : Nat) (call : Caller) (a1 a11 a12 a13 a14 a66 a67 a68 a69 : Value) (h : Heap) : swashlaw15_CtxRuns_l1k k call (.exit 0) [(1, a1), (11, a11), (12, a12), (13, a13), (14, a14), (66, a66), (67, a67), (68, a68), (69, a69)] h =
 (binR Prog .eql 3 a11 a13 h).bind fun v99 h100 =>
 ((bif wantVal v99 true then Res.ok a14 h100 else Res.ok undef h100)).bind fun v101 h102 =>
 ((bif wantVal v99 true then builtinV Prog .len [50] [v101] h102 else Res.ok undef h102)).bind fun v103 h104 =>
 ((bif wantVal v99 true then Res.ok a1 h104 else Res.ok undef h104)).bind fun v105 h106 =>
 ((bif wantVal v99 true then builtinV Prog .len [28] [v105] h106 else Res.ok undef h106)).bind fun v107 h108 =>
 ((bif wantVal v99 true then binR Prog .eql 3 v103 v107 h108 else Res.ok undef h108)).bind fun v109 h110 =>
 (condV (some v99) (Res.ok v109 h110) (Res.ok (.bool false) h110)).bind fun v111 h112 =>
 ((bif wantVal v111 true then Res.ok a14 h112 else Res.ok undef h112)).bind fun v113 h114 =>
 ((bif wantVal v111 true then Res.ok a12 h114 else Res.ok undef h114)).bind fun v115 h116 =>
 ((bif wantVal v111 true then call F.swashref11_Same [v113, v115] h116 else Res.ok undef h116)).bind fun v117 h118 =>
 (condV (some v111) (Res.ok v117 h118) (Res.ok (.bool false) h118)).bind fun v119 h120 =>
 .ok v119 h120 := by kernel_rfl
def swashlaw15_CtxTakes (k : Nat) (call : Caller) (a0 a1 : Value) (h : Heap) : Res Value :=
 (boxR a0 h).bind fun v1 h2 =>
 (call F.swashlaw15_speaks [] h2).bind fun v3 h4 =>
 (unR .not v3 h4).bind fun v5 h6 =>
 condV (some v5) (
 .ok (.bool false) h6)
 (
 (loadR Prog 65 v1 h6).bind fun v7 h8 =>
 (builtinV Prog .len [65] [v7] h8).bind fun v9 h10 =>
 (binR Prog .gtr 3 v9 (.int .i64 800) h10).bind fun v11 h12 =>
 ((bif wantVal v11 false then Res.ok a1 h12 else Res.ok undef h12)).bind fun v13 h14 =>
 ((bif wantVal v11 false then builtinV Prog .len [28] [v13] h14 else Res.ok undef h14)).bind fun v15 h16 =>
 ((bif wantVal v11 false then binR Prog .gtr 3 v15 (.int .i64 40) h16 else Res.ok undef h16)).bind fun v17 h18 =>
 (condV (some v11) (Res.ok (.bool true) h18) (Res.ok v17 h18)).bind fun v19 h20 =>
 condV (some v19) (
 .ok (.bool true) h20)
 (
 (allocR Prog 193 h20).bind fun v21 h22 =>
 (call F.view_Try [(.func (.func F.swashlaw15_CtxTakes_in1) #[] #[v1, v21])] h22).bind fun v23 h24 =>
 (loadR Prog 65 v1 h24).bind fun v25 h26 =>
 (call F.ctx_Read [v25, (.int .i64 40)] h26).bind fun v27 h28 =>
 (extractR v27 0 h28).bind fun v29 h30 =>
 (extractR v27 1 h30).bind fun v31 h32 =>
 (binR Prog .eql 69 v31 (.int .i64 0) h32).bind fun v33 h34 =>
 (binR Prog .neq 4 v23 v33 h34).bind fun v35 h36 =>
 ((bif wantVal v35 false then Res.ok v23 h36 else Res.ok undef h36)).bind fun v37 h38 =>
 ((bif wantVal v35 false then loadR Prog 193 v21 h38 else Res.ok undef h38)).bind fun v39 h40 =>
 ((bif wantVal v35 false then binR Prog .neq 193 v39 (.pointer none) h40 else Res.ok undef h40)).bind fun v41 h42 =>
 ((bif wantVal v35 false then binR Prog .neq 4 v37 v41 h42 else Res.ok undef h42)).bind fun v43 h44 =>
 (condV (some v35) (Res.ok (.bool true) h44) (Res.ok v43 h44)).bind fun v45 h46 =>
 ((bif wantVal v45 false then Res.ok v23 h46 else Res.ok undef h46)).bind fun v47 h48 =>
 ((bif wantVal v45 false then Res.ok v29 h48 else Res.ok undef h48)).bind fun v49 h50 =>
 ((bif wantVal v45 false then binR Prog .neq 193 v49 (.pointer none) h50 else Res.ok undef h50)).bind fun v51 h52 =>
 ((bif wantVal v45 false then binR Prog .neq 4 v47 v51 h52 else Res.ok undef h52)).bind fun v53 h54 =>
 (condV (some v45) (Res.ok (.bool true) h54) (Res.ok v53 h54)).bind fun v55 h56 =>
 condV (some v55) (
 .ok (.bool false) h56)
 (
 (unR .not v23 h56).bind fun v57 h58 =>
 condV (some v57) (
 .ok (.bool true) h58)
 (
 (call F.line_New [a1] h58).bind fun v59 h60 =>
 (call F.line_New [a1] h60).bind fun v61 h62 =>
 (loadR Prog 193 v21 h62).bind fun v63 h64 =>
 (call F.ctx_Table_Run [v63, v59] h64).bind fun v65 h66 =>
 (call F.ctx_Table_Run [v29, v61] h66).bind fun v67 h68 =>
 (binR Prog .eql 69 v65 v67 h68).bind fun v69 h70 =>
 ((bif wantVal v69 true then Res.ok v59 h70 else Res.ok undef h70)).bind fun v71 h72 =>
 ((bif wantVal v69 true then call F.line_Line_Glyphs [v71] h72 else Res.ok undef h72)).bind fun v73 h74 =>
 ((bif wantVal v69 true then Res.ok v61 h74 else Res.ok undef h74)).bind fun v75 h76 =>
 ((bif wantVal v69 true then call F.line_Line_Glyphs [v75] h76 else Res.ok undef h76)).bind fun v77 h78 =>
 ((bif wantVal v69 true then call F.swashref11_Same [v73, v77] h78 else Res.ok undef h78)).bind fun v79 h80 =>
 (condV (some v69) (Res.ok v79 h80) (Res.ok (.bool false) h80)).bind fun v81 h82 =>
 .ok v81 h82))))
theorem swashlaw15_CtxTakes_R (k : Nat) (a0 a1 : Value) (h : Heap) : R (T k) F.swashlaw15_CtxTakes [a0, a1] h = nrm .gc h (swashlaw15_CtxTakes k (R (T k)) a0 a1 h) :=
 (R_body (t := T k) (T_scott k) (by kernel_rfl) (by kernel_rfl) _ _).trans (by kernel_rfl)
def swashlaw15_small_l1 (k : Nat) (call : Caller) : Env → Heap → Res (AExit × Env) := loopB (C k) call F.swashlaw15_small [1, 0, 1, 0, 0]
def swashlaw15_small_l1k (k : Nat) (call : Caller) : Kont Value := kBlock 0 (kSeq (pieceK (C k) call F.swashlaw15_small [1, 1]) (kDone Prog (resOf Prog F.swashlaw15_small)))
def swashlaw15_small (k : Nat) (call : Caller) (a0 a1 : Value) (h : Heap) : Res Value :=
 (boxR a0 h).bind fun v1 h2 =>
 (fieldAddrR Prog 190 v1 1 h2).bind fun v3 h4 =>
 (loadR Prog 188 v3 h4).bind fun v5 h6 =>
 (builtinV Prog .len [188] [v5] h6).bind fun v7 h8 =>
 (loopN (swashlaw15_small_l1 k call) loopFuel [(1, a1), (2, v1), (8, v5), (9, v7), (10, (.int .i64 0))] h8).bind fun r9 h10 =>
 swashlaw15_small_l1k k call r9.1 r9.2 h10
theorem swashlaw15_small_R (k : Nat) (a0 a1 : Value) (h : Heap) : R (T k) F.swashlaw15_small [a0, a1] h = nrm .gc h (swashlaw15_small k (R (T k)) a0 a1 h) :=
 (R_body (t := T k) (T_scott k) (by kernel_rfl) (by kernel_rfl) _ _).trans (by kernel_rfl)
theorem swashlaw15_small_l1_eq (k : Nat) (call : Caller) (a1 a2 a8 a9 a10 : Value) (h : Heap) : swashlaw15_small_l1 k call [(1, a1), (2, a2), (8, a8), (9, a9), (10, a10)] h =
 (binR Prog .lss 3 a10 a9 h).bind fun v11 h12 =>
 condV (some v11) (
 (indexAddrR Prog 188 a8 a10 h12).bind fun v13 h14 =>
 (loadR Prog 156 v13 h14).bind fun v15 h16 =>
 (builtinV Prog .len [156] [v15] h16).bind fun v17 h18 =>
 (binR Prog .gtr 3 v17 (.int .i64 60) h18).bind fun v19 h20 =>
 condV (some v19) (
 .ok (.ret, [(4, (.bool false))]) h20)
 (
 (binR Prog .add 3 a10 (.int .i64 1) h20).bind fun v21 h22 =>
 .ok (.normal, [(1, a1), (2, a2), (8, a8), (9, a9), (10, v21)]) h22))
 (
 .ok ((.exit 0), [(1, a1), (2, a2), (8, a8), (9, a9), (10, a10), (11, v11)]) h12) :=
 (loopB_eq _ _).trans (by kernel_rfl)
theorem swashlaw15_small_l1k_r (k : Nat) (call : Caller) (a4 : Value) (h : Heap) : swashlaw15_small_l1k k call .ret [(4, a4)] h =
 .ok a4 h := by kernel_rfl
theorem swashlaw15_small_l1k_x0 (k : Nat) (call : Caller) (a1 a2 a8 a9 a10 a11 : Value) (h : Heap) : swashlaw15_small_l1k k call (.exit 0) [(1, a1), (2, a2), (8, a8), (9, a9), (10, a10), (11, a11)] h =
 (fieldAddrR Prog 190 a2 0 h).bind fun v23 h24 =>
 (fieldAddrR Prog 146 v23 0 h24).bind fun v25 h26 =>
 (loadR Prog 65 v25 h26).bind fun v27 h28 =>
 (builtinV Prog .len [65] [v27] h28).bind fun v29 h30 =>
 (binR Prog .leq 3 v29 (.int .i64 40) h30).bind fun v31 h32 =>
 ((bif wantVal v31 true then fieldAddrR Prog 190 a2 0 h32 else Res.ok undef h32)).bind fun v33 h34 =>
 ((bif wantVal v31 true then fieldAddrR Prog 146 v33 1 h34 else Res.ok undef h34)).bind fun v35 h36 =>
 ((bif wantVal v31 true then loadR Prog 143 v35 h36 else Res.ok undef h36)).bind fun v37 h38 =>
 ((bif wantVal v31 true then builtinV Prog .len [143] [v37] h38 else Res.ok undef h38)).bind fun v39 h40 =>
 ((bif wantVal v31 true then binR Prog .leq 3 v39 (.int .i64 20) h40 else Res.ok undef h40)).bind fun v41 h42 =>
 (condV (some v31) (Res.ok v41 h42) (Res.ok (.bool false) h42)).bind fun v43 h44 =>
 ((bif wantVal v43 true then fieldAddrR Prog 190 a2 0 h44 else Res.ok undef h44)).bind fun v45 h46 =>
 ((bif wantVal v43 true then fieldAddrR Prog 146 v45 2 h46 else Res.ok undef h46)).bind fun v47 h48 =>
 ((bif wantVal v43 true then loadR Prog 144 v47 h48 else Res.ok undef h48)).bind fun v49 h50 =>
 ((bif wantVal v43 true then builtinV Prog .len [144] [v49] h50 else Res.ok undef h50)).bind fun v51 h52 =>
 ((bif wantVal v43 true then binR Prog .leq 3 v51 (.int .i64 40) h52 else Res.ok undef h52)).bind fun v53 h54 =>
 (condV (some v43) (Res.ok v53 h54) (Res.ok (.bool false) h54)).bind fun v55 h56 =>
 ((bif wantVal v55 true then fieldAddrR Prog 190 a2 1 h56 else Res.ok undef h56)).bind fun v57 h58 =>
 ((bif wantVal v55 true then loadR Prog 188 v57 h58 else Res.ok undef h58)).bind fun v59 h60 =>
 ((bif wantVal v55 true then builtinV Prog .len [188] [v59] h60 else Res.ok undef h60)).bind fun v61 h62 =>
 ((bif wantVal v55 true then binR Prog .leq 3 v61 (.int .i64 20) h62 else Res.ok undef h62)).bind fun v63 h64 =>
 (condV (some v55) (Res.ok v63 h64) (Res.ok (.bool false) h64)).bind fun v65 h66 =>
 ((bif wantVal v65 true then Res.ok a1 h66 else Res.ok undef h66)).bind fun v67 h68 =>
 ((bif wantVal v65 true then builtinV Prog .len [28] [v67] h68 else Res.ok undef h68)).bind fun v69 h70 =>
 ((bif wantVal v65 true then binR Prog .leq 3 v69 (.int .i64 60) h70 else Res.ok undef h70)).bind fun v71 h72 =>
 (condV (some v65) (Res.ok v71 h72) (Res.ok (.bool false) h72)).bind fun v73 h74 =>
 .ok v73 h74 := by kernel_rfl
def swashlaw15_Write_l1 (k : Nat) (call : Caller) : Env → Heap → Res (AExit × Env) := loopB (C k) call F.swashlaw15_Write [1, 1, 1, 1, 0, 1, 0, 0]
def swashlaw15_Write_l1k (k : Nat) (call : Caller) : Kont Value := kBlock 0 (kSeq (pieceK (C k) call F.swashlaw15_Write [1, 1, 1, 1, 1]) (kDone Prog (resOf Prog F.swashlaw15_Write)))
def swashlaw15_Write_l2 (k : Nat) (call : Caller) : Env → Heap → Res (AExit × Env) := loopB (C k) call F.swashlaw15_Write [1, 1, 1, 1, 0, 1, 0, 0, 1, 1, 0, 0, 1, 1, 1, 1, 0, 0]
def swashlaw15_Write_l2k (k : Nat) (call : Caller) : Kont (AExit × Env) := kBlock 2 (kBlock 1 (kSeq (pieceK (C k) call F.swashlaw15_Write [1, 1, 1, 1, 0, 1, 0, 0, 1, 1, 1]) (kRound (ownOf (C k) F.swashlaw15_Write [1, 1, 1, 1, 0, 1, 0, 0]))))
def swashlaw15_Write (k : Nat) (call : Caller) (a0 a1 : Value) (h : Heap) : Res Value :=
 (boxR a0 h).bind fun v1 h2 =>
 (loadR Prog 146 v1 h2).bind fun v3 h4 =>
 (call F.swashlaw07_Write [v3, (.int .i64 2), (.int .i64 4)] h4).bind fun v5 h6 =>
 (builtinV Prog .len [65] [v5] h6).bind fun v7 h8 =>
 (builtinV Prog .len [188] [a1] h8).bind fun v9 h10 =>
 (loopN (swashlaw15_Write_l1 k call) loopFuel [(1, a1), (5, v5), (6, v7), (7, (.slice none 0 0)), (16, a1), (17, v9), (18, (.int .i64 0))] h10).bind fun r11 h12 =>
 swashlaw15_Write_l1k k call r11.1 r11.2 h12
theorem swashlaw15_Write_R (k : Nat) (a0 a1 : Value) (h : Heap) : R (T k) F.swashlaw15_Write [a0, a1] h = nrm .fz h (swashlaw15_Write k (R (T k)) a0 a1 h) :=
 (R_body (t := T k) (T_scott k) (by kernel_rfl) (by kernel_rfl) _ _).trans (by kernel_rfl)
theorem swashlaw15_Write_l1_eq (k : Nat) (call : Caller) (a1 a5 a6 a7 a16 a17 a18 : Value) (h : Heap) : swashlaw15_Write_l1 k call [(1, a1), (5, a5), (6, a6), (7, a7), (16, a16), (17, a17), (18, a18)] h =
 (binR Prog .lss 3 a18 a17 h).bind fun v13 h14 =>
 condV (some v13) (
 (indexAddrR Prog 188 a16 a18 h14).bind fun v15 h16 =>
 (loadR Prog 156 v15 h16).bind fun v17 h18 =>
 (builtinV Prog .len [188] [a1] h18).bind fun v19 h20 =>
 (binR Prog .mul 3 (.int .i64 4) v19 h20).bind fun v21 h22 =>
 (builtinV Prog .len [65] [a7] h22).bind fun v23 h24 =>
 (binR Prog .add 3 v21 v23 h24).bind fun v25 h26 =>
 (call F.swashref02_Put [a5, v25, (.int .i64 4)] h26).bind fun v27 h28 =>
 (call F.swashref02_Put [a7, (.int .i64 8), (.int .i64 2)] h28).bind fun v29 h30 =>
 (call F.swashref02_Put [v29, (.int .i64 0), (.int .i64 2)] h30).bind fun v31 h32 =>
 (builtinV Prog .len [156] [v17] h32).bind fun v33 h34 =>
 (call F.swashref02_Put [v31, v33, (.int .i64 2)] h34).bind fun v35 h36 =>
 (builtinV Prog .len [156] [v17] h36).bind fun v37 h38 =>
 (loopN (swashlaw15_Write_l2 k call) loopFuel [(1, a1), (5, v27), (6, a6), (7, v35), (16, a16), (17, a17), (18, a18), (36, v17), (37, v37), (38, (.int .i64 0))] h38).bind fun r39 h40 =>
 swashlaw15_Write_l2k k call r39.1 r39.2 h40)
 (
 .ok ((.exit 0), [(1, a1), (5, a5), (6, a6), (7, a7), (16, a16), (17, a17), (18, a18), (19, v13)]) h14) :=
 (loopB_eq _ _).trans (by kernel_rfl)
theorem swashlaw15_Write_l2_eq (k : Nat) (call : Caller) (a1 a5 a6 a7 a16 a17 a18 a36 a37 a38 : Value) (h : Heap) : swashlaw15_Write_l2 k call [(1, a1), (5, a5), (6, a6), (7, a7), (16, a16), (17, a17), (18, a18), (36, a36), (37, a37), (38, a38)] h =
 (binR Prog .lss 3 a38 a37 h).bind fun v41 h42 =>
 condV (some v41) (
 (indexAddrR Prog 156 a36 a38 h42).bind fun v43 h44 =>
 (loadR Prog 62 v43 h44).bind fun v45 h46 =>
 (convR Prog 62 3 v45 h46).bind fun v47 h48 =>
 (call F.swashref02_Put [a7, v47, (.int .i64 2)] h48).bind fun v49 h50 =>
 (binR Prog .add 3 a38 (.int .i64 1) h50).bind fun v51 h52 =>
 .ok (.normal, [(1, a1), (5, a5), (6, a6), (7, v49), (16, a16), (17, a17), (18, a18), (36, a36), (37, a37), (38, v51)]) h52)
 (
 .ok ((.exit 2), [(1, a1), (5, a5), (6, a6), (7, a7), (16, a16), (17, a17), (18, a18), (36, a36), (37, a37), (38, a38), (39, v41)]) h42) :=
 (loopB_eq _ _).trans (by kernel_rfl)
theorem swashlaw15_Write_l1k_x0 (k : Nat) (call : Caller) (a1 a5 a6 a7 a16 a17 a18 a19 : Value) (h : Heap) : swashlaw15_Write_l1k k call (.exit 0) [(1, a1), (5, a5), (6, a6), (7, a7), (16, a16), (17, a17), (18, a18), (19, a19)] h =
 (sliceR Prog 65 a5 (some (.int .i64 16)) (some (.int .i64 20)) none h).bindN fun v53 h54 =>
 (call F.swashref02_Put [(.slice none 0 0), a6, (.int .i64 4)] h54).bindT (fun p57 h58 => .panic p57 h58) fun v55 h56 =>
 (builtinV Prog .copy [65, 65] [v53, v55] h56).bindN fun v59 h60 =>
 chkR ((okVal (sliceR Prog 65 a5 (some (.int .i64 16)) (some (.int .i64 20)) none h56) v53 && true) && true) (
 (builtinV Prog .append [65, 65] [a5, a7] h60).bind fun v61 h62 =>
 .ok v61 h62) := by kernel_rfl
theorem swashlaw15_Write_l2k_x2 (k : Nat) (call : Caller) (a1 a5 a6 a7 a16 a17 a18 a36 a37 a38 a39 : Value) (h : Heap) : swashlaw15_Write_l2k k call (.exit 2) [(1, a1), (5, a5), (6, a6), (7, a7), (16, a16), (17, a17), (18, a18), (36, a36), (37, a37), (38, a38), (39, a39)] h =
 (binR Prog .add 3 a18 (.int .i64 1) h).bind fun v63 h64 =>
 .ok (.normal, [(1, a1), (5, a5), (6, a6), (7, a7), (16, a16), (17, a17), (18, v63)]) h64 := by kernel_rfl
def swashlaw15_CtxTakes_in1 (k : Nat) (call : Caller) (a0 a1 : Value) (h : Heap) : Res Value :=
 (loadR Prog 65 a0 h).bind fun v1 h2 =>
 (call F.view_Of [v1] h2).bind fun v3 h4 =>
 (call F.ctx_Take [v3, (.int .i64 40)] h4).bind fun v5 h6 =>
 (storeR Prog 193 a1 v5 h6).bind fun _v7 h8 =>
 .ok (.tuple #[]) h8
theorem swashlaw15_CtxTakes_in1_R (k : Nat) (a0 a1 : Value) (h : Heap) : R (T k) F.swashlaw15_CtxTakes_in1 [a0, a1] h = nrm .no h (swashlaw15_CtxTakes_in1 k (R (T k)) a0 a1 h) :=
 (R_body (t := T k) (T_scott k) (by kernel_rfl) (by kernel_rfl) _ _).trans (by kernel_rfl)
end
end Go.Sw
end
section
namespace Go.Sw
open Go.RowKit
theorem speaks15_run (k : Nat) (hk : k % 1000000 = F.swashlaw15_speaks) (H : Heap) : R (T k) F.swashlaw15_speaks [] H = .ok (.bool true) H :=
 (R_sp (t := T k) (T_scott k) (s := constSp (.bool true)) (by unfold T C; dsimp only; rw [hk]; kernel_rfl) [] H).trans (nrm_gc (Pure.of rfl) (.bool _))
theorem CtxTakes_in1 (k : Nat) (hk : k < 1000000) {H : Heap} (b : List Int) (hb : Byt b) (hl : b.length < 2 ^ 31) (p2 p3 : Nat) (old : Value)
  (h2 : H.get p2 = some ⟨[lv encB b], 1, false⟩) (h3 : H.get p3 = some ⟨[old], 1, false⟩) :
  R (T k) F.swashlaw15_CtxTakes_in1 [ptrV p2, ptrV p3] H = match ctxS b 40 with
   | some x => .ok (.tuple #[]) (H.set p3 (some ⟨[ctxV x], 1, false⟩))
   | none => .panic failV H := by
 rw [swashlaw15_CtxTakes_in1_R]
 have ht := ctxTake_run k hk b hb 40 (by omega) hl H
 have ho := fun H => Of_lv k b H
 cases h : ctxS b 40 with
 | none =>
  rw [h] at ht
  refine nrm_throw ⟨H, ?_, Ext.refl H⟩ Flat.fail.alive
  simp -implicitDefEqProofs (disch := omega) [swashlaw15_CtxTakes_in1, h2, ho, ht]
 | some x =>
  rw [h] at ht
  simp -implicitDefEqProofs (disch := omega) [swashlaw15_CtxTakes_in1, h2, h3, ho, ht]
set_option maxHeartbeats 1000000 in
theorem CtxTakes_run (b : List Int) (hb : Byt b) (ids : List Int) : R (T F.swashlaw15_speaks) F.swashlaw15_CtxTakes [lv encB b, lv encI ids] Heap.empty = .ok (.bool true) Heap.empty := by
 generalize hk : F.swashlaw15_speaks = k
 have hs := speaks15_run k (by subst hk; rfl)
 have hk6 : k < 1000000 := by subst hk; decide
 clear hk
 rw [swashlaw15_CtxTakes_R]
 generalize Heap.empty = H
 have hx1 : Ext H (H.push ⟨[lv encB b], 1, false⟩) := (Ext.refl H).push _
 by_cases hl : b.length > 800
 ·have hl' : (b.length : Int) > 800 := by omega
  refine nrm_gc ⟨_, ?_, hx1⟩ (.bool _)
  simp -implicitDefEqProofs (disch := omega) [swashlaw15_CtxTakes, hs, hl']
 have hl' : ¬ (b.length : Int) > 800 := by omega
 by_cases hi : ids.length > 40
 ·have hi' : (ids.length : Int) > 40 := by omega
  refine nrm_gc ⟨_, ?_, hx1⟩ (.bool _)
  simp -implicitDefEqProofs (disch := omega) [swashlaw15_CtxTakes, hs, hl', hi']
 have hi' : ¬ (ids.length : Int) > 40 := by omega
 have hin := CtxTakes_in1 k hk6 (H := (H.push ⟨[lv encB b], 1, false⟩).push ⟨[.pointer none], 1, false⟩) b hb (by omega) H.n (H.n + 1) (.pointer none) (by simp) (by simp)
 have hrd := fun H' => ctxRead_run k hk6 b hb 40 (by omega) (by omega) H'
 cases h : ctxS b 40 with
 | none =>
  rw [h] at hin hrd
  simp only [cV, Option.isSome_none, Bool.false_eq_true, if_false] at hrd
  have ht := Try_no k F.swashlaw15_CtxTakes_in1 #[ptrV H.n, ptrV (H.n + 1)] hin
  refine nrm_gc ⟨_, ?_, hx1.push ⟨[.pointer none], 1, false⟩⟩ (.bool _)
  simp -implicitDefEqProofs (disch := omega) [swashlaw15_CtxTakes, hs, hl', hi', ht, hrd]
 | some t =>
  rw [h] at hin hrd
  simp only [cV, Option.isSome_some, if_true] at hrd
  have ht := Try_ok k F.swashlaw15_CtxTakes_in1 #[ptrV H.n, ptrV (H.n + 1)] hin
  simp at ht
  have hok := ctxS_ok hb (by omega) (by omega) h
  have g := ((Star.nil H).push ⟨[lv encB b], 1, false⟩).push ⟨[ctxV t], 1, false⟩
  simp only [List.nil_append, List.cons_append, hn_push] at g
  obtain ⟨c1, o1, H1, e1, g⟩ := lineNew_star k g ids (by omega)
  simp only [List.nil_append, List.cons_append] at g
  obtain ⟨c2, o2, H2, e2, g⟩ := lineNew_star k g ids (by omega)
  simp only [List.nil_append, List.cons_append] at g
  have b2 := g.get 1 rfl
  have v2 := veq_ctx t
  obtain ⟨H3, e3, g, hlen⟩ := ctxRun_star k t hok g 2 rfl (by simp; omega)
  simp only [List.set_cons_zero, List.set_cons_succ] at g
  obtain ⟨H4, e4, g, _⟩ := ctxRun_star k t hok g 3 rfl (by simp; omega)
  simp only [List.set_cons_zero, List.set_cons_succ] at g
  rw [newG_len] at hlen
  generalize runC t (newG ids) = r at e3 e4 g hlen
  have gl1 := lineGlyphs_run k hk6 g 2 rfl (by omega)
  have gl2 := lineGlyphs_run k hk6 g 3 rfl (by omega)
  have hsame := Same_run k (Rd.lv encG_len H4 r.1) (Rd.lv encG_len H4 r.1) (by omega) (by omega)
  refine nrm_gc ⟨H4, ?_, g.ext⟩ (.bool _)
  simp -implicitDefEqProofs (disch := omega) [swashlaw15_CtxTakes, hs, hl', hi', ht, hrd, e1, e2, b2, e3, e4, gl1, gl2, hsame]
theorem CtxTakes_args (vs : List Value) (h : ArgsLay [.one (.slice [.int .u8]), .one (.slice [.int .i64])] vs) : ∃ H', R (T F.swashlaw15_speaks) F.swashlaw15_CtxTakes vs Heap.empty = .ok (.bool true) H' := by
 obtain ⟨v1, _, rfl, h1, h⟩ := h.head
 obtain ⟨v2, _, rfl, h2, h⟩ := h.head
 obtain rfl := h.done
 obtain ⟨b, rfl, hb⟩ := arg_B h1
 obtain ⟨ids, rfl, _⟩ := arg_I h2
 exact ⟨_, CtxTakes_run b hb ids⟩
end Go.Sw
end
section
namespace Go.Sw
open Go.RowKit
theorem names_ok : NamesOk Prog := NamesOk.of (by kernel_rfl)
theorem mixed_ok : Prog.follows .mixedOrders = true := Checked.mixed Go.Proofs.Try.checked
theorem laid_ok : laidOutB Prog = true := by kernel_rfl
theorem cloneP_is : SpIs Prog F.slices_Clone_of_api_Place_api_Place fun _ args H => cloneV 3 12 args H :=
 clone_is (c := { P := Prog, kp := kpS, sp := fun _ => none }) names_ok mixed_ok (t := 31) (e := 34) (by kernel_rfl) fun call a H => (slices_Clone_of_api_Place_api_Place_body 0 _ call a H).trans (by
  unfold slices_Clone_of_api_Place_api_Place cloneF
  simp only [be_31_0, ap_31, beR_bare])
theorem cloneG_is : SpIs Prog F.slices_Clone_of_api_Glyph_api_Glyph fun _ args H => cloneV 2 16 args H :=
 clone_is (c := { P := Prog, kp := kpS, sp := fun _ => none }) names_ok mixed_ok (t := 50) (e := 55) (by kernel_rfl) fun call a H => (slices_Clone_of_api_Glyph_api_Glyph_body 0 _ call a H).trans (by
  unfold slices_Clone_of_api_Glyph_api_Glyph cloneF
  simp only [be_50_0, ap_50, beR_bare])
theorem more_is (f : FuncId) (s : Sp) (h : moreS f = some s) : SpIs Prog f s := by
 unfold moreS at h
 cases h1 : Nat.beq f 77 with
 | true => have := Nat.eq_of_beq_eq_true h1; subst this; rw [h1, cond_true] at h; injection h with h; subst h; exact try_is
 | false =>
 rw [h1, cond_false] at h
 cases h2 : Nat.beq f 147 with
 | true => have := Nat.eq_of_beq_eq_true h2; subst this; rw [h2, cond_true] at h; injection h with h; subst h; exact cloneP_is
 | false =>
 rw [h2, cond_false] at h
 cases h3 : Nat.beq f 151 with
 | true => have := Nat.eq_of_beq_eq_true h3; subst this; rw [h3, cond_true] at h; injection h with h; subst h; exact cloneG_is
 | false =>
 rw [h3, cond_false] at h
 cases h4 : Nat.beq f 152 with
 | true => rw [h4, cond_true] at h; injection h with h; subst h; exact SpIs.stuck _ _
 | false => rw [h4, cond_false] at h; cases h
theorem T_prog (k : Nat) : (T k).c.P = Prog := by unfold T C; rfl
theorem told_ok {k m : Nat} (hsp : okTrue (run (baseCfg Prog kpS moreS) m (k % 1000000) [] Heap.empty) = true) : SpOk (T k).c := by
 have h0 : CallOk Prog (run (baseCfg Prog kpS moreS) m) := run_ok (c := baseCfg Prog kpS moreS) names_ok mixed_ok (SpOk.base more_is) m
 have h1 : SpOk (C k) := by
  unfold C
  exact SpOk.of (P := Prog) (kp := kpS) (speaks := speaksT) (more := moreS) (k := k % 1000000) h0 hsp more_is
 exact h1
end Go.Sw
end
