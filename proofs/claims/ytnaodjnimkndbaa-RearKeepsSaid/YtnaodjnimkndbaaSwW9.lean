/-
  Functions' forms, and what is proved of them, part 9.
-/
import Derived.Test.YtnaodjnimkndbaaSwW8
import Derived.Test.YtnaodjnimkndbaaSwW1
import Derived.Test.YtnaodjnimkndbaaSwLib8
import Derived.Test.YtnaodjnimkndbaaSwW6
import Derived.Test.YtnaodjnimkndbaaSwCfg
import Derived.Test.YtnaodjnimkndbaaSwW2
import Derived.Test.YtnaodjnimkndbaaSwW5
import Derived.Test.YtnaodjnimkndbaaSwW4
import Derived.Tactics
import Derived.Tactics2
import Derived.Defers
import Derived.Recover
import Derived.Laws.Pointers
set_option linter.unusedSimpArgs false
set_option linter.unusedVariables false
set_option linter.unusedSectionVars false
section
namespace Go.Sw
open Go.RowKit
theorem gU_four {b : List Int} (hb : Byt b) (i : Int) : -1 ≤ gU b i 4 ∧ gU b i 4 < 4294967296 := by
 unfold gU
 cases h : uS b i 4 with
 | none => simp
 | some x => have := uS_four hb h; simp; omega
theorem gU_lt {b : List Int} {i : Int} (h : ¬ gU b i 4 < 0) : uS b i 4 = some (gU b i 4) := by
 unfold gU at h ⊢
 cases hu : uS b i 4 with
 | none => rw [hu] at h; simp at h
 | some x => rfl
set_option maxHeartbeats 1000000 in
theorem ζi6 (k : Nat) (b : List Int) (hb : Byt b) (g w : Int) (hg : 1 ≤ g ∧ g ≤ 65535) (hw : w = 0 ∨ w = 1 ∨ w = 2) (hl : b.length < 2 ^ 31) (H : Heap) :
  R (T k) F.ζ7 [lv encB b, .int .i64 g, .int .i64 w] H = .ok (.tuple #[rmO (refMachS b g w), .bool (refMachS b g w).isSome]) H := by
 rw [ζdc]
 have hU := fun j H' => refU_run k (H := H') (Sl.lv H' 1 b) hb j 4 (by omega) (by omega)
 have u0 : ∀ H', R (T k) F.ζ1 [lv encB b, .int .i64 0, .int .i64 4] H' = .ok (.int .i64 (gU b 0 4)) H' := fun H' => hU _ H'
 have u4 : ∀ H', R (T k) F.ζ1 [lv encB b, .int .i64 4, .int .i64 4] H' = .ok (.int .i64 (gU b 4 4)) H' := fun H' => hU _ H'
 have u8 : ∀ H', R (T k) F.ζ1 [lv encB b, .int .i64 8, .int .i64 4] H' = .ok (.int .i64 (gU b 8 4)) H' := fun H' => hU _ H'
 have u12 : ∀ H', R (T k) F.ζ1 [lv encB b, .int .i64 12, .int .i64 4] H' = .ok (.int .i64 (gU b 12 4)) H' := fun H' => hU _ H'
 have b0 := gU_four hb 0
 have b4 := gU_four hb 4
 have b8 := gU_four hb 8
 have b12 := gU_four hb 12
 have fl : ∀ o : Option RMach, Flat (.tuple #[rmO o, .bool o.isSome]) := fun o => .tupleL (.cons (Flat.rm _) (.cons (.bool _) .nil))
 obtain ⟨n, hn⟩ : ∃ n, gU b 0 4 = n := ⟨_, rfl⟩
 obtain ⟨i, hi⟩ : ∃ i, gU b 4 4 = i := ⟨_, rfl⟩
 obtain ⟨j, hj⟩ : ∃ j, gU b 8 4 = j := ⟨_, rfl⟩
 obtain ⟨q, hq⟩ : ∃ q, gU b 12 4 = q := ⟨_, rfl⟩
 rw [hn] at u0 b0
 rw [hi] at u4 b4
 rw [hj] at u8 b8
 rw [hq] at u12 b12
 obtain ⟨M1, hM1⟩ : ∃ M1 : Blk, M1 = ⟨[lv encB b, .int .i64 n, .int .i64 j, .int .i64 q, .int .i64 2, .int .i64 0, .int .i64 w, .slice none 0 0, .slice none 0 0], 1, false⟩ := ⟨_, rfl⟩
 have hx2 : Ext H ((H.push ⟨zCells, 1, false⟩).push M1) := ((Ext.refl H).push _).push _
 -- one thing is not as it should be
 have no : machS b g w = none → ζ7 k (R (T k)) (lv encB b) (.int .i64 g) (.int .i64 w) H = .ok (.tuple #[.agg zCells.toArray, .bool false]) ((H.push ⟨zCells, 1, false⟩).push M1) → nrm .fz H (ζ7 k (R (T k)) (lv encB b) (.int .i64 g) (.int .i64 w) H) = .ok (.tuple #[rmO (refMachS b g w), .bool (refMachS b g w).isSome]) H := fun h1 h2 => by
  have : refMachS b g w = none := by unfold refMachS; rw [h1]; rfl
  rw [this]
  exact nrm_fz (L := []) h2 rfl hx2 (fl none).alive
 have n0 : ∀ m, machS b g w = some m → (4 ≤ n ∧ n ≤ 65535) ∧ 0 ≤ i ∧ i ≤ b.length ∧ 0 ≤ j ∧ j ≤ b.length ∧ 0 ≤ q ∧ q ≤ b.length := fun m hm => by
  obtain ⟨i', j', q', tb, rv, ev, x, h0, h1, h2, h3, h4, h5, h6, h7, h8, h9, _⟩ := ζci hm
  have e0 := gU_some h0
  have e3 := gU_some h3
  have e6 := gU_some h6
  have e8 := gU_some h8
  rw [hn] at e0
  rw [hi] at e3
  rw [hj] at e6
  rw [hq] at e8
  have r4 := (ζ2b.1 h4).1
  have r7 := (ζ2b.1 h7).1
  have r9 := (ζ2b.1 h9).1
  omega
 have nn : ¬ ((4 ≤ n ∧ n ≤ 65535) ∧ 0 ≤ i ∧ i ≤ b.length ∧ 0 ≤ j ∧ j ≤ b.length ∧ 0 ≤ q ∧ q ≤ b.length) → machS b g w = none := fun h => by
  cases hm : machS b g w with
  | none => rfl
  | some m => exact absurd (n0 m hm) h
 by_cases c1 : n < 4
 ·refine no (nn (by omega)) ?_
  rw [hM1]
  simp -implicitDefEqProofs (disch := omega) [ζ7, u0, u4, u8, u12, c1]
 by_cases c2 : n > 65535
 ·refine no (nn (by omega)) ?_
  rw [hM1]
  simp -implicitDefEqProofs (disch := omega) [ζ7, u0, u4, u8, u12, c1, c2]
 by_cases c3 : j < 0
 ·refine no (nn (by omega)) ?_
  rw [hM1]
  simp -implicitDefEqProofs (disch := omega) [ζ7, u0, u4, u8, u12, c1, c2, c3]
 by_cases c4 : q < 0
 ·refine no (nn (by omega)) ?_
  rw [hM1]
  simp -implicitDefEqProofs (disch := omega) [ζ7, u0, u4, u8, u12, c1, c2, c3, c4]
 by_cases c5 : j > b.length
 ·refine no (nn (by omega)) ?_
  rw [hM1]
  simp -implicitDefEqProofs (disch := omega) [ζ7, u0, u4, u8, u12, c1, c2, c3, c4, c5]
 by_cases c6 : q > b.length
 ·refine no (nn (by omega)) ?_
  rw [hM1]
  simp -implicitDefEqProofs (disch := omega) [ζ7, u0, u4, u8, u12, c1, c2, c3, c4, c5, c6]
 by_cases c7 : i < 0
 ·refine no (nn (by omega)) ?_
  rw [hM1]
  simp -implicitDefEqProofs (disch := omega) [ζ7, u0, u4, u8, u12, c1, c2, c3, c4, c5, c6, c7]
 by_cases c8 : i > b.length
 ·refine no (nn (by omega)) ?_
  rw [hM1]
  simp -implicitDefEqProofs (disch := omega) [ζ7, u0, u4, u8, u12, c1, c2, c3, c4, c5, c6, c7, c8]
 clear no nn n0
 have hU0 := gU_lt (b := b) (i := 0) (by omega)
 have hU4 := gU_lt (b := b) (i := 4) (by omega)
 have hU8 := gU_lt (b := b) (i := 8) (by omega)
 have hU12 := gU_lt (b := b) (i := 12) (by omega)
 rw [hn] at hU0
 rw [hi] at hU4
 rw [hj] at hU8
 rw [hq] at hU12
 obtain ⟨tb, htb⟩ : ∃ tb, tb = b.drop i.toNat := ⟨_, rfl⟩
 have r4 : restS b i = some tb := ζ2b.2 ⟨by omega, htb⟩
 have r8 : restS b j = some (b.drop j.toNat) := ζ2b.2 ⟨by omega, rfl⟩
 have r12 : restS b q = some (b.drop q.toNat) := ζ2b.2 ⟨by omega, rfl⟩
 have hsl := fun H' => slS_lv encB_len b (some (.int .i64 i)) none none i.toNat b.length b.length (by unfold boundOf; dsimp only; rw [if_pos (by omega)]) rfl rfl (fun h => by cases h) (by omega) (Nat.le_refl _) (Nat.le_refl _) H'
 rw [List.take_length, ← htb] at hsl
 have htbb : Byt tb := hb.rest r4
 have htbl : tb.length < 2 ^ 31 := by rw [htb]; simp; omega
 have hrd := fun H' => ζlb k tb htbb g 2 hg (.inl rfl) htbl H'
 have hlr := look_ref htbb hg.1 hg.2 (.inl rfl : (2 : Int) = 2 ∨ (2 : Int) = 4)
 have hmach : machS b g w = (lookS tb g 2).bind fun tab => (closeA (b.drop j.toNat) (b.drop q.toNat) n w 2).map fun x => ⟨n, tab, x.1, x.2⟩ := by
  unfold machS
  rw [hU0, Option.bind_some, if_pos (by omega), hU4, Option.bind_some, r4, Option.bind_some]
  congr 1
  funext tab
  rw [hU8, Option.bind_some, r8, Option.bind_some, hU12, Option.bind_some, r12, Option.bind_some]
 cases hlk : lookS tb g 2 with
 | none =>
  have hm : refMachS b g w = none := by unfold refMachS; rw [hmach, hlk]; rfl
  rw [hm]
  have hrr := hlr.2 hlk
  rw [hrr] at hrd
  simp only [tabRO, Option.isSome_none] at hrd
  obtain ⟨x, e', H1, hr, rfl, rfl, rfl⟩ := loopDec (body := ζ20 k (R (T k)))
   (fun m e H' => H' = (((H.push ⟨zCells, 1, false⟩).push ⟨rmCells b n j q 2 0 w [] [], 1, false⟩).push ⟨[lv encB [], lv encRP []], 1, false⟩) ∧ e = [(0, lv encB b), (6, ptrV H.n), (8, ptrV (H.n + 1)), (11, .bool false), (12, .int .i64 (4 + 2 * w))])
   (fun x e H' => H' = (((H.push ⟨zCells, 1, false⟩).push ⟨rmCells b n j q 2 0 w [] [], 1, false⟩).push ⟨[lv encB [], lv encRP []], 1, false⟩) ∧ x = .exit 0 ∧ e = [(0, lv encB b), (6, ptrV H.n), (8, ptrV (H.n + 1)), (12, .int .i64 (4 + 2 * w)), (81, .bool false)])
   0 (e0 := [(0, lv encB b), (6, ptrV H.n), (8, ptrV (H.n + 1)), (11, .bool false), (12, .int .i64 (4 + 2 * w))]) (H0 := (((H.push ⟨zCells, 1, false⟩).push ⟨rmCells b n j q 2 0 w [] [], 1, false⟩).push ⟨[lv encB [], lv encRP []], 1, false⟩)) ⟨rfl, rfl⟩ (by omega)
   (fun m e H' ⟨hH, he⟩ => by
    subst hH he
    refine .inr ⟨.exit 0, _, _, ?_, by simp, rfl, rfl, rfl⟩
    rw [ζ10]
    simp -implicitDefEqProofs)
  refine nrm_fz (L := []) (v := .tuple #[.agg zCells.toArray, .bool false]) (H' := ((H.push ⟨zCells, 1, false⟩).push ⟨rmCells b n j q 2 0 w [] [], 1, false⟩).push ⟨[lv encB [], lv encRP []], 1, false⟩) ?_ rfl ((((Ext.refl H).push _).push _).push _) (fl none).alive
  simp -implicitDefEqProofs (disch := omega) [ζ7, u0, u4, u8, u12, c1, c2, c3, c4, c5, c6, c7, c8, hsl, hrd, hr, ζ5t]
 | some tab =>
  obtain ⟨ps, hps, hrel⟩ := hlr.1 tab hlk
  rw [hps] at hrd
  simp only [tabRO, Option.isSome_some] at hrd
  have st := ((Star.nil H).push ⟨zCells, 1, false⟩).push ⟨rmCells b n j q 2 0 w tb ps, 1, false⟩
  have st := st.rest ((Ext.refl _).push ⟨[lv encB tb, lv encRP ps], 1, false⟩)
  have hlp := ζmw k b hb hl (n := n) (w := w) (by omega) (by omega) r8 r12 tb ps (by simpa using st)
  cases hcl : closeA (b.drop j.toNat) (b.drop q.toNat) n w 2 with
  | none =>
   have hm : refMachS b g w = none := by unfold refMachS; rw [hmach, hlk, Option.bind_some, hcl]; rfl
   rw [hm]
   rw [hcl] at hlp
   obtain ⟨H2, hr, hx, hz⟩ := hlp
   have hgs : (H2.set H.n (some ⟨zCells, 1, false⟩)).get H.n = some ⟨zCells, 1, false⟩ := ζ80 _ _ _ (by rw [hz]; rfl)
   have hx3 : Ext H (H2.set H.n (some ⟨zCells, 1, false⟩)) := ⟨by simpa using hx.1, fun d hd hs => by rw [ζ34 _ _ _ _ (by omega)]; exact hx.2 d hd hs⟩
   refine nrm_fz (L := []) (v := .tuple #[.agg zCells.toArray, .bool false]) (H' := H2.set H.n (some ⟨zCells, 1, false⟩)) ?_ rfl hx3 (fl none).alive
   simp -implicitDefEqProofs (disch := omega) [ζ7, u0, u4, u8, u12, c1, c2, c3, c4, c5, c6, c7, c8, hsl, hrd, hr, ζ5t, hz, hgs]
  | some x =>
   have hm : refMachS b g w = some (rmOf b g w ⟨n, tab, x.1, x.2⟩) := by unfold refMachS; rw [hmach, hlk, Option.bind_some, hcl]; rfl
   rw [hm]
   rw [hcl] at hlp
   obtain ⟨H2, S, N, hr, hx, hz, rfl, rfl⟩ := hlp
   have hrm : rmO (some (rmOf b g w ⟨n, tab, x.1, x.2⟩)) = .agg (rmCells b n j q x.1.length x.2.length w tb ps).toArray := by
    unfold rmO rmOf
    rw [hj, hq, hi, ← htb, hps]
    rfl
   have fl2 := fl (some (rmOf b g w ⟨n, tab, x.1, x.2⟩))
   rw [hrm] at fl2 ⊢
   refine nrm_fz (L := []) (v := .tuple #[.agg (rmCells b n j q x.1.length x.2.length w tb ps).toArray, .bool true]) (H' := H2) ?_ rfl hx fl2.alive
   simp -implicitDefEqProofs (disch := omega) [ζ7, u0, u4, u8, u12, c1, c2, c3, c4, c5, c6, c7, c8, hsl, hrd, hr, ζav, hz]
theorem mach_at {b : List Int} (hb : Byt b) {g w : Int} (hw : 0 ≤ w ∧ w ≤ 2) {m : Mach} (h : machS b g w = some m) :
  (0 ≤ gU b 8 4 ∧ gU b 8 4 ≤ b.length) ∧ (0 ≤ gU b 12 4 ∧ gU b 12 4 ≤ b.length) ∧
  (∀ (i : Nat) e, m.ents[i]? = some e → e = ⟨gU b (gU b 12 4 + (i : Int) * (4 + 2 * w)) 2, gU b (gU b 12 4 + (i : Int) * (4 + 2 * w) + 2) 2, if 0 < w then gU b (gU b 12 4 + (i : Int) * (4 + 2 * w) + 4) 2 else 0, if 1 < w then gU b (gU b 12 4 + (i : Int) * (4 + 2 * w) + 6) 2 else 0⟩) ∧
  ∀ (s c : Nat) r x, m.rows[s]? = some r → r[c]? = some x → x = gU b (gU b 8 4 + (m.classes * s + (c : Nat)) * 2) 2 := by
 obtain ⟨i, j, q, tb, rv, ev, x, h0, h1, h2, h3, h4, h5, h6, h7, h8, h9, h10, h11, h12⟩ := ζci h
 have e6 := gU_some h6
 have e8 := gU_some h8
 rw [e6, e8]
 obtain ⟨c1, c2, c3, c4, c5, c6, c7, _⟩ := ζge (hb.rest h7) (hb.rest h9) (by omega) hw _ _ x (by omega) (by omega) h10
 refine ⟨(ζ2b.1 h7).1, (ζ2b.1 h9).1, fun i e he => ?_, fun s c r x' hr hx => ?_⟩
 ·rw [h12] at he
  obtain ⟨y, g1, g2⟩ := mapO_at c7 (List.getElem?_eq_some_iff.1 he).1
  rw [he] at g2
  injection g2 with g2
  subst g2
  exact ent_at h9 hw g1
 ·rw [h11] at hr
  obtain ⟨y, g1, g2⟩ := mapO_at c6 (List.getElem?_eq_some_iff.1 hr).1
  rw [hr] at g2
  injection g2 with g2
  subst g2
  have hra := row_at h7 (by omega) g1
  have hlt := (List.getElem?_eq_some_iff.1 hx).1
  rw [hra] at hx hlt
  simp at hlt
  rw [List.getElem?_map, List.getElem?_range (by omega)] at hx
  injection hx with hx
  exact hx.symm
theorem ζkr (k : Nat) {b : List Int} (hb : Byt b) {g w : Int} (hw : w = 0 ∨ w = 1 ∨ w = 2) (hl : b.length < 2 ^ 31) {m : Mach} (h : machS b g w = some m) {i : Int} (hi0 : 0 ≤ i) (hi6 : i ≤ 65536) {e : En} (he : m.ents[i.toNat]? = some e) (H : Heap) :
  R (T k) F.ζh [rmV (rmOf b g w m), .int .i64 i] H = .ok (.agg (encEn e).toArray) H := by
 obtain ⟨_, hq, hat, _⟩ := mach_at hb (by omega) h
 have he := hat _ _ he
 clear hat
 obtain ⟨i, rfl⟩ := Int.eq_ofNat_of_zero_le hi0
 rw [Int.toNat_natCast] at he
 obtain ⟨p, hp⟩ : ∃ p, p = gU b 12 4 + (i : Int) * (4 + 2 * w) := ⟨_, rfl⟩
 have hm0 : 0 ≤ (i : Int) * (4 + 2 * w) := Int.mul_nonneg (by omega) (by omega)
 have hm1 : (i : Int) * (4 + 2 * w) ≤ 65536 * 8 := Int.mul_le_mul (by omega) (by omega) (by omega) (by omega)
 have hU := fun j H' => refU_run k (H := H') (Sl.lv H' 1 b) hb j 2 (by omega) (by omega)
 have hu : ∀ j H', R (T k) F.ζ1 [lv encB b, .int .i64 j, .int .i64 2] H' = .ok (.int .i64 (gU b j 2)) H' := fun j H' => hU j H'
 rw [ζcs]
 rw [← hp] at he
 have hx : Ext H (((H.push ⟨rmCells b m.classes (gU b 8 4) (gU b 12 4) m.rows.length m.ents.length w (b.drop (gU b 4 4).toNat) ((refReadS (b.drop (gU b 4 4).toNat) g 2).getD []), 1, false⟩).push ⟨encEn e, 1, false⟩).push ⟨encEn e, 1, false⟩) := (((Ext.refl H).push _).push _).push _
 refine nrm_gc ⟨_, ?_, hx⟩ (Flat.ofEn e).alive
 subst he
 unfold rmOf
 rcases hw with rfl | rfl | rfl
 ·simp -implicitDefEqProofs at hm0 hm1 hp
  simp -implicitDefEqProofs (disch := omega) [ζh, ← hp, hu, ζ9y, ζ5s]
 ·simp -implicitDefEqProofs at hm0 hm1 hp
  simp -implicitDefEqProofs (disch := omega) [ζh, ← hp, hu, ζ5r, ζ5s]
 ·simp -implicitDefEqProofs at hm0 hm1 hp
  simp -implicitDefEqProofs (disch := omega) [ζh, ← hp, hu, ζ5r, ζ9z]
theorem ζkk (k : Nat) {b : List Int} (hb : Byt b) {g w : Int} (hg : 1 ≤ g ∧ g ≤ 65535) (hl : b.length < 2 ^ 31) {m : Mach} (hm : m.ok) (h : machS b g w = some m) (id : Int) (H : Heap) :
  R (T k) F.ζ1b [rmV (rmOf b g w m), .int .i64 id] H = .ok (.int .i64 (classS m id)) H := by
 obtain ⟨i, j, q, tb, rv, ev, x, h0, h1, h2, h3, h4, h5, _⟩ := ζci h
 have e3 := gU_some h3
 obtain ⟨hi, htb⟩ := ζ2b.1 h4
 have htbb : Byt tb := hb.rest h4
 have htbl := ζdt h4
 obtain ⟨ps, hps, hrel⟩ := (look_ref htbb hg.1 hg.2 (.inl rfl : (2 : Int) = 2 ∨ (2 : Int) = 4)).1 _ h5
 have hget := fun H' => ζme k tb htbb ps (ζle htbb hg (.inl rfl) hps) (ζk3 htbb hg (.inl rfl) h5 hps) (by omega) id H'
 rw [← get_ref (id := id) hrel hm.pts hm.rise] at hget
 have hrm : rmV (rmOf b g w m) = .agg (rmCells b m.classes (gU b 8 4) (gU b 12 4) m.rows.length m.ents.length w tb ps).toArray := by
  unfold rmOf
  rw [e3, ← htb, hps]
  rfl
 rw [hrm, ζcr]
 refine nrm_gc ⟨_, ?_, (Ext.refl H).push ⟨rmCells b m.classes (gU b 8 4) (gU b 12 4) m.rows.length m.ents.length w tb ps, 1, false⟩⟩ (.int _ _)
 unfold classS
 by_cases h : id = 65535
 ·subst h
  simp -implicitDefEqProofs (disch := omega) [ζ1b]
 ·have h' : (id == 65535) = false := by simpa using h
  rw [if_neg h]
  cases hg : getS m.tab.2 id with
  | none =>
   rw [hg] at hget
   simp -implicitDefEqProofs (disch := omega) [ζ1b, h', hget]
  | some x =>
   rw [hg] at hget
   dsimp only
   by_cases hx : x < m.classes
   ·have hx' : ¬ x ≥ m.classes := by omega
    simp -implicitDefEqProofs (disch := omega) [ζ1b, h', hget, hx, hx']
   ·have hx' : x ≥ m.classes := by omega
    simp -implicitDefEqProofs (disch := omega) [ζ1b, h', hget, hx, hx']
end Go.Sw
end
section
namespace Go.Sw
theorem row_I {r : List Da} {cs : List Value} (h : LayRow [.int .i64] r cs) : ∃ n : Int, cs = encI n ∧ (Lit.int .i64 n).wf = true := by
 obtain ⟨d, v, ds, vs, rfl, h1, h2⟩ := h.head
 obtain rfl := h2.done
 obtain ⟨n, rfl, w⟩ := h1.intv
 exact ⟨n, rfl, w⟩
theorem wf_u8 {n : Int} (h : (Lit.int .u8 n).wf = true) : 0 ≤ n ∧ n < 256 := by
 simp [Lit.wf, IntKind.min, IntKind.max, IntKind.signed, IntKind.bits] at h
 omega
theorem row_B {r : List Da} {cs : List Value} (h : LayRow [.int .u8] r cs) : ∃ n : Int, cs = encB n ∧ (0 ≤ n ∧ n < 256) := by
 obtain ⟨d, v, ds, vs, rfl, h1, h2⟩ := h.head
 obtain rfl := h2.done
 obtain ⟨n, rfl, w⟩ := h1.intv
 exact ⟨n, rfl, wf_u8 w⟩
theorem arg_I {v : Value} (h : ArgLay (.one (.slice [.int .i64])) v) : ∃ l, v = lv encI l ∧ ∀ n, n ∈ l → (Lit.int .i64 n).wf = true := by
 obtain ⟨d, h1⟩ := h.cell
 exact Lay.list (enc := encI) (ok := fun n => (Lit.int .i64 n).wf = true) (fun r cs h => row_I h) h1
end Go.Sw
end
section
namespace Go.Sw
open Go.RowKit
theorem veq_RP (l : List RP) : veq (lv encRP l) (lv encRP l) = true := veq_lv fun p _ v hv => by
 simp [encRP] at hv
 rcases hv with rfl | rfl | rfl | rfl | rfl <;> simp
theorem veq_rm (r : RMach) : veq (rmV r) (rmV r) = true := veq_agg fun v hv => by
 simp [rmCells] at hv
 rcases hv with rfl | rfl | rfl | rfl | rfl | rfl | rfl | rfl | rfl
 ·simp
 ·simp
 ·simp
 ·simp
 ·simp
 ·simp
 ·simp
 ·simp
 ·exact veq_RP _
theorem ζn3 (k : Nat) {b : List Int} (hb : Byt b) {g w : Int} (hw : w = 0 ∨ w = 1 ∨ w = 2) (hl : b.length < 2 ^ 31) {m : Mach} (hm : m.ok) (h : machS b g w = some m) (s c : Int) (H : Heap) :
  R (T k) F.ζ14 [rmV (rmOf b g w m), .int .i64 s, .int .i64 c] H = .ok (.tuple #[encEA (stepS m s c), .bool (stepS m s c).isSome]) H := by
 rw [ζdd]
 have fl : Flat (.tuple #[encEA (stepS m s c), .bool (stepS m s c).isSome]) := .tupleL (.cons (ζe1 _) (.cons (.bool _) .nil))
 have no : ¬ (0 ≤ s ∧ s < m.rows.length ∧ 0 ≤ c ∧ c < m.classes) → stepS m s c = none := fun h => by unfold stepS; rw [if_neg h]
 have hx1 : Ext H (H.push ⟨rmCells b m.classes (gU b 8 4) (gU b 12 4) m.rows.length m.ents.length w (b.drop (gU b 4 4).toNat) ((refReadS (b.drop (gU b 4 4).toNat) g 2).getD []), 1, false⟩) := (Ext.refl H).push _
 have hx := hx1.push ⟨[.int .i64 0, .int .i64 0, .int .i64 0, .int .i64 0], 1, false⟩
 obtain ⟨r, hr⟩ : ∃ r, r = rmOf b g w m := ⟨_, rfl⟩
 have hent := fun i h0 h6 e he H => ζkr k hb (g := g) hw hl h (i := i) h0 h6 (e := e) he H
 rw [← hr] at hent ⊢
 have r1 : r.states = m.rows.length := by rw [hr]; rfl
 have r2 : r.cl = m.classes := by rw [hr]; rfl
 have r3 : r.rowsAt = gU b 8 4 := by rw [hr]; rfl
 have r4 : r.b = b := by rw [hr]; rfl
 have hx1 : Ext H (H.push ⟨rmCells r.b r.cl r.rowsAt r.entsAt r.states r.n r.words r.tb r.parts, 1, false⟩) := (Ext.refl H).push _
 have hx := hx1.push ⟨[.int .i64 0, .int .i64 0, .int .i64 0, .int .i64 0], 1, false⟩
 have hcl := hm.cl
 by_cases h1 : s < 0
 ·rw [no (by omega)] at fl ⊢
  refine nrm_gc ⟨_, ?_, hx⟩ fl.alive
  simp -implicitDefEqProofs (disch := omega) [ζ14, h1, encEA]
 by_cases h2 : s ≥ m.rows.length
 ·rw [no (by omega)] at fl ⊢
  refine nrm_gc ⟨_, ?_, hx⟩ fl.alive
  simp -implicitDefEqProofs (disch := omega) [ζ14, h1, h2, r1, encEA]
 by_cases h3 : c < 0
 ·rw [no (by omega)] at fl ⊢
  refine nrm_gc ⟨_, ?_, hx⟩ fl.alive
  simp -implicitDefEqProofs (disch := omega) [ζ14, h1, h2, h3, r1, encEA]
 by_cases h4 : c ≥ m.classes
 ·rw [no (by omega)] at fl ⊢
  refine nrm_gc ⟨_, ?_, hx⟩ fl.alive
  simp -implicitDefEqProofs (disch := omega) [ζ14, h1, h2, h3, h4, r1, r2, encEA]
 obtain ⟨row, x, e, hrow, hxx, hx0, he, hs⟩ := ζf0 hm (s := s) (c := c) (by omega)
 rw [hs] at fl ⊢
 obtain ⟨hj, _, _, hat⟩ := mach_at hb (by omega) h
 have hpos := hat s.toNat c.toNat row x hrow hxx
 have hxm := (hm.row row (List.mem_of_getElem? hrow)).2 x (List.mem_of_getElem? hxx)
 have hel := hm.elen
 have htwo := hm.two
 obtain ⟨s, rfl⟩ := Int.eq_ofNat_of_zero_le (show 0 ≤ s by omega)
 obtain ⟨c, rfl⟩ := Int.eq_ofNat_of_zero_le (show 0 ≤ c by omega)
 simp only [Int.toNat_natCast] at hpos
 have hm0 : 0 ≤ (s : Int) * m.classes := Int.mul_nonneg (by omega) (by omega)
 have hm1 : (s : Int) * m.classes ≤ 65536 * 65535 := Int.mul_le_mul (by omega) (by omega) (by omega) (by omega)
 have hpe : gU b 8 4 + (m.classes * (s : Int) + (c : Nat)) * 2 = gU b 8 4 + 2 * ((s : Int) * m.classes + (c : Int)) := by rw [Int.mul_comm m.classes]; omega
 rw [hpe] at hpos
 have hU := fun j H' => refU_run k (H := H') (Sl.lv H' 1 b) hb j 2 (by omega) (by omega)
 have hu : ∀ H', R (T k) F.ζ1 [lv encB b, .int .i64 (gU b 8 4 + 2 * ((s : Int) * m.classes + (c : Int))), .int .i64 2] H' = .ok (.int .i64 x) H' := fun H' => by
  rw [hU]; unfold gU at hpos; rw [hpos]; rfl
 have he' := hent x hx0 (by omega) e he
 have hq := veq_rm r
 refine nrm_gc ⟨(H.push ⟨rmCells r.b r.cl r.rowsAt r.entsAt r.states r.n r.words r.tb r.parts, 1, false⟩).push ⟨encEn e, 1, false⟩, ?_, hx1.push _⟩ fl.alive
 simp only [rmV, rmCells, r1, r2, r3, r4] at he' hq ⊢
 simp -implicitDefEqProofs (disch := omega) at he' hq ⊢
 simp -implicitDefEqProofs (disch := omega) [ζ14, h1, h2, h3, h4, hu, he', hq, encEA]
end Go.Sw
end
section
namespace Go.Sw
open Go.RowKit
theorem ζeg {p : Plan} (hp : p.ok) (w : Int) {rm : List Int} (hrm : Byt rm) : Byt (planRoom p w rm) := by
 have tw : ∀ l, Byt (twos l) := fun l => Byt.flat fun r hr => by obtain ⟨c, _, rfl⟩ := List.mem_map.1 hr; exact ζ1z _ _
 unfold planRoom
 refine (ζ1z _ _).app ((ζ1z _ _).app ((ζ1z _ _).app ((ζ1z _ _).app (hrm.app (Byt.app ?_ (Byt.app ?_ ?_))))))
 ·unfold ofS
  exact (((ζ1z _ _).app (ζ1z _ _)).app (ζ1z _ _)).app (tw _)
 ·exact Byt.flat fun r hr => by obtain ⟨c, _, rfl⟩ := List.mem_map.1 hr; exact tw _
 ·refine Byt.flat fun r hr => ?_
  obtain ⟨e, _, rfl⟩ := List.mem_map.1 hr
  unfold entB
  refine (((ζ1z _ _).app (ζ1z _ _)).app ?_).app ?_
  ·split
   ·exact ζ1z _ _
   ·exact Byt.nil
  ·split
   ·exact ζ1z _ _
   ·exact Byt.nil
theorem rep_byt (n : Nat) : Byt (List.replicate n 0) := fun x hx => by
 have := List.eq_of_mem_replicate hx
 omega
theorem ζeh {p : Plan} (hp : p.ok) (w : Int) {rm : List Int} (hrm : rm.length ≤ 1000) (h1 : p.cls.length ≤ 1000) (h2 : p.rows.length ≤ 1000) (h3 : p.ents.length ≤ 1000) : (planRoom p w rm).length ≤ 100000 := by
 have hN := planN_eq p hp.2.2
 have hofl : (ofS p.cls).length = 6 + p.cls.length * 2 := by unfold ofS; simp [twos_len]; omega
 have hrl : (rowsL (planN p) p.rows).length ≤ 1000 * 22 := by rw [ζgp]; exact Nat.mul_le_mul h2 (by omega)
 have hel := ζdl w p.ents
 unfold planRoom
 simp
 omega
theorem row_En {r : List Da} {cs : List Value} (h : LayRow [.int .i64, .int .i64, .int .i64, .int .i64] r cs) : ∃ p : En, cs = encEn p ∧ True := by
 obtain ⟨_, v1, _, _, rfl, h1, h⟩ := h.head
 obtain ⟨_, v2, _, _, rfl, h2, h⟩ := h.head
 obtain ⟨_, v3, _, _, rfl, h3, h⟩ := h.head
 obtain ⟨_, v4, _, _, rfl, h4, h⟩ := h.head
 obtain rfl := h.done
 obtain ⟨a, rfl, _⟩ := h1.intv
 obtain ⟨b, rfl, _⟩ := h2.intv
 obtain ⟨c, rfl, _⟩ := h3.intv
 obtain ⟨d, rfl, _⟩ := h4.intv
 exact ⟨⟨a, b, c, d⟩, rfl, trivial⟩
theorem row_BR {r : List Da} {cs : List Value} (h : LayRow [.slice [.int .u8]] r cs) : ∃ b : List Int, cs = encBR b ∧ Byt b := by
 obtain ⟨_, v1, _, _, rfl, h1, h⟩ := h.head
 obtain rfl := h.done
 obtain ⟨b, rfl, hb⟩ := Lay.list (enc := encB) (ok := fun n => 0 ≤ n ∧ n < 256) (fun r cs h => row_B h) h1
 exact ⟨b, rfl, hb⟩
abbrev planSh : ASh := .agg [.slice [.int .u8], .slice [.slice [.int .u8]], .slice [.int .i64, .int .i64, .int .i64, .int .i64], .int .u8]
theorem arg_plan {v : Value} (h : ArgLay planSh v) : ∃ p, v = planV p ∧ p.ok := by
 cases h with
 | agg ss ds vs h =>
  obtain ⟨_, v1, _, _, rfl, h1, h⟩ := h.head
  obtain ⟨_, v2, _, _, rfl, h2, h⟩ := h.head
  obtain ⟨_, v3, _, _, rfl, h3, h⟩ := h.head
  obtain ⟨_, v4, _, _, rfl, h4, h⟩ := h.head
  obtain rfl := h.done
  obtain ⟨a, rfl, wa⟩ := Lay.list (enc := encB) (ok := fun n => 0 ≤ n ∧ n < 256) (fun r cs h => row_B h) h1
  obtain ⟨b, rfl, wb⟩ := Lay.list (enc := encBR) (ok := Byt) (fun r cs h => row_BR h) h2
  obtain ⟨c, rfl, wc⟩ := Lay.list (enc := encEn) (ok := fun _ => True) (fun r cs h => row_En h) h3
  obtain ⟨d, rfl, wd⟩ := h4.intv
  exact ⟨⟨a, b, c, d⟩, rfl, wa, wb, wf_u8 wd⟩
end Go.Sw
end
section
set_option maxRecDepth 100000
set_option linter.unusedVariables false
namespace Go.Sw
noncomputable section
end
end Go.Sw
end
section
namespace Go.Sw
open Go.RowKit
variable {σ : Type}
def DoOk (k : Nat) (m : Mach) (H0 : Heap) (W : σ → List It) (Inv : σ → Prop) (a : Value) (g : σ → Int → En → σ) : Prop :=
 ∀ s i e H X, Inv s → Star H0 H (W s ++ X) → 0 ≤ i → i < 2 ^ 50 → e ∈ m.ents →
  ∃ v H', callV (R (T k)) a [.int .i64 i, encE e] H = .ok v H' ∧ Star H0 H' (W (g s i e) ++ X) ∧ Inv (g s i e)
theorem plain_ok (k : Nat) {m : Mach} {H0 : Heap} {W : σ → List It} {Inv : σ → Prop} {a : Value} {g : σ → Int → En → σ} (h : DoOk k m H0 W Inv a g) (p : Nat) :
  ActOk k m H0 (fun s => W s ++ [itBlk p ⟨[a], 1, false⟩]) Inv (.func (.func F.ζ1e) #[] #[ptrV p]) (fun s i e => (g s i e, i, i + 1)) := by
 intro s i e H X hI st h0 h1 he
 have st2 := st.push ⟨encEn e, 1, false⟩
 have hp := st2.memBlk (c := p) (k := ⟨[a], 1, false⟩) (by simp)
 have hpn : ¬ p = H.n := by have := Heap.get_lt (st.memBlk (c := p) (k := ⟨[a], 1, false⟩) (by simp)); omega
 obtain ⟨v, H', e1, st3, hI2⟩ := h s i e (H.push ⟨encEn e, 1, false⟩) ([itBlk p ⟨[a], 1, false⟩] ++ X ++ [itBlk H.n ⟨encEn e, 1, false⟩]) hI (by simpa [List.append_assoc] using st2) h0 h1 he
 have st4 : Star H0 H' (W (g s i e) ++ [itBlk p ⟨[a], 1, false⟩] ++ X) := by
  have : W (g s i e) ++ ([itBlk p ⟨[a], 1, false⟩] ++ X ++ [itBlk H.n ⟨encEn e, 1, false⟩]) = (W (g s i e) ++ [itBlk p ⟨[a], 1, false⟩] ++ X) ++ [itBlk H.n ⟨encEn e, 1, false⟩] := by simp
  rw [this] at st3
  exact st3.ζ6h
 refine ⟨H', ?_, st4, hI2, by dsimp only; omega, by dsimp only; omega⟩
 simp only [callV, List.nil_append, List.cons_append]
 rw [ζd2, nrm_of]
 simp -implicitDefEqProofs (disch := omega) [ζ1e, hp, hpn, e1]
end Go.Sw
end
section
namespace Go.Sw
open Go.RowKit
end Go.Sw
end
section
namespace Go.Sw
open Go.RowKit
variable {σ : Type}
theorem runD_inv (m : Mach) (hm : m.ok) (ln : σ → List Gl) (f : σ → Int → En → σ × Int × Int) (P : σ → Prop) (hf : ∀ s i e, P s → 0 ≤ i → e ∈ m.ents → P (f s i e).1) (most : Int) :
  ∀ (n : Nat) (x : σ × Drv), P x.1 → 0 ≤ x.2.pl → 0 ≤ x.2.st → x.2.st < m.rows.length → P (runD m ln f most n x).2.2
 | 0, x, h, _, _, _ => h
 | n + 1, x, h, hp, h0, h1 => by
  have hmem := entS_mem hm (ln x.1) x.2 ⟨h0, h1⟩
  have hent := hm.ent _ hmem
  have hP : P (stepD m ln f x).1.1 := by unfold stepD; split <;> exact hf _ _ _ h hp hmem
  have hst : 0 ≤ (stepD m ln f x).1.2.st ∧ (stepD m ln f x).1.2.st < m.rows.length := by unfold stepD; split <;> exact ⟨hent.1, hent.2.1⟩
  have hpl := stepD_pl m ln f x
  unfold runD
  split
  ·split
   ·exact hP
   ·split
    ·exact hP
    ·exact runD_inv m hm ln f P hf most n _ hP hpl hst.1 hst.2
  ·exact h
end Go.Sw
end
section
namespace Go.Sw
open Go.RowKit
end Go.Sw
end
section
namespace Go.Sw
open Go.RowKit
def doR (s : List Gl × Int × Int) (i : Int) (e : En) : List Gl × Int × Int :=
 let a := if e.flags ≥ 32768 then min i (s.1.length : Int) else s.2.1
 let b := if e.flags / 8192 % 2 = 1 then min (i + 1) (s.1.length : Int) else s.2.2
 (match orderS (e.flags % 16) (b - a) with | some o => (orderG s.1 a o).getD s.1 | none => s.1, a, b)
def RearOk (n : Int) (s : List Gl × Int × Int) : Prop := (s.1.length : Int) = n ∧ 0 ≤ s.2.1 ∧ s.2.1 ≤ n ∧ 0 ≤ s.2.2 ∧ s.2.2 ≤ n
theorem ζl9 {v : Int} {l : List Gl} {a b : Int} (h0 : 0 ≤ a) (h1 : b ≤ l.length) {o : List Int} (h : orderS v (b - a) = some o) : orderG l a o = some (putO l a.toNat o) ∧ a.toNat + o.length ≤ l.length := by
 obtain ⟨k1, k2, k3⟩ := order_ok h
 unfold orderG
 rw [if_pos ⟨h0, by omega, by omega, k1⟩]
 exact ⟨rfl, by omega⟩
theorem doR_ok {n : Int} {s : List Gl × Int × Int} (h : RearOk n s) {i : Int} (hi : 0 ≤ i) (e : En) : RearOk n (doR s i e) ∧ (doR s i e).1.Perm s.1 := by
 obtain ⟨h1, h2, h3, h4, h5⟩ := h
 have ha : 0 ≤ (if e.flags ≥ 32768 then min i (s.1.length : Int) else s.2.1) ∧ (if e.flags ≥ 32768 then min i (s.1.length : Int) else s.2.1) ≤ n := by split <;> omega
 have hb : 0 ≤ (if e.flags / 8192 % 2 = 1 then min (i + 1) (s.1.length : Int) else s.2.2) ∧ (if e.flags / 8192 % 2 = 1 then min (i + 1) (s.1.length : Int) else s.2.2) ≤ n := by split <;> omega
 unfold doR RearOk
 dsimp only
 generalize (if e.flags ≥ 32768 then min i (s.1.length : Int) else s.2.1) = a at ha ⊢
 generalize (if e.flags / 8192 % 2 = 1 then min (i + 1) (s.1.length : Int) else s.2.2) = b at hb ⊢
 cases ho : orderS (e.flags % 16) (b - a) with
 | none => exact ⟨⟨h1, ha.1, ha.2, hb.1, hb.2⟩, List.Perm.refl _⟩
 | some o =>
  obtain ⟨k1, k2⟩ := ζl9 (l := s.1) ha.1 (by omega) ho
  have p := ζmr k2 (by
   have := ζhf ho
   have hl := (order_ok ho).2.1
   rw [hl]
   exact this)
  dsimp only
  rw [k1, Option.getD_some]
  exact ⟨⟨by rw [p.length_eq]; exact h1, ha.1, ha.2, hb.1, hb.2⟩, p⟩
def runRr (m : Mach) (l : List Gl) : Int × Int × (List Gl × Int × Int) :=
 runD m (fun s : List Gl × Int × Int => s.1) (fun s i e => (doR s i e, i, i + 1)) (2 * (l.length : Int) + 128) (2 * l.length + 128) ((l, 0, 0), ⟨0, 0, 0, 0⟩)
def runR (m : Mach) (l : List Gl) : List Gl × Int := ((runRr m l).2.2.1, (runRr m l).2.1)
theorem ζja {m : Mach} (hm : m.ok) (l : List Gl) : (runR m l).1.Perm l := by
 unfold runR runRr
 have := runD_inv m hm (fun s : List Gl × Int × Int => s.1) (fun s i e => (doR s i e, i, i + 1)) (fun s => RearOk (l.length : Int) s ∧ s.1.Perm l) (fun s i e hs hi _ => by
  obtain ⟨k1, k2⟩ := doR_ok hs.1 hi e
  exact ⟨k1, k2.trans hs.2⟩) (2 * (l.length : Int) + 128) (2 * l.length + 128) ((l, 0, 0), ⟨0, 0, 0, 0⟩) ⟨⟨rfl, by dsimp only; omega⟩, List.Perm.refl _⟩ (Int.le_refl _) (Int.le_refl _) (by have := hm.two; dsimp only; omega)
 dsimp only at this ⊢
 exact this.2
theorem perm_new {ids : List Int} {l : List Gl} (h : l.Perm (newG ids)) : l.length = ids.length ∧ (∀ g, g ∈ l → 0 ≤ g.cl ∧ g.cl < ids.length ∧ ids[g.cl.toNat]? = some g.id) ∧ (l.map Gl.cl).Nodup := by
 refine ⟨by rw [h.length_eq, newG_len], fun g hg => ?_, ?_⟩
 ·have hg := h.mem_iff.1 hg
  obtain ⟨i, hi⟩ := List.getElem?_of_mem hg
  unfold newG at hi
  rw [List.getElem?_map] at hi
  obtain ⟨x, hx, rfl⟩ := Option.map_eq_some_iff.1 hi
  rw [List.getElem?_zipIdx] at hx
  obtain ⟨y, hy, rfl⟩ := Option.map_eq_some_iff.1 hx
  have := (List.getElem?_eq_some_iff.1 hy).1
  simp
  exact ⟨this, hy⟩
 ·refine (h.map Gl.cl).nodup_iff.2 ?_
  have : (newG ids).map Gl.cl = (List.range ids.length).map fun (i : Nat) => (i : Int) := by
   apply List.ext_getElem?
   intro i
   unfold newG
   rw [List.getElem?_map, List.getElem?_map, List.getElem?_map, List.getElem?_zipIdx]
   by_cases hi : i < ids.length
   ·rw [List.getElem?_range hi, List.getElem?_eq_getElem hi]
    simp
   ·rw [List.getElem?_eq_none (by omega), List.getElem?_eq_none (by simp; omega)]
    rfl
  rw [this]
  refine List.Pairwise.map _ ?_ (List.nodup_range (n := ids.length))
  intro a b hab h
  have h : (a : Int) = b := h
  omega
end Go.Sw
end
section
namespace Go.Sw
open Go.RowKit
theorem and_pow (n k : Nat) : n &&& 2 ^ k = if n.testBit k then 2 ^ k else 0 := by
 apply Nat.eq_of_testBit_eq
 intro i
 rw [Nat.testBit_and, Nat.testBit_two_pow]
 by_cases h : k = i
 ·subst h
  cases hb : n.testBit k
  ·simp
  ·simp
 ·cases hb : n.testBit k
  ·simp [h]
  ·simp only [h, decide_false, Bool.and_false, if_true, Nat.testBit_two_pow]
theorem bin_andP (P : Program) (t : TypeId) (H : Heap) (k : Nat) (hk : k < 62) {a : Int} (h0 : 0 ≤ a) (h1 : a < 2 ^ 62) (m : Int) (hm : m = ((2 ^ k : Nat) : Int)) :
  binR P .and t (.int .i64 a) (.int .i64 m) H = .ok (.int .i64 (if a / m % 2 = 1 then m else 0)) H := by
 obtain ⟨n, rfl⟩ := Int.eq_ofNat_of_zero_le h0
 have hp : 2 ^ k ≤ 2 ^ 61 := Nat.pow_le_pow_right (by decide) (by omega)
 have hp0 : 0 < 2 ^ k := Nat.two_pow_pos k
 have e : (BitVec.ofInt 64 (n : Int) &&& BitVec.ofInt 64 m).toNat = if n.testBit k then 2 ^ k else 0 := by
  rw [BitVec.toNat_and, BitVec.toNat_ofInt, BitVec.toNat_ofInt, hm]
  rw [show (((n : Int)) % ((2 ^ 64 : Nat) : Int)).toNat = n by omega, show ((((2 ^ k : Nat) : Int)) % ((2 ^ 64 : Nat) : Int)).toNat = 2 ^ k by omega, and_pow]
 have e1 : binV P .and t (.int .i64 (n : Int)) (.int .i64 m) = some (.int .i64 (IntKind.i64.wrap (BitVec.ofInt 64 (n : Int) &&& BitVec.ofInt 64 m).toNat)) := rfl
 unfold binR
 rw [e1, e, Nat.testBit_eq_decide_div_mod_eq]
 have hd : (n : Int) / m = ((n / 2 ^ k : Nat) : Int) := by rw [hm, Int.natCast_ediv]
 rw [hd]
 by_cases h : n / 2 ^ k % 2 = 1
 ·rw [decide_eq_true h, if_pos rfl, if_pos (by omega), wrap_i64 (by omega) (by omega), hm]; rfl
 ·rw [decide_eq_false h, if_neg (by simp), if_neg (by omega)]; rfl
theorem and13 (P : Program) (t : TypeId) (H : Heap) {a : Int} (h0 : 0 ≤ a) (h1 : a < 65536) : binR P .and t (.int .i64 a) (.int .i64 8192) H = .ok (.int .i64 (if a / 8192 % 2 = 1 then 8192 else 0)) H := bin_andP P t H 13 (by decide) h0 (by omega) 8192 rfl
theorem bin_andL (P : Program) (t : TypeId) (H : Heap) (k : Nat) (hk : k < 62) {a : Int} (h0 : 0 ≤ a) (h1 : a < 2 ^ 62) (m : Int) (hm : m = ((2 ^ k : Nat) : Int) - 1) : binR P .and t (.int .i64 a) (.int .i64 m) H = .ok (.int .i64 (a % ((2 ^ k : Nat) : Int))) H := by
 obtain ⟨n, rfl⟩ := Int.eq_ofNat_of_zero_le h0
 have hp : 2 ^ k ≤ 2 ^ 61 := Nat.pow_le_pow_right (by decide) (by omega)
 have hp0 : 0 < 2 ^ k := Nat.two_pow_pos k
 have e : (BitVec.ofInt 64 (n : Int) &&& BitVec.ofInt 64 m).toNat = n % 2 ^ k := by
  rw [BitVec.toNat_and, BitVec.toNat_ofInt, BitVec.toNat_ofInt, hm]
  rw [show (((n : Int)) % ((2 ^ 64 : Nat) : Int)).toNat = n by omega, show ((((2 ^ k : Nat) : Int) - 1) % ((2 ^ 64 : Nat) : Int)).toNat = 2 ^ k - 1 by omega, Nat.and_two_pow_sub_one_eq_mod]
 have e1 : binV P .and t (.int .i64 (n : Int)) (.int .i64 m) = some (.int .i64 (IntKind.i64.wrap (BitVec.ofInt 64 (n : Int) &&& BitVec.ofInt 64 m).toNat)) := rfl
 have hlt : n % 2 ^ k < 2 ^ k := Nat.mod_lt _ hp0
 unfold binR
 rw [e1, e, wrap_i64 (by omega) (by omega), Int.natCast_emod]
 rfl
theorem and4 (P : Program) (t : TypeId) (H : Heap) {a : Int} (h0 : 0 ≤ a) (h1 : a < 65536) : binR P .and t (.int .i64 a) (.int .i64 15) H = .ok (.int .i64 (a % 16)) H := bin_andL P t H 4 (by decide) h0 (by omega) 15 rfl
end Go.Sw
end
section
set_option maxRecDepth 100000
set_option linter.unusedVariables false
namespace Go.Sw
noncomputable section
end
end Go.Sw
end
section
namespace Go.Sw
open Go.RowKit
theorem veq_Pt (l : List Pt) : veq (lv encPt l) (lv encPt l) = true := veq_lv fun p _ v hv => by
 simp [encPt] at hv
 rcases hv with rfl | rfl | rfl <;> simp
theorem veq_tab (x : Int × List Pt) : veq (boxV #[.int .i64 x.1, lv encPt x.2]) (boxV #[.int .i64 x.1, lv encPt x.2]) = true := veq_boxV (l := [.int .i64 x.1, lv encPt x.2]) fun v hv => by
 simp at hv
 rcases hv with rfl | rfl
 ·simp
 ·exact veq_Pt _
end Go.Sw
end
section
set_option maxRecDepth 100000
set_option linter.unusedVariables false
namespace Go.Sw
noncomputable section
end
end Go.Sw
end
section
namespace Go.Sw
open Go.RowKit
structure CTab where
 m : Mach
 subs : List (Int × List Pt)
end Go.Sw
end
section
namespace Go.Sw
open Go.RowKit
end Go.Sw
end
section
namespace Go.Sw
open Go.RowKit
end Go.Sw
end
section
namespace Go.Sw
open Go.RowKit Go.Proofs
set_option maxRecDepth 20000 in
theorem ζjo (p : Addr) (b : Bool) (w : World) (hc : (w.alloc (.cells #[] 233)).cell? p = some (.bool b)) (hz : (w.alloc (.cells #[] 233)).frozen? p = false) :
  CallsD Prog 160 #[.pointer (some p)] (.panicking [{ v := .iface 233 (.agg #[]), recovered := false }]) w fun e u' w' =>
   e = .returned (.tuple #[]) ∧ u' = .panicking [{ v := .iface 233 (.agg #[]), recovered := true }] ∧ w' = (w.alloc (.cells #[] 233)).setCell p (.bool false) := by
 refine callsD_of_wpS Try.func160 rfl fun c₀ cs hu => ?_
 apply wpS_seq
 apply wpS_region
 simp [wpOpsS, go_sem, recoverD, hu, Try.ntmps160, Exit.thenS]
 have hta : ∀ w, (Instr.typeAssert (.iface 233 (.agg #[])) 20 233 true).run Prog w = .ok (.tuple #[.agg #[], .bool true]) w := fun w => by kernel_rfl
 refine wpS_of_wp ?_
 go_wp2
 cases c₀
 simp_all [bodyPostS, results, Try.results160]
theorem ζki (p : Addr) (w : World) :
  CallsD Prog 160 #[.pointer (some p)] .returning w fun e u' w' => e = .returned (.tuple #[]) ∧ u' = .returning ∧ w' = w := by
 refine callsD_of_wpS Try.func160 rfl fun c₀ cs hu => ?_
 apply wpS_seq
 apply wpS_region
 simp [wpOpsS, go_sem, recoverD, hu, Try.ntmps160, Exit.thenS]
 refine wpS_of_wp ?_
 go_wp2
 cases c₀
 simp_all [bodyPostS, results, Try.results160]
set_option maxRecDepth 20000 in
theorem try_walk (g : FuncId) (first cap : Array Value) (w : World) (R : Ending → World → Prop)
  (hcf : (callFunc g (first ++ cap)).run Prog (w.alloc (.cells #[.bool false] 4)) = .ok (.enter g (first ++ cap)) (w.alloc (.cells #[.bool false] 4)))
  (hcall : Calls Prog g (first ++ cap) (w.alloc (.cells #[.bool false] 4)) fun e w' => match e with
   | .returned _ => w'.heap[w.heap.size]? = some (.cells #[.bool false] 4 (0, 0)) ∧ R (.returned (.bool true)) (w'.setCell ⟨w.heap.size, 0, none⟩ (.bool true))
   | .panicked chain => chain = [{ v := .iface 233 (.agg #[]), recovered := false }] ∧ w'.heap[w.heap.size]? = some (.cells #[.bool false] 4 (0, 0)) ∧ R (.returned (.bool false)) ((w'.alloc (.cells #[] 233)).setCell ⟨w.heap.size, 0, none⟩ (.bool false))
   | .outgrown => False) :
  Calls Prog 77 #[.func (.func g) first cap] w R := by
 have hmf : ∀ (fn : Fn) (first cap : Array Value) (w : World), (Instr.makeFunc fn first cap).run Prog w = .ok (.func fn first cap) w := fun _ _ _ _ => rfl
 go_enter_defers Try.func77, Try.ntmps77
 go_wp2
 rename_i K2 hK2 K1 hK1
 refine hcall.mono fun e w' he => ?_
 cases e with
 | returned v =>
  obtain ⟨h1, h2⟩ := he
  have hc : w'.cell? ⟨w.heap.size, 0, none⟩ = some (.bool false) := by simp [World.cell?, h1]
  have hz : w'.frozen? ⟨w.heap.size, 0, none⟩ = false := by simp [World.frozen?, h1]
  apply hK1
  apply hK2
  go_wp2
  have hc2 : (w'.setCell ⟨w.heap.size, 0, none⟩ (.bool true)).cell? ⟨w.heap.size, 0, none⟩ = some (.bool true) := World.cell?_setCell_same _ _ _ hc
  refine leaves_cons (f := 160) (args := #[.pointer (some ⟨w.heap.size, 0, none⟩)]) (by simp) (by simp [go_sem]) ?_
  refine (ζki ⟨w.heap.size, 0, none⟩ _).mono ?_
  rintro e u' w'' ⟨rfl, rfl, rfl⟩
  simp [Leaves, settle, results, Try.results77, go_sem, hc2]
  exact h2
 | panicked chain =>
  obtain ⟨h0, h1, h2⟩ := he
  subst h0
  have hlt : w.heap.size < w'.heap.size := by
   rcases Nat.lt_or_ge w.heap.size w'.heap.size with h | h
   ·exact h
   ·rw [Array.getElem?_eq_none h] at h1; cases h1
  have h3 : (w'.alloc (.cells #[] 233)).heap[w.heap.size]? = some (.cells #[.bool false] 4 (0, 0)) := by
   rw [ζ24 _ _ _ hlt]; exact h1
  have hc : (w'.alloc (.cells #[] 233)).cell? ⟨w.heap.size, 0, none⟩ = some (.bool false) := by simp only [World.cell?, h3]; rfl
  have hz : (w'.alloc (.cells #[] 233)).frozen? ⟨w.heap.size, 0, none⟩ = false := by simp [World.frozen?, h3]
  have hc2 : ((w'.alloc (.cells #[] 233)).setCell ⟨w.heap.size, 0, none⟩ (.bool false)).cell? ⟨w.heap.size, 0, none⟩ = some (.bool false) := World.cell?_setCell_same _ _ _ hc
  show Leaves _ _ _ _ _ _ _
  refine leaves_cons (f := 160) (args := #[.pointer (some ⟨w.heap.size, 0, none⟩)]) (by simp) (by simp [go_sem]) ?_
  refine (ζjo ⟨w.heap.size, 0, none⟩ false _ hc hz).mono ?_
  rintro e u' w'' ⟨rfl, rfl, rfl⟩
  simp [Leaves, settle, results, Try.results77, go_sem, hc2]
  exact h2
 | outgrown => exact he.elim
theorem try_is : SpIs Prog 77 (tryV 233) := try_of (bt := 4) Try.func77 rfl (by kernel_rfl) try_walk
end Go.Sw
end
section
namespace Go.Sw
open Go.RowKit
structure CTab.ok (t : CTab) : Prop where
 m : t.m.ok
 subs : ∀ x, x ∈ t.subs → (∀ p, p ∈ x.2 → p.ok) ∧ risesS x.2 = true ∧ x.2.length < 2 ^ 31
 has : ∀ e, e ∈ t.m.ents → (e.a = 65535 ∨ e.a < t.subs.length) ∧ (e.b = 65535 ∨ e.b < t.subs.length)
end Go.Sw
end
section
namespace Go.Sw
open Go.RowKit
theorem ζly (n : Nat) : n &&& 2 ^ 15 = if n.testBit 15 then 2 ^ 15 else 0 := by
 apply Nat.eq_of_testBit_eq
 intro i
 rw [Nat.testBit_and, Nat.testBit_two_pow]
 by_cases h : 15 = i
 ·subst h
  cases hb : n.testBit 15 <;> simp <;> decide
 ·cases hb : n.testBit 15
  ·simp [h]
  ·simp only [h, decide_false, Bool.and_false, if_true, Nat.testBit_two_pow]
theorem and15 (P : Program) (t : TypeId) (H : Heap) {a : Int} (h0 : 0 ≤ a) (h1 : a < 65536) : binR P .and t (.int .i64 a) (.int .i64 32768) H = .ok (.int .i64 (if a ≥ 32768 then 32768 else 0)) H := by
 have e : (BitVec.ofInt 64 a &&& BitVec.ofInt 64 32768).toNat = (if a ≥ 32768 then 32768 else 0) := by
  rw [BitVec.toNat_and, BitVec.toNat_ofInt, BitVec.toNat_ofInt]
  rw [show ((32768 : Int) % ((2 ^ 64 : Nat) : Int)).toNat = 2 ^ 15 from by decide, ζly, Nat.testBit_eq_decide_div_mod_eq]
  obtain ⟨n, rfl⟩ := Int.eq_ofNat_of_zero_le h0
  rw [show (((n : Int)) % ((2 ^ 64 : Nat) : Int)).toNat = n by omega]
  by_cases h : (n : Int) ≥ 32768
  ·rw [if_pos h, decide_eq_true (show n / 2 ^ 15 % 2 = 1 by omega)]; rfl
  ·rw [if_neg h, decide_eq_false (show ¬ n / 2 ^ 15 % 2 = 1 by omega)]; rfl
 have e1 : binV P .and t (.int .i64 a) (.int .i64 32768) = some (.int .i64 (IntKind.i64.wrap (BitVec.ofInt 64 a &&& BitVec.ofInt 64 32768).toNat)) := rfl
 unfold binR
 rw [e1, e]
 by_cases h : a ≥ 32768
 ·simp [h]
 ·simp [h]
end Go.Sw
end
section
namespace Go.Sw
open Go.RowKit
theorem plainNew (k : Nat) (f : Fn) (a b : Array Value) (H : Heap) : R (T k) F.ζ4w [.func f a b] H = .ok (.func (.func F.ζ1e) #[] #[ptrV H.n]) (H.push ⟨[.func f a b], 1, false⟩) := by
 rw [ζgy]
 have e : ζ4w k (R (T k)) (.func f a b) H = .ok (.func (.func F.ζ1e) #[] #[ptrV H.n]) (H.push ⟨[.func f a b], 1, false⟩) := by
  simp -implicitDefEqProofs [ζ4w]
 rw [e]
 have dead : ¬ Alive H (.func (.func F.ζ1e) #[] #[ptrV H.n]) := fun h => by
  cases h with
  | func fn xs ys h1 h2 =>
   have := h2 0 (ptrV H.n) rfl
   cases this with
   | ptr b off k hg => have := Heap.get_lt hg; omega
 unfold nrm
 exact if_neg fun hc => dead hc.2
end Go.Sw
end
section
namespace Go.Sw
open Go.RowKit
theorem veq_Ens (l : List En) : veq (lv encEn l) (lv encEn l) = true := veq_lv fun p _ v hv => by
 simp [encEn] at hv
 rcases hv with rfl | rfl | rfl | rfl <;> simp
theorem veq_Is (l : List Int) : veq (lv encI l) (lv encI l) = true := veq_lv fun p _ v hv => by
 simp [encI] at hv
 subst hv; simp
theorem veq_Rows (l : List (List Int)) : veq (lv encRow l) (lv encRow l) = true := veq_lv fun p _ v hv => by
 simp [encRow] at hv
 subst hv; exact veq_Is p
theorem veq_mach (m : Mach) : veq (machV m) (machV m) = true := veq_boxV (l := [.int .i64 m.classes, tabV m.tab, lv encRow m.rows, lv encEn m.ents]) fun v hv => by
 simp at hv
 rcases hv with rfl | rfl | rfl | rfl
 ·simp
 ·exact veq_tab _
 ·exact veq_Rows _
 ·exact veq_Ens _
end Go.Sw
end
section
set_option maxRecDepth 100000
set_option linter.unusedVariables false
namespace Go.Sw
noncomputable section
def ζ7h (k : Nat) (call : Caller) (a0 a1 : Value) (h : Heap) : Res Value :=
 (call F.ζ39 [a0, a1, (.int .i64 0)] h).bind fun v1 h2 =>
 (extractR v1 0 h2).bind fun v3 h4 =>
 (extractR v1 1 h4).bind fun v5 h6 =>
 (binR Prog .neq 69 v5 (.int .i64 0) h6).bind fun v7 h8 =>
 condV (some v7) (
 .ok (.tuple #[(.pointer none), v5]) h8)
 (
 (buildR Prog 294 [(0, v3)] h8).bind fun v9 h10 =>
 (boxR v9 h10).bind fun v11 h12 =>
 .ok (.tuple #[v11, (.int .i64 0)]) h12)
theorem ζk1 (k : Nat) (a0 a1 : Value) (h : Heap) : R (T k) F.ζ7h [a0, a1] h = nrm .fz h (ζ7h k (R (T k)) a0 a1 h) :=
 (R_body (t := T k) (T_scott k) (by kernel_rfl) (by kernel_rfl) _ _).trans (by kernel_rfl)
def ζ2l (k : Nat) (call : Caller) (a0 a1 : Value) (h : Heap) : Res Value :=
 (boxR a1 h).bind fun v1 h2 =>
 (allocR Prog 3 h2).bind fun v3 h4 =>
 (allocR Prog 3 h4).bind fun v5 h6 =>
 (storeR Prog 3 v3 (.int .i64 0) h6).bind fun _v7 h8 =>
 (storeR Prog 3 v5 (.int .i64 0) h8).bind fun _v9 h10 =>
 (nilR a0 h10).bindN fun v11 h12 =>
 (fieldAddrR Prog 294 v11 0 h12).bindN fun v13 h14 =>
 (loadR Prog 133 v13 h14).bindN fun v15 h16 =>
 (loadR Prog 51 v1 h16).bindN fun v17 h18 =>
 (call F.ζ4w [(.func (.func F.ζ8) #[] #[v1, v3, v5])] h18).bindT (fun p21 h22 => .panic p21 h22) fun v19 h20 =>
 (call F.ζ43 [v15, v17, v19] h20).bindT (fun p25 h26 => chkR ((okVal (loadR Prog 133 v13 h20) v15 && true) && ((okVal (loadR Prog 51 v1 h20) v17 && true) && true)) (.panic p25 h26)) fun v23 h24 =>
 (extractR v23 0 h24).bindN fun v27 h28 =>
 (extractR v23 1 h28).bindN fun v29 h30 =>
 chkR ((okVal (loadR Prog 133 v13 h20) v15 && true) && ((okVal (loadR Prog 51 v1 h20) v17 && true) && true)) (
 .ok v29 h30)
theorem ζem (k : Nat) (a0 a1 : Value) (h : Heap) : R (T k) F.ζ2l [a0, a1] h = nrm .no h (ζ2l k (R (T k)) a0 a1 h) :=
 (R_body (t := T k) (T_scott k) (by kernel_rfl) (by kernel_rfl) _ _).trans (by kernel_rfl)
def ζ67 (k : Nat) (call : Caller) (a0 a2 a3 a4 a6 : Value) (h : Heap) : Res Value :=
 kSeq (pieceK (C k) call F.ζ8 [1, 1]) (kDone Prog (resOf Prog F.ζ8)) .normal [(0, a0), (2, a2), (3, a3), (4, a4), (6, a6)] h
def ζ68 (k : Nat) (call : Caller) (a0 a2 a3 a4 a6 a12 : Value) (h : Heap) : Res Value :=
 kSeq (pieceK (C k) call F.ζ8 [1, 1]) (kDone Prog (resOf Prog F.ζ8)) .normal [(0, a0), (2, a2), (3, a3), (4, a4), (6, a6), (12, a12)] h
def ζ1q (k : Nat) (call : Caller) (a2 a3 a4 a6 : Value) (h : Heap) : Res Value :=
 kSeq (pieceK (C k) call F.ζ8 [1, 1, 1]) (kDone Prog (resOf Prog F.ζ8)) .normal [(2, a2), (3, a3), (4, a4), (6, a6)] h
def ζ1r (k : Nat) (call : Caller) (a0 a2 a3 a4 a6 a20 : Value) (h : Heap) : Res Value :=
 kSeq (pieceK (C k) call F.ζ8 [1, 1, 1]) (kDone Prog (resOf Prog F.ζ8)) .normal [(0, a0), (2, a2), (3, a3), (4, a4), (6, a6), (20, a20)] h
def ζ8 (k : Nat) (call : Caller) (a0 a1 a2 a3 a4 : Value) (h : Heap) : Res Value :=
 (boxR a1 h).bind fun v1 h2 =>
 (fieldAddrR Prog 150 v1 1 h2).bind fun v3 h4 =>
 (loadR Prog 3 v3 h4).bind fun v5 h6 =>
 (binR Prog .and 3 v5 (.int .i64 32768) h6).bind fun v7 h8 =>
 (binR Prog .neq 3 v7 (.int .i64 0) h8).bind fun v9 h10 =>
 condV (some v9) (
 (loadR Prog 51 a2 h10).bind fun v11 h12 =>
 (call F.ζ1v [v11] h12).bind fun v13 h14 =>
 (builtinV Prog .min [3, 3] [a0, v13] h14).bind fun v15 h16 =>
 (storeR Prog 3 a3 v15 h16).bind fun _v17 h18 =>
 ζ67 k call a0 a2 a3 a4 v1 h18)
 (
 ζ68 k call a0 a2 a3 a4 v1 v9 h10)
theorem ζ2m (k : Nat) (a0 a1 a2 a3 a4 : Value) (h : Heap) : R (T k) F.ζ8 [a0, a1, a2, a3, a4] h = nrm .no h (ζ8 k (R (T k)) a0 a1 a2 a3 a4 h) :=
 (R_body (t := T k) (T_scott k) (by kernel_rfl) (by kernel_rfl) _ _).trans (by kernel_rfl)
theorem ζ48 (k : Nat) (call : Caller) (a0 a2 a3 a4 a6 : Value) (h : Heap) : ζ67 k call a0 a2 a3 a4 a6 h =
 (fieldAddrR Prog 150 a6 1 h).bind fun v19 h20 =>
 (loadR Prog 3 v19 h20).bind fun v21 h22 =>
 (binR Prog .and 3 v21 (.int .i64 8192) h22).bind fun v23 h24 =>
 (binR Prog .neq 3 v23 (.int .i64 0) h24).bind fun v25 h26 =>
 condV (some v25) (
 (binR Prog .add 3 a0 (.int .i64 1) h26).bind fun v27 h28 =>
 (loadR Prog 51 a2 h28).bind fun v29 h30 =>
 (call F.ζ1v [v29] h30).bind fun v31 h32 =>
 (builtinV Prog .min [3, 3] [v27, v31] h32).bind fun v33 h34 =>
 (storeR Prog 3 a4 v33 h34).bind fun _v35 h36 =>
 ζ1q k call a2 a3 a4 a6 h36)
 (
 ζ1r k call a0 a2 a3 a4 a6 v25 h26) := by kernel_rfl
theorem ζ49 (k : Nat) (call : Caller) (a0 a2 a3 a4 a6 a12 : Value) (h : Heap) : ζ68 k call a0 a2 a3 a4 a6 a12 h =
 (fieldAddrR Prog 150 a6 1 h).bind fun v37 h38 =>
 (loadR Prog 3 v37 h38).bind fun v39 h40 =>
 (binR Prog .and 3 v39 (.int .i64 8192) h40).bind fun v41 h42 =>
 (binR Prog .neq 3 v41 (.int .i64 0) h42).bind fun v43 h44 =>
 condV (some v43) (
 (binR Prog .add 3 a0 (.int .i64 1) h44).bind fun v45 h46 =>
 (loadR Prog 51 a2 h46).bind fun v47 h48 =>
 (call F.ζ1v [v47] h48).bind fun v49 h50 =>
 (builtinV Prog .min [3, 3] [v45, v49] h50).bind fun v51 h52 =>
 (storeR Prog 3 a4 v51 h52).bind fun _v53 h54 =>
 ζ1q k call a2 a3 a4 a6 h54)
 (
 ζ1r k call a0 a2 a3 a4 a6 v43 h44) := by kernel_rfl
theorem ζ4a (k : Nat) (call : Caller) (a2 a3 a4 a6 : Value) (h : Heap) : ζ1q k call a2 a3 a4 a6 h =
 (fieldAddrR Prog 150 a6 1 h).bind fun v55 h56 =>
 (loadR Prog 3 v55 h56).bind fun v57 h58 =>
 (binR Prog .and 3 v57 (.int .i64 15) h58).bind fun v59 h60 =>
 (loadR Prog 3 a4 h60).bind fun v61 h62 =>
 (loadR Prog 3 a3 h62).bind fun v63 h64 =>
 (binR Prog .sub 3 v61 v63 h64).bind fun v65 h66 =>
 (call F.ζ3n [v59, v65] h66).bind fun v67 h68 =>
 (extractR v67 0 h68).bind fun v69 h70 =>
 (extractR v67 1 h70).bind fun v71 h72 =>
 condV (some v71) (
 (loadR Prog 51 a2 h72).bind fun v73 h74 =>
 (loadR Prog 3 a3 h74).bind fun v75 h76 =>
 (call F.ζi [v73, v75, v69] h76).bind fun v77 h78 =>
 .ok (.tuple #[]) h78)
 (
 .ok (.tuple #[]) h72) := by kernel_rfl
theorem ζ4b (k : Nat) (call : Caller) (a0 a2 a3 a4 a6 a20 : Value) (h : Heap) : ζ1r k call a0 a2 a3 a4 a6 a20 h =
 (fieldAddrR Prog 150 a6 1 h).bind fun v79 h80 =>
 (loadR Prog 3 v79 h80).bind fun v81 h82 =>
 (binR Prog .and 3 v81 (.int .i64 15) h82).bind fun v83 h84 =>
 (loadR Prog 3 a4 h84).bind fun v85 h86 =>
 (loadR Prog 3 a3 h86).bind fun v87 h88 =>
 (binR Prog .sub 3 v85 v87 h88).bind fun v89 h90 =>
 (call F.ζ3n [v83, v89] h90).bind fun v91 h92 =>
 (extractR v91 0 h92).bind fun v93 h94 =>
 (extractR v91 1 h94).bind fun v95 h96 =>
 condV (some v95) (
 (loadR Prog 51 a2 h96).bind fun v97 h98 =>
 (loadR Prog 3 a3 h98).bind fun v99 h100 =>
 (call F.ζi [v97, v99, v93] h100).bind fun v101 h102 =>
 .ok (.tuple #[]) h102)
 (
 .ok (.tuple #[]) h96) := by kernel_rfl
end
end Go.Sw
end
section
namespace Go.Sw
open Go.RowKit
abbrev rearV (m : Mach) : Value := boxV #[machV m]
def rearP (o : Option Mach) : Value := match o with | some m => rearV m | none => .pointer none
theorem ζlc (o : Option Mach) : Flat (rearP o) := by
 cases o with
 | none => exact .nilPtr
 | some m => exact .boxV (l := [machV m]) (.cons (Flat.mach m) .nil)
theorem ζek (k : Nat) (b : List Int) (hb : Byt b) (g : Int) (hg : 1 ≤ g ∧ g ≤ 65535) (hl : b.length < 2 ^ 31) (H : Heap) :
  R (T k) F.ζ7h [lv encB b, .int .i64 g] H = .ok (.tuple #[rearP (machS b g 0), .int .i64 (if (machS b g 0).isSome then 0 else 2)]) H := by
 rw [ζk1]
 have hrd := fun H' => ζhv k (H := H') (Sl.lv H' 1 b) hb g 0 hl
 have hbad : badM g 0 = false := by unfold badM; simp; omega
 unfold machO machN at hrd
 rw [hbad] at hrd
 have al : ∀ o n, Alive H (.tuple #[rearP o, .int .i64 n]) := fun o n => (Flat.tupleL (l := [rearP o, .int .i64 n]) (.cons (ζlc o) (.cons (.int _ _) .nil))).alive
 cases h : machS b g 0 with
 | none =>
  rw [h] at hrd
  simp [machP] at hrd
  refine nrm_fz (v := .tuple #[.pointer none, .int .i64 2]) (L := []) (H' := H) ?_ rfl (Ext.refl _) (al none 2)
  simp -implicitDefEqProofs (disch := omega) [ζ7h, hrd]
 | some m =>
  rw [h] at hrd
  simp [machP] at hrd
  have hx : Ext H (H.push ⟨[machV m], 1, false⟩) := (Ext.refl H).push _
  have hft : fzV H.n (H.push ⟨[machV m], 1, false⟩) fzDepth (.tuple #[ptrV H.n, .int .i64 0]) = some (.tuple #[rearV m, .int .i64 0], [H.n]) := by
   have hp : fzV H.n (H.push ⟨[machV m], 1, false⟩) 7 (ptrV H.n) = some (rearV m, [H.n]) := by
    unfold ptrV fzV
    dsimp only
    rw [show Nat.blt H.n H.n = false from by
     cases hb : Nat.blt H.n H.n with
     | false => rfl
     | true => exact absurd (Nat.le_of_ble_eq_true hb) (by omega), ζc _ _ _ rfl]
    rfl
   exact fz_tuple (l := [ptrV H.n, .int .i64 0]) (r := [rearV m, .int .i64 0]) (ζ1a (L1 := [H.n]) hp (mapF_one (L := []) rfl))
  refine nrm_fz (v := .tuple #[ptrV H.n, .int .i64 0]) (H' := H.push ⟨[machV m], 1, false⟩) ?_ hft hx (al (some m) 0)
  simp -implicitDefEqProofs (disch := omega) [ζ7h, hrd]
def rearW (L : List It) (i c : Nat) (o : Option Nat) (p1 p3 p4 : Nat) (s : List Gl × Int × Int) : List It :=
 L.set i (itLine c o s.1) ++ [itBlk p1 ⟨[ptrV c], 1, false⟩, itBlk p3 ⟨[.int .i64 s.2.1], 1, false⟩, itBlk p4 ⟨[.int .i64 s.2.2], 1, false⟩]
theorem ζmt (k : Nat) {H0 H : Heap} {L : List It} {i c : Nat} {o : Option Nat} (hi : i < L.length) {p1 p3 p4 q : Nat} {l : List Gl} {A B : Int} {e : En} {X : List It} (hf : 0 ≤ e.flags ∧ e.flags < 65536) (hA : 0 ≤ A ∧ A ≤ l.length) (hB : 0 ≤ B ∧ B ≤ l.length) (hl : l.length < 2 ^ 25)
  (st : Star H0 H (L.set i (itLine c o l) ++ ([itBlk p1 ⟨[ptrV c], 1, false⟩, itBlk p3 ⟨[.int .i64 A], 1, false⟩, itBlk p4 ⟨[.int .i64 B], 1, false⟩] ++ (X ++ [itBlk q ⟨encEn e, 1, false⟩])))) :
  ∃ H', ζ1q k (R (T k)) (ptrV p1) (ptrV p3) (ptrV p4) (ptrV q) H = .ok (.tuple #[]) H' ∧ (∀ a0 a20, ζ1r k (R (T k)) a0 (ptrV p1) (ptrV p3) (ptrV p4) (ptrV q) a20 H = .ok (.tuple #[]) H') ∧
   Star H0 H' (L.set i (itLine c o (match orderS (e.flags % 16) (B - A) with | some r => (orderG l A r).getD l | none => l)) ++ ([itBlk p1 ⟨[ptrV c], 1, false⟩, itBlk p3 ⟨[.int .i64 A], 1, false⟩, itBlk p4 ⟨[.int .i64 B], 1, false⟩] ++ (X ++ [itBlk q ⟨encEn e, 1, false⟩]))) := by
 have g1 := st.memBlk (c := p1) (k := ⟨[ptrV c], 1, false⟩) (by simp)
 have g3 := st.memBlk (c := p3) (k := ⟨[.int .i64 A], 1, false⟩) (by simp)
 have g4 := st.memBlk (c := p4) (k := ⟨[.int .i64 B], 1, false⟩) (by simp)
 have ge := st.memBlk (c := q) (k := ⟨encEn e, 1, false⟩) (by simp)
 have han := fun H => and4 Prog 3 H hf.1 hf.2
 have hord := fun H => ζi2 k (e.flags % 16) (B - A) (by omega) (by omega) H
 cases ho : orderS (e.flags % 16) (B - A) with
 | none =>
  rw [ho] at hord
  simp only [Option.isSome_none, Option.getD_none] at hord
  refine ⟨H, ?_, fun a0 a20 => ?_, st⟩
  ·rw [ζ4a]
   simp -implicitDefEqProofs (disch := omega) [g1, g3, g4, ge, han, hord]
  ·rw [ζ4b]
   simp -implicitDefEqProofs (disch := omega) [g1, g3, g4, ge, han, hord]
 | some r =>
  rw [ho] at hord
  simp only [Option.isSome_some, Option.getD_some] at hord
  have hrl := (order_ok ho).2.1
  have hline : (L.set i (itLine c o l) ++ ([itBlk p1 ⟨[ptrV c], 1, false⟩, itBlk p3 ⟨[.int .i64 A], 1, false⟩, itBlk p4 ⟨[.int .i64 B], 1, false⟩] ++ (X ++ [itBlk q ⟨encEn e, 1, false⟩])))[i]? = some (itLine c o l) := by
   rw [List.getElem?_append_left (by simpa using hi), List.getElem?_set_self hi]
  obtain ⟨H', e1, st2⟩ := ζgj k st i hline (by omega) A r (by omega) (by omega)
  rw [List.set_append_left _ _ (by simpa using hi), List.set_set] at st2
  refine ⟨H', ?_, fun a0 a20 => ?_, st2⟩
  ·rw [ζ4a]
   simp -implicitDefEqProofs (disch := omega) [g1, g3, g4, ge, han, hord, e1]
  ·rw [ζ4b]
   simp -implicitDefEqProofs (disch := omega) [g1, g3, g4, ge, han, hord, e1]
set_option maxHeartbeats 1000000 in
theorem rear_do (k : Nat) (m : Mach) (hm : m.ok) (L : List It) (i c : Nat) (o : Option Nat) (hi : i < L.length) (p1 p3 p4 n : Nat) (hn : n < 2 ^ 25) {H0 : Heap} :
  DoOk k m H0 (rearW L i c o p1 p3 p4) (RearOk (n : Int)) (.func (.func F.ζ8) #[] #[ptrV p1, ptrV p3, ptrV p4]) doR := by
 intro s j e H X hI st h0 h1 he
 have hok := (doR_ok hI h0 e).1
 obtain ⟨l, a, b⟩ := s
 obtain ⟨k1, k2, k3, k4, k5⟩ := hI
 dsimp only at k1 k2 k3 k4 k5
 have heb := hm.ent e he
 unfold rearW at st
 dsimp only at st
 obtain ⟨S, hS⟩ : ∃ S : List Gl → Int → Int → List It, S = fun l' a' b' => L.set i (itLine c o l') ++ ([itBlk p1 ⟨[ptrV c], 1, false⟩, itBlk p3 ⟨[.int .i64 a'], 1, false⟩, itBlk p4 ⟨[.int .i64 b'], 1, false⟩] ++ (X ++ [itBlk H.n ⟨encEn e, 1, false⟩])) := ⟨_, rfl⟩
 have hSv : ∀ l' a' b', S l' a' b' = L.set i (itLine c o l') ++ ([itBlk p1 ⟨[ptrV c], 1, false⟩, itBlk p3 ⟨[.int .i64 a'], 1, false⟩, itBlk p4 ⟨[.int .i64 b'], 1, false⟩] ++ (X ++ [itBlk H.n ⟨encEn e, 1, false⟩])) := fun _ _ _ => by rw [hS]
 have hline : ∀ l' a' b', (S l' a' b')[i]? = some (itLine c o l') := fun l' a' b' => by
  rw [hSv, List.getElem?_append_left (by simpa using hi), List.getElem?_set_self hi]
 have storeA : ∀ {H' : Heap} {a' b' : Int} (v : Int), Star H0 H' (S l a' b') → ∃ H'', stR 1 (ptrV p3) (.int .i64 v) H' = .ok undef H'' ∧ Star H0 H'' (S l v b') := fun {H' a' b'} v h => by
  rw [hSv] at h
  rw [show L.set i (itLine c o l) ++ ([itBlk p1 ⟨[ptrV c], 1, false⟩, itBlk p3 ⟨[.int .i64 a'], 1, false⟩, itBlk p4 ⟨[.int .i64 b'], 1, false⟩] ++ (X ++ [itBlk H.n ⟨encEn e, 1, false⟩])) =
   (L.set i (itLine c o l) ++ [itBlk p1 ⟨[ptrV c], 1, false⟩]) ++ itBlk p3 ⟨[.int .i64 a'], 1, false⟩ :: (itBlk p4 ⟨[.int .i64 b'], 1, false⟩ :: (X ++ [itBlk H.n ⟨encEn e, 1, false⟩])) by simp] at h
  obtain ⟨H'', e1, h2⟩ := h.stEnd 0 (v := .int .i64 v) rfl rfl (by simp)
  refine ⟨H'', e1, ?_⟩
  rw [hSv]
  simpa using h2
 have storeB : ∀ {H' : Heap} {a' b' : Int} (v : Int), Star H0 H' (S l a' b') → ∃ H'', stR 1 (ptrV p4) (.int .i64 v) H' = .ok undef H'' ∧ Star H0 H'' (S l a' v) := fun {H' a' b'} v h => by
  rw [hSv] at h
  rw [show L.set i (itLine c o l) ++ ([itBlk p1 ⟨[ptrV c], 1, false⟩, itBlk p3 ⟨[.int .i64 a'], 1, false⟩, itBlk p4 ⟨[.int .i64 b'], 1, false⟩] ++ (X ++ [itBlk H.n ⟨encEn e, 1, false⟩])) =
   (L.set i (itLine c o l) ++ [itBlk p1 ⟨[ptrV c], 1, false⟩, itBlk p3 ⟨[.int .i64 a'], 1, false⟩]) ++ itBlk p4 ⟨[.int .i64 b'], 1, false⟩ :: (X ++ [itBlk H.n ⟨encEn e, 1, false⟩]) by simp] at h
  obtain ⟨H'', e1, h2⟩ := h.stEnd 0 (v := .int .i64 v) rfl rfl (by simp)
  refine ⟨H'', e1, ?_⟩
  rw [hSv]
  simpa using h2
 have look : ∀ {H' : Heap} {a' b' : Int}, Star H0 H' (S l a' b') → H'.get p1 = some ⟨[ptrV c], 1, false⟩ ∧ H'.get H.n = some ⟨encEn e, 1, false⟩ ∧ R (T k) F.ζ1v [ptrV c] H' = .ok (.int .i64 l.length) H' := fun {H' a' b'} h => by
  refine ⟨?_, ?_, ζfv k h i (hline _ _ _)⟩
  ·rw [hSv] at h; exact h.memBlk (c := p1) (k := ⟨[ptrV c], 1, false⟩) (by simp)
  ·rw [hSv] at h; exact h.memBlk (c := H.n) (k := ⟨encEn e, 1, false⟩) (by simp)
 have fin : ∀ {H' : Heap} {l' : List Gl} {a' b' : Int}, Star H0 H' (S l' a' b') → Star H0 H' (L.set i (itLine c o l') ++ [itBlk p1 ⟨[ptrV c], 1, false⟩, itBlk p3 ⟨[.int .i64 a'], 1, false⟩, itBlk p4 ⟨[.int .i64 b'], 1, false⟩] ++ X) := fun {H' l' a' b'} h => by
  rw [hSv, ← List.append_assoc, ← List.append_assoc] at h
  exact h.ζ6h
 have st2 : Star H0 (H.push ⟨encEn e, 1, false⟩) (S l a b) := by
  have := st.push ⟨encEn e, 1, false⟩
  rw [List.append_assoc, List.append_assoc] at this
  rw [hSv]
  exact this
 have ha15 := fun H => and15 Prog 3 H heb.2.2.1 heb.2.2.2.1
 have ha13 := fun H => and13 Prog 3 H heb.2.2.1 heb.2.2.2.1
 have m1 : (if (l.length : Int) < j then (l.length : Int) else j) = min j (l.length : Int) := by split <;> omega
 have m2 : (if (l.length : Int) < j + 1 then (l.length : Int) else j + 1) = min (j + 1) (l.length : Int) := by split <;> omega
 obtain ⟨A, hA⟩ : ∃ A, A = if e.flags ≥ 32768 then min j (l.length : Int) else a := ⟨_, rfl⟩
 obtain ⟨B, hB⟩ : ∃ B, B = if e.flags / 8192 % 2 = 1 then min (j + 1) (l.length : Int) else b := ⟨_, rfl⟩
 have hAb : 0 ≤ A ∧ A ≤ (l.length : Int) := by rw [hA]; split <;> omega
 have hBb : 0 ≤ B ∧ B ≤ (l.length : Int) := by rw [hB]; split <;> omega
 have hdo : doR (l, a, b) j e = (match orderS (e.flags % 16) (B - A) with | some o => (orderG l A o).getD l | none => l, A, B) := by unfold doR; rw [hA, hB] <;> rfl
 have tail : ∀ {H' : Heap}, Star H0 H' (S l A B) → ∃ H'', ζ1q k (R (T k)) (ptrV p1) (ptrV p3) (ptrV p4) (ptrV H.n) H' = .ok (.tuple #[]) H'' ∧ (∀ a0 a20, ζ1r k (R (T k)) a0 (ptrV p1) (ptrV p3) (ptrV p4) (ptrV H.n) a20 H' = .ok (.tuple #[]) H'') ∧
   Star H0 H'' (rearW L i c o p1 p3 p4 (doR (l, a, b) j e) ++ X) := fun {H'} h => by
  rw [hSv] at h
  obtain ⟨H'', e1, e2, h3⟩ := ζmt k hi ⟨heb.2.2.1, heb.2.2.2.1⟩ hAb hBb (by omega) h
  rw [← hSv] at h3
  refine ⟨H'', e1, e2, ?_⟩
  rw [hdo]
  exact fin h3
 obtain ⟨v1, v2, v3⟩ := look st2
 clear st
 by_cases d1 : e.flags ≥ 32768
 ·rw [if_pos d1] at hA ha15
  obtain ⟨H1, e1, st3⟩ := storeA (min j (l.length : Int)) st2
  obtain ⟨w1, w2, w3⟩ := look st3
  by_cases d2 : e.flags / 8192 % 2 = 1
  ·rw [if_pos d2] at hB ha13
   obtain ⟨H2, e2, st4⟩ := storeB (min (j + 1) (l.length : Int)) st3
   rw [← hA, ← hB] at st4
   obtain ⟨H3, t1, _, st5⟩ := tail st4
   refine ⟨.tuple #[], H3, ?_, st5, hok⟩
   simp only [callV, List.nil_append, List.cons_append]
   rw [ζ2m, nrm_of]
   simp -implicitDefEqProofs (disch := omega) [-stR_ptr, ζ8, v1, v2, v3, ha15, bne, m1, e1, ζ48, w1, w2, w3, ha13, m2, e2, t1]
  ·rw [if_neg d2] at hB ha13
   rw [← hA, ← hB] at st3
   obtain ⟨H3, _, t1, st5⟩ := tail st3
   refine ⟨.tuple #[], H3, ?_, st5, hok⟩
   simp only [callV, List.nil_append, List.cons_append]
   rw [ζ2m, nrm_of]
   simp -implicitDefEqProofs (disch := omega) [-stR_ptr, ζ8, v1, v2, v3, ha15, bne, m1, e1, ζ48, w1, w2, w3, ha13, t1]
 ·rw [if_neg d1] at hA ha15
  by_cases d2 : e.flags / 8192 % 2 = 1
  ·rw [if_pos d2] at hB ha13
   obtain ⟨H2, e2, st4⟩ := storeB (min (j + 1) (l.length : Int)) st2
   rw [← hA, ← hB] at st4
   obtain ⟨H3, t1, _, st5⟩ := tail st4
   refine ⟨.tuple #[], H3, ?_, st5, hok⟩
   simp only [callV, List.nil_append, List.cons_append]
   rw [ζ2m, nrm_of]
   simp -implicitDefEqProofs (disch := omega) [-stR_ptr, ζ8, v1, v2, v3, ha15, bne, ζ49, ha13, m2, e2, t1]
  ·rw [if_neg d2] at hB ha13
   rw [← hA, ← hB] at st2
   obtain ⟨H3, _, t1, st5⟩ := tail st2
   refine ⟨.tuple #[], H3, ?_, st5, hok⟩
   simp only [callV, List.nil_append, List.cons_append]
   rw [ζ2m, nrm_of]
   simp -implicitDefEqProofs (disch := omega) [-stR_ptr, ζ8, v1, v2, v3, ha15, bne, ζ49, ha13, t1]
set_option maxHeartbeats 1000000 in
theorem ζel (k : Nat) (m : Mach) (hm : m.ok) {H0 H : Heap} {L : List It} (h : Star H0 H L) (i : Nat) {c : Nat} {o : Option Nat} {l : List Gl} (hi : L[i]? = some (itLine c o l)) (hl : l.length < 2 ^ 25) :
  ∃ H', R (T k) F.ζ2l [rearV m, ptrV c] H = .ok (.int .i64 (runR m l).2) H' ∧ Star H0 H' (L.set i (itLine c o (runR m l).1)) ∧ (runR m l).1.length = l.length := by
 have hlt := (List.getElem?_eq_some_iff.1 hi).1
 have same : L.set i (itLine c o l) = L := by
  obtain ⟨hlt, hx⟩ := List.getElem?_eq_some_iff.1 hi
  rw [← hx, List.set_getElem_self]
 have st := ((h.push ⟨[ptrV c], 1, false⟩).push ⟨[.int .i64 0], 1, false⟩).push ⟨[.int .i64 0], 1, false⟩
 simp only [hn_push] at st
 obtain ⟨H3, hH3⟩ : ∃ H3, H3 = ((H.push ⟨[ptrV c], 1, false⟩).push ⟨[.int .i64 0], 1, false⟩).push ⟨[.int .i64 0], 1, false⟩ := ⟨_, rfl⟩
 rw [← hH3] at st
 have hn3 : H3.n = H.n + 3 := by rw [hH3]; simp
 have ePl := plainNew k (.func F.ζ8) #[] #[ptrV H.n, ptrV (H.n + 1), ptrV (H.n + 2)] H3
 have st4 := st.push ⟨[.func (.func F.ζ8) #[] #[ptrV H.n, ptrV (H.n + 1), ptrV (H.n + 2)]], 1, false⟩
 have g1 := st4.memBlk (c := H.n) (k := ⟨[ptrV c], 1, false⟩) (by simp)
 have hact := plain_ok k (rear_do k m hm L i c o hlt H.n (H.n + 1) (H.n + 2) l.length hl (H0 := H0)) H3.n
 obtain ⟨H5, eR, st5, hI5⟩ := ζgx k m hm (fun s : List Gl × Int × Int => rearW L i c o H.n (H.n + 1) (H.n + 2) s ++ [itBlk H3.n ⟨[.func (.func F.ζ8) #[] #[ptrV H.n, ptrV (H.n + 1), ptrV (H.n + 2)]], 1, false⟩]) (RearOk (l.length : Int)) (fun s => s.1) c
  (fun s => ⟨i, o, by
   unfold rearW
   rw [List.append_assoc, List.getElem?_append_left (by simpa using hlt), List.getElem?_set_self hlt]⟩) _ _ hact [] (l, 0, 0) ⟨rfl, by dsimp only; omega⟩ (by
   unfold rearW
   rw [same]
   simpa [List.append_assoc] using st4) (by dsimp only; omega)
 have hr : runD m (fun s : List Gl × Int × Int => s.1) (fun s i e => (doR s i e, i, i + 1)) (2 * (l.length : Int) + 128) (2 * l.length + 128) ((l, 0, 0), ⟨0, 0, 0, 0⟩) = runRr m l := by unfold runRr; rfl
 dsimp only at eR st5 hI5
 rw [hr] at eR st5 hI5
 refine ⟨H5, ?_, ?_, ?_⟩
 ·rw [ζem, nrm_of]
  have v2 := veq_mach m
  unfold runR
  generalize runRr m l = r at eR ⊢
  rw [hH3] at ePl eR g1
  simp only [hn_push] at ePl eR
  simp -implicitDefEqProofs (disch := omega) [ζ2l, ePl, eR, v2]
 ·unfold runR
  generalize runRr m l = r at st5 ⊢
  unfold rearW at st5
  have := st5.take L.length
  rw [List.append_assoc, List.append_assoc, List.take_append_of_le_length (by simp), List.take_of_length_le (by simp)] at this
  exact this
 ·exact (ζja hm l).length_eq
end Go.Sw
end
section
namespace Go.Sw
open Go.RowKit
theorem ζld (k : Nat) (ids : List Int) (hl : ids.length < 2 ^ 30) (H : Heap) : R (T k) F.ζ1t [lv encI ids] H = .ok (lv encG (newG ids)) H := by
 rw [ζf3]
 have g := (Star.nil H).more_row (Ext.refl _) (OwnO.bare encG _ 2) (fun b hb => by cases hb)
 simp only [List.nil_append] at g
 obtain ⟨x, e', H1, hr1, rfl, z, s, o, rfl, g⟩ := loop_up (body := ζ60 k (R (T k))) ids.length
  (fun j e H' => ∃ s o, e = [(0, lv encI ids), (3, s), (4, .int .i64 j)] ∧ Star H H' [itRow o 2 s encG (newG (ids.take j))])
  (fun x e H' => x = .exit 0 ∧ ∃ z s o, e = [(0, lv encI ids), (3, s), (4, z), (9, .bool false)] ∧ Star H H' [itRow o 2 s encG (newG ids)])
  (e0 := [(0, lv encI ids), (3, bareV), (4, .int .i64 0)]) (H0 := H) ⟨bareV, none, rfl, g⟩ (by omega)
  (fun j e H' hj ⟨s, o, he, g⟩ => by
   subst he
   have hlt : (j : Int) < ids.length := by omega
   obtain ⟨x, hx⟩ : ∃ x, ids[j]? = some x := ⟨_, List.getElem?_eq_getElem hj⟩
   have i1 := fun H' => ixS_lvN encI_len ids .i64 j x hx H'
   have hlen : (ids.take j).length = j := by rw [List.length_take]; omega
   obtain ⟨s', o', H2, e2, g2⟩ := g.append1 (bytes := 16) 0 encG_len rfl (⟨x, j⟩ : Gl) (by rw [newG_len]; omega) (by decide)
   simp only [List.set_cons_zero] at g2
   simp only [encG] at e2
   refine .inl ⟨_, H2, ?_, s', o', rfl, by rw [ζ1c hx, ζj3, hlen]; exact g2⟩
   rw [ζ76]
   simp -implicitDefEqProofs (disch := omega) [hlt, i1, e2])
  (fun e H' ⟨s, o, he, g⟩ => by
   subst he
   rw [List.take_length] at g
   refine ⟨.exit 0, _, H', ?_, by simp, rfl, .int .i64 ids.length, s, o, rfl, g⟩
   rw [ζ76]
   simp -implicitDefEqProofs)
 obtain ⟨L, hf⟩ := (g.own 0 rfl).freeze encG_len (ζe2 _) 6
 refine nrm_fz (v := s) (H' := H1) ?_ hf g.ext (Flat.Gls _).alive
 simp -implicitDefEqProofs (disch := omega) [ζ1t, hr1, ζaw]
end Go.Sw
end
section
namespace Go.Sw
open Go.RowKit
theorem ζmu (k : Nat) (o : List Int) (hl : o.length < 2 ^ 62) {j : Nat} {x : Int} (hx : o[j]? = some x) (a0 a1 a8 a9 : Value) (H : Heap) :
  (x ∉ o.take j → ∃ z, loopN (ζ28 k (R (T k))) loopFuel [(0, a0), (1, a1), (2, lv encI o), (8, a8), (9, a9), (10, .int .i64 j), (11, .int .i64 0)] H = .ok (.exit 2, [(0, a0), (1, a1), (2, lv encI o), (8, a8), (9, a9), (10, .int .i64 j), (11, z), (55, .bool false)]) H) ∧
  (x ∈ o.take j → loopN (ζ28 k (R (T k))) loopFuel [(0, a0), (1, a1), (2, lv encI o), (8, a8), (9, a9), (10, .int .i64 j), (11, .int .i64 0)] H = .ok (.ret, [(6, a0), (7, .bool false)]) H) := by
 have hj := (List.getElem?_eq_some_iff.1 hx).1
 have i1 := fun H' => ixS_lvN encI_len o .i64 j x hx H'
 obtain ⟨xx, e', H1, hr1, hX, rfl⟩ := loop_up (body := ζ28 k (R (T k))) j
  (fun i e H' => e = [(0, a0), (1, a1), (2, lv encI o), (8, a8), (9, a9), (10, .int .i64 j), (11, .int .i64 i)] ∧ x ∉ o.take i ∧ H' = H)
  (fun xx e H' => ((xx = .exit 2 ∧ (∃ z, e = [(0, a0), (1, a1), (2, lv encI o), (8, a8), (9, a9), (10, .int .i64 j), (11, z), (55, .bool false)]) ∧ x ∉ o.take j) ∨ (xx = .ret ∧ e = [(6, a0), (7, .bool false)] ∧ x ∈ o.take j)) ∧ H' = H)
  (e0 := [(0, a0), (1, a1), (2, lv encI o), (8, a8), (9, a9), (10, .int .i64 j), (11, .int .i64 0)]) (H0 := H) ⟨rfl, by simp, rfl⟩ (by omega)
  (fun i e H' hi ⟨he, hn, hH⟩ => by
   subst he hH
   have hij : (i : Int) < j := by omega
   obtain ⟨y, hy⟩ : ∃ y, o[i]? = some y := ⟨_, List.getElem?_eq_getElem (by omega)⟩
   have i2 := fun H' => ixS_lvN encI_len o .i64 i y hy H'
   by_cases c : y = x
   ·refine .inr ⟨.ret, _, _, ?_, by simp, .inr ⟨rfl, rfl, ?_⟩, rfl⟩
    ·rw [ζ3b]
     simp -implicitDefEqProofs (disch := omega) [hij, i1, i2, c]
    ·subst c
     exact List.mem_of_getElem? (i := i) (by rw [List.getElem?_take, if_pos hi]; exact hy)
   ·have c' : (y == x) = false := by rw [beq_eq_false_iff_ne]; exact c
    refine .inl ⟨_, _, ?_, rfl, ?_, rfl⟩
    ·rw [ζ3b]
     simp -implicitDefEqProofs (disch := omega) [hij, i1, i2, c']
    ·rw [ζ1c hy]
     intro h
     rcases List.mem_append.1 h with h | h
     ·exact hn h
     ·exact c (List.mem_singleton.1 h).symm)
  (fun e H' ⟨he, hn, hH⟩ => by
   subst he hH
   refine ⟨.exit 2, _, _, ?_, by simp, .inl ⟨rfl, ⟨.int .i64 j, rfl⟩, hn⟩, rfl⟩
   rw [ζ3b]
   simp -implicitDefEqProofs)
 rcases hX with ⟨rfl, ⟨z, rfl⟩, hn⟩ | ⟨rfl, rfl, hy⟩
 ·exact ⟨fun _ => ⟨z, hr1⟩, fun h => absurd h hn⟩
 ·exact ⟨fun h => absurd hy h, fun _ => hr1⟩
set_option maxHeartbeats 2000000 in
theorem ζi7 (k : Nat) (l : List Gl) (hl : l.length < 2 ^ 30) (a : Int) (o : List Int) (ho : o.length < 2 ^ 62) (ha : -2 ^ 62 < a ∧ a < 2 ^ 62) (H : Heap) :
  R (T k) F.ζf [lv encG l, .int .i64 a, lv encI o] H = .ok (.tuple #[lv encG ((orderG l a o).getD l), .bool (orderG l a o).isSome]) H := by
 rw [ζcu]
 have fl : ∀ (l : List Gl) b, Flat (.tuple #[lv encG l, .bool b]) := fun l b => Flat.tupleL (l := [lv encG l, .bool b]) (.cons (Flat.Gls l) (.cons (.bool _) .nil))
 unfold orderG
 by_cases c1 : 0 ≤ a ∧ a ≤ l.length ∧ (o.length : Int) ≤ l.length - a
 rotate_left
 ·rw [if_neg (fun hc => c1 ⟨hc.1, hc.2.1, hc.2.2.1⟩)]
  rw [Option.getD_none]
  refine nrm_fz (v := .tuple #[lv encG l, .bool false]) (L := []) (H' := H) ?_ rfl (Ext.refl H) (fl _ _).alive
  by_cases d1 : a < 0
  ·simp -implicitDefEqProofs (disch := omega) [ζf, d1]
  ·by_cases d2 : a > l.length
   ·simp -implicitDefEqProofs (disch := omega) [ζf, d1, d2]
   ·have d3 : (o.length : Int) > l.length - a := by omega
    simp -implicitDefEqProofs (disch := omega) [ζf, d1, d2, d3]
 obtain ⟨q1, q2, q3⟩ := c1
 obtain ⟨n, rfl⟩ := Int.eq_ofNat_of_zero_le q1
 have d1 : ¬ (n : Int) < 0 := by omega
 have d2 : ¬ (n : Int) > l.length := by omega
 have d3 : ¬ (o.length : Int) > l.length - n := by omega
 have g := (Star.nil H).more_row (Ext.refl _) (OwnO.bare encG _ 2) (fun b hb => by cases hb)
 simp only [List.nil_append] at g
 obtain ⟨s1, o1, H1, e1, g⟩ := g.append (bytes := 16) 0 encG_len rfl (b := lv encG l) (l2 := l) rfl (lv_first encG_len l _) (by simp; omega) (by decide)
 simp only [List.nil_append, List.set_cons_zero] at g
 obtain ⟨xx, e', H2, hr2, hX⟩ := loop_up (body := ζ4p k (R (T k))) o.length
  (fun j e H' => e = [(0, lv encG l), (1, .int .i64 n), (2, lv encI o), (8, .int .i64 o.length), (9, s1), (10, .int .i64 j)] ∧ toO o o.length j ∧ Star H H' [itRow o1 2 s1 encG (putTo l n o j)])
  (fun xx e H' => (xx = .exit 0 ∧ (∃ z, e = [(0, lv encG l), (1, .int .i64 n), (2, lv encI o), (8, .int .i64 o.length), (9, s1), (10, z), (36, .bool false)]) ∧ okO o ∧ Star H H' [itRow o1 2 s1 encG (putTo l n o o.length)]) ∨ (xx = .ret ∧ e = [(6, lv encG l), (7, .bool false)] ∧ ¬ okO o ∧ Ext H H'))
  (e0 := [(0, lv encG l), (1, .int .i64 n), (2, lv encI o), (8, .int .i64 o.length), (9, s1), (10, .int .i64 0)]) (H0 := H1) ⟨rfl, ⟨fun k hk => by simp at hk, by simp⟩, by rw [ζhj]; exact g⟩ (by omega)
  (fun j e H' hj ⟨he, ht, g⟩ => by
   subst he
   have hjl : (j : Int) < o.length := by omega
   obtain ⟨x, hx⟩ : ∃ x, o[j]? = some x := ⟨_, List.getElem?_eq_getElem hj⟩
   have i1 := fun H' => ixS_lvN encI_len o .i64 j x hx H'
   by_cases b1 : x < 0
   ·refine .inr ⟨.ret, _, H', ?_, by simp, .inr ⟨rfl, rfl, notO_out hx (.inl b1), g.ext⟩⟩
    rw [ζ1j]
    simp -implicitDefEqProofs (disch := omega) [hjl, i1, b1]
   by_cases b2 : x ≥ o.length
   ·refine .inr ⟨.ret, _, H', ?_, by simp, .inr ⟨rfl, rfl, notO_out hx (.inr b2), g.ext⟩⟩
    rw [ζ1j]
    simp -implicitDefEqProofs (disch := omega) [hjl, i1, b1, b2]
   obtain ⟨y, rfl⟩ := Int.eq_ofNat_of_zero_le (Int.not_lt.1 b1)
   have hy : y < o.length := by omega
   obtain ⟨in1, in2⟩ := ζmu k o ho hx (lv encG l) (.int .i64 n) (.int .i64 o.length) s1 H'
   by_cases b3 : (y : Int) ∈ o.take j
   ·have in2 := in2 b3
    refine .inr ⟨.ret, _, H', ?_, by simp, .inr ⟨rfl, rfl, notO_mem hx b3, g.ext⟩⟩
    rw [ζ1j]
    simp -implicitDefEqProofs (disch := omega) [hjl, i1, b1, b2, in2, ζa1]
   ·obtain ⟨z, in1⟩ := in1 b3
    obtain ⟨gl, hgl⟩ : ∃ gl, l[n + y]? = some gl := ⟨_, List.getElem?_eq_getElem (by omega)⟩
    have i3 := fun H' => ixS_lvN encG_len l .i64 (n + y) gl hgl H'
    have hpl := ζj7 (l := l) (a := n) (o := o) (j := j) (by omega) (by omega)
    obtain ⟨b, hb, hgb, i4⟩ := g.ix 0 rfl .i64 (n + j) (by omega)
    subst hb
    obtain ⟨gj, hgj⟩ : ∃ gj, (putTo l n o j)[n + j]? = some gj := ⟨_, List.getElem?_eq_getElem (by omega)⟩
    obtain ⟨H5, e5, g5, _⟩ := g.stRow 0 rfl encG_len (c := 0) (n := 2) gl (v := .agg (encG gl).toArray) hgj rfl rfl (by decide) rfl
    rw [ζhi (by omega) hx (by rw [Int.toNat_natCast, List.getElem?_drop]; exact hgl)] at g5
    simp only [Nat.add_zero, List.set_cons_zero] at e5 g5
    rw [Int.natCast_add] at i3 i4
    refine .inl ⟨_, H5, ?_, rfl, toO_step ht hx (by omega) (by omega) b3, g5⟩
    rw [ζ1j]
    simp -implicitDefEqProofs (disch := omega) [-stR_ptr, hjl, i1, b1, b2, in1, ζ9e, i3, i4, e5])
  (fun e H' ⟨he, ht, g⟩ => by
   subst he
   refine ⟨.exit 0, _, H', ?_, by simp, .inl ⟨rfl, ⟨.int .i64 o.length, rfl⟩, ?_, g⟩⟩
   ·rw [ζ1j]
    simp -implicitDefEqProofs
   ·unfold toO at ht
    rw [List.take_length] at ht
    exact ht)
 rcases hX with ⟨rfl, ⟨z, rfl⟩, hok, g⟩ | ⟨rfl, rfl, hno, hx⟩
 ·rw [if_pos ⟨q1, q2, q3, hok⟩, Int.toNat_natCast, Option.getD_some]
  rw [ζj6] at g
  obtain ⟨L, hf⟩ := (g.own 0 rfl).freeze encG_len (ζe2 _) 5
  have hft : fzV H.n H2 fzDepth (.tuple #[s1, .bool true]) = some (.tuple #[lv encG (putO l n o), .bool true], L ++ []) :=
   fz_tuple (l := [s1, .bool true]) (r := [lv encG (putO l n o), .bool true]) (ζ1a hf (ζ82 fun v hv => by simp at hv; subst hv; trivial))
  refine nrm_fz (v := .tuple #[s1, .bool true]) (H' := H2) ?_ hft g.ext (fl _ _).alive
  simp -implicitDefEqProofs (disch := omega) [ζf, d1, d2, d3, e1, hr2, ζ9d]
 ·rw [if_neg (fun hc => hno hc.2.2.2), Option.getD_none]
  refine nrm_fz (v := .tuple #[lv encG l, .bool false]) (L := []) (H' := H2) ?_ rfl hx (fl _ _).alive
  simp -implicitDefEqProofs (disch := omega) [ζf, d1, d2, d3, e1, hr2, ζa0]
end Go.Sw
end
