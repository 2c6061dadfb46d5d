/-
  Functions' forms, and what is proved of them, part 8.
-/
import Derived.Test.YtnaodjnimkndbabSwW7
import Derived.Test.YtnaodjnimkndbabSwW1
import Derived.Test.YtnaodjnimkndbabSwLib8
import Derived.Test.YtnaodjnimkndbabSwW5
import Derived.Test.YtnaodjnimkndbabSwCfg
import Derived.Tactics
import Derived.Tactics2
import Derived.Defers
import Derived.Recover
import Derived.Laws.Pointers
import Derived.Test.YtnaodjnimkndbabSwW4
set_option linter.unusedSimpArgs false
set_option linter.unusedVariables false
set_option linter.unusedSectionVars false
section
namespace Go.Sw
open Go.RowKit
theorem gU_four {b : List Int} (hb : Byt b) (i : Int) : -1 ≤ gU b i 4 ∧ gU b i 4 < 4294967296 := by
 unfold gU
 cases h : uS b i 4 with
 | none => simp
 | some x => have := uS_four hb h; simp; omega
theorem gU_lt {b : List Int} {i : Int} (h : ¬ gU b i 4 < 0) : uS b i 4 = some (gU b i 4) := by
 unfold gU at h ⊢
 cases hu : uS b i 4 with
 | none => rw [hu] at h; simp at h
 | some x => rfl
set_option maxHeartbeats 1000000 in
theorem ζjj (k : Nat) (b : List Int) (hb : Byt b) (g w : Int) (hg : 1 ≤ g ∧ g ≤ 65535) (hw : w = 0 ∨ w = 1 ∨ w = 2) (hl : b.length < 2 ^ 31) (H : Heap) :
  R (T k) F.ζ4 [lv encB b, .int .i64 g, .int .i64 w] H = .ok (.tuple #[rmO (refMachS b g w), .bool (refMachS b g w).isSome]) H := by
 rw [ζdx]
 have hU := fun j H' => refU_run k (H := H') (Sl.lv H' 1 b) hb j 4 (by omega) (by omega)
 have u0 : ∀ H', R (T k) F.ζ1 [lv encB b, .int .i64 0, .int .i64 4] H' = .ok (.int .i64 (gU b 0 4)) H' := fun H' => hU _ H'
 have u4 : ∀ H', R (T k) F.ζ1 [lv encB b, .int .i64 4, .int .i64 4] H' = .ok (.int .i64 (gU b 4 4)) H' := fun H' => hU _ H'
 have u8 : ∀ H', R (T k) F.ζ1 [lv encB b, .int .i64 8, .int .i64 4] H' = .ok (.int .i64 (gU b 8 4)) H' := fun H' => hU _ H'
 have u12 : ∀ H', R (T k) F.ζ1 [lv encB b, .int .i64 12, .int .i64 4] H' = .ok (.int .i64 (gU b 12 4)) H' := fun H' => hU _ H'
 have b0 := gU_four hb 0
 have b4 := gU_four hb 4
 have b8 := gU_four hb 8
 have b12 := gU_four hb 12
 have fl : ∀ o : Option RMach, Flat (.tuple #[rmO o, .bool o.isSome]) := fun o => .tupleL (.cons (Flat.rm _) (.cons (.bool _) .nil))
 obtain ⟨n, hn⟩ : ∃ n, gU b 0 4 = n := ⟨_, rfl⟩
 obtain ⟨i, hi⟩ : ∃ i, gU b 4 4 = i := ⟨_, rfl⟩
 obtain ⟨j, hj⟩ : ∃ j, gU b 8 4 = j := ⟨_, rfl⟩
 obtain ⟨q, hq⟩ : ∃ q, gU b 12 4 = q := ⟨_, rfl⟩
 rw [hn] at u0 b0
 rw [hi] at u4 b4
 rw [hj] at u8 b8
 rw [hq] at u12 b12
 obtain ⟨M1, hM1⟩ : ∃ M1 : Blk, M1 = ⟨[lv encB b, .int .i64 n, .int .i64 j, .int .i64 q, .int .i64 2, .int .i64 0, .int .i64 w, .slice none 0 0, .slice none 0 0], 1, false⟩ := ⟨_, rfl⟩
 have hx2 : Ext H ((H.push ⟨zCells, 1, false⟩).push M1) := ((Ext.refl H).push _).push _
 -- one thing is not as it should be
 have no : machS b g w = none → ζ4 k (R (T k)) (lv encB b) (.int .i64 g) (.int .i64 w) H = .ok (.tuple #[.agg zCells.toArray, .bool false]) ((H.push ⟨zCells, 1, false⟩).push M1) → nrm .fz H (ζ4 k (R (T k)) (lv encB b) (.int .i64 g) (.int .i64 w) H) = .ok (.tuple #[rmO (refMachS b g w), .bool (refMachS b g w).isSome]) H := fun h1 h2 => by
  have : refMachS b g w = none := by unfold refMachS; rw [h1]; rfl
  rw [this]
  exact nrm_fz (L := []) h2 rfl hx2 (fl none).alive
 have n0 : ∀ m, machS b g w = some m → (4 ≤ n ∧ n ≤ 65535) ∧ 0 ≤ i ∧ i ≤ b.length ∧ 0 ≤ j ∧ j ≤ b.length ∧ 0 ≤ q ∧ q ≤ b.length := fun m hm => by
  obtain ⟨i', j', q', tb, rv, ev, x, h0, h1, h2, h3, h4, h5, h6, h7, h8, h9, _⟩ := ζgt hm
  have e0 := gU_some h0
  have e3 := gU_some h3
  have e6 := gU_some h6
  have e8 := gU_some h8
  rw [hn] at e0
  rw [hi] at e3
  rw [hj] at e6
  rw [hq] at e8
  have r4 := (ζ2s.1 h4).1
  have r7 := (ζ2s.1 h7).1
  have r9 := (ζ2s.1 h9).1
  omega
 have nn : ¬ ((4 ≤ n ∧ n ≤ 65535) ∧ 0 ≤ i ∧ i ≤ b.length ∧ 0 ≤ j ∧ j ≤ b.length ∧ 0 ≤ q ∧ q ≤ b.length) → machS b g w = none := fun h => by
  cases hm : machS b g w with
  | none => rfl
  | some m => exact absurd (n0 m hm) h
 by_cases c1 : n < 4
 ·refine no (nn (by omega)) ?_
  rw [hM1]
  simp -implicitDefEqProofs (disch := omega) [ζ4, u0, u4, u8, u12, c1]
 by_cases c2 : n > 65535
 ·refine no (nn (by omega)) ?_
  rw [hM1]
  simp -implicitDefEqProofs (disch := omega) [ζ4, u0, u4, u8, u12, c1, c2]
 by_cases c3 : j < 0
 ·refine no (nn (by omega)) ?_
  rw [hM1]
  simp -implicitDefEqProofs (disch := omega) [ζ4, u0, u4, u8, u12, c1, c2, c3]
 by_cases c4 : q < 0
 ·refine no (nn (by omega)) ?_
  rw [hM1]
  simp -implicitDefEqProofs (disch := omega) [ζ4, u0, u4, u8, u12, c1, c2, c3, c4]
 by_cases c5 : j > b.length
 ·refine no (nn (by omega)) ?_
  rw [hM1]
  simp -implicitDefEqProofs (disch := omega) [ζ4, u0, u4, u8, u12, c1, c2, c3, c4, c5]
 by_cases c6 : q > b.length
 ·refine no (nn (by omega)) ?_
  rw [hM1]
  simp -implicitDefEqProofs (disch := omega) [ζ4, u0, u4, u8, u12, c1, c2, c3, c4, c5, c6]
 by_cases c7 : i < 0
 ·refine no (nn (by omega)) ?_
  rw [hM1]
  simp -implicitDefEqProofs (disch := omega) [ζ4, u0, u4, u8, u12, c1, c2, c3, c4, c5, c6, c7]
 by_cases c8 : i > b.length
 ·refine no (nn (by omega)) ?_
  rw [hM1]
  simp -implicitDefEqProofs (disch := omega) [ζ4, u0, u4, u8, u12, c1, c2, c3, c4, c5, c6, c7, c8]
 clear no nn n0
 have hU0 := gU_lt (b := b) (i := 0) (by omega)
 have hU4 := gU_lt (b := b) (i := 4) (by omega)
 have hU8 := gU_lt (b := b) (i := 8) (by omega)
 have hU12 := gU_lt (b := b) (i := 12) (by omega)
 rw [hn] at hU0
 rw [hi] at hU4
 rw [hj] at hU8
 rw [hq] at hU12
 obtain ⟨tb, htb⟩ : ∃ tb, tb = b.drop i.toNat := ⟨_, rfl⟩
 have r4 : restS b i = some tb := ζ2s.2 ⟨by omega, htb⟩
 have r8 : restS b j = some (b.drop j.toNat) := ζ2s.2 ⟨by omega, rfl⟩
 have r12 : restS b q = some (b.drop q.toNat) := ζ2s.2 ⟨by omega, rfl⟩
 have hsl := fun H' => slS_lv encB_len b (some (.int .i64 i)) none none i.toNat b.length b.length (by unfold boundOf; dsimp only; rw [if_pos (by omega)]) rfl rfl (fun h => by cases h) (by omega) (Nat.le_refl _) (Nat.le_refl _) H'
 rw [List.take_length, ← htb] at hsl
 have htbb : Byt tb := hb.rest r4
 have htbl : tb.length < 2 ^ 31 := by rw [htb]; simp; omega
 have hrd := fun H' => ζmt k tb htbb g 2 hg (.inl rfl) htbl H'
 have hlr := look_ref htbb hg.1 hg.2 (.inl rfl : (2 : Int) = 2 ∨ (2 : Int) = 4)
 have hmach : machS b g w = (lookS tb g 2).bind fun tab => (closeA (b.drop j.toNat) (b.drop q.toNat) n w 2).map fun x => ⟨n, tab, x.1, x.2⟩ := by
  unfold machS
  rw [hU0, Option.bind_some, if_pos (by omega), hU4, Option.bind_some, r4, Option.bind_some]
  congr 1
  funext tab
  rw [hU8, Option.bind_some, r8, Option.bind_some, hU12, Option.bind_some, r12, Option.bind_some]
 cases hlk : lookS tb g 2 with
 | none =>
  have hm : refMachS b g w = none := by unfold refMachS; rw [hmach, hlk]; rfl
  rw [hm]
  have hrr := hlr.2 hlk
  rw [hrr] at hrd
  simp only [tabRO, Option.isSome_none] at hrd
  obtain ⟨x, e', H1, hr, rfl, rfl, rfl⟩ := loopDec (body := ζ20 k (R (T k)))
   (fun m e H' => H' = (((H.push ⟨zCells, 1, false⟩).push ⟨rmCells b n j q 2 0 w [] [], 1, false⟩).push ⟨[lv encB [], lv encRP []], 1, false⟩) ∧ e = [(0, lv encB b), (6, ptrV H.n), (8, ptrV (H.n + 1)), (11, .bool false), (12, .int .i64 (4 + 2 * w))])
   (fun x e H' => H' = (((H.push ⟨zCells, 1, false⟩).push ⟨rmCells b n j q 2 0 w [] [], 1, false⟩).push ⟨[lv encB [], lv encRP []], 1, false⟩) ∧ x = .exit 0 ∧ e = [(0, lv encB b), (6, ptrV H.n), (8, ptrV (H.n + 1)), (12, .int .i64 (4 + 2 * w)), (81, .bool false)])
   0 (e0 := [(0, lv encB b), (6, ptrV H.n), (8, ptrV (H.n + 1)), (11, .bool false), (12, .int .i64 (4 + 2 * w))]) (H0 := (((H.push ⟨zCells, 1, false⟩).push ⟨rmCells b n j q 2 0 w [] [], 1, false⟩).push ⟨[lv encB [], lv encRP []], 1, false⟩)) ⟨rfl, rfl⟩ (by omega)
   (fun m e H' ⟨hH, he⟩ => by
    subst hH he
    refine .inr ⟨.exit 0, _, _, ?_, by simp, rfl, rfl, rfl⟩
    rw [ζ18]
    simp -implicitDefEqProofs)
  refine nrm_fz (L := []) (v := .tuple #[.agg zCells.toArray, .bool false]) (H' := ((H.push ⟨zCells, 1, false⟩).push ⟨rmCells b n j q 2 0 w [] [], 1, false⟩).push ⟨[lv encB [], lv encRP []], 1, false⟩) ?_ rfl ((((Ext.refl H).push _).push _).push _) (fl none).alive
  simp -implicitDefEqProofs (disch := omega) [ζ4, u0, u4, u8, u12, c1, c2, c3, c4, c5, c6, c7, c8, hsl, hrd, hr, ζ68]
 | some tab =>
  obtain ⟨ps, hps, hrel⟩ := hlr.1 tab hlk
  rw [hps] at hrd
  simp only [tabRO, Option.isSome_some] at hrd
  have st := ((Star.nil H).push ⟨zCells, 1, false⟩).push ⟨rmCells b n j q 2 0 w tb ps, 1, false⟩
  have st := st.rest ((Ext.refl _).push ⟨[lv encB tb, lv encRP ps], 1, false⟩)
  have hlp := ζoj k b hb hl (n := n) (w := w) (by omega) (by omega) r8 r12 tb ps (by simpa using st)
  cases hcl : closeA (b.drop j.toNat) (b.drop q.toNat) n w 2 with
  | none =>
   have hm : refMachS b g w = none := by unfold refMachS; rw [hmach, hlk, Option.bind_some, hcl]; rfl
   rw [hm]
   rw [hcl] at hlp
   obtain ⟨H2, hr, hx, hz⟩ := hlp
   have hgs : (H2.set H.n (some ⟨zCells, 1, false⟩)).get H.n = some ⟨zCells, 1, false⟩ := ζ5l _ _ _ (by rw [hz]; rfl)
   have hx3 : Ext H (H2.set H.n (some ⟨zCells, 1, false⟩)) := ⟨by simpa using hx.1, fun d hd hs => by rw [ζ1o _ _ _ _ (by omega)]; exact hx.2 d hd hs⟩
   refine nrm_fz (L := []) (v := .tuple #[.agg zCells.toArray, .bool false]) (H' := H2.set H.n (some ⟨zCells, 1, false⟩)) ?_ rfl hx3 (fl none).alive
   simp -implicitDefEqProofs (disch := omega) [ζ4, u0, u4, u8, u12, c1, c2, c3, c4, c5, c6, c7, c8, hsl, hrd, hr, ζ68, hz, hgs]
  | some x =>
   have hm : refMachS b g w = some (rmOf b g w ⟨n, tab, x.1, x.2⟩) := by unfold refMachS; rw [hmach, hlk, Option.bind_some, hcl]; rfl
   rw [hm]
   rw [hcl] at hlp
   obtain ⟨H2, S, N, hr, hx, hz, rfl, rfl⟩ := hlp
   have hrm : rmO (some (rmOf b g w ⟨n, tab, x.1, x.2⟩)) = .agg (rmCells b n j q x.1.length x.2.length w tb ps).toArray := by
    unfold rmO rmOf
    rw [hj, hq, hi, ← htb, hps]
    rfl
   have fl2 := fl (some (rmOf b g w ⟨n, tab, x.1, x.2⟩))
   rw [hrm] at fl2 ⊢
   refine nrm_fz (L := []) (v := .tuple #[.agg (rmCells b n j q x.1.length x.2.length w tb ps).toArray, .bool true]) (H' := H2) ?_ rfl hx fl2.alive
   simp -implicitDefEqProofs (disch := omega) [ζ4, u0, u4, u8, u12, c1, c2, c3, c4, c5, c6, c7, c8, hsl, hrd, hr, ζbd, hz]
theorem mach_at {b : List Int} (hb : Byt b) {g w : Int} (hw : 0 ≤ w ∧ w ≤ 2) {m : Mach} (h : machS b g w = some m) :
  (0 ≤ gU b 8 4 ∧ gU b 8 4 ≤ b.length) ∧ (0 ≤ gU b 12 4 ∧ gU b 12 4 ≤ b.length) ∧
  (∀ (i : Nat) e, m.ents[i]? = some e → e = ⟨gU b (gU b 12 4 + (i : Int) * (4 + 2 * w)) 2, gU b (gU b 12 4 + (i : Int) * (4 + 2 * w) + 2) 2, if 0 < w then gU b (gU b 12 4 + (i : Int) * (4 + 2 * w) + 4) 2 else 0, if 1 < w then gU b (gU b 12 4 + (i : Int) * (4 + 2 * w) + 6) 2 else 0⟩) ∧
  ∀ (s c : Nat) r x, m.rows[s]? = some r → r[c]? = some x → x = gU b (gU b 8 4 + (m.classes * s + (c : Nat)) * 2) 2 := by
 obtain ⟨i, j, q, tb, rv, ev, x, h0, h1, h2, h3, h4, h5, h6, h7, h8, h9, h10, h11, h12⟩ := ζgt h
 have e6 := gU_some h6
 have e8 := gU_some h8
 rw [e6, e8]
 obtain ⟨c1, c2, c3, c4, c5, c6, c7, _⟩ := ζhb (hb.rest h7) (hb.rest h9) (by omega) hw _ _ x (by omega) (by omega) h10
 refine ⟨(ζ2s.1 h7).1, (ζ2s.1 h9).1, fun i e he => ?_, fun s c r x' hr hx => ?_⟩
 ·rw [h12] at he
  obtain ⟨y, g1, g2⟩ := mapO_at c7 (List.getElem?_eq_some_iff.1 he).1
  rw [he] at g2
  injection g2 with g2
  subst g2
  exact ent_at h9 hw g1
 ·rw [h11] at hr
  obtain ⟨y, g1, g2⟩ := mapO_at c6 (List.getElem?_eq_some_iff.1 hr).1
  rw [hr] at g2
  injection g2 with g2
  subst g2
  have hra := row_at h7 (by omega) g1
  have hlt := (List.getElem?_eq_some_iff.1 hx).1
  rw [hra] at hx hlt
  simp at hlt
  rw [List.getElem?_map, List.getElem?_range (by omega)] at hx
  injection hx with hx
  exact hx.symm
theorem ζm3 (k : Nat) {b : List Int} (hb : Byt b) {g w : Int} (hw : w = 0 ∨ w = 1 ∨ w = 2) (hl : b.length < 2 ^ 31) {m : Mach} (h : machS b g w = some m) {i : Int} (hi0 : 0 ≤ i) (hi6 : i ≤ 65536) {e : En} (he : m.ents[i.toNat]? = some e) (H : Heap) :
  R (T k) F.ζj [rmV (rmOf b g w m), .int .i64 i] H = .ok (.agg (encEn e).toArray) H := by
 obtain ⟨_, hq, hat, _⟩ := mach_at hb (by omega) h
 have he := hat _ _ he
 clear hat
 obtain ⟨i, rfl⟩ := Int.eq_ofNat_of_zero_le hi0
 rw [Int.toNat_natCast] at he
 obtain ⟨p, hp⟩ : ∃ p, p = gU b 12 4 + (i : Int) * (4 + 2 * w) := ⟨_, rfl⟩
 have hm0 : 0 ≤ (i : Int) * (4 + 2 * w) := Int.mul_nonneg (by omega) (by omega)
 have hm1 : (i : Int) * (4 + 2 * w) ≤ 65536 * 8 := Int.mul_le_mul (by omega) (by omega) (by omega) (by omega)
 have hU := fun j H' => refU_run k (H := H') (Sl.lv H' 1 b) hb j 2 (by omega) (by omega)
 have hu : ∀ j H', R (T k) F.ζ1 [lv encB b, .int .i64 j, .int .i64 2] H' = .ok (.int .i64 (gU b j 2)) H' := fun j H' => hU j H'
 rw [ζdb]
 rw [← hp] at he
 have hx : Ext H (((H.push ⟨rmCells b m.classes (gU b 8 4) (gU b 12 4) m.rows.length m.ents.length w (b.drop (gU b 4 4).toNat) ((refReadS (b.drop (gU b 4 4).toNat) g 2).getD []), 1, false⟩).push ⟨encEn e, 1, false⟩).push ⟨encEn e, 1, false⟩) := (((Ext.refl H).push _).push _).push _
 refine nrm_gc ⟨_, ?_, hx⟩ (Flat.ofEn e).alive
 subst he
 unfold rmOf
 rcases hw with rfl | rfl | rfl
 ·simp -implicitDefEqProofs at hm0 hm1 hp
  simp -implicitDefEqProofs (disch := omega) [ζj, ← hp, hu, ζan, ζ67]
 ·simp -implicitDefEqProofs at hm0 hm1 hp
  simp -implicitDefEqProofs (disch := omega) [ζj, ← hp, hu, ζ66, ζ67]
 ·simp -implicitDefEqProofs at hm0 hm1 hp
  simp -implicitDefEqProofs (disch := omega) [ζj, ← hp, hu, ζ66, ζao]
end Go.Sw
end
section
namespace Go.Sw
theorem row_I {r : List Da} {cs : List Value} (h : LayRow [.int .i64] r cs) : ∃ n : Int, cs = encI n ∧ (Lit.int .i64 n).wf = true := by
 obtain ⟨d, v, ds, vs, rfl, h1, h2⟩ := h.head
 obtain rfl := h2.done
 obtain ⟨n, rfl, w⟩ := h1.intv
 exact ⟨n, rfl, w⟩
theorem wf_u8 {n : Int} (h : (Lit.int .u8 n).wf = true) : 0 ≤ n ∧ n < 256 := by
 simp [Lit.wf, IntKind.min, IntKind.max, IntKind.signed, IntKind.bits] at h
 omega
theorem wf_u16 {n : Int} (h : (Lit.int .u16 n).wf = true) : 0 ≤ n ∧ n < 65536 := by
 simp [Lit.wf, IntKind.min, IntKind.max, IntKind.signed, IntKind.bits] at h
 omega
theorem row_B {r : List Da} {cs : List Value} (h : LayRow [.int .u8] r cs) : ∃ n : Int, cs = encB n ∧ (0 ≤ n ∧ n < 256) := by
 obtain ⟨d, v, ds, vs, rfl, h1, h2⟩ := h.head
 obtain rfl := h2.done
 obtain ⟨n, rfl, w⟩ := h1.intv
 exact ⟨n, rfl, wf_u8 w⟩
theorem arg_B {v : Value} (h : ArgLay (.one (.slice [.int .u8])) v) : ∃ b, v = lv encB b ∧ Byt b := by
 obtain ⟨d, h1⟩ := h.cell
 obtain ⟨b, rfl, hb⟩ := Lay.list (enc := encB) (ok := fun n => 0 ≤ n ∧ n < 256) (fun r cs h => row_B h) h1
 exact ⟨b, rfl, hb⟩
theorem arg_I {v : Value} (h : ArgLay (.one (.slice [.int .i64])) v) : ∃ l, v = lv encI l ∧ ∀ n, n ∈ l → (Lit.int .i64 n).wf = true := by
 obtain ⟨d, h1⟩ := h.cell
 exact Lay.list (enc := encI) (ok := fun n => (Lit.int .i64 n).wf = true) (fun r cs h => row_I h) h1
theorem arg_i {k : IntKind} {v : Value} (h : ArgLay (.one (.int k)) v) : ∃ n, v = .int k n ∧ (Lit.int k n).wf = true := by
 obtain ⟨d, h1⟩ := h.cell
 exact h1.intv
theorem arg_b {v : Value} (h : ArgLay (.one .bool) v) : ∃ b, v = .bool b := by
 obtain ⟨d, h1⟩ := h.cell
 exact h1.boolv
end Go.Sw
end
section
namespace Go.Sw
open Go.RowKit
end Go.Sw
end
section
namespace Go.Sw
open Go.RowKit
theorem ζji {p : Plan} (hp : p.ok) (w : Int) {rm : List Int} (hrm : Byt rm) : Byt (planRoom p w rm) := by
 have tw : ∀ l, Byt (twos l) := fun l => Byt.flat fun r hr => by obtain ⟨c, _, rfl⟩ := List.mem_map.1 hr; exact ζ19 _ _
 unfold planRoom
 refine (ζ19 _ _).app ((ζ19 _ _).app ((ζ19 _ _).app ((ζ19 _ _).app (hrm.app (Byt.app ?_ (Byt.app ?_ ?_))))))
 ·unfold ofS
  exact (((ζ19 _ _).app (ζ19 _ _)).app (ζ19 _ _)).app (tw _)
 ·exact Byt.flat fun r hr => by obtain ⟨c, _, rfl⟩ := List.mem_map.1 hr; exact tw _
 ·refine Byt.flat fun r hr => ?_
  obtain ⟨e, _, rfl⟩ := List.mem_map.1 hr
  unfold entB
  refine (((ζ19 _ _).app (ζ19 _ _)).app ?_).app ?_
  ·split
   ·exact ζ19 _ _
   ·exact Byt.nil
  ·split
   ·exact ζ19 _ _
   ·exact Byt.nil
theorem ζfb {p : Plan} (hp : p.ok) (w : Int) {rm : List Int} (hrm : rm.length ≤ 1000) (h1 : p.cls.length ≤ 1000) (h2 : p.rows.length ≤ 1000) (h3 : p.ents.length ≤ 1000) : (planRoom p w rm).length ≤ 100000 := by
 have hN := planN_eq p hp.2.2
 have hofl : (ofS p.cls).length = 6 + p.cls.length * 2 := by unfold ofS; simp [twos_len]; omega
 have hrl : (rowsL (planN p) p.rows).length ≤ 1000 * 22 := by rw [ζcj]; exact Nat.mul_le_mul h2 (by omega)
 have hel := ζe5 w p.ents
 unfold planRoom
 simp
 omega
theorem row_En {r : List Da} {cs : List Value} (h : LayRow [.int .i64, .int .i64, .int .i64, .int .i64] r cs) : ∃ p : En, cs = encEn p ∧ True := by
 obtain ⟨_, v1, _, _, rfl, h1, h⟩ := h.head
 obtain ⟨_, v2, _, _, rfl, h2, h⟩ := h.head
 obtain ⟨_, v3, _, _, rfl, h3, h⟩ := h.head
 obtain ⟨_, v4, _, _, rfl, h4, h⟩ := h.head
 obtain rfl := h.done
 obtain ⟨a, rfl, _⟩ := h1.intv
 obtain ⟨b, rfl, _⟩ := h2.intv
 obtain ⟨c, rfl, _⟩ := h3.intv
 obtain ⟨d, rfl, _⟩ := h4.intv
 exact ⟨⟨a, b, c, d⟩, rfl, trivial⟩
theorem row_BR {r : List Da} {cs : List Value} (h : LayRow [.slice [.int .u8]] r cs) : ∃ b : List Int, cs = encBR b ∧ Byt b := by
 obtain ⟨_, v1, _, _, rfl, h1, h⟩ := h.head
 obtain rfl := h.done
 obtain ⟨b, rfl, hb⟩ := Lay.list (enc := encB) (ok := fun n => 0 ≤ n ∧ n < 256) (fun r cs h => row_B h) h1
 exact ⟨b, rfl, hb⟩
end Go.Sw
end
section
namespace Go.Sw
open Go.RowKit
variable {σ : Type}
end Go.Sw
end
section
namespace Go.Sw
open Go.RowKit Go.Proofs
set_option maxRecDepth 20000 in
theorem ζkz (p : Addr) (b : Bool) (w : World) (hc : (w.alloc (.cells #[] 200)).cell? p = some (.bool b)) (hz : (w.alloc (.cells #[] 200)).frozen? p = false) :
  CallsD Prog 105 #[.pointer (some p)] (.panicking [{ v := .iface 200 (.agg #[]), recovered := false }]) w fun e u' w' =>
   e = .returned (.tuple #[]) ∧ u' = .panicking [{ v := .iface 200 (.agg #[]), recovered := true }] ∧ w' = (w.alloc (.cells #[] 200)).setCell p (.bool false) := by
 refine callsD_of_wpS Try.func105 rfl fun c₀ cs hu => ?_
 apply wpS_seq
 apply wpS_region
 simp [wpOpsS, go_sem, recoverD, hu, Try.ntmps105, Exit.thenS]
 have hta : ∀ w, (Instr.typeAssert (.iface 200 (.agg #[])) 20 200 true).run Prog w = .ok (.tuple #[.agg #[], .bool true]) w := fun w => by kernel_rfl
 refine wpS_of_wp ?_
 go_wp2
 cases c₀
 simp_all [bodyPostS, results, Try.results105]
theorem ζlw (p : Addr) (w : World) :
  CallsD Prog 105 #[.pointer (some p)] .returning w fun e u' w' => e = .returned (.tuple #[]) ∧ u' = .returning ∧ w' = w := by
 refine callsD_of_wpS Try.func105 rfl fun c₀ cs hu => ?_
 apply wpS_seq
 apply wpS_region
 simp [wpOpsS, go_sem, recoverD, hu, Try.ntmps105, Exit.thenS]
 refine wpS_of_wp ?_
 go_wp2
 cases c₀
 simp_all [bodyPostS, results, Try.results105]
set_option maxRecDepth 20000 in
theorem try_walk (g : FuncId) (first cap : Array Value) (w : World) (R : Ending → World → Prop)
  (hcf : (callFunc g (first ++ cap)).run Prog (w.alloc (.cells #[.bool false] 4)) = .ok (.enter g (first ++ cap)) (w.alloc (.cells #[.bool false] 4)))
  (hcall : Calls Prog g (first ++ cap) (w.alloc (.cells #[.bool false] 4)) fun e w' => match e with
   | .returned _ => w'.heap[w.heap.size]? = some (.cells #[.bool false] 4 (0, 0)) ∧ R (.returned (.bool true)) (w'.setCell ⟨w.heap.size, 0, none⟩ (.bool true))
   | .panicked chain => chain = [{ v := .iface 200 (.agg #[]), recovered := false }] ∧ w'.heap[w.heap.size]? = some (.cells #[.bool false] 4 (0, 0)) ∧ R (.returned (.bool false)) ((w'.alloc (.cells #[] 200)).setCell ⟨w.heap.size, 0, none⟩ (.bool false))
   | .outgrown => False) :
  Calls Prog 35 #[.func (.func g) first cap] w R := by
 have hmf : ∀ (fn : Fn) (first cap : Array Value) (w : World), (Instr.makeFunc fn first cap).run Prog w = .ok (.func fn first cap) w := fun _ _ _ _ => rfl
 go_enter_defers Try.func35, Try.ntmps35
 go_wp2
 rename_i K2 hK2 K1 hK1
 refine hcall.mono fun e w' he => ?_
 cases e with
 | returned v =>
  obtain ⟨h1, h2⟩ := he
  have hc : w'.cell? ⟨w.heap.size, 0, none⟩ = some (.bool false) := by simp [World.cell?, h1]
  have hz : w'.frozen? ⟨w.heap.size, 0, none⟩ = false := by simp [World.frozen?, h1]
  apply hK1
  apply hK2
  go_wp2
  have hc2 : (w'.setCell ⟨w.heap.size, 0, none⟩ (.bool true)).cell? ⟨w.heap.size, 0, none⟩ = some (.bool true) := World.cell?_setCell_same _ _ _ hc
  refine leaves_cons (f := 105) (args := #[.pointer (some ⟨w.heap.size, 0, none⟩)]) (by simp) (by simp [go_sem]) ?_
  refine (ζlw ⟨w.heap.size, 0, none⟩ _).mono ?_
  rintro e u' w'' ⟨rfl, rfl, rfl⟩
  simp [Leaves, settle, results, Try.results35, go_sem, hc2]
  exact h2
 | panicked chain =>
  obtain ⟨h0, h1, h2⟩ := he
  subst h0
  have hlt : w.heap.size < w'.heap.size := by
   rcases Nat.lt_or_ge w.heap.size w'.heap.size with h | h
   ·exact h
   ·rw [Array.getElem?_eq_none h] at h1; cases h1
  have h3 : (w'.alloc (.cells #[] 200)).heap[w.heap.size]? = some (.cells #[.bool false] 4 (0, 0)) := by
   rw [ζ23 _ _ _ hlt]; exact h1
  have hc : (w'.alloc (.cells #[] 200)).cell? ⟨w.heap.size, 0, none⟩ = some (.bool false) := by simp only [World.cell?, h3]; rfl
  have hz : (w'.alloc (.cells #[] 200)).frozen? ⟨w.heap.size, 0, none⟩ = false := by simp [World.frozen?, h3]
  have hc2 : ((w'.alloc (.cells #[] 200)).setCell ⟨w.heap.size, 0, none⟩ (.bool false)).cell? ⟨w.heap.size, 0, none⟩ = some (.bool false) := World.cell?_setCell_same _ _ _ hc
  show Leaves _ _ _ _ _ _ _
  refine leaves_cons (f := 105) (args := #[.pointer (some ⟨w.heap.size, 0, none⟩)]) (by simp) (by simp [go_sem]) ?_
  refine (ζkz ⟨w.heap.size, 0, none⟩ false _ hc hz).mono ?_
  rintro e u' w'' ⟨rfl, rfl, rfl⟩
  simp [Leaves, settle, results, Try.results35, go_sem, hc2]
  exact h2
 | outgrown => exact he.elim
theorem try_is : SpIs Prog 35 (tryV 200) := try_of (bt := 4) Try.func35 rfl (by kernel_rfl) try_walk
end Go.Sw
end
section
namespace Go.Sw
open Go.RowKit
structure CTab.ok (t : CTab) : Prop where
 m : t.m.ok
 subs : ∀ x, x ∈ t.subs → (∀ p, p ∈ x.2 → p.ok) ∧ risesS x.2 = true ∧ x.2.length < 2 ^ 31
 has : ∀ e, e ∈ t.m.ents → (e.a = 65535 ∨ e.a < t.subs.length) ∧ (e.b = 65535 ∨ e.b < t.subs.length)
end Go.Sw
end
section
namespace Go.Sw
open Go.RowKit
theorem ζgh {rv ev : List Int} {n w : Int} : ∀ (f s : Nat) x, closeS rv ev n w f s = some x → ∃ N, entsTo ev w N = some x.2
 | 0, _, _, h => by cases h
 | f + 1, s, x, h => by
  simp only [closeS] at h
  obtain ⟨rs, e1, h⟩ := Option.bind_eq_some_iff.1 h
  obtain ⟨es, e2, h⟩ := Option.bind_eq_some_iff.1 h
  split at h
  ·injection h with h; subst h; exact ⟨_, e2⟩
  ·exact ζgh f _ x h
end Go.Sw
end
section
namespace Go.Sw
open Go.RowKit
variable {σ : Type}
theorem ζmq {p : Plan} (hp : p.ok) {w : Int} (hw : w = 0 ∨ w = 1 ∨ w = 2) {rm more : List Int} (hrm : rm.length ≤ 1000) (h1 : p.cls.length ≤ 1000) (h2 : p.rows.length ≤ 1000) {g : Int} {m : Mach} (h : machS (planRoom p w rm ++ more) g w = some m) (hn : m.ents.length ≤ p.ents.length)
  {e : En} (he : e ∈ m.ents) : ∃ q, q ∈ p.ents ∧ e = entM w q := by
 have e1 := ζki p hp w rm more hrm h1 h2 g
 rw [h] at e1
 obtain ⟨x, hx, hm⟩ := Option.map_eq_some_iff.1 e1.symm
 obtain ⟨N, hN⟩ := ζgh _ _ _ hx
 have hme : m.ents = x.2 := by rw [← hm]
 rw [hme] at he hn
 obtain ⟨i, hi⟩ := List.getElem?_of_mem he
 obtain ⟨j, hj, hk⟩ := mapO_get hN hi
 have hil := (List.getElem?_eq_some_iff.1 hi).1
 have hlen := mapO_len hN
 simp at hlen
 rw [List.getElem?_range (by omega)] at hj
 injection hj with hj
 subst hj
 obtain ⟨q, hq⟩ : ∃ q, p.ents[i]? = some q := ⟨_, List.getElem?_eq_getElem (by omega)⟩
 have := ζjw hw more hq
 rw [this] at hk
 injection hk with hk
 exact ⟨q, List.mem_of_getElem? hq, hk.symm⟩
theorem runD_inv (m : Mach) (hm : m.ok) (ln : σ → List Gl) (f : σ → Int → En → σ × Int × Int) (P : σ → Prop) (hf : ∀ s i e, P s → 0 ≤ i → e ∈ m.ents → P (f s i e).1) (most : Int) :
  ∀ (n : Nat) (x : σ × Drv), P x.1 → 0 ≤ x.2.pl → 0 ≤ x.2.st → x.2.st < m.rows.length → P (runD m ln f most n x).2.2
 | 0, x, h, _, _, _ => h
 | n + 1, x, h, hp, h0, h1 => by
  have hmem := entS_mem hm (ln x.1) x.2 ⟨h0, h1⟩
  have hent := hm.ent _ hmem
  have hP : P (stepD m ln f x).1.1 := by unfold stepD; split <;> exact hf _ _ _ h hp hmem
  have hst : 0 ≤ (stepD m ln f x).1.2.st ∧ (stepD m ln f x).1.2.st < m.rows.length := by unfold stepD; split <;> exact ⟨hent.1, hent.2.1⟩
  have hpl := stepD_pl m ln f x
  unfold runD
  split
  ·split
   ·exact hP
   ·split
    ·exact hP
    ·exact runD_inv m hm ln f P hf most n _ hP hpl hst.1 hst.2
  ·exact h
theorem ζjq (m : Mach) (l : List Gl) (j : Nat) : (clsS m l j).2 = decide (l.length ≤ j) := by
 unfold clsS atG
 by_cases h2 : (j : Int) < l.length
 ·obtain ⟨g, hg⟩ : ∃ g, l[j]? = some g := ⟨_, List.getElem?_eq_getElem (by omega)⟩
  rw [if_pos ⟨by omega, h2⟩, Int.toNat_natCast, hg, decide_eq_false (by omega)]
 ·rw [if_neg (fun hc => h2 hc.2), decide_eq_true (by omega)]
theorem runD_go (m : Mach) (ln : σ → List Gl) (f : σ → Int → En → σ × Int × Int) (most : Int) (len : Nat) (hmost : (len : Int) < most) (P : Nat → σ → Int → Prop) (hlen : ∀ j s st, P j s st → (ln s).length = len)
  (hgo : ∀ (j : Nat) s st, j ≤ len → P j s st → ¬ (entS m (ln s) ⟨st, j, j, 0⟩).flags / 16384 % 2 = 1 ∧ (f s j (entS m (ln s) ⟨st, j, j, 0⟩)).2.2 = (j : Int) + 1 ∧ (j < len → P (j + 1) (f s j (entS m (ln s) ⟨st, j, j, 0⟩)).1 (entS m (ln s) ⟨st, j, j, 0⟩).next)) :
  ∀ (c j n : Nat) (z : Int) (s : σ) (st : Int), z = j → len = j + c → c < n → P j s st → ∃ s' st', P len s' st' ∧ runD m ln f most n (s, ⟨st, z, z, 0⟩) = ((len : Int) + 1, 0, (f s' len (entS m (ln s') ⟨st', len, len, 0⟩)).1)
 | c, j, 0, z, s, st, _, _, h, _ => by omega
 | 0, j, n + 1, z, s, st, hz, hj, hn, hP => by
  subst hz
  obtain ⟨g1, g2, _⟩ := hgo j s st (by omega) hP
  have hl := hlen j s st hP
  have hjl : j = len := by omega
  subst hjl
  refine ⟨s, st, hP, ?_⟩
  unfold runD
  rw [if_pos (by dsimp only; omega)]
  unfold stepD
  dsimp only
  rw [if_neg g1, ζjq, hl, decide_eq_true (Nat.le_refl _)]
  rfl
 | c + 1, j, n + 1, z, s, st, hz, hj, hn, hP => by
  subst hz
  obtain ⟨g1, g2, g3⟩ := hgo j s st (by omega) hP
  have hl := hlen j s st hP
  have ih := runD_go m ln f most len hmost P hlen hgo c (j + 1) n _ _ _ rfl (by omega) (by omega) (g3 (by omega))
  unfold runD
  rw [if_pos (by dsimp only; omega)]
  unfold stepD
  dsimp only
  rw [if_neg g1, ζjq, hl, decide_eq_false (by omega), g2]
  simp only [Bool.false_eq_true, if_false]
  rw [if_neg (by decide), show max ((j : Int) + 1) 0 = ((j + 1 : Nat) : Int) by omega, show (j : Int) + 1 = ((j + 1 : Nat) : Int) by omega]
  exact ih
end Go.Sw
end
section
namespace Go.Sw
open Go.RowKit
theorem ζm6 {z : Nat} {rs : List (List Int)} (h : ∀ r, r ∈ rs → r.length = z) (x : List Int) {i : Nat} {r : List Int} (hi : rs[i]? = some r) : pieceS (rs.flatten ++ x) ((z * i : Nat) : Int) z = some r := by
 have hlt := (List.getElem?_eq_some_iff.1 hi).1
 have hl := flat_len h
 have hm : (i + 1) * z ≤ rs.length * z := Nat.mul_le_mul_right _ hlt
 rw [Nat.add_mul, Nat.one_mul, Nat.mul_comm i z] at hm
 have hc := flat_cut h i hlt
 rw [hi] at hc
 injection hc with hc
 generalize z * i = k at hm hc ⊢
 unfold pieceS
 rw [if_pos ⟨by omega, by omega, by rw [List.length_append]; omega, by rw [List.length_append]; omega⟩]
 rw [Int.toNat_natCast, Int.toNat_natCast, List.drop_append_of_le_length (by omega), List.take_append_of_le_length (by rw [List.length_drop]; omega), ← hc]
theorem ζad (p : Plan) (w : Int) (rm rm' : List Int) (h : rm.length = rm'.length) : (planRoom p w rm).length = (planRoom p w rm').length := by
 unfold planRoom
 simp [h]
theorem get_nil (g : Int) : getS ([] : List Pt) g = none := rfl
theorem tab_get (s : List Int) (id : Int) : getS (tabOf s).2 id = if 0 ≤ id then s[id.toNat]? else none := by
 unfold tabOf
 by_cases hc : s = []
 ·subst hc; simp [get_nil]
 ·rw [if_neg hc]
  have hpos : 0 < s.length := List.length_pos_iff.2 hc
  unfold getS
  by_cases h1 : id ≤ (s.length : Int) - 1
  ·rw [show ([(⟨0, (s.length : Int) - 1, s⟩ : Pt)]).find? (fun p => decide (id ≤ p.last)) = some ⟨0, (s.length : Int) - 1, s⟩ by simp [List.find?, h1], Option.bind_some]
   by_cases h0 : 0 ≤ id
   ·rw [if_pos h0, if_pos h0]
    unfold Pt.num
    dsimp only
    rw [show (min (id - 0) ((s.length : Int) - 1)).toNat = id.toNat by omega]
   ·rw [if_neg h0, if_neg h0]
  ·rw [show ([(⟨0, (s.length : Int) - 1, s⟩ : Pt)]).find? (fun p => decide (id ≤ p.last)) = none by simp [List.find?, h1]]
   by_cases h0 : 0 ≤ id
   ·rw [if_pos h0, List.getElem?_eq_none (by omega)]; rfl
   ·rw [if_neg h0]; rfl
end Go.Sw
end
section
namespace Go.Sw
open Go.RowKit
theorem ζiw (p : Plan) (w : Int) (n : Nat) : ∃ hd tl : List Int, hd.length = 16 ∧ ∀ rm : List Int, rm.length = n → planRoom p w rm = hd ++ (rm ++ tl) := by
 refine ⟨bytesOf (planN p : Int) 4 ++ (bytesOf (16 + n : Int) 4 ++ (bytesOf (16 + n + (ofS p.cls).length : Int) 4 ++ bytesOf (16 + n + (ofS p.cls).length + (rowsL (planN p) p.rows).length : Int) 4)), ofS p.cls ++ (rowsL (planN p) p.rows ++ entsB w p.ents), by simp, fun rm h => ?_⟩
 unfold planRoom
 rw [h]
 simp only [List.append_assoc]
theorem room_u (p : Plan) (w : Int) (pre post more : List Int) (n i : Int) (hi : i = 16 + pre.length) (h0 : 0 ≤ n) (hn : n < 4294967296) : uS (planRoom p w (pre ++ (bytesOf n 4 ++ post)) ++ more) i 4 = some n := by
 obtain ⟨hd, tl, h16, hs⟩ := ζiw p w (pre ++ (bytesOf n 4 ++ post)).length
 rw [hs _ rfl]
 have := uS_at (hd ++ pre) (post ++ (tl ++ more)) (n := n) (k := 4) i 4 (by rw [hi]; simp; omega) rfl h0 (by omega)
 simpa only [List.append_assoc] using this
theorem ζhu (p : Plan) (w : Int) (rm a b : List Int) (i : Int) (hi : i = (planRoom p w rm).length + a.length) : restS (planRoom p w rm ++ (a ++ b)) i = some b := by
 unfold restS
 rw [if_pos ⟨by omega, by rw [List.length_append, List.length_append]; omega⟩]
 congr 1
 rw [show i.toNat = (planRoom p w rm ++ a).length by rw [List.length_append]; omega, ← List.append_assoc]
 exact List.drop_left
theorem twos_byt (l : List Int) : Byt (twos l) := Byt.flat fun r hr => by
 obtain ⟨x, _, rfl⟩ := List.mem_map.1 hr
 exact ζ19 _ _
end Go.Sw
end
section
namespace Go.Sw
open Go.RowKit
theorem ζin {β : Type} {f : Nat → Option β} {l : List β} (h : ∀ (i : Nat) y, l[i]? = some y → f i = some y) {n : Nat} (hn : n ≤ l.length) : mapO f (List.range n) = some (l.take n) := by
 refine ζk8 (by simp; omega) fun i x y hx hy => ?_
 rw [List.getElem?_take] at hy
 split at hy
 ·rename_i hi
  rw [List.getElem?_range hi] at hx
  injection hx with hx
  subst hx
  exact h i y hy
 ·cases hy
theorem needE_of {es : List En} {S : Int} (h2 : 2 ≤ S) (h : ∀ e, e ∈ es → e.next < S) : needE es ≤ S := by
 have := needL_lt (l := es.map En.next) (n := S) (by omega) fun x hx => by
  obtain ⟨e, he, rfl⟩ := List.mem_map.1 hx
  exact h e he
 unfold needE
 omega
theorem ζi4 {n : Nat} (hn : 0 < n) {w : Int} (hw : w = 0 ∨ w = 1 ∨ w = 2) {rs : List (List Int)} {es : List En} (hb : ∀ r, r ∈ rs → Byt r) (hcell : ∀ r, r ∈ rs → ∀ x, x ∈ rowL n r → x < (es.length : Int)) (hnx : ∀ e, e ∈ es → m16 e.next < (rs.length : Int)) (x y : List Int) :
  ∀ (f s : Nat), 2 ≤ s → s ≤ rs.length → 65537 - s ≤ f → s ≤ 65536 → ∃ r, closeS (rowsL n rs ++ x) (entsB w es ++ y) n w f s = some r ∧ r.1.length ≤ rs.length ∧ (∃ s', r.1 = (rs.map (rowL n)).take s') ∧ (∃ N, r.2 = (es.map (entM w)).take N)
 | 0, s, _, _, h1, h2 => by omega
 | f + 1, s, h2, hs, hf, h6 => by
  have e1 : rowsTo (rowsL n rs ++ x) n s = some ((rs.map (rowL n)).take s) := ζin (fun i r hr => by
   rw [List.getElem?_map] at hr
   obtain ⟨q, hq, rfl⟩ := Option.map_eq_some_iff.1 hr
   exact ζom hn hb x hq) (by simpa using hs)
  have hneed : needR ((rs.map (rowL n)).take s) ≤ (es.length : Int) := by
   refine needL_lt (by omega) fun y hy => ?_
   obtain ⟨r, hr, hyr⟩ := List.mem_flatten.1 hy
   obtain ⟨q, hq, rfl⟩ := List.mem_map.1 (List.mem_of_mem_take hr)
   exact hcell q hq y hyr
  have h0 := ζ58 ((rs.map (rowL n)).take s)
  have e2 : entsTo (entsB w es ++ y) w (needR ((rs.map (rowL n)).take s)).toNat = some ((es.map (entM w)).take (needR ((rs.map (rowL n)).take s)).toNat) := ζin (fun i r hr => by
   rw [List.getElem?_map] at hr
   obtain ⟨q, hq, rfl⟩ := Option.map_eq_some_iff.1 hr
   exact ζjw hw y hq) (by simp; omega)
  have h3 : needE ((es.map (entM w)).take (needR ((rs.map (rowL n)).take s)).toNat) ≤ (rs.length : Int) := needE_of (by omega) fun e he => by
   obtain ⟨q, hq, rfl⟩ := List.mem_map.1 (List.mem_of_mem_take he)
   exact hnx q hq
  simp only [closeS]
  rw [e1, Option.bind_some, e2, Option.bind_some]
  split
  ·exact ⟨_, rfl, by simp; omega, ⟨s, rfl⟩, ⟨_, rfl⟩⟩
  ·rename_i hgt
   exact ζi4 hn hw hb hcell hnx x y f _ (by omega) (by omega) (by omega) (by
    have : 2 ≤ needE ((es.map (entM w)).take (needR ((rs.map (rowL n)).take s)).toNat) := by unfold needE; omega
    by_cases hle : (rs.length : Nat) ≤ 65536
    ·omega
    ·have hlt : needE ((es.map (entM w)).take (needR ((rs.map (rowL n)).take s)).toNat) ≤ 65536 := needE_of (by omega) fun e he => by
      obtain ⟨q, hq, rfl⟩ := List.mem_map.1 (List.mem_of_mem_take he)
      exact (ζ5j q.next).2
     omega)
structure Reads (p : Plan) (w : Int) (m : Mach) : Prop where
 classes : m.classes = planN p
 tab : m.tab = tabOf p.cls
 few : m.rows.length ≤ p.rows.length
 row : ∀ (s : Nat) r, m.rows[s]? = some r → ∃ q, p.rows[s]? = some q ∧ r = rowL (planN p) q
 ent : ∀ (i : Nat) e, m.ents[i]? = some e → ∃ q, p.ents[i]? = some q ∧ e = entM w q
theorem ζlh {p : Plan} (hp : p.ok) {w : Int} (hw : w = 0 ∨ w = 1 ∨ w = 2) {rm more : List Int} (hrm : rm.length ≤ 1000) (h1 : p.cls.length ≤ 1000) (h2 : p.rows.length ≤ 1000) (hS : 2 ≤ p.rows.length)
  (hcell : ∀ r, r ∈ p.rows → ∀ x, x ∈ rowL (planN p) r → x < (p.ents.length : Int)) (hnx : ∀ e, e ∈ p.ents → m16 e.next < (p.rows.length : Int)) (g : Int) : ∃ m, machS (planRoom p w rm ++ more) g w = some m ∧ Reads p w m := by
 have e1 := ζki p hp w rm more hrm h1 h2 g
 obtain ⟨r, hr, h3, ⟨s', h4⟩, ⟨N, h5⟩⟩ := ζi4 (n := planN p) (by unfold planN; omega) hw hp.2.1 hcell hnx (entsB w p.ents ++ more) more (65538 - 2) 2 (Nat.le_refl _) hS (by omega) (by omega)
 unfold closeA at e1
 rw [hr, Option.map_some] at e1
 refine ⟨_, e1, rfl, rfl, h3, fun s q hq => ?_, fun i e he => ?_⟩
 ·dsimp only at hq
  rw [h4, List.getElem?_take] at hq
  split at hq
  ·rw [List.getElem?_map] at hq
   obtain ⟨q', hq', rfl⟩ := Option.map_eq_some_iff.1 hq
   exact ⟨q', hq', rfl⟩
  ·cases hq
 ·dsimp only at he
  rw [h5, List.getElem?_take] at he
  split at he
  ·rw [List.getElem?_map] at he
   obtain ⟨q', hq', rfl⟩ := Option.map_eq_some_iff.1 he
   exact ⟨q', hq', rfl⟩
  ·cases he
theorem Reads.step {p : Plan} {w : Int} {m : Mach} (h : Reads p w m) (hm : m.ok) {s c : Nat} (hs : s < m.rows.length) (hc : c < planN p) {q : List Int} (hq : p.rows[s]? = some q) :
  ∃ e, p.ents[(q[c]?.getD 0).toNat]? = some e ∧ stepS m s c = some (entM w e) := by
 obtain ⟨r, hr⟩ : ∃ r, m.rows[s]? = some r := ⟨_, List.getElem?_eq_getElem hs⟩
 obtain ⟨q', hq', rfl⟩ := h.row s r hr
 rw [hq] at hq'
 injection hq' with hq'
 subst hq'
 obtain ⟨r', x, e, h1, h2, h3, h4, h5⟩ := ζfp hm (s := (s : Int)) (c := (c : Int)) ⟨by omega, by omega, by omega, by rw [h.classes]; omega⟩
 rw [Int.toNat_natCast, hr] at h1
 injection h1 with h1
 subst h1
 rw [Int.toNat_natCast] at h2
 have hx : (rowL (planN p) q)[c]? = some (q[c]?.getD 0) := by
  unfold rowL
  rw [List.getElem?_map, List.getElem?_range hc]
  rfl
 rw [hx] at h2
 injection h2 with h2
 subst h2
 obtain ⟨e', he', rfl⟩ := h.ent _ e h4
 exact ⟨e', he', h5⟩
theorem Reads.entS {p : Plan} {w : Int} {m : Mach} (h : Reads p w m) (hm : m.ok) (l : List Gl) {st : Nat} (j x y : Int) (hst : st < m.rows.length) :
  ∃ q e, p.rows[st]? = some q ∧ p.ents[(q[(clsS m l j).1.toNat]?.getD 0).toNat]? = some e ∧ entS m l ⟨st, j, x, y⟩ = entM w e := by
 have hb := ζei hm l j
 rw [h.classes] at hb
 obtain ⟨r, hr⟩ : ∃ r, m.rows[st]? = some r := ⟨_, List.getElem?_eq_getElem hst⟩
 obtain ⟨q, hq, _⟩ := h.row st r hr
 obtain ⟨e, he, hs⟩ := h.step hm (c := (clsS m l j).1.toNat) hst (by omega) hq
 refine ⟨q, e, hq, he, ?_⟩
 unfold Go.Sw.entS
 dsimp only
 rw [show (((clsS m l j).1.toNat : Nat) : Int) = (clsS m l j).1 by omega] at hs
 rw [hs]
 rfl
end Go.Sw
end
section
namespace Go.Sw
open Go.RowKit
variable {σ : Type}
def twoPlan (cls : List Int) (e0 e1 e2 : En) : Plan := ⟨cls, [[0, 0, 0, 0, 1, 2], [0, 0, 0, 0, 1, 2]], [e0, e1, e2], 2⟩
theorem ζft {cls : List Int} (hc : Byt cls) (e0 e1 e2 : En) : (twoPlan cls e0 e1 e2).ok := by
 refine ⟨hc, fun r hr x hx => ?_, (by decide : (0 : Int) ≤ 2), (by decide : (2 : Int) < 256)⟩
 have hr : r = [0, 0, 0, 0, 1, 2] := by simpa [twoPlan] using hr
 subst hr
 have hx : x = 0 ∨ x = 1 ∨ x = 2 := by simpa using hx
 omega
theorem two_mach {cls : List Int} (hc : Byt cls) (hl : cls.length ≤ 1000) {e0 e1 e2 : En} (h0 : m16 e0.next < 2) (h1 : m16 e1.next < 2) (h2 : m16 e2.next < 2) {w : Int} (hw : w = 0 ∨ w = 1 ∨ w = 2) (rm more : List Int) (hrm : rm.length ≤ 1000) (g : Int) :
  ∃ m, machS (planRoom (twoPlan cls e0 e1 e2) w rm ++ more) g w = some m ∧ Reads (twoPlan cls e0 e1 e2) w m :=
 ζlh (p := twoPlan cls e0 e1 e2) (ζft hc e0 e1 e2) (w := w) hw (rm := rm) (more := more) hrm hl (by simp [twoPlan]) (by simp [twoPlan])
  (fun r hr x hx => by
   obtain ⟨i, hi, rfl⟩ := List.mem_map.1 hx
   have hi := List.mem_range.1 hi
   have hn : planN (twoPlan cls e0 e1 e2) = 6 := rfl
   rw [hn] at hi
   have hr : r = [0, 0, 0, 0, 1, 2] := by simpa [twoPlan] using hr
   have : i = 0 ∨ i = 1 ∨ i = 2 ∨ i = 3 ∨ i = 4 ∨ i = 5 := by omega
   have hl : ((twoPlan cls e0 e1 e2).ents.length : Int) = 3 := rfl
   rw [hl]
   subst hr
   rcases this with rfl | rfl | rfl | rfl | rfl | rfl <;> decide)
  (fun e he => by
   have he : e = e0 ∨ e = e1 ∨ e = e2 := by simpa [twoPlan] using he
   have hl : ((twoPlan cls e0 e1 e2).rows.length : Int) = 2 := rfl
   rw [hl]
   rcases he with rfl | rfl | rfl <;> assumption) g
def twoCls (cls : List Int) (id : Int) : Int := if id = 65535 then 2 else if 0 ≤ id then (match cls[id.toNat]? with | some c => if c < 6 then c else 1 | none => 1) else 1
theorem ζoy {cls : List Int} {e0 e1 e2 : En} {w : Int} {m : Mach} (hr : Reads (twoPlan cls e0 e1 e2) w m) (id : Int) : classS m id = twoCls cls id := by
 have hn : m.classes = 6 := hr.classes.trans (by rfl)
 have ht : getS m.tab.2 id = if 0 ≤ id then cls[id.toNat]? else none := by rw [hr.tab]; exact tab_get cls id
 unfold classS twoCls
 rw [ht, hn]
 by_cases c1 : id = 65535
 ·rw [if_pos c1, if_pos c1]
 ·rw [if_neg c1, if_neg c1]
  by_cases c2 : 0 ≤ id
  ·rw [if_pos c2, if_pos c2] <;> rfl
  ·rw [if_neg c2, if_neg c2]
def twoEnt (e0 e1 e2 : En) (c : Int) : En := if c = 4 then e1 else if c = 5 then e2 else e0
def twoAt (cls : List Int) (e0 e1 e2 : En) (l : List Gl) (j : Nat) : En := match l[j]? with | some g => twoEnt e0 e1 e2 (twoCls cls g.id) | none => e0
theorem two_ent {cls : List Int} {e0 e1 e2 : En} {w : Int} {m : Mach} (hr : Reads (twoPlan cls e0 e1 e2) w m) (hm : m.ok) (l : List Gl) {st : Nat} (hst : st = 0 ∨ st = 1) (j : Nat) (x y : Int) :
  entS m l ⟨(st : Int), (j : Int), x, y⟩ = entM w (twoAt cls e0 e1 e2 l j) := by
 have h2 := hm.two
 obtain ⟨q, e, hq, he, hs⟩ := hr.entS hm l (st := st) (j : Int) x y (by omega)
 rw [hs]
 congr 1
 have hq : q = [0, 0, 0, 0, 1, 2] := by
  rcases hst with rfl | rfl <;> (have := Option.some.inj hq; exact this.symm)
 subst hq
 have hcb := ζei hm l (j : Int)
 rw [hr.classes.trans (by rfl : (planN (twoPlan cls e0 e1 e2) : Int) = 6)] at hcb
 have hat : twoAt cls e0 e1 e2 l j = twoEnt e0 e1 e2 (clsS m l (j : Int)).1 := by
  unfold twoAt clsS atG
  by_cases hj : j < l.length
  ·obtain ⟨g, hg⟩ : ∃ g, l[j]? = some g := ⟨_, List.getElem?_eq_getElem hj⟩
   rw [if_pos ⟨by omega, by omega⟩, Int.toNat_natCast, hg]
   dsimp only
   rw [ζoy hr]
  ·rw [if_neg (fun hc => hj (by omega)), List.getElem?_eq_none (by omega)]
   rfl
 rw [hat]
 generalize (clsS m l (j : Int)).1 = c at he hcb
 have : c = 0 ∨ c = 1 ∨ c = 2 ∨ c = 3 ∨ c = 4 ∨ c = 5 := by omega
 rcases this with rfl | rfl | rfl | rfl | rfl | rfl <;> (have he := Option.some.inj he; subst he; rfl)
theorem two_go {cls : List Int} {e0 e1 e2 : En} {w : Int} {m : Mach} (hr : Reads (twoPlan cls e0 e1 e2) w m) (hm : m.ok) (hnx : ∀ e, e = e0 ∨ e = e1 ∨ e = e2 → (m16 e.next = 0 ∨ m16 e.next = 1) ∧ ¬ m16 e.flags / 16384 % 2 = 1)
  (ln : σ → List Gl) (f : σ → Int → En → σ) (len : Nat) (Inv : Nat → σ → Prop) (hlen : ∀ j s, Inv j s → (ln s).length = len) (hstep : ∀ j s, j < len → Inv j s → Inv (j + 1) (f s j (entM w (twoAt cls e0 e1 e2 (ln s) j)))) (s0 : σ) (h0 : Inv 0 s0) :
  ∃ s', Inv len s' ∧ runD m ln (fun s i e => (f s i e, i, i + 1)) (2 * (len : Int) + 128) (2 * len + 128) (s0, ⟨0, 0, 0, 0⟩) = ((len : Int) + 1, 0, f s' len (entM w e0)) := by
 have hat : ∀ l j, twoAt cls e0 e1 e2 l j = e0 ∨ twoAt cls e0 e1 e2 l j = e1 ∨ twoAt cls e0 e1 e2 l j = e2 := fun l j => by
  unfold twoAt
  split
  ·unfold twoEnt
   split
   ·exact .inr (.inl rfl)
   ·split
    ·exact .inr (.inr rfl)
    ·exact .inl rfl
  ·exact .inl rfl
 obtain ⟨s', st', ⟨h1, k, hk, hk2⟩, hrun⟩ := runD_go m ln (fun s i e => (f s i e, i, i + 1)) (2 * (len : Int) + 128) len (by omega)
  (fun j s st => Inv j s ∧ ∃ k : Nat, (k = 0 ∨ k = 1) ∧ st = (k : Int)) (fun j s st h => hlen j s h.1)
  (fun j s st hj ⟨hI, k, hk, hst⟩ => by
   subst hst
   have he := two_ent hr hm (ln s) hk j j 0
   rw [he]
   have hx := hnx _ (hat (ln s) j)
   refine ⟨hx.2, rfl, fun hjl => ⟨hstep j s hjl hI, (m16 (twoAt cls e0 e1 e2 (ln s) j).next).toNat, ?_, ?_⟩⟩
   ·have := hx.1; omega
   ·show m16 _ = _
    have := hx.1; omega) len 0 (2 * len + 128) 0 s0 0 rfl (by omega) (by omega) ⟨h0, 0, .inl rfl, rfl⟩
 subst hk2
 refine ⟨s', h1, ?_⟩
 rw [hrun]
 have he := two_ent hr hm (ln s') hk len len 0
 have hn : twoAt cls e0 e1 e2 (ln s') len = e0 := by
  unfold twoAt
  rw [List.getElem?_eq_none (by rw [hlen _ _ h1]; exact Nat.le_refl _)]
 rw [he, hn]
end Go.Sw
end
section
set_option maxRecDepth 100000
set_option linter.unusedVariables false
namespace Go.Sw
noncomputable section
end
end Go.Sw
end
section
set_option maxRecDepth 100000
set_option linter.unusedVariables false
namespace Go.Sw
noncomputable section
end
end Go.Sw
end
section
namespace Go.Sw
structure Pl where
 adv : Int
 x : Int
 y : Int
 deriving DecidableEq
def Pl.ok (p : Pl) : Prop := (-2147483648 ≤ p.adv ∧ p.adv ≤ 2147483647) ∧ (-2147483648 ≤ p.x ∧ p.x ≤ 2147483647) ∧ (-2147483648 ≤ p.y ∧ p.y ≤ 2147483647)
end Go.Sw
end
section
namespace Go.Sw
end Go.Sw
end
section
namespace Go.Sw
end Go.Sw
end
section
namespace Go.Sw
end Go.Sw
end
section
namespace Go.Sw
open Go.RowKit
end Go.Sw
end
section
namespace Go.Sw
open Go.RowKit
end Go.Sw
end
section
namespace Go.Sw
open Go.RowKit
def oddB (vs : List Int) (a : Int) : Bool := (List.range (vs.length / 2)).any fun i => decide (a ≤ (i : Int) ∧ gU vs (2 * (i : Int)) 2 % 2 = 1)
structure STab where
 m : Mach
 vals : List Int
structure STab.ok (t : STab) : Prop where
 m : t.m.ok
 byt : Byt t.vals
 len : t.vals.length < 2 ^ 31
 has : ∀ e, e ∈ t.m.ents → e.a = 65535 ∨ oddB t.vals e.a = true
end Go.Sw
end
section
namespace Go.Sw
open Go.RowKit
end Go.Sw
end
section
namespace Go.Sw
open Go.RowKit
theorem and_pow (n k : Nat) : n &&& 2 ^ k = if n.testBit k then 2 ^ k else 0 := by
 apply Nat.eq_of_testBit_eq
 intro i
 rw [Nat.testBit_and, Nat.testBit_two_pow]
 by_cases h : k = i
 ·subst h
  cases hb : n.testBit k
  ·simp
  ·simp
 ·cases hb : n.testBit k
  ·simp [h]
  ·simp only [h, decide_false, Bool.and_false, if_true, Nat.testBit_two_pow]
theorem bin_andP (P : Program) (t : TypeId) (H : Heap) (k : Nat) (hk : k < 62) {a : Int} (h0 : 0 ≤ a) (h1 : a < 2 ^ 62) (m : Int) (hm : m = ((2 ^ k : Nat) : Int)) :
  binR P .and t (.int .i64 a) (.int .i64 m) H = .ok (.int .i64 (if a / m % 2 = 1 then m else 0)) H := by
 obtain ⟨n, rfl⟩ := Int.eq_ofNat_of_zero_le h0
 have hp : 2 ^ k ≤ 2 ^ 61 := Nat.pow_le_pow_right (by decide) (by omega)
 have hp0 : 0 < 2 ^ k := Nat.two_pow_pos k
 have e : (BitVec.ofInt 64 (n : Int) &&& BitVec.ofInt 64 m).toNat = if n.testBit k then 2 ^ k else 0 := by
  rw [BitVec.toNat_and, BitVec.toNat_ofInt, BitVec.toNat_ofInt, hm]
  rw [show (((n : Int)) % ((2 ^ 64 : Nat) : Int)).toNat = n by omega, show ((((2 ^ k : Nat) : Int)) % ((2 ^ 64 : Nat) : Int)).toNat = 2 ^ k by omega, and_pow]
 have e1 : binV P .and t (.int .i64 (n : Int)) (.int .i64 m) = some (.int .i64 (IntKind.i64.wrap (BitVec.ofInt 64 (n : Int) &&& BitVec.ofInt 64 m).toNat)) := rfl
 unfold binR
 rw [e1, e, Nat.testBit_eq_decide_div_mod_eq]
 have hd : (n : Int) / m = ((n / 2 ^ k : Nat) : Int) := by rw [hm, Int.natCast_ediv]
 rw [hd]
 by_cases h : n / 2 ^ k % 2 = 1
 ·rw [decide_eq_true h, if_pos rfl, if_pos (by omega), wrap_i64 (by omega) (by omega), hm]; rfl
 ·rw [decide_eq_false h, if_neg (by simp), if_neg (by omega)]; rfl
theorem and13 (P : Program) (t : TypeId) (H : Heap) {a : Int} (h0 : 0 ≤ a) (h1 : a < 65536) : binR P .and t (.int .i64 a) (.int .i64 8192) H = .ok (.int .i64 (if a / 8192 % 2 = 1 then 8192 else 0)) H := bin_andP P t H 13 (by decide) h0 (by omega) 8192 rfl
theorem and31 (P : Program) (t : TypeId) (H : Heap) {a : Int} (h0 : 0 ≤ a) (h1 : a < 4294967296) : binR P .and t (.int .i64 a) (.int .i64 2147483648) H = .ok (.int .i64 (if a ≥ 2147483648 then 2147483648 else 0)) H := by
 rw [bin_andP P t H 31 (by decide) h0 (by omega) 2147483648 rfl]
 by_cases h : a ≥ 2147483648
 ·rw [if_pos h, if_pos (by omega)]
 ·rw [if_neg h, if_neg (by omega)]
def andN (a m : Int) : Int := IntKind.i64.wrap (BitVec.ofInt 64 a &&& ~~~(BitVec.ofInt 64 m)).toNat
theorem bin_andN (P : Program) (t : TypeId) (H : Heap) (a m : Int) : binR P .andNot t (.int .i64 a) (.int .i64 m) H = .ok (.int .i64 (andN a m)) H := rfl
theorem m16_wrap (N : Nat) (h : N < 2 ^ 64) : m16 (IntKind.i64.wrap (N : Int)) = (N : Int) % 65536 := by
 unfold m16 IntKind.wrap
 simp [IntKind.signed, IntKind.bits]
 split <;> omega
theorem andN_bit (a : Int) (k : Nat) (hk : k < 16) (m : Int) (hm : m = ((2 ^ k : Nat) : Int)) : m16 (andN a m) / m % 2 = 0 := by
 have hp : 2 ^ k ≤ 2 ^ 15 := Nat.pow_le_pow_right (by decide) (by omega)
 have hb : (BitVec.ofInt 64 a &&& ~~~(BitVec.ofInt 64 m)).toNat.testBit k = false := by
  rw [← BitVec.getLsbD, BitVec.getLsbD_and, BitVec.getLsbD_not]
  have : (BitVec.ofInt 64 m).getLsbD k = true := by
   unfold BitVec.getLsbD
   rw [BitVec.toNat_ofInt, hm]
   have : ((((2 ^ k : Nat) : Int)) % ((2 ^ 64 : Nat) : Int)).toNat = 2 ^ k := by
    generalize 2 ^ k = M at hp ⊢
    omega
   rw [this, Nat.testBit_two_pow_self]
  rw [this]
  simp
 have hlt := (BitVec.ofInt 64 a &&& ~~~(BitVec.ofInt 64 m)).isLt
 unfold andN
 generalize (BitVec.ofInt 64 a &&& ~~~(BitVec.ofInt 64 m)).toNat = N at hb hlt ⊢
 rw [m16_wrap N hlt]
 rw [Nat.testBit_eq_decide_div_mod_eq, decide_eq_false_iff_not] at hb
 have e1 : ((N : Int) % 65536) = ((N % 65536 : Nat) : Int) := by omega
 have e2 : ((N % 65536 : Nat) : Int) / m = ((N % 65536 / 2 ^ k : Nat) : Int) := by rw [hm, Int.natCast_ediv]
 rw [e1, e2]
 have e3 : N % 65536 / 2 ^ k % 2 = N / 2 ^ k % 2 := by
  have hk2 : 65536 = 2 ^ k * (2 * 2 ^ (15 - k)) := by
   rw [← Nat.pow_succ', ← Nat.pow_add, show k + (15 - k + 1) = 16 by omega]
  rw [hk2, Nat.mod_mul_right_div_self, Nat.mod_mul_right_mod]
 omega
end Go.Sw
end
section
set_option maxRecDepth 100000
set_option linter.unusedVariables false
namespace Go.Sw
noncomputable section
end
end Go.Sw
end
section
namespace Go.Sw
open Go.RowKit
theorem Star.same {H0 H : Heap} {L : List It} (h : Star H0 H L) (i : Nat) {x : It} (hi : L[i]? = some x) (y : It) (hy : y.P H) (ho : ∀ b, b ∈ y.o → b ∈ x.o) : Star H0 H (L.set i y) :=
 h.step i hi (Nat.le_refl _) (fun _ _ _ => rfl) y hy fun b hb => .inl (ho b hb)
end Go.Sw
end
section
namespace Go.Sw
open Go.RowKit
end Go.Sw
end
section
namespace Go.Sw
open Go.RowKit
theorem ζne (n : Nat) : n &&& 2 ^ 15 = if n.testBit 15 then 2 ^ 15 else 0 := by
 apply Nat.eq_of_testBit_eq
 intro i
 rw [Nat.testBit_and, Nat.testBit_two_pow]
 by_cases h : 15 = i
 ·subst h
  cases hb : n.testBit 15 <;> simp <;> decide
 ·cases hb : n.testBit 15
  ·simp [h]
  ·simp only [h, decide_false, Bool.and_false, if_true, Nat.testBit_two_pow]
theorem and15 (P : Program) (t : TypeId) (H : Heap) {a : Int} (h0 : 0 ≤ a) (h1 : a < 65536) : binR P .and t (.int .i64 a) (.int .i64 32768) H = .ok (.int .i64 (if a ≥ 32768 then 32768 else 0)) H := by
 have e : (BitVec.ofInt 64 a &&& BitVec.ofInt 64 32768).toNat = (if a ≥ 32768 then 32768 else 0) := by
  rw [BitVec.toNat_and, BitVec.toNat_ofInt, BitVec.toNat_ofInt]
  rw [show ((32768 : Int) % ((2 ^ 64 : Nat) : Int)).toNat = 2 ^ 15 from by decide, ζne, Nat.testBit_eq_decide_div_mod_eq]
  obtain ⟨n, rfl⟩ := Int.eq_ofNat_of_zero_le h0
  rw [show (((n : Int)) % ((2 ^ 64 : Nat) : Int)).toNat = n by omega]
  by_cases h : (n : Int) ≥ 32768
  ·rw [if_pos h, decide_eq_true (show n / 2 ^ 15 % 2 = 1 by omega)]; rfl
  ·rw [if_neg h, decide_eq_false (show ¬ n / 2 ^ 15 % 2 = 1 by omega)]; rfl
 have e1 : binV P .and t (.int .i64 a) (.int .i64 32768) = some (.int .i64 (IntKind.i64.wrap (BitVec.ofInt 64 a &&& BitVec.ofInt 64 32768).toNat)) := rfl
 unfold binR
 rw [e1, e]
 by_cases h : a ≥ 32768
 ·simp [h]
 ·simp [h]
end Go.Sw
end
section
namespace Go.Sw
open Go.RowKit
theorem plainNew (k : Nat) (f : Fn) (a b : Array Value) (H : Heap) : R (T k) F.ζ54 [.func f a b] H = .ok (.func (.func F.ζ1k) #[] #[ptrV H.n]) (H.push ⟨[.func f a b], 1, false⟩) := by
 rw [ζi6]
 have e : ζ54 k (R (T k)) (.func f a b) H = .ok (.func (.func F.ζ1k) #[] #[ptrV H.n]) (H.push ⟨[.func f a b], 1, false⟩) := by
  simp -implicitDefEqProofs [ζ54]
 rw [e]
 have dead : ¬ Alive H (.func (.func F.ζ1k) #[] #[ptrV H.n]) := fun h => by
  cases h with
  | func fn xs ys h1 h2 =>
   have := h2 0 (ptrV H.n) rfl
   cases this with
   | ptr b off k hg => have := Heap.get_lt hg; omega
 unfold nrm
 exact if_neg fun hc => dead hc.2
end Go.Sw
end
section
namespace Go.Sw
open Go.RowKit
theorem veq_Ens (l : List En) : veq (lv encEn l) (lv encEn l) = true := veq_lv fun p _ v hv => by
 simp [encEn] at hv
 rcases hv with rfl | rfl | rfl | rfl <;> simp
theorem veq_Is (l : List Int) : veq (lv encI l) (lv encI l) = true := veq_lv fun p _ v hv => by
 simp [encI] at hv
 subst hv; simp
theorem veq_Rows (l : List (List Int)) : veq (lv encRow l) (lv encRow l) = true := veq_lv fun p _ v hv => by
 simp [encRow] at hv
 subst hv; exact veq_Is p
theorem veq_mach (m : Mach) : veq (machV m) (machV m) = true := veq_boxV (l := [.int .i64 m.classes, tabV m.tab, lv encRow m.rows, lv encEn m.ents]) fun v hv => by
 simp at hv
 rcases hv with rfl | rfl | rfl | rfl
 ·simp
 ·exact veq_tab _
 ·exact veq_Rows _
 ·exact veq_Ens _
end Go.Sw
end
section
namespace Go.Sw
open Go.RowKit
theorem Star.perm {H0 H : Heap} {L L' : List It} (h : Star H0 H L) (hp : L.Perm L') : Star H0 H L' := by
 have hpw : L.Pairwise fun x y => ∀ b, b ∈ x.o → b ∉ y.o := List.pairwise_iff_getElem.2 fun i j hi hj hij b hb => h.2.2 i j _ _ (by omega) (List.getElem?_eq_getElem hi) (List.getElem?_eq_getElem hj) b hb
 have hpw' := (hp.pairwise_iff (fun {x y} hxy b hb hb2 => hxy b hb2 hb)).1 hpw
 refine ⟨h.1, fun i x hx => ?_, fun i j x y hij hx hy b hb => ?_⟩
 ·obtain ⟨j, hj⟩ := List.getElem?_of_mem (hp.mem_iff.2 (List.mem_of_getElem? hx))
  exact h.2.1 j x hj
 ·obtain ⟨hi, rfl⟩ := List.getElem?_eq_some_iff.1 hx
  obtain ⟨hj, rfl⟩ := List.getElem?_eq_some_iff.1 hy
  rcases Nat.lt_or_gt_of_ne hij with hlt | hgt
  ·exact List.pairwise_iff_getElem.1 hpw' i j hi hj hlt b hb
  ·exact fun hb2 => List.pairwise_iff_getElem.1 hpw' j i hj hi hgt b hb2 hb
end Go.Sw
end
section
namespace Go.Sw
open Go.RowKit
def downL (hi c : Nat) : List Int := (List.range c).map fun t => ((hi - 1 - t : Nat) : Int)
theorem ζc8 (hi c : Nat) (h : c < hi) : downL hi (c + 1) = ((hi - 1 : Nat) : Int) :: downL (hi - 1) c := by
 unfold downL
 rw [List.range_succ_eq_map, List.map_cons, List.map_map]
 congr 1
 apply List.map_congr_left
 intro t _
 show ((hi - 1 - (t + 1) : Nat) : Int) = ((hi - 1 - 1 - t : Nat) : Int)
 omega
def longIds (n : Nat) : List Int := (List.replicate n (0 : Int)).set (n - 1) 1
theorem ζ8i (n : Nat) : (longIds n).length = n := by simp [longIds]
theorem ζa7 {n i : Nat} (h : i < n) : (longIds n)[i]? = some (if i + 1 = n then 1 else 0) := by
 unfold longIds
 by_cases hi : n - 1 = i
 ·rw [hi, List.getElem?_set_self (by simpa using h), if_pos (by omega)]
 ·rw [List.getElem?_set_ne hi, List.getElem?_replicate, if_pos h, if_neg (by omega)]
theorem newG_at {ids : List Int} {i : Nat} {x : Int} (h : ids[i]? = some x) : (newG ids)[i]? = some ⟨x, i⟩ := by
 unfold newG
 rw [List.getElem?_map, List.getElem?_zipIdx, h]
 simp
end Go.Sw
end
section
namespace Go.Sw
open Go.RowKit
def lastB (vs : List Int) (a : Int) : Bool := (List.range (vs.length / 4)).any fun i => decide (a ≤ (i : Int) ∧ gU vs (4 * (i : Int)) 4 ≥ 2147483648)
theorem ζ6o {vs : List Int} {a : Int} : lastB vs a = true ↔ ∃ i : Nat, a ≤ i ∧ 4 * i + 4 ≤ vs.length ∧ gU vs (4 * (i : Int)) 4 ≥ 2147483648 := by
 unfold lastB
 rw [List.any_eq_true]
 constructor
 ·rintro ⟨i, hi, h⟩
  have := of_decide_eq_true h
  have hi := List.mem_range.1 hi
  exact ⟨i, this.1, by omega, this.2⟩
 ·rintro ⟨i, h1, h2, h3⟩
  exact ⟨i, List.mem_range.2 (by omega), decide_eq_true ⟨h1, h3⟩⟩
structure LTab where
 m : Mach
 acts : List Int
 comps : List Int
 ligs : List Int
def entLast (vs : List Int) (e : En) : Bool := decide (¬ e.flags / 8192 % 2 = 1) || lastB vs e.a
def listAt (b : List Int) (i : Int) : Option (List Int) := (uS b i 4).bind (restS b)
def ligaS (b : List Int) (g : Int) : Option LTab := (machS b g 1).bind fun m => (listAt b 16).bind fun a => (listAt b 20).bind fun c => (listAt b 24).bind fun l => if m.ents.all (entLast a) then some ⟨m, a, c, l⟩ else none
theorem ζe9 {b : List Int} (hb : Byt b) {i : Int} {l : List Int} (h : listAt b i = some l) : Byt l ∧ l.length ≤ b.length := by
 unfold listAt at h
 obtain ⟨p, hp, h⟩ := Option.bind_eq_some_iff.1 h
 exact ⟨hb.rest h, ζ9d h⟩
structure LTab.ok (t : LTab) : Prop where
 m : t.m.ok
 byt : Byt t.acts ∧ Byt t.comps ∧ Byt t.ligs
 len : t.acts.length < 2 ^ 31 ∧ t.comps.length < 2 ^ 31 ∧ t.ligs.length < 2 ^ 31
 has : ∀ e, e ∈ t.m.ents → ¬ e.flags / 8192 % 2 = 1 ∨ lastB t.acts e.a = true
theorem ligaS_ok {b : List Int} (hb : Byt b) {g : Int} (h1 : 1 ≤ g) (h2 : g ≤ 65535) (hl : b.length < 2 ^ 31) {t : LTab} (h : ligaS b g = some t) : t.ok := by
 unfold ligaS at h
 obtain ⟨m, hm, h⟩ := Option.bind_eq_some_iff.1 h
 obtain ⟨a, ha, h⟩ := Option.bind_eq_some_iff.1 h
 obtain ⟨c, hc, h⟩ := Option.bind_eq_some_iff.1 h
 obtain ⟨l, hL, h⟩ := Option.bind_eq_some_iff.1 h
 split at h
 ·rename_i hall
  injection h with h
  subst h
  have a1 := ζe9 hb ha
  have c1 := ζe9 hb hc
  have l1 := ζe9 hb hL
  refine ⟨machS_ok hb h1 h2 (by omega) hm, ⟨a1.1, c1.1, l1.1⟩, ⟨by dsimp only; omega, by dsimp only; omega, by dsimp only; omega⟩, fun e he => ?_⟩
  have := List.all_eq_true.1 hall e he
  unfold entLast at this
  rw [Bool.or_eq_true, decide_eq_true_eq] at this
  exact this
 ·cases h
def offS (a : Int) : Int := if a % 1073741824 ≥ 536870912 then a % 1073741824 - 1073741824 else a % 1073741824
def entryS (v : List Int) (i : Int) : Option Int := if 0 ≤ i ∧ i < (v.length : Int) / 2 then some (gU v (2 * i) 2) else none
def pushP (i : Int) (ps : List Int) : List Int := if ps.head? = some i then ps else (i :: ps).take 64
def join1 (i : Int) (l : List Gl) (k : Int) : List Gl := match atG l k with | some h => if 0 ≤ i ∧ i < l.length then l.modify i.toNat fun g => ⟨g.id, min g.cl h.cl⟩ else l | none => l
def joinG (l : List Gl) (i : Int) (ks : List Int) : List Gl := ks.foldl (join1 i) l
def delG (l : List Gl) (ks : List Int) : List Gl := ks.foldl (fun l k => setG l k 65535) l
theorem ζnz (i : Int) (l : List Gl) (k : Int) : (join1 i l k).length = l.length := by
 unfold join1
 split
 ·split <;> simp
 ·rfl
theorem ζhg (i : Int) : ∀ (ks : List Int) (l : List Gl), (joinG l i ks).length = l.length
 | [], _ => rfl
 | k :: ks, l => by
  have := ζhg i ks (join1 i l k)
  unfold joinG at this ⊢
  rw [List.foldl_cons, this, ζnz]
theorem ζgz (l : List Gl) (i id : Int) : (setG l i id).length = l.length := by unfold setG; split <;> simp
theorem delG_len : ∀ (ks : List Int) (l : List Gl), (delG l ks).length = l.length
 | [], _ => rfl
 | k :: ks, l => by
  have := delG_len ks (setG l k 65535)
  unfold delG at this ⊢
  rw [List.foldl_cons, this, ζgz]
def storeG (l : List Gl) (i id : Int) (gone : List Int) : List Gl := delG (joinG (setG l i id) i gone) gone
theorem ζj5 (l : List Gl) (i id : Int) (gone : List Int) : (storeG l i id gone).length = l.length := by unfold storeG; rw [delG_len, ζhg, ζgz]
def perfS (t : LTab) : List Int → Int → Int → List Int → List Gl → List Gl × List Int
 | [], _, _, _, l => (l, [])
 | i :: ps, a, sum, gone, l =>
  match entryS t.comps (IntKind.i64.wrap (((atG l i).getD ⟨0, 0⟩).id + offS (gU t.acts (4 * a) 4))) with
  | none => (l, ps)
  | some part =>
   if gU t.acts (4 * a) 4 ≥ 1073741824 then
    match entryS t.ligs (sum + part) with
    | none => (l, ps)
    | some id => if gU t.acts (4 * a) 4 ≥ 2147483648 then (storeG l i id gone, pushP i ps) else perfS t ps (a + 1) (sum + part) [i] (storeG l i id gone)
   else perfS t ps (a + 1) (sum + part) (gone ++ [i]) l
def doLi (t : LTab) (s : List Gl × List Int) (i : Int) (e : En) : List Gl × List Int :=
 let k := if e.flags ≥ 32768 ∧ i < (s.1.length : Int) then pushP i s.2 else s.2
 if e.flags / 8192 % 2 = 1 then perfS t k e.a 0 [] s.1 else (s.1, k)
theorem ζhs (t : LTab) : ∀ (ps : List Int) (a sum : Int) (gone : List Int) (l : List Gl), (perfS t ps a sum gone l).1.length = l.length
 | [], _, _, _, _ => rfl
 | i :: ps, a, sum, gone, l => by
  unfold perfS
  split
  ·rfl
  ·split
   ·split
    ·rfl
    ·split
     ·exact ζj5 _ _ _ _
     ·rw [ζhs t ps, ζj5]
   ·exact ζhs t ps _ _ _ _
theorem doLi_len (t : LTab) (s : List Gl × List Int) (i : Int) (e : En) : (doLi t s i e).1.length = s.1.length := by
 unfold doLi
 dsimp only
 split
 ·exact ζhs _ _ _ _ _ _
 ·rfl
def KeptOk (n : Int) (ps : List Int) : Prop := ps.length ≤ 64 ∧ ∀ x, x ∈ ps → 0 ≤ x ∧ x < n
theorem pushP_ok {n i : Int} {ps : List Int} (h : KeptOk n ps) (hi : 0 ≤ i ∧ i < n) : KeptOk n (pushP i ps) := by
 unfold pushP
 split
 ·exact h
 ·refine ⟨by rw [List.length_take]; omega, fun x hx => ?_⟩
  rcases List.mem_cons.1 (List.mem_of_mem_take hx) with rfl | hx
  ·exact hi
  ·exact h.2 x hx
theorem KeptOk.tail {n i : Int} {ps : List Int} (h : KeptOk n (i :: ps)) : KeptOk n ps := ⟨by have := h.1; simp at this; omega, fun x hx => h.2 x (by simp [hx])⟩
theorem ζf9 (t : LTab) {n : Int} : ∀ (ps : List Int) (a sum : Int) (gone : List Int) (l : List Gl), KeptOk n ps → KeptOk n (perfS t ps a sum gone l).2
 | [], _, _, _, _, h => h
 | i :: ps, a, sum, gone, l, h => by
  unfold perfS
  split
  ·exact h.tail
  ·split
   ·split
    ·exact h.tail
    ·split
     ·exact pushP_ok h.tail (h.2 i (by simp))
     ·exact ζf9 t ps _ _ _ _ h.tail
   ·exact ζf9 t ps _ _ _ _ h.tail
theorem ζno (t : LTab) {n : Int} {s : List Gl × List Int} (hn : (s.1.length : Int) = n) (h : KeptOk n s.2) {i : Int} (hi : 0 ≤ i) (e : En) : KeptOk n (doLi t s i e).2 := by
 have k1 : KeptOk n (if e.flags ≥ 32768 ∧ i < (s.1.length : Int) then pushP i s.2 else s.2) := by
  split
  ·rename_i hc; exact pushP_ok h ⟨hi, by omega⟩
  ·exact h
 unfold doLi
 dsimp only
 split
 ·exact ζf9 t _ _ _ _ _ k1
 ·exact k1
end Go.Sw
end
section
namespace Go.Sw
open Go.RowKit
def runLr (t : LTab) (l : List Gl) : Int × Int × (List Gl × List Int) :=
 runD t.m (fun s : List Gl × List Int => s.1) (fun s i e => (doLi t s i e, i, i + 1)) (2 * (l.length : Int) + 128) (2 * l.length + 128) ((l, []), ⟨0, 0, 0, 0⟩)
def runL (t : LTab) (l : List Gl) : List Gl × Int := ((runLr t l).2.2.1, (runLr t l).2.1)
set_option maxRecDepth 10000 in
theorem runL_inv (t : LTab) (ht : t.m.ok) (l : List Gl) (P : List Gl × List Int → Prop) (h0 : P (l, [])) (hs : ∀ s i e, P s → 0 ≤ i → e ∈ t.m.ents → P (doLi t s i e)) : P (runLr t l).2.2 := by
 unfold runLr
 exact runD_inv t.m ht (fun s : List Gl × List Int => s.1) (fun s i e => (doLi t s i e, i, i + 1)) P (fun s i e h1 h2 h3 => hs s i e h1 h2 h3) (2 * (l.length : Int) + 128) (2 * l.length + 128) ((l, []), ⟨0, 0, 0, 0⟩) h0 (Int.le_refl _) (Int.le_refl _) (by have := ht.two; dsimp only; omega)
set_option maxRecDepth 10000 in
theorem runL_len (t : LTab) (ht : t.m.ok) (l : List Gl) : (runL t l).1.length = l.length :=
 runL_inv t ht l (fun s => s.1.length = l.length) rfl fun s i e h _ _ => (doLi_len t s i e).trans h
def ClOk (l : List Gl) : Prop := ∀ (j : Nat) g, l[j]? = some g → 0 ≤ g.cl ∧ g.cl ≤ j
theorem mod_from {l : List Gl} {i j : Nat} {f : Gl → Gl} {p : Gl} (h : (l.modify i f)[j]? = some p) : ∃ q, l[j]? = some q ∧ (p = q ∨ i = j ∧ p = f q) := by
 rw [List.getElem?_modify] at h
 cases hq : l[j]? with
 | none => rw [hq] at h; simp at h
 | some q =>
  rw [hq] at h
  simp at h
  refine ⟨q, rfl, ?_⟩
  split at h
  ·rename_i hc; exact .inr ⟨hc, h.symm⟩
  ·exact .inl h.symm
theorem ζoq {l : List Gl} {i id : Int} {j : Nat} {p : Gl} (h : (setG l i id)[j]? = some p) : ∃ q, l[j]? = some q ∧ p.cl = q.cl := by
 unfold setG at h
 split at h
 ·obtain ⟨q, hq, rfl | ⟨_, rfl⟩⟩ := mod_from h
  ·exact ⟨_, hq, rfl⟩
  ·exact ⟨q, hq, rfl⟩
 ·exact ⟨p, h, rfl⟩
theorem ClOk.set {l : List Gl} (h : ClOk l) (i id : Int) : ClOk (setG l i id) := fun j g hg => by
 obtain ⟨q, hq, hc⟩ := ζoq hg
 rw [hc]
 exact h j q hq
theorem atG_get {l : List Gl} {i : Int} {g : Gl} (h : atG l i = some g) : 0 ≤ i ∧ l[i.toNat]? = some g := by
 unfold atG at h
 split at h
 ·exact ⟨by omega, h⟩
 ·cases h
theorem ClOk.join1 {l : List Gl} (h : ClOk l) (i k : Int) : ClOk (Go.Sw.join1 i l k) := by
 unfold Go.Sw.join1
 split
 ·rename_i q hq
  obtain ⟨hk0, hk⟩ := atG_get hq
  have hqc := h _ q hk
  split
  ·intro j g hg
   obtain ⟨r, hr, rfl | ⟨_, rfl⟩⟩ := mod_from hg
   ·exact h j _ hr
   ·have := h j r hr
    dsimp only
    omega
  ·exact h
 ·exact h
theorem ClOk.join {i : Int} : ∀ (ks : List Int) {l : List Gl}, ClOk l → ClOk (joinG l i ks)
 | [], _, h => h
 | k :: ks, l, h => ClOk.join ks (h.join1 i k)
theorem ClOk.del : ∀ (ks : List Int) {l : List Gl}, ClOk l → ClOk (delG l ks)
 | [], _, h => h
 | k :: ks, l, h => ClOk.del ks (h.set k 65535)
theorem ClOk.perf (t : LTab) : ∀ (ps : List Int) (a sum : Int) (gone : List Int) {l : List Gl}, ClOk l → ClOk (perfS t ps a sum gone l).1
 | [], _, _, _, _, h => h
 | i :: ps, a, sum, gone, l, h => by
  have hst : ∀ id, ClOk (storeG l i id gone) := fun id => ClOk.del gone (ClOk.join gone (h.set i id))
  unfold perfS
  split
  ·exact h
  ·split
   ·split
    ·exact h
    ·split
     ·exact hst _
     ·exact ClOk.perf t ps _ _ _ (hst _)
   ·exact ClOk.perf t ps _ _ _ h
theorem ζkd (ids : List Int) : ClOk (newG ids) := fun j g hg => by
 unfold newG at hg
 rw [List.getElem?_map, List.getElem?_zipIdx] at hg
 cases hx : ids[j]? with
 | none => rw [hx] at hg; simp at hg
 | some x =>
  rw [hx] at hg
  simp at hg
  subst hg
  dsimp only
  omega
set_option maxRecDepth 10000 in
theorem ζo5 (t : LTab) (ht : t.m.ok) (h : (∀ e, e ∈ t.m.ents → e.flags / 8192 % 2 = 0) ∨ ∀ e, e ∈ t.m.ents → e.flags < 32768) (l : List Gl) : (runL t l).1 = l := by
 rcases h with h | h
 ·exact runL_inv t ht l (fun s => s.1 = l) rfl fun s i e hs _ he => by
   have := h e he
   unfold doLi
   dsimp only
   rw [if_neg (show ¬ e.flags / 8192 % 2 = 1 by omega)]
   exact hs
 ·exact (runL_inv t ht l (fun s => s.1 = l ∧ s.2 = []) ⟨rfl, rfl⟩ fun s i e ⟨h1, h2⟩ _ he => by
   have := h e he
   unfold doLi
   dsimp only
   rw [if_neg (show ¬ (e.flags ≥ 32768 ∧ i < (s.1.length : Int)) by omega), h2]
   split
   ·exact ⟨h1, rfl⟩
   ·exact ⟨h1, rfl⟩).1
def fours (l : List Int) : List Int := (l.map fun c => bytesOf c 4).flatten
theorem ζ7t (l : List Int) : (fours l).length = l.length * 4 := flat_len (z := 4) (fun r hr => by obtain ⟨p, _, rfl⟩ := List.mem_map.1 hr; simp) |>.trans (by simp)
theorem ζm8 (l : List Int) (x : Int) : fours (l ++ [x]) = fours l ++ bytesOf x 4 := by simp [fours]
theorem ζnv (l : List Int) : Byt (fours l) := Byt.flat fun r hr => by
 obtain ⟨x, _, rfl⟩ := List.mem_map.1 hr
 exact ζ19 _ _
theorem fours_uS (l y : List Int) {i : Nat} {x : Int} (hx : l[i]? = some x) (hb : 0 ≤ x ∧ x < 4294967296) : uS (fours l ++ y) (4 * (i : Int)) 4 = some x := by
 have := ζm6 (z := 4) (rs := l.map fun c => bytesOf c 4) (fun r hr => by obtain ⟨p, _, rfl⟩ := List.mem_map.1 hr; simp) y (i := i) (r := bytesOf x 4) (by rw [List.getElem?_map, hx]; rfl)
 unfold uS
 rw [show (4 * (i : Int)) = ((4 * i : Nat) : Int) by omega]
 show (pieceS (fours l ++ y) _ ((4 : Nat) : Int)).map num = _
 unfold fours
 rw [this, Option.map_some, ζgw hb.1 (by omega)]
theorem fours_gU (l y : List Int) {i : Nat} {x : Int} (hx : l[i]? = some x) (hb : 0 ≤ x ∧ x < 4294967296) : gU (fours l ++ y) (4 * (i : Int)) 4 = x := gU_some (fours_uS l y hx hb)
def lgActs (m : Nat) : List Int := List.replicate (m - 1) 0 ++ [2147483648]
theorem ζa6 {m : Nat} (h : 0 < m) : (lgActs m).length = m := by simp [lgActs]; omega
theorem ζk3 {m i : Nat} (h : i < m) : (lgActs m)[i]? = some (if i + 1 = m then 2147483648 else 0) := by
 unfold lgActs
 by_cases hi : i + 1 = m
 ·rw [List.getElem?_append_right (by simp; omega), if_pos hi]
  simp
  rw [show i - (m - 1) = 0 by omega]
  rfl
 ·rw [List.getElem?_append_left (by simp; omega), List.getElem?_replicate, if_pos (by omega), if_neg hi]
theorem doLi_no {t : LTab} {s : List Gl × List Int} {i : Int} {e : En} (h : ¬ e.flags / 8192 % 2 = 1) : doLi t s i e = (s.1, if e.flags ≥ 32768 ∧ i < (s.1.length : Int) then pushP i s.2 else s.2) := by
 unfold doLi
 dsimp only
 rw [if_neg h]
theorem doLi_yes {t : LTab} {s : List Gl × List Int} {i : Int} {e : En} (h : e.flags / 8192 % 2 = 1) : doLi t s i e = perfS t (if e.flags ≥ 32768 ∧ i < (s.1.length : Int) then pushP i s.2 else s.2) e.a 0 [] s.1 := by
 unfold doLi
 dsimp only
 rw [if_pos h]
def lgPlan : Plan := twoPlan [4, 5] ⟨0, 0, 0, 0⟩ ⟨0, 32768, 0, 0⟩ ⟨0, 40960, 0, 0⟩
def lgTab (mm : Mach) (m : Nat) : LTab := ⟨mm, fours (lgActs m) ++ (twos [0, 1] ++ twos [8, 9]), twos [0, 1] ++ twos [8, 9], twos [8, 9]⟩
theorem lg_comp (x : Int) (h : x = 0 ∨ x = 1) : entryS (twos [0, 1] ++ twos [8, 9]) x = some x := by rcases h with rfl | rfl <;> decide
theorem lg_lig : entryS (twos [8, 9]) 1 = some 9 := by decide
theorem ζkg (mm : Mach) {n m : Nat} {l : List Gl} (hid : ∀ i : Nat, i < n → ∃ g, l[i]? = some g ∧ g.id = if i + 1 = n then 1 else 0) : ∀ (c hi a : Nat) (sum : Int) (gone : List Int), c ≤ hi → hi ≤ n → a < m → sum + (if hi = n then 1 else 0) = 1 →
  (c < m - a → (perfS (lgTab mm m) (downL hi c) a sum gone l).1 = l) ∧ (m - a ≤ c → (perfS (lgTab mm m) (downL hi c) a sum gone l).1 = storeG l ((hi - (m - a) : Nat) : Int) 9 (gone ++ downL hi (m - a - 1)))
 | 0, hi, a, sum, gone, _, _, ha, _ => ⟨fun _ => rfl, fun h => by omega⟩
 | c + 1, hi, a, sum, gone, hc, hn, ha, hs => by
  obtain ⟨g, hg, hgi⟩ := hid (hi - 1) (by omega)
  have hg1 : g.id = if hi = n then 1 else 0 := by rw [hgi]; congr 1; exact propext ⟨fun h => by omega, fun h => by omega⟩
  have hat : atG l ((hi - 1 : Nat) : Int) = some g := by
   unfold atG
   have := (List.getElem?_eq_some_iff.1 hg).1
   rw [if_pos ⟨by omega, by omega⟩, Int.toNat_natCast, hg]
  have hact : gU (lgTab mm m).acts (4 * (a : Int)) 4 = if a + 1 = m then 2147483648 else 0 := fours_gU _ _ (ζk3 ha) (by split <;> omega)
  have hoff : offS (if a + 1 = m then 2147483648 else 0) = 0 := by split <;> decide
  rw [ζc8 hi c (by omega)]
  unfold perfS
  rw [hact, hat, hoff]
  simp only [Option.getD_some]
  have hcomp : entryS (lgTab mm m).comps (IntKind.i64.wrap (g.id + 0)) = some g.id := by
   rw [Int.add_zero, wrap_i64 (by rw [hg1]; split <;> omega) (by rw [hg1]; split <;> omega)]
   exact lg_comp _ (by rw [hg1]; split <;> simp)
  rw [hcomp]
  dsimp only
  by_cases hlast : a + 1 = m
  ·rw [if_pos hlast, if_pos (by decide)]
   have hsum : sum + g.id = 1 := by rw [hg1]; exact hs
   rw [hsum, show entryS (lgTab mm m).ligs 1 = some 9 from lg_lig]
   dsimp only
   rw [if_pos (by decide)]
   refine ⟨fun h => by omega, fun _ => ?_⟩
   dsimp only
   rw [show m - a = 1 by omega, show (1 : Nat) - 1 = 0 from rfl]
   show storeG _ _ _ gone = storeG _ _ _ (gone ++ [])
   rw [List.append_nil]
  ·have ham : a + 1 < m := by omega
   rw [if_neg hlast, if_neg (by decide), show (a : Int) + 1 = ((a + 1 : Nat) : Int) by omega]
   have hsum : sum + g.id + (if hi - 1 = n then 1 else 0) = 1 := by rw [hg1, if_neg (show ¬ hi - 1 = n by omega)]; omega
   obtain ⟨r1, r2⟩ := ζkg mm hid c (hi - 1) (a + 1) (sum + g.id) (gone ++ [((hi - 1 : Nat) : Int)]) (by omega) (by omega) ham hsum
   refine ⟨fun h => r1 (by omega), fun h => ?_⟩
   rw [r2 (by omega)]
   have e1 : hi - 1 - (m - (a + 1)) = hi - (m - a) := by omega
   have e2 : downL hi (m - a - 1) = ((hi - 1 : Nat) : Int) :: downL (hi - 1) (m - (a + 1) - 1) := by
    rw [show m - a - 1 = (m - (a + 1) - 1) + 1 by omega, ζc8 _ _ (by omega)]
   rw [e1, e2, List.append_assoc]
   rfl
theorem ζmr (j : Nat) (hj : 0 < j) : pushP (j : Int) (downL j (min j 64)) = downL (j + 1) (min (j + 1) 64) := by
 have h1 : (downL j (min j 64)).head? = some ((j - 1 : Nat) : Int) := by
  rw [show min j 64 = (min j 64 - 1) + 1 by omega, ζc8 _ _ (by omega)]
  rfl
 unfold pushP
 rw [h1, if_neg (by simp; omega)]
 rw [show ((j : Int)) :: downL j (min j 64) = downL (j + 1) (min j 64 + 1) from by rw [ζc8 _ _ (by omega)]; rfl]
 unfold downL
 rw [← List.map_take, List.take_range]
 congr 2
 omega
theorem setG_at (l : List Gl) (i : Nat) (id : Int) (j : Nat) : (setG l (i : Int) id)[j]? = if j = i then (l[j]?).map fun g => ⟨id, g.cl⟩ else l[j]? := by
 unfold setG
 by_cases hi : i < l.length
 ·rw [if_pos ⟨by omega, by omega⟩, Int.toNat_natCast, List.getElem?_modify]
  by_cases hij : j = i
  ·subst hij; simp
  ·rw [if_neg hij]
   simp [show ¬ i = j from fun h => hij h.symm]
 ·rw [if_neg (by omega)]
  split
  ·rename_i h
   subst h
   rw [List.getElem?_eq_none (by omega)]
   rfl
  ·rfl
theorem delG_at : ∀ (ks : List Nat) (l : List Gl) (j : Nat), (delG l (ks.map fun (k : Nat) => (k : Int)))[j]? = if j ∈ ks then (l[j]?).map fun g => ⟨65535, g.cl⟩ else l[j]?
 | [], l, j => by rw [if_neg (by simp)]; rfl
 | k :: ks, l, j => by
  have h : delG l ((k :: ks).map fun (k : Nat) => (k : Int)) = delG (setG l (k : Int) 65535) (ks.map fun (k : Nat) => (k : Int)) := rfl
  rw [h, delG_at ks, setG_at]
  by_cases h1 : j = k
  ·rw [if_pos h1, if_pos (show j ∈ k :: ks by simp [h1])]
   split
   ·cases l[j]? <;> rfl
   ·rfl
  ·rw [if_neg h1]
   by_cases h2 : j ∈ ks
   ·rw [if_pos h2, if_pos (by simp [h2])]
   ·rw [if_neg h2, if_neg (by simp [h1, h2])]
theorem ζid : ∀ (ks : List Int) (l : List Gl), (∀ g, g ∈ l → 0 ≤ g.cl) → (∀ g, l[0]? = some g → g.cl = 0) → joinG l 0 ks = l
 | [], _, _, _ => rfl
 | k :: ks, l, h1, h0 => by
  have : join1 0 l k = l := by
   unfold join1
   split
   ·rename_i q hq
    obtain ⟨_, hk⟩ := atG_get hq
    have hqc := h1 q (List.mem_of_getElem? hk)
    split
    ·apply List.ext_getElem?
     intro j
     rw [List.getElem?_modify]
     cases hx : l[j]? with
     | none => simp
     | some x =>
      by_cases hj : (0 : Int).toNat = j
      ·have hj0 : j = 0 := by rw [← hj]; rfl
       subst hj0
       have := h0 x hx
       have : min x.cl q.cl = x.cl := by omega
       simp [this]
      ·have hj' : ¬ 0 = j := fun h => hj (by rw [← h]; rfl)
       simp [hj']
    ·rfl
   ·rfl
  show joinG (join1 0 l k) 0 ks = l
  rw [this]
  exact ζid ks l h1 h0
set_option maxRecDepth 10000 in
theorem ligaLong {mm : Mach} (hm : mm.ok) (hr : Reads lgPlan 1 mm) {n m : Nat} (hn : 2 ≤ n) (hmn : n ≤ m) :
  (runL (lgTab mm m) (newG (longIds n))).2 = 0 ∧ (runL (lgTab mm m) (newG (longIds n))).1.length = n ∧ ∀ i : Nat, i < n → (runL (lgTab mm m) (newG (longIds n))).1[i]? = some (if m ≤ min n 64 then (if i = n - m then ⟨9, i⟩ else ⟨65535, i⟩) else ⟨if i + 1 = n then 1 else 0, i⟩) := by
 have hlen : (newG (longIds n)).length = n := by rw [newG_len, ζ8i]
 have hE0 : entM 1 ⟨0, 0, 0, 0⟩ = ⟨0, 0, 0, 0⟩ := rfl
 have hE1 : entM 1 ⟨0, 32768, 0, 0⟩ = ⟨0, 32768, 0, 0⟩ := rfl
 have hE2 : entM 1 ⟨0, 40960, 0, 0⟩ = ⟨0, 40960, 0, 0⟩ := rfl
 have hid : ∀ i : Nat, i < n → ∃ g, (newG (longIds n))[i]? = some g ∧ g.id = if i + 1 = n then 1 else 0 := fun i hi => ⟨_, newG_at (ζa7 hi), rfl⟩
 obtain ⟨s', hI, hrun⟩ := two_go (σ := List Gl × List Int) hr hm (fun e he => by rcases he with rfl | rfl | rfl <;> decide) (fun s => s.1) (doLi (lgTab mm m)) n
  (fun j s => s.1.length = n ∧ (j < n → s = (newG (longIds n), downL j (min j 64))) ∧ (j = n → s.1 = (perfS (lgTab mm m) (downL n (min n 64)) 0 0 [] (newG (longIds n))).1)) (fun _ _ h => h.1)
  (fun j s hj ⟨_, h1, _⟩ => by
   have h1 := h1 hj
   subst h1
   have hat : twoAt [4, 5] ⟨0, 0, 0, 0⟩ ⟨0, 32768, 0, 0⟩ ⟨0, 40960, 0, 0⟩ (newG (longIds n)) j = if j + 1 = n then ⟨0, 40960, 0, 0⟩ else ⟨0, 32768, 0, 0⟩ := by
    unfold twoAt
    rw [newG_at (ζa7 hj)]
    dsimp only
    split <;> rfl
   have hpush : pushP (j : Int) (downL j (min j 64)) = downL (j + 1) (min (j + 1) 64) := by
    cases j with
    | zero => rfl
    | succ j => exact ζmr (j + 1) (by omega)
   dsimp only
   rw [hat]
   refine ⟨by rw [doLi_len]; exact hlen, ?_⟩
   by_cases hjn : j + 1 = n
   ·rw [if_pos hjn, hE2]
    refine ⟨fun h => by omega, fun _ => ?_⟩
    rw [doLi_yes (by decide)]
    dsimp only
    rw [if_pos ⟨by decide, by rw [hlen]; omega⟩, hpush, hjn]
   ·rw [if_neg hjn, hE1]
    refine ⟨fun _ => ?_, fun h => by omega⟩
    rw [doLi_no (by decide)]
    dsimp only
    rw [if_pos ⟨by decide, by rw [hlen]; omega⟩, hpush])
  (newG (longIds n), []) ⟨hlen, fun _ => rfl, fun h => by omega⟩
 have hd0 : doLi (lgTab mm m) s' (n : Int) (entM 1 ⟨0, 0, 0, 0⟩) = s' := by
  rw [hE0]
  rw [doLi_no (by decide)]
  dsimp only
  rw [if_neg (by omega)]
 rw [hd0] at hrun
 have hres : runLr (lgTab mm m) (newG (longIds n)) = ((n : Int) + 1, 0, s') := by
  unfold runLr
  rw [hlen]
  exact hrun
 have h2 := hI.2.2 rfl
 have hlast : (runL (lgTab mm m) (newG (longIds n))).1 = s'.1 := by unfold runL; rw [hres]
 refine ⟨by unfold runL; rw [hres], by rw [hlast]; exact hI.1, fun i hi => ?_⟩
 rw [hlast, h2]
 obtain ⟨p1, p2⟩ := ζkg mm (n := n) (m := m) hid (min n 64) n 0 0 [] (by omega) (Nat.le_refl _) (by omega) (by rw [if_pos rfl]; rfl)
 rw [show ((0 : Nat) : Int) = 0 from rfl] at p1 p2
 by_cases hf : m ≤ min n 64
 ·rw [if_pos hf, p2 (by omega)]
  have hmn : m = n := by omega
  subst hmn
  rw [show m - (m - 0) = 0 by omega, List.nil_append, show m - 0 - 1 = m - 1 by omega]
  have hz : ∀ (g : Gl), g ∈ setG (newG (longIds m)) ((0 : Nat) : Int) 9 → 0 ≤ g.cl := fun g hg => by
   obtain ⟨j, hj⟩ := List.getElem?_of_mem hg
   exact ((ζkd (longIds m)).set _ _ j g hj).1
  have h00 : ∀ g, (setG (newG (longIds m)) ((0 : Nat) : Int) 9)[0]? = some g → g.cl = 0 := fun g hg => by
   have := (ζkd (longIds m)).set ((0 : Nat) : Int) 9 0 g hg
   omega
  unfold storeG
  rw [show ((0 : Nat) : Int) = (0 : Int) from rfl] at *
  rw [ζid _ _ hz h00]
  have hdl : downL m (m - 1) = ((List.range (m - 1)).map fun t => m - 1 - t).map fun (k : Nat) => (k : Int) := by
   unfold downL
   rw [List.map_map]
   rfl
  rw [hdl, delG_at]
  have hs := setG_at (newG (longIds m)) 0 9 i
  rw [show ((0 : Nat) : Int) = (0 : Int) from rfl] at hs
  rw [hs, newG_at (ζa7 hi)]
  by_cases hi0 : i = 0
  ·rw [if_neg (by
    intro hmem
    obtain ⟨t, ht, he⟩ := List.mem_map.1 hmem
    have := List.mem_range.1 ht
    omega), if_pos hi0, if_pos (show i = m - m by omega)]
   rfl
  ·rw [if_pos (by
    refine List.mem_map.2 ⟨m - 1 - i, List.mem_range.2 (by omega), by omega⟩), if_neg hi0, if_neg (show ¬ i = m - m by omega)]
   rfl
 ·rw [if_neg hf, p1 (by omega)]
  exact newG_at (ζa7 hi)
end Go.Sw
end
