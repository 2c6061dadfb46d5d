/-
  Functions' forms, and what is proved of them, part 8.
-/
import Derived.Test.YtnaodjnimkndbabSwW7
import Derived.Test.YtnaodjnimkndbabSwW1
import Derived.Test.YtnaodjnimkndbabSwLib8
import Derived.Test.YtnaodjnimkndbabSwW5
import Derived.Test.YtnaodjnimkndbabSwCfg
import Derived.Tactics
import Derived.Tactics2
import Derived.Defers
import Derived.Recover
import Derived.Laws.Pointers
import Derived.Test.YtnaodjnimkndbabSwW4
set_option linter.unusedSimpArgs false
set_option linter.unusedVariables false
set_option linter.unusedSectionVars false
section
namespace Go.Sw
open Go.RowKit
theorem gU_four {b : List Int} (hb : Byt b) (i : Int) : -1 ≤ gU b i 4 ∧ gU b i 4 < 4294967296 := by
 unfold gU;cases h : uS b i 4 with
 | none => simp
 | some x => have := uS_four hb h; simp; omega
theorem gU_lt {b : List Int} {i : Int} (h : ¬ gU b i 4 < 0) : uS b i 4 = some (gU b i 4) := by
 unfold gU at h ⊢;cases hu : uS b i 4 with
 | none => rw [hu] at h; simp at h
 | some x => rfl
set_option maxHeartbeats 1000000 in
theorem ζib (k : Nat) (b : List Int) (hb : Byt b) (g w : Int) (hg : 1 ≤ g ∧ g ≤ 65535) (hw : w = 0 ∨ w = 1 ∨ w = 2) (hl : b.length < 2 ^ 31) (H : Heap) :
  R (T k) F.ζ4 [lv encB b, .int .i64 g, .int .i64 w] H = .ok (.tuple #[rmO (refMachS b g w), .bool (refMachS b g w).isSome]) H := by
 rw [ζd1];have hU := fun j H' => refU_run k (H := H') (Sl.lv H' 1 b) hb j 4 (by omega) (by omega);have u0 : ∀ H', R (T k) F.ζ1 [lv encB b, .int .i64 0, .int .i64 4] H' = .ok (.int .i64 (gU b 0 4)) H' := fun H' => hU _ H';have u4 : ∀ H', R (T k) F.ζ1 [lv encB b, .int .i64 4, .int .i64 4] H' = .ok (.int .i64 (gU b 4 4)) H' := fun H' => hU _ H';have u8 : ∀ H', R (T k) F.ζ1 [lv encB b, .int .i64 8, .int .i64 4] H' = .ok (.int .i64 (gU b 8 4)) H' := fun H' => hU _ H';have u12 : ∀ H', R (T k) F.ζ1 [lv encB b, .int .i64 12, .int .i64 4] H' = .ok (.int .i64 (gU b 12 4)) H' := fun H' => hU _ H';have b0 := gU_four hb 0;have b4 := gU_four hb 4;have b8 := gU_four hb 8;have b12 := gU_four hb 12;have fl : ∀ o : Option RMach, Flat (.tuple #[rmO o, .bool o.isSome]) := fun o => .tupleL (.cons (Flat.rm _) (.cons (.bool _) .nil));obtain ⟨n, hn⟩ : ∃ n, gU b 0 4 = n := ⟨_, rfl⟩
 obtain ⟨i, hi⟩ : ∃ i, gU b 4 4 = i := ⟨_, rfl⟩
 obtain ⟨j, hj⟩ : ∃ j, gU b 8 4 = j := ⟨_, rfl⟩
 obtain ⟨q, hq⟩ : ∃ q, gU b 12 4 = q := ⟨_, rfl⟩
 rw [hn] at u0 b0;rw [hi] at u4 b4;rw [hj] at u8 b8;rw [hq] at u12 b12;obtain ⟨M1, hM1⟩ : ∃ M1 : Blk, M1 = ⟨[lv encB b, .int .i64 n, .int .i64 j, .int .i64 q, .int .i64 2, .int .i64 0, .int .i64 w, .slice none 0 0, .slice none 0 0], 1, false⟩ := ⟨_, rfl⟩
 have hx2 : Ext H ((H.push ⟨zCells, 1, false⟩).push M1) := ((Ext.refl H).push _).push _
 -- one thing is not as it should be
 have no : machS b g w = none → ζ4 k (R (T k)) (lv encB b) (.int .i64 g) (.int .i64 w) H = .ok (.tuple #[.agg zCells.toArray, .bool false]) ((H.push ⟨zCells, 1, false⟩).push M1) → nrm .fz H (ζ4 k (R (T k)) (lv encB b) (.int .i64 g) (.int .i64 w) H) = .ok (.tuple #[rmO (refMachS b g w), .bool (refMachS b g w).isSome]) H := fun h1 h2 => by
  have : refMachS b g w = none := by unfold refMachS; rw [h1]; rfl
  rw [this];exact nrm_fz (L := []) h2 rfl hx2 (fl none).alive
 have n0 : ∀ m, machS b g w = some m → (4 ≤ n ∧ n ≤ 65535) ∧ 0 ≤ i ∧ i ≤ b.length ∧ 0 ≤ j ∧ j ≤ b.length ∧ 0 ≤ q ∧ q ≤ b.length := fun m hm => by
  obtain ⟨i', j', q', tb, rv, ev, x, h0, h1, h2, h3, h4, h5, h6, h7, h8, h9, _⟩ := ζft hm;have e0 := gU_some h0;have e3 := gU_some h3;have e6 := gU_some h6;have e8 := gU_some h8;rw [hn] at e0;rw [hi] at e3;rw [hj] at e6;rw [hq] at e8;have r4 := (ζ2l.1 h4).1;have r7 := (ζ2l.1 h7).1;have r9 := (ζ2l.1 h9).1;omega
 have nn : ¬ ((4 ≤ n ∧ n ≤ 65535) ∧ 0 ≤ i ∧ i ≤ b.length ∧ 0 ≤ j ∧ j ≤ b.length ∧ 0 ≤ q ∧ q ≤ b.length) → machS b g w = none := fun h => by
  cases hm : machS b g w with
  | none => rfl
  | some m => exact absurd (n0 m hm) h
 by_cases c1 : n < 4
 ·refine no (nn (by omega)) ?_;rw [hM1];simp -implicitDefEqProofs (disch := omega) [ζ4, u0, u4, u8, u12, c1]
 by_cases c2 : n > 65535
 ·refine no (nn (by omega)) ?_;rw [hM1];simp -implicitDefEqProofs (disch := omega) [ζ4, u0, u4, u8, u12, c1, c2]
 by_cases c3 : j < 0
 ·refine no (nn (by omega)) ?_;rw [hM1];simp -implicitDefEqProofs (disch := omega) [ζ4, u0, u4, u8, u12, c1, c2, c3]
 by_cases c4 : q < 0
 ·refine no (nn (by omega)) ?_;rw [hM1];simp -implicitDefEqProofs (disch := omega) [ζ4, u0, u4, u8, u12, c1, c2, c3, c4]
 by_cases c5 : j > b.length
 ·refine no (nn (by omega)) ?_;rw [hM1];simp -implicitDefEqProofs (disch := omega) [ζ4, u0, u4, u8, u12, c1, c2, c3, c4, c5]
 by_cases c6 : q > b.length
 ·refine no (nn (by omega)) ?_;rw [hM1];simp -implicitDefEqProofs (disch := omega) [ζ4, u0, u4, u8, u12, c1, c2, c3, c4, c5, c6]
 by_cases c7 : i < 0
 ·refine no (nn (by omega)) ?_;rw [hM1];simp -implicitDefEqProofs (disch := omega) [ζ4, u0, u4, u8, u12, c1, c2, c3, c4, c5, c6, c7]
 by_cases c8 : i > b.length
 ·refine no (nn (by omega)) ?_;rw [hM1];simp -implicitDefEqProofs (disch := omega) [ζ4, u0, u4, u8, u12, c1, c2, c3, c4, c5, c6, c7, c8]
 clear no nn n0;have hU0 := gU_lt (b := b) (i := 0) (by omega);have hU4 := gU_lt (b := b) (i := 4) (by omega);have hU8 := gU_lt (b := b) (i := 8) (by omega);have hU12 := gU_lt (b := b) (i := 12) (by omega);rw [hn] at hU0;rw [hi] at hU4;rw [hj] at hU8;rw [hq] at hU12;obtain ⟨tb, htb⟩ : ∃ tb, tb = b.drop i.toNat := ⟨_, rfl⟩
 have r4 : restS b i = some tb := ζ2l.2 ⟨by omega, htb⟩;have r8 : restS b j = some (b.drop j.toNat) := ζ2l.2 ⟨by omega, rfl⟩;have r12 : restS b q = some (b.drop q.toNat) := ζ2l.2 ⟨by omega, rfl⟩;have hsl := fun H' => slS_lv encB_len b (some (.int .i64 i)) none none i.toNat b.length b.length (by unfold boundOf; dsimp only; rw [if_pos (by omega)]) rfl rfl (fun h => by cases h) (by omega) (Nat.le_refl _) (Nat.le_refl _) H';rw [List.take_length, ← htb] at hsl;have htbb : Byt tb := hb.rest r4;have htbl : tb.length < 2 ^ 31 := by rw [htb]; simp; omega
 have hrd := fun H' => ζlc k tb htbb g 2 hg (.inl rfl) htbl H';have hlr := look_ref htbb hg.1 hg.2 (.inl rfl : (2 : Int) = 2 ∨ (2 : Int) = 4);have hmach : machS b g w = (lookS tb g 2).bind fun tab => (closeA (b.drop j.toNat) (b.drop q.toNat) n w 2).map fun x => ⟨n, tab, x.1, x.2⟩ := by
  unfold machS;rw [hU0, Option.bind_some, if_pos (by omega), hU4, Option.bind_some, r4, Option.bind_some];congr 1;funext tab;rw [hU8, Option.bind_some, r8, Option.bind_some, hU12, Option.bind_some, r12, Option.bind_some]
 cases hlk : lookS tb g 2 with
 | none =>
  have hm : refMachS b g w = none := by unfold refMachS; rw [hmach, hlk]; rfl
  rw [hm];have hrr := hlr.2 hlk;rw [hrr] at hrd;simp only [tabRO, Option.isSome_none] at hrd
  obtain ⟨x, e', H1, hr, rfl, rfl, rfl⟩ := loopDec (body := ζ1s k (R (T k)))
   (fun m e H' => H' = (((H.push ⟨zCells, 1, false⟩).push ⟨rmCells b n j q 2 0 w [] [], 1, false⟩).push ⟨[lv encB [], lv encRP []], 1, false⟩) ∧ e = [(0, lv encB b), (6, ptrV H.n), (8, ptrV (H.n + 1)), (11, .bool false), (12, .int .i64 (4 + 2 * w))])
   (fun x e H' => H' = (((H.push ⟨zCells, 1, false⟩).push ⟨rmCells b n j q 2 0 w [] [], 1, false⟩).push ⟨[lv encB [], lv encRP []], 1, false⟩) ∧ x = .exit 0 ∧ e = [(0, lv encB b), (6, ptrV H.n), (8, ptrV (H.n + 1)), (12, .int .i64 (4 + 2 * w)), (81, .bool false)])
   0 (e0 := [(0, lv encB b), (6, ptrV H.n), (8, ptrV (H.n + 1)), (11, .bool false), (12, .int .i64 (4 + 2 * w))]) (H0 := (((H.push ⟨zCells, 1, false⟩).push ⟨rmCells b n j q 2 0 w [] [], 1, false⟩).push ⟨[lv encB [], lv encRP []], 1, false⟩)) ⟨rfl, rfl⟩ (by omega)
   (fun m e H' ⟨hH, he⟩ => by
    subst hH he;refine .inr ⟨.exit 0, _, _, ?_, by simp, rfl, rfl, rfl⟩;rw [ζ12];simp -implicitDefEqProofs)
  refine nrm_fz (L := []) (v := .tuple #[.agg zCells.toArray, .bool false]) (H' := ((H.push ⟨zCells, 1, false⟩).push ⟨rmCells b n j q 2 0 w [] [], 1, false⟩).push ⟨[lv encB [], lv encRP []], 1, false⟩) ?_ rfl ((((Ext.refl H).push _).push _).push _) (fl none).alive;simp -implicitDefEqProofs (disch := omega) [ζ4, u0, u4, u8, u12, c1, c2, c3, c4, c5, c6, c7, c8, hsl, hrd, hr, ζ5s]
 | some tab =>
  obtain ⟨ps, hps, hrel⟩ := hlr.1 tab hlk;rw [hps] at hrd;simp only [tabRO, Option.isSome_some] at hrd;have st := ((Star.nil H).push ⟨zCells, 1, false⟩).push ⟨rmCells b n j q 2 0 w tb ps, 1, false⟩;have st := st.rest ((Ext.refl _).push ⟨[lv encB tb, lv encRP ps], 1, false⟩);have hlp := ζn2 k b hb hl (n := n) (w := w) (by omega) (by omega) r8 r12 tb ps (by simpa using st);cases hcl : closeA (b.drop j.toNat) (b.drop q.toNat) n w 2 with
  | none =>
   have hm : refMachS b g w = none := by unfold refMachS; rw [hmach, hlk, Option.bind_some, hcl]; rfl
   rw [hm];rw [hcl] at hlp;obtain ⟨H2, hr, hx, hz⟩ := hlp;have hgs : (H2.set H.n (some ⟨zCells, 1, false⟩)).get H.n = some ⟨zCells, 1, false⟩ := ζ56 _ _ _ (by rw [hz]; rfl);have hx3 : Ext H (H2.set H.n (some ⟨zCells, 1, false⟩)) := ⟨by simpa using hx.1, fun d hd hs => by rw [ζ1j _ _ _ _ (by omega)]; exact hx.2 d hd hs⟩
   refine nrm_fz (L := []) (v := .tuple #[.agg zCells.toArray, .bool false]) (H' := H2.set H.n (some ⟨zCells, 1, false⟩)) ?_ rfl hx3 (fl none).alive;simp -implicitDefEqProofs (disch := omega) [ζ4, u0, u4, u8, u12, c1, c2, c3, c4, c5, c6, c7, c8, hsl, hrd, hr, ζ5s, hz, hgs]
  | some x =>
   have hm : refMachS b g w = some (rmOf b g w ⟨n, tab, x.1, x.2⟩) := by unfold refMachS; rw [hmach, hlk, Option.bind_some, hcl]; rfl
   rw [hm];rw [hcl] at hlp;obtain ⟨H2, S, N, hr, hx, hz, rfl, rfl⟩ := hlp;have hrm : rmO (some (rmOf b g w ⟨n, tab, x.1, x.2⟩)) = .agg (rmCells b n j q x.1.length x.2.length w tb ps).toArray := by
    unfold rmO rmOf;rw [hj, hq, hi, ← htb, hps];rfl
   have fl2 := fl (some (rmOf b g w ⟨n, tab, x.1, x.2⟩));rw [hrm] at fl2 ⊢;refine nrm_fz (L := []) (v := .tuple #[.agg (rmCells b n j q x.1.length x.2.length w tb ps).toArray, .bool true]) (H' := H2) ?_ rfl hx fl2.alive;simp -implicitDefEqProofs (disch := omega) [ζ4, u0, u4, u8, u12, c1, c2, c3, c4, c5, c6, c7, c8, hsl, hrd, hr, ζak, hz]
theorem mach_at {b : List Int} (hb : Byt b) {g w : Int} (hw : 0 ≤ w ∧ w ≤ 2) {m : Mach} (h : machS b g w = some m) :
  (0 ≤ gU b 8 4 ∧ gU b 8 4 ≤ b.length) ∧ (0 ≤ gU b 12 4 ∧ gU b 12 4 ≤ b.length) ∧
  (∀ (i : Nat) e, m.ents[i]? = some e → e = ⟨gU b (gU b 12 4 + (i : Int) * (4 + 2 * w)) 2, gU b (gU b 12 4 + (i : Int) * (4 + 2 * w) + 2) 2, if 0 < w then gU b (gU b 12 4 + (i : Int) * (4 + 2 * w) + 4) 2 else 0, if 1 < w then gU b (gU b 12 4 + (i : Int) * (4 + 2 * w) + 6) 2 else 0⟩) ∧
  ∀ (s c : Nat) r x, m.rows[s]? = some r → r[c]? = some x → x = gU b (gU b 8 4 + (m.classes * s + (c : Nat)) * 2) 2 := by
 obtain ⟨i, j, q, tb, rv, ev, x, h0, h1, h2, h3, h4, h5, h6, h7, h8, h9, h10, h11, h12⟩ := ζft h;have e6 := gU_some h6;have e8 := gU_some h8;rw [e6, e8];obtain ⟨c1, c2, c3, c4, c5, c6, c7, _⟩ := ζga (hb.rest h7) (hb.rest h9) (by omega) hw _ _ x (by omega) (by omega) h10;refine ⟨(ζ2l.1 h7).1, (ζ2l.1 h9).1, fun i e he => ?_, fun s c r x' hr hx => ?_⟩
 ·rw [h12] at he;obtain ⟨y, g1, g2⟩ := mapO_at c7 (List.getElem?_eq_some_iff.1 he).1;rw [he] at g2;injection g2 with g2;subst g2;exact ent_at h9 hw g1
 ·rw [h11] at hr;obtain ⟨y, g1, g2⟩ := mapO_at c6 (List.getElem?_eq_some_iff.1 hr).1;rw [hr] at g2;injection g2 with g2;subst g2;have hra := row_at h7 (by omega) g1;have hlt := (List.getElem?_eq_some_iff.1 hx).1;rw [hra] at hx hlt;simp at hlt;rw [List.getElem?_map, List.getElem?_range (by omega)] at hx;injection hx with hx;exact hx.symm
theorem ζkq (k : Nat) {b : List Int} (hb : Byt b) {g w : Int} (hw : w = 0 ∨ w = 1 ∨ w = 2) (hl : b.length < 2 ^ 31) {m : Mach} (h : machS b g w = some m) {i : Int} (hi0 : 0 ≤ i) (hi6 : i ≤ 65536) {e : En} (he : m.ents[i.toNat]? = some e) (H : Heap) :
  R (T k) F.ζh [rmV (rmOf b g w m), .int .i64 i] H = .ok (.agg (encEn e).toArray) H := by
 obtain ⟨_, hq, hat, _⟩ := mach_at hb (by omega) h;have he := hat _ _ he;clear hat;obtain ⟨i, rfl⟩ := Int.eq_ofNat_of_zero_le hi0;rw [Int.toNat_natCast] at he;obtain ⟨p, hp⟩ : ∃ p, p = gU b 12 4 + (i : Int) * (4 + 2 * w) := ⟨_, rfl⟩
 have hm0 : 0 ≤ (i : Int) * (4 + 2 * w) := Int.mul_nonneg (by omega) (by omega);have hm1 : (i : Int) * (4 + 2 * w) ≤ 65536 * 8 := Int.mul_le_mul (by omega) (by omega) (by omega) (by omega);have hU := fun j H' => refU_run k (H := H') (Sl.lv H' 1 b) hb j 2 (by omega) (by omega);have hu : ∀ j H', R (T k) F.ζ1 [lv encB b, .int .i64 j, .int .i64 2] H' = .ok (.int .i64 (gU b j 2)) H' := fun j H' => hU j H';rw [ζcg];rw [← hp] at he;have hx : Ext H (((H.push ⟨rmCells b m.classes (gU b 8 4) (gU b 12 4) m.rows.length m.ents.length w (b.drop (gU b 4 4).toNat) ((refReadS (b.drop (gU b 4 4).toNat) g 2).getD []), 1, false⟩).push ⟨encEn e, 1, false⟩).push ⟨encEn e, 1, false⟩) := (((Ext.refl H).push _).push _).push _;refine nrm_gc ⟨_, ?_, hx⟩ (Flat.ofEn e).alive;subst he;unfold rmOf;rcases hw with rfl | rfl | rfl
 ·simp -implicitDefEqProofs at hm0 hm1 hp;simp -implicitDefEqProofs (disch := omega) [ζh, ← hp, hu, ζ9w, ζ5r]
 ·simp -implicitDefEqProofs at hm0 hm1 hp;simp -implicitDefEqProofs (disch := omega) [ζh, ← hp, hu, ζ5q, ζ5r]
 ·simp -implicitDefEqProofs at hm0 hm1 hp;simp -implicitDefEqProofs (disch := omega) [ζh, ← hp, hu, ζ5q, ζ9x]
end Go.Sw
end
section
namespace Go.Sw
theorem row_I {r : List Da} {cs : List Value} (h : LayRow [.int .i64] r cs) : ∃ n : Int, cs = encI n ∧ (Lit.int .i64 n).wf = true := by
 obtain ⟨d, v, ds, vs, rfl, h1, h2⟩ := h.head;obtain rfl := h2.done;obtain ⟨n, rfl, w⟩ := h1.intv;exact ⟨n, rfl, w⟩
theorem wf_u8 {n : Int} (h : (Lit.int .u8 n).wf = true) : 0 ≤ n ∧ n < 256 := by
 simp [Lit.wf, IntKind.min, IntKind.max, IntKind.signed, IntKind.bits] at h;omega
theorem wf_u16 {n : Int} (h : (Lit.int .u16 n).wf = true) : 0 ≤ n ∧ n < 65536 := by
 simp [Lit.wf, IntKind.min, IntKind.max, IntKind.signed, IntKind.bits] at h;omega
theorem row_B {r : List Da} {cs : List Value} (h : LayRow [.int .u8] r cs) : ∃ n : Int, cs = encB n ∧ (0 ≤ n ∧ n < 256) := by
 obtain ⟨d, v, ds, vs, rfl, h1, h2⟩ := h.head;obtain rfl := h2.done;obtain ⟨n, rfl, w⟩ := h1.intv;exact ⟨n, rfl, wf_u8 w⟩
theorem arg_I {v : Value} (h : ArgLay (.one (.slice [.int .i64])) v) : ∃ l, v = lv encI l ∧ ∀ n, n ∈ l → (Lit.int .i64 n).wf = true := by
 obtain ⟨d, h1⟩ := h.cell;exact Lay.list (enc := encI) (ok := fun n => (Lit.int .i64 n).wf = true) (fun r cs h => row_I h) h1
theorem arg_b {v : Value} (h : ArgLay (.one .bool) v) : ∃ b, v = .bool b := by
 obtain ⟨d, h1⟩ := h.cell;exact h1.boolv
end Go.Sw
end
section
namespace Go.Sw
open Go.RowKit
end Go.Sw
end
section
namespace Go.Sw
open Go.RowKit
theorem ζia {p : Plan} (hp : p.ok) (w : Int) {rm : List Int} (hrm : Byt rm) : Byt (planRoom p w rm) := by
 have tw : ∀ l, Byt (twos l) := fun l => Byt.flat fun r hr => by obtain ⟨c, _, rfl⟩ := List.mem_map.1 hr; exact ζ14 _ _
 unfold planRoom;refine (ζ14 _ _).app ((ζ14 _ _).app ((ζ14 _ _).app ((ζ14 _ _).app (hrm.app (Byt.app ?_ (Byt.app ?_ ?_))))))
 ·unfold ofS;exact (((ζ14 _ _).app (ζ14 _ _)).app (ζ14 _ _)).app (tw _)
 ·exact Byt.flat fun r hr => by obtain ⟨c, _, rfl⟩ := List.mem_map.1 hr; exact tw _
 ·refine Byt.flat fun r hr => ?_;obtain ⟨e, _, rfl⟩ := List.mem_map.1 hr;unfold entB;refine (((ζ14 _ _).app (ζ14 _ _)).app ?_).app ?_
  ·split
   ·exact ζ14 _ _
   ·exact Byt.nil
  ·split
   ·exact ζ14 _ _
   ·exact Byt.nil
theorem ζee {p : Plan} (hp : p.ok) (w : Int) {rm : List Int} (hrm : rm.length ≤ 1000) (h1 : p.cls.length ≤ 1000) (h2 : p.rows.length ≤ 1000) (h3 : p.ents.length ≤ 1000) : (planRoom p w rm).length ≤ 100000 := by
 have hN := planN_eq p hp.2.2;have hofl : (ofS p.cls).length = 6 + p.cls.length * 2 := by unfold ofS; simp [twos_len]; omega
 have hrl : (rowsL (planN p) p.rows).length ≤ 1000 * 22 := by rw [ζdh]; exact Nat.mul_le_mul h2 (by omega)
 have hel := ζd9 w p.ents;unfold planRoom;simp;omega
theorem row_En {r : List Da} {cs : List Value} (h : LayRow [.int .i64, .int .i64, .int .i64, .int .i64] r cs) : ∃ p : En, cs = encEn p ∧ True := by
 obtain ⟨_, v1, _, _, rfl, h1, h⟩ := h.head;obtain ⟨_, v2, _, _, rfl, h2, h⟩ := h.head;obtain ⟨_, v3, _, _, rfl, h3, h⟩ := h.head;obtain ⟨_, v4, _, _, rfl, h4, h⟩ := h.head;obtain rfl := h.done;obtain ⟨a, rfl, _⟩ := h1.intv;obtain ⟨b, rfl, _⟩ := h2.intv;obtain ⟨c, rfl, _⟩ := h3.intv;obtain ⟨d, rfl, _⟩ := h4.intv;exact ⟨⟨a, b, c, d⟩, rfl, trivial⟩
theorem row_BR {r : List Da} {cs : List Value} (h : LayRow [.slice [.int .u8]] r cs) : ∃ b : List Int, cs = encBR b ∧ Byt b := by
 obtain ⟨_, v1, _, _, rfl, h1, h⟩ := h.head;obtain rfl := h.done;obtain ⟨b, rfl, hb⟩ := Lay.list (enc := encB) (ok := fun n => 0 ≤ n ∧ n < 256) (fun r cs h => row_B h) h1;exact ⟨b, rfl, hb⟩
end Go.Sw
end
section
namespace Go.Sw
open Go.RowKit
variable {σ : Type}
end Go.Sw
end
section
namespace Go.Sw
open Go.RowKit Go.Proofs
set_option maxRecDepth 20000 in
theorem ζjl (p : Addr) (b : Bool) (w : World) (hc : (w.alloc (.cells #[] 200)).cell? p = some (.bool b)) (hz : (w.alloc (.cells #[] 200)).frozen? p = false) :
  CallsD Prog 105 #[.pointer (some p)] (.panicking [{ v := .iface 200 (.agg #[]), recovered := false }]) w fun e u' w' =>
   e = .returned (.tuple #[]) ∧ u' = .panicking [{ v := .iface 200 (.agg #[]), recovered := true }] ∧ w' = (w.alloc (.cells #[] 200)).setCell p (.bool false) := by
 refine callsD_of_wpS Try.func105 rfl fun c₀ cs hu => ?_;apply wpS_seq;apply wpS_region;simp [wpOpsS, go_sem, recoverD, hu, Try.ntmps105, Exit.thenS];have hta : ∀ w, (Instr.typeAssert (.iface 200 (.agg #[])) 20 200 true).run Prog w = .ok (.tuple #[.agg #[], .bool true]) w := fun w => by kernel_rfl
 refine wpS_of_wp ?_
 go_wp2
 cases c₀;simp_all [bodyPostS, results, Try.results105]
theorem ζki (p : Addr) (w : World) :
  CallsD Prog 105 #[.pointer (some p)] .returning w fun e u' w' => e = .returned (.tuple #[]) ∧ u' = .returning ∧ w' = w := by
 refine callsD_of_wpS Try.func105 rfl fun c₀ cs hu => ?_;apply wpS_seq;apply wpS_region;simp [wpOpsS, go_sem, recoverD, hu, Try.ntmps105, Exit.thenS];refine wpS_of_wp ?_
 go_wp2
 cases c₀;simp_all [bodyPostS, results, Try.results105]
set_option maxRecDepth 20000 in
theorem try_walk (g : FuncId) (first cap : Array Value) (w : World) (R : Ending → World → Prop)
  (hcf : (callFunc g (first ++ cap)).run Prog (w.alloc (.cells #[.bool false] 4)) = .ok (.enter g (first ++ cap)) (w.alloc (.cells #[.bool false] 4)))
  (hcall : Calls Prog g (first ++ cap) (w.alloc (.cells #[.bool false] 4)) fun e w' => match e with
   | .returned _ => w'.heap[w.heap.size]? = some (.cells #[.bool false] 4 (0, 0)) ∧ R (.returned (.bool true)) (w'.setCell ⟨w.heap.size, 0, none⟩ (.bool true))
   | .panicked chain => chain = [{ v := .iface 200 (.agg #[]), recovered := false }] ∧ w'.heap[w.heap.size]? = some (.cells #[.bool false] 4 (0, 0)) ∧ R (.returned (.bool false)) ((w'.alloc (.cells #[] 200)).setCell ⟨w.heap.size, 0, none⟩ (.bool false))
   | .outgrown => False) :
  Calls Prog 35 #[.func (.func g) first cap] w R := by
 have hmf : ∀ (fn : Fn) (first cap : Array Value) (w : World), (Instr.makeFunc fn first cap).run Prog w = .ok (.func fn first cap) w := fun _ _ _ _ => rfl
 go_enter_defers Try.func35, Try.ntmps35
 go_wp2
 rename_i K2 hK2 K1 hK1;refine hcall.mono fun e w' he => ?_;cases e with
 | returned v =>
  obtain ⟨h1, h2⟩ := he;have hc : w'.cell? ⟨w.heap.size, 0, none⟩ = some (.bool false) := by simp [World.cell?, h1]
  have hz : w'.frozen? ⟨w.heap.size, 0, none⟩ = false := by simp [World.frozen?, h1]
  apply hK1;apply hK2
  go_wp2
  have hc2 : (w'.setCell ⟨w.heap.size, 0, none⟩ (.bool true)).cell? ⟨w.heap.size, 0, none⟩ = some (.bool true) := World.cell?_setCell_same _ _ _ hc;refine leaves_cons (f := 105) (args := #[.pointer (some ⟨w.heap.size, 0, none⟩)]) (by simp) (by simp [go_sem]) ?_;refine (ζki ⟨w.heap.size, 0, none⟩ _).mono ?_;rintro e u' w'' ⟨rfl, rfl, rfl⟩;simp [Leaves, settle, results, Try.results35, go_sem, hc2];exact h2
 | panicked chain =>
  obtain ⟨h0, h1, h2⟩ := he;subst h0;have hlt : w.heap.size < w'.heap.size := by
   rcases Nat.lt_or_ge w.heap.size w'.heap.size with h | h
   ·exact h
   ·rw [Array.getElem?_eq_none h] at h1; cases h1
  have h3 : (w'.alloc (.cells #[] 200)).heap[w.heap.size]? = some (.cells #[.bool false] 4 (0, 0)) := by
   rw [ζ1x _ _ _ hlt]; exact h1
  have hc : (w'.alloc (.cells #[] 200)).cell? ⟨w.heap.size, 0, none⟩ = some (.bool false) := by simp only [World.cell?, h3]; rfl
  have hz : (w'.alloc (.cells #[] 200)).frozen? ⟨w.heap.size, 0, none⟩ = false := by simp [World.frozen?, h3]
  have hc2 : ((w'.alloc (.cells #[] 200)).setCell ⟨w.heap.size, 0, none⟩ (.bool false)).cell? ⟨w.heap.size, 0, none⟩ = some (.bool false) := World.cell?_setCell_same _ _ _ hc;show Leaves _ _ _ _ _ _ _;refine leaves_cons (f := 105) (args := #[.pointer (some ⟨w.heap.size, 0, none⟩)]) (by simp) (by simp [go_sem]) ?_;refine (ζjl ⟨w.heap.size, 0, none⟩ false _ hc hz).mono ?_;rintro e u' w'' ⟨rfl, rfl, rfl⟩;simp [Leaves, settle, results, Try.results35, go_sem, hc2];exact h2
 | outgrown => exact he.elim
theorem try_is : SpIs Prog 35 (tryV 200) := try_of (bt := 4) Try.func35 rfl (by kernel_rfl) try_walk
end Go.Sw
end
section
namespace Go.Sw
open Go.RowKit
structure CTab.ok (t : CTab) : Prop where
 m : t.m.ok
 subs : ∀ x, x ∈ t.subs → (∀ p, p ∈ x.2 → p.ok) ∧ risesS x.2 = true ∧ x.2.length < 2 ^ 31
 has : ∀ e, e ∈ t.m.ents → (e.a = 65535 ∨ e.a < t.subs.length) ∧ (e.b = 65535 ∨ e.b < t.subs.length)
end Go.Sw
end
section
namespace Go.Sw
open Go.RowKit
theorem ζfh {rv ev : List Int} {n w : Int} : ∀ (f s : Nat) x, closeS rv ev n w f s = some x → ∃ N, entsTo ev w N = some x.2
 | 0, _, _, h => by cases h
 | f + 1, s, x, h => by
  simp only [closeS] at h;obtain ⟨rs, e1, h⟩ := Option.bind_eq_some_iff.1 h;obtain ⟨es, e2, h⟩ := Option.bind_eq_some_iff.1 h;split at h
  ·injection h with h; subst h; exact ⟨_, e2⟩
  ·exact ζfh f _ x h
end Go.Sw
end
section
namespace Go.Sw
open Go.RowKit
variable {σ : Type}
theorem ζla {p : Plan} (hp : p.ok) {w : Int} (hw : w = 0 ∨ w = 1 ∨ w = 2) {rm more : List Int} (hrm : rm.length ≤ 1000) (h1 : p.cls.length ≤ 1000) (h2 : p.rows.length ≤ 1000) {g : Int} {m : Mach} (h : machS (planRoom p w rm ++ more) g w = some m) (hn : m.ents.length ≤ p.ents.length)
  {e : En} (he : e ∈ m.ents) : ∃ q, q ∈ p.ents ∧ e = entM w q := by
 have e1 := ζmy p hp w rm more hrm h1 h2 g;rw [h] at e1;obtain ⟨x, hx, hm⟩ := Option.map_eq_some_iff.1 e1.symm;obtain ⟨N, hN⟩ := ζfh _ _ _ hx;have hme : m.ents = x.2 := by rw [← hm]
 rw [hme] at he hn;obtain ⟨i, hi⟩ := List.getElem?_of_mem he;obtain ⟨j, hj, hk⟩ := mapO_get hN hi;have hil := (List.getElem?_eq_some_iff.1 hi).1;have hlen := mapO_len hN;simp at hlen;rw [List.getElem?_range (by omega)] at hj;injection hj with hj;subst hj;obtain ⟨q, hq⟩ : ∃ q, p.ents[i]? = some q := ⟨_, List.getElem?_eq_getElem (by omega)⟩
 have := ζmb hw more hq;rw [this] at hk;injection hk with hk;exact ⟨q, List.mem_of_getElem? hq, hk.symm⟩
theorem runD_inv (m : Mach) (hm : m.ok) (ln : σ → List Gl) (f : σ → Int → En → σ × Int × Int) (P : σ → Prop) (hf : ∀ s i e, P s → 0 ≤ i → e ∈ m.ents → P (f s i e).1) (most : Int) :
  ∀ (n : Nat) (x : σ × Drv), P x.1 → 0 ≤ x.2.pl → 0 ≤ x.2.st → x.2.st < m.rows.length → P (runD m ln f most n x).2.2
 | 0, x, h, _, _, _ => h
 | n + 1, x, h, hp, h0, h1 => by
  have hmem := entS_mem hm (ln x.1) x.2 ⟨h0, h1⟩;have hent := hm.ent _ hmem;have hP : P (stepD m ln f x).1.1 := by unfold stepD; split <;> exact hf _ _ _ h hp hmem
  have hst : 0 ≤ (stepD m ln f x).1.2.st ∧ (stepD m ln f x).1.2.st < m.rows.length := by unfold stepD; split <;> exact ⟨hent.1, hent.2.1⟩
  have hpl := stepD_pl m ln f x;unfold runD;split
  ·split
   ·exact hP
   ·split
    ·exact hP
    ·exact runD_inv m hm ln f P hf most n _ hP hpl hst.1 hst.2
  ·exact h
end Go.Sw
end
section
namespace Go.Sw
open Go.RowKit
theorem ζ9n (p : Plan) (w : Int) (rm rm' : List Int) (h : rm.length = rm'.length) : (planRoom p w rm).length = (planRoom p w rm').length := by
 unfold planRoom;simp [h]
end Go.Sw
end
section
namespace Go.Sw
open Go.RowKit
theorem ζlf (p : Plan) (w : Int) (n : Nat) : ∃ hd tl : List Int, hd.length = 16 ∧ ∀ rm : List Int, rm.length = n → planRoom p w rm = hd ++ (rm ++ tl) := by
 refine ⟨bytesOf (planN p : Int) 4 ++ (bytesOf (16 + n : Int) 4 ++ (bytesOf (16 + n + (ofS p.cls).length : Int) 4 ++ bytesOf (16 + n + (ofS p.cls).length + (rowsL (planN p) p.rows).length : Int) 4)), ofS p.cls ++ (rowsL (planN p) p.rows ++ entsB w p.ents), by simp, fun rm h => ?_⟩;unfold planRoom;rw [h];simp only [List.append_assoc]
theorem twos_byt (l : List Int) : Byt (twos l) := Byt.flat fun r hr => by
 obtain ⟨x, _, rfl⟩ := List.mem_map.1 hr;exact ζ14 _ _
end Go.Sw
end
section
namespace Go.Sw
open Go.RowKit
end Go.Sw
end
section
namespace Go.Sw
open Go.RowKit
variable {σ : Type}
end Go.Sw
end
section
set_option maxRecDepth 100000
set_option linter.unusedVariables false
namespace Go.Sw
noncomputable section
end
end Go.Sw
end
section
set_option maxRecDepth 100000
set_option linter.unusedVariables false
namespace Go.Sw
noncomputable section
end
end Go.Sw
end
section
namespace Go.Sw
structure Pl where
 adv : Int
 x : Int
 y : Int
 deriving DecidableEq
def Pl.ok (p : Pl) : Prop := (-2147483648 ≤ p.adv ∧ p.adv ≤ 2147483647) ∧ (-2147483648 ≤ p.x ∧ p.x ≤ 2147483647) ∧ (-2147483648 ≤ p.y ∧ p.y ≤ 2147483647)
end Go.Sw
end
section
namespace Go.Sw
end Go.Sw
end
section
namespace Go.Sw
end Go.Sw
end
section
namespace Go.Sw
end Go.Sw
end
section
namespace Go.Sw
open Go.RowKit
end Go.Sw
end
section
namespace Go.Sw
open Go.RowKit
end Go.Sw
end
section
namespace Go.Sw
open Go.RowKit
def oddB (vs : List Int) (a : Int) : Bool := (List.range (vs.length / 2)).any fun i => decide (a ≤ (i : Int) ∧ gU vs (2 * (i : Int)) 2 % 2 = 1)
structure STab where
 m : Mach
 vals : List Int
structure STab.ok (t : STab) : Prop where
 m : t.m.ok
 byt : Byt t.vals
 len : t.vals.length < 2 ^ 31
 has : ∀ e, e ∈ t.m.ents → e.a = 65535 ∨ oddB t.vals e.a = true
end Go.Sw
end
section
namespace Go.Sw
open Go.RowKit
end Go.Sw
end
section
namespace Go.Sw
open Go.RowKit
theorem and_pow (n k : Nat) : n &&& 2 ^ k = if n.testBit k then 2 ^ k else 0 := by
 apply Nat.eq_of_testBit_eq;intro i;rw [Nat.testBit_and, Nat.testBit_two_pow];by_cases h : k = i
 ·subst h;cases hb : n.testBit k
  ·simp
  ·simp
 ·cases hb : n.testBit k
  ·simp [h]
  ·simp only [h, decide_false, Bool.and_false, if_true, Nat.testBit_two_pow]
theorem bin_andP (P : Program) (t : TypeId) (H : Heap) (k : Nat) (hk : k < 62) {a : Int} (h0 : 0 ≤ a) (h1 : a < 2 ^ 62) (m : Int) (hm : m = ((2 ^ k : Nat) : Int)) :
  binR P .and t (.int .i64 a) (.int .i64 m) H = .ok (.int .i64 (if a / m % 2 = 1 then m else 0)) H := by
 obtain ⟨n, rfl⟩ := Int.eq_ofNat_of_zero_le h0;have hp : 2 ^ k ≤ 2 ^ 61 := Nat.pow_le_pow_right (by decide) (by omega);have hp0 : 0 < 2 ^ k := Nat.two_pow_pos k;have e : (BitVec.ofInt 64 (n : Int) &&& BitVec.ofInt 64 m).toNat = if n.testBit k then 2 ^ k else 0 := by
  rw [BitVec.toNat_and, BitVec.toNat_ofInt, BitVec.toNat_ofInt, hm];rw [show (((n : Int)) % ((2 ^ 64 : Nat) : Int)).toNat = n by omega, show ((((2 ^ k : Nat) : Int)) % ((2 ^ 64 : Nat) : Int)).toNat = 2 ^ k by omega, and_pow]
 have e1 : binV P .and t (.int .i64 (n : Int)) (.int .i64 m) = some (.int .i64 (IntKind.i64.wrap (BitVec.ofInt 64 (n : Int) &&& BitVec.ofInt 64 m).toNat)) := rfl;unfold binR;rw [e1, e, Nat.testBit_eq_decide_div_mod_eq];have hd : (n : Int) / m = ((n / 2 ^ k : Nat) : Int) := by rw [hm, Int.natCast_ediv]
 rw [hd];by_cases h : n / 2 ^ k % 2 = 1
 ·rw [decide_eq_true h, if_pos rfl, if_pos (by omega), wrap_i64 (by omega) (by omega), hm]; rfl
 ·rw [decide_eq_false h, if_neg (by simp), if_neg (by omega)]; rfl
theorem and13 (P : Program) (t : TypeId) (H : Heap) {a : Int} (h0 : 0 ≤ a) (h1 : a < 65536) : binR P .and t (.int .i64 a) (.int .i64 8192) H = .ok (.int .i64 (if a / 8192 % 2 = 1 then 8192 else 0)) H := bin_andP P t H 13 (by decide) h0 (by omega) 8192 rfl
theorem and31 (P : Program) (t : TypeId) (H : Heap) {a : Int} (h0 : 0 ≤ a) (h1 : a < 4294967296) : binR P .and t (.int .i64 a) (.int .i64 2147483648) H = .ok (.int .i64 (if a ≥ 2147483648 then 2147483648 else 0)) H := by
 rw [bin_andP P t H 31 (by decide) h0 (by omega) 2147483648 rfl];by_cases h : a ≥ 2147483648
 ·rw [if_pos h, if_pos (by omega)]
 ·rw [if_neg h, if_neg (by omega)]
def andN (a m : Int) : Int := IntKind.i64.wrap (BitVec.ofInt 64 a &&& ~~~(BitVec.ofInt 64 m)).toNat
theorem bin_andN (P : Program) (t : TypeId) (H : Heap) (a m : Int) : binR P .andNot t (.int .i64 a) (.int .i64 m) H = .ok (.int .i64 (andN a m)) H := rfl
theorem m16_wrap (N : Nat) (h : N < 2 ^ 64) : m16 (IntKind.i64.wrap (N : Int)) = (N : Int) % 65536 := by
 unfold m16 IntKind.wrap;simp [IntKind.signed, IntKind.bits];split <;> omega
theorem andN_bit (a : Int) (k : Nat) (hk : k < 16) (m : Int) (hm : m = ((2 ^ k : Nat) : Int)) : m16 (andN a m) / m % 2 = 0 := by
 have hp : 2 ^ k ≤ 2 ^ 15 := Nat.pow_le_pow_right (by decide) (by omega);have hb : (BitVec.ofInt 64 a &&& ~~~(BitVec.ofInt 64 m)).toNat.testBit k = false := by
  rw [← BitVec.getLsbD, BitVec.getLsbD_and, BitVec.getLsbD_not];have : (BitVec.ofInt 64 m).getLsbD k = true := by
   unfold BitVec.getLsbD;rw [BitVec.toNat_ofInt, hm];have : ((((2 ^ k : Nat) : Int)) % ((2 ^ 64 : Nat) : Int)).toNat = 2 ^ k := by
    generalize 2 ^ k = M at hp ⊢;omega
   rw [this, Nat.testBit_two_pow_self]
  rw [this];simp
 have hlt := (BitVec.ofInt 64 a &&& ~~~(BitVec.ofInt 64 m)).isLt;unfold andN;generalize (BitVec.ofInt 64 a &&& ~~~(BitVec.ofInt 64 m)).toNat = N at hb hlt ⊢;rw [m16_wrap N hlt];rw [Nat.testBit_eq_decide_div_mod_eq, decide_eq_false_iff_not] at hb;have e1 : ((N : Int) % 65536) = ((N % 65536 : Nat) : Int) := by omega
 have e2 : ((N % 65536 : Nat) : Int) / m = ((N % 65536 / 2 ^ k : Nat) : Int) := by rw [hm, Int.natCast_ediv]
 rw [e1, e2];have e3 : N % 65536 / 2 ^ k % 2 = N / 2 ^ k % 2 := by
  have hk2 : 65536 = 2 ^ k * (2 * 2 ^ (15 - k)) := by
   rw [← Nat.pow_succ', ← Nat.pow_add, show k + (15 - k + 1) = 16 by omega]
  rw [hk2, Nat.mod_mul_right_div_self, Nat.mod_mul_right_mod]
 omega
end Go.Sw
end
section
set_option maxRecDepth 100000
set_option linter.unusedVariables false
namespace Go.Sw
noncomputable section
end
end Go.Sw
end
section
namespace Go.Sw
open Go.RowKit
theorem Star.same {H0 H : Heap} {L : List It} (h : Star H0 H L) (i : Nat) {x : It} (hi : L[i]? = some x) (y : It) (hy : y.P H) (ho : ∀ b, b ∈ y.o → b ∈ x.o) : Star H0 H (L.set i y) :=
 h.step i hi (Nat.le_refl _) (fun _ _ _ => rfl) y hy fun b hb => .inl (ho b hb)
end Go.Sw
end
section
namespace Go.Sw
open Go.RowKit
end Go.Sw
end
section
namespace Go.Sw
open Go.RowKit
theorem ζly (n : Nat) : n &&& 2 ^ 15 = if n.testBit 15 then 2 ^ 15 else 0 := by
 apply Nat.eq_of_testBit_eq;intro i;rw [Nat.testBit_and, Nat.testBit_two_pow];by_cases h : 15 = i
 ·subst h;cases hb : n.testBit 15 <;> simp <;> decide
 ·cases hb : n.testBit 15
  ·simp [h]
  ·simp only [h, decide_false, Bool.and_false, if_true, Nat.testBit_two_pow]
theorem and15 (P : Program) (t : TypeId) (H : Heap) {a : Int} (h0 : 0 ≤ a) (h1 : a < 65536) : binR P .and t (.int .i64 a) (.int .i64 32768) H = .ok (.int .i64 (if a ≥ 32768 then 32768 else 0)) H := by
 have e : (BitVec.ofInt 64 a &&& BitVec.ofInt 64 32768).toNat = (if a ≥ 32768 then 32768 else 0) := by
  rw [BitVec.toNat_and, BitVec.toNat_ofInt, BitVec.toNat_ofInt];rw [show ((32768 : Int) % ((2 ^ 64 : Nat) : Int)).toNat = 2 ^ 15 from by decide, ζly, Nat.testBit_eq_decide_div_mod_eq];obtain ⟨n, rfl⟩ := Int.eq_ofNat_of_zero_le h0;rw [show (((n : Int)) % ((2 ^ 64 : Nat) : Int)).toNat = n by omega];by_cases h : (n : Int) ≥ 32768
  ·rw [if_pos h, decide_eq_true (show n / 2 ^ 15 % 2 = 1 by omega)]; rfl
  ·rw [if_neg h, decide_eq_false (show ¬ n / 2 ^ 15 % 2 = 1 by omega)]; rfl
 have e1 : binV P .and t (.int .i64 a) (.int .i64 32768) = some (.int .i64 (IntKind.i64.wrap (BitVec.ofInt 64 a &&& BitVec.ofInt 64 32768).toNat)) := rfl;unfold binR;rw [e1, e];by_cases h : a ≥ 32768
 ·simp [h]
 ·simp [h]
end Go.Sw
end
section
namespace Go.Sw
open Go.RowKit
theorem plainNew (k : Nat) (f : Fn) (a b : Array Value) (H : Heap) : R (T k) F.ζ4r [.func f a b] H = .ok (.func (.func F.ζ1f) #[] #[ptrV H.n]) (H.push ⟨[.func f a b], 1, false⟩) := by
 rw [ζh1];have e : ζ4r k (R (T k)) (.func f a b) H = .ok (.func (.func F.ζ1f) #[] #[ptrV H.n]) (H.push ⟨[.func f a b], 1, false⟩) := by
  simp -implicitDefEqProofs [ζ4r]
 rw [e];have dead : ¬ Alive H (.func (.func F.ζ1f) #[] #[ptrV H.n]) := fun h => by
  cases h with
  | func fn xs ys h1 h2 =>
   have := h2 0 (ptrV H.n) rfl;cases this with
   | ptr b off k hg => have := Heap.get_lt hg; omega
 unfold nrm;exact if_neg fun hc => dead hc.2
end Go.Sw
end
section
namespace Go.Sw
open Go.RowKit
theorem veq_Ens (l : List En) : veq (lv encEn l) (lv encEn l) = true := veq_lv fun p _ v hv => by
 simp [encEn] at hv;rcases hv with rfl | rfl | rfl | rfl <;> simp
theorem veq_Is (l : List Int) : veq (lv encI l) (lv encI l) = true := veq_lv fun p _ v hv => by
 simp [encI] at hv;subst hv; simp
theorem veq_Rows (l : List (List Int)) : veq (lv encRow l) (lv encRow l) = true := veq_lv fun p _ v hv => by
 simp [encRow] at hv;subst hv; exact veq_Is p
theorem veq_mach (m : Mach) : veq (machV m) (machV m) = true := veq_boxV (l := [.int .i64 m.classes, tabV m.tab, lv encRow m.rows, lv encEn m.ents]) fun v hv => by
 simp at hv;rcases hv with rfl | rfl | rfl | rfl
 ·simp
 ·exact veq_tab _
 ·exact veq_Rows _
 ·exact veq_Ens _
end Go.Sw
end
section
namespace Go.Sw
open Go.RowKit
theorem Star.perm {H0 H : Heap} {L L' : List It} (h : Star H0 H L) (hp : L.Perm L') : Star H0 H L' := by
 have hpw : L.Pairwise fun x y => ∀ b, b ∈ x.o → b ∉ y.o := List.pairwise_iff_getElem.2 fun i j hi hj hij b hb => h.2.2 i j _ _ (by omega) (List.getElem?_eq_getElem hi) (List.getElem?_eq_getElem hj) b hb;have hpw' := (hp.pairwise_iff (fun {x y} hxy b hb hb2 => hxy b hb2 hb)).1 hpw;refine ⟨h.1, fun i x hx => ?_, fun i j x y hij hx hy b hb => ?_⟩
 ·obtain ⟨j, hj⟩ := List.getElem?_of_mem (hp.mem_iff.2 (List.mem_of_getElem? hx));exact h.2.1 j x hj
 ·obtain ⟨hi, rfl⟩ := List.getElem?_eq_some_iff.1 hx;obtain ⟨hj, rfl⟩ := List.getElem?_eq_some_iff.1 hy;rcases Nat.lt_or_gt_of_ne hij with hlt | hgt
  ·exact List.pairwise_iff_getElem.1 hpw' i j hi hj hlt b hb
  ·exact fun hb2 => List.pairwise_iff_getElem.1 hpw' j i hj hi hgt b hb2 hb
end Go.Sw
end
section
namespace Go.Sw
open Go.RowKit
end Go.Sw
end
section
namespace Go.Sw
open Go.RowKit
def lastB (vs : List Int) (a : Int) : Bool := (List.range (vs.length / 4)).any fun i => decide (a ≤ (i : Int) ∧ gU vs (4 * (i : Int)) 4 ≥ 2147483648)
theorem ζ7d {vs : List Int} {a : Int} : lastB vs a = true ↔ ∃ i : Nat, a ≤ i ∧ 4 * i + 4 ≤ vs.length ∧ gU vs (4 * (i : Int)) 4 ≥ 2147483648 := by
 unfold lastB;rw [List.any_eq_true];constructor
 ·rintro ⟨i, hi, h⟩;have := of_decide_eq_true h;have hi := List.mem_range.1 hi;exact ⟨i, this.1, by omega, this.2⟩
 ·rintro ⟨i, h1, h2, h3⟩;exact ⟨i, List.mem_range.2 (by omega), decide_eq_true ⟨h1, h3⟩⟩
structure LTab where
 m : Mach
 acts : List Int
 comps : List Int
 ligs : List Int
def entLast (vs : List Int) (e : En) : Bool := decide (¬ e.flags / 8192 % 2 = 1) || lastB vs e.a
def listAt (b : List Int) (i : Int) : Option (List Int) := (uS b i 4).bind (restS b)
def ligaS (b : List Int) (g : Int) : Option LTab := (machS b g 1).bind fun m => (listAt b 16).bind fun a => (listAt b 20).bind fun c => (listAt b 24).bind fun l => if m.ents.all (entLast a) then some ⟨m, a, c, l⟩ else none
theorem ζdc {b : List Int} (hb : Byt b) {i : Int} {l : List Int} (h : listAt b i = some l) : Byt l ∧ l.length ≤ b.length := by
 unfold listAt at h;obtain ⟨p, hp, h⟩ := Option.bind_eq_some_iff.1 h;exact ⟨hb.rest h, ζ8q h⟩
structure LTab.ok (t : LTab) : Prop where
 m : t.m.ok
 byt : Byt t.acts ∧ Byt t.comps ∧ Byt t.ligs
 len : t.acts.length < 2 ^ 31 ∧ t.comps.length < 2 ^ 31 ∧ t.ligs.length < 2 ^ 31
 has : ∀ e, e ∈ t.m.ents → ¬ e.flags / 8192 % 2 = 1 ∨ lastB t.acts e.a = true
theorem ligaS_ok {b : List Int} (hb : Byt b) {g : Int} (h1 : 1 ≤ g) (h2 : g ≤ 65535) (hl : b.length < 2 ^ 31) {t : LTab} (h : ligaS b g = some t) : t.ok := by
 unfold ligaS at h;obtain ⟨m, hm, h⟩ := Option.bind_eq_some_iff.1 h;obtain ⟨a, ha, h⟩ := Option.bind_eq_some_iff.1 h;obtain ⟨c, hc, h⟩ := Option.bind_eq_some_iff.1 h;obtain ⟨l, hL, h⟩ := Option.bind_eq_some_iff.1 h;split at h
 ·rename_i hall;injection h with h;subst h;have a1 := ζdc hb ha;have c1 := ζdc hb hc;have l1 := ζdc hb hL;refine ⟨machS_ok hb h1 h2 (by omega) hm, ⟨a1.1, c1.1, l1.1⟩, ⟨by dsimp only; omega, by dsimp only; omega, by dsimp only; omega⟩, fun e he => ?_⟩;have := List.all_eq_true.1 hall e he;unfold entLast at this;rw [Bool.or_eq_true, decide_eq_true_eq] at this;exact this
 ·cases h
def offS (a : Int) : Int := if a % 1073741824 ≥ 536870912 then a % 1073741824 - 1073741824 else a % 1073741824
def entryS (v : List Int) (i : Int) : Option Int := if 0 ≤ i ∧ i < (v.length : Int) / 2 then some (gU v (2 * i) 2) else none
def pushP (i : Int) (ps : List Int) : List Int := if ps.head? = some i then ps else (i :: ps).take 64
def join1 (i : Int) (l : List Gl) (k : Int) : List Gl := match atG l k with | some h => if 0 ≤ i ∧ i < l.length then l.modify i.toNat fun g => ⟨g.id, min g.cl h.cl⟩ else l | none => l
def joinG (l : List Gl) (i : Int) (ks : List Int) : List Gl := ks.foldl (join1 i) l
def delG (l : List Gl) (ks : List Int) : List Gl := ks.foldl (fun l k => setG l k 65535) l
theorem ζmk (i : Int) (l : List Gl) (k : Int) : (join1 i l k).length = l.length := by
 unfold join1;split
 ·split <;> simp
 ·rfl
theorem ζgf (i : Int) : ∀ (ks : List Int) (l : List Gl), (joinG l i ks).length = l.length
 | [], _ => rfl
 | k :: ks, l => by
  have := ζgf i ks (join1 i l k);unfold joinG at this ⊢;rw [List.foldl_cons, this, ζmk]
theorem ζfy (l : List Gl) (i id : Int) : (setG l i id).length = l.length := by unfold setG; split <;> simp
theorem delG_len : ∀ (ks : List Int) (l : List Gl), (delG l ks).length = l.length
 | [], _ => rfl
 | k :: ks, l => by
  have := delG_len ks (setG l k 65535);unfold delG at this ⊢;rw [List.foldl_cons, this, ζfy]
def storeG (l : List Gl) (i id : Int) (gone : List Int) : List Gl := delG (joinG (setG l i id) i gone) gone
theorem ζhw (l : List Gl) (i id : Int) (gone : List Int) : (storeG l i id gone).length = l.length := by unfold storeG; rw [delG_len, ζgf, ζfy]
def perfS (t : LTab) : List Int → Int → Int → List Int → List Gl → List Gl × List Int
 | [], _, _, _, l => (l, [])
 | i :: ps, a, sum, gone, l =>
  match entryS t.comps (IntKind.i64.wrap (((atG l i).getD ⟨0, 0⟩).id + offS (gU t.acts (4 * a) 4))) with
  | none => (l, ps)
  | some part =>
   if gU t.acts (4 * a) 4 ≥ 1073741824 then
    match entryS t.ligs (sum + part) with
    | none => (l, ps)
    | some id => if gU t.acts (4 * a) 4 ≥ 2147483648 then (storeG l i id gone, pushP i ps) else perfS t ps (a + 1) (sum + part) [i] (storeG l i id gone)
   else perfS t ps (a + 1) (sum + part) (gone ++ [i]) l
def doLi (t : LTab) (s : List Gl × List Int) (i : Int) (e : En) : List Gl × List Int :=
 let k := if e.flags ≥ 32768 ∧ i < (s.1.length : Int) then pushP i s.2 else s.2
 if e.flags / 8192 % 2 = 1 then perfS t k e.a 0 [] s.1 else (s.1, k)
theorem ζgr (t : LTab) : ∀ (ps : List Int) (a sum : Int) (gone : List Int) (l : List Gl), (perfS t ps a sum gone l).1.length = l.length
 | [], _, _, _, _ => rfl
 | i :: ps, a, sum, gone, l => by
  unfold perfS;split
  ·rfl
  ·split
   ·split
    ·rfl
    ·split
     ·exact ζhw _ _ _ _
     ·rw [ζgr t ps, ζhw]
   ·exact ζgr t ps _ _ _ _
theorem doLi_len (t : LTab) (s : List Gl × List Int) (i : Int) (e : En) : (doLi t s i e).1.length = s.1.length := by
 unfold doLi;dsimp only;split
 ·exact ζgr _ _ _ _ _ _
 ·rfl
def KeptOk (n : Int) (ps : List Int) : Prop := ps.length ≤ 64 ∧ ∀ x, x ∈ ps → 0 ≤ x ∧ x < n
theorem pushP_ok {n i : Int} {ps : List Int} (h : KeptOk n ps) (hi : 0 ≤ i ∧ i < n) : KeptOk n (pushP i ps) := by
 unfold pushP;split
 ·exact h
 ·refine ⟨by rw [List.length_take]; omega, fun x hx => ?_⟩;rcases List.mem_cons.1 (List.mem_of_mem_take hx) with rfl | hx
  ·exact hi
  ·exact h.2 x hx
theorem KeptOk.tail {n i : Int} {ps : List Int} (h : KeptOk n (i :: ps)) : KeptOk n ps := ⟨by have := h.1; simp at this; omega, fun x hx => h.2 x (by simp [hx])⟩
theorem ζec (t : LTab) {n : Int} : ∀ (ps : List Int) (a sum : Int) (gone : List Int) (l : List Gl), KeptOk n ps → KeptOk n (perfS t ps a sum gone l).2
 | [], _, _, _, _, h => h
 | i :: ps, a, sum, gone, l, h => by
  unfold perfS;split
  ·exact h.tail
  ·split
   ·split
    ·exact h.tail
    ·split
     ·exact pushP_ok h.tail (h.2 i (by simp))
     ·exact ζec t ps _ _ _ _ h.tail
   ·exact ζec t ps _ _ _ _ h.tail
theorem ζm8 (t : LTab) {n : Int} {s : List Gl × List Int} (hn : (s.1.length : Int) = n) (h : KeptOk n s.2) {i : Int} (hi : 0 ≤ i) (e : En) : KeptOk n (doLi t s i e).2 := by
 have k1 : KeptOk n (if e.flags ≥ 32768 ∧ i < (s.1.length : Int) then pushP i s.2 else s.2) := by
  split
  ·rename_i hc; exact pushP_ok h ⟨hi, by omega⟩
  ·exact h
 unfold doLi;dsimp only;split
 ·exact ζec t _ _ _ _ _ k1
 ·exact k1
end Go.Sw
end
section
namespace Go.Sw
open Go.RowKit
def runLr (t : LTab) (l : List Gl) : Int × Int × (List Gl × List Int) :=
 runD t.m (fun s : List Gl × List Int => s.1) (fun s i e => (doLi t s i e, i, i + 1)) (2 * (l.length : Int) + 128) (2 * l.length + 128) ((l, []), ⟨0, 0, 0, 0⟩)
def runL (t : LTab) (l : List Gl) : List Gl × Int := ((runLr t l).2.2.1, (runLr t l).2.1)
set_option maxRecDepth 10000 in
theorem runL_inv (t : LTab) (ht : t.m.ok) (l : List Gl) (P : List Gl × List Int → Prop) (h0 : P (l, [])) (hs : ∀ s i e, P s → 0 ≤ i → e ∈ t.m.ents → P (doLi t s i e)) : P (runLr t l).2.2 := by
 unfold runLr;exact runD_inv t.m ht (fun s : List Gl × List Int => s.1) (fun s i e => (doLi t s i e, i, i + 1)) P (fun s i e h1 h2 h3 => hs s i e h1 h2 h3) (2 * (l.length : Int) + 128) (2 * l.length + 128) ((l, []), ⟨0, 0, 0, 0⟩) h0 (Int.le_refl _) (Int.le_refl _) (by have := ht.two; dsimp only; omega)
set_option maxRecDepth 10000 in
theorem ζmo (t : LTab) (ht : t.m.ok) (h : (∀ e, e ∈ t.m.ents → e.flags / 8192 % 2 = 0) ∨ ∀ e, e ∈ t.m.ents → e.flags < 32768) (l : List Gl) : (runL t l).1 = l := by
 rcases h with h | h
 ·exact runL_inv t ht l (fun s => s.1 = l) rfl fun s i e hs _ he => by
   have := h e he;unfold doLi;dsimp only;rw [if_neg (show ¬ e.flags / 8192 % 2 = 1 by omega)];exact hs
 ·exact (runL_inv t ht l (fun s => s.1 = l ∧ s.2 = []) ⟨rfl, rfl⟩ fun s i e ⟨h1, h2⟩ _ he => by
   have := h e he;unfold doLi;dsimp only;rw [if_neg (show ¬ (e.flags ≥ 32768 ∧ i < (s.1.length : Int)) by omega), h2];split
   ·exact ⟨h1, rfl⟩
   ·exact ⟨h1, rfl⟩).1
def fours (l : List Int) : List Int := (l.map fun c => bytesOf c 4).flatten
theorem ζbf (l : List Int) : (fours l).length = l.length * 4 := flat_len (z := 4) (fun r hr => by obtain ⟨p, _, rfl⟩ := List.mem_map.1 hr; simp) |>.trans (by simp)
theorem ζku (l : List Int) (x : Int) : fours (l ++ [x]) = fours l ++ bytesOf x 4 := by simp [fours]
theorem ζmg (l : List Int) : Byt (fours l) := Byt.flat fun r hr => by
 obtain ⟨x, _, rfl⟩ := List.mem_map.1 hr;exact ζ14 _ _
end Go.Sw
end
section
namespace Go.Sw
open Go.RowKit
def ligN (p : Plan) : Nat := (planRoom p 1 (List.replicate 12 0)).length
def ligRm (N a c : Nat) : List Int := bytesOf (N : Int) 4 ++ (bytesOf ((N + 4 * a : Nat) : Int) 4 ++ bytesOf ((N + 4 * a + 2 * c : Nat) : Int) 4)
def ligB (p : Plan) (a c l : List Int) : List Int := planRoom p 1 (ligRm (ligN p) a.length c.length) ++ (fours a ++ (twos c ++ twos l))
theorem ζgh (N a c : Nat) : (ligRm N a c).length = 12 := by simp [ligRm]
theorem ligN_eq (p : Plan) (N a c : Nat) : (planRoom p 1 (ligRm N a c)).length = ligN p := ζ9n p 1 _ _ (by rw [ζgh]; simp)
theorem ligN_le {p : Plan} (hp : p.ok) (h1 : p.cls.length ≤ 1000) (h2 : p.rows.length ≤ 1000) (h3 : p.ents.length ≤ 1000) : ligN p ≤ 100000 := ζee hp 1 (rm := List.replicate 12 0) (by simp) h1 h2 h3
theorem ligB_byt {p : Plan} (hp : p.ok) (a c l : List Int) : Byt (ligB p a c l) := by
 refine (ζia hp 1 ?_).app ((ζmg a).app ((twos_byt c).app (twos_byt l)));exact (ζ14 _ _).app ((ζ14 _ _).app (ζ14 _ _))
theorem ligB_len {p : Plan} (hp : p.ok) {a c l : List Int} (h1 : p.cls.length ≤ 1000) (h2 : p.rows.length ≤ 1000) (h3 : p.ents.length ≤ 1000) (h4 : a.length ≤ 1000) (h5 : c.length ≤ 1000) (h6 : l.length ≤ 1000) : (ligB p a c l).length ≤ 108000 := by
 have := ligN_le hp h1 h2 h3;unfold ligB;rw [List.length_append, List.length_append, List.length_append, ligN_eq, ζbf, twos_len, twos_len];omega
end Go.Sw
end
section
set_option maxRecDepth 100000
set_option linter.unusedVariables false
namespace Go.Sw
noncomputable section
def ζ36 (k : Nat) (call : Caller) : Env → Heap → Res (AExit × Env) := loopB (C k) call F.ζd [1, 1, 1, 1, 1, 0, 1, 0, 0]
def ζ4q (k : Nat) (call : Caller) : Kont Value := kBlock 0 (kSeq (pieceK (C k) call F.ζd [1, 1, 1, 1, 1, 1]) (kDone Prog (resOf Prog F.ζd)))
def ζ35 (k : Nat) (call : Caller) (a1 a2 a7 a31 a32 : Value) (h : Heap) : Res (AExit × Env) :=
 kSeq (pieceK (C k) call F.ζd [1, 1, 1, 1, 1, 0, 1, 0, 0, 1, 1, 1]) (kRound (ownOf (C k) F.ζd [1, 1, 1, 1, 1, 0, 1, 0, 0])) .normal [(1, a1), (2, a2), (7, a7), (31, a31), (32, a32)] h
def ζd (k : Nat) (call : Caller) (a0 a1 a2 : Value) (h : Heap) : Res Value :=
 (boxR a0 h).bind fun v1 h2 =>
 (call F.ζ1w [] h2).bind fun v3 h4 =>
 (unR .not v3 h4).bind fun v5 h6 =>
 condV (some v5) (
 .ok (.bool false) h6)
 (
 (loadR Prog 111 v1 h6).bind fun v7 h8 =>
 (call F.ζn [v7, a1] h8).bind fun v9 h10 =>
 (unR .not v9 h10).bind fun v11 h12 =>
 condV (some v11) (
 .ok (.bool true) h12)
 (
 (loadR Prog 111 v1 h12).bind fun v13 h14 =>
 (allocR Prog 111 h14).bind fun v15 h16 =>
 (storeR Prog 111 v15 v13 h16).bind fun _v17 h18 =>
 (buildSliceR Prog 24 0 [] h18).bind fun v19 h20 =>
 (fieldAddrR Prog 111 v1 0 h20).bind fun v21 h22 =>
 (fieldAddrR Prog 26 v21 2 h22).bind fun v23 h24 =>
 (loadR Prog 24 v23 h24).bind fun v25 h26 =>
 (builtinV Prog .append [24, 24] [v19, v25] h26).bind fun v27 h28 =>
 (fieldAddrR Prog 111 v15 0 h28).bind fun v29 h30 =>
 (fieldAddrR Prog 26 v29 2 h30).bind fun v31 h32 =>
 (storeR Prog 24 v31 v27 h32).bind fun _v33 h34 =>
 (fieldAddrR Prog 111 v15 0 h34).bind fun v35 h36 =>
 (fieldAddrR Prog 26 v35 2 h36).bind fun v37 h38 =>
 (loadR Prog 24 v37 h38).bind fun v39 h40 =>
 (builtinV Prog .len [24] [v39] h40).bind fun v41 h42 =>
 (loopN (ζ36 k call) loopFuel [(1, a1), (2, a2), (7, v15), (31, v41), (32, (.int .i64 0))] h42).bind fun r43 h44 =>
 ζ4q k call r43.1 r43.2 h44))
theorem ζac (k : Nat) (a0 a1 a2 : Value) (h : Heap) : R (T k) F.ζd [a0, a1, a2] h = nrm .gc h (ζd k (R (T k)) a0 a1 a2 h) :=
 (R_body (t := T k) (T_scott k) (by kernel_rfl) (by kernel_rfl) _ _).trans (by kernel_rfl)
theorem ζ3z (k : Nat) (call : Caller) (a1 a2 a7 a31 a32 : Value) (h : Heap) : ζ36 k call [(1, a1), (2, a2), (7, a7), (31, a31), (32, a32)] h =
 (binR Prog .lss 3 a32 a31 h).bind fun v45 h46 =>
 condV (some v45) (
 condV (some a2) (
 (fieldAddrR Prog 111 a7 0 h46).bind fun v47 h48 =>
 (fieldAddrR Prog 26 v47 2 h48).bind fun v49 h50 =>
 (loadR Prog 24 v49 h50).bind fun v51 h52 =>
 (indexAddrR Prog 24 v51 a32 h52).bind fun v53 h54 =>
 (fieldAddrR Prog 31 v53 1 h54).bind fun v55 h56 =>
 (loadR Prog 3 v55 h56).bind fun v57 h58 =>
 (binR Prog .andNot 3 v57 (.int .i64 8192) h58).bind fun v59 h60 =>
 (indexAddrR Prog 24 v51 a32 h60).bind fun v61 h62 =>
 (fieldAddrR Prog 31 v61 1 h62).bind fun v63 h64 =>
 (storeR Prog 3 v63 v59 h64).bind fun _v65 h66 =>
 ζ35 k call a1 a2 a7 a31 a32 h66)
 (
 (fieldAddrR Prog 111 a7 0 h46).bind fun v67 h68 =>
 (fieldAddrR Prog 26 v67 2 h68).bind fun v69 h70 =>
 (loadR Prog 24 v69 h70).bind fun v71 h72 =>
 (indexAddrR Prog 24 v71 a32 h72).bind fun v73 h74 =>
 (fieldAddrR Prog 31 v73 1 h74).bind fun v75 h76 =>
 (loadR Prog 3 v75 h76).bind fun v77 h78 =>
 (binR Prog .andNot 3 v77 (.int .i64 32768) h78).bind fun v79 h80 =>
 (indexAddrR Prog 24 v71 a32 h80).bind fun v81 h82 =>
 (fieldAddrR Prog 31 v81 1 h82).bind fun v83 h84 =>
 (storeR Prog 3 v83 v79 h84).bind fun _v85 h86 =>
 ζ35 k call a1 a2 a7 a31 a32 h86))
 (
 .ok ((.exit 0), [(1, a1), (2, a2), (7, a7), (31, a31), (32, a32), (33, v45)]) h46) :=
 (loopB_eq _ _).trans (by kernel_rfl)
theorem ζ3y (k : Nat) (call : Caller) (a1 a2 a7 a31 a32 : Value) (h : Heap) : ζ35 k call a1 a2 a7 a31 a32 h =
 (binR Prog .add 3 a32 (.int .i64 1) h).bind fun v87 h88 =>
 .ok (.normal, [(1, a1), (2, a2), (7, a7), (31, a31), (32, v87)]) h88 := by kernel_rfl
theorem ζ1i (k : Nat) (call : Caller) (a1 a2 a7 a31 a32 a33 : Value) (h : Heap) : ζ4q k call (.exit 0) [(1, a1), (2, a2), (7, a7), (31, a31), (32, a32), (33, a33)] h =
 (loadR Prog 111 a7 h).bind fun v89 h90 =>
 (call F.ζa [v89] h90).bind fun v91 h92 =>
 (call F.ζ68 [v91, (.int .i64 40)] h92).bind fun v93 h94 =>
 (extractR v93 0 h94).bind fun v95 h96 =>
 (extractR v93 1 h96).bind fun v97 h98 =>
 (loadR Prog 111 a7 h98).bind fun v99 h100 =>
 (call F.ζa [v99] h100).bind fun v101 h102 =>
 (call F.ζb [v101, (.int .i64 40)] h102).bind fun v103 h104 =>
 (extractR v103 0 h104).bind fun v105 h106 =>
 (extractR v103 1 h106).bind fun v107 h108 =>
 (allocR Prog 103 h108).bind fun v109 h110 =>
 (storeR Prog 103 v109 v105 h110).bind fun _v111 h112 =>
 (binR Prog .eql 99 v95 (.pointer none) h112).bind fun v113 h114 =>
 ((bif wantVal v113 false then Res.ok v107 h114 else Res.ok undef h114)).bind fun v115 h116 =>
 ((bif wantVal v113 false then unR .not v115 h116 else Res.ok undef h116)).bind fun v117 h118 =>
 (condV (some v113) (Res.ok (.bool true) h118) (Res.ok v117 h118)).bind fun v119 h120 =>
 ((bif wantVal v119 false then fieldAddrR Prog 103 v109 0 h120 else Res.ok undef h120)).bind fun v121 h122 =>
 ((bif wantVal v119 false then fieldAddrR Prog 41 v121 5 h122 else Res.ok undef h122)).bind fun v123 h124 =>
 ((bif wantVal v119 false then loadR Prog 3 v123 h124 else Res.ok undef h124)).bind fun v125 h126 =>
 ((bif wantVal v119 false then fieldAddrR Prog 111 a7 0 h126 else Res.ok undef h126)).bind fun v127 h128 =>
 ((bif wantVal v119 false then fieldAddrR Prog 26 v127 2 h128 else Res.ok undef h128)).bind fun v129 h130 =>
 ((bif wantVal v119 false then loadR Prog 24 v129 h130 else Res.ok undef h130)).bind fun v131 h132 =>
 ((bif wantVal v119 false then builtinV Prog .len [24] [v131] h132 else Res.ok undef h132)).bind fun v133 h134 =>
 ((bif wantVal v119 false then binR Prog .gtr 3 v125 v133 h134 else Res.ok undef h134)).bind fun v135 h136 =>
 (condV (some v119) (Res.ok (.bool true) h136) (Res.ok v135 h136)).bind fun v137 h138 =>
 ((bif wantVal v137 false then fieldAddrR Prog 103 v109 0 h138 else Res.ok undef h138)).bind fun v139 h140 =>
 ((bif wantVal v137 false then fieldAddrR Prog 41 v139 4 h140 else Res.ok undef h140)).bind fun v141 h142 =>
 ((bif wantVal v137 false then loadR Prog 3 v141 h142 else Res.ok undef h142)).bind fun v143 h144 =>
 ((bif wantVal v137 false then fieldAddrR Prog 111 a7 0 h144 else Res.ok undef h144)).bind fun v145 h146 =>
 ((bif wantVal v137 false then fieldAddrR Prog 26 v145 1 h146 else Res.ok undef h146)).bind fun v147 h148 =>
 ((bif wantVal v137 false then loadR Prog 23 v147 h148 else Res.ok undef h148)).bind fun v149 h150 =>
 ((bif wantVal v137 false then builtinV Prog .len [23] [v149] h150 else Res.ok undef h150)).bind fun v151 h152 =>
 ((bif wantVal v137 false then binR Prog .gtr 3 v143 v151 h152 else Res.ok undef h152)).bind fun v153 h154 =>
 (condV (some v137) (Res.ok (.bool true) h154) (Res.ok v153 h154)).bind fun v155 h156 =>
 condV (some v155) (
 (binR Prog .eql 99 v95 (.pointer none) h156).bind fun v157 h158 =>
 ((bif wantVal v157 false then Res.ok v107 h158 else Res.ok undef h158)).bind fun v159 h160 =>
 (condV (some v157) (Res.ok (.bool true) h160) (Res.ok v159 h160)).bind fun v161 h162 =>
 .ok v161 h162)
 (
 (call F.line_New [a1] h156).bind fun v163 h164 =>
 (call F.ζ3a [v95, v163] h164).bind fun v165 h166 =>
 (call F.ζ2a [v163] h166).bind fun v167 h168 =>
 (call F.ζ1n [a1] h168).bind fun v169 h170 =>
 (call F.ζ16 [v167, v169] h170).bind fun v171 h172 =>
 .ok v171 h172) := by kernel_rfl
def ζn (k : Nat) (call : Caller) (a0 a1 : Value) (h : Heap) : Res Value :=
 (boxR a0 h).bind fun v1 h2 =>
 (fieldAddrR Prog 111 v1 0 h2).bind fun v3 h4 =>
 (fieldAddrR Prog 26 v3 0 h4).bind fun v5 h6 =>
 (loadR Prog 22 v5 h6).bind fun v7 h8 =>
 (builtinV Prog .len [22] [v7] h8).bind fun v9 h10 =>
 (binR Prog .leq 3 v9 (.int .i64 40) h10).bind fun v11 h12 =>
 ((bif wantVal v11 true then fieldAddrR Prog 111 v1 0 h12 else Res.ok undef h12)).bind fun v13 h14 =>
 ((bif wantVal v11 true then fieldAddrR Prog 26 v13 1 h14 else Res.ok undef h14)).bind fun v15 h16 =>
 ((bif wantVal v11 true then loadR Prog 23 v15 h16 else Res.ok undef h16)).bind fun v17 h18 =>
 ((bif wantVal v11 true then builtinV Prog .len [23] [v17] h18 else Res.ok undef h18)).bind fun v19 h20 =>
 ((bif wantVal v11 true then binR Prog .leq 3 v19 (.int .i64 20) h20 else Res.ok undef h20)).bind fun v21 h22 =>
 (condV (some v11) (Res.ok v21 h22) (Res.ok (.bool false) h22)).bind fun v23 h24 =>
 ((bif wantVal v23 true then fieldAddrR Prog 111 v1 0 h24 else Res.ok undef h24)).bind fun v25 h26 =>
 ((bif wantVal v23 true then fieldAddrR Prog 26 v25 2 h26 else Res.ok undef h26)).bind fun v27 h28 =>
 ((bif wantVal v23 true then loadR Prog 24 v27 h28 else Res.ok undef h28)).bind fun v29 h30 =>
 ((bif wantVal v23 true then builtinV Prog .len [24] [v29] h30 else Res.ok undef h30)).bind fun v31 h32 =>
 ((bif wantVal v23 true then binR Prog .leq 3 v31 (.int .i64 40) h32 else Res.ok undef h32)).bind fun v33 h34 =>
 (condV (some v23) (Res.ok v33 h34) (Res.ok (.bool false) h34)).bind fun v35 h36 =>
 ((bif wantVal v35 true then fieldAddrR Prog 111 v1 1 h36 else Res.ok undef h36)).bind fun v37 h38 =>
 ((bif wantVal v35 true then loadR Prog 108 v37 h38 else Res.ok undef h38)).bind fun v39 h40 =>
 ((bif wantVal v35 true then builtinV Prog .len [108] [v39] h40 else Res.ok undef h40)).bind fun v41 h42 =>
 ((bif wantVal v35 true then binR Prog .leq 3 v41 (.int .i64 60) h42 else Res.ok undef h42)).bind fun v43 h44 =>
 (condV (some v35) (Res.ok v43 h44) (Res.ok (.bool false) h44)).bind fun v45 h46 =>
 ((bif wantVal v45 true then fieldAddrR Prog 111 v1 2 h46 else Res.ok undef h46)).bind fun v47 h48 =>
 ((bif wantVal v45 true then loadR Prog 109 v47 h48 else Res.ok undef h48)).bind fun v49 h50 =>
 ((bif wantVal v45 true then builtinV Prog .len [109] [v49] h50 else Res.ok undef h50)).bind fun v51 h52 =>
 ((bif wantVal v45 true then binR Prog .leq 3 v51 (.int .i64 100) h52 else Res.ok undef h52)).bind fun v53 h54 =>
 (condV (some v45) (Res.ok v53 h54) (Res.ok (.bool false) h54)).bind fun v55 h56 =>
 ((bif wantVal v55 true then fieldAddrR Prog 111 v1 3 h56 else Res.ok undef h56)).bind fun v57 h58 =>
 ((bif wantVal v55 true then loadR Prog 109 v57 h58 else Res.ok undef h58)).bind fun v59 h60 =>
 ((bif wantVal v55 true then builtinV Prog .len [109] [v59] h60 else Res.ok undef h60)).bind fun v61 h62 =>
 ((bif wantVal v55 true then binR Prog .leq 3 v61 (.int .i64 100) h62 else Res.ok undef h62)).bind fun v63 h64 =>
 (condV (some v55) (Res.ok v63 h64) (Res.ok (.bool false) h64)).bind fun v65 h66 =>
 ((bif wantVal v65 true then Res.ok a1 h66 else Res.ok undef h66)).bind fun v67 h68 =>
 ((bif wantVal v65 true then builtinV Prog .len [27] [v67] h68 else Res.ok undef h68)).bind fun v69 h70 =>
 ((bif wantVal v65 true then binR Prog .leq 3 v69 (.int .i64 100) h70 else Res.ok undef h70)).bind fun v71 h72 =>
 (condV (some v65) (Res.ok v71 h72) (Res.ok (.bool false) h72)).bind fun v73 h74 =>
 .ok v73 h74
theorem ζce (k : Nat) (a0 a1 : Value) (h : Heap) : R (T k) F.ζn [a0, a1] h = nrm .gc h (ζn k (R (T k)) a0 a1 h) :=
 (R_body (t := T k) (T_scott k) (by kernel_rfl) (by kernel_rfl) _ _).trans (by kernel_rfl)
def ζ2u (k : Nat) (call : Caller) : Env → Heap → Res (AExit × Env) := loopB (C k) call F.ζa [1, 1, 1, 0, 1, 0, 0]
def ζ6z (k : Nat) (call : Caller) : Kont Value := kBlock 0 (kSeq (pieceK (C k) call F.ζa [1, 1, 1, 1]) (kDone Prog (resOf Prog F.ζa)))
def ζ2v (k : Nat) (call : Caller) : Env → Heap → Res (AExit × Env) := loopB (C k) call F.ζa [1, 1, 1, 1, 0, 1, 0, 0]
def ζ70 (k : Nat) (call : Caller) : Kont Value := kBlock 2 (kSeq (pieceK (C k) call F.ζa [1, 1, 1, 1, 1]) (kDone Prog (resOf Prog F.ζa)))
def ζ2w (k : Nat) (call : Caller) : Env → Heap → Res (AExit × Env) := loopB (C k) call F.ζa [1, 1, 1, 1, 1, 0, 1, 0, 0]
def ζ71 (k : Nat) (call : Caller) : Kont Value := kBlock 4 (kSeq (pieceK (C k) call F.ζa [1, 1, 1, 1, 1, 1]) (kDone Prog (resOf Prog F.ζa)))
def ζ2x (k : Nat) (call : Caller) : Env → Heap → Res (AExit × Env) := loopB (C k) call F.ζa [1, 1, 1, 1, 1, 1, 0, 1, 0, 0]
def ζ72 (k : Nat) (call : Caller) : Kont Value := kBlock 6 (kSeq (pieceK (C k) call F.ζa [1, 1, 1, 1, 1, 1, 1]) (kDone Prog (resOf Prog F.ζa)))
def ζa (k : Nat) (call : Caller) (a0 : Value) (h : Heap) : Res Value :=
 (boxR a0 h).bind fun v1 h2 =>
 (fieldAddrR Prog 111 v1 0 h2).bind fun v3 h4 =>
 (loadR Prog 26 v3 h4).bind fun v5 h6 =>
 (call F.ζ0 [v5, (.int .i64 1), (.int .i64 12)] h6).bind fun v7 h8 =>
 (builtinV Prog .len [22] [v7] h8).bind fun v9 h10 =>
 (builtinV Prog .len [22] [v7] h10).bind fun v11 h12 =>
 (fieldAddrR Prog 111 v1 1 h12).bind fun v13 h14 =>
 (loadR Prog 108 v13 h14).bind fun v15 h16 =>
 (builtinV Prog .len [108] [v15] h16).bind fun v17 h18 =>
 (binR Prog .mul 3 (.int .i64 4) v17 h18).bind fun v19 h20 =>
 (binR Prog .add 3 v11 v19 h20).bind fun v21 h22 =>
 (builtinV Prog .len [22] [v7] h22).bind fun v23 h24 =>
 (fieldAddrR Prog 111 v1 1 h24).bind fun v25 h26 =>
 (loadR Prog 108 v25 h26).bind fun v27 h28 =>
 (builtinV Prog .len [108] [v27] h28).bind fun v29 h30 =>
 (binR Prog .mul 3 (.int .i64 4) v29 h30).bind fun v31 h32 =>
 (binR Prog .add 3 v23 v31 h32).bind fun v33 h34 =>
 (fieldAddrR Prog 111 v1 2 h34).bind fun v35 h36 =>
 (loadR Prog 109 v35 h36).bind fun v37 h38 =>
 (builtinV Prog .len [109] [v37] h38).bind fun v39 h40 =>
 (binR Prog .mul 3 (.int .i64 2) v39 h40).bind fun v41 h42 =>
 (binR Prog .add 3 v33 v41 h42).bind fun v43 h44 =>
 (buildR Prog 250 [(0, v9), (1, v21), (2, v43)] h44).bind fun v45 h46 =>
 (allocR Prog 250 h46).bind fun v47 h48 =>
 (storeR Prog 250 v47 v45 h48).bind fun _v49 h50 =>
 (loadR Prog 250 v47 h50).bind fun v51 h52 =>
 (loopN (ζ2u k call) loopFuel [(1, v1), (3, v7), (38, v51), (39, (.int .i64 0))] h52).bind fun r53 h54 =>
 ζ6z k call r53.1 r53.2 h54
theorem ζcd (k : Nat) (a0 : Value) (h : Heap) : R (T k) F.ζa [a0] h = nrm (own k) h (ζa k (R (T k)) a0 h) :=
 (R_body (t := T k) (T_scott k) (by kernel_rfl) (by kernel_rfl) _ _).trans (by kernel_rfl)
theorem ζ5f (k : Nat) (call : Caller) (a1 a3 a38 a39 : Value) (h : Heap) : ζ2u k call [(1, a1), (3, a3), (38, a38), (39, a39)] h =
 (binR Prog .lss 3 a39 (.int .i64 3) h).bind fun v55 h56 =>
 condV (some v55) (
 (indexR Prog 250 a38 a39 h56).bind fun v57 h58 =>
 (binR Prog .mul 3 (.int .i64 4) a39 h58).bindN fun v59 h60 =>
 (binR Prog .add 3 (.int .i64 16) v59 h60).bindN fun v61 h62 =>
 (binR Prog .mul 3 (.int .i64 4) a39 h62).bindN fun v63 h64 =>
 (binR Prog .add 3 (.int .i64 20) v63 h64).bindN fun v65 h66 =>
 (sliceR Prog 22 a3 (some v61) (some v65) none h66).bindN fun v67 h68 =>
 (call F.ζ6 [(.slice none 0 0), v57, (.int .i64 4)] h68).bindT (fun p71 h72 => .panic p71 h72) fun v69 h70 =>
 (builtinV Prog .copy [22, 22] [v67, v69] h70).bindN fun v73 h74 =>
 chkR ((okVal (sliceR Prog 22 a3 (some v61) (some v65) none h70) v67 && true) && true) (
 (binR Prog .add 3 a39 (.int .i64 1) h74).bind fun v75 h76 =>
 .ok (.normal, [(1, a1), (3, a3), (38, a38), (39, v75)]) h76))
 (
 .ok ((.exit 0), [(1, a1), (3, a3), (38, a38), (39, a39), (40, v55)]) h56) :=
 (loopB_eq _ _).trans (by kernel_rfl)
theorem ζ9c (k : Nat) (call : Caller) (a1 a3 a38 a39 a40 : Value) (h : Heap) : ζ6z k call (.exit 0) [(1, a1), (3, a3), (38, a38), (39, a39), (40, a40)] h =
 (fieldAddrR Prog 111 a1 1 h).bind fun v77 h78 =>
 (loadR Prog 108 v77 h78).bind fun v79 h80 =>
 (builtinV Prog .len [108] [v79] h80).bind fun v81 h82 =>
 (loopN (ζ2v k call) loopFuel [(1, a1), (3, a3), (56, v79), (57, v81), (58, (.int .i64 0))] h82).bind fun r83 h84 =>
 ζ70 k call r83.1 r83.2 h84 := by kernel_rfl
theorem ζ5g (k : Nat) (call : Caller) (a1 a3 a56 a57 a58 : Value) (h : Heap) : ζ2v k call [(1, a1), (3, a3), (56, a56), (57, a57), (58, a58)] h =
 (binR Prog .lss 3 a58 a57 h).bind fun v85 h86 =>
 condV (some v85) (
 (indexAddrR Prog 108 a56 a58 h86).bind fun v87 h88 =>
 (loadR Prog 117 v87 h88).bind fun v89 h90 =>
 (convR Prog 117 3 v89 h90).bind fun v91 h92 =>
 (call F.ζ6 [a3, v91, (.int .i64 4)] h92).bind fun v93 h94 =>
 (binR Prog .add 3 a58 (.int .i64 1) h94).bind fun v95 h96 =>
 .ok (.normal, [(1, a1), (3, v93), (56, a56), (57, a57), (58, v95)]) h96)
 (
 .ok ((.exit 2), [(1, a1), (3, a3), (56, a56), (57, a57), (58, a58), (59, v85)]) h86) :=
 (loopB_eq _ _).trans (by kernel_rfl)
theorem ζ9d (k : Nat) (call : Caller) (a1 a3 a56 a57 a58 a59 : Value) (h : Heap) : ζ70 k call (.exit 2) [(1, a1), (3, a3), (56, a56), (57, a57), (58, a58), (59, a59)] h =
 (fieldAddrR Prog 111 a1 2 h).bind fun v97 h98 =>
 (loadR Prog 109 v97 h98).bind fun v99 h100 =>
 (builtinV Prog .len [109] [v99] h100).bind fun v101 h102 =>
 (loopN (ζ2w k call) loopFuel [(1, a1), (3, a3), (68, v99), (69, v101), (70, (.int .i64 0))] h102).bind fun r103 h104 =>
 ζ71 k call r103.1 r103.2 h104 := by kernel_rfl
theorem ζ5h (k : Nat) (call : Caller) (a1 a3 a68 a69 a70 : Value) (h : Heap) : ζ2w k call [(1, a1), (3, a3), (68, a68), (69, a69), (70, a70)] h =
 (binR Prog .lss 3 a70 a69 h).bind fun v105 h106 =>
 condV (some v105) (
 (indexAddrR Prog 109 a68 a70 h106).bind fun v107 h108 =>
 (loadR Prog 154 v107 h108).bind fun v109 h110 =>
 (convR Prog 154 3 v109 h110).bind fun v111 h112 =>
 (call F.ζ6 [a3, v111, (.int .i64 2)] h112).bind fun v113 h114 =>
 (binR Prog .add 3 a70 (.int .i64 1) h114).bind fun v115 h116 =>
 .ok (.normal, [(1, a1), (3, v113), (68, a68), (69, a69), (70, v115)]) h116)
 (
 .ok ((.exit 4), [(1, a1), (3, a3), (68, a68), (69, a69), (70, a70), (71, v105)]) h106) :=
 (loopB_eq _ _).trans (by kernel_rfl)
theorem ζ9e (k : Nat) (call : Caller) (a1 a3 a68 a69 a70 a71 : Value) (h : Heap) : ζ71 k call (.exit 4) [(1, a1), (3, a3), (68, a68), (69, a69), (70, a70), (71, a71)] h =
 (fieldAddrR Prog 111 a1 3 h).bind fun v117 h118 =>
 (loadR Prog 109 v117 h118).bind fun v119 h120 =>
 (builtinV Prog .len [109] [v119] h120).bind fun v121 h122 =>
 (loopN (ζ2x k call) loopFuel [(3, a3), (80, v119), (81, v121), (82, (.int .i64 0))] h122).bind fun r123 h124 =>
 ζ72 k call r123.1 r123.2 h124 := by kernel_rfl
theorem ζ5i (k : Nat) (call : Caller) (a3 a80 a81 a82 : Value) (h : Heap) : ζ2x k call [(3, a3), (80, a80), (81, a81), (82, a82)] h =
 (binR Prog .lss 3 a82 a81 h).bind fun v125 h126 =>
 condV (some v125) (
 (indexAddrR Prog 109 a80 a82 h126).bind fun v127 h128 =>
 (loadR Prog 154 v127 h128).bind fun v129 h130 =>
 (convR Prog 154 3 v129 h130).bind fun v131 h132 =>
 (call F.ζ6 [a3, v131, (.int .i64 2)] h132).bind fun v133 h134 =>
 (binR Prog .add 3 a82 (.int .i64 1) h134).bind fun v135 h136 =>
 .ok (.normal, [(3, v133), (80, a80), (81, a81), (82, v135)]) h136)
 (
 .ok ((.exit 6), [(3, a3), (80, a80), (81, a81), (82, a82), (83, v125)]) h126) :=
 (loopB_eq _ _).trans (by kernel_rfl)
theorem ζ9f (k : Nat) (call : Caller) (a3 a80 a81 a82 a83 : Value) (h : Heap) : ζ72 k call (.exit 6) [(3, a3), (80, a80), (81, a81), (82, a82), (83, a83)] h =
 .ok a3 h := by kernel_rfl
end
end Go.Sw
end
