/-
  Functions' forms, and what is proved of them, part 8.
-/
import Derived.Test.YtnaodjnimkndbabSwW7
import Derived.Test.YtnaodjnimkndbabSwW1
import Derived.Test.YtnaodjnimkndbabSwLib8
import Derived.Test.YtnaodjnimkndbabSwW5
import Derived.Test.YtnaodjnimkndbabSwCfg
import Derived.Tactics
import Derived.Tactics2
import Derived.Defers
import Derived.Recover
import Derived.Laws.Pointers
import Derived.Test.YtnaodjnimkndbabSwW2
import Derived.Test.YtnaodjnimkndbabSwW4
set_option linter.unusedSimpArgs false
set_option linter.unusedVariables false
set_option linter.unusedSectionVars false
section
namespace Go.Sw
open Go.RowKit
theorem gU_four {b : List Int} (hb : Byt b) (i : Int) : -1 ≤ gU b i 4 ∧ gU b i 4 < 4294967296 := by
 unfold gU;cases h : uS b i 4 with
 | none => simp
 | some x => have := uS_four hb h; simp; omega
theorem gU_lt {b : List Int} {i : Int} (h : ¬ gU b i 4 < 0) : uS b i 4 = some (gU b i 4) := by
 unfold gU at h ⊢;cases hu : uS b i 4 with
 | none => rw [hu] at h; simp at h
 | some x => rfl
set_option maxHeartbeats 1000000 in
theorem ζm7 (k : Nat) (b : List Int) (hb : Byt b) (g w : Int) (hg : 1 ≤ g ∧ g ≤ 65535) (hw : w = 0 ∨ w = 1 ∨ w = 2) (hl : b.length < 2 ^ 31) (H : Heap) :
  R (T k) F.ζ6 [lv encB b, .int .i64 g, .int .i64 w] H = .ok (.tuple #[rmO (refMachS b g w), .bool (refMachS b g w).isSome]) H := by
 rw [ζcv];have hU := fun j H' => refU_run k (H := H') (Sl.lv H' 1 b) hb j 4 (by omega) (by omega);have u0 : ∀ H', R (T k) F.ζ2 [lv encB b, .int .i64 0, .int .i64 4] H' = .ok (.int .i64 (gU b 0 4)) H' := fun H' => hU _ H';have u4 : ∀ H', R (T k) F.ζ2 [lv encB b, .int .i64 4, .int .i64 4] H' = .ok (.int .i64 (gU b 4 4)) H' := fun H' => hU _ H';have u8 : ∀ H', R (T k) F.ζ2 [lv encB b, .int .i64 8, .int .i64 4] H' = .ok (.int .i64 (gU b 8 4)) H' := fun H' => hU _ H';have u12 : ∀ H', R (T k) F.ζ2 [lv encB b, .int .i64 12, .int .i64 4] H' = .ok (.int .i64 (gU b 12 4)) H' := fun H' => hU _ H';have b0 := gU_four hb 0;have b4 := gU_four hb 4;have b8 := gU_four hb 8;have b12 := gU_four hb 12;have fl : ∀ o : Option RMach, Flat (.tuple #[rmO o, .bool o.isSome]) := fun o => .tupleL (.cons (Flat.rm _) (.cons (.bool _) .nil));obtain ⟨n, hn⟩ : ∃ n, gU b 0 4 = n := ⟨_, rfl⟩
 obtain ⟨i, hi⟩ : ∃ i, gU b 4 4 = i := ⟨_, rfl⟩
 obtain ⟨j, hj⟩ : ∃ j, gU b 8 4 = j := ⟨_, rfl⟩
 obtain ⟨q, hq⟩ : ∃ q, gU b 12 4 = q := ⟨_, rfl⟩
 rw [hn] at u0 b0;rw [hi] at u4 b4;rw [hj] at u8 b8;rw [hq] at u12 b12;obtain ⟨M1, hM1⟩ : ∃ M1 : Blk, M1 = ⟨[lv encB b, .int .i64 n, .int .i64 j, .int .i64 q, .int .i64 2, .int .i64 0, .int .i64 w, .slice none 0 0, .slice none 0 0], 1, false⟩ := ⟨_, rfl⟩
 have hx2 : Ext H ((H.push ⟨zCells, 1, false⟩).push M1) := ((Ext.refl H).push _).push _
 -- one thing is not as it should be
 have no : machS b g w = none → ζ6 k (R (T k)) (lv encB b) (.int .i64 g) (.int .i64 w) H = .ok (.tuple #[.agg zCells.toArray, .bool false]) ((H.push ⟨zCells, 1, false⟩).push M1) → nrm .fz H (ζ6 k (R (T k)) (lv encB b) (.int .i64 g) (.int .i64 w) H) = .ok (.tuple #[rmO (refMachS b g w), .bool (refMachS b g w).isSome]) H := fun h1 h2 => by
  have : refMachS b g w = none := by unfold refMachS; rw [h1]; rfl
  rw [this];exact nrm_fz (L := []) h2 rfl hx2 (fl none).alive
 have n0 : ∀ m, machS b g w = some m → (4 ≤ n ∧ n ≤ 65535) ∧ 0 ≤ i ∧ i ≤ b.length ∧ 0 ≤ j ∧ j ≤ b.length ∧ 0 ≤ q ∧ q ≤ b.length := fun m hm => by
  obtain ⟨i', j', q', tb, rv, ev, x, h0, h1, h2, h3, h4, h5, h6, h7, h8, h9, _⟩ := ζjq hm;have e0 := gU_some h0;have e3 := gU_some h3;have e6 := gU_some h6;have e8 := gU_some h8;rw [hn] at e0;rw [hi] at e3;rw [hj] at e6;rw [hq] at e8;have r4 := (ζ35.1 h4).1;have r7 := (ζ35.1 h7).1;have r9 := (ζ35.1 h9).1;omega
 have nn : ¬ ((4 ≤ n ∧ n ≤ 65535) ∧ 0 ≤ i ∧ i ≤ b.length ∧ 0 ≤ j ∧ j ≤ b.length ∧ 0 ≤ q ∧ q ≤ b.length) → machS b g w = none := fun h => by
  cases hm : machS b g w with
  | none => rfl
  | some m => exact absurd (n0 m hm) h
 by_cases c1 : n < 4
 ·refine no (nn (by omega)) ?_;rw [hM1];simp -implicitDefEqProofs (disch := omega) [ζ6, u0, u4, u8, u12, c1]
 by_cases c2 : n > 65535
 ·refine no (nn (by omega)) ?_;rw [hM1];simp -implicitDefEqProofs (disch := omega) [ζ6, u0, u4, u8, u12, c1, c2]
 by_cases c3 : j < 0
 ·refine no (nn (by omega)) ?_;rw [hM1];simp -implicitDefEqProofs (disch := omega) [ζ6, u0, u4, u8, u12, c1, c2, c3]
 by_cases c4 : q < 0
 ·refine no (nn (by omega)) ?_;rw [hM1];simp -implicitDefEqProofs (disch := omega) [ζ6, u0, u4, u8, u12, c1, c2, c3, c4]
 by_cases c5 : j > b.length
 ·refine no (nn (by omega)) ?_;rw [hM1];simp -implicitDefEqProofs (disch := omega) [ζ6, u0, u4, u8, u12, c1, c2, c3, c4, c5]
 by_cases c6 : q > b.length
 ·refine no (nn (by omega)) ?_;rw [hM1];simp -implicitDefEqProofs (disch := omega) [ζ6, u0, u4, u8, u12, c1, c2, c3, c4, c5, c6]
 by_cases c7 : i < 0
 ·refine no (nn (by omega)) ?_;rw [hM1];simp -implicitDefEqProofs (disch := omega) [ζ6, u0, u4, u8, u12, c1, c2, c3, c4, c5, c6, c7]
 by_cases c8 : i > b.length
 ·refine no (nn (by omega)) ?_;rw [hM1];simp -implicitDefEqProofs (disch := omega) [ζ6, u0, u4, u8, u12, c1, c2, c3, c4, c5, c6, c7, c8]
 clear no nn n0;have hU0 := gU_lt (b := b) (i := 0) (by omega);have hU4 := gU_lt (b := b) (i := 4) (by omega);have hU8 := gU_lt (b := b) (i := 8) (by omega);have hU12 := gU_lt (b := b) (i := 12) (by omega);rw [hn] at hU0;rw [hi] at hU4;rw [hj] at hU8;rw [hq] at hU12;obtain ⟨tb, htb⟩ : ∃ tb, tb = b.drop i.toNat := ⟨_, rfl⟩
 have r4 : restS b i = some tb := ζ35.2 ⟨by omega, htb⟩;have r8 : restS b j = some (b.drop j.toNat) := ζ35.2 ⟨by omega, rfl⟩;have r12 : restS b q = some (b.drop q.toNat) := ζ35.2 ⟨by omega, rfl⟩;have hsl := fun H' => slS_lv encB_len b (some (.int .i64 i)) none none i.toNat b.length b.length (by unfold boundOf; dsimp only; rw [if_pos (by omega)]) rfl rfl (fun h => by cases h) (by omega) (Nat.le_refl _) (Nat.le_refl _) H';rw [List.take_length, ← htb] at hsl;have htbb : Byt tb := hb.rest r4;have htbl : tb.length < 2 ^ 31 := by rw [htb]; simp; omega
 have hrd := fun H' => ζpe k tb htbb g 2 hg (.inl rfl) htbl H';have hlr := look_ref htbb hg.1 hg.2 (.inl rfl : (2 : Int) = 2 ∨ (2 : Int) = 4);have hmach : machS b g w = (lookS tb g 2).bind fun tab => (closeA (b.drop j.toNat) (b.drop q.toNat) n w 2).map fun x => ⟨n, tab, x.1, x.2⟩ := by
  unfold machS;rw [hU0, Option.bind_some, if_pos (by omega), hU4, Option.bind_some, r4, Option.bind_some];congr 1;funext tab;rw [hU8, Option.bind_some, r8, Option.bind_some, hU12, Option.bind_some, r12, Option.bind_some]
 cases hlk : lookS tb g 2 with
 | none =>
  have hm : refMachS b g w = none := by unfold refMachS; rw [hmach, hlk]; rfl
  rw [hm];have hrr := hlr.2 hlk;rw [hrr] at hrd;simp only [tabRO, Option.isSome_none] at hrd
  obtain ⟨x, e', H1, hr, rfl, rfl, rfl⟩ := loopDec (body := ζ2f k (R (T k)))
   (fun m e H' => H' = (((H.push ⟨zCells, 1, false⟩).push ⟨rmCells b n j q 2 0 w [] [], 1, false⟩).push ⟨[lv encB [], lv encRP []], 1, false⟩) ∧ e = [(0, lv encB b), (6, ptrV H.n), (8, ptrV (H.n + 1)), (11, .bool false), (12, .int .i64 (4 + 2 * w))])
   (fun x e H' => H' = (((H.push ⟨zCells, 1, false⟩).push ⟨rmCells b n j q 2 0 w [] [], 1, false⟩).push ⟨[lv encB [], lv encRP []], 1, false⟩) ∧ x = .exit 0 ∧ e = [(0, lv encB b), (6, ptrV H.n), (8, ptrV (H.n + 1)), (12, .int .i64 (4 + 2 * w)), (81, .bool false)])
   0 (e0 := [(0, lv encB b), (6, ptrV H.n), (8, ptrV (H.n + 1)), (11, .bool false), (12, .int .i64 (4 + 2 * w))]) (H0 := (((H.push ⟨zCells, 1, false⟩).push ⟨rmCells b n j q 2 0 w [] [], 1, false⟩).push ⟨[lv encB [], lv encRP []], 1, false⟩)) ⟨rfl, rfl⟩ (by omega)
   (fun m e H' ⟨hH, he⟩ => by
    subst hH he;refine .inr ⟨.exit 0, _, _, ?_, by simp, rfl, rfl, rfl⟩;rw [ζ1j];simp -implicitDefEqProofs)
  refine nrm_fz (L := []) (v := .tuple #[.agg zCells.toArray, .bool false]) (H' := ((H.push ⟨zCells, 1, false⟩).push ⟨rmCells b n j q 2 0 w [] [], 1, false⟩).push ⟨[lv encB [], lv encRP []], 1, false⟩) ?_ rfl ((((Ext.refl H).push _).push _).push _) (fl none).alive;simp -implicitDefEqProofs (disch := omega) [ζ6, u0, u4, u8, u12, c1, c2, c3, c4, c5, c6, c7, c8, hsl, hrd, hr, ζ61]
 | some tab =>
  obtain ⟨ps, hps, hrel⟩ := hlr.1 tab hlk;rw [hps] at hrd;simp only [tabRO, Option.isSome_some] at hrd;have st := ((Star.nil H).push ⟨zCells, 1, false⟩).push ⟨rmCells b n j q 2 0 w tb ps, 1, false⟩;have st := st.rest ((Ext.refl _).push ⟨[lv encB tb, lv encRP ps], 1, false⟩);have hlp := ζr2 k b hb hl (n := n) (w := w) (by omega) (by omega) r8 r12 tb ps (by simpa using st);cases hcl : closeA (b.drop j.toNat) (b.drop q.toNat) n w 2 with
  | none =>
   have hm : refMachS b g w = none := by unfold refMachS; rw [hmach, hlk, Option.bind_some, hcl]; rfl
   rw [hm];rw [hcl] at hlp;obtain ⟨H2, hr, hx, hz⟩ := hlp;have hgs : (H2.set H.n (some ⟨zCells, 1, false⟩)).get H.n = some ⟨zCells, 1, false⟩ := ζ7z _ _ _ (by rw [hz]; rfl);have hx3 : Ext H (H2.set H.n (some ⟨zCells, 1, false⟩)) := ⟨by simpa using hx.1, fun d hd hs => by rw [ζ3h _ _ _ _ (by omega)]; exact hx.2 d hd hs⟩
   refine nrm_fz (L := []) (v := .tuple #[.agg zCells.toArray, .bool false]) (H' := H2.set H.n (some ⟨zCells, 1, false⟩)) ?_ rfl hx3 (fl none).alive;simp -implicitDefEqProofs (disch := omega) [ζ6, u0, u4, u8, u12, c1, c2, c3, c4, c5, c6, c7, c8, hsl, hrd, hr, ζ61, hz, hgs]
  | some x =>
   have hm : refMachS b g w = some (rmOf b g w ⟨n, tab, x.1, x.2⟩) := by unfold refMachS; rw [hmach, hlk, Option.bind_some, hcl]; rfl
   rw [hm];rw [hcl] at hlp;obtain ⟨H2, S, N, hr, hx, hz, rfl, rfl⟩ := hlp;have hrm : rmO (some (rmOf b g w ⟨n, tab, x.1, x.2⟩)) = .agg (rmCells b n j q x.1.length x.2.length w tb ps).toArray := by
    unfold rmO rmOf;rw [hj, hq, hi, ← htb, hps];rfl
   have fl2 := fl (some (rmOf b g w ⟨n, tab, x.1, x.2⟩));rw [hrm] at fl2 ⊢;refine nrm_fz (L := []) (v := .tuple #[.agg (rmCells b n j q x.1.length x.2.length w tb ps).toArray, .bool true]) (H' := H2) ?_ rfl hx fl2.alive;simp -implicitDefEqProofs (disch := omega) [ζ6, u0, u4, u8, u12, c1, c2, c3, c4, c5, c6, c7, c8, hsl, hrd, hr, ζal, hz]
theorem mach_at {b : List Int} (hb : Byt b) {g w : Int} (hw : 0 ≤ w ∧ w ≤ 2) {m : Mach} (h : machS b g w = some m) :
  (0 ≤ gU b 8 4 ∧ gU b 8 4 ≤ b.length) ∧ (0 ≤ gU b 12 4 ∧ gU b 12 4 ≤ b.length) ∧
  (∀ (i : Nat) e, m.ents[i]? = some e → e = ⟨gU b (gU b 12 4 + (i : Int) * (4 + 2 * w)) 2, gU b (gU b 12 4 + (i : Int) * (4 + 2 * w) + 2) 2, if 0 < w then gU b (gU b 12 4 + (i : Int) * (4 + 2 * w) + 4) 2 else 0, if 1 < w then gU b (gU b 12 4 + (i : Int) * (4 + 2 * w) + 6) 2 else 0⟩) ∧
  ∀ (s c : Nat) r x, m.rows[s]? = some r → r[c]? = some x → x = gU b (gU b 8 4 + (m.classes * s + (c : Nat)) * 2) 2 := by
 obtain ⟨i, j, q, tb, rv, ev, x, h0, h1, h2, h3, h4, h5, h6, h7, h8, h9, h10, h11, h12⟩ := ζjq h;have e6 := gU_some h6;have e8 := gU_some h8;rw [e6, e8];obtain ⟨c1, c2, c3, c4, c5, c6, c7, _⟩ := ζk6 (hb.rest h7) (hb.rest h9) (by omega) hw _ _ x (by omega) (by omega) h10;refine ⟨(ζ35.1 h7).1, (ζ35.1 h9).1, fun i e he => ?_, fun s c r x' hr hx => ?_⟩
 ·rw [h12] at he;obtain ⟨y, g1, g2⟩ := mapO_at c7 (List.getElem?_eq_some_iff.1 he).1;rw [he] at g2;injection g2 with g2;subst g2;exact ent_at h9 hw g1
 ·rw [h11] at hr;obtain ⟨y, g1, g2⟩ := mapO_at c6 (List.getElem?_eq_some_iff.1 hr).1;rw [hr] at g2;injection g2 with g2;subst g2;have hra := row_at h7 (by omega) g1;have hlt := (List.getElem?_eq_some_iff.1 hx).1;rw [hra] at hx hlt;simp at hlt;rw [List.getElem?_map, List.getElem?_range (by omega)] at hx;injection hx with hx;exact hx.symm
theorem ζon (k : Nat) {b : List Int} (hb : Byt b) {g w : Int} (hw : w = 0 ∨ w = 1 ∨ w = 2) (hl : b.length < 2 ^ 31) {m : Mach} (h : machS b g w = some m) {i : Int} (hi0 : 0 ≤ i) (hi6 : i ≤ 65536) {e : En} (he : m.ents[i.toNat]? = some e) (H : Heap) :
  R (T k) F.ζc [rmV (rmOf b g w m), .int .i64 i] H = .ok (.agg (encEn e).toArray) H := by
 obtain ⟨_, hq, hat, _⟩ := mach_at hb (by omega) h;have he := hat _ _ he;clear hat;obtain ⟨i, rfl⟩ := Int.eq_ofNat_of_zero_le hi0;rw [Int.toNat_natCast] at he;obtain ⟨p, hp⟩ : ∃ p, p = gU b 12 4 + (i : Int) * (4 + 2 * w) := ⟨_, rfl⟩
 have hm0 : 0 ≤ (i : Int) * (4 + 2 * w) := Int.mul_nonneg (by omega) (by omega);have hm1 : (i : Int) * (4 + 2 * w) ≤ 65536 * 8 := Int.mul_le_mul (by omega) (by omega) (by omega) (by omega);have hU := fun j H' => refU_run k (H := H') (Sl.lv H' 1 b) hb j 2 (by omega) (by omega);have hu : ∀ j H', R (T k) F.ζ2 [lv encB b, .int .i64 j, .int .i64 2] H' = .ok (.int .i64 (gU b j 2)) H' := fun j H' => hU j H';rw [ζce];rw [← hp] at he;have hx : Ext H (((H.push ⟨rmCells b m.classes (gU b 8 4) (gU b 12 4) m.rows.length m.ents.length w (b.drop (gU b 4 4).toNat) ((refReadS (b.drop (gU b 4 4).toNat) g 2).getD []), 1, false⟩).push ⟨encEn e, 1, false⟩).push ⟨encEn e, 1, false⟩) := (((Ext.refl H).push _).push _).push _;refine nrm_gc ⟨_, ?_, hx⟩ (Flat.ofEn e).alive;subst he;unfold rmOf;rcases hw with rfl | rfl | rfl
 ·simp -implicitDefEqProofs at hm0 hm1 hp;simp -implicitDefEqProofs (disch := omega) [ζc, ← hp, hu, ζ9z, ζ60]
 ·simp -implicitDefEqProofs at hm0 hm1 hp;simp -implicitDefEqProofs (disch := omega) [ζc, ← hp, hu, ζ5z, ζ60]
 ·simp -implicitDefEqProofs at hm0 hm1 hp;simp -implicitDefEqProofs (disch := omega) [ζc, ← hp, hu, ζ5z, ζa0]
end Go.Sw
end
section
namespace Go.Sw
theorem row_I {r : List Da} {cs : List Value} (h : LayRow [.int .i64] r cs) : ∃ n : Int, cs = encI n ∧ (Lit.int .i64 n).wf = true := by
 obtain ⟨d, v, ds, vs, rfl, h1, h2⟩ := h.head;obtain rfl := h2.done;obtain ⟨n, rfl, w⟩ := h1.intv;exact ⟨n, rfl, w⟩
theorem wf_u8 {n : Int} (h : (Lit.int .u8 n).wf = true) : 0 ≤ n ∧ n < 256 := by
 simp [Lit.wf, IntKind.min, IntKind.max, IntKind.signed, IntKind.bits] at h;omega
theorem wf_u16 {n : Int} (h : (Lit.int .u16 n).wf = true) : 0 ≤ n ∧ n < 65536 := by
 simp [Lit.wf, IntKind.min, IntKind.max, IntKind.signed, IntKind.bits] at h;omega
theorem row_B {r : List Da} {cs : List Value} (h : LayRow [.int .u8] r cs) : ∃ n : Int, cs = encB n ∧ (0 ≤ n ∧ n < 256) := by
 obtain ⟨d, v, ds, vs, rfl, h1, h2⟩ := h.head;obtain rfl := h2.done;obtain ⟨n, rfl, w⟩ := h1.intv;exact ⟨n, rfl, wf_u8 w⟩
theorem arg_I {v : Value} (h : ArgLay (.one (.slice [.int .i64])) v) : ∃ l, v = lv encI l ∧ ∀ n, n ∈ l → (Lit.int .i64 n).wf = true := by
 obtain ⟨d, h1⟩ := h.cell;exact Lay.list (enc := encI) (ok := fun n => (Lit.int .i64 n).wf = true) (fun r cs h => row_I h) h1
end Go.Sw
end
section
namespace Go.Sw
open Go.RowKit
end Go.Sw
end
section
namespace Go.Sw
open Go.RowKit
theorem ζm6 {p : Plan} (hp : p.ok) (w : Int) {rm : List Int} (hrm : Byt rm) : Byt (planRoom p w rm) := by
 have tw : ∀ l, Byt (twos l) := fun l => Byt.flat fun r hr => by obtain ⟨c, _, rfl⟩ := List.mem_map.1 hr; exact ζ1y _ _
 unfold planRoom;refine (ζ1y _ _).app ((ζ1y _ _).app ((ζ1y _ _).app ((ζ1y _ _).app (hrm.app (Byt.app ?_ (Byt.app ?_ ?_))))))
 ·unfold ofS;exact (((ζ1y _ _).app (ζ1y _ _)).app (ζ1y _ _)).app (tw _)
 ·exact Byt.flat fun r hr => by obtain ⟨c, _, rfl⟩ := List.mem_map.1 hr; exact tw _
 ·refine Byt.flat fun r hr => ?_;obtain ⟨e, _, rfl⟩ := List.mem_map.1 hr;unfold entB;refine (((ζ1y _ _).app (ζ1y _ _)).app ?_).app ?_
  ·split
   ·exact ζ1y _ _
   ·exact Byt.nil
  ·split
   ·exact ζ1y _ _
   ·exact Byt.nil
theorem ζft {p : Plan} (hp : p.ok) (w : Int) {rm : List Int} (hrm : rm.length ≤ 1000) (h1 : p.cls.length ≤ 1000) (h2 : p.rows.length ≤ 1000) (h3 : p.ents.length ≤ 1000) : (planRoom p w rm).length ≤ 100000 := by
 have hN := planN_eq p hp.2.2;have hofl : (ofS p.cls).length = 6 + p.cls.length * 2 := by unfold ofS; simp [twos_len]; omega
 have hrl : (rowsL (planN p) p.rows).length ≤ 1000 * 22 := by rw [ζda]; exact Nat.mul_le_mul h2 (by omega)
 have hel := ζd2 w p.ents;unfold planRoom;simp;omega
theorem row_En {r : List Da} {cs : List Value} (h : LayRow [.int .i64, .int .i64, .int .i64, .int .i64] r cs) : ∃ p : En, cs = encEn p ∧ True := by
 obtain ⟨_, v1, _, _, rfl, h1, h⟩ := h.head;obtain ⟨_, v2, _, _, rfl, h2, h⟩ := h.head;obtain ⟨_, v3, _, _, rfl, h3, h⟩ := h.head;obtain ⟨_, v4, _, _, rfl, h4, h⟩ := h.head;obtain rfl := h.done;obtain ⟨a, rfl, _⟩ := h1.intv;obtain ⟨b, rfl, _⟩ := h2.intv;obtain ⟨c, rfl, _⟩ := h3.intv;obtain ⟨d, rfl, _⟩ := h4.intv;exact ⟨⟨a, b, c, d⟩, rfl, trivial⟩
theorem row_BR {r : List Da} {cs : List Value} (h : LayRow [.slice [.int .u8]] r cs) : ∃ b : List Int, cs = encBR b ∧ Byt b := by
 obtain ⟨_, v1, _, _, rfl, h1, h⟩ := h.head;obtain rfl := h.done;obtain ⟨b, rfl, hb⟩ := Lay.list (enc := encB) (ok := fun n => 0 ≤ n ∧ n < 256) (fun r cs h => row_B h) h1;exact ⟨b, rfl, hb⟩
end Go.Sw
end
section
namespace Go.Sw
open Go.RowKit
variable {σ : Type}
end Go.Sw
end
section
namespace Go.Sw
open Go.RowKit Go.Proofs
set_option maxRecDepth 20000 in
theorem ζni (p : Addr) (b : Bool) (w : World) (hc : (w.alloc (.cells #[] 200)).cell? p = some (.bool b)) (hz : (w.alloc (.cells #[] 200)).frozen? p = false) :
  CallsD Prog 105 #[.pointer (some p)] (.panicking [{ v := .iface 200 (.agg #[]), recovered := false }]) w fun e u' w' =>
   e = .returned (.tuple #[]) ∧ u' = .panicking [{ v := .iface 200 (.agg #[]), recovered := true }] ∧ w' = (w.alloc (.cells #[] 200)).setCell p (.bool false) := by
 refine callsD_of_wpS Try.func105 rfl fun c₀ cs hu => ?_;apply wpS_seq;apply wpS_region;simp [wpOpsS, go_sem, recoverD, hu, Try.ntmps105, Exit.thenS];have hta : ∀ w, (Instr.typeAssert (.iface 200 (.agg #[])) 20 200 true).run Prog w = .ok (.tuple #[.agg #[], .bool true]) w := fun w => by kernel_rfl
 refine wpS_of_wp ?_
 go_wp2
 cases c₀;simp_all [bodyPostS, results, Try.results105]
theorem ζof (p : Addr) (w : World) :
  CallsD Prog 105 #[.pointer (some p)] .returning w fun e u' w' => e = .returned (.tuple #[]) ∧ u' = .returning ∧ w' = w := by
 refine callsD_of_wpS Try.func105 rfl fun c₀ cs hu => ?_;apply wpS_seq;apply wpS_region;simp [wpOpsS, go_sem, recoverD, hu, Try.ntmps105, Exit.thenS];refine wpS_of_wp ?_
 go_wp2
 cases c₀;simp_all [bodyPostS, results, Try.results105]
set_option maxRecDepth 20000 in
theorem try_walk (g : FuncId) (first cap : Array Value) (w : World) (R : Ending → World → Prop)
  (hcf : (callFunc g (first ++ cap)).run Prog (w.alloc (.cells #[.bool false] 4)) = .ok (.enter g (first ++ cap)) (w.alloc (.cells #[.bool false] 4)))
  (hcall : Calls Prog g (first ++ cap) (w.alloc (.cells #[.bool false] 4)) fun e w' => match e with
   | .returned _ => w'.heap[w.heap.size]? = some (.cells #[.bool false] 4 (0, 0)) ∧ R (.returned (.bool true)) (w'.setCell ⟨w.heap.size, 0, none⟩ (.bool true))
   | .panicked chain => chain = [{ v := .iface 200 (.agg #[]), recovered := false }] ∧ w'.heap[w.heap.size]? = some (.cells #[.bool false] 4 (0, 0)) ∧ R (.returned (.bool false)) ((w'.alloc (.cells #[] 200)).setCell ⟨w.heap.size, 0, none⟩ (.bool false))
   | .outgrown => False) :
  Calls Prog 35 #[.func (.func g) first cap] w R := by
 have hmf : ∀ (fn : Fn) (first cap : Array Value) (w : World), (Instr.makeFunc fn first cap).run Prog w = .ok (.func fn first cap) w := fun _ _ _ _ => rfl
 go_enter_defers Try.func35, Try.ntmps35
 go_wp2
 rename_i K2 hK2 K1 hK1;refine hcall.mono fun e w' he => ?_;cases e with
 | returned v =>
  obtain ⟨h1, h2⟩ := he;have hc : w'.cell? ⟨w.heap.size, 0, none⟩ = some (.bool false) := by simp [World.cell?, h1]
  have hz : w'.frozen? ⟨w.heap.size, 0, none⟩ = false := by simp [World.frozen?, h1]
  apply hK1;apply hK2
  go_wp2
  have hc2 : (w'.setCell ⟨w.heap.size, 0, none⟩ (.bool true)).cell? ⟨w.heap.size, 0, none⟩ = some (.bool true) := World.cell?_setCell_same _ _ _ hc;refine leaves_cons (f := 105) (args := #[.pointer (some ⟨w.heap.size, 0, none⟩)]) (by simp) (by simp [go_sem]) ?_;refine (ζof ⟨w.heap.size, 0, none⟩ _).mono ?_;rintro e u' w'' ⟨rfl, rfl, rfl⟩;simp [Leaves, settle, results, Try.results35, go_sem, hc2];exact h2
 | panicked chain =>
  obtain ⟨h0, h1, h2⟩ := he;subst h0;have hlt : w.heap.size < w'.heap.size := by
   rcases Nat.lt_or_ge w.heap.size w'.heap.size with h | h
   ·exact h
   ·rw [Array.getElem?_eq_none h] at h1; cases h1
  have h3 : (w'.alloc (.cells #[] 200)).heap[w.heap.size]? = some (.cells #[.bool false] 4 (0, 0)) := by
   rw [ζ2l _ _ _ hlt]; exact h1
  have hc : (w'.alloc (.cells #[] 200)).cell? ⟨w.heap.size, 0, none⟩ = some (.bool false) := by simp only [World.cell?, h3]; rfl
  have hz : (w'.alloc (.cells #[] 200)).frozen? ⟨w.heap.size, 0, none⟩ = false := by simp [World.frozen?, h3]
  have hc2 : ((w'.alloc (.cells #[] 200)).setCell ⟨w.heap.size, 0, none⟩ (.bool false)).cell? ⟨w.heap.size, 0, none⟩ = some (.bool false) := World.cell?_setCell_same _ _ _ hc;show Leaves _ _ _ _ _ _ _;refine leaves_cons (f := 105) (args := #[.pointer (some ⟨w.heap.size, 0, none⟩)]) (by simp) (by simp [go_sem]) ?_;refine (ζni ⟨w.heap.size, 0, none⟩ false _ hc hz).mono ?_;rintro e u' w'' ⟨rfl, rfl, rfl⟩;simp [Leaves, settle, results, Try.results35, go_sem, hc2];exact h2
 | outgrown => exact he.elim
theorem try_is : SpIs Prog 35 (tryV 200) := try_of (bt := 4) Try.func35 rfl (by kernel_rfl) try_walk
end Go.Sw
end
section
namespace Go.Sw
open Go.RowKit
structure CTab.ok (t : CTab) : Prop where
 m : t.m.ok
 subs : ∀ x, x ∈ t.subs → (∀ p, p ∈ x.2 → p.ok) ∧ risesS x.2 = true ∧ x.2.length < 2 ^ 31
 has : ∀ e, e ∈ t.m.ents → (e.a = 65535 ∨ e.a < t.subs.length) ∧ (e.b = 65535 ∨ e.b < t.subs.length)
end Go.Sw
end
section
namespace Go.Sw
open Go.RowKit
theorem ζjd {rv ev : List Int} {n w : Int} : ∀ (f s : Nat) x, closeS rv ev n w f s = some x → ∃ N, entsTo ev w N = some x.2
 | 0, _, _, h => by cases h
 | f + 1, s, x, h => by
  simp only [closeS] at h;obtain ⟨rs, e1, h⟩ := Option.bind_eq_some_iff.1 h;obtain ⟨es, e2, h⟩ := Option.bind_eq_some_iff.1 h;split at h
  ·injection h with h; subst h; exact ⟨_, e2⟩
  ·exact ζjd f _ x h
end Go.Sw
end
section
namespace Go.Sw
open Go.RowKit
variable {σ : Type}
theorem ζpc {p : Plan} (hp : p.ok) {w : Int} (hw : w = 0 ∨ w = 1 ∨ w = 2) {rm more : List Int} (hrm : rm.length ≤ 1000) (h1 : p.cls.length ≤ 1000) (h2 : p.rows.length ≤ 1000) {g : Int} {m : Mach} (h : machS (planRoom p w rm ++ more) g w = some m) (hn : m.ents.length ≤ p.ents.length)
  {e : En} (he : e ∈ m.ents) : ∃ q, q ∈ p.ents ∧ e = entM w q := by
 have e1 := ζqy p hp w rm more hrm h1 h2 g;rw [h] at e1;obtain ⟨x, hx, hm⟩ := Option.map_eq_some_iff.1 e1.symm;obtain ⟨N, hN⟩ := ζjd _ _ _ hx;have hme : m.ents = x.2 := by rw [← hm]
 rw [hme] at he hn;obtain ⟨i, hi⟩ := List.getElem?_of_mem he;obtain ⟨j, hj, hk⟩ := mapO_get hN hi;have hil := (List.getElem?_eq_some_iff.1 hi).1;have hlen := mapO_len hN;simp at hlen;rw [List.getElem?_range (by omega)] at hj;injection hj with hj;subst hj;obtain ⟨q, hq⟩ : ∃ q, p.ents[i]? = some q := ⟨_, List.getElem?_eq_getElem (by omega)⟩
 have := ζqc hw more hq;rw [this] at hk;injection hk with hk;exact ⟨q, List.mem_of_getElem? hq, hk.symm⟩
theorem runD_inv (m : Mach) (hm : m.ok) (ln : σ → List Gl) (f : σ → Int → En → σ × Int × Int) (P : σ → Prop) (hf : ∀ s i e, P s → 0 ≤ i → e ∈ m.ents → P (f s i e).1) (most : Int) :
  ∀ (n : Nat) (x : σ × Drv), P x.1 → 0 ≤ x.2.pl → 0 ≤ x.2.st → x.2.st < m.rows.length → P (runD m ln f most n x).2.2
 | 0, x, h, _, _, _ => h
 | n + 1, x, h, hp, h0, h1 => by
  have hmem := entS_mem hm (ln x.1) x.2 ⟨h0, h1⟩;have hent := hm.ent _ hmem;have hP : P (stepD m ln f x).1.1 := by unfold stepD; split <;> exact hf _ _ _ h hp hmem
  have hst : 0 ≤ (stepD m ln f x).1.2.st ∧ (stepD m ln f x).1.2.st < m.rows.length := by unfold stepD; split <;> exact ⟨hent.1, hent.2.1⟩
  have hpl := stepD_pl m ln f x;unfold runD;split
  ·split
   ·exact hP
   ·split
    ·exact hP
    ·exact runD_inv m hm ln f P hf most n _ hP hpl hst.1 hst.2
  ·exact h
end Go.Sw
end
section
namespace Go.Sw
open Go.RowKit
theorem ζcj (p : Plan) (w : Int) (rm rm' : List Int) (h : rm.length = rm'.length) : (planRoom p w rm).length = (planRoom p w rm').length := by
 unfold planRoom;simp [h]
end Go.Sw
end
section
namespace Go.Sw
open Go.RowKit
theorem ζph (p : Plan) (w : Int) (n : Nat) : ∃ hd tl : List Int, hd.length = 16 ∧ ∀ rm : List Int, rm.length = n → planRoom p w rm = hd ++ (rm ++ tl) := by
 refine ⟨bytesOf (planN p : Int) 4 ++ (bytesOf (16 + n : Int) 4 ++ (bytesOf (16 + n + (ofS p.cls).length : Int) 4 ++ bytesOf (16 + n + (ofS p.cls).length + (rowsL (planN p) p.rows).length : Int) 4)), ofS p.cls ++ (rowsL (planN p) p.rows ++ entsB w p.ents), by simp, fun rm h => ?_⟩;unfold planRoom;rw [h];simp only [List.append_assoc]
theorem twos_byt (l : List Int) : Byt (twos l) := Byt.flat fun r hr => by
 obtain ⟨x, _, rfl⟩ := List.mem_map.1 hr;exact ζ1y _ _
def roomB (p : Plan) (w : Int) (hi : Int) (l : List Int) : List Int := planRoom p w (bytesOf (hi + (planRoom p w (List.replicate 4 0)).length : Int) 4) ++ twos l
theorem ζfx (p : Plan) (w n : Int) : (planRoom p w (bytesOf n 4)).length = (planRoom p w (List.replicate 4 0)).length := ζcj p w _ _ (by simp)
theorem ζr4 {p : Plan} (hp : p.ok) (w hi : Int) (l : List Int) : Byt (roomB p w hi l) := (ζm6 hp w (ζ1y _ _)).app (twos_byt l)
theorem ζr5 {p : Plan} (hp : p.ok) (w hi : Int) {l : List Int} (h1 : p.cls.length ≤ 1000) (h2 : p.rows.length ≤ 1000) (h3 : p.ents.length ≤ 1000) (h4 : l.length ≤ 1000) : (roomB p w hi l).length ≤ 102000 := by
 have := ζft hp w (rm := List.replicate 4 0) (by simp) h1 h2 h3;unfold roomB;rw [List.length_append, ζfx, twos_len];omega
end Go.Sw
end
section
set_option maxRecDepth 100000
set_option linter.unusedVariables false
namespace Go.Sw
noncomputable section
def ζ3t (k : Nat) (call : Caller) : Env → Heap → Res (AExit × Env) := loopB (C k) call F.ζg [1, 1, 1, 1, 1, 0, 1, 0, 0]
def ζ5q (k : Nat) (call : Caller) : Kont Value := kBlock 0 (kSeq (pieceK (C k) call F.ζg [1, 1, 1, 1, 1, 1]) (kDone Prog (resOf Prog F.ζg)))
def ζg (k : Nat) (call : Caller) (a0 a1 : Value) (h : Heap) : Res Value :=
 (boxR a0 h).bind fun v1 h2 =>
 (call F.ζ2k [] h2).bind fun v3 h4 =>
 (unR .not v3 h4).bind fun v5 h6 =>
 condV (some v5) (
 .ok (.bool false) h6)
 (
 (loadR Prog 135 v1 h6).bind fun v7 h8 =>
 (call F.ζ1f [v7, a1] h8).bind fun v9 h10 =>
 (unR .not v9 h10).bind fun v11 h12 =>
 condV (some v11) (
 .ok (.bool true) h12)
 (
 (loadR Prog 135 v1 h12).bind fun v13 h14 =>
 (allocR Prog 135 h14).bind fun v15 h16 =>
 (storeR Prog 135 v15 v13 h16).bind fun _v17 h18 =>
 (buildSliceR Prog 24 0 [] h18).bind fun v19 h20 =>
 (fieldAddrR Prog 135 v1 0 h20).bind fun v21 h22 =>
 (fieldAddrR Prog 26 v21 2 h22).bind fun v23 h24 =>
 (loadR Prog 24 v23 h24).bind fun v25 h26 =>
 (builtinV Prog .append [24, 24] [v19, v25] h26).bind fun v27 h28 =>
 (fieldAddrR Prog 135 v15 0 h28).bind fun v29 h30 =>
 (fieldAddrR Prog 26 v29 2 h30).bind fun v31 h32 =>
 (storeR Prog 24 v31 v27 h32).bind fun _v33 h34 =>
 (fieldAddrR Prog 135 v15 0 h34).bind fun v35 h36 =>
 (fieldAddrR Prog 26 v35 2 h36).bind fun v37 h38 =>
 (loadR Prog 24 v37 h38).bind fun v39 h40 =>
 (builtinV Prog .len [24] [v39] h40).bind fun v41 h42 =>
 (loopN (ζ3t k call) loopFuel [(1, a1), (5, v15), (31, v41), (32, (.int .i64 0))] h42).bind fun r43 h44 =>
 ζ5q k call r43.1 r43.2 h44))
theorem ζb3 (k : Nat) (a0 a1 : Value) (h : Heap) : R (T k) F.ζg [a0, a1] h = nrm .gc h (ζg k (R (T k)) a0 a1 h) :=
 (R_body (t := T k) (T_scott k) (by kernel_rfl) (by kernel_rfl) _ _).trans (by kernel_rfl)
theorem ζ4q (k : Nat) (call : Caller) (a1 a5 a31 a32 : Value) (h : Heap) : ζ3t k call [(1, a1), (5, a5), (31, a31), (32, a32)] h =
 (binR Prog .lss 3 a32 a31 h).bind fun v45 h46 =>
 condV (some v45) (
 (fieldAddrR Prog 135 a5 0 h46).bindN fun v47 h48 =>
 (fieldAddrR Prog 26 v47 2 h48).bindN fun v49 h50 =>
 (loadR Prog 24 v49 h50).bindN fun v51 h52 =>
 (fieldAddrR Prog 135 a5 0 h52).bindN fun v53 h54 =>
 (fieldAddrR Prog 26 v53 2 h54).bindN fun v55 h56 =>
 (loadR Prog 24 v55 h56).bindN fun v57 h58 =>
 (indexAddrR Prog 24 v51 a32 h58).bindN fun v59 h60 =>
 (fieldAddrR Prog 31 v59 2 h60).bindN fun v61 h62 =>
 (storeR Prog 3 v61 (.int .i64 65535) h62).bindN fun _v63 h64 =>
 (indexAddrR Prog 24 v57 a32 h64).bindN fun v65 h66 =>
 (fieldAddrR Prog 31 v65 3 h66).bindN fun v67 h68 =>
 (storeR Prog 3 v67 (.int .i64 65535) h68).bindN fun _v69 h70 =>
 chkR ((okVal (loadR Prog 24 v55 h64) v57 && true) && true) (
 (binR Prog .add 3 a32 (.int .i64 1) h70).bind fun v71 h72 =>
 .ok (.normal, [(1, a1), (5, a5), (31, a31), (32, v71)]) h72))
 (
 .ok ((.exit 0), [(1, a1), (5, a5), (31, a31), (32, a32), (33, v45)]) h46) :=
 (loopB_eq _ _).trans (by kernel_rfl)
theorem ζ27 (k : Nat) (call : Caller) (a1 a5 a31 a32 a33 : Value) (h : Heap) : ζ5q k call (.exit 0) [(1, a1), (5, a5), (31, a31), (32, a32), (33, a33)] h =
 (loadR Prog 135 a5 h).bind fun v73 h74 =>
 (call F.ζ19 [v73] h74).bind fun v75 h76 =>
 (call F.ins_Read [v75, (.int .i64 40)] h76).bind fun v77 h78 =>
 (extractR v77 0 h78).bind fun v79 h80 =>
 (extractR v77 1 h80).bind fun v81 h82 =>
 (loadR Prog 135 a5 h82).bind fun v83 h84 =>
 (call F.ζ19 [v83] h84).bind fun v85 h86 =>
 (call F.ζ1h [v85, (.int .i64 40)] h86).bind fun v87 h88 =>
 (extractR v87 0 h88).bind fun v89 h90 =>
 (extractR v87 1 h90).bind fun v91 h92 =>
 (allocR Prog 145 h92).bind fun v93 h94 =>
 (storeR Prog 145 v93 v89 h94).bind fun _v95 h96 =>
 (binR Prog .eql 137 v79 (.pointer none) h96).bind fun v97 h98 =>
 ((bif wantVal v97 false then Res.ok v91 h98 else Res.ok undef h98)).bind fun v99 h100 =>
 ((bif wantVal v97 false then unR .not v99 h100 else Res.ok undef h100)).bind fun v101 h102 =>
 (condV (some v97) (Res.ok (.bool true) h102) (Res.ok v101 h102)).bind fun v103 h104 =>
 ((bif wantVal v103 false then fieldAddrR Prog 145 v93 0 h104 else Res.ok undef h104)).bind fun v105 h106 =>
 ((bif wantVal v103 false then fieldAddrR Prog 41 v105 5 h106 else Res.ok undef h106)).bind fun v107 h108 =>
 ((bif wantVal v103 false then loadR Prog 3 v107 h108 else Res.ok undef h108)).bind fun v109 h110 =>
 ((bif wantVal v103 false then fieldAddrR Prog 135 a5 0 h110 else Res.ok undef h110)).bind fun v111 h112 =>
 ((bif wantVal v103 false then fieldAddrR Prog 26 v111 2 h112 else Res.ok undef h112)).bind fun v113 h114 =>
 ((bif wantVal v103 false then loadR Prog 24 v113 h114 else Res.ok undef h114)).bind fun v115 h116 =>
 ((bif wantVal v103 false then builtinV Prog .len [24] [v115] h116 else Res.ok undef h116)).bind fun v117 h118 =>
 ((bif wantVal v103 false then binR Prog .gtr 3 v109 v117 h118 else Res.ok undef h118)).bind fun v119 h120 =>
 (condV (some v103) (Res.ok (.bool true) h120) (Res.ok v119 h120)).bind fun v121 h122 =>
 ((bif wantVal v121 false then fieldAddrR Prog 145 v93 0 h122 else Res.ok undef h122)).bind fun v123 h124 =>
 ((bif wantVal v121 false then fieldAddrR Prog 41 v123 4 h124 else Res.ok undef h124)).bind fun v125 h126 =>
 ((bif wantVal v121 false then loadR Prog 3 v125 h126 else Res.ok undef h126)).bind fun v127 h128 =>
 ((bif wantVal v121 false then fieldAddrR Prog 135 a5 0 h128 else Res.ok undef h128)).bind fun v129 h130 =>
 ((bif wantVal v121 false then fieldAddrR Prog 26 v129 1 h130 else Res.ok undef h130)).bind fun v131 h132 =>
 ((bif wantVal v121 false then loadR Prog 23 v131 h132 else Res.ok undef h132)).bind fun v133 h134 =>
 ((bif wantVal v121 false then builtinV Prog .len [23] [v133] h134 else Res.ok undef h134)).bind fun v135 h136 =>
 ((bif wantVal v121 false then binR Prog .gtr 3 v127 v135 h136 else Res.ok undef h136)).bind fun v137 h138 =>
 (condV (some v121) (Res.ok (.bool true) h138) (Res.ok v137 h138)).bind fun v139 h140 =>
 condV (some v139) (
 (binR Prog .eql 137 v79 (.pointer none) h140).bind fun v141 h142 =>
 ((bif wantVal v141 false then Res.ok v91 h142 else Res.ok undef h142)).bind fun v143 h144 =>
 (condV (some v141) (Res.ok (.bool true) h144) (Res.ok v143 h144)).bind fun v145 h146 =>
 .ok v145 h146)
 (
 (call F.line_New [a1] h140).bind fun v147 h148 =>
 (call F.ζ23 [v79, v147, (.int .i64 0)] h148).bind fun v149 h150 =>
 (extractR v149 0 h150).bind fun v151 h152 =>
 (extractR v149 1 h152).bind fun v153 h154 =>
 (binR Prog .eql 3 v151 (.int .i64 0) h154).bind fun v155 h156 =>
 ((bif wantVal v155 true then Res.ok v147 h156 else Res.ok undef h156)).bind fun v157 h158 =>
 ((bif wantVal v155 true then call F.ζ2x [v157] h158 else Res.ok undef h158)).bind fun v159 h160 =>
 ((bif wantVal v155 true then Res.ok a1 h160 else Res.ok undef h160)).bind fun v161 h162 =>
 ((bif wantVal v155 true then call F.ζ29 [v161] h162 else Res.ok undef h162)).bind fun v163 h164 =>
 ((bif wantVal v155 true then call F.ζ1n [v159, v163] h164 else Res.ok undef h164)).bind fun v165 h166 =>
 (condV (some v155) (Res.ok v165 h166) (Res.ok (.bool false) h166)).bind fun v167 h168 =>
 .ok v167 h168) := by kernel_rfl
def ζ1f (k : Nat) (call : Caller) (a0 a1 : Value) (h : Heap) : Res Value :=
 (boxR a0 h).bind fun v1 h2 =>
 (fieldAddrR Prog 135 v1 0 h2).bind fun v3 h4 =>
 (fieldAddrR Prog 26 v3 0 h4).bind fun v5 h6 =>
 (loadR Prog 22 v5 h6).bind fun v7 h8 =>
 (builtinV Prog .len [22] [v7] h8).bind fun v9 h10 =>
 (binR Prog .leq 3 v9 (.int .i64 40) h10).bind fun v11 h12 =>
 ((bif wantVal v11 true then fieldAddrR Prog 135 v1 0 h12 else Res.ok undef h12)).bind fun v13 h14 =>
 ((bif wantVal v11 true then fieldAddrR Prog 26 v13 1 h14 else Res.ok undef h14)).bind fun v15 h16 =>
 ((bif wantVal v11 true then loadR Prog 23 v15 h16 else Res.ok undef h16)).bind fun v17 h18 =>
 ((bif wantVal v11 true then builtinV Prog .len [23] [v17] h18 else Res.ok undef h18)).bind fun v19 h20 =>
 ((bif wantVal v11 true then binR Prog .leq 3 v19 (.int .i64 20) h20 else Res.ok undef h20)).bind fun v21 h22 =>
 (condV (some v11) (Res.ok v21 h22) (Res.ok (.bool false) h22)).bind fun v23 h24 =>
 ((bif wantVal v23 true then fieldAddrR Prog 135 v1 0 h24 else Res.ok undef h24)).bind fun v25 h26 =>
 ((bif wantVal v23 true then fieldAddrR Prog 26 v25 2 h26 else Res.ok undef h26)).bind fun v27 h28 =>
 ((bif wantVal v23 true then loadR Prog 24 v27 h28 else Res.ok undef h28)).bind fun v29 h30 =>
 ((bif wantVal v23 true then builtinV Prog .len [24] [v29] h30 else Res.ok undef h30)).bind fun v31 h32 =>
 ((bif wantVal v23 true then binR Prog .leq 3 v31 (.int .i64 40) h32 else Res.ok undef h32)).bind fun v33 h34 =>
 (condV (some v23) (Res.ok v33 h34) (Res.ok (.bool false) h34)).bind fun v35 h36 =>
 ((bif wantVal v35 true then fieldAddrR Prog 135 v1 1 h36 else Res.ok undef h36)).bind fun v37 h38 =>
 ((bif wantVal v35 true then loadR Prog 109 v37 h38 else Res.ok undef h38)).bind fun v39 h40 =>
 ((bif wantVal v35 true then builtinV Prog .len [109] [v39] h40 else Res.ok undef h40)).bind fun v41 h42 =>
 ((bif wantVal v35 true then binR Prog .leq 3 v41 (.int .i64 100) h42 else Res.ok undef h42)).bind fun v43 h44 =>
 (condV (some v35) (Res.ok v43 h44) (Res.ok (.bool false) h44)).bind fun v45 h46 =>
 ((bif wantVal v45 true then Res.ok a1 h46 else Res.ok undef h46)).bind fun v47 h48 =>
 ((bif wantVal v45 true then builtinV Prog .len [27] [v47] h48 else Res.ok undef h48)).bind fun v49 h50 =>
 ((bif wantVal v45 true then binR Prog .leq 3 v49 (.int .i64 40) h50 else Res.ok undef h50)).bind fun v51 h52 =>
 (condV (some v45) (Res.ok v51 h52) (Res.ok (.bool false) h52)).bind fun v53 h54 =>
 .ok v53 h54
theorem ζcc (k : Nat) (a0 a1 : Value) (h : Heap) : R (T k) F.ζ1f [a0, a1] h = nrm .gc h (ζ1f k (R (T k)) a0 a1 h) :=
 (R_body (t := T k) (T_scott k) (by kernel_rfl) (by kernel_rfl) _ _).trans (by kernel_rfl)
def ζ3g (k : Nat) (call : Caller) : Env → Heap → Res (AExit × Env) := loopB (C k) call F.ζ19 [1, 1, 1, 0, 1, 0, 0]
def ζ74 (k : Nat) (call : Caller) : Kont Value := kBlock 0 (kSeq (pieceK (C k) call F.ζ19 [1, 1, 1, 1]) (kDone Prog (resOf Prog F.ζ19)))
def ζ19 (k : Nat) (call : Caller) (a0 : Value) (h : Heap) : Res Value :=
 (boxR a0 h).bind fun v1 h2 =>
 (fieldAddrR Prog 135 v1 0 h2).bind fun v3 h4 =>
 (loadR Prog 26 v3 h4).bind fun v5 h6 =>
 (call F.ζ1 [v5, (.int .i64 2), (.int .i64 4)] h6).bind fun v7 h8 =>
 (sliceR Prog 22 v7 (some (.int .i64 16)) (some (.int .i64 20)) none h8).bindN fun v9 h10 =>
 (builtinV Prog .len [22] [v7] h10).bindN fun v11 h12 =>
 (call F.ζ8 [(.slice none 0 0), v11, (.int .i64 4)] h12).bindT (fun p15 h16 => .panic p15 h16) fun v13 h14 =>
 (builtinV Prog .copy [22, 22] [v9, v13] h14).bindN fun v17 h18 =>
 chkR ((okVal (sliceR Prog 22 v7 (some (.int .i64 16)) (some (.int .i64 20)) none h14) v9 && true) && true) (
 (fieldAddrR Prog 135 v1 1 h18).bind fun v19 h20 =>
 (loadR Prog 109 v19 h20).bind fun v21 h22 =>
 (builtinV Prog .len [109] [v21] h22).bind fun v23 h24 =>
 (loopN (ζ3g k call) loopFuel [(3, v7), (16, v21), (17, v23), (18, (.int .i64 0))] h24).bind fun r25 h26 =>
 ζ74 k call r25.1 r25.2 h26)
theorem ζcb (k : Nat) (a0 : Value) (h : Heap) : R (T k) F.ζ19 [a0] h = nrm .fz h (ζ19 k (R (T k)) a0 h) :=
 (R_body (t := T k) (T_scott k) (by kernel_rfl) (by kernel_rfl) _ _).trans (by kernel_rfl)
theorem ζ5r (k : Nat) (call : Caller) (a3 a16 a17 a18 : Value) (h : Heap) : ζ3g k call [(3, a3), (16, a16), (17, a17), (18, a18)] h =
 (binR Prog .lss 3 a18 a17 h).bind fun v27 h28 =>
 condV (some v27) (
 (indexAddrR Prog 109 a16 a18 h28).bind fun v29 h30 =>
 (loadR Prog 154 v29 h30).bind fun v31 h32 =>
 (convR Prog 154 3 v31 h32).bind fun v33 h34 =>
 (call F.ζ8 [a3, v33, (.int .i64 2)] h34).bind fun v35 h36 =>
 (binR Prog .add 3 a18 (.int .i64 1) h36).bind fun v37 h38 =>
 .ok (.normal, [(3, v35), (16, a16), (17, a17), (18, v37)]) h38)
 (
 .ok ((.exit 0), [(3, a3), (16, a16), (17, a17), (18, a18), (19, v27)]) h28) :=
 (loopB_eq _ _).trans (by kernel_rfl)
theorem ζ9a (k : Nat) (call : Caller) (a3 a16 a17 a18 a19 : Value) (h : Heap) : ζ74 k call (.exit 0) [(3, a3), (16, a16), (17, a17), (18, a18), (19, a19)] h =
 .ok a3 h := by kernel_rfl
end
end Go.Sw
end
section
namespace Go.Sw
open Go.RowKit
theorem ζkv (p : Plan) (w : Int) (rm r x : List Int) (h : rm.length = r.length) : ((planRoom p w rm) ++ x).take 16 ++ (r ++ ((planRoom p w rm) ++ x).drop (16 + r.length)) = planRoom p w r ++ x := by
 obtain ⟨hd, tl, h16, hs⟩ := ζph p w r.length;rw [hs rm h, hs r rfl];rw [← h16, show hd ++ (rm ++ tl) ++ x = hd ++ (rm ++ (tl ++ x)) by simp, List.take_left, ← h];rw [show hd ++ (rm ++ (tl ++ x)) = (hd ++ rm) ++ (tl ++ x) by simp, show hd.length + rm.length = (hd ++ rm).length by simp, List.drop_left];simp
theorem ζpu (s : List Int) {j : Nat} {x : Int} (h : s[j]? = some x) : twos (s.take (j + 1)) = twos (s.take j) ++ bytesOf x 2 := by rw [ζ22 h, ζky]
abbrev encH (n : Int) : List Value := [.int .u16 n]
theorem encH_len (n : Int) : (encH n).length = 1 := rfl
theorem w18_l1 (k : Nat) {H0 H : Heap} {o : Option Nat} {s7 : Value} {lk : List Int} (g : Star H0 H [itRow o 1 s7 encB lk]) {v : Value} {s : List Int} (hv : Sl H0 1 v encH s) (hb : ∀ x, x ∈ s → 0 ≤ x ∧ x < 65536) (hl : lk.length + 2 * s.length < 2 ^ 29) :
  ∃ s' o' zz H', loopN (ζ3g k (R (T k))) loopFuel [(3, s7), (16, v), (17, .int .i64 s.length), (18, .int .i64 0)] H =
   .ok (.exit 0, [(3, s'), (16, v), (17, .int .i64 s.length), (18, zz), (19, .bool false)]) H' ∧ Star H0 H' [itRow o' 1 s' encB (lk ++ twos s)] := by
 obtain ⟨xx, e', H1, hr1, rfl, s', o', rfl, g1⟩ := loop_up (body := ζ3g k (R (T k))) s.length
  (fun j e H' => ∃ s' o', e = [(3, s'), (16, v), (17, .int .i64 s.length), (18, .int .i64 j)] ∧ Star H0 H' [itRow o' 1 s' encB (lk ++ twos (s.take j))])
  (fun xx e H' => xx = .exit 0 ∧ ∃ s' o', e = [(3, s'), (16, v), (17, .int .i64 s.length), (18, .int .i64 s.length), (19, .bool false)] ∧ Star H0 H' [itRow o' 1 s' encB (lk ++ twos s)])
  (e0 := [(3, s7), (16, v), (17, .int .i64 s.length), (18, .int .i64 0)]) (H0 := H) ⟨s7, o, rfl, by simpa [twos] using g⟩ (by omega)
  (fun j e H' hj ⟨s', o', he, g⟩ => by
   subst he;have hjl : (j : Int) < s.length := by omega
   obtain ⟨x, hx⟩ : ∃ x, s[j]? = some x := ⟨_, List.getElem?_eq_getElem hj⟩
   have hxb := hb x (List.mem_of_getElem? hx);obtain ⟨p, i1, i2⟩ := hv.ix1 encH_len j x hx _ rfl;have i2 := i2 H' g.ext;obtain ⟨s2, o2, H2, e2, g2⟩ := Put_star k g 0 rfl x 2 2 rfl hxb.1 (by omega) (by omega) (by rw [List.length_append, twos_len, List.length_take]; omega);simp only [List.set_cons_zero] at g2;rw [List.append_assoc, ← ζpu _ hx] at g2;have hw64 : IntKind.i64.wrap x = x := wrap_i64 (by omega) (by omega);refine .inl ⟨_, H2, ?_, s2, o2, rfl, g2⟩;rw [ζ5r];simp -implicitDefEqProofs (disch := omega) [hjl, i1, i2, hw64, e2])
  (fun e H' ⟨s', o', he, g⟩ => by
   subst he;rw [List.take_length] at g;refine ⟨.exit 0, _, H', ?_, by simp, rfl, s', o', rfl, g⟩;rw [ζ5r];simp -implicitDefEqProofs)
 exact ⟨s', o', _, H1, hr1, g1⟩
set_option maxRecDepth 20000 in
set_option maxHeartbeats 1000000 in
theorem ζmb (k : Nat) (hW : ownW k = .no) (p : Plan) (hp : p.ok) (h1 : p.cls.length ≤ 1000) (h2 : p.rows.length ≤ 1000) (h3 : p.ents.length ≤ 1000) {H : Heap} {vC vR sE : Value} {rv : List (List Int × Value)} (hP : PlanSl H p vC vR sE rv)
  {vV : Value} {vals : List Int} (hV : Sl H 1 vV encH vals) (hvb : ∀ x, x ∈ vals → 0 ≤ x ∧ x < 65536) (h4 : vals.length ≤ 1000) :
  ∃ s o H', ζ19 k (R (T k)) (.agg #[vC, vR, sE, .int .u8 p.wide, vV]) H = .ok s H' ∧ Star H H' [itRow o 1 s encB (roomB p 2 0 vals)] := by
 obtain ⟨H1, hH1⟩ : ∃ H1, H1 = H.push ⟨[vC, vR, sE, .int .u8 p.wide, vV], 1, false⟩ := ⟨_, rfl⟩
 have hx1 : Ext H H1 := by rw [hH1]; exact (Ext.refl H).push _
 have hg1 : H1.get H.n = some ⟨[vC, vR, sE, .int .u8 p.wide, vV], 1, false⟩ := by rw [hH1]; exact ζe _ _ _ rfl
 obtain ⟨N, hN⟩ : ∃ N, N = (planRoom p 2 (List.replicate 4 0)).length := ⟨_, rfl⟩
 have hNb : N ≤ 100000 := by rw [hN]; exact ζft hp 2 (by simp) h1 h2 h3
 obtain ⟨s0, o0, J0, e0, g, _⟩ := ζnf k hW p hp 2 (by omega) 4 (by omega) h1 h2 h3 (Star.nil H1) (hP.up hx1);rw [ζku] at g;simp only [List.nil_append] at g;have gx0 := g.ext;have hln0 : ∀ H', lnS s0 H' = .ok (.int .i64 N) H' := by rw [hN]; exact (g.row 0 rfl).len
 have hlnV : ∀ H', lnS vV H' = .ok (.int .i64 vals.length) H' := fun H' => hV.len H';have hN16 : 20 ≤ N := by rw [hN]; unfold planRoom; simp; omega
 obtain ⟨c5, rfl, hs5, cut1⟩ := g.cut1 0 rfl 16 4 (by omega) (by omega) .i64 .i64;have g := g.more_row (Ext.refl _) (OwnO.nil encB _ 1) (fun b hb => by cases hb);simp only [List.cons_append, List.nil_append] at g;obtain ⟨t6, u6, J6, f6, g⟩ := Put_star k g 1 rfl N 4 4 rfl (by omega) (by omega) (by omega) (by simp);simp only [List.set_cons_zero, List.set_cons_succ, List.nil_append] at g;obtain ⟨c6, h6, _, cut2⟩ := g.cut1 0 rfl 16 4 (by omega) (by omega) .i64 .i64;have h6 := Option.some.inj h6;subst h6;obtain ⟨J7, f7, g⟩ := g.copy1 0 1 rfl rfl 16 4 ((planRoom p 2 (List.replicate 4 0)).length - 16) (by simp) (by omega) (by omega);simp only [List.set_cons_zero] at g;have hcopy := ζkv p 2 (List.replicate 4 0) (bytesOf (N : Int) 4) [] (by simp);rw [ζ50, List.append_nil, List.append_nil] at hcopy;rw [hcopy] at g;have hrl : (planRoom p 2 (bytesOf (N : Int) 4)).length = N := by rw [hN]; exact ζcj p 2 _ _ (by simp)
 have g0 := g.take 1;simp only [List.take_succ_cons, List.take_zero] at g0;have hv7 := g0.get;obtain ⟨s', o', zz, J8, f8, g8⟩ := w18_l1 k g0 (hV.up hx1) hvb (by rw [hrl]; omega);have hfin : planRoom p 2 (bytesOf (N : Int) 4) ++ twos vals = roomB p 2 0 vals := by unfold roomB; rw [← hN, Int.zero_add]
 rw [hfin] at g8;have g1' : J7.get H.n = some ⟨[vC, vR, sE, .int .u8 p.wide, vV], 1, false⟩ := g.ext.get hg1;refine ⟨s', o', J8, ?_, ?_⟩;rotate_left
 ·have ho := (g8.own 0 rfl).base hx1.n;obtain ⟨o2, ho2, hlt⟩ := ho.toO;have hst : Star H J8 ([] ++ [itRow o2 1 s' encB (roomB p 2 0 vals)]) := (Star.nil H).more_row (hx1.trans g8.ext) ho2 fun b hb => ⟨hlt b hb, ho2.lt b hb⟩
  have h7 : o2 = o' := by
   have hr := g8.row 0 rfl;rcases hr with ⟨r1, r2, r3⟩ | ⟨b, r1, r2, r3⟩
   ·exfalso;have := congrArg List.length r2;unfold roomB at this;rw [List.length_append, ζfx, ← hN] at this;simp at this;omega
   ·rcases ho2 with ⟨q1, q2, q3⟩ | ⟨b2, q1, q2, q3⟩
    ·exfalso;have := congrArg List.length q2;unfold roomB at this;rw [List.length_append, ζfx, ← hN] at this;simp at this;omega
    ·rw [r1, q1];rw [r2] at q2;injection q2 with q2;injection q2 with q2;injection q2 with q2;rw [q2]
  subst h7;simpa using hst
 have hv5 : veq (.slice (some ⟨c5, 16, none⟩) 4 ((planRoom p 2 (List.replicate 4 0)).length - 16)) (.slice (some ⟨c5, 16, none⟩) 4 ((planRoom p 2 (List.replicate 4 0)).length - 16)) = true := by simp
 generalize (planRoom p 2 (List.replicate 4 0)).length - 16 = cap at cut1 cut2 f7 hv5;have cut1 : slS 1 s0 (some (.int .i64 16)) (some (.int .i64 20)) none J0 = .ok (.slice (some ⟨c5, 16, none⟩) 4 cap) J0 := cut1;have cut2 : slS 1 s0 (some (.int .i64 16)) (some (.int .i64 20)) none J6 = .ok (.slice (some ⟨c5, 16, none⟩) 4 cap) J6 := cut2;rw [hH1] at e0;have e0 : R (T k) F.ζ1 [.agg #[vC, vR, sE, .int .u8 p.wide], .int .i64 2, .int .i64 4] (H.push ⟨[vC, vR, sE, .int .u8 p.wide, vV], 1, false⟩) = .ok s0 J0 := e0;simp -implicitDefEqProofs (disch := omega) [ζ19, e0, hln0, cut1, f6, cut2, f7, hv5, g1', hlnV, f8, ζ9a]
theorem ζpv (k : Nat) (hk : k < 1000000) (hW : ownW k = .no) (p : Plan) (hp : p.ok) (h1 : p.cls.length ≤ 1000) (h2 : p.rows.length ≤ 1000) (h3 : p.ents.length ≤ 1000) {H : Heap} {vC vR sE : Value} {rv : List (List Int × Value)} (hP : PlanSl H p vC vR sE rv)
  {vV : Value} {vals : List Int} (hV : Sl H 1 vV encH vals) (hvb : ∀ x, x ∈ vals → 0 ≤ x ∧ x < 65536) (h4 : vals.length ≤ 1000) :
  R (T k) F.ζ19 [.agg #[vC, vR, sE, .int .u8 p.wide, vV]] H = .ok (lv encB (roomB p 2 0 vals)) H := by
 obtain ⟨s, o, H', e, g⟩ := ζmb k hW p hp h1 h2 h3 hP hV hvb h4;rw [ζcb];obtain ⟨L, hf⟩ := (g.own 0 rfl).freeze encB_len (fun n _ v hv => by simp at hv; subst hv; trivial) 6;exact nrm_fz (v := s) (H' := H') e hf g.ext (Flat.B _).alive
structure IPlan where
 p : Plan
 vals : List Int
structure IPlan.ok (x : IPlan) : Prop where
 p : x.p.ok
 vals : ∀ n, n ∈ x.vals → 0 ≤ n ∧ n < 65536
abbrev iplC (x : IPlan) : List Value := [lv encB x.p.cls, lv encBR x.p.rows, lv encEn x.p.ents, .int .u8 x.p.wide, lv encH x.vals]
abbrev iplV (x : IPlan) : Value := .agg (iplC x).toArray
def ISmall (x : IPlan) (n : Nat) : Prop := x.p.cls.length ≤ 40 ∧ x.p.rows.length ≤ 20 ∧ x.p.ents.length ≤ 40 ∧ x.vals.length ≤ 100 ∧ n ≤ 40
instance (x : IPlan) (n : Nat) : Decidable (ISmall x n) := by unfold ISmall; exact inferInstance
theorem ζm9 (k : Nat) (hk : k % 1000000 = F.ζ2k) (H : Heap) : R (T k) F.ζ2k [] H = .ok (.bool true) H :=
 (R_sp (t := T k) (T_scott k) (s := constSp (.bool true)) (by unfold T C; dsimp only; rw [hk]; kernel_rfl) [] H).trans (nrm_gc (Pure.of rfl) (.bool _))
theorem ζo7 (k : Nat) (x : IPlan) (ids : List Int) (H : Heap) : R (T k) F.ζ1f [iplV x, lv encI ids] H = .ok (.bool (decide (ISmall x ids.length))) H := by
 rw [ζcc];refine nrm_gc ⟨_, ?_, (Ext.refl H).push ⟨iplC x, 1, false⟩⟩ (.bool _);unfold ISmall;by_cases h1 : x.p.cls.length ≤ 40
 ·have h1' : (x.p.cls.length : Int) ≤ 40 := by omega
  by_cases h2 : x.p.rows.length ≤ 20
  ·have h2' : (x.p.rows.length : Int) ≤ 20 := by omega
   by_cases h3 : x.p.ents.length ≤ 40
   ·have h3' : (x.p.ents.length : Int) ≤ 40 := by omega
    by_cases h4 : x.vals.length ≤ 100
    ·have h4' : (x.vals.length : Int) ≤ 100 := by omega
     by_cases h5 : ids.length ≤ 40
     ·have h5' : (ids.length : Int) ≤ 40 := by omega
      simp -implicitDefEqProofs [ζ1f, h1, h2, h3, h4, h5, h1', h2', h3', h4', h5']
     ·have h5' : ¬ (ids.length : Int) ≤ 40 := by omega
      simp -implicitDefEqProofs [ζ1f, h1, h2, h3, h4, h5, h1', h2', h3', h4', h5']
    ·have h4' : ¬ (x.vals.length : Int) ≤ 100 := by omega
     simp -implicitDefEqProofs [ζ1f, h1, h2, h3, h4, h1', h2', h3', h4']
   ·have h3' : ¬ (x.p.ents.length : Int) ≤ 40 := by omega
    simp -implicitDefEqProofs [ζ1f, h1, h2, h3, h1', h2', h3']
  ·have h2' : ¬ (x.p.rows.length : Int) ≤ 20 := by omega
   simp -implicitDefEqProofs [ζ1f, h1, h2, h1', h2']
 ·have h1' : ¬ (x.p.cls.length : Int) ≤ 40 := by omega
  simp -implicitDefEqProofs [ζ1f, h1, h1']
end Go.Sw
end
section
set_option maxRecDepth 100000
set_option linter.unusedVariables false
namespace Go.Sw
noncomputable section
end
end Go.Sw
end
section
set_option maxRecDepth 100000
set_option linter.unusedVariables false
namespace Go.Sw
noncomputable section
end
end Go.Sw
end
section
namespace Go.Sw
structure Pl where
 adv : Int
 x : Int
 y : Int
 deriving DecidableEq
def Pl.ok (p : Pl) : Prop := (-2147483648 ≤ p.adv ∧ p.adv ≤ 2147483647) ∧ (-2147483648 ≤ p.x ∧ p.x ≤ 2147483647) ∧ (-2147483648 ≤ p.y ∧ p.y ≤ 2147483647)
end Go.Sw
end
section
namespace Go.Sw
end Go.Sw
end
section
namespace Go.Sw
end Go.Sw
end
section
namespace Go.Sw
end Go.Sw
end
section
namespace Go.Sw
open Go.RowKit
end Go.Sw
end
section
namespace Go.Sw
open Go.RowKit
end Go.Sw
end
section
namespace Go.Sw
open Go.RowKit
def oddB (vs : List Int) (a : Int) : Bool := (List.range (vs.length / 2)).any fun i => decide (a ≤ (i : Int) ∧ gU vs (2 * (i : Int)) 2 % 2 = 1)
structure STab where
 m : Mach
 vals : List Int
structure STab.ok (t : STab) : Prop where
 m : t.m.ok
 byt : Byt t.vals
 len : t.vals.length < 2 ^ 31
 has : ∀ e, e ∈ t.m.ents → e.a = 65535 ∨ oddB t.vals e.a = true
end Go.Sw
end
section
namespace Go.Sw
open Go.RowKit
end Go.Sw
end
section
namespace Go.Sw
open Go.RowKit
theorem and_pow (n k : Nat) : n &&& 2 ^ k = if n.testBit k then 2 ^ k else 0 := by
 apply Nat.eq_of_testBit_eq;intro i;rw [Nat.testBit_and, Nat.testBit_two_pow];by_cases h : k = i
 ·subst h;cases hb : n.testBit k
  ·simp
  ·simp
 ·cases hb : n.testBit k
  ·simp [h]
  ·simp only [h, decide_false, Bool.and_false, if_true, Nat.testBit_two_pow]
theorem bin_andP (P : Program) (t : TypeId) (H : Heap) (k : Nat) (hk : k < 62) {a : Int} (h0 : 0 ≤ a) (h1 : a < 2 ^ 62) (m : Int) (hm : m = ((2 ^ k : Nat) : Int)) :
  binR P .and t (.int .i64 a) (.int .i64 m) H = .ok (.int .i64 (if a / m % 2 = 1 then m else 0)) H := by
 obtain ⟨n, rfl⟩ := Int.eq_ofNat_of_zero_le h0;have hp : 2 ^ k ≤ 2 ^ 61 := Nat.pow_le_pow_right (by decide) (by omega);have hp0 : 0 < 2 ^ k := Nat.two_pow_pos k;have e : (BitVec.ofInt 64 (n : Int) &&& BitVec.ofInt 64 m).toNat = if n.testBit k then 2 ^ k else 0 := by
  rw [BitVec.toNat_and, BitVec.toNat_ofInt, BitVec.toNat_ofInt, hm];rw [show (((n : Int)) % ((2 ^ 64 : Nat) : Int)).toNat = n by omega, show ((((2 ^ k : Nat) : Int)) % ((2 ^ 64 : Nat) : Int)).toNat = 2 ^ k by omega, and_pow]
 have e1 : binV P .and t (.int .i64 (n : Int)) (.int .i64 m) = some (.int .i64 (IntKind.i64.wrap (BitVec.ofInt 64 (n : Int) &&& BitVec.ofInt 64 m).toNat)) := rfl;unfold binR;rw [e1, e, Nat.testBit_eq_decide_div_mod_eq];have hd : (n : Int) / m = ((n / 2 ^ k : Nat) : Int) := by rw [hm, Int.natCast_ediv]
 rw [hd];by_cases h : n / 2 ^ k % 2 = 1
 ·rw [decide_eq_true h, if_pos rfl, if_pos (by omega), wrap_i64 (by omega) (by omega), hm]; rfl
 ·rw [decide_eq_false h, if_neg (by simp), if_neg (by omega)]; rfl
theorem and10 (P : Program) (t : TypeId) (H : Heap) {a : Int} (h0 : 0 ≤ a) (h1 : a < 65536) : binR P .and t (.int .i64 a) (.int .i64 1024) H = .ok (.int .i64 (if a / 1024 % 2 = 1 then 1024 else 0)) H := bin_andP P t H 10 (by decide) h0 (by omega) 1024 rfl
theorem and11 (P : Program) (t : TypeId) (H : Heap) {a : Int} (h0 : 0 ≤ a) (h1 : a < 65536) : binR P .and t (.int .i64 a) (.int .i64 2048) H = .ok (.int .i64 (if a / 2048 % 2 = 1 then 2048 else 0)) H := bin_andP P t H 11 (by decide) h0 (by omega) 2048 rfl
theorem bin_andL (P : Program) (t : TypeId) (H : Heap) (k : Nat) (hk : k < 62) {a : Int} (h0 : 0 ≤ a) (h1 : a < 2 ^ 62) (m : Int) (hm : m = ((2 ^ k : Nat) : Int) - 1) : binR P .and t (.int .i64 a) (.int .i64 m) H = .ok (.int .i64 (a % ((2 ^ k : Nat) : Int))) H := by
 obtain ⟨n, rfl⟩ := Int.eq_ofNat_of_zero_le h0;have hp : 2 ^ k ≤ 2 ^ 61 := Nat.pow_le_pow_right (by decide) (by omega);have hp0 : 0 < 2 ^ k := Nat.two_pow_pos k;have e : (BitVec.ofInt 64 (n : Int) &&& BitVec.ofInt 64 m).toNat = n % 2 ^ k := by
  rw [BitVec.toNat_and, BitVec.toNat_ofInt, BitVec.toNat_ofInt, hm];rw [show (((n : Int)) % ((2 ^ 64 : Nat) : Int)).toNat = n by omega, show ((((2 ^ k : Nat) : Int) - 1) % ((2 ^ 64 : Nat) : Int)).toNat = 2 ^ k - 1 by omega, Nat.and_two_pow_sub_one_eq_mod]
 have e1 : binV P .and t (.int .i64 (n : Int)) (.int .i64 m) = some (.int .i64 (IntKind.i64.wrap (BitVec.ofInt 64 (n : Int) &&& BitVec.ofInt 64 m).toNat)) := rfl;have hlt : n % 2 ^ k < 2 ^ k := Nat.mod_lt _ hp0;unfold binR;rw [e1, e, wrap_i64 (by omega) (by omega), Int.natCast_emod];rfl
theorem and5 (P : Program) (t : TypeId) (H : Heap) {a : Int} (h0 : 0 ≤ a) (h1 : a < 65536) : binR P .and t (.int .i64 a) (.int .i64 31) H = .ok (.int .i64 (a % 32)) H := bin_andL P t H 5 (by decide) h0 (by omega) 31 rfl
end Go.Sw
end
section
set_option maxRecDepth 100000
set_option linter.unusedVariables false
namespace Go.Sw
noncomputable section
end
end Go.Sw
end
section
namespace Go.Sw
open Go.RowKit
end Go.Sw
end
section
namespace Go.Sw
open Go.RowKit
end Go.Sw
end
section
namespace Go.Sw
open Go.RowKit
theorem ζq2 (n : Nat) : n &&& 2 ^ 15 = if n.testBit 15 then 2 ^ 15 else 0 := by
 apply Nat.eq_of_testBit_eq;intro i;rw [Nat.testBit_and, Nat.testBit_two_pow];by_cases h : 15 = i
 ·subst h;cases hb : n.testBit 15 <;> simp <;> decide
 ·cases hb : n.testBit 15
  ·simp [h]
  ·simp only [h, decide_false, Bool.and_false, if_true, Nat.testBit_two_pow]
theorem and15 (P : Program) (t : TypeId) (H : Heap) {a : Int} (h0 : 0 ≤ a) (h1 : a < 65536) : binR P .and t (.int .i64 a) (.int .i64 32768) H = .ok (.int .i64 (if a ≥ 32768 then 32768 else 0)) H := by
 have e : (BitVec.ofInt 64 a &&& BitVec.ofInt 64 32768).toNat = (if a ≥ 32768 then 32768 else 0) := by
  rw [BitVec.toNat_and, BitVec.toNat_ofInt, BitVec.toNat_ofInt];rw [show ((32768 : Int) % ((2 ^ 64 : Nat) : Int)).toNat = 2 ^ 15 from by decide, ζq2, Nat.testBit_eq_decide_div_mod_eq];obtain ⟨n, rfl⟩ := Int.eq_ofNat_of_zero_le h0;rw [show (((n : Int)) % ((2 ^ 64 : Nat) : Int)).toNat = n by omega];by_cases h : (n : Int) ≥ 32768
  ·rw [if_pos h, decide_eq_true (show n / 2 ^ 15 % 2 = 1 by omega)]; rfl
  ·rw [if_neg h, decide_eq_false (show ¬ n / 2 ^ 15 % 2 = 1 by omega)]; rfl
 have e1 : binV P .and t (.int .i64 a) (.int .i64 32768) = some (.int .i64 (IntKind.i64.wrap (BitVec.ofInt 64 a &&& BitVec.ofInt 64 32768).toNat)) := rfl;unfold binR;rw [e1, e];by_cases h : a ≥ 32768
 ·simp [h]
 ·simp [h]
end Go.Sw
end
section
namespace Go.Sw
open Go.RowKit
end Go.Sw
end
section
namespace Go.Sw
open Go.RowKit
theorem veq_Ens (l : List En) : veq (lv encEn l) (lv encEn l) = true := veq_lv fun p _ v hv => by
 simp [encEn] at hv;rcases hv with rfl | rfl | rfl | rfl <;> simp
theorem veq_Is (l : List Int) : veq (lv encI l) (lv encI l) = true := veq_lv fun p _ v hv => by
 simp [encI] at hv;subst hv; simp
theorem veq_Rows (l : List (List Int)) : veq (lv encRow l) (lv encRow l) = true := veq_lv fun p _ v hv => by
 simp [encRow] at hv;subst hv; exact veq_Is p
theorem veq_mach (m : Mach) : veq (machV m) (machV m) = true := veq_boxV (l := [.int .i64 m.classes, tabV m.tab, lv encRow m.rows, lv encEn m.ents]) fun v hv => by
 simp at hv;rcases hv with rfl | rfl | rfl | rfl
 ·simp
 ·exact veq_tab _
 ·exact veq_Rows _
 ·exact veq_Ens _
end Go.Sw
end
section
namespace Go.Sw
open Go.RowKit
end Go.Sw
end
section
namespace Go.Sw
open Go.RowKit
end Go.Sw
end
section
namespace Go.Sw
open Go.RowKit
structure ITab where
 m : Mach
 list : List Int
def hereS (e : En) : Int := if e.a = 65535 then 0 else e.flags / 32 % 32
def markS (e : En) : Int := if e.b = 65535 then 0 else e.flags % 32
def entIn (list : List Int) (e : En) : Bool := (decide (hereS e ≤ 0) || (rowsS list (2 * e.a) (hereS e) 2).isSome) && (decide (markS e ≤ 0) || (rowsS list (2 * e.b) (markS e) 2).isSome)
def insS (b : List Int) (g : Int) : Option ITab := (machS b g 2).bind fun m => (uS b 16 4).bind fun p => (restS b p).bind fun ls => if m.ents.all (entIn ls) then some ⟨m, ls⟩ else none
structure ITab.ok (t : ITab) : Prop where
 m : t.m.ok
 byt : Byt t.list
 len : t.list.length < 2 ^ 31
 has : ∀ e, e ∈ t.m.ents → (0 < hereS e → 2 * e.a + hereS e * 2 ≤ t.list.length) ∧ (0 < markS e → 2 * e.b + markS e * 2 ≤ t.list.length)
theorem insS_ok {b : List Int} (hb : Byt b) {g : Int} (h1 : 1 ≤ g) (h2 : g ≤ 65535) (hl : b.length < 2 ^ 31) {t : ITab} (h : insS b g = some t) : t.ok := by
 unfold insS at h;obtain ⟨m, hm, h⟩ := Option.bind_eq_some_iff.1 h;obtain ⟨p, hp, h⟩ := Option.bind_eq_some_iff.1 h;obtain ⟨ls, hv, h⟩ := Option.bind_eq_some_iff.1 h;split at h
 ·rename_i hc;injection h with h;subst h;have hlen := ζaa hv;refine ⟨machS_ok hb h1 h2 (by omega) hm, hb.rest hv, by dsimp only; omega, fun e he => ?_⟩;have := List.all_eq_true.1 hc e he;unfold entIn at this;rw [Bool.and_eq_true, Bool.or_eq_true, Bool.or_eq_true, decide_eq_true_eq, decide_eq_true_eq] at this;refine ⟨fun h0 => ?_, fun h0 => ?_⟩
  ·rcases this.1 with h | h
   ·omega
   ·obtain ⟨r, hr⟩ := Option.isSome_iff_exists.1 h;have := (ζ6j (by decide)).1 hr;dsimp only; omega
  ·rcases this.2 with h | h
   ·omega
   ·obtain ⟨r, hr⟩ := Option.isSome_iff_exists.1 h;have := (ζ6j (by decide)).1 hr;dsimp only; omega
 ·cases h
def insCl (l : List Gl) (i : Int) : Int := match atG l i with | some g => g.cl | none => ((atG l (i - 1)).getD ⟨0, 0⟩).cl
def insertG (l : List Gl) (i : Int) (ids : List Int) : List Gl := if 0 ≤ i ∧ i ≤ l.length then l.take i.toNat ++ (ids.map (fun x => (⟨x, insCl l i⟩ : Gl)) ++ l.drop i.toNat) else l
theorem ζnu (l : List Gl) (i : Int) (ids : List Int) (h : 0 ≤ i ∧ i ≤ l.length) : (insertG l i ids).length = l.length + ids.length := by
 unfold insertG;rw [if_pos h];simp;omega
def listN (list : List Int) (at_ n : Int) : List Int := (List.range n.toNat).map fun (i : Nat) => gU list (2 * (at_ + (i : Int))) 2
theorem ζd5 (list : List Int) (a n : Int) : (listN list a n).length = n.toNat := by simp [listN]
structure InsSt where
 l : List Gl
 mark : Int
 left : Int
 done : Int
 broke : Bool
def putS (list : List Int) (s : InsSt) (place a n : Int) : InsSt × Bool :=
 if n > s.left then ({ s with broke := true }, false) else ({ s with left := s.left - n, done := s.done + n, l := insertG s.l place (listN list a n) }, decide (0 ≤ place ∧ place ≤ s.l.length))
def markPlace (s : InsSt) (e : En) : Int := if e.flags / 1024 % 2 = 1 then s.mark else s.mark + 1
def act1 (list : List Int) (s : InsSt) (i : Int) (e : En) : InsSt × Int × Bool :=
 if markS e > 0 ∧ s.mark ≥ 0 then
  let r := putS list s (markPlace s e) e.b (markS e)
  if r.2 = false then (r.1, i, false)
  else ({ r.1 with mark := if markPlace s e ≤ r.1.mark then r.1.mark + markS e else r.1.mark }, if markPlace s e ≤ i then i + markS e else i, true)
 else (s, i, true)
def act2 (list : List Int) (s : InsSt) (i : Int) (e : En) : InsSt × Int × Int :=
 let over : Bool := decide (i ≥ s.l.length)
 let own : Int := if hereS e > 0 ∧ e.flags / 2048 % 2 = 1 then i + hereS e else i
 if hereS e > 0 then
  let place : Int := if e.flags / 2048 % 2 = 1 then i else min (i + 1) s.l.length
  let r := putS list s place e.a (hereS e)
  if r.2 = false then (r.1, i, i + 1)
  else
   let mk : Int := if place ≤ r.1.mark then r.1.mark + hereS e else r.1.mark
   ({ r.1 with mark := if e.flags ≥ 32768 ∧ over = false then own else mk }, i, i + hereS e + 1)
 else ({ s with mark := if e.flags ≥ 32768 ∧ over = false then own else s.mark }, i, i + hereS e + 1)
def actI (list : List Int) (s : InsSt) (i : Int) (e : En) : InsSt × Int × Int :=
 if s.broke then (s, i, i + 1)
 else
  let r := act1 list s i e
  if r.2.2 = false then (r.1, i, i + 1) else act2 list r.1 r.2.1 e
end Go.Sw
end
