/-
  Functions' forms, and what is proved of them, part 7.
-/
import Derived.Test.YtnaodjnimkndbabSwW6
import Derived.Test.YtnaodjnimkndbabSwW5
import Derived.Test.YtnaodjnimkndbabSwW1
import Derived.Test.YtnaodjnimkndbabSwLib8
import Derived.Test.YtnaodjnimkndbabSwCfg
import Derived.Tactics
import Derived.Tactics2
import Derived.Defers
import Derived.Recover
import Derived.Laws.Pointers
import Derived.Test.YtnaodjnimkndbabSwW2
set_option linter.unusedSimpArgs false
set_option linter.unusedVariables false
set_option linter.unusedSectionVars false
section
namespace Go.Sw
open Go.RowKit
theorem Star.stAll {H0 H : Heap} {L : List It} (h : Star H0 H L) (i : Nat) {c : Nat} {cells : List Value} {e : Nat} (hi : L[i]? = some (itBlk c ⟨cells, e, false⟩)) (vs : List Value) (n : Nat) (hn : cells.length = n) (hv : vs.length = n) :
  ∃ H', stR n (.pointer (some ⟨c, 0, none⟩)) (.agg vs.toArray) H = .ok undef H' ∧ Star H0 H' (L.set i (itBlk c ⟨vs, e, false⟩)) ∧ H'.n = H.n := by
 have hg := h.get i hi
 refine ⟨H.set c (some ⟨vs, e, false⟩), ?_, h.step i hi (by simp) (fun d _ hd => ?_) _ ?_ fun b hb => .inl hb, by simp⟩
 ·have hd : cells.drop vs.length = [] := by rw [List.drop_eq_nil_iff]; omega
  simp [hg, hv, hd]
  rw [hv] at hd
  rw [if_pos (by omega), hd]
  simp
 ·rw [ζ3b]
  exact fun e => hd (show d ∈ [c] by simp [e])
 ·exact ζ85 _ _ _ (by rw [hg]; rfl)
theorem ζmg (k : Nat) (b : List Int) (hb : Byt b) (i step : Int) (n : Nat) (hi : 0 ≤ i ∧ i < 2 ^ 32) (hs : 0 ≤ step ∧ step ≤ 8) (hn : n < 2 ^ 33) (hl : b.length < 2 ^ 31) (H : Heap) :
  R (T k) F.ζ1g [lv encB b, .int .i64 i, .int .i64 n, .int .i64 step] H = .ok (.int .i64 (needsS b i step n)) H := by
 have hU := fun j H' => refU_run k (H := H') (Sl.lv H' 1 b) hb j 2 (by omega) (by omega)
 rw [ζdc]
 obtain ⟨x, e', H1, hr, rfl, rfl, a, rfl⟩ := loop_up (body := ζ5h k (R (T k))) n
  (fun j e H' => H' = H ∧ e = [(0, lv encB b), (1, .int .i64 i), (2, .int .i64 n), (3, .int .i64 step), (9, .int .i64 (needsS b i step j)), (10, .int .i64 j)])
  (fun x e H' => H' = H ∧ x = .exit 0 ∧ ∃ a, e = [(0, lv encB b), (1, .int .i64 i), (2, .int .i64 n), (3, .int .i64 step), (9, .int .i64 (needsS b i step n)), (10, a), (13, .bool false)])
  (e0 := [(0, lv encB b), (1, .int .i64 i), (2, .int .i64 n), (3, .int .i64 step), (9, .int .i64 0), (10, .int .i64 0)]) (H0 := H) ⟨rfl, rfl⟩ (by omega)
  (fun j e H' hj ⟨hH, he⟩ => by
   subst he hH
   have hlt : (j : Int) < n := by omega
   have hm0 : 0 ≤ (j : Int) * step := Int.mul_nonneg (by omega) hs.1
   have hm1 : (j : Int) * step ≤ 8589934592 * 8 := Int.mul_le_mul (by omega) (by omega) (by omega) (by omega)
   have hu : ∀ H', R (T k) F.ζ1 [lv encB b, .int .i64 (i + (j : Int) * step), .int .i64 2] H' = .ok (.int .i64 (gU b (i + (j : Int) * step) 2)) H' := fun H' => hU _ H'
   have hg := gU_two hb (i + (j : Int) * step)
   have hN : needsS b i step (j + 1) = (if gU b (i + (j : Int) * step) 2 + 1 > needsS b i step j then gU b (i + (j : Int) * step) 2 + 1 else needsS b i step j) := by
    unfold needsS
    rw [List.range_succ, List.map_append, List.map_singleton, ζhn]
    split <;> omega
   refine .inl ⟨_, H', ?_, rfl, rfl⟩
   rw [ζ6g, hN]
   generalize gU b (i + (j : Int) * step) 2 = y at *
   simp -implicitDefEqProofs (disch := omega) [hlt, hu])
  (fun e H' ⟨hH, he⟩ => by
   subst he hH
   refine ⟨.exit 0, _, H', ?_, by simp, rfl, rfl, .int .i64 n, rfl⟩
   rw [ζ6g]
   simp -implicitDefEqProofs)
 refine nrm_gc (Pure.of ?_) (.int _ _)
 simp -implicitDefEqProofs [ζ1g, hr, ζ9k]
abbrev rmCells (b : List Int) (n j q S N w : Int) (tb : List Int) (ps : List RP) : List Value :=
 [lv encB b, .int .i64 n, .int .i64 j, .int .i64 q, .int .i64 S, .int .i64 N, .int .i64 w, lv encB tb, lv encRP ps]
abbrev rmV (r : RMach) : Value := .agg (rmCells r.b r.cl r.rowsAt r.entsAt r.states r.n r.words r.tb r.parts).toArray
theorem Flat.rm (r : RMach) : Flat (rmV r) := .aggL (.cons (Flat.B _) (.cons (.int _ _) (.cons (.int _ _) (.cons (.int _ _) (.cons (.int _ _) (.cons (.int _ _) (.cons (.int _ _) (.cons (Flat.B _) (.cons (Flat.RPs _) .nil)))))))))
abbrev rmZ : RMach := ⟨[], 0, 0, 0, 0, 0, 0, [], []⟩
def rmO (o : Option RMach) : Value := rmV (o.getD rmZ)
abbrev zCells : List Value := [.slice none 0 0, .int .i64 0, .int .i64 0, .int .i64 0, .int .i64 0, .int .i64 0, .int .i64 0, .slice none 0 0, .slice none 0 0]
set_option maxHeartbeats 1000000 in
theorem ζqf (k : Nat) (b : List Int) (hb : Byt b) (hl : b.length < 2 ^ 31) {n w j q : Int} (hn : 4 ≤ n ∧ n ≤ 65535) (hw : 0 ≤ w ∧ w ≤ 2) {rv ev : List Int} (hrv : restS b j = some rv) (hev : restS b q = some ev) (tb : List Int) (ps : List RP) {H0 H : Heap} {z c : Nat}
  (g : Star H0 H [itBlk z ⟨zCells, 1, false⟩, itBlk c ⟨rmCells b n j q 2 0 w tb ps, 1, false⟩]) :
  match closeA rv ev n w 2 with
  | some x => ∃ H' S N, loopN (ζ2s k (R (T k))) loopFuel [(0, lv encB b), (6, ptrV z), (8, ptrV c), (11, .bool true), (12, .int .i64 (4 + 2 * w))] H = .ok (.ret, [(6, ptrV z), (7, .bool true)]) H' ∧ Ext H0 H' ∧ H'.get z = some ⟨rmCells b n j q S N w tb ps, 1, false⟩ ∧ S = x.1.length ∧ N = x.2.length
  | none => ∃ H', loopN (ζ2s k (R (T k))) loopFuel [(0, lv encB b), (6, ptrV z), (8, ptrV c), (11, .bool true), (12, .int .i64 (4 + 2 * w))] H = .ok (.exit 0, [(0, lv encB b), (6, ptrV z), (8, ptrV c), (12, .int .i64 (4 + 2 * w)), (81, .bool false)]) H' ∧ Ext H0 H' ∧ H'.get z = some ⟨zCells, 1, false⟩ := by
 have hj := (ζ37.1 hrv).1
 have hq := (ζ37.1 hev).1
 have hbE := hb.rest hev
 have hbR := hb.rest hrv
 obtain ⟨n, rfl⟩ := Int.eq_ofNat_of_zero_le (show 0 ≤ n by omega)
 have hRows := fun i n z H' => ζ88 k b.length i n z (by omega) (by omega) H'
 obtain ⟨x, e', H1, hr, hQ⟩ := loopDec (body := ζ2s k (R (T k)))
  (fun m e H' => ∃ (S N : Nat) (fl : Bool), e = [(0, lv encB b), (6, ptrV z), (8, ptrV c), (11, .bool fl), (12, .int .i64 (4 + 2 * w))] ∧ 2 ≤ S ∧ S ≤ 65536 ∧ N ≤ 65536 ∧ Star H0 H' [itBlk z ⟨zCells, 1, false⟩, itBlk c ⟨rmCells b n j q S N w tb ps, 1, false⟩] ∧
   (fl = true → m = (65537 - S) * 65538 + (65537 - N) + 1 ∧ closeA rv ev n w 2 = closeA rv ev n w S ∧ ∀ rs, rowsTo rv n S = some rs → (N : Int) ≤ needR rs) ∧ (fl = false → m = 0 ∧ closeA rv ev n w 2 = none))
  (fun x e H' => (∃ (y : List (List Int) × List En) (S N : Int), closeA rv ev n w 2 = some y ∧ x = .ret ∧ e = [(6, ptrV z), (7, .bool true)] ∧ Ext H0 H' ∧ H'.get z = some ⟨rmCells b n j q S N w tb ps, 1, false⟩ ∧ S = y.1.length ∧ N = y.2.length) ∨
   (closeA rv ev n w 2 = none ∧ x = .exit 0 ∧ e = [(0, lv encB b), (6, ptrV z), (8, ptrV c), (12, .int .i64 (4 + 2 * w)), (81, .bool false)] ∧ Ext H0 H' ∧ H'.get z = some ⟨zCells, 1, false⟩))
  ((65537 - 2) * 65538 + 65537 + 1) (e0 := [(0, lv encB b), (6, ptrV z), (8, ptrV c), (11, .bool true), (12, .int .i64 (4 + 2 * w))]) (H0 := H) ⟨2, 0, true, rfl, by omega, by omega, by omega, g, fun _ => ⟨rfl, rfl, fun rs _ => ζ78 rs⟩, fun h => by cases h⟩ (by omega)
  (fun m e H' ⟨S, N, fl, he, hS2, hS6, hN6, g, ht, hf⟩ => by
   subst he
   cases fl with
   | false =>
    obtain ⟨hm, hc⟩ := hf rfl
    refine .inr ⟨.exit 0, _, H', ?_, by simp, .inr ⟨hc, rfl, rfl, g.ext, g.get 0 rfl⟩⟩
    rw [ζ1n]
    simp -implicitDefEqProofs
   | true =>
    obtain ⟨hm, hc, hNle⟩ := ht rfl
    clear hf ht
    have hcA := ζlv (rv := rv) hbE (n := (n : Int)) (w := w) hS6
    have hM := g.get 1 rfl
    have hcn : ¬ c = H'.n := by have := Heap.get_lt hM; omega
    have e0 : stR 9 (.pointer (some ⟨H'.n, 0, none⟩)) (.agg (rmCells b n j q S N w tb ps).toArray) (H'.push ⟨zCells, 1, false⟩) = .ok undef (H'.push ⟨rmCells b n j q S N w tb ps, 1, false⟩) := by simp
    have g1 := g.push ⟨rmCells b n j q S N w tb ps, 1, false⟩
    obtain ⟨P, hP⟩ : ∃ P, P = H'.push ⟨rmCells b n j q S N w tb ps, 1, false⟩ := ⟨_, rfl⟩
    rw [← hP] at g1 e0
    simp only [List.cons_append, List.nil_append] at g1
    have hMP := g1.get 1 rfl
    have hWP := g1.get 2 rfl
    have hre := ζox hrv (show (0 : Int) < n by omega) (s := S) (by omega)
    have hR1 := fun H' => hRows j S (2 * n) H'
    cases hrt : rowsTo rv n S with
    | none =>
     rw [hrt] at hre
     simp at hre
     rw [hre] at hR1
     rw [hrt] at hcA
     refine .inl ⟨0, _, P, ?_, by omega, S, N, false, rfl, hS2, hS6, hN6, g1.take 2, (fun h => by cases h), fun _ => ⟨rfl, by rw [hc, hcA]; rfl⟩⟩
     rw [ζ1n]
     simp -implicitDefEqProofs (disch := omega) [-stR_ptr, hM, e0, hMP, hR1, ζas, ζ6u]
    | some rs =>
     rw [hrt] at hre
     simp at hre
     rw [hre] at hR1
     rw [hrt, Option.bind_some] at hcA
     have hrl : rs.length = S := by have := mapO_len hrt; simpa using this
     have hneed := ζow hrv (show (0 : Int) < n by omega) hrt
     have hNle := hNle rs hrt
     have hn6 := ζd6 hbR hrt
     have hn0 := ζ78 rs
     have hSn : (S : Int) * (n : Int) = ((S * n : Nat) : Int) := by simp
     have hSnb : S * n ≤ 65536 * 65535 := Nat.mul_le_mul (by omega) (by omega)
     rw [Int.toNat_natCast] at hneed
     have hnr := fun H' => ζmg k b hb j 2 (S * n) (by omega) (by omega) (by omega) hl H'
     rw [hneed, ← hSn] at hnr
     obtain ⟨N', hN'⟩ : ∃ N' : Nat, (N' : Int) = needR rs := ⟨(needR rs).toNat, by omega⟩
     have hmx : (if needR rs > N then needR rs else (N : Int)) = (N' : Int) := by rw [hN']; split <;> omega
     obtain ⟨P2, e2, g2, _⟩ := g1.stCell 1 rfl 5 (v := .int .i64 N') rfl rfl (by simp)
     simp only [List.set_cons_zero, List.set_cons_succ] at g2
     have hMP2 := g2.get 1 rfl
     have hWP2 := g2.get 2 rfl
     have hR2 := fun H' => hRows q N' (4 + 2 * w) H'
     have hee := ζo9 hev hw.1 N'
     have hb1 : (S : Int) * (n : Int) ≤ 65536 * 65535 := by omega
     have hb0 : 0 ≤ (S : Int) * (n : Int) := by omega
     rw [show (needR rs).toNat = N' by omega] at hcA
     cases het : entsTo ev w N' with
     | none =>
      rw [het] at hee
      simp at hee
      rw [hee] at hR2
      rw [het] at hcA
      refine .inl ⟨0, _, P2, ?_, by omega, S, N', false, rfl, hS2, hS6, by omega, g2.take 2, (fun h => by cases h), fun _ => ⟨rfl, by rw [hc, hcA]; rfl⟩⟩
      rw [ζ1n]
      simp -implicitDefEqProofs (disch := omega) [-stR_ptr, hM, e0, hMP, hR1, hnr, hmx, e2, hMP2, hR2, ζ3a, ζ6u]
     | some es =>
      rw [het] at hee
      simp at hee
      rw [hee] at hR2
      rw [het, Option.bind_some] at hcA
      have hel : es.length = N' := by have := mapO_len het; simpa using this
      have hE := needE_le hbE het
      have hneed2 := ζo8 hev hw het
      have hnr2 := fun H' => ζmg k b hb q (4 + 2 * w) N' (by omega) (by omega) (by omega) hl H'
      rw [hneed2] at hnr2
      obtain ⟨S', hS'⟩ : ∃ S' : Nat, (S' : Int) = max (S : Int) (needE es) := ⟨(max (S : Int) (needE es)).toNat, by omega⟩
      have hEe : needE es = max 2 (needL (es.map En.next)) := rfl
      have hmx2 : (if needL (es.map En.next) > S then needL (es.map En.next) else (S : Int)) = (S' : Int) := by rw [hS', hEe]; split <;> omega
      have hL6 : needL (es.map En.next) ≤ 65536 := by omega
      obtain ⟨P3, e3, g3, _⟩ := g2.stCell 1 rfl 4 (v := .int .i64 S') rfl rfl (by simp)
      simp only [List.set_cons_zero, List.set_cons_succ] at g3
      have hMP3 := g3.get 1 rfl
      have hWP3 := g3.get 2 rfl
      by_cases hsame : S' = S ∧ N' = N
      ·obtain ⟨rfl, rfl⟩ := hsame
       rw [if_pos (by omega)] at hcA
       obtain ⟨P4, e4, g4, _⟩ := g3.stAll 0 rfl (rmCells b n j q S' N' w tb ps) 9 rfl rfl
       simp only [List.set_cons_zero, List.set_cons_succ] at g4
       refine .inr ⟨.ret, _, P4, ?_, by simp, .inl ⟨_, S', N', by rw [hc, hcA], rfl, rfl, g4.ext, g4.get 0 rfl, by rw [hrl], by rw [hel]⟩⟩
       rw [ζ1n]
       simp -implicitDefEqProofs (disch := omega) [-stR_ptr, hM, e0, hMP, hR1, hnr, hmx, e2, hMP2, hR2, ζ3a, hnr2, hmx2, e3, hMP3, hWP3, ζ4d, e4]
      ·refine .inl ⟨(65537 - S') * 65538 + (65537 - N') + 1, _, P3, ?_, ?_, S', N', true, rfl, by omega, by omega, by omega, g3.take 2, fun _ => ⟨rfl, ?_, ?_⟩, fun h => by cases h⟩
       ·by_cases hs1 : S' = S
        ·have hs2 : ((N' : Int) == (N : Int)) = false := by simp; omega
         subst hs1
         rw [ζ1n]
         simp -implicitDefEqProofs (disch := omega) [-stR_ptr, hM, e0, hMP, hR1, hnr, hmx, e2, hMP2, hR2, ζ3a, hnr2, hmx2, e3, hMP3, hWP3, ζ4d, hs2]
        ·have hs2 : ((S' : Int) == (S : Int)) = false := by simp; omega
         rw [ζ1n]
         simp -implicitDefEqProofs (disch := omega) [-stR_ptr, hM, e0, hMP, hR1, hnr, hmx, e2, hMP2, hR2, ζ3a, hnr2, hmx2, e3, hMP3, hWP3, ζ4d, hs2]
       ·omega
       ·rw [hc]
        by_cases hcl : (needE es).toNat ≤ S
        ·rw [show S' = S by omega]
        ·rw [hcA, if_neg hcl, show S' = (needE es).toNat by omega]
       ·intro rt hrt2
        have := ζom (s := S) (t := S') (by omega) hrt hrt2
        omega)
 rcases hQ with ⟨y, S, N, h1, rfl, rfl, h2, h3, h4⟩ | ⟨h1, rfl, rfl, h2, h3⟩
 ·rw [h1]; exact ⟨H1, S, N, hr, h2, h3, h4⟩
 ·rw [h1]; exact ⟨H1, hr, h2, h3⟩
end Go.Sw
end
section
namespace Go.Sw
open Go.RowKit
theorem gU_four {b : List Int} (hb : Byt b) (i : Int) : -1 ≤ gU b i 4 ∧ gU b i 4 < 4294967296 := by
 unfold gU
 cases h : uS b i 4 with
 | none => simp
 | some x => have := uS_four hb h; simp; omega
theorem gU_lt {b : List Int} {i : Int} (h : ¬ gU b i 4 < 0) : uS b i 4 = some (gU b i 4) := by
 unfold gU at h ⊢
 cases hu : uS b i 4 with
 | none => rw [hu] at h; simp at h
 | some x => rfl
set_option maxHeartbeats 1000000 in
theorem ζll (k : Nat) (b : List Int) (hb : Byt b) (g w : Int) (hg : 1 ≤ g ∧ g ≤ 65535) (hw : w = 0 ∨ w = 1 ∨ w = 2) (hl : b.length < 2 ^ 31) (H : Heap) :
  R (T k) F.ζ5 [lv encB b, .int .i64 g, .int .i64 w] H = .ok (.tuple #[rmO (refMachS b g w), .bool (refMachS b g w).isSome]) H := by
 rw [ζgj]
 have hU := fun j H' => refU_run k (H := H') (Sl.lv H' 1 b) hb j 4 (by omega) (by omega)
 have u0 : ∀ H', R (T k) F.ζ1 [lv encB b, .int .i64 0, .int .i64 4] H' = .ok (.int .i64 (gU b 0 4)) H' := fun H' => hU _ H'
 have u4 : ∀ H', R (T k) F.ζ1 [lv encB b, .int .i64 4, .int .i64 4] H' = .ok (.int .i64 (gU b 4 4)) H' := fun H' => hU _ H'
 have u8 : ∀ H', R (T k) F.ζ1 [lv encB b, .int .i64 8, .int .i64 4] H' = .ok (.int .i64 (gU b 8 4)) H' := fun H' => hU _ H'
 have u12 : ∀ H', R (T k) F.ζ1 [lv encB b, .int .i64 12, .int .i64 4] H' = .ok (.int .i64 (gU b 12 4)) H' := fun H' => hU _ H'
 have b0 := gU_four hb 0
 have b4 := gU_four hb 4
 have b8 := gU_four hb 8
 have b12 := gU_four hb 12
 have fl : ∀ o : Option RMach, Flat (.tuple #[rmO o, .bool o.isSome]) := fun o => .tupleL (.cons (Flat.rm _) (.cons (.bool _) .nil))
 obtain ⟨n, hn⟩ : ∃ n, gU b 0 4 = n := ⟨_, rfl⟩
 obtain ⟨i, hi⟩ : ∃ i, gU b 4 4 = i := ⟨_, rfl⟩
 obtain ⟨j, hj⟩ : ∃ j, gU b 8 4 = j := ⟨_, rfl⟩
 obtain ⟨q, hq⟩ : ∃ q, gU b 12 4 = q := ⟨_, rfl⟩
 rw [hn] at u0 b0
 rw [hi] at u4 b4
 rw [hj] at u8 b8
 rw [hq] at u12 b12
 obtain ⟨M1, hM1⟩ : ∃ M1 : Blk, M1 = ⟨[lv encB b, .int .i64 n, .int .i64 j, .int .i64 q, .int .i64 2, .int .i64 0, .int .i64 w, .slice none 0 0, .slice none 0 0], 1, false⟩ := ⟨_, rfl⟩
 have hx2 : Ext H ((H.push ⟨zCells, 1, false⟩).push M1) := ((Ext.refl H).push _).push _
 -- one thing is not as it should be
 have no : machS b g w = none → ζ5 k (R (T k)) (lv encB b) (.int .i64 g) (.int .i64 w) H = .ok (.tuple #[.agg zCells.toArray, .bool false]) ((H.push ⟨zCells, 1, false⟩).push M1) → nrm .fz H (ζ5 k (R (T k)) (lv encB b) (.int .i64 g) (.int .i64 w) H) = .ok (.tuple #[rmO (refMachS b g w), .bool (refMachS b g w).isSome]) H := fun h1 h2 => by
  have : refMachS b g w = none := by unfold refMachS; rw [h1]; rfl
  rw [this]
  exact nrm_fz (L := []) h2 rfl hx2 (fl none).alive
 have n0 : ∀ m, machS b g w = some m → (4 ≤ n ∧ n ≤ 65535) ∧ 0 ≤ i ∧ i ≤ b.length ∧ 0 ≤ j ∧ j ≤ b.length ∧ 0 ≤ q ∧ q ≤ b.length := fun m hm => by
  obtain ⟨i', j', q', tb, rv, ev, x, h0, h1, h2, h3, h4, h5, h6, h7, h8, h9, _⟩ := ζd0 hm
  have e0 := gU_some h0
  have e3 := gU_some h3
  have e6 := gU_some h6
  have e8 := gU_some h8
  rw [hn] at e0
  rw [hi] at e3
  rw [hj] at e6
  rw [hq] at e8
  have r4 := (ζ37.1 h4).1
  have r7 := (ζ37.1 h7).1
  have r9 := (ζ37.1 h9).1
  omega
 have nn : ¬ ((4 ≤ n ∧ n ≤ 65535) ∧ 0 ≤ i ∧ i ≤ b.length ∧ 0 ≤ j ∧ j ≤ b.length ∧ 0 ≤ q ∧ q ≤ b.length) → machS b g w = none := fun h => by
  cases hm : machS b g w with
  | none => rfl
  | some m => exact absurd (n0 m hm) h
 by_cases c1 : n < 4
 ·refine no (nn (by omega)) ?_
  rw [hM1]
  simp -implicitDefEqProofs (disch := omega) [ζ5, u0, u4, u8, u12, c1]
 by_cases c2 : n > 65535
 ·refine no (nn (by omega)) ?_
  rw [hM1]
  simp -implicitDefEqProofs (disch := omega) [ζ5, u0, u4, u8, u12, c1, c2]
 by_cases c3 : j < 0
 ·refine no (nn (by omega)) ?_
  rw [hM1]
  simp -implicitDefEqProofs (disch := omega) [ζ5, u0, u4, u8, u12, c1, c2, c3]
 by_cases c4 : q < 0
 ·refine no (nn (by omega)) ?_
  rw [hM1]
  simp -implicitDefEqProofs (disch := omega) [ζ5, u0, u4, u8, u12, c1, c2, c3, c4]
 by_cases c5 : j > b.length
 ·refine no (nn (by omega)) ?_
  rw [hM1]
  simp -implicitDefEqProofs (disch := omega) [ζ5, u0, u4, u8, u12, c1, c2, c3, c4, c5]
 by_cases c6 : q > b.length
 ·refine no (nn (by omega)) ?_
  rw [hM1]
  simp -implicitDefEqProofs (disch := omega) [ζ5, u0, u4, u8, u12, c1, c2, c3, c4, c5, c6]
 by_cases c7 : i < 0
 ·refine no (nn (by omega)) ?_
  rw [hM1]
  simp -implicitDefEqProofs (disch := omega) [ζ5, u0, u4, u8, u12, c1, c2, c3, c4, c5, c6, c7]
 by_cases c8 : i > b.length
 ·refine no (nn (by omega)) ?_
  rw [hM1]
  simp -implicitDefEqProofs (disch := omega) [ζ5, u0, u4, u8, u12, c1, c2, c3, c4, c5, c6, c7, c8]
 clear no nn n0
 have hU0 := gU_lt (b := b) (i := 0) (by omega)
 have hU4 := gU_lt (b := b) (i := 4) (by omega)
 have hU8 := gU_lt (b := b) (i := 8) (by omega)
 have hU12 := gU_lt (b := b) (i := 12) (by omega)
 rw [hn] at hU0
 rw [hi] at hU4
 rw [hj] at hU8
 rw [hq] at hU12
 obtain ⟨tb, htb⟩ : ∃ tb, tb = b.drop i.toNat := ⟨_, rfl⟩
 have r4 : restS b i = some tb := ζ37.2 ⟨by omega, htb⟩
 have r8 : restS b j = some (b.drop j.toNat) := ζ37.2 ⟨by omega, rfl⟩
 have r12 : restS b q = some (b.drop q.toNat) := ζ37.2 ⟨by omega, rfl⟩
 have hsl := fun H' => slS_lv encB_len b (some (.int .i64 i)) none none i.toNat b.length b.length (by unfold boundOf; dsimp only; rw [if_pos (by omega)]) rfl rfl (fun h => by cases h) (by omega) (Nat.le_refl _) (Nat.le_refl _) H'
 rw [List.take_length, ← htb] at hsl
 have htbb : Byt tb := hb.rest r4
 have htbl : tb.length < 2 ^ 31 := by rw [htb]; simp; omega
 have hrd := fun H' => ζoq k tb htbb g 2 hg (.inl rfl) htbl H'
 have hlr := look_ref htbb hg.1 hg.2 (.inl rfl : (2 : Int) = 2 ∨ (2 : Int) = 4)
 have hmach : machS b g w = (lookS tb g 2).bind fun tab => (closeA (b.drop j.toNat) (b.drop q.toNat) n w 2).map fun x => ⟨n, tab, x.1, x.2⟩ := by
  unfold machS
  rw [hU0, Option.bind_some, if_pos (by omega), hU4, Option.bind_some, r4, Option.bind_some]
  congr 1
  funext tab
  rw [hU8, Option.bind_some, r8, Option.bind_some, hU12, Option.bind_some, r12, Option.bind_some]
 cases hlk : lookS tb g 2 with
 | none =>
  have hm : refMachS b g w = none := by unfold refMachS; rw [hmach, hlk]; rfl
  rw [hm]
  have hrr := hlr.2 hlk
  rw [hrr] at hrd
  simp only [tabRO, Option.isSome_none] at hrd
  obtain ⟨x, e', H1, hr, rfl, rfl, rfl⟩ := loopDec (body := ζ2s k (R (T k)))
   (fun m e H' => H' = (((H.push ⟨zCells, 1, false⟩).push ⟨rmCells b n j q 2 0 w [] [], 1, false⟩).push ⟨[lv encB [], lv encRP []], 1, false⟩) ∧ e = [(0, lv encB b), (6, ptrV H.n), (8, ptrV (H.n + 1)), (11, .bool false), (12, .int .i64 (4 + 2 * w))])
   (fun x e H' => H' = (((H.push ⟨zCells, 1, false⟩).push ⟨rmCells b n j q 2 0 w [] [], 1, false⟩).push ⟨[lv encB [], lv encRP []], 1, false⟩) ∧ x = .exit 0 ∧ e = [(0, lv encB b), (6, ptrV H.n), (8, ptrV (H.n + 1)), (12, .int .i64 (4 + 2 * w)), (81, .bool false)])
   0 (e0 := [(0, lv encB b), (6, ptrV H.n), (8, ptrV (H.n + 1)), (11, .bool false), (12, .int .i64 (4 + 2 * w))]) (H0 := (((H.push ⟨zCells, 1, false⟩).push ⟨rmCells b n j q 2 0 w [] [], 1, false⟩).push ⟨[lv encB [], lv encRP []], 1, false⟩)) ⟨rfl, rfl⟩ (by omega)
   (fun m e H' ⟨hH, he⟩ => by
    subst hH he
    refine .inr ⟨.exit 0, _, _, ?_, by simp, rfl, rfl, rfl⟩
    rw [ζ1n]
    simp -implicitDefEqProofs)
  refine nrm_fz (L := []) (v := .tuple #[.agg zCells.toArray, .bool false]) (H' := ((H.push ⟨zCells, 1, false⟩).push ⟨rmCells b n j q 2 0 w [] [], 1, false⟩).push ⟨[lv encB [], lv encRP []], 1, false⟩) ?_ rfl ((((Ext.refl H).push _).push _).push _) (fl none).alive
  simp -implicitDefEqProofs (disch := omega) [ζ5, u0, u4, u8, u12, c1, c2, c3, c4, c5, c6, c7, c8, hsl, hrd, hr, ζ6f]
 | some tab =>
  obtain ⟨ps, hps, hrel⟩ := hlr.1 tab hlk
  rw [hps] at hrd
  simp only [tabRO, Option.isSome_some] at hrd
  have st := ((Star.nil H).push ⟨zCells, 1, false⟩).push ⟨rmCells b n j q 2 0 w tb ps, 1, false⟩
  have st := st.rest ((Ext.refl _).push ⟨[lv encB tb, lv encRP ps], 1, false⟩)
  have hlp := ζqf k b hb hl (n := n) (w := w) (by omega) (by omega) r8 r12 tb ps (by simpa using st)
  cases hcl : closeA (b.drop j.toNat) (b.drop q.toNat) n w 2 with
  | none =>
   have hm : refMachS b g w = none := by unfold refMachS; rw [hmach, hlk, Option.bind_some, hcl]; rfl
   rw [hm]
   rw [hcl] at hlp
   obtain ⟨H2, hr, hx, hz⟩ := hlp
   have hgs : (H2.set H.n (some ⟨zCells, 1, false⟩)).get H.n = some ⟨zCells, 1, false⟩ := ζ85 _ _ _ (by rw [hz]; rfl)
   have hx3 : Ext H (H2.set H.n (some ⟨zCells, 1, false⟩)) := ⟨by simpa using hx.1, fun d hd hs => by rw [ζ3b _ _ _ _ (by omega)]; exact hx.2 d hd hs⟩
   refine nrm_fz (L := []) (v := .tuple #[.agg zCells.toArray, .bool false]) (H' := H2.set H.n (some ⟨zCells, 1, false⟩)) ?_ rfl hx3 (fl none).alive
   simp -implicitDefEqProofs (disch := omega) [ζ5, u0, u4, u8, u12, c1, c2, c3, c4, c5, c6, c7, c8, hsl, hrd, hr, ζ6f, hz, hgs]
  | some x =>
   have hm : refMachS b g w = some (rmOf b g w ⟨n, tab, x.1, x.2⟩) := by unfold refMachS; rw [hmach, hlk, Option.bind_some, hcl]; rfl
   rw [hm]
   rw [hcl] at hlp
   obtain ⟨H2, S, N, hr, hx, hz, rfl, rfl⟩ := hlp
   have hrm : rmO (some (rmOf b g w ⟨n, tab, x.1, x.2⟩)) = .agg (rmCells b n j q x.1.length x.2.length w tb ps).toArray := by
    unfold rmO rmOf
    rw [hj, hq, hi, ← htb, hps]
    rfl
   have fl2 := fl (some (rmOf b g w ⟨n, tab, x.1, x.2⟩))
   rw [hrm] at fl2 ⊢
   refine nrm_fz (L := []) (v := .tuple #[.agg (rmCells b n j q x.1.length x.2.length w tb ps).toArray, .bool true]) (H' := H2) ?_ rfl hx fl2.alive
   simp -implicitDefEqProofs (disch := omega) [ζ5, u0, u4, u8, u12, c1, c2, c3, c4, c5, c6, c7, c8, hsl, hrd, hr, ζat, hz]
theorem mach_at {b : List Int} (hb : Byt b) {g w : Int} (hw : 0 ≤ w ∧ w ≤ 2) {m : Mach} (h : machS b g w = some m) :
  (0 ≤ gU b 8 4 ∧ gU b 8 4 ≤ b.length) ∧ (0 ≤ gU b 12 4 ∧ gU b 12 4 ≤ b.length) ∧
  (∀ (i : Nat) e, m.ents[i]? = some e → e = ⟨gU b (gU b 12 4 + (i : Int) * (4 + 2 * w)) 2, gU b (gU b 12 4 + (i : Int) * (4 + 2 * w) + 2) 2, if 0 < w then gU b (gU b 12 4 + (i : Int) * (4 + 2 * w) + 4) 2 else 0, if 1 < w then gU b (gU b 12 4 + (i : Int) * (4 + 2 * w) + 6) 2 else 0⟩) ∧
  ∀ (s c : Nat) r x, m.rows[s]? = some r → r[c]? = some x → x = gU b (gU b 8 4 + (m.classes * s + (c : Nat)) * 2) 2 := by
 obtain ⟨i, j, q, tb, rv, ev, x, h0, h1, h2, h3, h4, h5, h6, h7, h8, h9, h10, h11, h12⟩ := ζd0 h
 have e6 := gU_some h6
 have e8 := gU_some h8
 rw [e6, e8]
 obtain ⟨c1, c2, c3, c4, c5, c6, c7, _⟩ := ζjm (hb.rest h7) (hb.rest h9) (by omega) hw _ _ x (by omega) (by omega) h10
 refine ⟨(ζ37.1 h7).1, (ζ37.1 h9).1, fun i e he => ?_, fun s c r x' hr hx => ?_⟩
 ·rw [h12] at he
  obtain ⟨y, g1, g2⟩ := mapO_at c7 (List.getElem?_eq_some_iff.1 he).1
  rw [he] at g2
  injection g2 with g2
  subst g2
  exact ent_at h9 hw g1
 ·rw [h11] at hr
  obtain ⟨y, g1, g2⟩ := mapO_at c6 (List.getElem?_eq_some_iff.1 hr).1
  rw [hr] at g2
  injection g2 with g2
  subst g2
  have hra := row_at h7 (by omega) g1
  have hlt := (List.getElem?_eq_some_iff.1 hx).1
  rw [hra] at hx hlt
  simp at hlt
  rw [List.getElem?_map, List.getElem?_range (by omega)] at hx
  injection hx with hx
  exact hx.symm
theorem ζkb (k : Nat) {b : List Int} (hb : Byt b) {g w : Int} (hw : w = 0 ∨ w = 1 ∨ w = 2) (hl : b.length < 2 ^ 31) {m : Mach} (h : machS b g w = some m) {i : Int} (hi0 : 0 ≤ i) (hi6 : i ≤ 65536) {e : En} (he : m.ents[i.toNat]? = some e) (H : Heap) :
  R (T k) F.ζd [rmV (rmOf b g w m), .int .i64 i] H = .ok (.agg (encEn e).toArray) H := by
 obtain ⟨_, hq, hat, _⟩ := mach_at hb (by omega) h
 have he := hat _ _ he
 clear hat
 obtain ⟨i, rfl⟩ := Int.eq_ofNat_of_zero_le hi0
 rw [Int.toNat_natCast] at he
 obtain ⟨p, hp⟩ : ∃ p, p = gU b 12 4 + (i : Int) * (4 + 2 * w) := ⟨_, rfl⟩
 have hm0 : 0 ≤ (i : Int) * (4 + 2 * w) := Int.mul_nonneg (by omega) (by omega)
 have hm1 : (i : Int) * (4 + 2 * w) ≤ 65536 * 8 := Int.mul_le_mul (by omega) (by omega) (by omega) (by omega)
 have hU := fun j H' => refU_run k (H := H') (Sl.lv H' 1 b) hb j 2 (by omega) (by omega)
 have hu : ∀ j H', R (T k) F.ζ1 [lv encB b, .int .i64 j, .int .i64 2] H' = .ok (.int .i64 (gU b j 2)) H' := fun j H' => hU j H'
 rw [ζdb]
 rw [← hp] at he
 have hx : Ext H (((H.push ⟨rmCells b m.classes (gU b 8 4) (gU b 12 4) m.rows.length m.ents.length w (b.drop (gU b 4 4).toNat) ((refReadS (b.drop (gU b 4 4).toNat) g 2).getD []), 1, false⟩).push ⟨encEn e, 1, false⟩).push ⟨encEn e, 1, false⟩) := (((Ext.refl H).push _).push _).push _
 refine nrm_gc ⟨_, ?_, hx⟩ (Flat.ofEn e).alive
 subst he
 unfold rmOf
 rcases hw with rfl | rfl | rfl
 ·simp -implicitDefEqProofs at hm0 hm1 hp
  simp -implicitDefEqProofs (disch := omega) [ζd, ← hp, hu, ζ9w, ζ6e]
 ·simp -implicitDefEqProofs at hm0 hm1 hp
  simp -implicitDefEqProofs (disch := omega) [ζd, ← hp, hu, ζ6d, ζ6e]
 ·simp -implicitDefEqProofs at hm0 hm1 hp
  simp -implicitDefEqProofs (disch := omega) [ζd, ← hp, hu, ζ6d, ζ9x]
theorem ζnz (k : Nat) {b : List Int} (hb : Byt b) {g w : Int} (hg : 1 ≤ g ∧ g ≤ 65535) (hl : b.length < 2 ^ 31) {m : Mach} (hm : m.ok) (h : machS b g w = some m) (id : Int) (H : Heap) :
  R (T k) F.ζ1v [rmV (rmOf b g w m), .int .i64 id] H = .ok (.int .i64 (classS m id)) H := by
 obtain ⟨i, j, q, tb, rv, ev, x, h0, h1, h2, h3, h4, h5, _⟩ := ζd0 h
 have e3 := gU_some h3
 obtain ⟨hi, htb⟩ := ζ37.1 h4
 have htbb : Byt tb := hb.rest h4
 have htbl := ζ91 h4
 obtain ⟨ps, hps, hrel⟩ := (look_ref htbb hg.1 hg.2 (.inl rfl : (2 : Int) = 2 ∨ (2 : Int) = 4)).1 _ h5
 have hget := fun H' => ζpz k tb htbb ps (ζos htbb hg (.inl rfl) hps) (ζng htbb hg (.inl rfl) h5 hps) (by omega) id H'
 rw [← get_ref (id := id) hrel hm.pts hm.rise] at hget
 have hrm : rmV (rmOf b g w m) = .agg (rmCells b m.classes (gU b 8 4) (gU b 12 4) m.rows.length m.ents.length w tb ps).toArray := by
  unfold rmOf
  rw [e3, ← htb, hps]
  rfl
 rw [hrm, ζda]
 refine nrm_gc ⟨_, ?_, (Ext.refl H).push ⟨rmCells b m.classes (gU b 8 4) (gU b 12 4) m.rows.length m.ents.length w tb ps, 1, false⟩⟩ (.int _ _)
 unfold classS
 by_cases h : id = 65535
 ·subst h
  simp -implicitDefEqProofs (disch := omega) [ζ1v]
 ·have h' : (id == 65535) = false := by simpa using h
  rw [if_neg h]
  cases hg : getS m.tab.2 id with
  | none =>
   rw [hg] at hget
   simp -implicitDefEqProofs (disch := omega) [ζ1v, h', hget]
  | some x =>
   rw [hg] at hget
   dsimp only
   by_cases hx : x < m.classes
   ·have hx' : ¬ x ≥ m.classes := by omega
    simp -implicitDefEqProofs (disch := omega) [ζ1v, h', hget, hx, hx']
   ·have hx' : x ≥ m.classes := by omega
    simp -implicitDefEqProofs (disch := omega) [ζ1v, h', hget, hx, hx']
end Go.Sw
end
section
namespace Go.Sw
theorem row_I {r : List Da} {cs : List Value} (h : LayRow [.int .i64] r cs) : ∃ n : Int, cs = encI n ∧ (Lit.int .i64 n).wf = true := by
 obtain ⟨d, v, ds, vs, rfl, h1, h2⟩ := h.head
 obtain rfl := h2.done
 obtain ⟨n, rfl, w⟩ := h1.intv
 exact ⟨n, rfl, w⟩
theorem wf_u8 {n : Int} (h : (Lit.int .u8 n).wf = true) : 0 ≤ n ∧ n < 256 := by
 simp [Lit.wf, IntKind.min, IntKind.max, IntKind.signed, IntKind.bits] at h
 omega
theorem row_B {r : List Da} {cs : List Value} (h : LayRow [.int .u8] r cs) : ∃ n : Int, cs = encB n ∧ (0 ≤ n ∧ n < 256) := by
 obtain ⟨d, v, ds, vs, rfl, h1, h2⟩ := h.head
 obtain rfl := h2.done
 obtain ⟨n, rfl, w⟩ := h1.intv
 exact ⟨n, rfl, wf_u8 w⟩
theorem arg_B {v : Value} (h : ArgLay (.one (.slice [.int .u8])) v) : ∃ b, v = lv encB b ∧ Byt b := by
 obtain ⟨d, h1⟩ := h.cell
 obtain ⟨b, rfl, hb⟩ := Lay.list (enc := encB) (ok := fun n => 0 ≤ n ∧ n < 256) (fun r cs h => row_B h) h1
 exact ⟨b, rfl, hb⟩
theorem arg_I {v : Value} (h : ArgLay (.one (.slice [.int .i64])) v) : ∃ l, v = lv encI l ∧ ∀ n, n ∈ l → (Lit.int .i64 n).wf = true := by
 obtain ⟨d, h1⟩ := h.cell
 exact Lay.list (enc := encI) (ok := fun n => (Lit.int .i64 n).wf = true) (fun r cs h => row_I h) h1
theorem arg_i {k : IntKind} {v : Value} (h : ArgLay (.one (.int k)) v) : ∃ n, v = .int k n ∧ (Lit.int k n).wf = true := by
 obtain ⟨d, h1⟩ := h.cell
 exact h1.intv
end Go.Sw
end
section
namespace Go.Sw
open Go.RowKit
theorem veq_RP (l : List RP) : veq (lv encRP l) (lv encRP l) = true := veq_lv fun p _ v hv => by
 simp [encRP] at hv
 rcases hv with rfl | rfl | rfl | rfl | rfl <;> simp
theorem veq_rm (r : RMach) : veq (rmV r) (rmV r) = true := veq_agg fun v hv => by
 simp [rmCells] at hv
 rcases hv with rfl | rfl | rfl | rfl | rfl | rfl | rfl | rfl | rfl
 ·simp
 ·simp
 ·simp
 ·simp
 ·simp
 ·simp
 ·simp
 ·simp
 ·exact veq_RP _
theorem ζqo (k : Nat) {b : List Int} (hb : Byt b) {g w : Int} (hw : w = 0 ∨ w = 1 ∨ w = 2) (hl : b.length < 2 ^ 31) {m : Mach} (hm : m.ok) (h : machS b g w = some m) (s c : Int) (H : Heap) :
  R (T k) F.ζ1p [rmV (rmOf b g w m), .int .i64 s, .int .i64 c] H = .ok (.tuple #[encEA (stepS m s c), .bool (stepS m s c).isSome]) H := by
 rw [ζgk]
 have fl : Flat (.tuple #[encEA (stepS m s c), .bool (stepS m s c).isSome]) := .tupleL (.cons (ζhe _) (.cons (.bool _) .nil))
 have no : ¬ (0 ≤ s ∧ s < m.rows.length ∧ 0 ≤ c ∧ c < m.classes) → stepS m s c = none := fun h => by unfold stepS; rw [if_neg h]
 have hx1 : Ext H (H.push ⟨rmCells b m.classes (gU b 8 4) (gU b 12 4) m.rows.length m.ents.length w (b.drop (gU b 4 4).toNat) ((refReadS (b.drop (gU b 4 4).toNat) g 2).getD []), 1, false⟩) := (Ext.refl H).push _
 have hx := hx1.push ⟨[.int .i64 0, .int .i64 0, .int .i64 0, .int .i64 0], 1, false⟩
 obtain ⟨r, hr⟩ : ∃ r, r = rmOf b g w m := ⟨_, rfl⟩
 have hent := fun i h0 h6 e he H => ζkb k hb (g := g) hw hl h (i := i) h0 h6 (e := e) he H
 rw [← hr] at hent ⊢
 have r1 : r.states = m.rows.length := by rw [hr]; rfl
 have r2 : r.cl = m.classes := by rw [hr]; rfl
 have r3 : r.rowsAt = gU b 8 4 := by rw [hr]; rfl
 have r4 : r.b = b := by rw [hr]; rfl
 have hx1 : Ext H (H.push ⟨rmCells r.b r.cl r.rowsAt r.entsAt r.states r.n r.words r.tb r.parts, 1, false⟩) := (Ext.refl H).push _
 have hx := hx1.push ⟨[.int .i64 0, .int .i64 0, .int .i64 0, .int .i64 0], 1, false⟩
 have hcl := hm.cl
 by_cases h1 : s < 0
 ·rw [no (by omega)] at fl ⊢
  refine nrm_gc ⟨_, ?_, hx⟩ fl.alive
  simp -implicitDefEqProofs (disch := omega) [ζ1p, h1, encEA]
 by_cases h2 : s ≥ m.rows.length
 ·rw [no (by omega)] at fl ⊢
  refine nrm_gc ⟨_, ?_, hx⟩ fl.alive
  simp -implicitDefEqProofs (disch := omega) [ζ1p, h1, h2, r1, encEA]
 by_cases h3 : c < 0
 ·rw [no (by omega)] at fl ⊢
  refine nrm_gc ⟨_, ?_, hx⟩ fl.alive
  simp -implicitDefEqProofs (disch := omega) [ζ1p, h1, h2, h3, r1, encEA]
 by_cases h4 : c ≥ m.classes
 ·rw [no (by omega)] at fl ⊢
  refine nrm_gc ⟨_, ?_, hx⟩ fl.alive
  simp -implicitDefEqProofs (disch := omega) [ζ1p, h1, h2, h3, h4, r1, r2, encEA]
 obtain ⟨row, x, e, hrow, hxx, hx0, he, hs⟩ := ζi6 hm (s := s) (c := c) (by omega)
 rw [hs] at fl ⊢
 obtain ⟨hj, _, _, hat⟩ := mach_at hb (by omega) h
 have hpos := hat s.toNat c.toNat row x hrow hxx
 have hxm := (hm.row row (List.mem_of_getElem? hrow)).2 x (List.mem_of_getElem? hxx)
 have hel := hm.elen
 have htwo := hm.two
 obtain ⟨s, rfl⟩ := Int.eq_ofNat_of_zero_le (show 0 ≤ s by omega)
 obtain ⟨c, rfl⟩ := Int.eq_ofNat_of_zero_le (show 0 ≤ c by omega)
 simp only [Int.toNat_natCast] at hpos
 have hm0 : 0 ≤ (s : Int) * m.classes := Int.mul_nonneg (by omega) (by omega)
 have hm1 : (s : Int) * m.classes ≤ 65536 * 65535 := Int.mul_le_mul (by omega) (by omega) (by omega) (by omega)
 have hpe : gU b 8 4 + (m.classes * (s : Int) + (c : Nat)) * 2 = gU b 8 4 + 2 * ((s : Int) * m.classes + (c : Int)) := by rw [Int.mul_comm m.classes]; omega
 rw [hpe] at hpos
 have hU := fun j H' => refU_run k (H := H') (Sl.lv H' 1 b) hb j 2 (by omega) (by omega)
 have hu : ∀ H', R (T k) F.ζ1 [lv encB b, .int .i64 (gU b 8 4 + 2 * ((s : Int) * m.classes + (c : Int))), .int .i64 2] H' = .ok (.int .i64 x) H' := fun H' => by
  rw [hU]; unfold gU at hpos; rw [hpos]; rfl
 have he' := hent x hx0 (by omega) e he
 have hq := veq_rm r
 refine nrm_gc ⟨(H.push ⟨rmCells r.b r.cl r.rowsAt r.entsAt r.states r.n r.words r.tb r.parts, 1, false⟩).push ⟨encEn e, 1, false⟩, ?_, hx1.push _⟩ fl.alive
 simp only [rmV, rmCells, r1, r2, r3, r4] at he' hq ⊢
 simp -implicitDefEqProofs (disch := omega) at he' hq ⊢
 simp -implicitDefEqProofs (disch := omega) [ζ1p, h1, h2, h3, h4, hu, he', hq, encEA]
end Go.Sw
end
section
namespace Go.Sw
open Go.RowKit
end Go.Sw
end
section
namespace Go.Sw
open Go.RowKit
variable {σ : Type}
def DoOk (k : Nat) (m : Mach) (H0 : Heap) (W : σ → List It) (Inv : σ → Prop) (a : Value) (g : σ → Int → En → σ) : Prop :=
 ∀ s i e H X, Inv s → Star H0 H (W s ++ X) → 0 ≤ i → i < 2 ^ 50 → e ∈ m.ents →
  ∃ v H', callV (R (T k)) a [.int .i64 i, encE e] H = .ok v H' ∧ Star H0 H' (W (g s i e) ++ X) ∧ Inv (g s i e)
theorem plain_ok (k : Nat) {m : Mach} {H0 : Heap} {W : σ → List It} {Inv : σ → Prop} {a : Value} {g : σ → Int → En → σ} (h : DoOk k m H0 W Inv a g) (p : Nat) :
  ActOk k m H0 (fun s => W s ++ [itBlk p ⟨[a], 1, false⟩]) Inv (.func (.func F.ζ24) #[] #[ptrV p]) (fun s i e => (g s i e, i, i + 1)) := by
 intro s i e H X hI st h0 h1 he
 have st2 := st.push ⟨encEn e, 1, false⟩
 have hp := st2.memBlk (c := p) (k := ⟨[a], 1, false⟩) (by simp)
 have hpn : ¬ p = H.n := by have := Heap.get_lt (st.memBlk (c := p) (k := ⟨[a], 1, false⟩) (by simp)); omega
 obtain ⟨v, H', e1, st3, hI2⟩ := h s i e (H.push ⟨encEn e, 1, false⟩) ([itBlk p ⟨[a], 1, false⟩] ++ X ++ [itBlk H.n ⟨encEn e, 1, false⟩]) hI (by simpa [List.append_assoc] using st2) h0 h1 he
 have st4 : Star H0 H' (W (g s i e) ++ [itBlk p ⟨[a], 1, false⟩] ++ X) := by
  have : W (g s i e) ++ ([itBlk p ⟨[a], 1, false⟩] ++ X ++ [itBlk H.n ⟨encEn e, 1, false⟩]) = (W (g s i e) ++ [itBlk p ⟨[a], 1, false⟩] ++ X) ++ [itBlk H.n ⟨encEn e, 1, false⟩] := by simp
  rw [this] at st3
  exact st3.ζjo
 refine ⟨H', ?_, st4, hI2, by dsimp only; omega, by dsimp only; omega⟩
 simp only [callV, List.nil_append, List.cons_append]
 rw [ζg4, nrm_of]
 simp -implicitDefEqProofs (disch := omega) [ζ24, hp, hpn, e1]
end Go.Sw
end
section
namespace Go.Sw
open Go.RowKit Go.Proofs
set_option maxRecDepth 20000 in
theorem ζn0 (p : Addr) (b : Bool) (w : World) (hc : (w.alloc (.cells #[] 200)).cell? p = some (.bool b)) (hz : (w.alloc (.cells #[] 200)).frozen? p = false) :
  CallsD Prog 105 #[.pointer (some p)] (.panicking [{ v := .iface 200 (.agg #[]), recovered := false }]) w fun e u' w' =>
   e = .returned (.tuple #[]) ∧ u' = .panicking [{ v := .iface 200 (.agg #[]), recovered := true }] ∧ w' = (w.alloc (.cells #[] 200)).setCell p (.bool false) := by
 refine callsD_of_wpS Try.func105 rfl fun c₀ cs hu => ?_
 apply wpS_seq
 apply wpS_region
 simp [wpOpsS, go_sem, recoverD, hu, Try.ntmps105, Exit.thenS]
 have hta : ∀ w, (Instr.typeAssert (.iface 200 (.agg #[])) 20 200 true).run Prog w = .ok (.tuple #[.agg #[], .bool true]) w := fun w => by kernel_rfl
 refine wpS_of_wp ?_
 go_wp2
 cases c₀
 simp_all [bodyPostS, results, Try.results105]
theorem ζnx (p : Addr) (w : World) :
  CallsD Prog 105 #[.pointer (some p)] .returning w fun e u' w' => e = .returned (.tuple #[]) ∧ u' = .returning ∧ w' = w := by
 refine callsD_of_wpS Try.func105 rfl fun c₀ cs hu => ?_
 apply wpS_seq
 apply wpS_region
 simp [wpOpsS, go_sem, recoverD, hu, Try.ntmps105, Exit.thenS]
 refine wpS_of_wp ?_
 go_wp2
 cases c₀
 simp_all [bodyPostS, results, Try.results105]
set_option maxRecDepth 20000 in
theorem try_walk (g : FuncId) (first cap : Array Value) (w : World) (R : Ending → World → Prop)
  (hcf : (callFunc g (first ++ cap)).run Prog (w.alloc (.cells #[.bool false] 4)) = .ok (.enter g (first ++ cap)) (w.alloc (.cells #[.bool false] 4)))
  (hcall : Calls Prog g (first ++ cap) (w.alloc (.cells #[.bool false] 4)) fun e w' => match e with
   | .returned _ => w'.heap[w.heap.size]? = some (.cells #[.bool false] 4 (0, 0)) ∧ R (.returned (.bool true)) (w'.setCell ⟨w.heap.size, 0, none⟩ (.bool true))
   | .panicked chain => chain = [{ v := .iface 200 (.agg #[]), recovered := false }] ∧ w'.heap[w.heap.size]? = some (.cells #[.bool false] 4 (0, 0)) ∧ R (.returned (.bool false)) ((w'.alloc (.cells #[] 200)).setCell ⟨w.heap.size, 0, none⟩ (.bool false))
   | .outgrown => False) :
  Calls Prog 35 #[.func (.func g) first cap] w R := by
 have hmf : ∀ (fn : Fn) (first cap : Array Value) (w : World), (Instr.makeFunc fn first cap).run Prog w = .ok (.func fn first cap) w := fun _ _ _ _ => rfl
 go_enter_defers Try.func35, Try.ntmps35
 go_wp2
 rename_i K2 hK2 K1 hK1
 refine hcall.mono fun e w' he => ?_
 cases e with
 | returned v =>
  obtain ⟨h1, h2⟩ := he
  have hc : w'.cell? ⟨w.heap.size, 0, none⟩ = some (.bool false) := by simp [World.cell?, h1]
  have hz : w'.frozen? ⟨w.heap.size, 0, none⟩ = false := by simp [World.frozen?, h1]
  apply hK1
  apply hK2
  go_wp2
  have hc2 : (w'.setCell ⟨w.heap.size, 0, none⟩ (.bool true)).cell? ⟨w.heap.size, 0, none⟩ = some (.bool true) := World.cell?_setCell_same _ _ _ hc
  refine leaves_cons (f := 105) (args := #[.pointer (some ⟨w.heap.size, 0, none⟩)]) (by simp) (by simp [go_sem]) ?_
  refine (ζnx ⟨w.heap.size, 0, none⟩ _).mono ?_
  rintro e u' w'' ⟨rfl, rfl, rfl⟩
  simp [Leaves, settle, results, Try.results35, go_sem, hc2]
  exact h2
 | panicked chain =>
  obtain ⟨h0, h1, h2⟩ := he
  subst h0
  have hlt : w.heap.size < w'.heap.size := by
   rcases Nat.lt_or_ge w.heap.size w'.heap.size with h | h
   ·exact h
   ·rw [Array.getElem?_eq_none h] at h1; cases h1
  have h3 : (w'.alloc (.cells #[] 200)).heap[w.heap.size]? = some (.cells #[.bool false] 4 (0, 0)) := by
   rw [ζ2y _ _ _ hlt]; exact h1
  have hc : (w'.alloc (.cells #[] 200)).cell? ⟨w.heap.size, 0, none⟩ = some (.bool false) := by simp only [World.cell?, h3]; rfl
  have hz : (w'.alloc (.cells #[] 200)).frozen? ⟨w.heap.size, 0, none⟩ = false := by simp [World.frozen?, h3]
  have hc2 : ((w'.alloc (.cells #[] 200)).setCell ⟨w.heap.size, 0, none⟩ (.bool false)).cell? ⟨w.heap.size, 0, none⟩ = some (.bool false) := World.cell?_setCell_same _ _ _ hc
  show Leaves _ _ _ _ _ _ _
  refine leaves_cons (f := 105) (args := #[.pointer (some ⟨w.heap.size, 0, none⟩)]) (by simp) (by simp [go_sem]) ?_
  refine (ζn0 ⟨w.heap.size, 0, none⟩ false _ hc hz).mono ?_
  rintro e u' w'' ⟨rfl, rfl, rfl⟩
  simp [Leaves, settle, results, Try.results35, go_sem, hc2]
  exact h2
 | outgrown => exact he.elim
theorem try_is : SpIs Prog 35 (tryV 200) := try_of (bt := 4) Try.func35 rfl (by kernel_rfl) try_walk
end Go.Sw
end
section
namespace Go.Sw
open Go.RowKit
structure CTab.ok (t : CTab) : Prop where
 m : t.m.ok
 subs : ∀ x, x ∈ t.subs → (∀ p, p ∈ x.2 → p.ok) ∧ risesS x.2 = true ∧ x.2.length < 2 ^ 31
 has : ∀ e, e ∈ t.m.ents → (e.a = 65535 ∨ e.a < t.subs.length) ∧ (e.b = 65535 ∨ e.b < t.subs.length)
end Go.Sw
end
section
namespace Go.Sw
open Go.RowKit
end Go.Sw
end
section
namespace Go.Sw
open Go.RowKit
variable {σ : Type}
theorem runD_inv (m : Mach) (hm : m.ok) (ln : σ → List Gl) (f : σ → Int → En → σ × Int × Int) (P : σ → Prop) (hf : ∀ s i e, P s → 0 ≤ i → e ∈ m.ents → P (f s i e).1) (most : Int) :
  ∀ (n : Nat) (x : σ × Drv), P x.1 → 0 ≤ x.2.pl → 0 ≤ x.2.st → x.2.st < m.rows.length → P (runD m ln f most n x).2.2
 | 0, x, h, _, _, _ => h
 | n + 1, x, h, hp, h0, h1 => by
  have hmem := entS_mem hm (ln x.1) x.2 ⟨h0, h1⟩
  have hent := hm.ent _ hmem
  have hP : P (stepD m ln f x).1.1 := by unfold stepD; split <;> exact hf _ _ _ h hp hmem
  have hst : 0 ≤ (stepD m ln f x).1.2.st ∧ (stepD m ln f x).1.2.st < m.rows.length := by unfold stepD; split <;> exact ⟨hent.1, hent.2.1⟩
  have hpl := stepD_pl m ln f x
  unfold runD
  split
  ·split
   ·exact hP
   ·split
    ·exact hP
    ·exact runD_inv m hm ln f P hf most n _ hP hpl hst.1 hst.2
  ·exact h
end Go.Sw
end
section
namespace Go.Sw
open Go.RowKit
end Go.Sw
end
section
namespace Go.Sw
open Go.RowKit
end Go.Sw
end
section
set_option maxRecDepth 100000
set_option linter.unusedVariables false
namespace Go.Sw
noncomputable section
def ζt (k : Nat) (call : Caller) (a0 a1 a2 : Value) (h : Heap) : Res Value :=
 (call F.ζ2x [] h).bind fun v1 h2 =>
 (unR .not v1 h2).bind fun v3 h4 =>
 condV (some v3) (
 .ok (.bool false) h4)
 (
 (builtinV Prog .len [22] [a0] h4).bind fun v5 h6 =>
 (binR Prog .gtr 3 v5 (.int .i64 800) h6).bind fun v7 h8 =>
 ((bif wantVal v7 false then Res.ok a2 h8 else Res.ok undef h8)).bind fun v9 h10 =>
 ((bif wantVal v7 false then builtinV Prog .len [27] [v9] h10 else Res.ok undef h10)).bind fun v11 h12 =>
 ((bif wantVal v7 false then binR Prog .gtr 3 v11 (.int .i64 60) h12 else Res.ok undef h12)).bind fun v13 h14 =>
 (condV (some v7) (Res.ok (.bool true) h14) (Res.ok v13 h14)).bind fun v15 h16 =>
 condV (some v15) (
 .ok (.bool true) h16)
 (
 (call F.ζ59 [a0, a1] h16).bind fun v17 h18 =>
 (extractR v17 0 h18).bind fun v19 h20 =>
 (extractR v17 1 h20).bind fun v21 h22 =>
 (binR Prog .lss 3 a1 (.int .i64 1) h22).bind fun v23 h24 =>
 ((bif wantVal v23 false then Res.ok a1 h24 else Res.ok undef h24)).bind fun v25 h26 =>
 ((bif wantVal v23 false then binR Prog .gtr 3 v25 (.int .i64 65535) h26 else Res.ok undef h26)).bind fun v27 h28 =>
 (condV (some v23) (Res.ok (.bool true) h28) (Res.ok v27 h28)).bind fun v29 h30 =>
 condV (some v29) (
 (binR Prog .eql 34 v21 (.int .i64 1) h30).bind fun v31 h32 =>
 ((bif wantVal v31 true then Res.ok v19 h32 else Res.ok undef h32)).bind fun v33 h34 =>
 ((bif wantVal v31 true then binR Prog .eql 72 v33 (.pointer none) h34 else Res.ok undef h34)).bind fun v35 h36 =>
 (condV (some v31) (Res.ok v35 h36) (Res.ok (.bool false) h36)).bind fun v37 h38 =>
 .ok v37 h38)
 (
 (call F.ζu [a0, a1] h30).bind fun v39 h40 =>
 (extractR v39 0 h40).bind fun v41 h42 =>
 (extractR v39 1 h42).bind fun v43 h44 =>
 (allocR Prog 76 h44).bind fun v45 h46 =>
 (storeR Prog 76 v45 v41 h46).bind fun _v47 h48 =>
 (unR .not v43 h48).bind fun v49 h50 =>
 condV (some v49) (
 (binR Prog .eql 34 v21 (.int .i64 2) h50).bind fun v51 h52 =>
 ((bif wantVal v51 true then Res.ok v19 h52 else Res.ok undef h52)).bind fun v53 h54 =>
 ((bif wantVal v51 true then binR Prog .eql 72 v53 (.pointer none) h54 else Res.ok undef h54)).bind fun v55 h56 =>
 (condV (some v51) (Res.ok v55 h56) (Res.ok (.bool false) h56)).bind fun v57 h58 =>
 .ok v57 h58)
 (
 (binR Prog .neq 34 v21 (.int .i64 0) h50).bind fun v59 h60 =>
 ((bif wantVal v59 false then Res.ok v19 h60 else Res.ok undef h60)).bind fun v61 h62 =>
 ((bif wantVal v59 false then binR Prog .eql 72 v61 (.pointer none) h62 else Res.ok undef h62)).bind fun v63 h64 =>
 (condV (some v59) (Res.ok (.bool true) h64) (Res.ok v63 h64)).bind fun v65 h66 =>
 condV (some v65) (
 .ok (.bool false) h66)
 (
 (call F.ζ17 [a2] h66).bind fun v67 h68 =>
 (call F.ζ56 [(.int .i64 0), v67] h68).bind fun v69 h70 =>
 (call F.line_New [a2] h70).bind fun v71 h72 =>
 (call F.ζ3s [v19, v71, v69, (.bool false)] h72).bind fun v73 h74 =>
 (loadR Prog 76 v45 h74).bindN fun v75 h76 =>
 (call F.ζ2m [a2] h76).bindT (fun p79 h80 => .panic p79 h80) fun v77 h78 =>
 (call F.ζ17 [a2] h78).bindT (fun p83 h84 => chkR ((okVal (loadR Prog 76 v45 h78) v75 && true) && true) (.panic p83 h84)) fun v81 h82 =>
 (call F.ζ2n [v81] h82).bindT (fun p87 h88 => chkR ((okVal (loadR Prog 76 v45 h78) v75 && (okVal (loadR Prog 76 v45 h82) v75 && true)) && true) (.panic p87 h88)) fun v85 h86 =>
 (call F.ζ0 [v75, v77, v85, (.bool false), (.bool false)] h86).bindT (fun p91 h92 => chkR ((okVal (loadR Prog 76 v45 h78) v75 && (okVal (loadR Prog 76 v45 h82) v75 && (okVal (loadR Prog 76 v45 h86) v75 && true))) && true) (.panic p91 h92)) fun v89 h90 =>
 (extractR v89 0 h90).bindN fun v93 h94 =>
 (extractR v89 1 h94).bindN fun v95 h96 =>
 chkR ((okVal (loadR Prog 76 v45 h78) v75 && (okVal (loadR Prog 76 v45 h82) v75 && (okVal (loadR Prog 76 v45 h86) v75 && true))) && true) (
 (binR Prog .eql 3 v73 v95 h96).bind fun v97 h98 =>
 ((bif wantVal v97 true then Res.ok v69 h98 else Res.ok undef h98)).bind fun v99 h100 =>
 ((bif wantVal v97 true then call F.ζ2u [v99] h100 else Res.ok undef h100)).bind fun v101 h102 =>
 ((bif wantVal v97 true then Res.ok v93 h102 else Res.ok undef h102)).bind fun v103 h104 =>
 ((bif wantVal v97 true then call F.ζ1j [v101, v103] h104 else Res.ok undef h104)).bind fun v105 h106 =>
 (condV (some v97) (Res.ok v105 h106) (Res.ok (.bool false) h106)).bind fun v107 h108 =>
 .ok v107 h108))))))
theorem ζ9i (k : Nat) (a0 a1 a2 : Value) (h : Heap) : R (T k) F.ζt [a0, a1, a2] h = nrm .gc h (ζt k (R (T k)) a0 a1 a2 h) :=
 (R_body (t := T k) (T_scott k) (by kernel_rfl) (by kernel_rfl) _ _).trans (by kernel_rfl)
def ζ47 (k : Nat) (call : Caller) : Env → Heap → Res (AExit × Env) := loopB (C k) call F.ζ17 [1, 1, 0, 1, 0, 0]
def ζ5n (k : Nat) (call : Caller) : Kont Value := kBlock 0 (kSeq (pieceK (C k) call F.ζ17 [1, 1, 1]) (kDone Prog (resOf Prog F.ζ17)))
def ζ17 (k : Nat) (call : Caller) (a0 : Value) (h : Heap) : Res Value :=
 (builtinV Prog .len [27] [a0] h).bind fun v1 h2 =>
 (loopN (ζ47 k call) loopFuel [(3, (.slice none 0 0)), (6, v1), (7, (.int .i64 0))] h2).bind fun r3 h4 =>
 ζ5n k call r3.1 r3.2 h4
theorem ζam (k : Nat) (a0 : Value) (h : Heap) : R (T k) F.ζ17 [a0] h = nrm .fz h (ζ17 k (R (T k)) a0 h) :=
 (R_body (t := T k) (T_scott k) (by kernel_rfl) (by kernel_rfl) _ _).trans (by kernel_rfl)
theorem ζ52 (k : Nat) (call : Caller) (a3 a6 a7 : Value) (h : Heap) : ζ47 k call [(3, a3), (6, a6), (7, a7)] h =
 (binR Prog .lss 3 a7 a6 h).bind fun v5 h6 =>
 condV (some v5) (
 (binR Prog .mul 3 (.int .i64 100) a7 h6).bind fun v7 h8 =>
 (buildSliceR Prog 27 1 [(0, v7)] h8).bind fun v9 h10 =>
 (builtinV Prog .append [27, 27] [a3, v9] h10).bind fun v11 h12 =>
 (binR Prog .add 3 a7 (.int .i64 1) h12).bind fun v13 h14 =>
 .ok (.normal, [(3, v11), (6, a6), (7, v13)]) h14)
 (
 .ok ((.exit 0), [(3, a3), (6, a6), (7, a7), (8, v5)]) h6) :=
 (loopB_eq _ _).trans (by kernel_rfl)
theorem ζ7x (k : Nat) (call : Caller) (a3 a6 a7 a8 : Value) (h : Heap) : ζ5n k call (.exit 0) [(3, a3), (6, a6), (7, a7), (8, a8)] h =
 .ok a3 h := by kernel_rfl
end
end Go.Sw
end
section
namespace Go.Sw
open Go.RowKit
structure SPlan where
 p : Plan
 vals : List Int
def SPlan.ok (x : SPlan) : Prop := x.p.ok
def SSmall (x : SPlan) (n : Nat) : Prop := x.p.cls.length ≤ 40 ∧ x.p.rows.length ≤ 20 ∧ x.p.ents.length ≤ 40 ∧ x.vals.length ≤ 100 ∧ n ≤ 60
instance (x : SPlan) (n : Nat) : Decidable (SSmall x n) := by unfold SSmall; exact inferInstance
theorem ζlo (k : Nat) (hk : k % 1000000 = F.ζ2x) (H : Heap) : R (T k) F.ζ2x [] H = .ok (.bool true) H :=
 (R_sp (t := T k) (T_scott k) (s := constSp (.bool true)) (by unfold T C; dsimp only; rw [hk]; kernel_rfl) [] H).trans (nrm_gc (Pure.of rfl) (.bool _))
def advL (n : Nat) : List Int := (List.range n).map fun (i : Nat) => 100 * (i : Int)
theorem advL_len (n : Nat) : (advL n).length = n := by simp [advL]
theorem ζpd (n : Nat) : advL (n + 1) = advL n ++ [100 * (n : Int)] := by simp [advL, List.range_succ]
theorem ζlf (k : Nat) (ids : List Int) (hl : ids.length < 2 ^ 30) (H : Heap) : R (T k) F.ζ17 [lv encI ids] H = .ok (lv encI (advL ids.length)) H := by
 rw [ζam]
 have st := (Star.nil H).more_row (Ext.refl H) (OwnO.nil encI H 1) (fun b hb => by cases hb)
 simp only [List.nil_append] at st
 obtain ⟨xx, e', H1, hr, rfl, s, o, rfl, g⟩ := loop_up (body := ζ47 k (R (T k))) ids.length
  (fun j e H' => ∃ s o, e = [(3, s), (6, .int .i64 ids.length), (7, .int .i64 j)] ∧ Star H H' [itRow o 1 s encI (advL j)])
  (fun xx e H' => xx = .exit 0 ∧ ∃ s o, e = [(3, s), (6, .int .i64 ids.length), (7, .int .i64 ids.length), (8, .bool false)] ∧ Star H H' [itRow o 1 s encI (advL ids.length)])
  (e0 := [(3, .slice none 0 0), (6, .int .i64 ids.length), (7, .int .i64 0)]) (H0 := H) ⟨_, none, rfl, st⟩ (by omega)
  (fun j e H' hj ⟨s, o, he, g⟩ => by
   subst he
   have hjl : (j : Int) < ids.length := by omega
   obtain ⟨s2, o2, H2, e2, g2⟩ := g.append1 (bytes := 8) 0 encI_len rfl (100 * (j : Int)) (by rw [advL_len]; omega) (by decide)
   simp only [List.set_cons_zero] at g2
   rw [← ζpd] at g2
   refine .inl ⟨_, H2, ?_, s2, o2, rfl, g2⟩
   rw [ζ52]
   simp -implicitDefEqProofs (disch := omega) [hjl, e2])
  (fun e H' ⟨s, o, he, g⟩ => by
   subst he
   refine ⟨.exit 0, _, H', ?_, by simp, rfl, s, o, rfl, g⟩
   rw [ζ52]
   simp -implicitDefEqProofs)
 obtain ⟨L, hf⟩ := (g.own 0 rfl).freeze encI_len (fun n hn v hv => ζ80 _ n hn v hv) 6
 refine nrm_fz (v := s) (H' := H1) ?_ hf g.ext (Flat.I _).alive
 simp -implicitDefEqProofs [ζ17, hr, ζ7x]
end Go.Sw
end
section
set_option maxRecDepth 100000
set_option linter.unusedVariables false
namespace Go.Sw
noncomputable section
def ζbf (k : Nat) (call : Caller) : Env → Heap → Res (AExit × Env) := loopB (C k) call F.ζ56 [1, 1, 0, 1, 0, 0]
def ζg0 (k : Nat) (call : Caller) : Kont Value := kBlock 0 (kSeq (pieceK (C k) call F.ζ56 [1, 1, 1]) (kDone Prog (resOf Prog F.ζ56)))
def ζ56 (k : Nat) (call : Caller) (a0 a1 : Value) (h : Heap) : Res Value :=
 (binR Prog .eql 3 a0 (.int .i64 2) h).bind fun v1 h2 =>
 (buildR Prog 210 [(0, v1)] h2).bind fun v3 h4 =>
 (boxR v3 h4).bind fun v5 h6 =>
 (builtinV Prog .len [27] [a1] h6).bind fun v7 h8 =>
 (loopN (ζbf k call) loopFuel [(5, v5), (12, a1), (13, v7), (14, (.int .i64 0))] h8).bind fun r9 h10 =>
 ζg0 k call r9.1 r9.2 h10
theorem ζnd (k : Nat) (a0 a1 : Value) (h : Heap) : R (T k) F.ζ56 [a0, a1] h = nrm .no h (ζ56 k (R (T k)) a0 a1 h) :=
 (R_body (t := T k) (T_scott k) (by kernel_rfl) (by kernel_rfl) _ _).trans (by kernel_rfl)
theorem ζb6 (k : Nat) (call : Caller) (a5 a12 a13 a14 : Value) (h : Heap) : ζbf k call [(5, a5), (12, a12), (13, a13), (14, a14)] h =
 (binR Prog .lss 3 a14 a13 h).bind fun v11 h12 =>
 condV (some v11) (
 (indexAddrR Prog 27 a12 a14 h12).bind fun v13 h14 =>
 (loadR Prog 3 v13 h14).bind fun v15 h16 =>
 (nilR a5 h16).bindN fun v17 h18 =>
 (fieldAddrR Prog 210 v17 1 h18).bindN fun v19 h20 =>
 (loadR Prog 70 v19 h20).bindN fun v21 h22 =>
 (call F.ζ4u [v15] h22).bindT (fun p25 h26 => .panic p25 h26) fun v23 h24 =>
 (buildR Prog 91 [(0, v23)] h24).bindN fun v27 h28 =>
 (buildSliceR Prog 70 1 [(0, v27)] h28).bindN fun v29 h30 =>
 (builtinV Prog .append [70, 70] [v21, v29] h30).bindN fun v31 h32 =>
 (nilR a5 h32).bindN fun v33 h34 =>
 (fieldAddrR Prog 210 v33 1 h34).bindN fun v35 h36 =>
 (storeR Prog 70 v35 v31 h36).bindN fun _v37 h38 =>
 chkR ((okVal (loadR Prog 70 v19 h24) v21 && (okVal (loadR Prog 70 v19 h30) v21 && true)) && true) (
 (binR Prog .add 3 a14 (.int .i64 1) h38).bind fun v39 h40 =>
 .ok (.normal, [(5, a5), (12, a12), (13, a13), (14, v39)]) h40))
 (
 .ok ((.exit 0), [(5, a5), (12, a12), (13, a13), (14, a14), (15, v11)]) h12) :=
 (loopB_eq _ _).trans (by kernel_rfl)
theorem ζhr (k : Nat) (call : Caller) (a5 a12 a13 a14 a15 : Value) (h : Heap) : ζg0 k call (.exit 0) [(5, a5), (12, a12), (13, a13), (14, a14), (15, a15)] h =
 .ok a5 h := by kernel_rfl
def ζ2u (k : Nat) (call : Caller) (a0 : Value) (h : Heap) : Res Value :=
 (nilR a0 h).bind fun v1 h2 =>
 (fieldAddrR Prog 210 v1 1 h2).bind fun v3 h4 =>
 (loadR Prog 70 v3 h4).bind fun v5 h6 =>
 (call F.ζa [v5] h6).bind fun v7 h8 =>
 .ok v7 h8
theorem ζd4 (k : Nat) (a0 : Value) (h : Heap) : R (T k) F.ζ2u [a0] h = nrm (own k) h (ζ2u k (R (T k)) a0 h) :=
 (R_body (t := T k) (T_scott k) (by kernel_rfl) (by kernel_rfl) _ _).trans (by kernel_rfl)
def ζ1s (k : Nat) (call : Caller) (a0 a1 a2 : Value) (h : Heap) : Res Value :=
 (call F.ζ27 [a0, a1] h).bind fun v1 h2 =>
 (nilR v1 h2).bind fun v3 h4 =>
 (fieldAddrR Prog 91 v3 0 h4).bind fun v5 h6 =>
 (loadR Prog 21 v5 h6).bind fun v7 h8 =>
 (call F.ζ90 [v7, a2] h8).bind fun v9 h10 =>
 (nilR v1 h10).bind fun v11 h12 =>
 (fieldAddrR Prog 91 v11 0 h12).bind fun v13 h14 =>
 (storeR Prog 21 v13 v9 h14).bind fun _v15 h16 =>
 .ok (.tuple #[]) h16
theorem ζbg (k : Nat) (a0 a1 a2 : Value) (h : Heap) : R (T k) F.ζ1s [a0, a1, a2] h = nrm .no h (ζ1s k (R (T k)) a0 a1 a2 h) :=
 (R_body (t := T k) (T_scott k) (by kernel_rfl) (by kernel_rfl) _ _).trans (by kernel_rfl)
def ζ4u (k : Nat) (call : Caller) (a0 : Value) (h : Heap) : Res Value :=
 (builtinV Prog .max [3, 3] [a0, (.int .i64 (-2147483648))] h).bind fun v1 h2 =>
 (builtinV Prog .min [3, 3] [v1, (.int .i64 2147483647)] h2).bind fun v3 h4 =>
 (convR Prog 3 21 v3 h4).bind fun v5 h6 =>
 .ok v5 h6
theorem ζku (k : Nat) (a0 : Value) (h : Heap) : R (T k) F.ζ4u [a0] h = nrm .gc h (ζ4u k (R (T k)) a0 h) :=
 (R_body (t := T k) (T_scott k) (by kernel_rfl) (by kernel_rfl) _ _).trans (by kernel_rfl)
def ζ27 (k : Nat) (call : Caller) (a0 a1 : Value) (h : Heap) : Res Value :=
 (binR Prog .lss 3 a1 (.int .i64 0) h).bind fun v1 h2 =>
 ((bif wantVal v1 false then Res.ok a1 h2 else Res.ok undef h2)).bind fun v3 h4 =>
 ((bif wantVal v1 false then Res.ok a0 h4 else Res.ok undef h4)).bind fun v5 h6 =>
 ((bif wantVal v1 false then nilR v5 h6 else Res.ok undef h6)).bind fun v7 h8 =>
 ((bif wantVal v1 false then fieldAddrR Prog 210 v7 1 h8 else Res.ok undef h8)).bind fun v9 h10 =>
 ((bif wantVal v1 false then loadR Prog 70 v9 h10 else Res.ok undef h10)).bind fun v11 h12 =>
 ((bif wantVal v1 false then builtinV Prog .len [70] [v11] h12 else Res.ok undef h12)).bind fun v13 h14 =>
 ((bif wantVal v1 false then binR Prog .geq 3 v3 v13 h14 else Res.ok undef h14)).bind fun v15 h16 =>
 (condV (some v1) (Res.ok (.bool true) h16) (Res.ok v15 h16)).bind fun v17 h18 =>
 condV (some v17) (
 (allocR Prog 91 h18).bind fun v19 h20 =>
 .ok v19 h20)
 (
 (nilR a0 h18).bind fun v21 h22 =>
 (fieldAddrR Prog 210 v21 1 h22).bind fun v23 h24 =>
 (loadR Prog 70 v23 h24).bind fun v25 h26 =>
 (indexAddrR Prog 70 v25 a1 h26).bind fun v27 h28 =>
 .ok v27 h28)
theorem ζg6 (k : Nat) (a0 a1 : Value) (h : Heap) : R (T k) F.ζ27 [a0, a1] h = nrm .no h (ζ27 k (R (T k)) a0 a1 h) :=
 (R_body (t := T k) (T_scott k) (by kernel_rfl) (by kernel_rfl) _ _).trans (by kernel_rfl)
def ζ90 (k : Nat) (call : Caller) (a0 a1 : Value) (h : Heap) : Res Value :=
 (convR Prog 21 3 a0 h).bind fun v1 h2 =>
 (call F.ζ4u [a1] h2).bind fun v3 h4 =>
 (convR Prog 21 3 v3 h4).bind fun v5 h6 =>
 (binR Prog .add 3 v1 v5 h6).bind fun v7 h8 =>
 (call F.ζ4u [v7] h8).bind fun v9 h10 =>
 .ok v9 h10
theorem ζnc (k : Nat) (a0 a1 : Value) (h : Heap) : R (T k) F.ζ90 [a0, a1] h = nrm .gc h (ζ90 k (R (T k)) a0 a1 h) :=
 (R_body (t := T k) (T_scott k) (by kernel_rfl) (by kernel_rfl) _ _).trans (by kernel_rfl)
def ζ1l (k : Nat) (call : Caller) (a0 a1 : Value) (h : Heap) : Res Value :=
 (call F.ζ2i [a0, a1] h).bind fun v1 h2 =>
 (nilR v1 h2).bind fun v3 h4 =>
 (storeR Prog 21 v3 (.int .i32 0) h4).bind fun _v5 h6 =>
 .ok (.tuple #[]) h6
theorem ζbh (k : Nat) (a0 a1 : Value) (h : Heap) : R (T k) F.ζ1l [a0, a1] h = nrm .no h (ζ1l k (R (T k)) a0 a1 h) :=
 (R_body (t := T k) (T_scott k) (by kernel_rfl) (by kernel_rfl) _ _).trans (by kernel_rfl)
def ζ1c (k : Nat) (call : Caller) (a0 a1 a2 : Value) (h : Heap) : Res Value :=
 (call F.ζ2i [a0, a1] h).bind fun v1 h2 =>
 (nilR v1 h2).bind fun v3 h4 =>
 (loadR Prog 21 v3 h4).bind fun v5 h6 =>
 (call F.ζ90 [v5, a2] h6).bind fun v7 h8 =>
 (nilR v1 h8).bind fun v9 h10 =>
 (storeR Prog 21 v9 v7 h10).bind fun _v11 h12 =>
 .ok (.tuple #[]) h12
theorem ζai (k : Nat) (a0 a1 a2 : Value) (h : Heap) : R (T k) F.ζ1c [a0, a1, a2] h = nrm .no h (ζ1c k (R (T k)) a0 a1 a2 h) :=
 (R_body (t := T k) (T_scott k) (by kernel_rfl) (by kernel_rfl) _ _).trans (by kernel_rfl)
def ζ2i (k : Nat) (call : Caller) (a0 a1 : Value) (h : Heap) : Res Value :=
 (call F.ζ27 [a0, a1] h).bind fun v1 h2 =>
 (nilR a0 h2).bind fun v3 h4 =>
 (fieldAddrR Prog 210 v3 0 h4).bind fun v5 h6 =>
 (loadR Prog 4 v5 h6).bind fun v7 h8 =>
 condV (some v7) (
 (nilR v1 h8).bind fun v9 h10 =>
 (fieldAddrR Prog 91 v9 1 h10).bind fun v11 h12 =>
 .ok v11 h12)
 (
 (nilR v1 h8).bind fun v13 h14 =>
 (fieldAddrR Prog 91 v13 2 h14).bind fun v15 h16 =>
 .ok v15 h16)
theorem ζc2 (k : Nat) (a0 a1 : Value) (h : Heap) : R (T k) F.ζ2i [a0, a1] h = nrm .no h (ζ2i k (R (T k)) a0 a1 h) :=
 (R_body (t := T k) (T_scott k) (by kernel_rfl) (by kernel_rfl) _ _).trans (by kernel_rfl)
end
end Go.Sw
end
section
set_option maxRecDepth 100000
set_option linter.unusedVariables false
namespace Go.Sw
noncomputable section
def ζ60 (k : Nat) (call : Caller) : Env → Heap → Res (AExit × Env) := loopB (C k) call F.ζ1j [1, 1, 0, 1, 0, 0]
def ζ5j (k : Nat) (call : Caller) : Kont Value := kBlock 0 (kSeq (pieceK (C k) call F.ζ1j [1, 1, 1]) (kDone Prog (resOf Prog F.ζ1j)))
def ζ1j (k : Nat) (call : Caller) (a0 a1 : Value) (h : Heap) : Res Value :=
 (builtinV Prog .len [70] [a0] h).bind fun v1 h2 =>
 (builtinV Prog .len [70] [a1] h2).bind fun v3 h4 =>
 (binR Prog .neq 3 v1 v3 h4).bind fun v5 h6 =>
 condV (some v5) (
 .ok (.bool false) h6)
 (
 (loopN (ζ60 k call) loopFuel [(0, a0), (1, a1), (5, (.int .i64 0))] h6).bind fun r7 h8 =>
 ζ5j k call r7.1 r7.2 h8)
theorem ζgn (k : Nat) (a0 a1 : Value) (h : Heap) : R (T k) F.ζ1j [a0, a1] h = nrm .gc h (ζ1j k (R (T k)) a0 a1 h) :=
 (R_body (t := T k) (T_scott k) (by kernel_rfl) (by kernel_rfl) _ _).trans (by kernel_rfl)
theorem ζ6w (k : Nat) (call : Caller) (a0 a1 a5 : Value) (h : Heap) : ζ60 k call [(0, a0), (1, a1), (5, a5)] h =
 (builtinV Prog .len [70] [a0] h).bind fun v9 h10 =>
 (binR Prog .lss 3 a5 v9 h10).bind fun v11 h12 =>
 condV (some v11) (
 (indexAddrR Prog 70 a0 a5 h12).bindN fun v13 h14 =>
 (loadR Prog 91 v13 h14).bindN fun v15 h16 =>
 (indexAddrR Prog 70 a1 a5 h16).bindN fun v17 h18 =>
 (loadR Prog 91 v17 h18).bindN fun v19 h20 =>
 (binR Prog .neq 91 v15 v19 h20).bindN fun v21 h22 =>
 condV (some v21) (
 .ok (.ret, [(4, (.bool false))]) h22)
 (
 (binR Prog .add 3 a5 (.int .i64 1) h22).bind fun v23 h24 =>
 .ok (.normal, [(0, a0), (1, a1), (5, v23)]) h24))
 (
 .ok ((.exit 0), [(0, a0), (1, a1), (5, a5), (14, v11)]) h12) :=
 (loopB_eq _ _).trans (by kernel_rfl)
theorem ζaz (k : Nat) (call : Caller) (a4 : Value) (h : Heap) : ζ5j k call .ret [(4, a4)] h =
 .ok a4 h := by kernel_rfl
theorem ζa0 (k : Nat) (call : Caller) (a0 a1 a5 a14 : Value) (h : Heap) : ζ5j k call (.exit 0) [(0, a0), (1, a1), (5, a5), (14, a14)] h =
 .ok (.bool true) h := by kernel_rfl
def ζ6l (k : Nat) (call : Caller) : Env → Heap → Res (AExit × Env) := loopB (C k) call F.ζ2n [1, 1, 0, 1, 0, 0]
def ζ8t (k : Nat) (call : Caller) : Kont Value := kBlock 0 (kSeq (pieceK (C k) call F.ζ2n [1, 1, 1]) (kDone Prog (resOf Prog F.ζ2n)))
def ζ2n (k : Nat) (call : Caller) (a0 : Value) (h : Heap) : Res Value :=
 (buildSliceR Prog 70 0 [] h).bind fun v1 h2 =>
 (loopN (ζ6l k call) loopFuel [(0, a0), (3, v1), (4, (.int .i64 0))] h2).bind fun r3 h4 =>
 ζ8t k call r3.1 r3.2 h4
theorem ζib (k : Nat) (a0 : Value) (h : Heap) : R (T k) F.ζ2n [a0] h = nrm .fz h (ζ2n k (R (T k)) a0 h) :=
 (R_body (t := T k) (T_scott k) (by kernel_rfl) (by kernel_rfl) _ _).trans (by kernel_rfl)
theorem ζ7l (k : Nat) (call : Caller) (a0 a3 a4 : Value) (h : Heap) : ζ6l k call [(0, a0), (3, a3), (4, a4)] h =
 (builtinV Prog .len [27] [a0] h).bind fun v5 h6 =>
 (binR Prog .lss 3 a4 v5 h6).bind fun v7 h8 =>
 condV (some v7) (
 (indexAddrR Prog 27 a0 a4 h8).bind fun v9 h10 =>
 (loadR Prog 3 v9 h10).bind fun v11 h12 =>
 (call F.ζ2c [v11] h12).bind fun v13 h14 =>
 (convR Prog 3 21 v13 h14).bind fun v15 h16 =>
 (buildR Prog 91 [(0, v15)] h16).bind fun v17 h18 =>
 (buildSliceR Prog 70 1 [(0, v17)] h18).bind fun v19 h20 =>
 (builtinV Prog .append [70, 70] [a3, v19] h20).bind fun v21 h22 =>
 (binR Prog .add 3 a4 (.int .i64 1) h22).bind fun v23 h24 =>
 .ok (.normal, [(0, a0), (3, v21), (4, v23)]) h24)
 (
 .ok ((.exit 0), [(0, a0), (3, a3), (4, a4), (9, v7)]) h8) :=
 (loopB_eq _ _).trans (by kernel_rfl)
theorem ζay (k : Nat) (call : Caller) (a0 a3 a4 a9 : Value) (h : Heap) : ζ8t k call (.exit 0) [(0, a0), (3, a3), (4, a4), (9, a9)] h =
 .ok a3 h := by kernel_rfl
def ζ8r (k : Nat) (call : Caller) (a11 : Value) (h : Heap) : Res Value :=
 kSeq (pieceK (C k) call F.ζf [1, 1, 1]) (kDone Prog (resOf Prog F.ζf)) .normal [(11, a11)] h
def ζ8s (k : Nat) (call : Caller) (a1 a2 a3 a4 a11 a22 : Value) (h : Heap) : Res Value :=
 kSeq (pieceK (C k) call F.ζf [1, 1, 1]) (kDone Prog (resOf Prog F.ζf)) .normal [(1, a1), (2, a2), (3, a3), (4, a4), (11, a11), (22, a22)] h
def ζf (k : Nat) (call : Caller) (a0 a1 a2 a3 a4 : Value) (h : Heap) : Res Value :=
 (buildSliceR Prog 70 0 [] h).bind fun v1 h2 =>
 (builtinV Prog .append [70, 70] [v1, a0] h2).bind fun v3 h4 =>
 (binR Prog .geq 3 a1 (.int .i64 0) h4).bind fun v5 h6 =>
 ((bif wantVal v5 true then Res.ok a1 h6 else Res.ok undef h6)).bind fun v7 h8 =>
 ((bif wantVal v5 true then Res.ok v3 h8 else Res.ok undef h8)).bind fun v9 h10 =>
 ((bif wantVal v5 true then builtinV Prog .len [70] [v9] h10 else Res.ok undef h10)).bind fun v11 h12 =>
 ((bif wantVal v5 true then binR Prog .lss 3 v7 v11 h12 else Res.ok undef h12)).bind fun v13 h14 =>
 (condV (some v5) (Res.ok v13 h14) (Res.ok (.bool false) h14)).bind fun v15 h16 =>
 condV (some v15) (
 (indexAddrR Prog 70 v3 a1 h16).bind fun v17 h18 =>
 (fieldAddrR Prog 91 v17 0 h18).bind fun v19 h20 =>
 (loadR Prog 21 v19 h20).bind fun v21 h22 =>
 (call F.ζ34 [v21, a2] h22).bind fun v23 h24 =>
 (indexAddrR Prog 70 v3 a1 h24).bind fun v25 h26 =>
 (fieldAddrR Prog 91 v25 0 h26).bind fun v27 h28 =>
 (storeR Prog 21 v27 v23 h28).bind fun _v29 h30 =>
 (indexAddrR Prog 70 v3 a1 h30).bind fun v31 h32 =>
 (fieldAddrR Prog 91 v31 1 h32).bind fun v33 h34 =>
 (loadR Prog 21 v33 h34).bind fun v35 h36 =>
 (call F.ζ34 [v35, a3] h36).bind fun v37 h38 =>
 (indexAddrR Prog 70 v3 a1 h38).bind fun v39 h40 =>
 (fieldAddrR Prog 91 v39 1 h40).bind fun v41 h42 =>
 (storeR Prog 21 v41 v37 h42).bind fun _v43 h44 =>
 (indexAddrR Prog 70 v3 a1 h44).bind fun v45 h46 =>
 (fieldAddrR Prog 91 v45 2 h46).bind fun v47 h48 =>
 (loadR Prog 21 v47 h48).bind fun v49 h50 =>
 (call F.ζ34 [v49, a4] h50).bind fun v51 h52 =>
 (indexAddrR Prog 70 v3 a1 h52).bind fun v53 h54 =>
 (fieldAddrR Prog 91 v53 2 h54).bind fun v55 h56 =>
 (storeR Prog 21 v55 v51 h56).bind fun _v57 h58 =>
 ζ8r k call v3 h58)
 (
 ζ8s k call a1 a2 a3 a4 v3 v15 h16)
theorem ζgm (k : Nat) (a0 a1 a2 a3 a4 : Value) (h : Heap) : R (T k) F.ζf [a0, a1, a2, a3, a4] h = nrm .fz h (ζf k (R (T k)) a0 a1 a2 a3 a4 h) :=
 (R_body (t := T k) (T_scott k) (by kernel_rfl) (by kernel_rfl) _ _).trans (by kernel_rfl)
theorem ζax (k : Nat) (call : Caller) (a11 : Value) (h : Heap) : ζ8r k call a11 h =
 .ok a11 h := by kernel_rfl
theorem ζ6v (k : Nat) (call : Caller) (a1 a2 a3 a4 a11 a22 : Value) (h : Heap) : ζ8s k call a1 a2 a3 a4 a11 a22 h =
 .ok a11 h := by kernel_rfl
def ζ5i (k : Nat) (call : Caller) (a7 : Value) (h : Heap) : Res Value :=
 kSeq (pieceK (C k) call F.ζe [1, 1, 1]) (kDone Prog (resOf Prog F.ζe)) .normal [(7, a7)] h
def ζ7v (k : Nat) (call : Caller) (a2 a7 a33 : Value) (h : Heap) : Res Value :=
 kSeq (pieceK (C k) call F.ζe [1, 1, 1]) (kDone Prog (resOf Prog F.ζe)) .normal [(2, a2), (7, a7), (33, a33)] h
def ζe (k : Nat) (call : Caller) (a0 a1 a2 : Value) (h : Heap) : Res Value :=
 (buildSliceR Prog 70 0 [] h).bind fun v1 h2 =>
 (builtinV Prog .append [70, 70] [v1, a0] h2).bind fun v3 h4 =>
 (binR Prog .geq 3 a2 (.int .i64 0) h4).bind fun v5 h6 =>
 ((bif wantVal v5 true then Res.ok a2 h6 else Res.ok undef h6)).bind fun v7 h8 =>
 ((bif wantVal v5 true then Res.ok v3 h8 else Res.ok undef h8)).bind fun v9 h10 =>
 ((bif wantVal v5 true then builtinV Prog .len [70] [v9] h10 else Res.ok undef h10)).bind fun v11 h12 =>
 ((bif wantVal v5 true then binR Prog .lss 3 v7 v11 h12 else Res.ok undef h12)).bind fun v13 h14 =>
 (condV (some v5) (Res.ok v13 h14) (Res.ok (.bool false) h14)).bind fun v15 h16 =>
 ((bif wantVal v15 true then Res.ok a1 h16 else Res.ok undef h16)).bind fun v17 h18 =>
 (condV (some v15) (Res.ok v17 h18) (Res.ok (.bool false) h18)).bind fun v19 h20 =>
 condV (some v19) (
 (indexAddrR Prog 70 v3 a2 h20).bind fun v21 h22 =>
 (fieldAddrR Prog 91 v21 1 h22).bind fun v23 h24 =>
 (storeR Prog 21 v23 (.int .i32 0) h24).bind fun _v25 h26 =>
 ζ5i k call v3 h26)
 (
 (binR Prog .geq 3 a2 (.int .i64 0) h20).bind fun v27 h28 =>
 ((bif wantVal v27 true then Res.ok a2 h28 else Res.ok undef h28)).bind fun v29 h30 =>
 ((bif wantVal v27 true then Res.ok v3 h30 else Res.ok undef h30)).bind fun v31 h32 =>
 ((bif wantVal v27 true then builtinV Prog .len [70] [v31] h32 else Res.ok undef h32)).bind fun v33 h34 =>
 ((bif wantVal v27 true then binR Prog .lss 3 v29 v33 h34 else Res.ok undef h34)).bind fun v35 h36 =>
 (condV (some v27) (Res.ok v35 h36) (Res.ok (.bool false) h36)).bind fun v37 h38 =>
 condV (some v37) (
 (indexAddrR Prog 70 v3 a2 h38).bind fun v39 h40 =>
 (fieldAddrR Prog 91 v39 2 h40).bind fun v41 h42 =>
 (storeR Prog 21 v41 (.int .i32 0) h42).bind fun _v43 h44 =>
 ζ5i k call v3 h44)
 (
 ζ7v k call a2 v3 v37 h38))
theorem ζdf (k : Nat) (a0 a1 a2 : Value) (h : Heap) : R (T k) F.ζe [a0, a1, a2] h = nrm .fz h (ζe k (R (T k)) a0 a1 a2 h) :=
 (R_body (t := T k) (T_scott k) (by kernel_rfl) (by kernel_rfl) _ _).trans (by kernel_rfl)
theorem ζ6h (k : Nat) (call : Caller) (a7 : Value) (h : Heap) : ζ5i k call a7 h =
 .ok a7 h := by kernel_rfl
theorem ζ6i (k : Nat) (call : Caller) (a2 a7 a33 : Value) (h : Heap) : ζ7v k call a2 a7 a33 h =
 .ok a7 h := by kernel_rfl
def ζ13 (k : Nat) (call : Caller) (a0 a1 a2 a3 : Value) (h : Heap) : Res Value :=
 condV (some a1) (
 (call F.ζf [a0, a2, (.int .i64 0), a3, (.int .i64 0)] h).bind fun v1 h2 =>
 .ok v1 h2)
 (
 (call F.ζf [a0, a2, (.int .i64 0), (.int .i64 0), a3] h).bind fun v3 h4 =>
 .ok v3 h4)
theorem ζch (k : Nat) (a0 a1 a2 a3 : Value) (h : Heap) : R (T k) F.ζ13 [a0, a1, a2, a3] h = nrm .fz h (ζ13 k (R (T k)) a0 a1 a2 a3 h) :=
 (R_body (t := T k) (T_scott k) (by kernel_rfl) (by kernel_rfl) _ _).trans (by kernel_rfl)
def ζ2c (k : Nat) (call : Caller) (a0 : Value) (h : Heap) : Res Value :=
 (binR Prog .gtr 3 a0 (.int .i64 2147483647) h).bind fun v1 h2 =>
 condV (some v1) (
 .ok (.int .i64 2147483647) h2)
 (
 (binR Prog .lss 3 a0 (.int .i64 (-2147483648)) h2).bind fun v3 h4 =>
 condV (some v3) (
 .ok (.int .i64 (-2147483648)) h4)
 (
 .ok a0 h4))
theorem ζde (k : Nat) (a0 : Value) (h : Heap) : R (T k) F.ζ2c [a0] h = nrm .gc h (ζ2c k (R (T k)) a0 h) :=
 (R_body (t := T k) (T_scott k) (by kernel_rfl) (by kernel_rfl) _ _).trans (by kernel_rfl)
def ζ34 (k : Nat) (call : Caller) (a0 a1 : Value) (h : Heap) : Res Value :=
 (convR Prog 21 3 a0 h).bind fun v1 h2 =>
 (call F.ζ2c [a1] h2).bind fun v3 h4 =>
 (binR Prog .add 3 v1 v3 h4).bind fun v5 h6 =>
 (call F.ζ2c [v5] h6).bind fun v7 h8 =>
 (convR Prog 3 21 v7 h8).bind fun v9 h10 =>
 .ok v9 h10
theorem ζia (k : Nat) (a0 a1 : Value) (h : Heap) : R (T k) F.ζ34 [a0, a1] h = nrm .gc h (ζ34 k (R (T k)) a0 a1 h) :=
 (R_body (t := T k) (T_scott k) (by kernel_rfl) (by kernel_rfl) _ _).trans (by kernel_rfl)
end
end Go.Sw
end
section
namespace Go.Sw
def clampI (n : Int) : Int := if n > 2147483647 then 2147483647 else if n < -2147483648 then -2147483648 else n
theorem ζa6 (n : Int) : -2147483648 ≤ clampI n := by unfold clampI; omega
theorem ζa5 (n : Int) : clampI n ≤ 2147483647 := by unfold clampI; omega
@[simp] theorem ζrw (k : Nat) (x : Int) (H : Heap) : R (T k) F.ζ4u [.int .i64 x] H = .ok (.int .i32 (clampI x)) H := by
 rw [ζku]
 refine nrm_gc (Pure.of ?_) (.int _ _)
 simp only [ζ4u, max_int, min_int, Res.bind_ok, cv_3_21, cvK_int]
 congr 2
 unfold clampI
 rw [wrap_i32] <;> omega
@[simp] theorem ζr5 (k : Nat) (x : Int) (H : Heap) : R (T k) F.ζ2c [.int .i64 x] H = .ok (.int .i64 (clampI x)) H := by
 rw [ζde]
 refine nrm_gc (Pure.of ?_) (.int _ _)
 simp only [ζ2c, bin_gtr, bin_lss, Res.bind_ok, ζo2, clampI]
 by_cases h1 : x > 2147483647
 ·simp [h1]
 ·by_cases h2 : x < -2147483648 <;> simp [h1, h2]
def addI (a n : Int) : Int := clampI (a + clampI n)
theorem addI_lo (a n : Int) : -2147483648 ≤ addI a n := ζa6 _
theorem addI_hi (a n : Int) : addI a n ≤ 2147483647 := ζa5 _
theorem Add_run (k : Nat) (a x : Int) (h1 : -2147483648 ≤ a) (h2 : a ≤ 2147483647) (H : Heap) : R (T k) F.ζ90 [.int .i32 a, .int .i64 x] H = .ok (.int .i32 (addI a x)) H := by
 have := ζa6 x
 have := ζa5 x
 rw [ζnc]
 refine nrm_gc (Pure.of ?_) (.int _ _)
 simp (disch := omega) [ζ90, addI]
theorem ζhs (k : Nat) (a x : Int) (h1 : -2147483648 ≤ a) (h2 : a ≤ 2147483647) (H : Heap) : R (T k) F.ζ34 [.int .i32 a, .int .i64 x] H = .ok (.int .i32 (addI a x)) H := by
 have := ζa6 x
 have := ζa5 x
 have h3 := ζa6 (a + clampI x)
 have h4 := ζa5 (a + clampI x)
 rw [ζia]
 refine nrm_gc (Pure.of ?_) (.int _ _)
 simp (disch := omega) [ζ34, addI]
structure Pl where
 adv : Int
 x : Int
 y : Int
 deriving DecidableEq
def Pl.ok (p : Pl) : Prop := (-2147483648 ≤ p.adv ∧ p.adv ≤ 2147483647) ∧ (-2147483648 ≤ p.x ∧ p.x ≤ 2147483647) ∧ (-2147483648 ≤ p.y ∧ p.y ≤ 2147483647)
abbrev encP (p : Pl) : List Value := [.int .i32 p.adv, .int .i32 p.x, .int .i32 p.y]
theorem encP_len (p : Pl) : (encP p).length = 3 := rfl
theorem ζ81 (l : List Pl) : ∀ p, p ∈ l → ∀ v, v ∈ encP p → Still v := by
 intro p _ v hv
 simp [encP] at hv
 rcases hv with rfl | rfl | rfl <;> trivial
theorem ζ7p (l : List Pl) : ∀ p, p ∈ l → Flats (encP p) := fun p _ => .cons (.int _ _) (.cons (.int _ _) (.cons (.int _ _) .nil))
end Go.Sw
end
