/-
  Functions' forms, and what is proved of them, part 2.
-/
import Derived.Test.YtnaodjnimkndbabSwW1
import Derived.Test.YtnaodjnimkndbabSwCfg
import Derived.Test.YtnaodjnimkndbabSwLib9
set_option linter.unusedSimpArgs false
set_option linter.unusedVariables false
set_option linter.unusedSectionVars false
section
namespace Go.Sw
open Go.RowKit
def Asks (k : Nat) (f : Value) (n : Nat) (p : Nat → Bool) (H : Heap) : Prop := ∀ j : Nat, j < n → callV (R (T k)) f [.int .i64 j] H = .ok (.bool (p j)) H
def IsFirst (n : Nat) (p : Nat → Bool) (i : Nat) : Prop := i ≤ n ∧ (∀ j, j < i → p j = false) ∧ ∀ j, i ≤ j → j < n → p j = true
theorem First_run (k : Nat) (n : Nat) (f : Value) (p : Nat → Bool) (H : Heap) (hn : n < 2 ^ 62) (hf : Asks k f n p H) (hm : ∀ i j, i ≤ j → j < n → p i = true → p j = true) (i : Nat) (hi : IsFirst n p i) :
  R (T k) F.seek_First [.int .i64 n, f] H = .ok (.int .i64 i) H := by
 rw [seek_First_R]
 refine nrm_gc (Pure.of ?_) (.int _ _)
 obtain ⟨x, e', H1, hr, rfl, rfl, a, rfl⟩ := loopDec (body := seek_First_l1 k (R (T k)))
  (fun m e H' => H' = H ∧ ∃ lo hi : Nat, m = hi - lo ∧ e = [(1, f), (5, .int .i64 lo), (6, .int .i64 hi)] ∧ lo ≤ i ∧ i ≤ hi ∧ hi ≤ n)
  (fun x e H' => H' = H ∧ x = .exit 0 ∧ ∃ a, e = [(1, f), (5, .int .i64 i), (6, .int .i64 i), (11, a)])
  (e0 := [(1, f), (5, .int .i64 0), (6, .int .i64 n)]) (H0 := H) n ⟨rfl, 0, n, by omega, rfl, by omega, hi.1, Nat.le_refl _⟩ (by omega)
  (fun m e H' ⟨hH, lo, hg, hmm, he, h1, h2, h3⟩ => by
   subst hH he
   by_cases hlt : lo < hg
   ·have hlt' : (lo : Int) < hg := by omega
    obtain ⟨d, hd1, hd2⟩ : ∃ d, 2 * d ≤ hg - lo ∧ hg - lo < 2 * d + 2 := ⟨(hg - lo) / 2, by omega, by omega⟩
    have hmid : (((hg : Int) - lo).tdiv 2) = (d : Nat) := by
     rw [Int.tdiv_eq_ediv_of_nonneg (by omega)]; omega
    have q := bin_quo Prog 3 H' .i64 ((hg : Int) - lo) 2 (by decide)
    rw [hmid] at q
    have ha := hf (lo + d) (by omega)
    rw [show (((lo + d : Nat) : Nat) : Int) = (lo : Int) + (d : Nat) by omega] at ha
    have hle : ((d : Nat) : Int) ≤ hg - lo := by omega
    refine .inl ?_
    cases hp : p (lo + d) with
    | true =>
     rw [hp] at ha
     refine ⟨(lo + d) - lo, _, H', ?_, by omega, rfl, lo, lo + d, rfl, rfl, h1, ?_, by omega⟩
     ·rw [seek_First_l1_eq]
      simp -implicitDefEqProofs (disch := omega) [hlt', q, ha]
     ·rcases Nat.lt_or_ge (lo + d) i with h | h
      ·rw [hi.2.1 _ h] at hp; cases hp
      ·exact h
    | false =>
     rw [hp] at ha
     refine ⟨hg - (lo + d + 1), _, H', ?_, by omega, rfl, lo + d + 1, hg, rfl, rfl, ?_, h2, h3⟩
     ·rw [seek_First_l1_eq]
      simp -implicitDefEqProofs (disch := omega) [hlt', q, ha]
     ·rcases Nat.lt_or_ge (lo + d) i with h | h
      ·exact h
      ·rw [hi.2.2 _ h (by omega)] at hp; cases hp
   ·have hlt' : ¬ (lo : Int) < hg := by omega
    have e1 : lo = i := by omega
    have e2 : hg = i := by omega
    subst e1
    rw [e2]
    refine .inr ⟨.exit 0, _, H', ?_, by simp, rfl, rfl, .bool false, rfl⟩
    rw [seek_First_l1_eq]
    simp -implicitDefEqProofs (disch := omega))
 simp -implicitDefEqProofs (disch := omega) [seek_First, hr, seek_First_l1k_x0]
theorem isFirst_ex (n : Nat) (p : Nat → Bool) (hm : ∀ i j, i ≤ j → j < n → p i = true → p j = true) : ∃ i, IsFirst n p i := by
 induction n with
 | zero => exact ⟨0, Nat.le_refl _, fun j h => by omega, fun j h1 h2 => by omega⟩
 | succ n ih =>
  obtain ⟨i, h1, h2, h3⟩ := ih fun a b hab hb => hm a b hab (by omega)
  by_cases hi : i < n
  ·exact ⟨i, by omega, h2, fun j hj hn => by
    by_cases he : j = n
    ·subst he; exact hm i j hj hn (h3 i (Nat.le_refl _) hi)
    ·exact h3 j hj (by omega)⟩
  ·have : i = n := by omega
   subst this
   cases hp : p i with
   | true => exact ⟨i, by omega, h2, fun j hj hn => by rw [show j = i by omega]; exact hp⟩
   | false => exact ⟨i + 1, Nat.le_refl _, fun j hj => by
     by_cases he : j = i
     ·subst he; exact hp
     ·exact h2 j (by omega), fun j h1 h2 => by omega⟩
def noneS (l : List Int) (keys : Nat) : Bool := (List.range keys).all fun j => uS l (2 * j) 2 == some 65535
theorem none_run (k : Nat) {H : Heap} {v : Value} {l : List Int} (hv : Sl H 1 v encB l) (hb : Byt l) (keys : Nat) (hl : l.length < 2 ^ 62) (hk : 2 * keys ≤ l.length) : R (T k) F.seek_none [.agg #[v], .int .i64 keys] H = .ok (.bool (noneS l keys)) H := by
 rw [seek_none_R]
 obtain ⟨x, e', H1, hr, hH, hq⟩ := loop_up (body := seek_none_l1 k (R (T k))) keys
  (fun j e H' => H' = H.push ⟨[v], 1, false⟩ ∧ (∀ i, i < j → uS l (2 * (i : Nat)) 2 = some 65535) ∧ e = [(2, .pointer (some ⟨H.n, 0, none⟩)), (6, .int .i64 keys), (7, .int .i64 j)])
  (fun x e H' => H' = H.push ⟨[v], 1, false⟩ ∧ ((x = .ret ∧ e = [(4, .bool false)] ∧ noneS l keys = false) ∨ (∃ a, x = .exit 0 ∧ e = [(2, .pointer (some ⟨H.n, 0, none⟩)), (6, .int .i64 keys), (7, .int .i64 keys), (8, a)] ∧ noneS l keys = true)))
  (e0 := [(2, .pointer (some ⟨H.n, 0, none⟩)), (6, .int .i64 keys), (7, .int .i64 0)]) (H0 := H.push ⟨[v], 1, false⟩) ⟨rfl, fun i h => by omega, rfl⟩ (by omega)
  (fun j e H' hj ⟨hH, ha, he⟩ => by
   subst he hH
   have hlt : (j : Int) < keys := by omega
   have hu := U16_run k (hv.up ((Ext.refl H).push ⟨[v], 1, false⟩)) hb (2 * (j : Int)) hl
   obtain ⟨x, hx⟩ : ∃ x, uS l (2 * (j : Int)) 2 = some x := by
    unfold uS pieceS
    rw [if_pos (by omega)]
    exact ⟨_, rfl⟩
   rw [hx] at hu
   by_cases he : x = 65535
   ·subst he
    refine .inl ⟨_, _, ?_, rfl, fun i hi => ?_, rfl⟩
    ·rw [seek_none_l1_eq]
     simp -implicitDefEqProofs (disch := omega) [hlt, hu]
    ·by_cases hij : i = j
     ·subst hij; exact hx
     ·exact ha i (by omega)
   ·refine .inr ⟨.ret, _, _, ?_, by simp, rfl, .inl ⟨rfl, rfl, ?_⟩⟩
    ·have hne : (x != 65535) = true := by simpa using he
     rw [seek_none_l1_eq]
     simp -implicitDefEqProofs (disch := omega) [hlt, hu, hne]
    ·unfold noneS
     rw [List.all_eq_false]
     exact ⟨j, List.mem_range.2 hj, by rw [hx]; simpa using he⟩)
  (fun e H' ⟨hH, ha, he⟩ => by
   subst he hH
   refine ⟨.exit 0, _, _, ?_, by simp, rfl, .inr ⟨.bool false, rfl, rfl, ?_⟩⟩
   ·rw [seek_none_l1_eq]
    simp -implicitDefEqProofs
   ·unfold noneS
    rw [List.all_eq_true]
    intro i hi
    rw [ha i (List.mem_range.1 hi)]
    rfl)
 subst hH
 refine nrm_gc ⟨_, ?_, (Ext.refl H).push ⟨[v], 1, false⟩⟩ (.bool _)
 rcases hq with ⟨rfl, rfl, hn⟩ | ⟨a, rfl, rfl, hn⟩ <;> simp -implicitDefEqProofs (disch := omega) [seek_none, boxR_vw, hr, seek_none_l1k_r, seek_none_l1k_x0, hn]
abbrev encW (u : Value) : List Value := [u]
theorem encW_len (u : Value) : (encW u).length = 1 := rfl
def cutRows (r : List Int) (z n : Nat) : List (List Int) := (List.range n).map fun i => (r.drop (z * i)).take z
@[simp] theorem cutRows_len (r : List Int) (z n : Nat) : (cutRows r z n).length = n := by simp [cutRows]
theorem cutRows_get (r : List Int) (z n i : Nat) (h : i < n) : (cutRows r z n)[i]? = some ((r.drop (z * i)).take z) := by simp [cutRows, h]
def endRows (r : List Int) (z n keys : Nat) : List (List Int) := if 0 < n ∧ noneS ((r.drop (z * (n - 1))).take z) keys = true then cutRows r z (n - 1) else cutRows r z n
def takeS (b : List Int) (i need : Int) (keys : Nat) : Option (List (List Int)) :=
 match uS b i 2, uS b (i + 2) 2 with
 | some z, some n => if (pieceS b i 10).isSome ∧ need ≤ z then (rowsS b (i + 10) n z).map fun r => endRows r z.toNat n.toNat keys else none
 | _, _ => none
def cutV (r : Value) (z n : Nat) : List Value := (List.range n).map fun i => subV 1 r (z * i) z
@[simp] theorem cutV_len (r : Value) (z n : Nat) : (cutV r z n).length = n := by simp [cutV]
theorem cutV_succ (r : Value) (z n : Nat) : cutV r z (n + 1) = cutV r z n ++ [subV 1 r (z * n) z] := by simp [cutV, List.range_succ]
theorem cutV_get (r : Value) (z n i : Nat) (h : i < n) : (cutV r z n)[i]? = some (subV 1 r (z * i) z) := by simp [cutV, h]
theorem cutV_take (r : Value) (z n : Nat) : (cutV r z n).take (n - 1) = cutV r z (n - 1) := by
 cases n with
 | zero => rfl
 | succ n => rw [cutV_succ]; simp
theorem cutV_sl {H : Heap} {rv : Value} {r : List Int} (hv : Sl H 1 rv encB r) (z n i : Nat) (hr : r.length = n * z) (h : i < n) : Sl H 1 (subV 1 rv (z * i) z) encB ((r.drop (z * i)).take z) := by
 have hzi : z * i + z ≤ r.length := by
  rw [hr, ← Nat.mul_succ, Nat.mul_comm]
  exact Nat.mul_le_mul_right _ h
 exact (hv.sub encB_len .i64 .i64 .i64 (z * i) z hzi).2
theorem Take_loop (k : Nat) {rv : Value} (r : List Int) (keys z n : Nat) (hr : r.length = n * z) (hz : z < 65536) (hn : n < 65536) (p : Nat) {H : Heap} (hv : Sl H 1 rv encB r) (hp : H.get p = some ⟨[rv], 1, false⟩) :
  ∃ s H', loopN (seek_Take_l1 k (R (T k))) loopFuel [(3, .int .i64 keys), (9, .int .i64 z), (10, .int .i64 n), (11, .pointer (some ⟨p, 0, none⟩)), (12, .slice none 0 0), (34, .int .i64 n), (35, .int .i64 0)] H =
   .ok (.exit 0, [(3, .int .i64 keys), (9, .int .i64 z), (10, .int .i64 n), (11, .pointer (some ⟨p, 0, none⟩)), (12, s), (34, .int .i64 n), (35, .int .i64 n), (36, .bool false)]) H' ∧ Own H H' 1 s encW (cutV rv z n) ∧ Ext H H' := by
 have hlen : r.length < 2 ^ 62 := by
  have : n * z ≤ 65536 * 65536 := Nat.mul_le_mul (by omega) (by omega)
  omega
 obtain ⟨x, e', H', hr', s, rfl, rfl, ho, hx⟩ := loop_up (body := seek_Take_l1 k (R (T k))) n
  (fun i e H' => ∃ s, e = [(3, .int .i64 keys), (9, .int .i64 z), (10, .int .i64 n), (11, .pointer (some ⟨p, 0, none⟩)), (12, s), (34, .int .i64 n), (35, .int .i64 i)] ∧ Own H H' 1 s encW (cutV rv z i) ∧ Ext H H')
  (fun x e H' => ∃ s, x = .exit 0 ∧ e = [(3, .int .i64 keys), (9, .int .i64 z), (10, .int .i64 n), (11, .pointer (some ⟨p, 0, none⟩)), (12, s), (34, .int .i64 n), (35, .int .i64 n), (36, .bool false)] ∧ Own H H' 1 s encW (cutV rv z n) ∧ Ext H H')
  (e0 := [(3, .int .i64 keys), (9, .int .i64 z), (10, .int .i64 n), (11, .pointer (some ⟨p, 0, none⟩)), (12, .slice none 0 0), (34, .int .i64 n), (35, .int .i64 0)]) (H0 := H) ⟨_, rfl, Own.nil _ _ _, Ext.refl H⟩ (by omega)
  (fun i e H' hi ⟨s, he, ho, hx⟩ => by
   subst he
   have hlt : (i : Int) < n := by omega
   have hpg := hx.get hp
   have hzi : z * i + z ≤ r.length := by
    rw [hr, ← Nat.mul_succ, Nat.mul_comm]
    exact Nat.mul_le_mul_right _ hi
   have hcut := Cut_run k (hv.up hx) ((z : Int) * i) z hlen
   have e1 : ((z : Int) * i) = ((z * i : Nat) : Int) := by simp
   have hps : pieceS r ((z : Int) * i) z = some ((r.drop (z * i)).take z) := by
    rw [e1, pieceS, if_pos (by omega), Int.toNat_natCast, Int.toNat_natCast]
   have e2 : ((z : Int) * i).toNat = z * i := by rw [e1, Int.toNat_natCast]
   rw [hps, e2, Int.toNat_natCast] at hcut
   have hmul : ((z : Int) * i) ≤ 9223372036854775807 := by omega
   have hmul0 : 0 ≤ ((z : Int) * i) := Int.mul_nonneg (by omega) (by omega)
   have hsl := cutV_sl hv z n i hr hi
   obtain ⟨s', H2, e3, o1, x1⟩ := ap1_own (bytes := 24) encW_len ho hx (subV 1 rv (z * i) z) (by simp; omega) (by decide)
   refine .inl ⟨_, H2, ?_, s', rfl, by rw [cutV_succ]; exact o1, x1⟩
   rw [seek_Take_l1_eq]
   generalize subV 1 rv (z * i) z = u at hcut hsl e3
   simp -implicitDefEqProofs (disch := omega) [hlt, hpg, hcut, e3])
  (fun e H' ⟨s, he, ho, hx⟩ => by
   subst he
   refine ⟨.exit 0, _, H', ?_, by simp, s, rfl, rfl, ho, hx⟩
   rw [seek_Take_l1_eq]
   simp -implicitDefEqProofs (disch := omega))
 exact ⟨s, H', hr', ho, hx⟩
def rowsV (v : Value) (b : List Int) (i : Int) : Value := subV 1 v (i + 10).toNat (((uS b (i + 2) 2).getD 0) * ((uS b i 2).getD 0)).toNat
def rowZ (b : List Int) (i : Int) : Nat := ((uS b i 2).getD 0).toNat
theorem cutV_fz {H0 H : Heap} {rv : Value} (h : Firm H0 rv) (z n d : Nat) : ∀ x, x ∈ cutV rv z n → ∀ v, v ∈ encW x → fzV H0.n H (d + 1) v = some (v, []) := fun x hx v hv => by
 simp at hv
 subst hv
 obtain ⟨i, _, rfl⟩ := List.mem_map.1 hx
 exact (h.sub 1 _ _).fz d
theorem cutV_alive {H : Heap} {rv : Value} {r : List Int} (hv : Sl H 1 rv encB r) (z n m : Nat) (hr : r.length = n * z) (hm : m ≤ n) : Alive H (lv encW (cutV rv z m)) := .list _ _ _ _ _ fun i u hu => by
 have hu : (rows encW (cutV rv z m))[i]? = some u := by simpa using hu
 have : rows encW (cutV rv z m) = cutV rv z m := by simp [rows]
 rw [this] at hu
 have hi := (List.getElem?_eq_some_iff.1 hu).1
 simp at hi
 rw [cutV_get _ _ _ _ hi] at hu
 injection hu with hu; subst hu
 exact (cutV_sl hv z n i hr (by omega)).alive fun _ _ => .cons (.int _ _) .nil
theorem Take_run (k : Nat) {H : Heap} {v : Value} {b : List Int} (hv : Sl H 1 v encB b) (hb : Byt b) (i need : Int) (keys : Nat) (hl : b.length < 2 ^ 31) (hi0 : -4294967296 ≤ i) (hi : i < 4294967296) (hk : 2 * (keys : Int) ≤ need) :
  R (T k) F.seek_Take [.agg #[v], .int .i64 i, .int .i64 need, .int .i64 keys] H = orF (takeS b i need keys) (fun l => lv encW (cutV (rowsV v b i) (rowZ b i) l.length)) H := by
 rw [seek_Take_R]
 have ext1 : Ext H (H.push ⟨[v], 1, false⟩) := (Ext.refl H).push _
 have hu1 := U16_run k (hv.up ext1) hb i (by omega)
 have hu2 := U16_run k (hv.up ext1) hb (i + 2) (by omega)
 have hcut := Cut_run k (hv.up ext1) i 10 (by omega)
 have hq : veq v v = true := hv.veq fun n _ u hu => by simp at hu; subst hu; simp
 have hqa : veq (.agg #[v]) (.agg #[v]) = true := veq_agg (l := [v]) fun u hu => by simp at hu; subst hu; exact hq
 cases h1 : uS b i 2 with
 | none =>
  have e : takeS b i need keys = none := by unfold takeS; rw [h1]
  rw [h1] at hu1
  rw [e]
  refine nrm_throw ⟨_, ?_, ext1⟩ Flat.fail.alive
  simp -implicitDefEqProofs (disch := omega) [seek_Take, hqa, hu1]
 | some z =>
  have hz := uS_two hb h1
  rw [h1] at hu1
  cases h2 : uS b (i + 2) 2 with
  | none =>
   have e : takeS b i need keys = none := by unfold takeS; rw [h1, h2]
   rw [h2] at hu2
   rw [e]
   refine nrm_throw ⟨_, ?_, ext1⟩ Flat.fail.alive
   simp -implicitDefEqProofs (disch := omega) [seek_Take, hqa, hu1, hu2]
  | some n =>
   have hn := uS_two hb h2
   rw [h2] at hu2
   cases h3 : pieceS b i 10 with
   | none =>
    have e : takeS b i need keys = none := by unfold takeS; rw [h1, h2]; simp [h3]
    rw [h3] at hcut
    rw [e]
    refine nrm_throw ⟨_, ?_, ext1⟩ Flat.fail.alive
    simp -implicitDefEqProofs (disch := omega) [seek_Take, hqa, hu1, hu2, hcut]
   | some c =>
    rw [h3] at hcut
    by_cases h4 : need ≤ z
    ·have hrows := Rows_run k (hv.up ext1) (i + 10) n z (by omega)
     cases h5 : rowsS b (i + 10) n z with
     | none =>
      have e : takeS b i need keys = none := by unfold takeS; rw [h1, h2]; simp [h3, h4, h5]
      rw [h5] at hrows
      rw [e]
      refine nrm_throw ⟨_, ?_, ext1⟩ Flat.fail.alive
      simp -implicitDefEqProofs (disch := omega) [seek_Take, hqa, hu1, hu2, hcut, h4, hrows]
     | some r =>
      have e : takeS b i need keys = some (endRows r z.toNat n.toNat keys) := by unfold takeS; rw [h1, h2]; simp [h3, h4, h5]
      rw [h5] at hrows
      rw [e]
      obtain ⟨z, rfl⟩ := Int.eq_ofNat_of_zero_le hz.1
      obtain ⟨n, rfl⟩ := Int.eq_ofNat_of_zero_le hn.1
      rw [Int.toNat_natCast, Int.toNat_natCast]
      have hp5 : pieceS b (i + 10) ((n : Int) * z) = some r := by
       unfold rowsS at h5
       split at h5
       ·exact h5
       ·cases h5
      have hrl : r.length = n * z := by have := pieceS_len hp5; exact_mod_cast this
      have hrb := (hb.piece hp5).1
      have hrv : rowsV v b i = subV 1 v (i + 10).toNat ((n : Int) * z).toNat := by unfold rowsV; rw [h1, h2]; rfl
      have hrz : rowZ b i = z := by unfold rowZ; rw [h1]; simp
      have hsr := pieceS_sl hv hp5
      have hne : b ≠ [] := fun e => by
       subst e
       unfold uS pieceS at h1
       split at h1
       ·rename_i hc; simp at hc; omega
       ·cases h1
      have hfirm : Firm H (subV 1 v (i + 10).toNat ((n : Int) * z).toNat) := (hv.firm hne).sub _ _ _
      simp only [orF_some, hrv, hrz]
      simp only [orF_some] at hrows hu1 hu2 hcut
      generalize subV 1 v (i + 10).toNat ((n : Int) * z).toNat = rv at hrows hsr hfirm ⊢
      obtain ⟨s, H', hloop, ho, hx⟩ := Take_loop k r keys z n hrl (by omega) (by omega) (H.n + 1) (hsr.up (ext1.push ⟨[rv], 1, false⟩)) (get_push_eq _ _ _ (by simp))
      have hxx : Ext H H' := (ext1.push _).trans hx
      have ho' : Own H H' 1 s encW (cutV rv z n) := ho.base (by simp; omega)
      have hst := hsr.storable
      have hce := hsr.cells
      by_cases hn0 : n = 0
      ·subst hn0
       have e2 : (endRows r z 0 keys).length = 0 := by simp [endRows]
       rw [e2]
       obtain ⟨L, hf⟩ := ho'.freeze encW_len (fun x hx => by simp [cutV] at hx) 6
       refine nrm_fz (v := s) (H' := H') ?_ hf hxx (cutV_alive hsr z 0 0 hrl (Nat.le_refl _))
       simp only [Int.natCast_zero] at hu2 hrows hloop
       simp -implicitDefEqProofs (disch := omega) [seek_Take, hqa, hu1, hu2, hcut, h4, hrows, hloop, seek_Take_l1k_x0]
      ·have hlast := cutV_get rv z n (n - 1) (by omega)
       have hlb : Byt ((r.drop (z * (n - 1))).take z) := fun x hx => hrb x (List.mem_of_mem_drop (List.mem_of_mem_take hx))
       have hsl0 := cutV_sl hsr z n (n - 1) hrl (by omega)
       have hll : ((r.drop (z * (n - 1))).take z).length = z := by
        have : z * (n - 1) + z ≤ r.length := by
         rw [hrl, ← Nat.mul_succ, Nat.mul_comm, show (n - 1).succ = n by omega]
         exact Nat.le_refl _
        simp; omega
       have hnone := none_run k (hsl0.up hxx) hlb keys (by omega) (by omega)
       have hn1 : ((n : Int) - 1) = ((n - 1 : Nat) : Int) := by omega
       have hgt : 0 < n := by omega
       obtain ⟨bk, hsk, hbk, hgk, _⟩ := ixS_own ho' .i64 (n - 1) (by simp; omega) H'
       have hixk0 : ∀ H'', ixS 1 s (.int .i64 ((n : Int) - 1)) H'' = .ok (.pointer (some ⟨bk, (n - 1) * 1, none⟩)) H'' := fun H'' => by
        obtain ⟨b2, h1', _, _, h4'⟩ := ixS_own ho' .i64 (n - 1) (by simp; omega) H''
        have : bk = b2 := by rw [hsk] at h1'; simpa using h1'
        subst this
        rw [hn1]; exact h4'
       obtain ⟨p, hixk, hld⟩ : ∃ p, (∀ H'', ixS 1 s (.int .i64 ((n : Int) - 1)) H'' = .ok p H'') ∧ ldA 1 p H' = .ok (.agg #[subV 1 rv (z * (n - 1)) z]) H' := ⟨_, hixk0, ldA_row encW_len hgk hlast⟩
       generalize subV 1 rv (z * (n - 1)) z = u at hld hnone
       cases hno : noneS ((r.drop (z * (n - 1))).take z) keys with
       | false =>
        have e2 : (endRows r z n keys).length = n := by simp [endRows, hno]
        rw [e2]
        rw [hno] at hnone
        obtain ⟨b3, L, hs3, hf⟩ := ho'.freezeF encW_len 6 n (cutV_fz hfirm z n 6) (by simp) (by simp; omega)
        rw [List.take_of_length_le (by simp)] at hf
        rw [cutV_len] at hs3
        refine nrm_fz (v := s) (H' := H') ?_ (by rw [hs3]; exact hf n) hxx (cutV_alive hsr z n n hrl (Nat.le_refl _))
        simp -implicitDefEqProofs (disch := omega) [seek_Take, hqa, hu1, hu2, hcut, h4, hrows, hloop, seek_Take_l1k_x0, hgt, hixk, hld, hnone]
       | true =>
        have e2 : (endRows r z n keys).length = n - 1 := by rw [endRows, if_pos ⟨by omega, hno⟩]; simp
        rw [e2, ← cutV_take]
        rw [hno] at hnone
        obtain ⟨b3, L, hs3, hf⟩ := ho'.freezeF encW_len 6 (n - 1) (cutV_fz hfirm z n 6) (by simp) (by simp; omega)
        have hb3 : bk = b3 := by rw [hsk] at hs3; simpa using hs3
        subst hb3
        have hsl := slS_own hgk .i64 (n - 1) (by simp)
        rw [cutV_len, ← hn1] at hsl
        rw [cutV_len] at hsk
        refine nrm_fz (v := .slice (some ⟨bk, 0, none⟩) (n - 1) n) (H' := H') ?_ (hf n) hxx (by rw [cutV_take]; exact cutV_alive hsr z n (n - 1) hrl (by omega))
        subst hsk
        simp -implicitDefEqProofs (disch := omega) [seek_Take, hqa, hu1, hu2, hcut, h4, hrows, hloop, seek_Take_l1k_x0, hgt, hixk, hld, hnone, hsl]
    ·have e : takeS b i need keys = none := by unfold takeS; rw [h1, h2]; simp [h4]
     rw [e]
     refine nrm_throw ⟨_, ?_, ext1⟩ Flat.fail.alive
     simp -implicitDefEqProofs (disch := omega) [seek_Take, hqa, hu1, hu2, hcut, h4]
end Go.Sw
end
section
set_option maxRecDepth 100000
set_option linter.unusedVariables false
namespace Go.Sw
noncomputable section
end
end Go.Sw
end
section
namespace Go.Sw
open Go.RowKit
def inS (size i n : Int) : Bool := decide (0 ≤ i ∧ 0 ≤ n ∧ i ≤ size ∧ n ≤ size - i)
theorem num_acc : ∀ (l : List Int) (x m : Int), 0 ≤ x → x < m → Byt l → 0 ≤ l.foldl (fun x y => 256 * x + y) x ∧ l.foldl (fun x y => 256 * x + y) x < m * 256 ^ l.length
 | [], x, m, h0, h1, _ => by simp; exact ⟨h0, h1⟩
 | y :: l, x, m, h0, h1, hb => by
  have hy := hb y (by simp)
  have := num_acc l (256 * x + y) (256 * m) (by omega) (by omega) fun n hn => hb n (by simp [hn])
  rw [List.foldl_cons, List.length_cons, Int.pow_succ, Int.mul_comm (256 ^ l.length) 256, ← Int.mul_assoc, Int.mul_comm m 256]
  exact this
theorem num_bound (l : List Int) (h : Byt l) : 0 ≤ num l ∧ num l < 256 ^ l.length := by
 have := num_acc l 0 1 (by omega) (by omega) h
 rw [Int.one_mul] at this
 exact this
def rowsB (z i n s : Int) : Bool := decide (0 ≤ i ∧ 0 ≤ n ∧ 0 ≤ s ∧ i ≤ z ∧ (s = 0 ∨ n ≤ (z - i) / s))
end Go.Sw
end
section
namespace Go.Sw
open Go.RowKit
theorem mapO_len {α β : Type} {f : α → Option β} : ∀ {l : List α} {r : List β}, mapO f l = some r → r.length = l.length
 | [], r, h => by injection h with h; subst h; rfl
 | x :: l, r, h => by
  simp only [mapO] at h
  obtain ⟨y, _, h⟩ := Option.bind_eq_some_iff.1 h
  obtain ⟨r', h1, rfl⟩ := Option.map_eq_some_iff.1 h
  simp [mapO_len h1]
theorem mapO_get {α β : Type} {f : α → Option β} : ∀ {l : List α} {r : List β} {i : Nat} {y : β}, mapO f l = some r → r[i]? = some y → ∃ x, l[i]? = some x ∧ f x = some y
 | [], r, i, y, h, hy => by injection h with h; subst h; simp at hy
 | x :: l, r, i, y, h, hy => by
  simp only [mapO] at h
  obtain ⟨z, h0, h⟩ := Option.bind_eq_some_iff.1 h
  obtain ⟨r', h1, rfl⟩ := Option.map_eq_some_iff.1 h
  cases i with
  | zero => simp at hy; subst hy; exact ⟨x, by simp, h0⟩
  | succ i => simp at hy; simpa using mapO_get h1 hy
structure Pt where
 first : Int
 last : Int
 vals : List Int
def listS (b : List Int) (i n z : Int) : Option (List Int) := (rowsS b i n z).map fun r => (cutRows r z.toNat n.toNat).map num
def trimS (b : List Int) (i z : Int) : Option (List Pt) :=
 (uS b i 2).bind fun f => (uS b (i + 2) 2).bind fun n =>
  if f + n ≤ 65536 then (listS b (i + 4) n z).map fun vs => if n = 0 then [] else [⟨f, f + n - 1, vs⟩] else none
def segP (b : List Int) (z : Int) (each : Bool) (row : List Int) : Option Pt :=
 (uS row 2 2).bind fun f => (uS row 0 2).bind fun l =>
  if f ≤ l then (if each then (uS row 4 2).bind fun i => (listS b i (l - f + 1) z).map fun vs => ⟨f, l, vs⟩ else (uS row 4 z).map fun x => ⟨f, l, [x]⟩) else none
def segS (b : List Int) (z : Int) (each : Bool) : Option (List Pt) :=
 (takeS b 2 (if each then 6 else 4 + z) 2).bind (mapO (segP b z each))
def oneP (z : Int) (row : List Int) : Option Pt := (uS row 0 2).bind fun i => (uS row 2 z).map fun x => ⟨i, i, [x]⟩
def oneS (b : List Int) (z : Int) : Option (List Pt) := (takeS b 2 (2 + z) 1).bind (mapO (oneP z))
def risesS : List Pt → Bool
 | [] => true
 | [_] => true
 | p :: q :: l => decide (p.last < q.first) && risesS (q :: l)
def partsS (b : List Int) (glyphs z fmt : Int) : Option (List Pt) :=
 if fmt = 0 then (listS b 2 glyphs z).map fun vs => [⟨0, glyphs - 1, vs⟩] else
 if fmt = 2 then segS b z false else
 if fmt = 4 then segS b z true else
 if fmt = 6 then oneS b z else
 if fmt = 8 then trimS b 2 z else
 if fmt = 10 then (uS b 2 2).bind fun u => if u = 1 ∨ u = 2 ∨ u = 4 then trimS b 4 u else none
 else none
def lookS (b : List Int) (glyphs z : Int) : Option (Int × List Pt) :=
 (uS b 0 2).bind fun fmt => (partsS b glyphs z fmt).bind fun ps => if risesS ps then some (fmt, ps) else none
def Pt.num (p : Pt) (id : Int) : Option Int := p.vals[(min (id - p.first) ((p.vals.length : Int) - 1)).toNat]?
def getS (ps : List Pt) (id : Int) : Option Int := (ps.find? fun p => decide (id ≤ p.last)).bind fun p => if p.first ≤ id then p.num id else none
theorem find_first {α : Type} (q : α → Bool) : ∀ (l : List α) (i : Nat), IsFirst l.length (fun j => (l[j]?).elim false q) i → l.find? q = l[i]?
 | [], i, h => by simp
 | x :: l, 0, h => by
  have := h.2.2 0 (Nat.le_refl _) (by simp)
  simp at this
  simp [this]
 | x :: l, i + 1, h => by
  have h0 := h.2.1 0 (by omega)
  simp at h0
  rw [List.find?_cons, h0]
  simp only [List.getElem?_cons_succ]
  exact find_first q l i ⟨by simpa using h.1, fun j hj => by simpa using h.2.1 (j + 1) (by omega), fun j h1 h2 => by simpa using h.2.2 (j + 1) (by omega) (by simpa using h2)⟩
def Pt.ok (p : Pt) : Prop := 0 ≤ p.first ∧ p.first ≤ p.last ∧ p.last < 65536 ∧ p.vals ≠ [] ∧ (p.vals.length : Int) ≤ 65536 ∧ ∀ x, x ∈ p.vals → 0 ≤ x ∧ x < 4294967296
theorem num_lt4 {l : List Int} (h : Byt l) (hl : l.length ≤ 4) : 0 ≤ num l ∧ num l < 4294967296 := by
 have := num_bound l h
 have h4 : l.length = 0 ∨ l.length = 1 ∨ l.length = 2 ∨ l.length = 3 ∨ l.length = 4 := by omega
 rcases h4 with e | e | e | e | e <;> rw [e] at this <;> omega
theorem cutRows_byt {r : List Int} (hb : Byt r) (z n : Nat) {l : List Int} (h : l ∈ cutRows r z n) : Byt l ∧ l.length ≤ z := by
 obtain ⟨i, _, rfl⟩ := List.mem_map.1 h
 exact ⟨fun x hx => hb x (List.mem_of_mem_drop (List.mem_of_mem_take hx)), by simp; omega⟩
theorem rowsS_n {b : List Int} {i n z : Int} {r : List Int} (h : rowsS b i n z = some r) : 0 ≤ n ∧ 0 ≤ z ∧ 0 ≤ i ∧ i ≤ b.length ∧ n * z ≤ b.length - i ∧ r = (b.drop i.toNat).take (n * z).toNat := by
 unfold rowsS at h
 split at h
 ·rename_i hc
  unfold pieceS at h
  split at h
  ·rename_i hd
   injection h with h
   exact ⟨hc.1, hc.2.1, hd.1, hd.2.2.1, hd.2.2.2, h.symm⟩
  ·cases h
 ·cases h
theorem listS_spec {b : List Int} (hb : Byt b) {i n z : Int} {vs : List Int} (hz : z ≤ 4) (h : listS b i n z = some vs) : 0 ≤ n ∧ (vs.length : Int) = n ∧ ∀ x, x ∈ vs → 0 ≤ x ∧ x < 4294967296 := by
 unfold listS at h
 obtain ⟨r, hr, rfl⟩ := Option.map_eq_some_iff.1 h
 have h1 := rowsS_n hr
 have h2 := (hb.piece (rowsS_piece hr)).1
 refine ⟨h1.1, by simp; omega, fun x hx => ?_⟩
 obtain ⟨l, hl, rfl⟩ := List.mem_map.1 hx
 obtain ⟨h3, h4⟩ := cutRows_byt h2 _ _ hl
 exact num_lt4 h3 (by omega)
theorem takeS_spec {b : List Int} (hb : Byt b) {i need : Int} {keys : Nat} {rows : List (List Int)} (h : takeS b i need keys = some rows) : ∃ z n : Int, uS b i 2 = some z ∧ uS b (i + 2) 2 = some n ∧ need ≤ z ∧ (rows.length : Int) ≤ n ∧ ∀ row, row ∈ rows → Byt row ∧ (row.length : Int) = z := by
 unfold takeS at h
 split at h
 ·rename_i z n h1 h2
  split at h
  ·rename_i hc
   obtain ⟨r, hr, rfl⟩ := Option.map_eq_some_iff.1 h
   have hn := rowsS_n hr
   have hrb := (hb.piece (rowsS_piece hr)).1
   have hrl : (r.length : Int) = n * z := pieceS_len (rowsS_piece hr)
   refine ⟨z, n, h1, h2, hc.2, ?_, fun row hrow => ?_⟩
   ·unfold endRows
    split <;> simp <;> omega
   ·have hm : row ∈ cutRows r z.toNat n.toNat := by
     unfold endRows at hrow
     split at hrow
     ·obtain ⟨i, hi, rfl⟩ := List.mem_map.1 hrow
      exact List.mem_map.2 ⟨i, List.mem_range.2 (by have := List.mem_range.1 hi; omega), rfl⟩
     ·exact hrow
    refine ⟨(cutRows_byt hrb _ _ hm).1, ?_⟩
    obtain ⟨j, hj, rfl⟩ := List.mem_map.1 hm
    have hj := List.mem_range.1 hj
    obtain ⟨z', rfl⟩ := Int.eq_ofNat_of_zero_le hn.2.1
    obtain ⟨n', rfl⟩ := Int.eq_ofNat_of_zero_le hn.1
    have hrl : r.length = n' * z' := by exact_mod_cast hrl
    simp only [Int.toNat_natCast] at hj ⊢
    have : z' * j + z' ≤ r.length := by
     rw [hrl, ← Nat.mul_succ, Nat.mul_comm]
     exact Nat.mul_le_mul_right _ hj
    simp; omega
  ·cases h
 ·cases h
theorem trimS_ok {b : List Int} (hb : Byt b) {i z : Int} (hz : z ≤ 4) {ps : List Pt} (h : trimS b i z = some ps) : ∀ p, p ∈ ps → p.ok := by
 unfold trimS at h
 obtain ⟨f, hf, h⟩ := Option.bind_eq_some_iff.1 h
 obtain ⟨n, hn, h⟩ := Option.bind_eq_some_iff.1 h
 split at h
 ·rename_i hc
  obtain ⟨vs, hv, rfl⟩ := Option.map_eq_some_iff.1 h
  have hs := listS_spec hb hz hv
  have hf := uS_two hb hf
  have hn := uS_two hb hn
  intro p hp
  split at hp
  ·simp at hp
  ·simp at hp
   subst hp
   exact ⟨by simp; omega, by simp; omega, by simp; omega, fun e => by simp at e; simp [e] at hs; omega, by simp; omega, hs.2.2⟩
 ·cases h
theorem segP_ok {b row : List Int} (hb : Byt b) (hr : Byt row) {z : Int} (hz : z = 2 ∨ z = 4) {each : Bool} {p : Pt} (h : segP b z each row = some p) : p.ok := by
 unfold segP at h
 obtain ⟨f, hf, h⟩ := Option.bind_eq_some_iff.1 h
 obtain ⟨l, hl, h⟩ := Option.bind_eq_some_iff.1 h
 have hf := uS_two hr hf
 have hl := uS_two hr hl
 split at h
 ·split at h
  ·obtain ⟨i, hi, h⟩ := Option.bind_eq_some_iff.1 h
   obtain ⟨vs, hv, rfl⟩ := Option.map_eq_some_iff.1 h
   have hs := listS_spec hb (by omega) hv
   exact ⟨by simp; omega, by simpa, by simp; omega, fun e => by simp at e; simp [e] at hs; omega, by simp; omega, hs.2.2⟩
  ·obtain ⟨x, hx, rfl⟩ := Option.map_eq_some_iff.1 h
   refine ⟨by simp; omega, by simpa, by simp; omega, by simp, by simp, fun y hy => ?_⟩
   simp at hy
   subst hy
   rcases hz with rfl | rfl
   ·have := uS_two hr hx; omega
   ·have := uS_four hr hx; omega
 ·cases h
theorem oneP_ok {row : List Int} (hr : Byt row) {z : Int} (hz : z = 2 ∨ z = 4) {p : Pt} (h : oneP z row = some p) : p.ok := by
 unfold oneP at h
 obtain ⟨i, hi, h⟩ := Option.bind_eq_some_iff.1 h
 obtain ⟨x, hx, rfl⟩ := Option.map_eq_some_iff.1 h
 have hi := uS_two hr hi
 refine ⟨by simp; omega, by simp, by simp; omega, by simp, by simp, fun y hy => ?_⟩
 simp at hy
 subst hy
 rcases hz with rfl | rfl
 ·have := uS_two hr hx; omega
 ·have := uS_four hr hx; omega
theorem mapO_all {α β : Type} {f : α → Option β} {l : List α} {r : List β} (h : mapO f l = some r) {P : β → Prop} (hp : ∀ x y, x ∈ l → f x = some y → P y) : ∀ y, y ∈ r → P y := by
 intro y hy
 obtain ⟨i, hi⟩ := List.mem_iff_getElem?.1 hy
 obtain ⟨x, hx, hf⟩ := mapO_get h hi
 exact hp x y (List.mem_of_getElem? hx) hf
theorem partsS_ok {b : List Int} (hb : Byt b) {glyphs z fmt : Int} (hg : 1 ≤ glyphs) (hg2 : glyphs ≤ 65535) (hz : z = 2 ∨ z = 4) {ps : List Pt} (h : partsS b glyphs z fmt = some ps) : ∀ p, p ∈ ps → p.ok := by
 unfold partsS at h
 split at h
 ·obtain ⟨vs, hv, rfl⟩ := Option.map_eq_some_iff.1 h
  have hs := listS_spec hb (by omega) hv
  intro p hp
  simp at hp
  subst hp
  exact ⟨by simp, by simp; omega, by simp; omega, fun e => by simp at e; simp [e] at hs; omega, by simp; omega, hs.2.2⟩
 split at h
 ·obtain ⟨rows, h1, h2⟩ := Option.bind_eq_some_iff.1 h
  obtain ⟨_, _, _, _, _, _, hr⟩ := takeS_spec hb h1
  exact mapO_all h2 fun x y hx hy => segP_ok hb (hr x hx).1 hz hy
 split at h
 ·obtain ⟨rows, h1, h2⟩ := Option.bind_eq_some_iff.1 h
  obtain ⟨_, _, _, _, _, _, hr⟩ := takeS_spec hb h1
  exact mapO_all h2 fun x y hx hy => segP_ok hb (hr x hx).1 hz hy
 split at h
 ·obtain ⟨rows, h1, h2⟩ := Option.bind_eq_some_iff.1 h
  obtain ⟨_, _, _, _, _, _, hr⟩ := takeS_spec hb h1
  exact mapO_all h2 fun x y hx hy => oneP_ok (hr x hx).1 hz hy
 split at h
 ·exact trimS_ok hb (by omega) h
 split at h
 ·obtain ⟨u, _, h⟩ := Option.bind_eq_some_iff.1 h
  split at h
  ·exact trimS_ok hb (by omega) h
  ·cases h
 ·cases h
theorem lookS_ok {b : List Int} (hb : Byt b) {glyphs z fmt : Int} (hg : 1 ≤ glyphs) (hg2 : glyphs ≤ 65535) (hz : z = 2 ∨ z = 4) {ps : List Pt} (h : lookS b glyphs z = some (fmt, ps)) : uS b 0 2 = some fmt ∧ (∀ p, p ∈ ps → p.ok) ∧ risesS ps = true := by
 unfold lookS at h
 obtain ⟨f, hf, h⟩ := Option.bind_eq_some_iff.1 h
 obtain ⟨qs, hq, h⟩ := Option.bind_eq_some_iff.1 h
 split at h
 ·rename_i hr
  injection h with h; injection h with h1 h2
  subst h1 h2
  exact ⟨hf, partsS_ok hb hg hg2 hz hq, hr⟩
 ·cases h
theorem segS_len {b : List Int} (hb : Byt b) {z : Int} {each : Bool} {ps : List Pt} (h : segS b z each = some ps) : ps.length < 65536 := by
 obtain ⟨rows, h1, h2⟩ := Option.bind_eq_some_iff.1 h
 obtain ⟨_, n, _, hn, _, hlen, _⟩ := takeS_spec hb h1
 have := uS_two hb hn
 have := mapO_len h2
 omega
theorem oneS_len {b : List Int} (hb : Byt b) {z : Int} {ps : List Pt} (h : oneS b z = some ps) : ps.length < 65536 := by
 obtain ⟨rows, h1, h2⟩ := Option.bind_eq_some_iff.1 h
 obtain ⟨_, n, _, hn, _, hlen, _⟩ := takeS_spec hb h1
 have := uS_two hb hn
 have := mapO_len h2
 omega
theorem trimS_len {b : List Int} {i z : Int} {ps : List Pt} (h : trimS b i z = some ps) : ps.length < 65536 := by
 obtain ⟨f, _, h⟩ := Option.bind_eq_some_iff.1 h
 obtain ⟨n, _, h⟩ := Option.bind_eq_some_iff.1 h
 split at h
 ·obtain ⟨vs, _, rfl⟩ := Option.map_eq_some_iff.1 h
  split <;> simp
 ·cases h
theorem lookS_len {b : List Int} (hb : Byt b) {g z : Int} {x : Int × List Pt} (h : lookS b g z = some x) : x.2.length < 2 ^ 31 := by
 unfold lookS at h
 obtain ⟨f, _, h⟩ := Option.bind_eq_some_iff.1 h
 obtain ⟨ps, h1, h⟩ := Option.bind_eq_some_iff.1 h
 split at h
 ·injection h with h
  subst h
  dsimp only
  unfold partsS at h1
  split at h1
  ·obtain ⟨vs, _, rfl⟩ := Option.map_eq_some_iff.1 h1
   simp
  split at h1
  ·have := segS_len hb h1; omega
  split at h1
  ·have := segS_len hb h1; omega
  split at h1
  ·have := oneS_len hb h1; omega
  split at h1
  ·have := trimS_len h1; omega
  split at h1
  ·obtain ⟨u, _, h1⟩ := Option.bind_eq_some_iff.1 h1
   split at h1
   ·have := trimS_len h1; omega
   ·cases h1
  ·cases h1
 ·cases h
theorem risesS_get : ∀ {ps : List Pt}, risesS ps = true → (∀ p, p ∈ ps → p.ok) → ∀ (i j : Nat) (p q : Pt), i < j → ps[i]? = some p → ps[j]? = some q → p.last < q.first
 | [], _, _, i, j, p, q, _, hp, _ => by simp at hp
 | [_], _, _, i, j, p, q, hij, hp, hq => by
  have h1 := (List.getElem?_eq_some_iff.1 hq).1
  simp at h1
  omega
 | a :: b :: l, h, hok, i, j, p, q, hij, hp, hq => by
  simp only [risesS, Bool.and_eq_true, decide_eq_true_eq] at h
  obtain ⟨j, rfl⟩ : ∃ j', j = j' + 1 := ⟨j - 1, by omega⟩
  have hq : (b :: l)[j]? = some q := by simpa using hq
  have hok' : ∀ p, p ∈ b :: l → p.ok := fun p hp => hok p (by simp at hp ⊢; exact .inr hp)
  cases i with
  | succ i => exact risesS_get h.2 hok' i j p q (by omega) (by simpa using hp) hq
  | zero =>
   simp at hp
   subst hp
   cases j with
   | zero => simp at hq; subst hq; exact h.1
   | succ j =>
    have h1 := risesS_get h.2 hok' 0 (j + 1) b q (by omega) (by simp) hq
    have h2 := hok b (by simp)
    have := h2.2.1
    omega
theorem getS_first {ps : List Pt} (id : Int) (i : Nat) (h : IsFirst ps.length (fun j => (ps[j]?).elim false fun p => decide (id ≤ p.last)) i) : getS ps id = (ps[i]?).bind fun p => if p.first ≤ id then p.num id else none := by
 unfold getS
 rw [find_first _ ps i h]
theorem Pt.num_some {p : Pt} (h : p.ok) {id : Int} (hf : p.first ≤ id) : ∃ x, p.num id = some x ∧ 0 ≤ x ∧ x < 4294967296 := by
 obtain ⟨h1, h2, h3, h4, h5, h6⟩ := h
 have hl : 0 < p.vals.length := List.length_pos_iff.2 h4
 unfold Pt.num
 have hi : (min (id - p.first) ((p.vals.length : Int) - 1)).toNat < p.vals.length := by omega
 exact ⟨p.vals[(min (id - p.first) ((p.vals.length : Int) - 1)).toNat], List.getElem?_eq_getElem hi, h6 _ (List.getElem_mem _)⟩
end Go.Sw
end
section
namespace Go.Sw
open Go.RowKit
theorem pieceS_iff {b : List Int} {i n : Int} {r : List Int} : pieceS b i n = some r ↔ (0 ≤ i ∧ 0 ≤ n ∧ i ≤ b.length ∧ n ≤ b.length - i) ∧ r = (b.drop i.toNat).take n.toNat := by
 unfold pieceS
 split
 ·rename_i h
  constructor
  ·intro e; injection e with e; exact ⟨h, e.symm⟩
  ·rintro ⟨_, rfl⟩; rfl
 ·rename_i h
  constructor
  ·intro e; cases e
  ·rintro ⟨h', _⟩; exact absurd h' h
theorem uS_sub {b r : List Int} {p z : Int} (h : pieceS b p z = some r) {x y : Int} (hx : 0 ≤ x) (hy : 0 ≤ y) (hxy : x + y ≤ z) : uS r x y = uS b (p + x) y := by
 obtain ⟨⟨h1, h2, h3, h4⟩, rfl⟩ := pieceS_iff.1 h
 have hl : ((b.drop p.toNat).take z.toNat).length = z.toNat := by simp; omega
 unfold uS
 rw [pieceS_iff.2 ⟨by rw [hl]; omega, rfl⟩, pieceS_iff.2 ⟨by omega, rfl⟩, List.drop_take, List.take_take, List.drop_drop]
 rw [show min y.toNat (z.toNat - x.toNat) = y.toNat by omega, show p.toNat + x.toNat = (p + x).toNat by omega]
theorem rowsS_iff {b : List Int} {i n z : Int} {r : List Int} (hz : 0 < z) : rowsS b i n z = some r ↔ (0 ≤ i ∧ 0 ≤ n ∧ i ≤ b.length ∧ n * z ≤ b.length - i) ∧ r = (b.drop i.toNat).take (n * z).toNat := by
 unfold rowsS
 have k : n ≤ (b.length : Int) / z ↔ n * z ≤ b.length := Int.le_ediv_iff_mul_le hz
 split
 ·rename_i h
  rw [pieceS_iff]
  constructor
  ·rintro ⟨h1, h2⟩; exact ⟨⟨h1.1, h.1, h1.2.2.1, h1.2.2.2⟩, h2⟩
  ·rintro ⟨h1, h2⟩; exact ⟨⟨h1.1, Int.mul_nonneg h.1 (by omega), h1.2.2.1, h1.2.2.2⟩, h2⟩
 ·rename_i h
  constructor
  ·intro e; cases e
  ·rintro ⟨h1, _⟩
   exact absurd ⟨h1.2.1, by omega, .inr (k.2 (by omega))⟩ h
theorem rowsB_iff {s i n z : Int} (hz : 0 < z) : rowsB s i n z = true ↔ 0 ≤ i ∧ 0 ≤ n ∧ i ≤ s ∧ n * z ≤ s - i := by
 unfold rowsB
 have k : n ≤ (s - i) / z ↔ n * z ≤ s - i := Int.le_ediv_iff_mul_le hz
 rw [decide_eq_true_eq, k]
 constructor
 ·rintro ⟨h1, h2, h3, h4, h5⟩; exact ⟨h1, h2, h4, by rcases h5 with h5 | h5 <;> omega⟩
 ·rintro ⟨h1, h2, h3, h4⟩; exact ⟨h1, h2, by omega, h3, .inr h4⟩
theorem listS_isSome {b : List Int} {i n z : Int} (hz : 0 < z) : (listS b i n z).isSome = rowsB b.length i n z := by
 rw [Bool.eq_iff_iff, rowsB_iff hz, listS, Option.isSome_map, Option.isSome_iff_exists]
 constructor
 ·rintro ⟨r, hr⟩; exact ((rowsS_iff hz).1 hr).1
 ·intro h; exact ⟨_, (rowsS_iff hz).2 ⟨h, rfl⟩⟩
theorem listS_get {b : List Int} {i n z : Int} {vs : List Int} (hz : 0 < z) (h : listS b i n z = some vs) (j : Nat) (hj : (j : Int) < n) : vs[j]? = uS b (i + j * z) z := by
 unfold listS at h
 obtain ⟨r, hr, rfl⟩ := Option.map_eq_some_iff.1 h
 obtain ⟨⟨h1, h2, h3, h4⟩, rfl⟩ := (rowsS_iff hz).1 hr
 obtain ⟨i, rfl⟩ := Int.eq_ofNat_of_zero_le h1
 obtain ⟨n, rfl⟩ := Int.eq_ofNat_of_zero_le h2
 obtain ⟨z, rfl⟩ := Int.eq_ofNat_of_zero_le (Int.le_of_lt hz)
 have hj' : j < n := by omega
 have e : j * z + z ≤ n * z := by
  rw [← Nat.succ_mul]; exact Nat.mul_le_mul_right _ hj'
 have h4' : n * z ≤ b.length - i := by omega
 simp only [Int.toNat_natCast]
 rw [List.getElem?_map, cutRows_get _ _ _ _ hj', Option.map_some]
 unfold uS
 rw [pieceS_iff.2 ⟨⟨by omega, by omega, by
  have : ((j * z : Nat) : Int) = (j : Int) * z := by simp
  omega, by
  have : ((j * z : Nat) : Int) = (j : Int) * z := by simp
  omega⟩, rfl⟩, Option.map_some]
 congr 2
 rw [show ((n : Int) * z).toNat = n * z by rw [← Int.natCast_mul, Int.toNat_natCast], show ((i : Int) + j * z).toNat = i + j * z by rw [← Int.natCast_mul, ← Int.natCast_add, Int.toNat_natCast], Int.toNat_natCast]
 rw [List.drop_take, List.take_take, List.drop_drop, Nat.mul_comm z j]
 rw [show min z (n * z - j * z) = z by omega]
def gU (b : List Int) (i n : Int) : Int := (uS b i n).getD (-1)
theorem gU_two {b : List Int} (hb : Byt b) (i : Int) : -1 ≤ gU b i 2 ∧ gU b i 2 < 65536 := by
 unfold gU
 cases h : uS b i 2 with
 | none => simp
 | some x => have := uS_two hb h; simp; omega
structure RP where
 first : Int
 last : Int
 pos : Int
 size : Int
 step : Int
theorem gU_some {b : List Int} {i n x : Int} (h : uS b i n = some x) : gU b i n = x := by unfold gU; rw [h]; rfl
theorem row_two {b row : List Int} {p z : Int} (h : pieceS b p z = some row) {x : Int} (hx : 0 ≤ x) {y : Int} (hy : 0 ≤ y) (hxy : x + y ≤ z) : uS row x y = uS b (p + x) y ∧ ∃ n, uS b (p + x) y = some n := by
 refine ⟨uS_sub h hx hy hxy, ?_⟩
 obtain ⟨⟨h1, h2, h3, h4⟩, _⟩ := pieceS_iff.1 h
 unfold uS
 rw [pieceS_iff.2 ⟨by omega, rfl⟩]
 exact ⟨_, rfl⟩
end Go.Sw
end
section
namespace Go.Sw
open Go.RowKit
def bytesOf (n : Int) : Nat → List Int
 | 0 => []
 | k + 1 => (n / 256 ^ k) % 256 :: bytesOf n k
@[simp] theorem bytesOf_len (n : Int) : ∀ k, (bytesOf n k).length = k
 | 0 => rfl
 | k + 1 => by simp [bytesOf, bytesOf_len n k]
theorem bytesOf_byt (n : Int) : ∀ k, Byt (bytesOf n k)
 | 0 => fun x hx => by simp [bytesOf] at hx
 | k + 1 => fun x hx => by
  simp only [bytesOf, List.mem_cons] at hx
  rcases hx with rfl | hx
  ·omega
  ·exact bytesOf_byt n k x hx
theorem num_cons (x : Int) (l : List Int) : num (x :: l) = x * 256 ^ l.length + num l := by
 have h : ∀ (l : List Int) (a : Int), l.foldl (fun x y => 256 * x + y) a = a * 256 ^ l.length + l.foldl (fun x y => 256 * x + y) 0 := by
  intro l
  induction l with
  | nil => intro a; simp
  | cons y l ih =>
   intro a
   simp only [List.foldl_cons, List.length_cons]
   rw [ih, ih (256 * 0 + y), Int.pow_succ]
   simp only [Int.mul_zero, Int.zero_add, Int.add_mul]
   rw [Int.mul_comm 256 a, Int.mul_assoc a 256, Int.mul_comm 256 (256 ^ l.length)]
   omega
 unfold num
 rw [List.foldl_cons, h]
 simp
theorem num_mod (n : Int) : ∀ k, num (bytesOf n k) = n % 256 ^ k
 | 0 => by simp [bytesOf, num, Int.emod_one]
 | k + 1 => by
  rw [bytesOf, num_cons, num_mod n k, bytesOf_len, Int.pow_succ]
  have h1 := Int.emod_add_mul_ediv n (256 ^ k)
  have h2 := Int.emod_add_mul_ediv (n / 256 ^ k) 256
  have hp : (0 : Int) < 256 ^ k := Int.pow_pos (by decide)
  have h3 : n % (256 ^ k * 256) = n - 256 ^ k * 256 * (n / (256 ^ k * 256)) := by
   have := Int.emod_add_mul_ediv n (256 ^ k * 256)
   omega
  rw [h3, ← Int.ediv_ediv_of_nonneg (Int.le_of_lt hp), Int.mul_assoc]
  generalize n / 256 ^ k / 256 = d at h2 ⊢
  generalize n / 256 ^ k = c at h1 h2 ⊢
  generalize (256 : Int) ^ k = p at *
  have h4 : c % 256 = c - 256 * d := by omega
  rw [h4, Int.sub_mul]
  have : p * (256 * d) = 256 * d * p := Int.mul_comm _ _
  have : p * c = c * p := Int.mul_comm _ _
  omega
theorem num_bytesOf {n : Int} {k : Nat} (h0 : 0 ≤ n) (h1 : n < 256 ^ k) : num (bytesOf n k) = n := by
 rw [num_mod, Int.emod_eq_of_lt h0 h1]
theorem pieceS_at (p m q : List Int) (i k : Int) (hi : i = p.length) (hk : k = m.length) : pieceS (p ++ (m ++ q)) i k = some m := by
 subst hi hk
 rw [pieceS_iff]
 refine ⟨⟨by omega, by omega, by simp; omega, by simp; omega⟩, ?_⟩
 simp
theorem uS_at (p q : List Int) {n : Int} {k : Nat} (i z : Int) (hi : i = p.length) (hz : z = k) (h0 : 0 ≤ n) (h1 : n < 256 ^ k) : uS (p ++ (bytesOf n k ++ q)) i z = some n := by
 unfold uS
 rw [pieceS_at p (bytesOf n k) q i z hi (by simpa using hz), Option.map_some, num_bytesOf h0 h1]
theorem Byt.app {a b : List Int} (ha : Byt a) (hb : Byt b) : Byt (a ++ b) := fun x hx => by
 rcases List.mem_append.1 hx with h | h
 ·exact ha x h
 ·exact hb x h
theorem Byt.flat {l : List (List Int)} (h : ∀ r, r ∈ l → Byt r) : Byt l.flatten := fun x hx => by
 obtain ⟨r, hr, hx⟩ := List.mem_flatten.1 hx
 exact h r hr x hx
theorem Byt.nil : Byt [] := fun x hx => by cases hx
theorem flat_len {z : Nat} : ∀ {rs : List (List Int)}, (∀ r, r ∈ rs → r.length = z) → rs.flatten.length = rs.length * z
 | [], _ => by simp
 | r :: rs, h => by
  have h1 := h r (by simp)
  have h2 := flat_len (rs := rs) fun q hq => h q (by simp [hq])
  simp only [List.flatten_cons, List.length_append, List.length_cons, h1, h2, Nat.succ_mul]
  omega
structure Pr where
 id : Int
 x : Int
def Pr.ok (p : Pr) : Prop := 0 ≤ p.id ∧ p.id < 65536 ∧ 0 ≤ p.x ∧ p.x < 65536
theorem mapO_some {α β : Type} {f : α → Option β} : ∀ {l : List α} {r : List β}, l.length = r.length → (∀ (i : Nat) x y, l[i]? = some x → r[i]? = some y → f x = some y) → mapO f l = some r
 | [], [], _, _ => rfl
 | [], _ :: _, h, _ => by simp at h
 | _ :: _, [], h, _ => by simp at h
 | x :: l, y :: r, h, hf => by
  have h1 := hf 0 x y (by simp) (by simp)
  have h2 := mapO_some (f := f) (l := l) (r := r) (by simpa using h) fun i a b ha hb => hf (i + 1) a b (by simpa using ha) (by simpa using hb)
  simp [mapO, h1, h2]
end Go.Sw
end
section
namespace Go.Sw
open Go.RowKit
structure En where
 next : Int
 flags : Int
 a : Int
 b : Int
theorem mapO_append {α β : Type} (f : α → Option β) : ∀ (l m : List α), mapO f (l ++ m) = (mapO f l).bind fun x => (mapO f m).map fun y => x ++ y
 | [], m => by
  simp only [List.nil_append, mapO, Option.bind_some]
  cases mapO f m <;> rfl
 | x :: l, m => by
  simp only [List.cons_append, mapO, mapO_append f l m]
  cases f x with
  | none => rfl
  | some y =>
   simp only [Option.bind_some]
   cases mapO f l with
   | none => rfl
   | some r =>
    simp only [Option.bind_some, Option.map_some]
    cases mapO f m <;> rfl
theorem mapO_range {β : Type} (f : Nat → Option β) (n : Nat) : mapO f (List.range (n + 1)) = (mapO f (List.range n)).bind fun r => (f n).map fun y => r ++ [y] := by
 rw [List.range_succ, mapO_append]
 congr 1
 funext r
 simp only [mapO]
 cases f n <;> rfl
theorem mapO_prefix {β : Type} {f : Nat → Option β} {n m : Nat} (h : n ≤ m) {r : List β} (hr : mapO f (List.range m) = some r) : mapO f (List.range n) = some (r.take n) := by
 obtain ⟨d, rfl⟩ := Nat.exists_eq_add_of_le h
 rw [List.range_add, mapO_append] at hr
 obtain ⟨x, hx, hr⟩ := Option.bind_eq_some_iff.1 hr
 obtain ⟨y, hy, rfl⟩ := Option.map_eq_some_iff.1 hr
 have := mapO_len hx
 rw [hx, List.take_left' (by simpa using this)]
def needL (l : List Int) : Int := l.foldl (fun m x => max m (x + 1)) 0
theorem foldl_max1 (l : List Int) : ∀ m : Int, l.foldl (fun m x => max m (x + 1)) m = max m (l.foldl (fun m x => max m (x + 1)) (0 : Int)) ∨ m < 0 := by
 induction l with
 | nil => intro m; simp; omega
 | cons x l ih =>
  intro m
  rcases Int.lt_or_le m 0 with h | h
  ·exact .inr h
  ·left
   simp only [List.foldl_cons]
   rcases ih (max m (x + 1)) with h1 | h1
   ·rcases ih (max 0 (x + 1)) with h2 | h2
    ·rw [h1, h2]; omega
    ·omega
   ·omega
theorem needL_snoc (l : List Int) (x : Int) : needL (l ++ [x]) = max (needL l) (x + 1) := by simp [needL]
theorem needL_nonneg : ∀ l : List Int, 0 ≤ needL l := fun l => by
 have : ∀ (l : List Int) (m : Int), m ≤ l.foldl (fun m x => max m (x + 1)) m := by
  intro l
  induction l with
  | nil => intro m; exact Int.le_refl _
  | cons x l ih => intro m; exact Int.le_trans (by omega) (ih (max m (x + 1)))
 exact this l 0
theorem needL_append (l m : List Int) : needL (l ++ m) = max (needL l) (needL m) := by
 unfold needL
 rw [List.foldl_append]
 have h0 := needL_nonneg l
 unfold needL at h0
 rcases foldl_max1 m (l.foldl (fun m x => max m (x + 1)) 0) with h | h
 ·exact h
 ·omega
theorem needL_le {l : List Int} {x : Int} (h : x ∈ l) : x < needL l := by
  obtain ⟨a, b, rfl⟩ := List.append_of_mem h
  rw [needL_append, needL_append' (x := x) (b := b)]
  omega
where needL_append' {x : Int} {b : List Int} : needL (x :: b) = max (x + 1) (needL b) := by
        have := needL_append [x] b
        rw [List.singleton_append] at this
        rw [this]
        have : needL [x] = max 0 (x + 1) := rfl
        have := needL_nonneg b
        omega
theorem needL_lt {l : List Int} {n : Int} (hn : 0 ≤ n) (h : ∀ x, x ∈ l → x < n) : needL l ≤ n := by
 induction l with
 | nil => exact hn
 | cons x l ih =>
  have h1 := h x (by simp)
  have h2 := ih fun y hy => h y (by simp [hy])
  have := needL_append [x] l
  rw [List.singleton_append] at this
  rw [this]
  have : needL [x] = max 0 (x + 1) := rfl
  omega
def rowK (rv : List Int) (n : Int) (k : Nat) : Option (List Int) := listS rv (2 * n * k) n 2
def entOf (w : Int) (r : List Int) : En := ⟨gU r 0 2, gU r 2 2, if 0 < w then gU r 4 2 else 0, if 1 < w then gU r 6 2 else 0⟩
def entK (ev : List Int) (w : Int) (k : Nat) : Option En := (pieceS ev ((4 + 2 * w) * k) (4 + 2 * w)).map (entOf w)
def rowsTo (rv : List Int) (n : Int) (m : Nat) : Option (List (List Int)) := mapO (rowK rv n) (List.range m)
def entsTo (ev : List Int) (w : Int) (m : Nat) : Option (List En) := mapO (entK ev w) (List.range m)
def needR (rs : List (List Int)) : Int := needL rs.flatten
def needE (es : List En) : Int := max 2 (needL (es.map En.next))
def closeS (rv ev : List Int) (n w : Int) : Nat → Nat → Option (List (List Int) × List En)
 | 0, _ => none
 | f + 1, s => (rowsTo rv n s).bind fun rs => (entsTo ev w (needR rs).toNat).bind fun es => if (needE es).toNat ≤ s then some (rs, es) else closeS rv ev n w f (needE es).toNat
def closeA (rv ev : List Int) (n w : Int) (s : Nat) : Option (List (List Int) × List En) := closeS rv ev n w (65538 - s) s
theorem entK_next {ev : List Int} (hb : Byt ev) {w : Int} {k : Nat} {e : En} (h : entK ev w k = some e) : -1 ≤ e.next ∧ e.next < 65536 := by
 unfold entK at h
 obtain ⟨r, hr, rfl⟩ := Option.map_eq_some_iff.1 h
 exact gU_two (hb.piece hr).1 0
theorem needE_le {ev : List Int} (hb : Byt ev) {w : Int} {m : Nat} {es : List En} (h : entsTo ev w m = some es) : 2 ≤ needE es ∧ needE es ≤ 65536 := by
 refine ⟨by unfold needE; omega, ?_⟩
 have : needL (es.map En.next) ≤ 65536 := needL_lt (by omega) fun x hx => by
  obtain ⟨e, he, rfl⟩ := List.mem_map.1 hx
  obtain ⟨i, hi⟩ := List.getElem?_of_mem he
  obtain ⟨k, _, hk⟩ := mapO_get h hi
  exact (entK_next hb hk).2
 unfold needE
 omega
theorem closeS_fuel {rv ev : List Int} (hb : Byt ev) {n w : Int} : ∀ (f g s : Nat), 65537 - s ≤ f → 65537 - s ≤ g → s ≤ 65536 → closeS rv ev n w f s = closeS rv ev n w g s
 | 0, _, s, h1, _, h3 => by omega
 | _ + 1, 0, s, _, h2, h3 => by omega
 | f + 1, g + 1, s, h1, h2, h3 => by
  simp only [closeS]
  cases rowsTo rv n s with
  | none => rfl
  | some rs =>
   simp only [Option.bind_some]
   cases he : entsTo ev w (needR rs).toNat with
   | none => rfl
   | some es =>
    simp only [Option.bind_some]
    have := needE_le hb he
    split
    ·rfl
    ·exact closeS_fuel hb f g _ (by omega) (by omega) (by omega)
theorem closeA_eq {rv ev : List Int} (hb : Byt ev) {n w : Int} {s : Nat} (hs : s ≤ 65536) : closeA rv ev n w s =
  (rowsTo rv n s).bind fun rs => (entsTo ev w (needR rs).toNat).bind fun es => if (needE es).toNat ≤ s then some (rs, es) else closeA rv ev n w (needE es).toNat := by
 unfold closeA
 rw [show 65538 - s = (65537 - s) + 1 by omega]
 simp only [closeS]
 cases rowsTo rv n s with
 | none => rfl
 | some rs =>
  simp only [Option.bind_some]
  cases he : entsTo ev w (needR rs).toNat with
  | none => rfl
  | some es =>
   simp only [Option.bind_some]
   have := needE_le hb he
   split
   ·rfl
   ·exact closeS_fuel hb _ _ _ (by omega) (by omega) (by omega)
structure Mach where
 classes : Int
 tab : Int × List Pt
 rows : List (List Int)
 ents : List En
def machS (b : List Int) (g w : Int) : Option Mach :=
 (uS b 0 4).bind fun n => if 4 ≤ n ∧ n ≤ 65535 then
  (uS b 4 4).bind fun i => (restS b i).bind fun tb => (lookS tb g 2).bind fun tab =>
  (uS b 8 4).bind fun j => (restS b j).bind fun rv => (uS b 12 4).bind fun k => (restS b k).bind fun ev =>
  (closeA rv ev n w 2).map fun x => ⟨n, tab, x.1, x.2⟩
 else none
def classS (m : Mach) (id : Int) : Int := if id = 65535 then 2 else match getS m.tab.2 id with | some c => if c < m.classes then c else 1 | none => 1
def stepS (m : Mach) (s c : Int) : Option En := if 0 ≤ s ∧ s < m.rows.length ∧ 0 ≤ c ∧ c < m.classes then (m.rows[s.toNat]?).bind fun r => (r[c.toNat]?).bind fun x => m.ents[x.toNat]? else none
structure Mach.ok (m : Mach) : Prop where
 cl : 4 ≤ m.classes ∧ m.classes ≤ 65535
 pts : ∀ p, p ∈ m.tab.2 → p.ok
 rise : risesS m.tab.2 = true
 plen : m.tab.2.length < 2 ^ 31
 two : 2 ≤ m.rows.length ∧ m.rows.length ≤ 65536
 row : ∀ r, r ∈ m.rows → (r.length : Int) = m.classes ∧ ∀ x, x ∈ r → 0 ≤ x ∧ x < m.ents.length
 ent : ∀ e, e ∈ m.ents → 0 ≤ e.next ∧ e.next < m.rows.length ∧ 0 ≤ e.flags ∧ e.flags < 65536 ∧ 0 ≤ e.a ∧ e.a < 65536 ∧ 0 ≤ e.b ∧ e.b < 65536
 elen : m.ents.length ≤ 65536
theorem piece_gU {b r : List Int} (hb : Byt b) {p z : Int} (h : pieceS b p z = some r) {i : Int} (h0 : 0 ≤ i) (hi : i + 2 ≤ z) : uS r i 2 = some (gU r i 2) ∧ 0 ≤ gU r i 2 ∧ gU r i 2 < 65536 := by
 obtain ⟨e, x, hx⟩ := row_two h h0 (y := 2) (by omega) hi
 rw [hx] at e
 rw [gU_some e]
 have := uS_two (hb.piece h).1 e
 exact ⟨e, this⟩
theorem entK_ok {ev : List Int} (hb : Byt ev) {w : Int} (hw : 0 ≤ w ∧ w ≤ 2) {k : Nat} {e : En} (h : entK ev w k = some e) : 0 ≤ e.next ∧ 0 ≤ e.flags ∧ e.flags < 65536 ∧ 0 ≤ e.a ∧ e.a < 65536 ∧ 0 ≤ e.b ∧ e.b < 65536 := by
 unfold entK at h
 obtain ⟨r, hr, rfl⟩ := Option.map_eq_some_iff.1 h
 have g := fun i h0 h1 => (piece_gU hb hr (i := i) h0 h1).2
 unfold entOf
 dsimp only
 have g0 := g 0 (by omega) (by omega)
 have g2 := g 2 (by omega) (by omega)
 refine ⟨g0.1, g2.1, g2.2, ?_⟩
 by_cases h1 : 0 < w
 ·have g4 := g 4 (by omega) (by omega)
  rw [if_pos h1]
  by_cases h2 : 1 < w
  ·have g6 := g 6 (by omega) (by omega)
   rw [if_pos h2]
   omega
  ·rw [if_neg h2]; omega
 ·rw [if_neg h1, if_neg (by omega)]; omega
theorem closeS_ok {rv ev : List Int} (hr : Byt rv) (hb : Byt ev) {n w : Int} (hn : 0 ≤ n) (hw : 0 ≤ w ∧ w ≤ 2) : ∀ (f s : Nat) x, 2 ≤ s → s ≤ 65536 → closeS rv ev n w f s = some x →
  (2 ≤ x.1.length ∧ x.1.length ≤ 65536) ∧ (∀ r, r ∈ x.1 → (r.length : Int) = n ∧ ∀ y, y ∈ r → 0 ≤ y ∧ y < x.2.length) ∧ (∀ e, e ∈ x.2 → e.next < x.1.length) ∧ (∀ e, e ∈ x.2 → ∃ k, entK ev w k = some e) ∧ x.2.length ≤ 65536 ∧
  rowsTo rv n x.1.length = some x.1 ∧ entsTo ev w x.2.length = some x.2 ∧ (x.2.length : Int) = needR x.1 ∧ needE x.2 ≤ x.1.length
 | 0, _, _, _, _, h => by cases h
 | f + 1, s, x, h2, h3, h => by
  simp only [closeS] at h
  obtain ⟨rs, e1, h⟩ := Option.bind_eq_some_iff.1 h
  obtain ⟨es, e2, h⟩ := Option.bind_eq_some_iff.1 h
  have hE := needE_le hb e2
  split at h
  ·rename_i hs
   injection h with h
   subst h
   dsimp only
   have l1 : rs.length = s := by rw [mapO_len e1, List.length_range]
   have l2 : es.length = (needR rs).toNat := by rw [mapO_len e2, List.length_range]
   have hnn := needL_nonneg rs.flatten
   have hrow : ∀ r, r ∈ rs → (r.length : Int) = n ∧ ∀ y, y ∈ r → 0 ≤ y ∧ y < 65536 := fun r hrm => by
    obtain ⟨i, hi⟩ := List.getElem?_of_mem hrm
    obtain ⟨k, _, hk⟩ := mapO_get e1 hi
    unfold rowK listS at hk
    obtain ⟨q, hq, rfl⟩ := Option.map_eq_some_iff.1 hk
    have hqb := (hr.piece (rowsS_piece hq)).1
    refine ⟨by simp; omega, fun y hy => ?_⟩
    obtain ⟨c, hc, rfl⟩ := List.mem_map.1 hy
    obtain ⟨h5, h6⟩ := cutRows_byt hqb _ _ hc
    have := num_bound c h5
    have hp : (256 : Int) ^ c.length ≤ 256 ^ 2 := by
     have : c.length ≤ 2 := h6
     match hcl : c.length, this with
     | 0, _ => decide
     | 1, _ => decide
     | 2, _ => decide
    omega
   refine ⟨⟨by omega, by omega⟩, fun r hrm => ⟨(hrow r hrm).1, fun y hy => ⟨((hrow r hrm).2 y hy).1, ?_⟩⟩, fun e he => ?_, fun e he => ?_, ?_, by rw [l1]; exact e1, by rw [l2]; exact e2, by unfold needR at l2 ⊢; omega, by omega⟩
   ·have : y < needL rs.flatten := needL_le (List.mem_flatten.2 ⟨r, hrm, hy⟩)
    rw [l2]; unfold needR; omega
   ·have : e.next < needL (es.map En.next) := needL_le (List.mem_map.2 ⟨e, he, rfl⟩)
    unfold needE at hs
    omega
   ·obtain ⟨i, hi⟩ := List.getElem?_of_mem he
    obtain ⟨k, _, hk⟩ := mapO_get e2 hi
    exact ⟨_, hk⟩
   ·rw [l2]
    have : needL rs.flatten ≤ 65536 := needL_lt (by omega) fun y hy => by
     obtain ⟨r, hrm, hy⟩ := List.mem_flatten.1 hy
     exact ((hrow r hrm).2 y hy).2
    unfold needR
    omega
  ·exact closeS_ok hr hb hn hw f _ x (by omega) (by omega) h
theorem Byt.rest {b r : List Int} (hb : Byt b) {i : Int} (h : restS b i = some r) : Byt r := by
 unfold restS at h
 split at h
 ·injection h with h
  subst h
  exact fun x hx => hb x (List.mem_of_mem_drop hx)
 ·cases h
theorem machS_ok {b : List Int} (hb : Byt b) {g w : Int} (h1 : 1 ≤ g) (h2 : g ≤ 65535) (hw : 0 ≤ w ∧ w ≤ 2) {m : Mach} (h : machS b g w = some m) : m.ok := by
 unfold machS at h
 obtain ⟨n, _, h⟩ := Option.bind_eq_some_iff.1 h
 split at h
 rotate_left
 ·cases h
 rename_i hn
 obtain ⟨i, _, h⟩ := Option.bind_eq_some_iff.1 h
 obtain ⟨tb, htb, h⟩ := Option.bind_eq_some_iff.1 h
 obtain ⟨tab, htab, h⟩ := Option.bind_eq_some_iff.1 h
 obtain ⟨j, _, h⟩ := Option.bind_eq_some_iff.1 h
 obtain ⟨rv, hrv, h⟩ := Option.bind_eq_some_iff.1 h
 obtain ⟨k, _, h⟩ := Option.bind_eq_some_iff.1 h
 obtain ⟨ev, hev, h⟩ := Option.bind_eq_some_iff.1 h
 obtain ⟨x, hx, rfl⟩ := Option.map_eq_some_iff.1 h
 have hl := lookS_ok (hb.rest htb) h1 h2 (.inl rfl) htab
 have hpl := lookS_len (hb.rest htb) htab
 obtain ⟨c1, c2, c3, c4, c5, _⟩ := closeS_ok (hb.rest hrv) (hb.rest hev) (by omega) hw _ _ x (by omega) (by omega) hx
 refine ⟨hn, hl.2.1, hl.2.2, hpl, c1, c2, fun e he => ?_, c5⟩
 obtain ⟨k, hk⟩ := c4 e he
 have := entK_ok (hb.rest hev) hw hk
 exact ⟨this.1, c3 e he, this.2⟩
end Go.Sw
end
