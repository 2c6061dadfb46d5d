/-
  Rows that are found by rising numbers.
-/
import Derived.Test.YtnaodjnimkndbaaSwView
import Derived.Test.YtnaodjnimkndbaaSwGseek
namespace Go.Sw
open Go.RowKit

/-- What a search asks of a number, is answered. -/
def Asks (k : Nat) (f : Value) (n : Nat) (p : Nat → Bool) (H : Heap) : Prop := ∀ j : Nat, j < n → callV (R (T k)) f [.int .i64 j] H = .ok (.bool (p j)) H

/-- The first of so many numbers of which something holds that holds of all behind it, too. -/
def IsFirst (n : Nat) (p : Nat → Bool) (i : Nat) : Prop := i ≤ n ∧ (∀ j, j < i → p j = false) ∧ ∀ j, i ≤ j → j < n → p j = true

theorem First_run (k : Nat) (n : Nat) (f : Value) (p : Nat → Bool) (H : Heap) (hn : n < 2 ^ 62) (hf : Asks k f n p H) (hm : ∀ i j, i ≤ j → j < n → p i = true → p j = true) (i : Nat) (hi : IsFirst n p i) :
    R (T k) F.seek_First [.int .i64 n, f] H = .ok (.int .i64 i) H := by
  rw [seek_First_R]
  refine nrm_gc (Pure.of ?_) (.int _ _)
  obtain ⟨x, e', H1, hr, rfl, rfl, a, rfl⟩ := loopDec (body := seek_First_l1 k (R (T k)))
    (fun m e H' => H' = H ∧ ∃ lo hi : Nat, m = hi - lo ∧ e = [(1, f), (5, .int .i64 lo), (6, .int .i64 hi)] ∧ lo ≤ i ∧ i ≤ hi ∧ hi ≤ n)
    (fun x e H' => H' = H ∧ x = .exit 0 ∧ ∃ a, e = [(1, f), (5, .int .i64 i), (6, .int .i64 i), (11, a)])
    (e0 := [(1, f), (5, .int .i64 0), (6, .int .i64 n)]) (H0 := H) n ⟨rfl, 0, n, by omega, rfl, by omega, hi.1, Nat.le_refl _⟩ (by omega)
    (fun m e H' ⟨hH, lo, hg, hmm, he, h1, h2, h3⟩ => by
      subst hH he
      by_cases hlt : lo < hg
      · have hlt' : (lo : Int) < hg := by omega
        obtain ⟨d, hd1, hd2⟩ : ∃ d, 2 * d ≤ hg - lo ∧ hg - lo < 2 * d + 2 := ⟨(hg - lo) / 2, by omega, by omega⟩
        have hmid : (((hg : Int) - lo).tdiv 2) = (d : Nat) := by
          rw [Int.tdiv_eq_ediv_of_nonneg (by omega)]; omega
        have q := bin_quo Prog 3 H' .i64 ((hg : Int) - lo) 2 (by decide)
        rw [hmid] at q
        have ha := hf (lo + d) (by omega)
        rw [show (((lo + d : Nat) : Nat) : Int) = (lo : Int) + (d : Nat) by omega] at ha
        have hle : ((d : Nat) : Int) ≤ hg - lo := by omega
        refine .inl ?_
        cases hp : p (lo + d) with
        | true =>
          rw [hp] at ha
          refine ⟨(lo + d) - lo, _, H', ?_, by omega, rfl, lo, lo + d, rfl, rfl, h1, ?_, by omega⟩
          · rw [seek_First_l1_eq]
            simp -implicitDefEqProofs (disch := omega) [hlt', q, ha]
          · rcases Nat.lt_or_ge (lo + d) i with h | h
            · rw [hi.2.1 _ h] at hp; cases hp
            · exact h
        | false =>
          rw [hp] at ha
          refine ⟨hg - (lo + d + 1), _, H', ?_, by omega, rfl, lo + d + 1, hg, rfl, rfl, ?_, h2, h3⟩
          · rw [seek_First_l1_eq]
            simp -implicitDefEqProofs (disch := omega) [hlt', q, ha]
          · rcases Nat.lt_or_ge (lo + d) i with h | h
            · exact h
            · rw [hi.2.2 _ h (by omega)] at hp; cases hp
      · have hlt' : ¬ (lo : Int) < hg := by omega
        have e1 : lo = i := by omega
        have e2 : hg = i := by omega
        subst e1
        rw [e2]
        refine .inr ⟨.exit 0, _, H', ?_, by simp, rfl, rfl, .bool false, rfl⟩
        rw [seek_First_l1_eq]
        simp -implicitDefEqProofs (disch := omega))
  simp -implicitDefEqProofs (disch := omega) [seek_First, hr, seek_First_l1k_x0]

/-- There is a first one. -/
theorem isFirst_ex (n : Nat) (p : Nat → Bool) (hm : ∀ i j, i ≤ j → j < n → p i = true → p j = true) : ∃ i, IsFirst n p i := by
  induction n with
  | zero => exact ⟨0, Nat.le_refl _, fun j h => by omega, fun j h1 h2 => by omega⟩
  | succ n ih =>
    obtain ⟨i, h1, h2, h3⟩ := ih fun a b hab hb => hm a b hab (by omega)
    by_cases hi : i < n
    · exact ⟨i, by omega, h2, fun j hj hn => by
        by_cases he : j = n
        · subst he; exact hm i j hj hn (h3 i (Nat.le_refl _) hi)
        · exact h3 j hj (by omega)⟩
    · have : i = n := by omega
      subst this
      cases hp : p i with
      | true => exact ⟨i, by omega, h2, fun j hj hn => by rw [show j = i by omega]; exact hp⟩
      | false => exact ⟨i + 1, Nat.le_refl _, fun j hj => by
          by_cases he : j = i
          · subst he; exact hp
          · exact h2 j (by omega), fun j h1 h2 => by omega⟩

/-- Does a row only end the others? -/
def noneS (l : List Int) (keys : Nat) : Bool := (List.range keys).all fun j => uS l (2 * j) 2 == some 65535

theorem none_run (k : Nat) {H : Heap} {v : Value} {l : List Int} (hv : Sl H 1 v encB l) (hb : Byt l) (keys : Nat) (hl : l.length < 2 ^ 62) (hk : 2 * keys ≤ l.length) : R (T k) F.seek_none [.agg #[v], .int .i64 keys] H = .ok (.bool (noneS l keys)) H := by
  rw [seek_none_R]
  obtain ⟨x, e', H1, hr, hH, hq⟩ := loop_up (body := seek_none_l1 k (R (T k))) keys
    (fun j e H' => H' = H.push ⟨[v], 1, false⟩ ∧ (∀ i, i < j → uS l (2 * (i : Nat)) 2 = some 65535) ∧ e = [(2, .pointer (some ⟨H.n, 0, none⟩)), (6, .int .i64 keys), (7, .int .i64 j)])
    (fun x e H' => H' = H.push ⟨[v], 1, false⟩ ∧ ((x = .ret ∧ e = [(4, .bool false)] ∧ noneS l keys = false) ∨ (∃ a, x = .exit 0 ∧ e = [(2, .pointer (some ⟨H.n, 0, none⟩)), (6, .int .i64 keys), (7, .int .i64 keys), (8, a)] ∧ noneS l keys = true)))
    (e0 := [(2, .pointer (some ⟨H.n, 0, none⟩)), (6, .int .i64 keys), (7, .int .i64 0)]) (H0 := H.push ⟨[v], 1, false⟩) ⟨rfl, fun i h => by omega, rfl⟩ (by omega)
    (fun j e H' hj ⟨hH, ha, he⟩ => by
      subst he hH
      have hlt : (j : Int) < keys := by omega
      have hu := U16_run k (hv.up ((Ext.refl H).push ⟨[v], 1, false⟩)) hb (2 * (j : Int)) hl
      obtain ⟨x, hx⟩ : ∃ x, uS l (2 * (j : Int)) 2 = some x := by
        unfold uS pieceS
        rw [if_pos (by omega)]
        exact ⟨_, rfl⟩
      rw [hx] at hu
      by_cases he : x = 65535
      · subst he
        refine .inl ⟨_, _, ?_, rfl, fun i hi => ?_, rfl⟩
        · rw [seek_none_l1_eq]
          simp -implicitDefEqProofs (disch := omega) [hlt, hu]
        · by_cases hij : i = j
          · subst hij; exact hx
          · exact ha i (by omega)
      · refine .inr ⟨.ret, _, _, ?_, by simp, rfl, .inl ⟨rfl, rfl, ?_⟩⟩
        · have hne : (x != 65535) = true := by simpa using he
          rw [seek_none_l1_eq]
          simp -implicitDefEqProofs (disch := omega) [hlt, hu, hne]
        · unfold noneS
          rw [List.all_eq_false]
          exact ⟨j, List.mem_range.2 hj, by rw [hx]; simpa using he⟩)
    (fun e H' ⟨hH, ha, he⟩ => by
      subst he hH
      refine ⟨.exit 0, _, _, ?_, by simp, rfl, .inr ⟨.bool false, rfl, rfl, ?_⟩⟩
      · rw [seek_none_l1_eq]
        simp -implicitDefEqProofs
      · unfold noneS
        rw [List.all_eq_true]
        intro i hi
        rw [ha i (List.mem_range.1 hi)]
        rfl)
  subst hH
  refine nrm_gc ⟨_, ?_, (Ext.refl H).push ⟨[v], 1, false⟩⟩ (.bool _)
  rcases hq with ⟨rfl, rfl, hn⟩ | ⟨a, rfl, rfl, hn⟩ <;> simp -implicitDefEqProofs (disch := omega) [seek_none, boxR_vw, hr, seek_none_l1k_r, seek_none_l1k_x0, hn]
abbrev encW (u : Value) : List Value := [u]
theorem encW_len (u : Value) : (encW u).length = 1 := rfl
def cutRows (r : List Int) (z n : Nat) : List (List Int) := (List.range n).map fun i => (r.drop (z * i)).take z
@[simp] theorem cutRows_len (r : List Int) (z n : Nat) : (cutRows r z n).length = n := by simp [cutRows]
theorem cutRows_succ (r : List Int) (z n : Nat) : cutRows r z (n + 1) = cutRows r z n ++ [(r.drop (z * n)).take z] := by simp [cutRows, List.range_succ]
theorem cutRows_get (r : List Int) (z n i : Nat) (h : i < n) : (cutRows r z n)[i]? = some ((r.drop (z * i)).take z) := by simp [cutRows, h]

/-- The rows behind a header. -/
def endRows (r : List Int) (z n keys : Nat) : List (List Int) := if 0 < n ∧ noneS ((r.drop (z * (n - 1))).take z) keys = true then cutRows r z (n - 1) else cutRows r z n
def takeS (b : List Int) (i need : Int) (keys : Nat) : Option (List (List Int)) :=
  match uS b i 2, uS b (i + 2) 2 with
  | some z, some n => if (pieceS b i 10).isSome ∧ need ≤ z then (rowsS b (i + 10) n z).map fun r => endRows r z.toNat n.toNat keys else none
  | _, _ => none

/-- The rows, as slices. -/
def cutV (r : Value) (z n : Nat) : List Value := (List.range n).map fun i => subV 1 r (z * i) z
@[simp] theorem cutV_len (r : Value) (z n : Nat) : (cutV r z n).length = n := by simp [cutV]
theorem cutV_succ (r : Value) (z n : Nat) : cutV r z (n + 1) = cutV r z n ++ [subV 1 r (z * n) z] := by simp [cutV, List.range_succ]
theorem cutV_get (r : Value) (z n i : Nat) (h : i < n) : (cutV r z n)[i]? = some (subV 1 r (z * i) z) := by simp [cutV, h]
theorem cutV_take (r : Value) (z n : Nat) : (cutV r z n).take (n - 1) = cutV r z (n - 1) := by
  cases n with
  | zero => rfl
  | succ n => rw [cutV_succ]; simp
theorem cutV_sl {H : Heap} {rv : Value} {r : List Int} (hv : Sl H 1 rv encB r) (z n i : Nat) (hr : r.length = n * z) (h : i < n) : Sl H 1 (subV 1 rv (z * i) z) encB ((r.drop (z * i)).take z) := by
  have hzi : z * i + z ≤ r.length := by
    rw [hr, ← Nat.mul_succ, Nat.mul_comm]
    exact Nat.mul_le_mul_right _ h
  exact (hv.sub encB_len .i64 .i64 .i64 (z * i) z hzi).2

theorem Take_loop (k : Nat) {rv : Value} (r : List Int) (keys z n : Nat) (hr : r.length = n * z) (hz : z < 65536) (hn : n < 65536) (p : Nat) {H : Heap} (hv : Sl H 1 rv encB r) (hp : H.get p = some ⟨[rv], 1, false⟩) :
    ∃ s H', loopN (seek_Take_l1 k (R (T k))) loopFuel [(3, .int .i64 keys), (9, .int .i64 z), (10, .int .i64 n), (11, .pointer (some ⟨p, 0, none⟩)), (12, .slice none 0 0), (34, .int .i64 n), (35, .int .i64 0)] H =
      .ok (.exit 0, [(3, .int .i64 keys), (9, .int .i64 z), (10, .int .i64 n), (11, .pointer (some ⟨p, 0, none⟩)), (12, s), (34, .int .i64 n), (35, .int .i64 n), (36, .bool false)]) H' ∧ Own H H' 1 s encW (cutV rv z n) ∧ Ext H H' := by
  have hlen : r.length < 2 ^ 62 := by
    have : n * z ≤ 65536 * 65536 := Nat.mul_le_mul (by omega) (by omega)
    omega
  obtain ⟨x, e', H', hr', s, rfl, rfl, ho, hx⟩ := loop_up (body := seek_Take_l1 k (R (T k))) n
    (fun i e H' => ∃ s, e = [(3, .int .i64 keys), (9, .int .i64 z), (10, .int .i64 n), (11, .pointer (some ⟨p, 0, none⟩)), (12, s), (34, .int .i64 n), (35, .int .i64 i)] ∧ Own H H' 1 s encW (cutV rv z i) ∧ Ext H H')
    (fun x e H' => ∃ s, x = .exit 0 ∧ e = [(3, .int .i64 keys), (9, .int .i64 z), (10, .int .i64 n), (11, .pointer (some ⟨p, 0, none⟩)), (12, s), (34, .int .i64 n), (35, .int .i64 n), (36, .bool false)] ∧ Own H H' 1 s encW (cutV rv z n) ∧ Ext H H')
    (e0 := [(3, .int .i64 keys), (9, .int .i64 z), (10, .int .i64 n), (11, .pointer (some ⟨p, 0, none⟩)), (12, .slice none 0 0), (34, .int .i64 n), (35, .int .i64 0)]) (H0 := H) ⟨_, rfl, Own.nil _ _ _, Ext.refl H⟩ (by omega)
    (fun i e H' hi ⟨s, he, ho, hx⟩ => by
      subst he
      have hlt : (i : Int) < n := by omega
      have hpg := hx.get hp
      have hzi : z * i + z ≤ r.length := by
        rw [hr, ← Nat.mul_succ, Nat.mul_comm]
        exact Nat.mul_le_mul_right _ hi
      have hcut := Cut_run k (hv.up hx) ((z : Int) * i) z hlen
      have e1 : ((z : Int) * i) = ((z * i : Nat) : Int) := by simp
      have hps : pieceS r ((z : Int) * i) z = some ((r.drop (z * i)).take z) := by
        rw [e1, pieceS, if_pos (by omega), Int.toNat_natCast, Int.toNat_natCast]
      have e2 : ((z : Int) * i).toNat = z * i := by rw [e1, Int.toNat_natCast]
      rw [hps, e2, Int.toNat_natCast] at hcut
      have hmul : ((z : Int) * i) ≤ 9223372036854775807 := by omega
      have hmul0 : 0 ≤ ((z : Int) * i) := Int.mul_nonneg (by omega) (by omega)
      have hsl := cutV_sl hv z n i hr hi
      obtain ⟨s', H2, e3, o1, x1⟩ := ap1_own (bytes := 24) encW_len ho hx (subV 1 rv (z * i) z) (by simp; omega) (by decide)
      refine .inl ⟨_, H2, ?_, s', rfl, by rw [cutV_succ]; exact o1, x1⟩
      rw [seek_Take_l1_eq]
      generalize subV 1 rv (z * i) z = u at hcut hsl e3
      simp -implicitDefEqProofs (disch := omega) [hlt, hpg, hcut, e3])
    (fun e H' ⟨s, he, ho, hx⟩ => by
      subst he
      refine ⟨.exit 0, _, H', ?_, by simp, s, rfl, rfl, ho, hx⟩
      rw [seek_Take_l1_eq]
      simp -implicitDefEqProofs (disch := omega))
  exact ⟨s, H', hr', ho, hx⟩
/-- Where the rows lie, and how long each is. -/
def rowsV (v : Value) (b : List Int) (i : Int) : Value := subV 1 v (i + 10).toNat (((uS b (i + 2) 2).getD 0) * ((uS b i 2).getD 0)).toNat
def rowZ (b : List Int) (i : Int) : Nat := ((uS b i 2).getD 0).toNat
theorem cutV_fz {H0 H : Heap} {rv : Value} (h : Firm H0 rv) (z n d : Nat) : ∀ x, x ∈ cutV rv z n → ∀ v, v ∈ encW x → fzV H0.n H (d + 1) v = some (v, []) := fun x hx v hv => by
  simp at hv
  subst hv
  obtain ⟨i, _, rfl⟩ := List.mem_map.1 hx
  exact (h.sub 1 _ _).fz d
theorem cutV_alive {H : Heap} {rv : Value} {r : List Int} (hv : Sl H 1 rv encB r) (z n m : Nat) (hr : r.length = n * z) (hm : m ≤ n) : Alive H (lv encW (cutV rv z m)) := .list _ _ _ _ _ fun i u hu => by
  have hu : (rows encW (cutV rv z m))[i]? = some u := by simpa using hu
  have : rows encW (cutV rv z m) = cutV rv z m := by simp [rows]
  rw [this] at hu
  have hi := (List.getElem?_eq_some_iff.1 hu).1
  simp at hi
  rw [cutV_get _ _ _ _ hi] at hu
  injection hu with hu; subst hu
  exact (cutV_sl hv z n i hr (by omega)).alive fun _ _ => .cons (.int _ _) .nil

theorem Take_run (k : Nat) {H : Heap} {v : Value} {b : List Int} (hv : Sl H 1 v encB b) (hb : Byt b) (i need : Int) (keys : Nat) (hl : b.length < 2 ^ 31) (hi0 : -4294967296 ≤ i) (hi : i < 4294967296) (hk : 2 * (keys : Int) ≤ need) :
    R (T k) F.seek_Take [.agg #[v], .int .i64 i, .int .i64 need, .int .i64 keys] H = orF (takeS b i need keys) (fun l => lv encW (cutV (rowsV v b i) (rowZ b i) l.length)) H := by
  rw [seek_Take_R]
  have ext1 : Ext H (H.push ⟨[v], 1, false⟩) := (Ext.refl H).push _
  have hu1 := U16_run k (hv.up ext1) hb i (by omega)
  have hu2 := U16_run k (hv.up ext1) hb (i + 2) (by omega)
  have hcut := Cut_run k (hv.up ext1) i 10 (by omega)
  have hq : veq v v = true := hv.veq fun n _ u hu => by simp at hu; subst hu; simp
  have hqa : veq (.agg #[v]) (.agg #[v]) = true := veq_agg (l := [v]) fun u hu => by simp at hu; subst hu; exact hq
  cases h1 : uS b i 2 with
  | none =>
    have e : takeS b i need keys = none := by unfold takeS; rw [h1]
    rw [h1] at hu1
    rw [e]
    refine nrm_throw ⟨_, ?_, ext1⟩ Flat.fail.alive
    simp -implicitDefEqProofs (disch := omega) [seek_Take, hqa, hu1]
  | some z =>
    have hz := uS_two hb h1
    rw [h1] at hu1
    cases h2 : uS b (i + 2) 2 with
    | none =>
      have e : takeS b i need keys = none := by unfold takeS; rw [h1, h2]
      rw [h2] at hu2
      rw [e]
      refine nrm_throw ⟨_, ?_, ext1⟩ Flat.fail.alive
      simp -implicitDefEqProofs (disch := omega) [seek_Take, hqa, hu1, hu2]
    | some n =>
      have hn := uS_two hb h2
      rw [h2] at hu2
      cases h3 : pieceS b i 10 with
      | none =>
        have e : takeS b i need keys = none := by unfold takeS; rw [h1, h2]; simp [h3]
        rw [h3] at hcut
        rw [e]
        refine nrm_throw ⟨_, ?_, ext1⟩ Flat.fail.alive
        simp -implicitDefEqProofs (disch := omega) [seek_Take, hqa, hu1, hu2, hcut]
      | some c =>
        rw [h3] at hcut
        by_cases h4 : need ≤ z
        · have hrows := Rows_run k (hv.up ext1) (i + 10) n z (by omega)
          cases h5 : rowsS b (i + 10) n z with
          | none =>
            have e : takeS b i need keys = none := by unfold takeS; rw [h1, h2]; simp [h3, h4, h5]
            rw [h5] at hrows
            rw [e]
            refine nrm_throw ⟨_, ?_, ext1⟩ Flat.fail.alive
            simp -implicitDefEqProofs (disch := omega) [seek_Take, hqa, hu1, hu2, hcut, h4, hrows]
          | some r =>
            have e : takeS b i need keys = some (endRows r z.toNat n.toNat keys) := by unfold takeS; rw [h1, h2]; simp [h3, h4, h5]
            rw [h5] at hrows
            rw [e]
            obtain ⟨z, rfl⟩ := Int.eq_ofNat_of_zero_le hz.1
            obtain ⟨n, rfl⟩ := Int.eq_ofNat_of_zero_le hn.1
            rw [Int.toNat_natCast, Int.toNat_natCast]
            have hp5 : pieceS b (i + 10) ((n : Int) * z) = some r := by
              unfold rowsS at h5
              split at h5
              · exact h5
              · cases h5
            have hrl : r.length = n * z := by have := pieceS_len hp5; exact_mod_cast this
            have hrb := (hb.piece hp5).1
            have hrv : rowsV v b i = subV 1 v (i + 10).toNat ((n : Int) * z).toNat := by unfold rowsV; rw [h1, h2]; rfl
            have hrz : rowZ b i = z := by unfold rowZ; rw [h1]; simp
            have hsr := pieceS_sl hv hp5
            have hne : b ≠ [] := fun e => by
              subst e
              unfold uS pieceS at h1
              split at h1
              · rename_i hc; simp at hc; omega
              · cases h1
            have hfirm : Firm H (subV 1 v (i + 10).toNat ((n : Int) * z).toNat) := (hv.firm hne).sub _ _ _
            simp only [orF_some, hrv, hrz]
            simp only [orF_some] at hrows hu1 hu2 hcut
            generalize subV 1 v (i + 10).toNat ((n : Int) * z).toNat = rv at hrows hsr hfirm ⊢
            obtain ⟨s, H', hloop, ho, hx⟩ := Take_loop k r keys z n hrl (by omega) (by omega) (H.n + 1) (hsr.up (ext1.push ⟨[rv], 1, false⟩)) (get_push_eq _ _ _ (by simp))
            have hxx : Ext H H' := (ext1.push _).trans hx
            have ho' : Own H H' 1 s encW (cutV rv z n) := ho.base (by simp; omega)
            have hst := hsr.storable
            have hce := hsr.cells
            by_cases hn0 : n = 0
            · subst hn0
              have e2 : (endRows r z 0 keys).length = 0 := by simp [endRows]
              rw [e2]
              obtain ⟨L, hf⟩ := ho'.freeze encW_len (fun x hx => by simp [cutV] at hx) 6
              refine nrm_fz (v := s) (H' := H') ?_ hf hxx (cutV_alive hsr z 0 0 hrl (Nat.le_refl _))
              simp only [Int.natCast_zero] at hu2 hrows hloop
              simp -implicitDefEqProofs (disch := omega) [seek_Take, hqa, hu1, hu2, hcut, h4, hrows, hloop, seek_Take_l1k_x0]
            · have hlast := cutV_get rv z n (n - 1) (by omega)
              have hlb : Byt ((r.drop (z * (n - 1))).take z) := fun x hx => hrb x (List.mem_of_mem_drop (List.mem_of_mem_take hx))
              have hsl0 := cutV_sl hsr z n (n - 1) hrl (by omega)
              have hll : ((r.drop (z * (n - 1))).take z).length = z := by
                have : z * (n - 1) + z ≤ r.length := by
                  rw [hrl, ← Nat.mul_succ, Nat.mul_comm, show (n - 1).succ = n by omega]
                  exact Nat.le_refl _
                simp; omega
              have hnone := none_run k (hsl0.up hxx) hlb keys (by omega) (by omega)
              have hn1 : ((n : Int) - 1) = ((n - 1 : Nat) : Int) := by omega
              have hgt : 0 < n := by omega
              obtain ⟨bk, hsk, hbk, hgk, _⟩ := ixS_own ho' .i64 (n - 1) (by simp; omega) H'
              have hixk0 : ∀ H'', ixS 1 s (.int .i64 ((n : Int) - 1)) H'' = .ok (.pointer (some ⟨bk, (n - 1) * 1, none⟩)) H'' := fun H'' => by
                obtain ⟨b2, h1', _, _, h4'⟩ := ixS_own ho' .i64 (n - 1) (by simp; omega) H''
                have : bk = b2 := by rw [hsk] at h1'; simpa using h1'
                subst this
                rw [hn1]; exact h4'
              obtain ⟨p, hixk, hld⟩ : ∃ p, (∀ H'', ixS 1 s (.int .i64 ((n : Int) - 1)) H'' = .ok p H'') ∧ ldA 1 p H' = .ok (.agg #[subV 1 rv (z * (n - 1)) z]) H' := ⟨_, hixk0, ldA_row encW_len hgk hlast⟩
              generalize subV 1 rv (z * (n - 1)) z = u at hld hnone
              cases hno : noneS ((r.drop (z * (n - 1))).take z) keys with
              | false =>
                have e2 : (endRows r z n keys).length = n := by simp [endRows, hno]
                rw [e2]
                rw [hno] at hnone
                obtain ⟨b3, L, hs3, hf⟩ := ho'.freezeF encW_len 6 n (cutV_fz hfirm z n 6) (by simp) (by simp; omega)
                rw [List.take_of_length_le (by simp)] at hf
                rw [cutV_len] at hs3
                refine nrm_fz (v := s) (H' := H') ?_ (by rw [hs3]; exact hf n) hxx (cutV_alive hsr z n n hrl (Nat.le_refl _))
                simp -implicitDefEqProofs (disch := omega) [seek_Take, hqa, hu1, hu2, hcut, h4, hrows, hloop, seek_Take_l1k_x0, hgt, hixk, hld, hnone]
              | true =>
                have e2 : (endRows r z n keys).length = n - 1 := by rw [endRows, if_pos ⟨by omega, hno⟩]; simp
                rw [e2, ← cutV_take]
                rw [hno] at hnone
                obtain ⟨b3, L, hs3, hf⟩ := ho'.freezeF encW_len 6 (n - 1) (cutV_fz hfirm z n 6) (by simp) (by simp; omega)
                have hb3 : bk = b3 := by rw [hsk] at hs3; simpa using hs3
                subst hb3
                have hsl := slS_own hgk .i64 (n - 1) (by simp)
                rw [cutV_len, ← hn1] at hsl
                rw [cutV_len] at hsk
                refine nrm_fz (v := .slice (some ⟨bk, 0, none⟩) (n - 1) n) (H' := H') ?_ (hf n) hxx (by rw [cutV_take]; exact cutV_alive hsr z n (n - 1) hrl (by omega))
                subst hsk
                simp -implicitDefEqProofs (disch := omega) [seek_Take, hqa, hu1, hu2, hcut, h4, hrows, hloop, seek_Take_l1k_x0, hgt, hixk, hld, hnone, hsl]
        · have e : takeS b i need keys = none := by unfold takeS; rw [h1, h2]; simp [h4]
          rw [e]
          refine nrm_throw ⟨_, ?_, ext1⟩ Flat.fail.alive
          simp -implicitDefEqProofs (disch := omega) [seek_Take, hqa, hu1, hu2, hcut, h4]
end Go.Sw
