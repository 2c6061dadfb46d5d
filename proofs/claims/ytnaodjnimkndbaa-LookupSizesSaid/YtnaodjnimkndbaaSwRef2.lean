/-
  A number's bytes behind others.
-/
import Derived.Test.YtnaodjnimkndbaaSwByteS
import Derived.Test.YtnaodjnimkndbaaSwLib9
import Derived.Test.YtnaodjnimkndbaaSwGswashref02
namespace Go.Sw
open Go.RowKit

theorem Put_in (k : Nat) (s : Value) (n : Int) (i : Nat) (h0 : 0 ≤ n) (hn : n < 2 ^ 62) (hi : i < 2 ^ 62) (H : Heap) :
    loopN (swashref02_Put_l2 k (R (T k))) loopFuel [(0, s), (1, .int .i64 n), (7, .int .i64 i), (8, .int .i64 n), (9, .int .i64 0)] H = .ok (.exit 2, [(0, s), (1, .int .i64 n), (7, .int .i64 i), (8, .int .i64 (n / 256 ^ i)), (9, .int .i64 i), (19, .bool false)]) H := by
  obtain ⟨x, e', H1, hr, rfl, rfl, rfl⟩ := loop_up (body := swashref02_Put_l2 k (R (T k))) i
    (fun j e H' => H' = H ∧ e = [(0, s), (1, .int .i64 n), (7, .int .i64 i), (8, .int .i64 (n / 256 ^ j)), (9, .int .i64 j)])
    (fun x e H' => H' = H ∧ x = .exit 2 ∧ e = [(0, s), (1, .int .i64 n), (7, .int .i64 i), (8, .int .i64 (n / 256 ^ i)), (9, .int .i64 i), (19, .bool false)])
    (e0 := [(0, s), (1, .int .i64 n), (7, .int .i64 i), (8, .int .i64 n), (9, .int .i64 0)]) (H0 := H) ⟨rfl, by simp⟩ (by omega)
    (fun j e H' hj ⟨hH, he⟩ => by
      subst he hH
      have hlt : (j : Int) < i := by omega
      have q0 : 0 ≤ n / 256 ^ j := Int.ediv_nonneg h0 (Int.pow_nonneg (by decide))
      have q1 : n / 256 ^ j ≤ n := Int.ediv_le_self _ h0
      have hq : (n / 256 ^ j).tdiv 256 = n / 256 ^ (j + 1) := by
        rw [Int.tdiv_eq_ediv_of_nonneg q0, Int.pow_succ, Int.ediv_ediv_of_nonneg (Int.pow_nonneg (by decide))]
      have q := fun H => bin_quo Prog 3 H .i64 (n / 256 ^ j) 256 (by decide)
      rw [hq] at q
      have q2 : 0 ≤ n / 256 ^ (j + 1) := Int.ediv_nonneg h0 (Int.pow_nonneg (by decide))
      have q3 : n / 256 ^ (j + 1) ≤ n := Int.ediv_le_self _ h0
      generalize n / 256 ^ (j + 1) = m at q q2 q3 ⊢
      generalize n / 256 ^ j = m0 at q ⊢
      refine .inl ⟨_, H', ?_, rfl, rfl⟩
      rw [swashref02_Put_l2_eq]
      simp -implicitDefEqProofs (disch := omega) [hlt, q])
    (fun e H' ⟨hH, he⟩ => by
      subst he hH
      refine ⟨.exit 2, _, H', ?_, by simp, rfl, rfl, rfl⟩
      rw [swashref02_Put_l2_eq]
      simp -implicitDefEqProofs (disch := omega))
  exact hr

/-- Onto one of some rows: what else there is stays. -/
theorem Put_star (k : Nat) {H0 H : Heap} {L : List It} (h : Star H0 H L) (i : Nat) {o : Option Nat} {s : Value} {b : List Int} (hi : L[i]? = some (itRow o 1 s encB b)) (n zi : Int) (z : Nat) (hzi : zi = z) (h0 : 0 ≤ n) (hn : n < 2 ^ 62) (hz : z ≤ 8) (hl : b.length < 2 ^ 30) :
    ∃ s' o' H', R (T k) F.swashref02_Put [s, .int .i64 n, .int .i64 zi] H = .ok s' H' ∧ Star H0 H' (L.set i (itRow o' 1 s' encB (b ++ bytesOf n z))) := by
  subst hzi
  rw [swashref02_Put_R]
  have hlt : i < L.length := (List.getElem?_eq_some_iff.1 hi).1
  have hself : L.set i (itRow o 1 s encB b) = L := by
    obtain ⟨hlt, hx⟩ := List.getElem?_eq_some_iff.1 hi
    rw [← hx, List.set_getElem_self]
  obtain ⟨x, e', H1, hr, s', o', rfl, ⟨a, c, rfl⟩, ho⟩ := loopDec (body := swashref02_Put_l1 k (R (T k)))
    (fun m e H' => ∃ s o acc, e = [(0, s), (1, .int .i64 n), (7, .int .i64 ((m : Int) - 1))] ∧ Star H0 H' (L.set i (itRow o 1 s encB acc)) ∧ acc ++ bytesOf n m = b ++ bytesOf n z ∧ m ≤ z)
    (fun x e H' => ∃ s' o', x = .exit 0 ∧ (∃ a c, e = [(0, s'), (1, .int .i64 n), (7, a), (13, c)]) ∧ Star H0 H' (L.set i (itRow o' 1 s' encB (b ++ bytesOf n z))))
    (e0 := [(0, s), (1, .int .i64 n), (7, .int .i64 ((z : Int) - 1))]) (H0 := H) z ⟨s, o, b, rfl, by rw [hself]; exact h, rfl, Nat.le_refl _⟩ (by omega)
    (fun m e H' ⟨s, o, acc, he, ho, ha, hmz⟩ => by
      subst he
      cases m with
      | zero =>
        refine .inr ⟨.exit 0, _, H', ?_, by simp, s, o, rfl, ⟨.int .i64 ((0 : Nat) - 1), .bool false, rfl⟩, by simpa [bytesOf] using (by simpa [bytesOf] using ha) ▸ ho⟩
        rw [swashref02_Put_l1_eq]
        simp -implicitDefEqProofs
      | succ m =>
        have hin := Put_in k s n m h0 hn (by omega) H'
        have q0 : 0 ≤ n / 256 ^ m := Int.ediv_nonneg h0 (Int.pow_nonneg (by decide))
        have hacc : acc.length < 2 ^ 31 := by
          have := congrArg List.length ha
          simp [bytesOf_len] at this
          omega
        obtain ⟨s2, o2, H2, e1, o1⟩ := ho.append1 (bytes := 1) i encB_len (List.getElem?_set_self hlt) ((n / 256 ^ m) % 256) hacc (by decide)
        rw [List.set_set] at o1
        have hrem := fun H => bin_rem Prog 3 H .i64 (n / 256 ^ m) 256 (by decide)
        rw [Int.tmod_eq_emod_of_nonneg q0] at hrem
        have hb : 0 ≤ (n / 256 ^ m) % 256 ∧ (n / 256 ^ m) % 256 < 256 := by omega
        refine .inl ⟨m, _, H2, ?_, by omega, s2, o2, acc ++ [(n / 256 ^ m) % 256], rfl, o1, by rw [List.append_assoc]; exact ha, by omega⟩
        rw [swashref02_Put_l1_eq]
        have hge : (m : Int) ≥ 0 := by omega
        rw [show (((m + 1 : Nat) : Int) - 1) = (m : Int) by omega]
        generalize (n / 256 ^ m) % 256 = y at e1 hrem hb
        simp -implicitDefEqProofs (disch := omega) [hge, hin, swashref02_Put_l2k_x2, hrem, e1])
  refine ⟨s', o', H1, ?_, ho⟩
  simp -implicitDefEqProofs (disch := omega) [swashref02_Put, hr, swashref02_Put_l1k_x0, nrm_no]
end Go.Sw
