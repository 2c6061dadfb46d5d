/-
  Places turned about.
-/
import Derived.Test.YtnaodjnimkndbaaSwPlaceD
import Derived.Test.YtnaodjnimkndbaaSwAI
namespace Go.Sw
open Go.RowKit

theorem ReverseP_run (k : Nat) {H : Heap} {o : Option Nat} {s : Value} {l : List Pl} (h : OwnO H o 3 s encP l) (hl : l.length < 2 ^ 31) :
    ∃ H', R (T k) F.slices_Reverse_of_api_Place_api_Place [s] H = .ok (.tuple #[]) H' ∧ OwnO H' o 3 s encP l.reverse ∧ H'.n = H.n ∧ ∀ c, o ≠ some c → H'.get c = H.get c := by
  rw [slices_Reverse_of_api_Place_api_Place_R]
  have hlen := h.len
  rcases h with ⟨h0, rfl, hs⟩ | ⟨b, rfl, rfl, hb⟩
  · refine ⟨H, ?_, .inl ⟨h0, rfl, hs⟩, rfl, fun _ _ => rfl⟩
    obtain ⟨x, e', H1, hr, rfl, rfl, v, rfl⟩ := loop_up (body := slices_Reverse_of_api_Place_api_Place_l1 k (R (T k))) 0
      (fun _ e H' => H' = H ∧ e = [(0, s), (2, .int .i64 0), (3, .int .i64 (-1))]) (fun x e H' => H' = H ∧ x = .exit 0 ∧ ∃ v, e = [(0, s), (2, .int .i64 0), (3, .int .i64 (-1)), (9, v)]) (e0 := [(0, s), (2, .int .i64 0), (3, .int .i64 (-1))]) (H0 := H) ⟨rfl, rfl⟩ (by omega) (fun i _ _ hi _ => by omega)
      (fun e H' ⟨hH, he⟩ => by
        subst hH he
        refine ⟨.exit 0, _, _, ?_, by simp, rfl, rfl, .bool false, rfl⟩
        rw [slices_Reverse_of_api_Place_api_Place_l1_eq]
        simp -implicitDefEqProofs)
    simp -implicitDefEqProofs [slices_Reverse_of_api_Place_api_Place, hlen, hr, slices_Reverse_of_api_Place_api_Place_l1k_x0]
  · have ix : ∀ (i : Nat) (H' : Heap), i < l.length → ixS 3 (.slice (some ⟨b, 0, none⟩) l.length l.length) (.int .i64 i) H' = .ok (.pointer (some ⟨b, i * 3, none⟩)) H' := fun i H' hi => by
      unfold ixS
      dsimp only
      rw [if_pos ⟨by omega, by omega⟩]
      simp
    obtain ⟨x, e', H1, hr, rfl, ⟨a1, v, rfl⟩, a2, a3⟩ := loop_up (body := slices_Reverse_of_api_Place_api_Place_l1 k (R (T k))) (l.length / 2)
      (fun i e H' => e = [(0, .slice (some ⟨b, 0, none⟩) l.length l.length), (2, .int .i64 i), (3, .int .i64 (l.length - 1 - i))] ∧ (∃ r, RevTo l r i ∧ H'.get b = some ⟨rows encP r, 3, false⟩) ∧ H'.n = H.n ∧ ∀ c, c ≠ b → H'.get c = H.get c)
      (fun x e H' => x = .exit 0 ∧ (∃ a v, e = [(0, .slice (some ⟨b, 0, none⟩) l.length l.length), (2, a), (3, v), (9, .bool false)]) ∧ H'.get b = some ⟨rows encP l.reverse, 3, false⟩ ∧ H'.n = H.n ∧ ∀ c, c ≠ b → H'.get c = H.get c)
      (e0 := [(0, .slice (some ⟨b, 0, none⟩) l.length l.length), (2, .int .i64 0), (3, .int .i64 (l.length - 1))]) (H0 := H) ⟨by simp, ⟨l, .zero l, hb⟩, rfl, fun _ _ => rfl⟩ (by omega)
      (fun i e H' hi ⟨he, ⟨r, hr, hg⟩, hn, hk⟩ => by
        subst he
        obtain ⟨x, y, e1, e2, hr'⟩ := hr.step (by omega)
        obtain ⟨H2, H3, s1, s2, g3, k3, n3⟩ := swap_row encP_len (fun _ => rfl) hg e1 e2
        have hlt : (i : Int) < l.length - 1 - i := by omega
        have hj : ((l.length : Int) - 1 - i) = ((l.length - 1 - i : Nat) : Int) := by omega
        have i1 := fun H' => ix i H' (by omega)
        have i2 := fun H' => ix (l.length - 1 - i) H' (by omega)
        rw [← hj] at i2
        have l1 := ldA_row encP_len hg e1
        have l2 := ldA_row encP_len hg e2
        refine .inl ⟨_, H3, ?_, rfl, ⟨_, hr', g3⟩, by rw [n3, hn], fun c hc => by rw [k3 c hc, hk c hc]⟩
        rw [slices_Reverse_of_api_Place_api_Place_l1_eq]
        simp -implicitDefEqProofs (disch := omega) [-ldA_ptr, -stR_ptr, hlt, i1, i2, l1, l2, s1, s2]
        omega)
      (fun e H' ⟨he, ⟨r, hr, hg⟩, hn, hk⟩ => by
        subst he
        have hlt : ¬ ((l.length / 2 : Nat) : Int) < l.length - 1 - (l.length / 2 : Nat) := by omega
        refine ⟨.exit 0, _, H', ?_, by simp, rfl, ⟨.int .i64 (l.length / 2 : Nat), .int .i64 (l.length - 1 - (l.length / 2 : Nat)), rfl⟩, by rw [← hr.done]; exact hg, hn, hk⟩
        rw [slices_Reverse_of_api_Place_api_Place_l1_eq]
        simp -implicitDefEqProofs (disch := omega) only [bin_lss, Res.bind_ok, hlt, decide_false, condV_bool, Bool.false_eq_true, if_false])
    refine ⟨H1, ?_, .inr ⟨b, rfl, by simp, a2⟩, a3.1, fun c hc => a3.2 c fun e => hc (by rw [e])⟩
    have hlt : 1 ≤ l.length + 1 := by omega
    simp -implicitDefEqProofs (disch := omega) [slices_Reverse_of_api_Place_api_Place, hr, slices_Reverse_of_api_Place_api_Place_l1k_x0]

theorem Turn_run (k : Nat) {H : Heap} {p : Nat} {o : Option Nat} {down : Bool} {l : List Pl} (h : PlAt H p o down l) (hl : l.length < 2 ^ 31) :
    ∃ H', R (T k) F.place_Places_Turn [.pointer (some ⟨p, 0, none⟩)] H = .ok (.tuple #[]) H' ∧ PlAt H' p o down l.reverse ∧ Keeps (fpP p o) H H' := by
  obtain ⟨h1, s, h2, h3⟩ := h
  obtain ⟨H', e1, e2, e3, e4⟩ := ReverseP_run k h3 hl
  refine ⟨H', ?_, ⟨h1, s, by rw [e4 p fun e => h1 p e rfl]; exact h2, e2⟩, by rw [e3]; exact Nat.le_refl _, fun c _ hc => e4 c fun e => hc (by simp [fpP, e])⟩
  rw [place_Places_Turn_R]
  simp -implicitDefEqProofs [place_Places_Turn, h2, e1]
end Go.Sw
