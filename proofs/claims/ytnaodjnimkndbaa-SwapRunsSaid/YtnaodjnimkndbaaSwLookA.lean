/-
  Lookups: numbers, and lists of them.
-/
import Derived.Test.YtnaodjnimkndbaaSwLookS
import Derived.Test.YtnaodjnimkndbaaSwCp
import Derived.Test.YtnaodjnimkndbaaSwGlookup
namespace Go.Sw
open Go.RowKit

theorem number_run (k : Nat) {H : Heap} {v : Value} {b : List Int} (hv : Sl H 1 v encB b) (hb : Byt b) (i z : Int) (hz : z = 1 ∨ z = 2 ∨ z = 4) (hl : b.length < 2 ^ 62) : R (T k) F.lookup_number [.agg #[v], .int .i64 i, .int .i64 z] H = orF (uS b i z) (.int .i64) H := by
  rw [lookup_number_R]
  have hx : Ext H (H.push ⟨[v], 1, false⟩) := (Ext.refl H).push _
  refine gc_orF ?_ fun _ _ => .int _ _
  rcases hz with rfl | rfl | rfl
  · simp -implicitDefEqProofs [lookup_number]
    exact Cp.callL (U8_run k (hv.up hx) hb i hl) hx fun n hn => .ok hx rfl
  · simp -implicitDefEqProofs [lookup_number]
    exact Cp.callL (U16_run k (hv.up hx) hb i hl) hx fun n hn => .ok hx rfl
  · simp -implicitDefEqProofs [lookup_number]
    exact Cp.callL (U32_run k (hv.up hx) hb i hl) hx fun n hn => .ok hx rfl

theorem repeat_I : ∀ n, repeatCells [Value.int .i64 0] n = rows encI (List.replicate n 0)
  | 0 => rfl
  | n + 1 => by
    have := repeat_I n
    simp only [repeatCells, List.replicate_succ] at this ⊢
    simp [rows, this]

theorem uS_cut {r : List Int} {z n j : Nat} (hr : r.length = n * z) (hj : j < n) : uS r ((z : Int) * j) z = some (num ((r.drop (z * j)).take z)) := by
  have : z * j + z ≤ r.length := by
    rw [hr, ← Nat.mul_succ, Nat.mul_comm]
    exact Nat.mul_le_mul_right _ hj
  have e1 : ((z : Int) * j) = ((z * j : Nat) : Int) := by simp
  unfold uS
  rw [e1, pieceS, if_pos (by omega), Int.toNat_natCast, Int.toNat_natCast]
  rfl

theorem list_run (k : Nat) {H : Heap} {v : Value} {b : List Int} (hv : Sl H 1 v encB b) (hb : Byt b) (i n z : Int) (hz : z = 1 ∨ z = 2 ∨ z = 4) (hl : b.length < 2 ^ 31) : R (T k) F.lookup_list [.agg #[v], .int .i64 i, .int .i64 n, .int .i64 z] H = orF (listS b i n z) (lv encI) H := by
  rw [lookup_list_R]
  have hx1 : Ext H (H.push ⟨[v], 1, false⟩) := (Ext.refl H).push _
  refine fz_orF ?_ fun _ _ => (Flat.I _).alive
  simp -implicitDefEqProofs [lookup_list]
  unfold listS
  refine Cp.callM (Rows_run k (hv.up hx1) i n z (by omega)) hx1 fun r hr => ?_
  have hn := rowsS_n hr
  have hp := rowsS_piece hr
  have hs := pieceS_sl hv hp
  have hrb := (hb.piece hp).1
  have hrl := pieceS_len hp
  obtain ⟨n, rfl⟩ := Int.eq_ofNat_of_zero_le hn.1
  obtain ⟨z, rfl⟩ := Int.eq_ofNat_of_zero_le hn.2.1
  have hrl : r.length = n * z := by exact_mod_cast hrl
  have hnl : n ≤ 2 ^ 31 := by
    have h1 : n * 1 ≤ n * z := Nat.mul_le_mul_left n (by omega)
    have h2 : (n : Int) * z ≤ b.length := by omega
    have h3 : n * z ≤ b.length := by exact_mod_cast h2
    omega
  simp only [Int.toNat_natCast]
  generalize subV 1 v i.toNat ((n : Int) * z).toNat = rv at hs
  have hx2 : Ext H ((H.push ⟨[v], 1, false⟩).push ⟨[rv], 1, false⟩) := hx1.push _
  obtain ⟨x, e', H1, hr', rfl, rfl, ho, hx⟩ := loop_up (body := lookup_list_l1 k (R (T k))) n
    (fun j e H' => e = [(3, .int .i64 z), (9, .pointer (some ⟨H.n + 1, 0, none⟩)), (10, .slice (some ⟨H.n + 2, 0, none⟩) n n), (20, .int .i64 n), (21, .int .i64 j)] ∧
      Own H H' 1 (.slice (some ⟨H.n + 2, 0, none⟩) n n) encI (((cutRows r z n).map num).take j ++ List.replicate (n - j) 0) ∧ Ext H H' ∧ H'.get (H.n + 1) = some ⟨[rv], 1, false⟩)
    (fun x e H' => x = .exit 0 ∧ e = [(3, .int .i64 z), (9, .pointer (some ⟨H.n + 1, 0, none⟩)), (10, .slice (some ⟨H.n + 2, 0, none⟩) n n), (20, .int .i64 n), (21, .int .i64 n), (22, .bool false)] ∧
      Own H H' 1 (.slice (some ⟨H.n + 2, 0, none⟩) n n) encI ((cutRows r z n).map num) ∧ Ext H H')
    (e0 := [(3, .int .i64 z), (9, .pointer (some ⟨H.n + 1, 0, none⟩)), (10, .slice (some ⟨H.n + 2, 0, none⟩) n n), (20, .int .i64 n), (21, .int .i64 0)])
    (H0 := ((H.push ⟨[v], 1, false⟩).push ⟨[rv], 1, false⟩).push ⟨repeatCells [Value.int .i64 0] n, 1, false⟩)
    ⟨rfl, .inr ⟨H.n + 2, by simp, by omega, by rw [get_push_eq _ _ _ (by simp), repeat_I]; simp⟩, hx2.push _, by rw [get_push_lt _ _ _ (by simp), get_push_eq _ _ _ (by simp)]⟩ (by omega)
    (fun j e H' hj ⟨he, ho, hx, hg⟩ => by
      subst he
      have hlt : (j : Int) < n := by omega
      have hnum := number_run k (hs.up hx) hrb ((z : Int) * j) z hz (by omega)
      rw [uS_cut hrl hj, orF_some] at hnum
      have hz4 : (z : Int) * j ≤ 4 * 2147483648 := Int.mul_le_mul (by omega) (by omega) (by omega) (by omega)
      have hz0 : 0 ≤ (z : Int) * j := Int.mul_nonneg (by omega) (by omega)
      have hlen : ((cutRows r z n).map num).length = n := by simp
      have hy : ((cutRows r z n).map num)[j]? = some (num ((r.drop (z * j)).take z)) := by rw [List.getElem?_map, cutRows_get _ _ _ _ hj]; rfl
      obtain ⟨b, H2, e1, h1, h2, h3, h4, h5, h6⟩ := ho.set encI_len j 0 1 0 (num ((r.drop (z * j)).take z)) (.int .i64 (num ((r.drop (z * j)).take z))) (fill_get _ _ hlen hj) rfl rfl (by decide) rfl
      rw [fill_step _ _ hlen hj _ hy] at h4
      simp at e1
      obtain ⟨rfl, _⟩ := e1
      generalize num ((r.drop (z * j)).take z) = y at hnum h3 h4
      have hx' : Ext H H2 := ⟨by rw [h6]; exact hx.n, fun c hc hs => by rw [h5 c (by omega)]; exact hx.2 c hc hs⟩
      refine .inl ⟨_, H2, ?_, rfl, h4, hx', by rw [h5 _ (by omega)]; exact hg⟩
      simp only [Nat.add_zero, Nat.mul_one] at h3
      rw [lookup_list_l1_eq]
      simp -implicitDefEqProofs (disch := omega) [-stR_ptr, hlt, hg, hnum, ixS_slice, h3])
    (fun e H' ⟨he, ho, hx, hg⟩ => by
      subst he
      refine ⟨.exit 0, _, H', ?_, by simp, rfl, rfl, by simpa [List.take_of_length_le] using ho, hx⟩
      rw [lookup_list_l1_eq]
      simp -implicitDefEqProofs)
  obtain ⟨L, hf⟩ := ho.freeze encI_len (encI_still _) 6
  simp -implicitDefEqProofs (disch := omega) [mkR_nat, hr', lookup_list_l1k_x0]
  exact .ok hx ⟨L, hf⟩
end Go.Sw
