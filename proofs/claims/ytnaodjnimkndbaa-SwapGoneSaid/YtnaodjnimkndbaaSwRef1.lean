/-
  The document's numbers of bytes.
-/
import Derived.Test.YtnaodjnimkndbaaSwView
import Derived.Test.YtnaodjnimkndbaaSwGswashref01
namespace Go.Sw
open Go.RowKit

def inS (size i n : Int) : Bool := decide (0 ≤ i ∧ 0 ≤ n ∧ i ≤ size ∧ n ≤ size - i)
theorem refIn_run (k : Nat) (z i n : Int) (hz0 : 0 ≤ z) (hz : z < 2 ^ 62) (H : Heap) : R (T k) F.swashref01_In [.int .i64 z, .int .i64 i, .int .i64 n] H = .ok (.bool (inS z i n)) H := by
  rw [swashref01_In_R]
  refine nrm_gc (Pure.of ?_) (.bool _)
  unfold inS
  by_cases h1 : 0 ≤ i
  · by_cases h2 : 0 ≤ n
    · by_cases h3 : i ≤ z
      · by_cases h4 : n ≤ z - i <;> simp -implicitDefEqProofs (disch := omega) [swashref01_In, h1, h2, h3, h4]
      · simp -implicitDefEqProofs (disch := omega) [swashref01_In, h1, h2, h3]
    · simp -implicitDefEqProofs (disch := omega) [swashref01_In, h1, h2]
  · simp -implicitDefEqProofs (disch := omega) [swashref01_In, h1]

theorem num_snoc (l : List Int) (y : Int) : num (l ++ [y]) = 256 * num l + y := by simp [num]
theorem num_acc : ∀ (l : List Int) (x m : Int), 0 ≤ x → x < m → Byt l → 0 ≤ l.foldl (fun x y => 256 * x + y) x ∧ l.foldl (fun x y => 256 * x + y) x < m * 256 ^ l.length
  | [], x, m, h0, h1, _ => by simp; exact ⟨h0, h1⟩
  | y :: l, x, m, h0, h1, hb => by
    have hy := hb y (by simp)
    have := num_acc l (256 * x + y) (256 * m) (by omega) (by omega) fun n hn => hb n (by simp [hn])
    rw [List.foldl_cons, List.length_cons, Int.pow_succ, Int.mul_comm (256 ^ l.length) 256, ← Int.mul_assoc, Int.mul_comm m 256]
    exact this
theorem num_bound (l : List Int) (h : Byt l) : 0 ≤ num l ∧ num l < 256 ^ l.length := by
  have := num_acc l 0 1 (by omega) (by omega) h
  rw [Int.one_mul] at this
  exact this
theorem num_bound3 (l : List Int) (h : Byt l) (hl : l.length ≤ 3) : 0 ≤ num l ∧ num l < 16777216 := by
  have := num_bound l h
  rcases (by omega : l.length = 0 ∨ l.length = 1 ∨ l.length = 2 ∨ l.length = 3) with e | e | e | e <;> rw [e] at this <;> omega

theorem refU_run (k : Nat) {H : Heap} {v : Value} {b : List Int} (hv : Sl H 1 v encB b) (hb : Byt b) (i n : Int) (hl : b.length < 2 ^ 62) (hn : n ≤ 4) : R (T k) F.swashref01_U [v, .int .i64 i, .int .i64 n] H = .ok (.int .i64 ((uS b i n).getD (-1))) H := by
  rw [swashref01_U_R]
  refine nrm_gc (Pure.of ?_) (.int _ _)
  have hin := refIn_run k b.length i n (by omega) (by omega)
  by_cases hc : 0 ≤ i ∧ 0 ≤ n ∧ i ≤ b.length ∧ n ≤ b.length - i
  · have hi : inS b.length i n = true := by simpa [inS] using hc
    rw [hi] at hin
    obtain ⟨h1, h2, h3, h4⟩ := hc
    obtain ⟨i, rfl⟩ := Int.eq_ofNat_of_zero_le h1
    obtain ⟨n, rfl⟩ := Int.eq_ofNat_of_zero_le h2
    obtain ⟨l, hld⟩ : ∃ l, l = (b.drop i).take n := ⟨_, rfl⟩
    have hp : pieceS b i n = some l := by rw [pieceS, if_pos ⟨h1, h2, h3, h4⟩, hld]; simp
    have hbl := (hb.piece hp).1
    have hll : l.length = n := by have := pieceS_len hp; omega
    have hu : (uS b i n).getD (-1) = num l := by rw [uS, hp]; rfl
    rw [hu]
    obtain ⟨x, e', H1, hr, rfl, rfl, a, rfl⟩ := loop_up (body := swashref01_U_l1 k (R (T k))) n
      (fun j e H' => H' = H ∧ e = [(0, v), (1, .int .i64 i), (2, .int .i64 n), (7, .int .i64 (num (l.take j))), (8, .int .i64 j)])
      (fun x e H' => H' = H ∧ x = .exit 0 ∧ ∃ a, e = [(0, v), (1, .int .i64 i), (2, .int .i64 n), (7, .int .i64 (num l)), (8, .int .i64 n), (17, a)])
      (e0 := [(0, v), (1, .int .i64 i), (2, .int .i64 n), (7, .int .i64 0), (8, .int .i64 0)]) (H0 := H) ⟨rfl, rfl⟩ (by omega)
      (fun j e H' hj ⟨hH, he⟩ => by
        subst he hH
        obtain ⟨y, hy⟩ : ∃ y, l[j]? = some y := ⟨l[j]'(by omega), List.getElem?_eq_getElem _⟩
        have hyb := hbl y (List.mem_of_getElem? hy)
        have hg : b[i + j]? = some y := by
          rw [hld, List.getElem?_take, if_pos hj, List.getElem?_drop] at hy
          exact hy
        obtain ⟨p, hix, hld⟩ := hv.ix1 encB_len (i + j) y hg _ rfl
        have hix : ∀ H'', ixS 1 v (.int .i64 ((i : Int) + j)) H'' = .ok p H'' := fun H'' => by rw [← hix .i64 H'', Int.natCast_add]
        have hld := hld _ (Ext.refl _)
        have hnb := num_bound3 (l.take j) (fun z hz => hbl z (List.mem_of_mem_take hz)) (by simp; omega)
        have hlt : (j : Int) < n := by omega
        refine .inl ⟨_, H', ?_, rfl, rfl⟩
        rw [swashref01_U_l1_eq, List.take_add_one, hy, Option.toList_some, num_snoc]
        simp -implicitDefEqProofs (disch := omega) [hlt, hix, hld])
      (fun e H' ⟨hH, he⟩ => by
        subst he hH
        refine ⟨.exit 0, _, H', ?_, by simp, rfl, rfl, .bool false, rfl⟩
        rw [swashref01_U_l1_eq, List.take_of_length_le (by omega)]
        simp -implicitDefEqProofs)
    simp -implicitDefEqProofs (disch := omega) [swashref01_U, hv.len, hin, hr, swashref01_U_l1k_x0]
  · have hi : inS b.length i n = false := by simpa [inS] using hc
    rw [hi] at hin
    have hu : (uS b i n).getD (-1) = -1 := by rw [uS, pieceS, if_neg hc]; rfl
    rw [hu]
    simp -implicitDefEqProofs (disch := omega) [swashref01_U, hv.len, hin]

/-- Are so many rows there? -/
def rowsB (z i n s : Int) : Bool := decide (0 ≤ i ∧ 0 ≤ n ∧ 0 ≤ s ∧ i ≤ z ∧ (s = 0 ∨ n ≤ (z - i) / s))
theorem refRows_run (k : Nat) (z i n s : Int) (hz0 : 0 ≤ z) (hz : z < 2 ^ 62) (H : Heap) : R (T k) F.swashref01_Rows [.int .i64 z, .int .i64 i, .int .i64 n, .int .i64 s] H = .ok (.bool (rowsB z i n s)) H := by
  rw [swashref01_Rows_R]
  refine nrm_gc (Pure.of ?_) (.bool _)
  by_cases h1 : i < 0
  · have e : rowsB z i n s = false := by unfold rowsB; simp; omega
    simp -implicitDefEqProofs (disch := omega) [swashref01_Rows, h1, e]
  by_cases h2 : n < 0
  · have e : rowsB z i n s = false := by unfold rowsB; simp; omega
    simp -implicitDefEqProofs (disch := omega) [swashref01_Rows, h1, h2, e]
  by_cases h3 : s < 0
  · have e : rowsB z i n s = false := by unfold rowsB; simp; omega
    simp -implicitDefEqProofs (disch := omega) [swashref01_Rows, h1, h2, h3, e]
  by_cases h4 : i > z
  · have e : rowsB z i n s = false := by unfold rowsB; simp; omega
    simp -implicitDefEqProofs (disch := omega) [swashref01_Rows, h1, h2, h3, h4, e]
  by_cases h5 : s = 0
  · subst h5
    have e : rowsB z i n 0 = true := by unfold rowsB; simp; omega
    simp -implicitDefEqProofs (disch := omega) [swashref01_Rows, h1, h2, h4, e]
  have hq : (z - i).tdiv s = (z - i) / s := Int.tdiv_eq_ediv_of_nonneg (by omega)
  have hq0 : 0 ≤ (z - i) / s := Int.ediv_nonneg (by omega) (by omega)
  have hq1 : (z - i) / s ≤ z - i := Int.ediv_le_self _ (by omega)
  have qr := fun H => bin_quo Prog 3 H .i64 (z - i) s h5
  rw [hq] at qr
  have hb5 : (s == 0) = false := by simpa using h5
  have e : rowsB z i n s = decide (n ≤ (z - i) / s) := by unfold rowsB; simp only [decide_eq_decide]; omega
  simp -implicitDefEqProofs (disch := omega) [swashref01_Rows, h1, h2, h3, h4, hb5, qr, e]

theorem refS16_run (k : Nat) (n : Int) (h1 : -9223372036854775808 ≤ n) (h2 : n ≤ 9223372036854775807) (H : Heap) : R (T k) F.swashref01_S16 [.int .i64 n] H = .ok (.int .i64 (s16 n)) H := by
  rw [swashref01_S16_R]
  refine nrm_gc (Pure.of ?_) (.int _ _)
  unfold s16
  by_cases h : n ≥ 32768
  · simp -implicitDefEqProofs (disch := omega) [swashref01_S16, h]
  · simp -implicitDefEqProofs (disch := omega) [swashref01_S16, h]
theorem refS32_run (k : Nat) (n : Int) (h1 : -9223372036854775808 ≤ n) (h2 : n ≤ 9223372036854775807) (H : Heap) : R (T k) F.swashref01_S32 [.int .i64 n] H = .ok (.int .i64 (s32 n)) H := by
  rw [swashref01_S32_R]
  refine nrm_gc (Pure.of ?_) (.int _ _)
  unfold s32
  by_cases h : n ≥ 2147483648
  · simp -implicitDefEqProofs (disch := omega) [swashref01_S32, h]
  · simp -implicitDefEqProofs (disch := omega) [swashref01_S32, h]

theorem refFrom_run (k : Nat) (b : List Int) (i : Int) (H : Heap) : R (T k) F.swashref01_From [lv encB b, .int .i64 i] H = .ok (.tuple #[lv encB ((restS b i).getD []), .bool (restS b i).isSome]) H := by
  rw [swashref01_From_R]
  have hst : ∀ (b : List Int) (x : Bool), fzV H.n H fzDepth (.tuple #[lv encB b, .bool x]) = some (.tuple #[lv encB b, .bool x], []) := fun b x => rfl
  by_cases h1 : 0 ≤ i
  · by_cases h2 : i ≤ b.length
    · have e : restS b i = some (b.drop i.toNat) := by rw [restS, if_pos ⟨h1, h2⟩]
      rw [e]
      obtain ⟨i, rfl⟩ := Int.eq_ofNat_of_zero_le h1
      have hs := slS_lv encB_len b (some (.int .i64 i)) none none i b.length b.length (by simp [boundOf]) rfl rfl (fun h => by cases h) (by omega) (by omega) (by omega)
      rw [List.take_length] at hs
      refine nrm_fz (v := .tuple #[lv encB (b.drop i), .bool true]) (H' := H) ?_ (hst _ _) (Ext.refl H) (Flat.tupleL (.cons (Flat.B _) (.cons (.bool _) .nil))).alive
      have h3 : ¬ (i : Int) < 0 := by omega
      have h4 : ¬ (i : Int) > b.length := by omega
      simp -implicitDefEqProofs (disch := omega) [swashref01_From, h3, h4, hs]
    · have e : restS b i = none := by rw [restS, if_neg (by omega)]
      rw [e]
      refine nrm_fz (v := .tuple #[.slice none 0 0, .bool false]) (H' := H) ?_ (L := []) rfl (Ext.refl H) (Flat.tupleL (.cons (Flat.B []) (.cons (.bool _) .nil))).alive
      have h3 : ¬ (i : Int) < 0 := by omega
      have h4 : (i : Int) > b.length := by omega
      simp -implicitDefEqProofs (disch := omega) [swashref01_From, h3, h4]
  · have e : restS b i = none := by rw [restS, if_neg (by omega)]
    rw [e]
    refine nrm_fz (v := .tuple #[.slice none 0 0, .bool false]) (H' := H) ?_ (L := []) rfl (Ext.refl H) (Flat.tupleL (.cons (Flat.B []) (.cons (.bool _) .nil))).alive
    have h3 : (i : Int) < 0 := by omega
    simp -implicitDefEqProofs (disch := omega) [swashref01_From, h3]
end Go.Sw
