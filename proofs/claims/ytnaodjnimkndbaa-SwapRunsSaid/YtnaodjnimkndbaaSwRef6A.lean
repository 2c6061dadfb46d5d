/-
  The document's rows.
-/
import Derived.Test.YtnaodjnimkndbaaSwByteS
import Derived.Test.YtnaodjnimkndbaaSwMisc
import Derived.Test.YtnaodjnimkndbaaSwGswashref05
namespace Go.Sw
open Go.RowKit

def rowsO (b : List Int) (i need : Int) (keys : Nat) : Value := match takeS b i need keys with
  | some rows => .tuple #[lv encI (posS i (gU b i 2) rows.length), .int .i64 (gU b i 2), .bool true]
  | none => .tuple #[lv encI [], .int .i64 0, .bool false]
theorem rowsO_flat (b : List Int) (i need : Int) (keys : Nat) : Flat (rowsO b i need keys) := by
  unfold rowsO
  split
  · exact .tupleL (.cons (Flat.I _) (.cons (.int _ _) (.cons (.bool _) .nil)))
  · exact .tupleL (.cons (Flat.I _) (.cons (.int _ _) (.cons (.bool _) .nil)))

theorem inS_piece {b : List Int} {i n : Int} : (pieceS b i n).isSome = inS b.length i n := by
  unfold pieceS inS
  split
  · rename_i h; rw [decide_eq_true h]; rfl
  · rename_i h; rw [decide_eq_false h]; rfl
theorem uS_of_in {b : List Int} {i n : Int} (h : inS b.length i n = true) : ∃ x, uS b i n = some x := by
  rw [← inS_piece, Option.isSome_iff_exists] at h
  obtain ⟨r, hr⟩ := h
  exact ⟨num r, by unfold uS; rw [hr]; rfl⟩
theorem posS_take (i z : Int) (n j : Nat) (h : j ≤ n) : (posS i z n).take j = posS i z j := by
  unfold posS
  rw [← List.map_take, List.take_range, Nat.min_eq_left h]
theorem posS_snoc (i z : Int) (n : Nat) : posS i z (n + 1) = posS i z n ++ [i + 10 + z * (n : Nat)] := by simp [posS, List.range_succ]

theorem rows05_run (k : Nat) (b : List Int) (hb : Byt b) (i need : Int) (keys : Nat) (hl : b.length < 2 ^ 31) (hi0 : 0 ≤ i) (hi : i < 65536) (hneed : 0 < need) (hk : 2 * (keys : Int) ≤ need) (H : Heap) :
    R (T k) F.swashref05_Rows [lv encB b, .int .i64 i, .int .i64 need, .int .i64 keys] H = .ok (rowsO b i need keys) H := by
  rw [swashref05_Rows_R]
  have hU := fun j H' => refU_run k (H := H') (Sl.lv H' 1 b) hb j 2 (by omega) (by omega)
  have hIn := fun H' => refIn_run k b.length i 10 (by omega) (by omega) H'
  have hnil : ∃ L, fzV H.n H fzDepth (.tuple #[.slice none 0 0, .int .i64 0, .bool false]) = some (.tuple #[lv encI [], .int .i64 0, .bool false], L) := ⟨_, rfl⟩
  obtain ⟨L0, hnil⟩ := hnil
  have hno : takeS b i need keys = none → swashref05_Rows k (R (T k)) (lv encB b) (.int .i64 i) (.int .i64 need) (.int .i64 keys) H = .ok (.tuple #[.slice none 0 0, .int .i64 0, .bool false]) H → nrm .fz H (swashref05_Rows k (R (T k)) (lv encB b) (.int .i64 i) (.int .i64 need) (.int .i64 keys) H) = .ok (rowsO b i need keys) H := fun h1 h2 => by
    have fl := rowsO_flat b i need keys
    unfold rowsO at fl ⊢
    rw [h1] at fl ⊢
    exact nrm_fz h2 hnil (Ext.refl H) fl.alive
  cases hin : inS b.length i 10 with
  | false =>
    have hp : pieceS b i 10 = none := by
      have := inS_piece (b := b) (i := i) (n := 10)
      rw [hin] at this
      simpa using this
    refine hno (by unfold takeS; rw [hp]; split <;> simp) ?_
    rw [hin] at hIn
    have hg1 : -1 ≤ (uS b i 2).getD (-1) ∧ (uS b i 2).getD (-1) < 65536 := gU_two hb i
    have hg2 : -1 ≤ (uS b (i + 2) 2).getD (-1) ∧ (uS b (i + 2) 2).getD (-1) < 65536 := gU_two hb (i + 2)
    simp -implicitDefEqProofs (disch := omega) [swashref05_Rows, hU, hIn]
  | true =>
    rw [hin] at hIn
    have hin' : 0 ≤ i ∧ 0 ≤ (10 : Int) ∧ i ≤ b.length ∧ 10 ≤ b.length - i := of_decide_eq_true hin
    obtain ⟨z, hz⟩ := uS_of_in (b := b) (i := i) (n := 2) (by unfold inS; exact decide_eq_true (by omega))
    obtain ⟨n, hn⟩ := uS_of_in (b := b) (i := i + 2) (n := 2) (by unfold inS; exact decide_eq_true (by omega))
    have hz2 := uS_two hb hz
    have hn2 := uS_two hb hn
    have hu1 := fun H' => hU i H'
    have hu2 := fun H' => hU (i + 2) H'
    rw [hz] at hu1
    rw [hn] at hu2
    simp only [Option.getD_some] at hu1 hu2
    have hpc : (pieceS b i 10).isSome = true := by rw [inS_piece]; exact hin
    by_cases hnz : need ≤ z
    rotate_left
    · refine hno (by unfold takeS; rw [hz, hn]; simp [hnz]) ?_
      have : z < need := by omega
      simp -implicitDefEqProofs (disch := omega) [swashref05_Rows, hu1, hu2, hIn, this]
    have hnz' : ¬ z < need := by omega
    have hRows := fun H' => refRows_run k b.length (i + 10) n z (by omega) (by omega) H'
    cases hrb : rowsB b.length (i + 10) n z with
    | false =>
      have hrs : rowsS b (i + 10) n z = none := by
        cases h : rowsS b (i + 10) n z with
        | none => rfl
        | some r =>
          have := (rowsB_iff (by omega)).2 ((rowsS_iff (by omega)).1 h).1
          rw [hrb] at this; cases this
      rw [hrb] at hRows
      refine hno (by unfold takeS; rw [hz, hn]; simp [hrs]) ?_
      simp -implicitDefEqProofs (disch := omega) [swashref05_Rows, hu1, hu2, hIn, hnz', hRows]
    | true =>
      rw [hrb] at hRows
      have hrs := (rowsS_iff (r := (b.drop (i + 10).toNat).take (n * z).toNat) (by omega)).2 ⟨(rowsB_iff (by omega)).1 hrb, rfl⟩
      obtain ⟨r, hr⟩ : ∃ r, r = (b.drop (i + 10).toNat).take (n * z).toNat := ⟨_, rfl⟩
      rw [← hr] at hrs
      have htake : takeS b i need keys = some (endRows r z.toNat n.toNat keys) := by unfold takeS; rw [hz, hn]; simp [hpc, hnz, hrs]
      obtain ⟨n, rfl⟩ := Int.eq_ofNat_of_zero_le hn2.1
      have hzn : (z.toNat : Int) = z := by omega
      -- the rows' places
      obtain ⟨x, e', H1, hr1, rfl, ⟨a, s, rfl, ho⟩, hx⟩ := loop_up (body := swashref05_Rows_l1 k (R (T k))) n
        (fun j e H' => (∃ s, e = [(0, lv encB b), (1, .int .i64 i), (3, .int .i64 keys), (11, .int .i64 z), (12, .int .i64 n), (13, s), (14, .int .i64 j)] ∧ Own H H' 1 s encI (posS i z j)) ∧ Ext H H')
        (fun x e H' => x = .exit 0 ∧ (∃ a s, e = [(0, lv encB b), (1, .int .i64 i), (3, .int .i64 keys), (11, .int .i64 z), (12, .int .i64 n), (13, s), (14, .int .i64 n), (47, a)] ∧ Own H H' 1 s encI (posS i z n)) ∧ Ext H H')
        (e0 := [(0, lv encB b), (1, .int .i64 i), (3, .int .i64 keys), (11, .int .i64 z), (12, .int .i64 n), (13, bareV), (14, .int .i64 0)]) (H0 := H) ⟨⟨_, rfl, Own.bare _ _ _⟩, Ext.refl H⟩ (by omega)
        (fun j e H' hj ⟨⟨s, he, ho⟩, hx⟩ => by
          subst he
          have hlt : (j : Int) < n := by omega
          have hjz : (j : Int) * z ≤ 65536 * 65536 := Int.mul_le_mul (by omega) (by omega) (by omega) (by omega)
          have hjz0 : 0 ≤ (j : Int) * z := Int.mul_nonneg (by omega) (by omega)
          obtain ⟨s2, H2, e2, o2, x2⟩ := ap1_own (bytes := 8) encI_len ho hx (i + 10 + z * (j : Nat)) (by simp; omega) (by decide)
          rw [← posS_snoc] at o2
          rw [Int.mul_comm z] at e2
          refine .inl ⟨_, H2, ?_, ⟨s2, rfl, o2⟩, x2⟩
          rw [swashref05_Rows_l1_eq]
          simp -implicitDefEqProofs (disch := omega) [hlt, e2])
        (fun e H' ⟨⟨s, he, ho⟩, hx⟩ => by
          subst he
          refine ⟨.exit 0, _, H', ?_, by simp, rfl, ⟨.bool false, s, rfl, ho⟩, hx⟩
          rw [swashref05_Rows_l1_eq]
          simp -implicitDefEqProofs)
      have hgu : gU b i 2 = z := gU_some hz
      have fl := rowsO_flat b i need keys
      unfold rowsO at fl ⊢
      rw [htake, hgu] at fl ⊢
      dsimp only at fl ⊢
      by_cases hn0 : n = 0
      · subst hn0
        obtain ⟨L, hf⟩ := ho.freeze encI_len (encI_still _) 5
        have e2 : (endRows r z.toNat (Int.toNat ((0 : Nat) : Int)) keys).length = 0 := by simp [endRows]
        rw [e2] at fl ⊢
        refine nrm_fz (v := .tuple #[s, .int .i64 z, .bool true]) (H' := H1) ?_ (fz_tuple (l := [s, .int .i64 z, .bool true]) (mapF_cons hf (mapF_cons (L1 := []) rfl (mapF_one (L := []) rfl)))) hx fl.alive
        simp at hr1 hRows
        simp -implicitDefEqProofs (disch := omega) [swashref05_Rows, hu1, hu2, hIn, hnz', hRows, hr1, swashref05_Rows_l1k_x0, swashref05_Rows_j1_eq]
      · have hgt : 0 < n := by omega
        obtain ⟨z, rfl⟩ := Int.eq_ofNat_of_zero_le hz2.1
        simp only [Int.toNat_natCast] at *
        have hrow := rowsS_row hrs (j := n - 1) (by omega)
        obtain ⟨row, hrowd⟩ : ∃ row, row = (r.drop (z * (n - 1))).take z := ⟨_, rfl⟩
        rw [← hrowd] at hrow
        have hlast := posS_get i z n (n - 1) (by omega)
        obtain ⟨bk, hsk, hbk, hgk, _⟩ := ixS_own ho .i64 (n - 1) (by simp; omega) H1
        rw [posS_len] at hsk
        have hixk : ∀ H'', ixS 1 s (.int .i64 ((n : Int) - 1)) H'' = .ok (.pointer (some ⟨bk, (n - 1) * 1, none⟩)) H'' := fun H'' => by
          rw [hsk, show ((n : Int) - 1) = ((n - 1 : Nat) : Int) by omega]
          have := ixS_slice 1 bk 0 n n .i64 (n - 1) H'' (by omega)
          simpa using this
        have hld := ld1_row encI_len hgk (c := 0) hlast (by decide) rfl
        simp only [Nat.add_zero, Nat.mul_one] at hld hixk
        have hp0 : 0 ≤ i + 10 + (z : Int) * ((n - 1 : Nat) : Int) ∧ i + 10 + (z : Int) * ((n - 1 : Nat) : Int) < 2 ^ 34 := by
          have := Int.mul_nonneg (show (0 : Int) ≤ z by omega) (show (0 : Int) ≤ ((n - 1 : Nat) : Int) by omega)
          have : (z : Int) * ((n - 1 : Nat) : Int) ≤ 65536 * 65536 := Int.mul_le_mul (by omega) (by omega) (by omega) (by omega)
          omega
        generalize i + 10 + (z : Int) * ((n - 1 : Nat) : Int) = p at hrow hld hp0
        obtain ⟨x, e', H2, hr2, rfl, rfl, a2, rfl⟩ := loop_up (body := swashref05_Rows_l2 k (R (T k))) keys
          (fun j e H' => H' = H1 ∧ e = [(0, lv encB b), (3, .int .i64 keys), (11, .int .i64 z), (12, .int .i64 n), (13, s), (15, .bool ((List.range j).all fun q => uS row (2 * q) 2 == some 65535)), (16, .int .i64 j)])
          (fun x e H' => H' = H1 ∧ x = .exit 2 ∧ ∃ a, e = [(0, lv encB b), (3, .int .i64 keys), (11, .int .i64 z), (12, .int .i64 n), (13, s), (15, .bool (noneS row keys)), (16, .int .i64 keys), (63, a)])
          (e0 := [(0, lv encB b), (3, .int .i64 keys), (11, .int .i64 z), (12, .int .i64 n), (13, s), (15, .bool true), (16, .int .i64 0)]) (H0 := H1) ⟨rfl, rfl⟩ (by omega)
          (fun j e H' hj ⟨hH, he⟩ => by
            subst he hH
            have hlt : (j : Int) < keys := by omega
            refine .inl ⟨_, _, ?_, rfl, rfl⟩
            rw [swashref05_Rows_l2_eq, List.range_succ, List.all_append]
            cases hall : (List.range j).all fun q => uS row (2 * q) 2 == some 65535 with
            | false => simp -implicitDefEqProofs (disch := omega) [hlt]
            | true =>
              have hsub := uS_sub hrow (x := 2 * j) (y := 2) (by omega) (by omega) (by omega)
              have hu := hU (p + 2 * j)
              rw [← hsub] at hu
              obtain ⟨y, hy⟩ : ∃ y, uS row (2 * j) 2 = some y := by
                obtain ⟨y, hy⟩ := (row_two hrow (x := 2 * j) (y := 2) (by omega) (by omega) (by omega)).2
                exact ⟨y, by rw [hsub, hy]⟩
              rw [hy] at hu
              simp -implicitDefEqProofs (disch := omega) [hlt]
              rw [hixk]
              simp -implicitDefEqProofs (disch := omega) [hlt, hld, hu, hy])
          (fun e H' ⟨hH, he⟩ => by
            subst he hH
            refine ⟨.exit 2, _, _, ?_, by simp, rfl, rfl, .bool false, rfl⟩
            rw [swashref05_Rows_l2_eq]
            simp -implicitDefEqProofs [noneS])
        obtain ⟨bf, L, hsf, hf⟩ := ho.freeze_take encI_len (encI_still _) 5 (endRows r z n keys).length (by unfold endRows; split <;> simp) (by simp; omega)
        rw [posS_len] at hsf
        have hbf : bk = bf := by rw [hsk] at hsf; simpa using hsf
        subst hbf
        rw [posS_take _ _ _ _ (by unfold endRows; split <;> simp)] at hf
        cases hno : noneS row keys with
        | false =>
          rw [hno] at hr2
          have e2 : (endRows r z n keys).length = n := by unfold endRows; rw [← hrowd, hno]; simp
          rw [e2] at hf fl ⊢
          refine nrm_fz (v := .tuple #[s, .int .i64 z, .bool true]) (H' := H2) ?_ (fz_tuple (l := [s, .int .i64 z, .bool true]) (mapF_cons (by rw [hsk]; exact hf n) (mapF_cons (L1 := []) rfl (mapF_one (L := []) rfl)))) hx fl.alive
          simp -implicitDefEqProofs (disch := omega) [swashref05_Rows, hu1, hu2, hIn, hnz', hRows, hr1, swashref05_Rows_l1k_x0, hgt, hr2, swashref05_Rows_l2k_x2, swashref05_Rows_j3_eq]
        | true =>
          rw [hno] at hr2
          have e2 : (endRows r z n keys).length = n - 1 := by unfold endRows; rw [← hrowd, hno, if_pos ⟨by omega, rfl⟩]; simp
          rw [e2] at hf fl ⊢
          have hsl := slS_own hgk .i64 (n - 1) (by simp)
          rw [posS_len, show (((n - 1 : Nat)) : Int) = (n : Int) - 1 by omega] at hsl
          refine nrm_fz (v := .tuple #[.slice (some ⟨bk, 0, none⟩) (n - 1) n, .int .i64 z, .bool true]) (H' := H2) ?_ (fz_tuple (l := [.slice (some ⟨bk, 0, none⟩) (n - 1) n, .int .i64 z, .bool true]) (mapF_cons (hf n) (mapF_cons (L1 := []) rfl (mapF_one (L := []) rfl)))) hx fl.alive
          subst hsk
          simp -implicitDefEqProofs (disch := omega) [swashref05_Rows, hu1, hu2, hIn, hnz', hRows, hr1, swashref05_Rows_l1k_x0, hgt, hr2, swashref05_Rows_l2k_x2, hsl, swashref05_Rows_j2_eq]
end Go.Sw
