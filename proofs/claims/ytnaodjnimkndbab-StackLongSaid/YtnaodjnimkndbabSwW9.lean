/-
  Functions' forms, and what is proved of them, part 9.
-/
import Derived.Test.YtnaodjnimkndbabSwW8
import Derived.Test.YtnaodjnimkndbabSwW3
import Derived.Test.YtnaodjnimkndbabSwW5
import Derived.Test.YtnaodjnimkndbabSwLib8
import Derived.Eval
set_option linter.unusedSimpArgs false
set_option linter.unusedVariables false
set_option linter.unusedSectionVars false
section
namespace Go.Sw
open Go.RowKit
theorem sv_lt {k i : Nat} (hk : k ≤ 1000) (h : i < k) : 0 ≤ sv k i ∧ sv k i < 32768 := by unfold sv; split <;> omega
theorem svs_m16 {k : Nat} (hk : k ≤ 1000) : (svs k).map m16 = svs k := by
 conv => rhs; rw [← List.map_id (svs k)]
 refine List.map_congr_left fun x hx => ?_
 unfold svs at hx
 obtain ⟨i, hi, rfl⟩ := List.mem_map.1 hx
 have := sv_lt hk (List.mem_range.1 hi)
 show m16 (sv k i) = sv k i
 unfold m16
 omega
theorem long_read {k : Nat} (h0 : 0 < k) (hk : k ≤ 1000) : ∃ m, stackS (roomB svPlan 1 0 (svs k)) 9 = some (svTab m k) ∧ Reads svPlan 1 m := by
  obtain ⟨m, hm, hr⟩ := two_mach (cls := [4, 5]) (e0 := ⟨0, 0, 65535, 0⟩) (e1 := ⟨0, 32768, 65535, 0⟩) (e2 := ⟨0, 32768, 0, 0⟩) (fun x hx => by have : x = 4 ∨ x = 5 := by simpa using hx
                                                                                                                                                omega) (by decide) (by decide) (by decide) (by decide) (w := 1) (.inr (.inl rfl)) (bytesOf (0 + (planRoom svPlan 1 (List.replicate 4 0)).length : Int) 4) (twos (svs k)) (by simp) 9
  refine ⟨m, ?_, hr⟩
  have hlen : (planRoom svPlan 1 (List.replicate 4 0)).length ≤ 100000 := planRoom_len (twoPlan_ok (fun x hx => by have : x = 4 ∨ x = 5 := by simpa using hx
                                                                                                                   omega) _ _ _) 1 (rm := List.replicate 4 0) (by simp) (by decide) (by decide) (by decide)
  have hu := roomB_u svPlan 1 0 (svs k) (by omega) (by omega)
  have hrest := roomB_rest svPlan 1 0 (svs k)
  unfold stackS
  have hm : machS (roomB svPlan 1 0 (svs k)) 9 1 = some m := hm
  rw [hm, hu]
  simp only [Option.bind_some, Int.zero_add]
  rw [hrest]
  simp only [Option.bind_some]
  rw [if_pos]
  · rfl
  refine List.all_eq_true.2 fun e he => ?_
  obtain ⟨i, hi⟩ := List.mem_iff_getElem?.1 he
  obtain ⟨q, hq, rfl⟩ := hr.ent i e hi
  have hq : q = ⟨0, 0, 65535, 0⟩ ∨ q = ⟨0, 32768, 65535, 0⟩ ∨ q = ⟨0, 32768, 0, 0⟩ := by
    have := List.mem_of_getElem? hq
    simpa [twoPlan] using this
  rcases hq with rfl | rfl | rfl
  · rfl
  · rfl
  · have ho : oddB (twos (svs k)) 0 = true := oddB_iff.2 ⟨k - 1, by omega, by rw [twos_len, svs_len]; omega, by
      rw [sv_num (by omega) hk]
      unfold sv
      rw [if_pos (by omega)]
      omega⟩
    show (decide _ || oddB (twos (svs k)) 0) = true
    rw [ho, Bool.or_true]
theorem wrap_i16 {n : Int} (h1 : -32768 ≤ n) (h2 : n ≤ 32767) : IntKind.i16.wrap n = n := by
 unfold IntKind.wrap
 simp [IntKind.signed, IntKind.bits]
 omega
theorem set67a {L : List It} (h : 7 < L.length) (a b : It) : ((L.set 6 a).set 7 b)[6]? = some a := by
 rw [List.getElem?_set_ne (by decide), List.getElem?_set_self (by omega)]
theorem set67b {L : List It} (h : 7 < L.length) (a b : It) : ((L.set 6 a).set 7 b)[7]? = some b := List.getElem?_set_self (by rw [List.length_set]; omega)
theorem set67c (L : List It) (a b a' : It) : ((L.set 6 a).set 7 b).set 6 a' = (L.set 6 a').set 7 b := by
 rw [List.set_comm _ _ (by decide), List.set_set]
theorem long_l1 (k : Nat) {H0 H : Heap} {L : List It} {c : Nat} {p1 p2 p3 p4 : Value} (nv : Value) (K : Nat) (hK0 : 0 < K) (hK : K ≤ 12) (g : Star H0 H L) (h6 : L[6]? = some (itBlk c ⟨[p1, p2, p3, p4, .slice none 0 0], 1, false⟩)) (h7' : L[7]? = some (itRow none 1 (.slice none 0 0) enc16 [])) :
  ∃ s' o' zz H', loopN (swashlaw23_StackLong_l1 k (R (T k))) loopFuel [(5, nv), (6, .int .i64 K), (8, ptrV c), (40, .int .i64 K), (41, .int .i64 0)] H =
   .ok (.exit 0, [(5, nv), (6, .int .i64 K), (8, ptrV c), (40, .int .i64 K), (41, zz), (42, .bool false)]) H' ∧
   Star H0 H' ((L.set 6 (itBlk c ⟨[p1, p2, p3, p4, s'], 1, false⟩)).set 7 (itRow o' 1 s' enc16 (svs K))) := by
 have h7 : 7 < L.length := (List.getElem?_eq_some_iff.1 h7').1
 have g : Star H0 H ((L.set 6 (itBlk c ⟨[p1, p2, p3, p4, .slice none 0 0], 1, false⟩)).set 7 (itRow none 1 (.slice none 0 0) enc16 [])) := by rw [set_same h6, set_same h7']; exact g
 obtain ⟨xx, e', H1, hr1, rfl, s', o', rfl, g1⟩ := loop_up (body := swashlaw23_StackLong_l1 k (R (T k))) K
  (fun j e H' => ∃ s' o', e = [(5, nv), (6, .int .i64 K), (8, ptrV c), (40, .int .i64 K), (41, .int .i64 j)] ∧ Star H0 H' ((L.set 6 (itBlk c ⟨[p1, p2, p3, p4, s'], 1, false⟩)).set 7 (itRow o' 1 s' enc16 ((svs K).take j))))
  (fun xx e H' => xx = .exit 0 ∧ ∃ s' o', e = [(5, nv), (6, .int .i64 K), (8, ptrV c), (40, .int .i64 K), (41, .int .i64 K), (42, .bool false)] ∧ Star H0 H' ((L.set 6 (itBlk c ⟨[p1, p2, p3, p4, s'], 1, false⟩)).set 7 (itRow o' 1 s' enc16 (svs K))))
  (e0 := [(5, nv), (6, .int .i64 K), (8, ptrV c), (40, .int .i64 K), (41, .int .i64 0)]) (H0 := H) ⟨_, none, rfl, g⟩ (by omega)
  (fun j e H' hj ⟨s', o', he, g⟩ => by
   subst he
   have hjl : (j : Int) < K := by omega
   have hx := svs_at hj
   have b8 := g.get 6 (set67a h7 _ _)
   obtain ⟨s2, o2, H2, e2, g2⟩ := g.append1 7 (bytes := 2) enc16_len (set67b h7 _ _) (sv K j) (by rw [List.length_take]; omega) (by decide)
   rw [List.set_set, ← take_snoc hx] at g2
   have b9 := g2.get 6 (set67a h7 _ _)
   obtain ⟨a9, n9, c9, rfl⟩ := (g2.row 7 (set67b h7 _ _)).shape
   have g3 := g2.setBlk 6 (set67a h7 _ _) ⟨[p1, p2, p3, p4, .slice a9 n9 c9], 1, false⟩
   rw [set67c] at g3
   have w0 : IntKind.i16.wrap (2 * ((j : Int) + 1)) = 2 * ((j : Int) + 1) := wrap_i16 (by omega) (by omega)
   by_cases hc : j + 1 = K
   ·have hc1 : ((j : Int) == (K : Int) - 1) = true := by rw [beq_iff_eq]; omega
    have w1 : IntKind.i16.wrap (2 * ((j : Int) + 1) + 1) = 2 * ((j : Int) + 1) + 1 := wrap_i16 (by omega) (by omega)
    have hsv : sv K j = 2 * ((j : Int) + 1) + 1 := by unfold sv; rw [if_pos hc]
    rw [hsv] at e2
    refine .inl ⟨_, _, ?_, _, o2, rfl, g3⟩
    rw [swashlaw23_StackLong_l1_eq]
    simp -implicitDefEqProofs (disch := omega) [hjl, w0, w1, hc1, swashlaw23_StackLong_j1_eq, b8, e2, b9]
   ·have hc1 : ((j : Int) == (K : Int) - 1) = false := by rw [beq_eq_false_iff_ne]; omega
    have hsv : sv K j = 2 * ((j : Int) + 1) := by unfold sv; rw [if_neg hc]
    rw [hsv] at e2
    refine .inl ⟨_, _, ?_, _, o2, rfl, g3⟩
    rw [swashlaw23_StackLong_l1_eq]
    simp -implicitDefEqProofs (disch := omega) [hjl, w0, hc1, swashlaw23_StackLong_j2_eq, b8, e2, b9])
  (fun e H' ⟨s', o', he, g⟩ => by
   subst he
   rw [List.take_of_length_le (by rw [svs_len]; omega)] at g
   refine ⟨.exit 0, _, H', ?_, by simp, rfl, s', o', rfl, g⟩
   rw [swashlaw23_StackLong_l1_eq]
   simp -implicitDefEqProofs)
 exact ⟨s', o', _, H1, hr1, g1⟩
def wantL (N K i : Nat) : Int := if N - 1 - i < min K 8 then 2 * (((N - 1 - i : Nat) : Int) + 1) else 0
theorem long_l2 (k : Nat) {H : Heap} (N K : Nat) (hN : N ≤ 20) (hK : K ≤ 12) (r : List Pl) (hr : ∀ i : Nat, i < N → r[i]? = some ⟨wantL N K i, 0, 0⟩) :
  ∃ zz H', loopN (swashlaw23_StackLong_l2 k (R (T k))) loopFuel [(5, .int .i64 N), (6, .int .i64 K), (89, lv encP r), (90, .int .i64 N), (91, .int .i64 0)] H =
   .ok (.exit 2, [(5, .int .i64 N), (6, .int .i64 K), (89, lv encP r), (90, .int .i64 N), (91, zz), (92, .bool false)]) H' ∧ Ext H H' := by
 obtain ⟨xx, e', H1, hr1, rfl, rfl, g1⟩ := loop_up (body := swashlaw23_StackLong_l2 k (R (T k))) N
  (fun j e H' => e = [(5, .int .i64 N), (6, .int .i64 K), (89, lv encP r), (90, .int .i64 N), (91, .int .i64 j)] ∧ Ext H H')
  (fun xx e H' => xx = .exit 2 ∧ e = [(5, .int .i64 N), (6, .int .i64 K), (89, lv encP r), (90, .int .i64 N), (91, .int .i64 N), (92, .bool false)] ∧ Ext H H')
  (e0 := [(5, .int .i64 N), (6, .int .i64 K), (89, lv encP r), (90, .int .i64 N), (91, .int .i64 0)]) (H0 := H) ⟨rfl, Ext.refl _⟩ (by omega)
  (fun j e H' hj ⟨he, hx⟩ => by
   subst he
   have hjl : (j : Int) < N := by omega
   have hq := hr j hj
   have i1 := fun H' => ixS_lvN encP_len r .i64 j _ hq H'
   refine .inl ⟨_, H'.push ⟨encP ⟨wantL N K j, 0, 0⟩, 1, false⟩, ?_, rfl, hx.push _⟩
   rw [swashlaw23_StackLong_l2_eq]
   by_cases hc : N - 1 - j < min K 8
   ·have hv : wantL N K j = 2 * ((N : Int) - 1 - j + 1) := by unfold wantL; rw [if_pos hc]; omega
    rw [hv] at i1 ⊢
    have hc1 : (N : Int) - 1 - j < if (8 : Int) < K then 8 else (K : Int) := by split <;> omega
    have w1 : IntKind.i32.wrap (2 * ((N : Int) - 1 - j + 1)) = 2 * ((N : Int) - 1 - j + 1) := wrap_i32 (by omega) (by omega)
    simp -implicitDefEqProofs (disch := omega) [hjl, i1, hc1, w1, swashlaw23_StackLong_j3_eq]
   ·have hv : wantL N K j = 0 := by unfold wantL; rw [if_neg hc]
    rw [hv] at i1 ⊢
    have hc1 : ¬ (N : Int) - 1 - j < if (8 : Int) < K then 8 else (K : Int) := by split <;> omega
    have w1 : IntKind.i32.wrap 0 = 0 := wrap_i32 (by omega) (by omega)
    simp -implicitDefEqProofs (disch := omega) [hjl, i1, hc1, w1, swashlaw23_StackLong_j4_eq])
  (fun e H' ⟨he, hx⟩ => by
   subst he
   refine ⟨.exit 2, _, H', ?_, by simp, rfl, rfl, hx⟩
   rw [swashlaw23_StackLong_l2_eq]
   simp -implicitDefEqProofs)
 exact ⟨_, H1, hr1, g1⟩
theorem slOf {α : Type} {enc : α → List Value} {H : Heap} {m b : Nat} {k : Blk} (l : List α) (hg : H.get b = some k) (hk : k.cells = rows enc l) (he : ∀ x, (enc x).length = m) : Sl H m (.slice (some ⟨b, 0, none⟩) l.length l.length) enc l :=
 .inr (.inr ⟨b, 0, _, _, rfl, Nat.le_refl _, hg, by rw [List.drop_zero, hk, List.take_of_length_le (by rw [rows_length he]; exact Nat.le_refl _)]⟩)
theorem longIds_cells (N : Nat) (hN : 0 < N) : rows encI (longIds N) = (rows encI (List.replicate N 0)).take (N - 1) ++ Value.int .i64 1 :: (rows encI (List.replicate N 0)).drop N := by
 have hr : ∀ l : List Int, rows encI l = l.map (Value.int .i64) := fun l => by
  induction l with
  | nil => rfl
  | cons a l ih => rw [List.map_cons, ← ih]; rfl
 rw [hr, hr]
 unfold longIds
 rw [List.map_set, List.map_replicate, List.set_eq_take_append_cons_drop, if_pos (by simp; omega), show N - 1 + 1 = N from by omega]
theorem long_ix (N : Nat) (hN : 0 < N) {H : Heap} {b : Nat} (hb : H.get b = some ⟨repeatCells [Value.int .i64 0] N, 1, false⟩) (H' : Heap) : ixS 1 (.slice (some ⟨b, 0, none⟩) N N) (.int .i64 ((N : Int) - 1)) H' = .ok (.pointer (some ⟨b, N - 1, none⟩)) H' := by
 unfold ixS
 dsimp only
 rw [if_pos ⟨by omega, by omega⟩]
 have : ((N : Int) - 1).toNat = N - 1 := by omega
 simp [this]
theorem long_len (N : Nat) : N ≤ (repeatCells [Value.int .i64 0] N).length := by rw [zeros_rows, rows_length encI_len, List.length_replicate]; omega
theorem long_sp (N : Nat) (hN : 0 < N) : splice (repeatCells [Value.int .i64 0] N) (N - 1) [Value.int .i64 1] = rows encI (longIds N) := by
 rw [zeros_rows, longIds_cells N hN]
 have h1 : N - 1 + 1 = N := by omega
 simp [splice, h1]
set_option maxHeartbeats 2000000 in
theorem StackLong_run (u w : Int) (hu : 0 ≤ u ∧ u < 256) (hw : 0 ≤ w ∧ w < 256) : R (T F.swashlaw23_speaks) F.swashlaw23_StackLong [.int .u8 u, .int .u8 w] Heap.empty = .ok (.bool true) Heap.empty := by
 generalize hk : F.swashlaw23_speaks = k
 have hs := speaks23_run k (by subst hk; rfl)
 have hW : ownW k = .no := by subst hk; rfl
 have hk6 : k < 1000000 := by subst hk; decide
 clear hk
 rw [swashlaw23_StackLong_R]
 generalize Heap.empty = H
 obtain ⟨N, hN⟩ : ∃ N : Nat, 1 + u % 20 = (N : Int) := ⟨(1 + u % 20).toNat, by omega⟩
 obtain ⟨K, hK⟩ : ∃ K : Nat, 1 + w % 12 = (K : Int) := ⟨(1 + w % 12).toNat, by omega⟩
 have hN0 : 0 < N ∧ N ≤ 20 := by omega
 have hK0 : 0 < K ∧ K ≤ 12 := by omega
 have q3 := fun H => bin_rem Prog 3 H .i64 u 20 (by decide)
 have q4 := fun H => bin_rem Prog 3 H .i64 w 12 (by decide)
 rw [Int.tmod_eq_emod_of_nonneg hu.1] at q3
 rw [Int.tmod_eq_emod_of_nonneg hw.1] at q4
 have g := ((((((Star.nil H).push ⟨[.int .u8 4, .int .u8 5], 1, false⟩).push ⟨[.int .u8 0, .int .u8 0, .int .u8 0, .int .u8 0, .int .u8 1, .int .u8 2], 1, false⟩).push ⟨[.int .u8 0, .int .u8 0, .int .u8 0, .int .u8 0, .int .u8 1, .int .u8 2], 1, false⟩).push ⟨[.slice (some ⟨H.n + 1, 0, none⟩) 6 6, .slice (some ⟨H.n + 1 + 1, 0, none⟩) 6 6], 1, false⟩).push ⟨[.int .i64 0, .int .i64 0, .int .i64 65535, .int .i64 0, .int .i64 0, .int .i64 32768, .int .i64 65535, .int .i64 0, .int .i64 0, .int .i64 32768, .int .i64 0, .int .i64 0], 4, false⟩)
 have g := (g.push ⟨[.slice (some ⟨H.n, 0, none⟩) 2 2, .slice (some ⟨H.n + 1 + 1 + 1, 0, none⟩) 2 2, .slice (some ⟨H.n + 1 + 1 + 1 + 1, 0, none⟩) 3 3, .int .u8 2], 1, false⟩).push ⟨[.slice (some ⟨H.n, 0, none⟩) 2 2, .slice (some ⟨H.n + 1 + 1 + 1, 0, none⟩) 2 2, .slice (some ⟨H.n + 1 + 1 + 1 + 1, 0, none⟩) 3 3, .int .u8 2, .slice none 0 0], 1, false⟩
 have g := g.more_row (Ext.refl _) (OwnO.nil enc16 _ 1) (fun b hb => by cases hb)
 simp only [List.nil_append, List.cons_append, hn_push] at g
 obtain ⟨sV, oV, zz, H1, e1, g⟩ := long_l1 k (.int .i64 N) K hK0.1 hK0.2 g rfl rfl
 simp only [List.set_cons_zero, List.set_cons_succ] at g
 have b8 := g.get 6 rfl
 have g := g.push ⟨repeatCells [Value.int .i64 0] N, 1, false⟩
 simp only [List.nil_append, List.cons_append, hn_push] at g
 have hmk := fun (h : Heap) => mkR_nat 1 8 [Value.int .i64 0] .i64 .i64 N h (by omega) (by decide)
 have b9 := g.get 8 rfl
 have hix := long_ix N hN0.1 b9
 have hne : ¬ H.n + 1 + 1 + 1 + 1 + 1 + 1 = H1.n := by have := Heap.get_lt b8; omega
 have g := g.setBlk 8 rfl ⟨rows encI (longIds N), 1, false⟩
 simp only [List.set_cons_zero, List.set_cons_succ] at g
 have hps : (H1.push ⟨repeatCells [Value.int .i64 0] N, 1, false⟩).set H1.n (some ⟨rows encI (longIds N), 1, false⟩) = H1.push ⟨rows encI (longIds N), 1, false⟩ := by simp
 rw [hps] at g
 have hle := long_len N
 have hsp := long_sp N hN0.1
 generalize hH2 : H1.push ⟨rows encI (longIds N), 1, false⟩ = H2 at g
 have b8 := g.get 6 rfl
 have s0 := slOf (enc := encB) (m := 1) ([4, 5] : List Int) (g.get 0 rfl) rfl encB_len
 have s1 := slOf (enc := encB) (m := 1) ([0, 0, 0, 0, 1, 2] : List Int) (g.get 1 rfl) rfl encB_len
 have s2 := slOf (enc := encB) (m := 1) ([0, 0, 0, 0, 1, 2] : List Int) (g.get 2 rfl) rfl encB_len
 have s3 := slOf (enc := encU) (m := 1) ([([0, 0, 0, 0, 1, 2], .slice (some ⟨H.n + 1, 0, none⟩) 6 6), ([0, 0, 0, 0, 1, 2], .slice (some ⟨H.n + 1 + 1, 0, none⟩) 6 6)] : List (List Int × Value)) (g.get 3 rfl) rfl encU_len
 have s4 := slOf (enc := encEn) (m := 4) ([⟨0, 0, 65535, 0⟩, ⟨0, 32768, 65535, 0⟩, ⟨0, 32768, 0, 0⟩] : List En) (g.get 4 rfl) rfl encEn_len
 have sv := (g.row 7 rfl).sl enc16_len
 have hP : PlanSl H2 svPlan (.slice (some ⟨H.n, 0, none⟩) 2 2) (.slice (some ⟨H.n + 1 + 1 + 1, 0, none⟩) 2 2) (.slice (some ⟨H.n + 1 + 1 + 1 + 1, 0, none⟩) 3 3) [([0, 0, 0, 0, 1, 2], .slice (some ⟨H.n + 1, 0, none⟩) 6 6), ([0, 0, 0, 0, 1, 2], .slice (some ⟨H.n + 1 + 1, 0, none⟩) 6 6)] :=
  ⟨s0, rfl, fun x hx => by
   have hx : x = ([0, 0, 0, 0, 1, 2], .slice (some ⟨H.n + 1, 0, none⟩) 6 6) ∨ x = ([0, 0, 0, 0, 1, 2], .slice (some ⟨H.n + 1 + 1, 0, none⟩) 6 6) := by simpa using hx
   rcases hx with rfl | rfl
   ·exact s1
   ·exact s2, s3, s4⟩
 have hok : svPlan.ok := twoPlan_ok (fun x hx => by
  have : x = 4 ∨ x = 5 := by simpa using hx
  omega) _ _ _
 have hwr := write23_fz k hk6 hW svPlan hok (by decide) (by decide) (by decide) hP sv (by rw [svs_len]; omega)
 rw [svs_m16 (by omega)] at hwr
 have hwr : R (T k) F.swashlaw23_Write [.agg #[.slice (some ⟨H.n, 0, none⟩) 2 2, .slice (some ⟨H.n + 1 + 1 + 1, 0, none⟩) 2 2, .slice (some ⟨H.n + 1 + 1 + 1 + 1, 0, none⟩) 3 3, .int .u8 2, sV]] H2 = .ok (lv encB (roomB svPlan 1 0 (svs K))) H2 := hwr
 obtain ⟨m, hm, hr⟩ := long_read hK0.1 (k := K) (by omega)
 have hb := roomB_byt hok 1 0 (svs K)
 have hbl : (roomB svPlan 1 0 (svs K)).length ≤ 102000 := roomB_len hok 1 0 (by decide) (by decide) (by decide) (by rw [svs_len]; omega)
 generalize roomB svPlan 1 0 (svs K) = b at hwr hm hb hbl
 have htok := stackS_ok hb (by omega) (by omega) (by omega) hm
 have hrd := fun H' => stackRead_run k (H := H') (Sl.lv H' 1 b) hb 9 (by omega) (fun _ H' => stackTake_run k hk6 b hb 9 (by omega) (by omega) H')
 unfold stackO stackN at hrd
 rw [if_pos (by omega), if_pos (by omega), hm] at hrd
 simp only [stackP, Option.isSome_some, if_true] at hrd
 have g := g.push ⟨repeatCells [Value.int .i64 0] N, 1, false⟩
 simp only [List.nil_append, List.cons_append, hn_push] at g
 have hz := zeros_sl (g.get 9 rfl)
 obtain ⟨o1, H3, e3, g⟩ := placeNew_starG k g 0 (List.replicate N 0) (by simp; omega) hz
 simp only [List.nil_append, List.cons_append, hn_push] at g e3
 have hl := slOf (enc := encI) (m := 1) (longIds N) (g.get 8 rfl) rfl encI_len
 rw [longIds_len] at hl
 obtain ⟨c4, o4, H4, e4, g⟩ := lineNew_starG k g hl (by rw [longIds_len]; omega)
 simp only [List.nil_append, List.cons_append] at g
 obtain ⟨H5, e5, g⟩ := stackRun_star k (svTab m K) htok g 11 10 (by decide) false rfl rfl (by simp [longIds_len]; omega) (newPl_ok _)
 simp only [List.set_cons_zero, List.set_cons_succ] at g
 have hlen := runSt_len (svTab m K) htok.m (newG (longIds N)) ((0 : Int) == 2) false (newPl (List.replicate N 0))
 rw [newPl_len, List.length_replicate] at hlen
 have hSL : (runSt (svTab m K) (newG (longIds N)) ((0 : Int) == 2) false (newPl (List.replicate N 0))).2 = 0 ∧ ∀ i : Nat, i < N → (runSt (svTab m K) (newG (longIds N)) ((0 : Int) == 2) false (newPl (List.replicate N 0))).1[i]? = some ⟨wantL N K i, 0, 0⟩ := stackLong htok.m hr (n := N) (k := K) hN0.1 hK0.1 (by omega)
 obtain ⟨r2, rL⟩ := hSL
 generalize runSt (svTab m K) (newG (longIds N)) ((0 : Int) == 2) false (newPl (List.replicate N 0)) = r at e5 g hlen r2 rL
 rw [r2] at e5
 have a1 := placeAll_run k hk6 g 10 rfl (by omega)
 obtain ⟨zz2, H6, e6, hx6⟩ := long_l2 k (H := H5) N K hN0.2 hK0.2 r.1 rL
 refine nrm_gc ⟨H6, ?_, (g.rest hx6).ext⟩ (.bool _)
 simp -implicitDefEqProofs (disch := omega) [swashlaw23_StackLong, hs, q3, q4, hN, hK, e1, swashlaw23_StackLong_l1k_x0, hmk, hix, hle, hsp, hH2, b8, hwr, hrd, e3, e4, e5, a1, hlen, e6, swashlaw23_StackLong_l2k_x2]
theorem StackLong_args (vs : List Value) (h : ArgsLay [.one (.int .u8), .one (.int .u8)] vs) : ∃ H', R (T F.swashlaw23_speaks) F.swashlaw23_StackLong vs Heap.empty = .ok (.bool true) H' := by
 obtain ⟨v1, _, rfl, h1, h⟩ := h.head
 obtain ⟨v2, _, rfl, h2, h⟩ := h.head
 obtain rfl := h.done
 obtain ⟨u, rfl, w1⟩ := arg_i h1
 obtain ⟨w, rfl, w2⟩ := arg_i h2
 exact ⟨_, StackLong_run u w (wf_u8 w1) (wf_u8 w2)⟩
end Go.Sw
end
section
namespace Go.Sw
open Go.RowKit
theorem names_ok : NamesOk Prog := NamesOk.of (by kernel_rfl)
theorem mixed_ok : Prog.follows .mixedOrders = true := Checked.mixed Go.Proofs.Try.checked
theorem laid_ok : laidOutB Prog = true := by kernel_rfl
theorem cloneP_is : SpIs Prog F.slices_Clone_of_api_Place_api_Place fun _ args H => cloneV 3 12 args H :=
 clone_is (c := { P := Prog, kp := kpS, sp := fun _ => none }) names_ok mixed_ok (t := 70) (e := 91) (by kernel_rfl) fun call a H => (slices_Clone_of_api_Place_api_Place_body 0 _ call a H).trans (by
  unfold slices_Clone_of_api_Place_api_Place cloneF
  simp only [be_70_0, ap_70, beR_bare])
theorem cloneG_is : SpIs Prog F.slices_Clone_of_api_Glyph_api_Glyph fun _ args H => cloneV 2 16 args H :=
 clone_is (c := { P := Prog, kp := kpS, sp := fun _ => none }) names_ok mixed_ok (t := 48) (e := 115) (by kernel_rfl) fun call a H => (slices_Clone_of_api_Glyph_api_Glyph_body 0 _ call a H).trans (by
  unfold slices_Clone_of_api_Glyph_api_Glyph cloneF
  simp only [be_48_0, ap_48, beR_bare])
theorem cloneR_is : SpIs Prog F.slices_Clone_of_sfnt_Part_sfnt_Part fun _ args H => cloneV 2 40 args H :=
 clone_is (c := { P := Prog, kp := kpS, sp := fun _ => none }) names_ok mixed_ok (t := 167) (e := 165) (by kernel_rfl) fun call a H => (slices_Clone_of_sfnt_Part_sfnt_Part_body 0 _ call a H).trans (by
  unfold slices_Clone_of_sfnt_Part_sfnt_Part cloneF
  simp only [be_167_0, ap_167, beR_bare])
theorem more_is (f : FuncId) (s : Sp) (h : moreS f = some s) : SpIs Prog f s := by
 unfold moreS at h
 cases h0 : Nat.beq f 35 with
 | true => have := Nat.eq_of_beq_eq_true h0; subst this; rw [h0, cond_true] at h; injection h with h; subst h; exact try_is
 | false =>
 rw [h0, cond_false] at h
 cases h1 : Nat.beq f 104 with
 | true => have := Nat.eq_of_beq_eq_true h1; subst this; rw [h1, cond_true] at h; injection h with h; subst h; exact cloneG_is
 | false =>
 rw [h1, cond_false] at h
 cases h2 : Nat.beq f 118 with
 | true => have := Nat.eq_of_beq_eq_true h2; subst this; rw [h2, cond_true] at h; injection h with h; subst h; exact cloneP_is
 | false =>
 rw [h2, cond_false] at h
 cases h3 : Nat.beq f 159 with
 | true => have := Nat.eq_of_beq_eq_true h3; subst this; rw [h3, cond_true] at h; injection h with h; subst h; exact cloneR_is
 | false =>
 rw [h3, cond_false] at h
 cases h4 : Nat.beq f 244 with
 | true => rw [h4, cond_true] at h; injection h with h; subst h; exact SpIs.stuck _ _
 | false =>
 rw [h4, cond_false] at h
 cases h
theorem T_prog (k : Nat) : (T k).c.P = Prog := by unfold T C; rfl
theorem told_ok {k m : Nat} (hsp : okTrue (run (baseCfg Prog kpS moreS) m (k % 1000000) [] Heap.empty) = true) : SpOk (T k).c := by
 have h0 : CallOk Prog (run (baseCfg Prog kpS moreS) m) := run_ok (c := baseCfg Prog kpS moreS) names_ok mixed_ok (SpOk.base more_is) m
 have h1 : SpOk (C k) := by
  unfold C
  exact SpOk.of (P := Prog) (kp := kpS) (speaks := speaksT) (more := moreS) (k := k % 1000000) h0 hsp more_is
 exact h1
end Go.Sw
end
