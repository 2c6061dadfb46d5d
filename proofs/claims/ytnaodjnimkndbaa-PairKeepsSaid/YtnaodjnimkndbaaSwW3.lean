/-
  Functions' forms, and what is proved of them, part 3.
-/
import Derived.Test.YtnaodjnimkndbaaSwW2
import Derived.Test.YtnaodjnimkndbaaSwLib9
import Derived.Test.YtnaodjnimkndbaaSwCfg
import Derived.Test.YtnaodjnimkndbaaSwLib8
set_option linter.unusedSimpArgs false
set_option linter.unusedVariables false
set_option linter.unusedSectionVars false
section
namespace Go.Sw
open Go.RowKit
theorem number_run (k : Nat) {H : Heap} {v : Value} {b : List Int} (hv : Sl H 1 v encB b) (hb : Byt b) (i z : Int) (hz : z = 1 ∨ z = 2 ∨ z = 4) (hl : b.length < 2 ^ 62) : R (T k) F.lookup_number [.agg #[v], .int .i64 i, .int .i64 z] H = orF (uS b i z) (.int .i64) H := by
 rw [lookup_number_R]
 have hx : Ext H (H.push ⟨[v], 1, false⟩) := (Ext.refl H).push _
 refine gc_orF ?_ fun _ _ => .int _ _
 rcases hz with rfl | rfl | rfl
 ·simp -implicitDefEqProofs [lookup_number]
  exact Cp.callL (U8_run k (hv.up hx) hb i hl) hx fun n hn => .ok hx rfl
 ·simp -implicitDefEqProofs [lookup_number]
  exact Cp.callL (U16_run k (hv.up hx) hb i hl) hx fun n hn => .ok hx rfl
 ·simp -implicitDefEqProofs [lookup_number]
  exact Cp.callL (U32_run k (hv.up hx) hb i hl) hx fun n hn => .ok hx rfl
theorem repeat_I : ∀ n, repeatCells [Value.int .i64 0] n = rows encI (List.replicate n 0)
 | 0 => rfl
 | n + 1 => by
  have := repeat_I n
  simp only [repeatCells, List.replicate_succ] at this ⊢
  simp [rows, this]
theorem uS_cut {r : List Int} {z n j : Nat} (hr : r.length = n * z) (hj : j < n) : uS r ((z : Int) * j) z = some (num ((r.drop (z * j)).take z)) := by
 have : z * j + z ≤ r.length := by
  rw [hr, ← Nat.mul_succ, Nat.mul_comm]
  exact Nat.mul_le_mul_right _ hj
 have e1 : ((z : Int) * j) = ((z * j : Nat) : Int) := by simp
 unfold uS
 rw [e1, pieceS, if_pos (by omega), Int.toNat_natCast, Int.toNat_natCast]
 rfl
theorem list_run (k : Nat) {H : Heap} {v : Value} {b : List Int} (hv : Sl H 1 v encB b) (hb : Byt b) (i n z : Int) (hz : z = 1 ∨ z = 2 ∨ z = 4) (hl : b.length < 2 ^ 31) : R (T k) F.lookup_list [.agg #[v], .int .i64 i, .int .i64 n, .int .i64 z] H = orF (listS b i n z) (lv encI) H := by
 rw [lookup_list_R]
 have hx1 : Ext H (H.push ⟨[v], 1, false⟩) := (Ext.refl H).push _
 refine fz_orF ?_ fun _ _ => (Flat.I _).alive
 simp -implicitDefEqProofs [lookup_list]
 unfold listS
 refine Cp.callM (Rows_run k (hv.up hx1) i n z (by omega)) hx1 fun r hr => ?_
 have hn := rowsS_n hr
 have hp := rowsS_piece hr
 have hs := pieceS_sl hv hp
 have hrb := (hb.piece hp).1
 have hrl := pieceS_len hp
 obtain ⟨n, rfl⟩ := Int.eq_ofNat_of_zero_le hn.1
 obtain ⟨z, rfl⟩ := Int.eq_ofNat_of_zero_le hn.2.1
 have hrl : r.length = n * z := by exact_mod_cast hrl
 have hnl : n ≤ 2 ^ 31 := by
  have h1 : n * 1 ≤ n * z := Nat.mul_le_mul_left n (by omega)
  have h2 : (n : Int) * z ≤ b.length := by omega
  have h3 : n * z ≤ b.length := by exact_mod_cast h2
  omega
 simp only [Int.toNat_natCast]
 generalize subV 1 v i.toNat ((n : Int) * z).toNat = rv at hs
 have hx2 : Ext H ((H.push ⟨[v], 1, false⟩).push ⟨[rv], 1, false⟩) := hx1.push _
 obtain ⟨x, e', H1, hr', rfl, rfl, ho, hx⟩ := loop_up (body := lookup_list_l1 k (R (T k))) n
  (fun j e H' => e = [(3, .int .i64 z), (9, .pointer (some ⟨H.n + 1, 0, none⟩)), (10, .slice (some ⟨H.n + 2, 0, none⟩) n n), (20, .int .i64 n), (21, .int .i64 j)] ∧
   Own H H' 1 (.slice (some ⟨H.n + 2, 0, none⟩) n n) encI (((cutRows r z n).map num).take j ++ List.replicate (n - j) 0) ∧ Ext H H' ∧ H'.get (H.n + 1) = some ⟨[rv], 1, false⟩)
  (fun x e H' => x = .exit 0 ∧ e = [(3, .int .i64 z), (9, .pointer (some ⟨H.n + 1, 0, none⟩)), (10, .slice (some ⟨H.n + 2, 0, none⟩) n n), (20, .int .i64 n), (21, .int .i64 n), (22, .bool false)] ∧
   Own H H' 1 (.slice (some ⟨H.n + 2, 0, none⟩) n n) encI ((cutRows r z n).map num) ∧ Ext H H')
  (e0 := [(3, .int .i64 z), (9, .pointer (some ⟨H.n + 1, 0, none⟩)), (10, .slice (some ⟨H.n + 2, 0, none⟩) n n), (20, .int .i64 n), (21, .int .i64 0)])
  (H0 := ((H.push ⟨[v], 1, false⟩).push ⟨[rv], 1, false⟩).push ⟨repeatCells [Value.int .i64 0] n, 1, false⟩)
  ⟨rfl, .inr ⟨H.n + 2, by simp, by omega, by rw [get_push_eq _ _ _ (by simp), repeat_I]; simp⟩, hx2.push _, by rw [get_push_lt _ _ _ (by simp), get_push_eq _ _ _ (by simp)]⟩ (by omega)
  (fun j e H' hj ⟨he, ho, hx, hg⟩ => by
   subst he
   have hlt : (j : Int) < n := by omega
   have hnum := number_run k (hs.up hx) hrb ((z : Int) * j) z hz (by omega)
   rw [uS_cut hrl hj, orF_some] at hnum
   have hz4 : (z : Int) * j ≤ 4 * 2147483648 := Int.mul_le_mul (by omega) (by omega) (by omega) (by omega)
   have hz0 : 0 ≤ (z : Int) * j := Int.mul_nonneg (by omega) (by omega)
   have hlen : ((cutRows r z n).map num).length = n := by simp
   have hy : ((cutRows r z n).map num)[j]? = some (num ((r.drop (z * j)).take z)) := by rw [List.getElem?_map, cutRows_get _ _ _ _ hj]; rfl
   obtain ⟨b, H2, e1, h1, h2, h3, h4, h5, h6⟩ := ho.set encI_len j 0 1 0 (num ((r.drop (z * j)).take z)) (.int .i64 (num ((r.drop (z * j)).take z))) (fill_get _ _ hlen hj) rfl rfl (by decide) rfl
   rw [fill_step _ _ hlen hj _ hy] at h4
   simp at e1
   obtain ⟨rfl, _⟩ := e1
   generalize num ((r.drop (z * j)).take z) = y at hnum h3 h4
   have hx' : Ext H H2 := ⟨by rw [h6]; exact hx.n, fun c hc hs => by rw [h5 c (by omega)]; exact hx.2 c hc hs⟩
   refine .inl ⟨_, H2, ?_, rfl, h4, hx', by rw [h5 _ (by omega)]; exact hg⟩
   simp only [Nat.add_zero, Nat.mul_one] at h3
   rw [lookup_list_l1_eq]
   simp -implicitDefEqProofs (disch := omega) [-stR_ptr, hlt, hg, hnum, ixS_slice, h3])
  (fun e H' ⟨he, ho, hx, hg⟩ => by
   subst he
   refine ⟨.exit 0, _, H', ?_, by simp, rfl, rfl, by simpa [List.take_of_length_le] using ho, hx⟩
   rw [lookup_list_l1_eq]
   simp -implicitDefEqProofs)
 obtain ⟨L, hf⟩ := ho.freeze encI_len (encI_still _) 6
 simp -implicitDefEqProofs (disch := omega) [mkR_nat, hr', lookup_list_l1k_x0]
 exact .ok hx ⟨L, hf⟩
end Go.Sw
end
section
namespace Go.Sw
open Go.RowKit
abbrev encPt (p : Pt) : List Value := [.int .i64 p.first, .int .i64 p.last, lv encI p.vals]
theorem encPt_len (p : Pt) : (encPt p).length = 3 := rfl
theorem encPt_flats (l : List Pt) : ∀ p, p ∈ l → Flats (encPt p) := fun _ _ => .cons (.int _ _) (.cons (.int _ _) (.cons (Flat.I _) .nil))
theorem Flat.Pts (l : List Pt) : Flat (Go.Sw.lv encPt l) := .lv (encPt_flats l)
theorem encPt_still (l : List Pt) : ∀ p, p ∈ l → ∀ v, v ∈ encPt p → Still v := fun p _ v hv => by
 simp [encPt] at hv
 rcases hv with rfl | rfl | rfl <;> trivial
theorem rd_vw {H : Heap} {v : Value} {b : List Int} (hv : Sl H 1 v encB b) : Go.Sw.veq v v = true := hv.veq fun n _ u hu => by simp at hu; subst hu; simp
theorem trimmed_run (k : Nat) {H : Heap} {v : Value} {b : List Int} (hv : Sl H 1 v encB b) (hb : Byt b) (g z0 : Value) (i z : Int) (hz : z = 1 ∨ z = 2 ∨ z = 4) (hl : b.length < 2 ^ 31) (hi : 0 ≤ i ∧ i ≤ 4) :
  R (T k) F.lookup_reader_trimmed [.agg #[v, g, z0], .int .i64 i, .int .i64 z] H = orF (trimS b i z) (lv encPt) H := by
 rw [lookup_reader_trimmed_R]
 have hx : Ext H (H.push ⟨[v, g, z0], 1, false⟩) := (Ext.refl H).push _
 have hq := rd_vw hv
 have hqa : veq (.agg #[v]) (.agg #[v]) = true := veq_agg (l := [v]) fun u hu => by simp at hu; subst hu; exact hq
 refine fz_orF ?_ fun _ _ => (Flat.Pts _).alive
 simp -implicitDefEqProofs [lookup_reader_trimmed]
 unfold trimS
 refine Cp.callT (U16_run k (hv.up hx) hb i (by omega)) (fun _ => ⟨_, by simp -implicitDefEqProofs (disch := omega) [hqa], hx⟩) fun f hf => ?_
 have hf := uS_two hb hf
 simp -implicitDefEqProofs (disch := omega)
 refine Cp.callT (U16_run k (hv.up hx) hb (i + 2) (by omega)) (fun _ => ⟨_, by simp -implicitDefEqProofs (disch := omega) [hqa], hx⟩) fun n hn => ?_
 have hn := uS_two hb hn
 simp -implicitDefEqProofs (disch := omega) [hqa]
 refine Cp.need hx fun hfn => ?_
 simp -implicitDefEqProofs (disch := omega)
 refine Cp.callM (list_run k (hv.up hx) hb (i + 4) n z hz hl) hx fun vs hvs => ?_
 by_cases h0 : n = 0
 ·subst h0
  simp -implicitDefEqProofs
  exact .ok hx ⟨_, rfl⟩
 ·have h0' : (n == 0) = false := by simpa using h0
  simp -implicitDefEqProofs (disch := omega) [h0, h0']
  refine .ok (hx.push _) ?_
  exact Own.freeze (l := [⟨f, f + n - 1, vs⟩]) encPt_len (.inr ⟨H.n + 1, rfl, by omega, by rw [get_push_eq _ _ _ (by simp)]; rfl⟩) (encPt_still _) 6
def encPR (x : Pt × Value) : List Value := [.int .i64 x.1.first, .int .i64 x.1.last, x.2]
theorem encPR_len (x : Pt × Value) : (encPR x).length = 3 := rfl
def InnerOk (H0 H : Heap) (x : Pt × Value) : Prop := x.2 = lv encI x.1.vals ∨ ∃ b, x.2 = .slice (some ⟨b, 0, none⟩) x.1.vals.length x.1.vals.length ∧ H0.n ≤ b ∧ H.get b = some ⟨rows encI x.1.vals, 1, false⟩
def PtsOwn (H0 H : Heap) (s : Value) (ps : List Pt) : Prop := ∃ l : List (Pt × Value), l.map Prod.fst = ps ∧ Own H0 H 3 s encPR l ∧ ∀ x, x ∈ l → InnerOk H0 H x
theorem InnerOk.keep {H0 H H' : Heap} {x : Pt × Value} (h : InnerOk H0 H x) (hk : ∀ c k, H.get c = some k → k.esz ≠ 3 → H'.get c = some k) : InnerOk H0 H' x := by
 rcases h with h | ⟨b, h1, h2, h3⟩
 ·exact .inl h
 ·exact .inr ⟨b, h1, h2, hk b _ h3 (by simp)⟩
theorem InnerOk.fz {H0 H : Heap} {x : Pt × Value} (h : InnerOk H0 H x) (d : Nat) : ∃ L, mapF (fzV H0.n H (d + 2)) (encPR x) = some (encPt x.1, L) := by
 have h2 : ∃ L, fzV H0.n H (d + 2) x.2 = some (lv encI x.1.vals, L) := by
  rcases h with h | ⟨b, h1, h2, h3⟩
  ·rw [h]; exact ⟨[], rfl⟩
  ·exact Own.freeze encI_len (.inr ⟨b, h1, h2, h3⟩) (encI_still _) d
 obtain ⟨L, hL⟩ := h2
 exact ⟨_, mapF_cons (v := .int .i64 x.1.first) (u := .int .i64 x.1.first) (L1 := []) rfl (mapF_cons (v := .int .i64 x.1.last) (u := .int .i64 x.1.last) (L1 := []) rfl (mapF_cons hL (L2 := []) rfl))⟩
theorem PtsOwn.nil (H0 H : Heap) : PtsOwn H0 H (.slice none 0 0) [] := ⟨[], rfl, Own.nil _ _ _, fun x h => by simp at h⟩
theorem PtsOwn.keep {H0 H H' : Heap} {s : Value} {ps : List Pt} (h : PtsOwn H0 H s ps) (hx : Ext H H') : PtsOwn H0 H' s ps := by
 obtain ⟨l, h1, h2, h3⟩ := h
 exact ⟨l, h1, h2.up hx, fun x hm => (h3 x hm).keep fun c k hc _ => hx.get hc⟩
theorem PtsOwn.push {H0 H : Heap} {s : Value} {ps : List Pt} (h : PtsOwn H0 H s ps) (hx : Ext H0 H) (p : Pt) (u : Value) (hi : InnerOk H0 H (p, u)) (hl : ps.length < 2 ^ 31) :
  ∃ s' H', apR 3 40 s (.slice (some ⟨H.n, 0, none⟩) 1 1) (H.push ⟨[.int .i64 p.first, .int .i64 p.last, u], 3, false⟩) = .ok s' H' ∧ PtsOwn H0 H' s' (ps ++ [p]) ∧ Ext H0 H' ∧ ∀ c k, H.get c = some k → k.esz ≠ 3 → H'.get c = some k := by
 obtain ⟨l, h1, h2, h3⟩ := h
 subst h1
 obtain ⟨s', H', e1, e2, e3, e4⟩ := apR_own (bytes := 40) encPR_len (b := .slice (some ⟨H.n, 0, none⟩) 1 1) (l2 := [(p, u)]) (h2.up ((Ext.refl H).push ⟨encPR (p, u), 3, false⟩)) (hx.push _) rfl (by
  unfold firstV
  dsimp only
  rw [if_neg (by simp), cellsAt_eq, get_push_eq H ⟨encPR (p, u), 3, false⟩ H.n rfl]
  rfl) (by simp at hl ⊢; omega) (by decide)
 have hk : ∀ c k, H.get c = some k → k.esz ≠ 3 → H'.get c = some k := fun c k hc hne => by
  have hlt := Heap.get_lt hc
  rw [e4 c (by simp; omega) fun o n m hs => ?_]
  ·rw [get_push_lt _ _ _ hlt]; exact hc
  ·rcases h2 with ⟨_, h | h | h⟩ | ⟨b, h, _, hb⟩
   ·rw [h] at hs; simp at hs
   ·rw [h] at hs; simp [bareV] at hs
   ·rw [h] at hs; simp [emptyV] at hs
   ·rw [h] at hs
    simp at hs
    obtain ⟨⟨rfl, _⟩, _⟩ := hs
    rw [hb] at hc
    injection hc with hc
    subst hc
    exact hne rfl
 refine ⟨s', H', e1, ⟨l ++ [(p, u)], by simp, e2, fun x hm => ?_⟩, e3, hk⟩
 rcases List.mem_append.1 hm with hm | hm
 ·exact (h3 x hm).keep hk
 ·simp at hm
  subst hm
  exact hi.keep hk
theorem rows_fst (l : List (Pt × Value)) : rows (fun x : Pt × Value => encPt x.1) l = rows encPt (l.map Prod.fst) := by
 induction l with
 | nil => rfl
 | cons x l ih => rw [List.map_cons, rows_cons, rows_cons, ih]
theorem PtsOwn.freeze {H0 H : Heap} {s : Value} {ps : List Pt} (h : PtsOwn H0 H s ps) (d : Nat) : ∃ L, fzV H0.n H (d + 3) s = some (lv encPt ps, L) := by
 obtain ⟨l, h1, h2, h3⟩ := h
 subst h1
 obtain ⟨L, hL⟩ := h2.freezeG (enc' := fun x : Pt × Value => encPt x.1) encPR_len (d + 1) fun x hm => (h3 x hm).fz d
 refine ⟨L, hL.trans ?_⟩
 unfold lv
 rw [rows_fst]
 simp
theorem takeS_row {H : Heap} {v : Value} {b : List Int} (hv : Sl H 1 v encB b) {i need : Int} {keys : Nat} {rows : List (List Int)} (h : takeS b i need keys = some rows) {j : Nat} {row : List Int} (hj : rows[j]? = some row) :
  ∃ u, (cutV (rowsV v b i) (rowZ b i) rows.length)[j]? = some u ∧ Sl H 1 u encB row := by
 have hlt := (List.getElem?_eq_some_iff.1 hj).1
 refine ⟨_, cutV_get _ _ _ _ hlt, ?_⟩
 unfold takeS at h
 split at h
 ·rename_i z n h1 h2
  split at h
  ·rename_i hc
   obtain ⟨r, hr, rfl⟩ := Option.map_eq_some_iff.1 h
   have hn := rowsS_n hr
   have hrl : (r.length : Int) = n * z := pieceS_len (rowsS_piece hr)
   have hsl := pieceS_sl hv (rowsS_piece hr)
   obtain ⟨z, rfl⟩ := Int.eq_ofNat_of_zero_le hn.2.1
   obtain ⟨n, rfl⟩ := Int.eq_ofNat_of_zero_le hn.1
   have hrl : r.length = n * z := by exact_mod_cast hrl
   have e1 : rowsV v b i = subV 1 v (i + 10).toNat ((n : Int) * z).toNat := by unfold rowsV; rw [h1, h2]; rfl
   have e2 : rowZ b i = z := by unfold rowZ; rw [h1]; simp
   rw [e1, e2]
   simp only [Int.toNat_natCast] at hj hlt
   have hm : (cutRows r z n)[j]? = some row := by
    unfold endRows at hj
    split at hj
    ·have hlt2 := (List.getElem?_eq_some_iff.1 hj).1
     simp at hlt2
     rw [cutRows_get _ _ _ _ hlt2] at hj
     rw [cutRows_get _ _ _ _ (by omega)]
     exact hj
    ·exact hj
   have hlt2 := (List.getElem?_eq_some_iff.1 hm).1
   simp at hlt2
   rw [cutRows_get _ _ _ _ hlt2] at hm
   injection hm with hm
   subst hm
   exact cutV_sl hsl z n j hrl hlt2
  ·cases h
 ·cases h
theorem single_run (k : Nat) {H : Heap} {v : Value} {b : List Int} (hv : Sl H 1 v encB b) (hb : Byt b) (g : Value) (z : Int) (hz : z = 2 ∨ z = 4) (hl : b.length < 2 ^ 31) :
  R (T k) F.lookup_reader_single [.agg #[v, g, .int .i64 z]] H = orF (oneS b z) (lv encPt) H := by
 rw [lookup_reader_single_R]
 have hx : Ext H (H.push ⟨[v, g, .int .i64 z], 1, false⟩) := (Ext.refl H).push _
 refine fz_orF ?_ fun _ _ => (Flat.Pts _).alive
 simp -implicitDefEqProofs (disch := omega) [lookup_reader_single]
 unfold oneS
 refine Cp.call (Take_run k (hv.up hx) hb 2 (2 + z) 1 hl (by omega) (by omega) (by omega)) hx fun rows hrows => ?_
 obtain ⟨zr, nr, hz1, hn1, hneed, hlen, hrow⟩ := takeS_spec hb hrows
 have hnr := uS_two hb hn1
 have hzr := uS_two hb hz1
 have htk := fun H' (hx' : Ext H H') j row (hj : rows[j]? = some row) => takeS_row (hv.up hx') hrows hj
 have hll : (cutV (rowsV v b 2) (rowZ b 2) rows.length).length = rows.length := by simp
 generalize cutV (rowsV v b 2) (rowZ b 2) rows.length = us at htk hll
 simp -implicitDefEqProofs (disch := omega) [hll]
 refine Cp.bindL (Cp.mapLoop (oneP z) rows
  (fun i acc e H' => ∃ s, e = [(1, .pointer (some ⟨H.n, 0, none⟩)), (3, s), (12, lv encW us), (13, .int .i64 rows.length), (14, .int .i64 i)] ∧ PtsOwn H H' s acc ∧ H'.get H.n = some ⟨[v, g, .int .i64 z], 1, false⟩)
  (fun acc x e H' => x = .exit 0 ∧ ∃ s, e = [(1, .pointer (some ⟨H.n, 0, none⟩)), (3, s), (12, lv encW us), (13, .int .i64 rows.length), (14, .int .i64 rows.length), (15, .bool false)] ∧ PtsOwn H H' s acc)
  (by omega) hx ⟨_, rfl, PtsOwn.nil _ _, get_push_eq _ _ _ rfl⟩ ?_ ?_) ?_
 ·intro i row acc e H' hi ha hx' ⟨s, he, ho, hg⟩
  subst he
  have hilt := (List.getElem?_eq_some_iff.1 hi).1
  have hlt : (i : Int) < rows.length := by omega
  obtain ⟨u, hu, hsu⟩ := htk H' hx' i row hi
  have hrb := hrow row (List.mem_of_getElem? hi)
  have hgn : H.n < H'.n := Heap.get_lt hg
  have hne : ¬ H.n = H'.n := by omega
  have hx1 : Ext H' (H'.push ⟨[u], 1, false⟩) := (Ext.refl H').push _
  have hst := hsu.storable
  have hce := hsu.cells
  rw [lookup_reader_single_l1_eq]
  simp -implicitDefEqProofs (disch := omega) [hlt, ixS_lvN encW_len us .i64 i u hu]
  unfold oneP
  refine Cp.call (U16_run k (hsu.up hx1) hrb.1 0 (by omega)) (hx'.trans hx1) fun id hid => ?_
  simp -implicitDefEqProofs (disch := omega) [hg, hne]
  refine Cp.callM (number_run k (hsu.up hx1) hrb.1 2 z (by omega) (by omega)) (hx'.trans hx1) fun n hn => ?_
  have hx2 : Ext H' ((H'.push ⟨[u], 1, false⟩).push ⟨[.int .i64 n], 1, false⟩) := hx1.push _
  obtain ⟨s', H2, e1, e2, e3, e4⟩ := (ho.keep hx2).push (hx'.trans hx2) ⟨id, id, [n]⟩ (.slice (some ⟨H'.n + 1, 0, none⟩) 1 1) (.inr ⟨H'.n + 1, rfl, by omega, by rw [get_push_eq _ _ _ (by simp)]; rfl⟩) (by omega)
  simp at e1
  simp -implicitDefEqProofs (disch := omega) [e1]
  exact .ok e3 ⟨rfl, s', rfl, e2, e4 _ _ (hx2.get hg) (by simp)⟩
 ·intro acc e H' ha hx' ⟨s, he, ho, _⟩
  subst he
  refine ⟨.exit 0, _, H', ?_, by simp, hx', rfl, s, rfl, ho⟩
  rw [lookup_reader_single_l1_eq]
  simp -implicitDefEqProofs
 ·rintro acc ⟨x, e⟩ H' _ hx' ⟨rfl, s, rfl, ho⟩
  simp only [lookup_reader_single_l1k_x0]
  exact .ok hx' (ho.freeze 5)
end Go.Sw
end
section
namespace Go.Sw
open Go.RowKit
set_option maxHeartbeats 1000000 in
theorem seg_step (k : Nat) {H H' : Heap} {v : Value} {b : List Int} (hv : Sl H 1 v encB b) (hb : Byt b) (g : Value) (z : Int) (hz : z = 2 ∨ z = 4) (each : Bool) (hl : b.length < 2 ^ 31)
  (us : List Value) (n i : Nat) (row : List Int) (u : Value) (acc : List Pt) (s : Value) (hi : i < n) (hn31 : n < 2 ^ 31) (hu : us[i]? = some u) (hn : acc.length < 2 ^ 31) (ho : PtsOwn H H' s acc) (hx' : Ext H H') (hg : H'.get H.n = some ⟨[v, g, .int .i64 z], 1, false⟩)
  (hsu : Sl H' 1 u encB row) (hrb : Byt row) (hrl : row.length < 65536) (hr4 : each = false → 4 + z ≤ row.length) :
  Cp failV (Ext H) (lookup_reader_segments_l1 k (R (T k)) [(1, .bool each), (2, .pointer (some ⟨H.n, 0, none⟩)), (6, s), (17, lv encW us), (18, .int .i64 n), (19, .int .i64 i)] H') (segP b z each row)
   fun y xe H' => xe.1 = .normal ∧ ∃ s, xe.2 = [(1, .bool each), (2, .pointer (some ⟨H.n, 0, none⟩)), (6, s), (17, lv encW us), (18, .int .i64 n), (19, .int .i64 (i + 1 : Nat))] ∧ PtsOwn H H' s (acc ++ [y]) ∧ H'.get H.n = some ⟨[v, g, .int .i64 z], 1, false⟩ := by
 have hlt : (i : Int) < n := by omega
 have hqv := rd_vw hv
 have hgn : H.n < H'.n := Heap.get_lt hg
 have hne : ¬ H.n = H'.n := by omega
 have hne1 : ¬ H.n = H'.n + 1 := by omega
 have hx1 : Ext H' (H'.push ⟨[u], 1, false⟩) := (Ext.refl H').push _
 have hst := hsu.storable
 have hce := hsu.cells
 have hqu := rd_vw hsu
 have hqa : veq (.agg #[u]) (.agg #[u]) = true := veq_agg (l := [u]) fun w hw => by simp at hw; subst hw; exact hqu
 have hqb : veq (.agg #[v]) (.agg #[v]) = true := veq_agg (l := [v]) fun w hw => by simp at hw; subst hw; exact hqv
 rw [lookup_reader_segments_l1_eq]
 simp -implicitDefEqProofs (disch := omega) [hlt, ixS_lvN encW_len us .i64 i u hu]
 unfold segP
 refine Cp.callT (U16_run k (hsu.up hx1) hrb 2 (by omega)) (fun _ => ⟨_, by simp -implicitDefEqProofs (disch := omega) [hqa], hx'.trans hx1⟩) fun f hf => ?_
 have hf := uS_two hrb hf
 simp -implicitDefEqProofs (disch := omega)
 refine Cp.callT (U16_run k (hsu.up hx1) hrb 0 (by omega)) (fun _ => ⟨_, by simp -implicitDefEqProofs (disch := omega) [hqa], hx'.trans hx1⟩) fun l hl' => ?_
 have hl' := uS_two hrb hl'
 simp -implicitDefEqProofs (disch := omega) [hqa]
 have hx2 : Ext H' ((H'.push ⟨[u], 1, false⟩).push ⟨[.int .i64 f, .int .i64 l, .slice none 0 0], 1, false⟩) := hx1.push _
 refine Cp.need (hx'.trans hx2) fun hfl => ?_
 cases each with
 | true =>
  simp -implicitDefEqProofs (disch := omega) [hg, hne, hne1]
  refine Cp.callT (U16_run k (hsu.up hx2) hrb 4 (by omega)) (fun _ => ⟨_, by simp -implicitDefEqProofs (disch := omega) [hg, hne, hne1], hx'.trans hx2⟩) fun at4 hat => ?_
  have hat := uS_two hrb hat
  simp -implicitDefEqProofs (disch := omega) [hg, hne, hne1]
  refine Cp.callTM (list_run k (hv.up (hx'.trans hx2)) hb at4 (l - f + 1) z (by omega) hl) (fun _ => ⟨_, by simp -implicitDefEqProofs (disch := omega) [hqb, hg, hne, hne1], hx'.trans hx2⟩) fun vs hvs => ?_
  have hx3 : Ext H' ((H'.push ⟨[u], 1, false⟩).push ⟨[.int .i64 f, .int .i64 l, lv encI vs], 1, false⟩) := hx1.push _
  obtain ⟨s', H2, e1, e2, e3, e4⟩ := (ho.keep hx3).push (hx'.trans hx3) ⟨f, l, vs⟩ (lv encI vs) (.inl rfl) (by omega)
  simp at e1
  simp -implicitDefEqProofs (disch := omega) [hqb, hg, hne, hne1, lookup_reader_segments_j3_eq, e1]
  exact .ok e3 ⟨rfl, s', rfl, e2, e4 _ _ (hx3.get hg) (by simp)⟩
 | false =>
  simp -implicitDefEqProofs (disch := omega) [hg, hne, hne1]
  refine Cp.callM (number_run k (hsu.up hx2) hrb 4 z (by omega) (by omega)) (hx'.trans hx2) fun n hn => ?_
  have hx3 : Ext H' (((H'.push ⟨[u], 1, false⟩).push ⟨[.int .i64 f, .int .i64 l, .slice (some ⟨H'.n + 2, 0, none⟩) 1 1], 1, false⟩).push ⟨[.int .i64 n], 1, false⟩) := (hx1.push _).push _
  obtain ⟨s', H2, e1, e2, e3, e4⟩ := (ho.keep hx3).push (hx'.trans hx3) ⟨f, l, [n]⟩ (.slice (some ⟨H'.n + 2, 0, none⟩) 1 1) (.inr ⟨H'.n + 2, rfl, by omega, by rw [get_push_eq _ _ _ (by simp)]; rfl⟩) (by omega)
  simp at e1
  simp -implicitDefEqProofs (disch := omega) [lookup_reader_segments_j3_eq, e1]
  exact .ok e3 ⟨rfl, s', rfl, e2, e4 _ _ (hx3.get hg) (by simp)⟩
theorem segments_run (k : Nat) {H : Heap} {v : Value} {b : List Int} (hv : Sl H 1 v encB b) (hb : Byt b) (g : Value) (z : Int) (hz : z = 2 ∨ z = 4) (each : Bool) (hl : b.length < 2 ^ 31) :
  R (T k) F.lookup_reader_segments [.agg #[v, g, .int .i64 z], .bool each] H = orF (segS b z each) (lv encPt) H := by
 rw [lookup_reader_segments_R]
 have hx : Ext H (H.push ⟨[v, g, .int .i64 z], 1, false⟩) := (Ext.refl H).push _
 have hqv := rd_vw hv
 refine fz_orF ?_ fun _ _ => (Flat.Pts _).alive
 unfold segS
 obtain ⟨need, hneed⟩ : ∃ need : Int, need = if each then 6 else 4 + z := ⟨_, rfl⟩
 have hnd : 6 ≤ need := by rw [hneed]; split <;> omega
 have hnd2 : each = false → need = 4 + z := fun h => by rw [hneed, h]; rfl
 rw [← hneed]
 have main : ∀ rows, takeS b 2 need 2 = some rows →
   Cp failV (Ext H) ((loopN (lookup_reader_segments_l1 k (R (T k))) loopFuel [(1, .bool each), (2, .pointer (some ⟨H.n, 0, none⟩)), (6, .slice none 0 0), (17, lv encW (cutV (rowsV v b 2) (rowZ b 2) rows.length)), (18, .int .i64 rows.length), (19, .int .i64 0)] (H.push ⟨[v, g, .int .i64 z], 1, false⟩)).bind fun r h => lookup_reader_segments_l1k k (R (T k)) r.1 r.2 h)
    (mapO (segP b z each) rows) fun b v H' => ∃ L, fzV H.n H' fzDepth v = some (lv encPt b, L) := by
  intro rows hrows
  obtain ⟨zr, nr, hz1, hn1, hneed, hlen, hrow⟩ := takeS_spec hb hrows
  have hnr := uS_two hb hn1
  have hzr := uS_two hb hz1
  have htk := fun H' (hx' : Ext H H') j row (hj : rows[j]? = some row) => takeS_row (hv.up hx') hrows hj
  have hll : (cutV (rowsV v b 2) (rowZ b 2) rows.length).length = rows.length := by simp
  generalize cutV (rowsV v b 2) (rowZ b 2) rows.length = us at htk hll
  refine Cp.bindL (Cp.mapLoop (segP b z each) rows
   (fun i acc e H' => ∃ s, e = [(1, .bool each), (2, .pointer (some ⟨H.n, 0, none⟩)), (6, s), (17, lv encW us), (18, .int .i64 rows.length), (19, .int .i64 i)] ∧ PtsOwn H H' s acc ∧ H'.get H.n = some ⟨[v, g, .int .i64 z], 1, false⟩)
   (fun acc x e H' => x = .exit 0 ∧ ∃ s, e = [(1, .bool each), (2, .pointer (some ⟨H.n, 0, none⟩)), (6, s), (17, lv encW us), (18, .int .i64 rows.length), (19, .int .i64 rows.length), (20, .bool false)] ∧ PtsOwn H H' s acc)
   (by omega) hx ⟨_, rfl, PtsOwn.nil _ _, get_push_eq _ _ _ rfl⟩ ?_ ?_) ?_
  ·intro i row acc e H' hi ha hx' ⟨s, he, ho, hg⟩
   subst he
   have hilt := (List.getElem?_eq_some_iff.1 hi).1
   obtain ⟨u, hu, hsu⟩ := htk H' hx' i row hi
   have hrb := hrow row (List.mem_of_getElem? hi)
   exact seg_step k hv hb g z hz each hl us rows.length i row u acc s hilt (by omega) hu (by omega) ho hx' hg hsu hrb.1 (by omega) (fun h => by have := hnd2 h; omega)
  ·intro acc e H' ha hx' ⟨s, he, ho, _⟩
   subst he
   refine ⟨.exit 0, _, H', ?_, by simp, hx', rfl, s, rfl, ho⟩
   rw [lookup_reader_segments_l1_eq]
   simp -implicitDefEqProofs
  ·rintro acc ⟨x, e⟩ H' _ hx' ⟨rfl, s, rfl, ho⟩
   simp only [lookup_reader_segments_l1k_x0]
   exact .ok hx' (ho.freeze 5)
 cases each with
 | true =>
  simp -implicitDefEqProofs (disch := omega) [lookup_reader_segments, lookup_reader_segments_j1_eq]
  have : need = 6 := hneed
  subst this
  refine Cp.call (Take_run k (hv.up hx) hb 2 6 2 hl (by omega) (by omega) (by omega)) hx fun rows hrows => ?_
  have := main rows hrows
  simp -implicitDefEqProofs (disch := omega)
  simpa using this
 | false =>
  simp -implicitDefEqProofs (disch := omega) [lookup_reader_segments, lookup_reader_segments_j2_eq]
  have := hnd2 rfl
  subst this
  refine Cp.call (Take_run k (hv.up hx) hb 2 (4 + z) 2 hl (by omega) (by omega) (by omega)) hx fun rows hrows => ?_
  have := main rows hrows
  simp -implicitDefEqProofs (disch := omega)
  simpa using this
end Go.Sw
end
section
namespace Go.Sw
open Go.RowKit
theorem risesS_iff : ∀ {ps : List Pt}, risesS ps = true ↔ ∀ (i : Nat) (p q : Pt), ps[i]? = some p → ps[i + 1]? = some q → p.last < q.first
 | [] => by simp [risesS]
 | [a] => by simp [risesS]
 | a :: b :: l => by
  have ih := risesS_iff (ps := b :: l)
  simp only [risesS, Bool.and_eq_true, decide_eq_true_eq, ih]
  constructor
  ·intro ⟨h1, h2⟩ i p q hp hq
   cases i with
   | zero => simp at hp hq; subst hp hq; exact h1
   | succ i => exact h2 i p q (by simpa using hp) (by simpa using hq)
  ·intro h
   exact ⟨h 0 a b (by simp) (by simp), fun i p q hp hq => h (i + 1) p q (by simpa using hp) (by simpa using hq)⟩
abbrev tabV (x : Int × List Pt) : Value := boxV #[.int .i64 x.1, lv encPt x.2]
theorem Flat.tab (x : Int × List Pt) : Flat (tabV x) := .boxV (l := [.int .i64 x.1, Go.Sw.lv encPt x.2]) (.cons (.int _ _) (.cons (Flat.Pts _) .nil))
theorem take_j1 (k : Nat) {H0 H : Heap} (p : Nat) (fmt : Int) (s : Value) (ps : List Pt) (hp : H0.n ≤ p) (hx : Ext H0 H) (hg : H.get p = some ⟨[.int .i64 fmt, s], 1, false⟩) (hlen : ps.length < 2 ^ 31)
  (hs : s = lv encPt ps ∨ ps.length = 1 ∧ ∃ a c, s = .slice a 1 c) (hf : ∃ L, fzV H0.n H 7 s = some (lv encPt ps, L)) :
  Cp failV (Ext H0) (lookup_Take_j1 k (R (T k)) (.pointer (some ⟨p, 0, none⟩)) H) (if risesS ps then some (fmt, ps) else none) fun x v H' => ∃ L, fzV H0.n H' fzDepth v = some (tabV x, L) := by
 have hln : ∀ H', lnS s H' = .ok (.int .i64 ps.length) H' := fun H' => by
  rcases hs with rfl | ⟨h, a, c, rfl⟩
  ·rfl
  ·rw [h]; rfl
 have hfp : ∃ L, fzV H0.n H fzDepth (.pointer (some ⟨p, 0, none⟩)) = some (tabV (fmt, ps), L) := by
  obtain ⟨L, hL⟩ := hf
  have hlt : Nat.blt p H0.n = false := by
   cases hb : Nat.blt p H0.n with
   | false => rfl
   | true => have := Nat.le_of_ble_eq_true hb; omega
  refine ⟨p :: ([] ++ (L ++ [])), ?_⟩
  show fzV H0.n H 8 _ = _
  unfold fzV
  dsimp only
  rw [hlt, cond_false, hg]
  show (bif false || !Nat.ble 0 2 then none else (mapF (fzV H0.n H 7) [.int .i64 fmt, s]).map fun r => (boxV r.1.toArray, p :: r.2)) = _
  rw [show (false || !Nat.ble 0 2) = false from rfl, cond_false, mapF_cons (u := .int .i64 fmt) (L1 := []) rfl (mapF_cons hL (L2 := []) rfl)]
  rfl
 rw [lookup_Take_j1_eq]
 obtain ⟨N, hN⟩ : ∃ N, N = max 1 ps.length := ⟨_, rfl⟩
 rcases loop_upP (body := lookup_Take_l1 k (R (T k))) N
  (fun j e H' => 1 ≤ j ∧ H' = H ∧ e = [(8, .pointer (some ⟨p, 0, none⟩)), (10, .int .i64 j)] ∧ ∀ (i : Nat) (x y : Pt), i + 1 < j → ps[i]? = some x → ps[i + 1]? = some y → x.last < y.first)
  (fun x e H' => H' = H ∧ x = .exit 1 ∧ (∃ a, e = [(8, .pointer (some ⟨p, 0, none⟩)), (10, a), (93, .bool false)]) ∧ risesS ps = true)
  (fun v H' => v = failV ∧ H' = H ∧ risesS ps = false)
  (fun j e H' hj ⟨h1, hH, he, hall⟩ => by
   subst hH he
   have hjl : j < ps.length := by omega
   obtain ⟨y, hy⟩ : ∃ y, ps[j]? = some y := ⟨_, List.getElem?_eq_getElem hjl⟩
   obtain ⟨x, hx'⟩ : ∃ x, ps[j - 1]? = some x := ⟨_, List.getElem?_eq_getElem (by omega)⟩
   rcases hs with rfl | ⟨h, _⟩
   rotate_left
   ·omega
   have hlt : (j : Int) < ps.length := by omega
   have i1 := fun H' => ixS_lvN encPt_len ps .i64 j y hy H'
   have i2 := fun H' => ixS_lv encPt_len ps .i64 ((j : Int) - 1) x (by omega) (by rw [show ((j : Int) - 1).toNat = j - 1 by omega]; exact hx') H'
   rw [lookup_Take_l1_eq]
   by_cases hxy : x.last < y.first
   ·refine .inl ⟨_, H', by simp -implicitDefEqProofs (disch := omega) [hg, hlt, i1, i2, hxy, Need_true], by omega, rfl, rfl, fun i a b hi ha hb => ?_⟩
    by_cases hij : i + 1 = j
    ·subst hij
     simp only [Nat.add_sub_cancel] at hx'
     rw [hx'] at ha; rw [hy] at hb
     injection ha with ha; injection hb with hb
     subst ha hb
     exact hxy
    ·exact hall i a b (by omega) ha hb
   ·refine .inr (.inr ⟨failV, H', by simp -implicitDefEqProofs (disch := omega) [hg, hlt, i1, i2, hxy, Need_false], rfl, rfl, ?_⟩)
    cases hr : risesS ps with
    | false => rfl
    | true => exact absurd (risesS_iff.1 hr (j - 1) x y hx' (by rw [show j - 1 + 1 = j by omega]; exact hy)) hxy)
  (fun e H' ⟨h1, hH, he, hall⟩ => by
   subst hH he
   have hge : ¬ (N : Int) < ps.length := by omega
   rw [lookup_Take_l1_eq]
   refine .inl ⟨.exit 1, _, H', by simp -implicitDefEqProofs (disch := omega) [hg, hln, hge], by simp, rfl, rfl, ⟨.int .i64 N, rfl⟩, ?_⟩
   refine risesS_iff.2 fun i x y hx hy => hall i x y ?_ hx hy
   have := (List.getElem?_eq_some_iff.1 hy).1
   omega)
  loopFuel 1 [(8, .pointer (some ⟨p, 0, none⟩)), (10, .int .i64 1)] H (by omega) (by unfold loopFuel; omega) ⟨by omega, rfl, rfl, fun i x y h => by omega⟩ with ⟨x, e', H', hr, rfl, rfl, ⟨a, rfl⟩, hri⟩ | ⟨v, H', hr, rfl, rfl, hri⟩
 ·rw [hr, hri]
  simp only [Res.bind_ok, lookup_Take_l1k_x1, if_true]
  exact .ok hx hfp
 ·rw [hr, hri]
  exact .throw hx
theorem lookTake_run (k : Nat) {H : Heap} {v : Value} {b : List Int} (hv : Sl H 1 v encB b) (hb : Byt b) (g z : Int) (hg1 : 1 ≤ g) (hg2 : g ≤ 65535) (hz : z = 2 ∨ z = 4) (hl : b.length < 2 ^ 31) :
  R (T k) F.lookup_Take [.agg #[v], .int .i64 g, .int .i64 z] H = orF (lookS b g z) tabV H := by
 rw [lookup_Take_R]
 have hx0 : Ext H (H.push ⟨[v], 1, false⟩) := (Ext.refl H).push _
 have hx1 : Ext H ((H.push ⟨[v], 1, false⟩).push ⟨[v, .int .i64 g, .int .i64 z], 1, false⟩) := hx0.push _
 have hst := hv.storable
 have hce := hv.cells
 refine fz_orF ?_ fun x _ => (Flat.tab x).alive
 simp -implicitDefEqProofs (disch := omega) [lookup_Take, hst, hce]
 unfold lookS
 refine Cp.call (U16_run k (hv.up hx1) hb 0 (by omega)) hx1 fun fmt hfmt => ?_
 have hfmt := uS_two hb hfmt
 have hx2 : Ext H (((H.push ⟨[v], 1, false⟩).push ⟨[v, .int .i64 g, .int .i64 z], 1, false⟩).push ⟨[.int .i64 fmt, .slice none 0 0], 1, false⟩) := hx1.push _
 have fin : ∀ ps : List Pt, ps.length < 2 ^ 31 → Cp failV (Ext H) (lookup_Take_j1 k (R (T k)) (.pointer (some ⟨H.n + 2, 0, none⟩)) (((H.push ⟨[v], 1, false⟩).push ⟨[v, .int .i64 g, .int .i64 z], 1, false⟩).push ⟨[.int .i64 fmt, lv encPt ps], 1, false⟩)) (if risesS ps then some (fmt, ps) else none) fun x v H' => ∃ L, fzV H.n H' fzDepth v = some (tabV x, L) := fun ps hps =>
  take_j1 k _ fmt _ ps (by omega) (hx1.push _) (get_push_eq _ _ _ (by simp)) hps (.inl rfl) ⟨_, rfl⟩
 by_cases h0 : fmt = 0
 ·subst h0
  simp -implicitDefEqProofs (disch := omega)
  unfold partsS
  rw [if_pos rfl, Option.bind_map]
  refine Cp.call (list_run k (hv.up hx2) hb 2 g z (by omega) hl) hx2 fun vs hvs => ?_
  simp -implicitDefEqProofs (disch := omega)
  have hx3 : Ext H ((((H.push ⟨[v], 1, false⟩).push ⟨[v, .int .i64 g, .int .i64 z], 1, false⟩).push ⟨[.int .i64 0, .slice (some ⟨H.n + 3, 0, none⟩) 1 1], 1, false⟩).push ⟨[.int .i64 0, .int .i64 (g - 1), lv encI vs], 3, false⟩) := (hx1.push _).push _
  refine take_j1 k (H.n + 2) 0 (.slice (some ⟨H.n + 3, 0, none⟩) 1 1) [⟨0, g - 1, vs⟩] (by omega) hx3 (by rw [get_push_lt _ _ _ (by simp), get_push_eq _ _ _ (by simp)]) (by simp) (.inr ⟨rfl, _, _, rfl⟩) ?_
  exact Own.freeze (l := [⟨0, g - 1, vs⟩]) encPt_len (.inr ⟨H.n + 3, rfl, by omega, by rw [get_push_eq _ _ _ (by simp)]; rfl⟩) (encPt_still _) 5
 have h0' : (fmt == 0) = false := by simpa using h0
 have segl : ∀ {each ps}, segS b z each = some ps → ps.length < 2 ^ 31 := fun {each ps} h => by
  obtain ⟨rows, h1, h2⟩ := Option.bind_eq_some_iff.1 h
  obtain ⟨_, n, _, hn, _, hlen, _⟩ := takeS_spec hb h1
  have := uS_two hb hn
  have := mapO_len h2
  omega
 by_cases h2 : fmt = 2
 ·subst h2
  simp -implicitDefEqProofs (disch := omega)
  unfold partsS
  rw [if_neg h0, if_pos rfl]
  refine Cp.call (segments_run k (hv.up hx2) hb (.int .i64 g) z hz false hl) hx2 fun ps hps => ?_
  simp -implicitDefEqProofs (disch := omega)
  exact fin ps (segl hps)
 have h2' : (fmt == 2) = false := by simpa using h2
 by_cases h4 : fmt = 4
 ·subst h4
  simp -implicitDefEqProofs (disch := omega)
  unfold partsS
  rw [if_neg h0, if_neg h2, if_pos rfl]
  refine Cp.call (segments_run k (hv.up hx2) hb (.int .i64 g) z hz true hl) hx2 fun ps hps => ?_
  simp -implicitDefEqProofs (disch := omega)
  exact fin ps (segl hps)
 have h4' : (fmt == 4) = false := by simpa using h4
 by_cases h6 : fmt = 6
 ·subst h6
  simp -implicitDefEqProofs (disch := omega)
  unfold partsS
  rw [if_neg h0, if_neg h2, if_neg h4, if_pos rfl]
  refine Cp.call (single_run k (hv.up hx2) hb (.int .i64 g) z hz hl) hx2 fun ps hps => ?_
  simp -implicitDefEqProofs (disch := omega)
  refine fin ps ?_
  obtain ⟨rows, h1, h2⟩ := Option.bind_eq_some_iff.1 hps
  obtain ⟨_, n, _, hn, _, hlen, _⟩ := takeS_spec hb h1
  have := uS_two hb hn
  have := mapO_len h2
  omega
 have h6' : (fmt == 6) = false := by simpa using h6
 have triml : ∀ {i z ps}, trimS b i z = some ps → ps.length < 2 ^ 31 := fun {i z ps} h => by
  obtain ⟨f, _, h⟩ := Option.bind_eq_some_iff.1 h
  obtain ⟨n, _, h⟩ := Option.bind_eq_some_iff.1 h
  split at h
  ·obtain ⟨vs, _, rfl⟩ := Option.map_eq_some_iff.1 h
   split <;> simp
  ·cases h
 by_cases h8 : fmt = 8
 ·subst h8
  simp -implicitDefEqProofs (disch := omega)
  unfold partsS
  rw [if_neg h0, if_neg h2, if_neg h4, if_neg h6, if_pos rfl]
  refine Cp.call (trimmed_run k (hv.up hx2) hb (.int .i64 g) (.int .i64 z) 2 z (by omega) hl (by omega)) hx2 fun ps hps => ?_
  simp -implicitDefEqProofs (disch := omega)
  exact fin ps (triml hps)
 have h8' : (fmt == 8) = false := by simpa using h8
 by_cases h10 : fmt = 10
 ·subst h10
  simp -implicitDefEqProofs (disch := omega)
  unfold partsS
  rw [if_neg h0, if_neg h2, if_neg h4, if_neg h6, if_neg h8, if_pos rfl, Option.bind_assoc]
  refine Cp.call (U16_run k (hv.up hx2) hb 2 (by omega)) hx2 fun u hu => ?_
  by_cases hu4 : u = 1 ∨ u = 2 ∨ u = 4
  ·rw [if_pos hu4]
   have hb4 : (R (T k) F.view_Need [.bool true] (((H.push ⟨[v], 1, false⟩).push ⟨[v, .int .i64 g, .int .i64 z], 1, false⟩).push ⟨[.int .i64 10, .slice none 0 0], 1, false⟩)) = .ok (.tuple #[]) _ := Need_true k _
   have ht := fun ps hps => triml (i := 4) (z := u) (ps := ps) hps
   rcases hu4 with rfl | rfl | rfl <;>
   ·simp -implicitDefEqProofs (disch := omega) [hb4]
    refine Cp.call (trimmed_run k (hv.up hx2) hb (.int .i64 g) (.int .i64 z) 4 _ (by omega) hl (by omega)) hx2 fun ps hps => ?_
    simp -implicitDefEqProofs (disch := omega)
    exact fin ps (ht ps hps)
  ·rw [if_neg hu4]
   have e1 : (u == 1) = false := by simp; omega
   have e2 : (u == 2) = false := by simp; omega
   have e3 : (u == 4) = false := by simp; omega
   simp -implicitDefEqProofs (disch := omega) [e1, e2, e3, Need_false]
   exact .throw hx2
 have h10' : (fmt == 10) = false := by simpa using h10
 simp -implicitDefEqProofs (disch := omega) [h0', h2', h4', h6', h8', h10']
 unfold partsS
 rw [if_neg h0, if_neg h2, if_neg h4, if_neg h6, if_neg h8, if_neg h10]
 exact .throw hx2
end Go.Sw
end
section
namespace Go.Sw
open Go.RowKit
theorem tryV_np {short : TypeId} {call : Caller} {args : List Value} {H : Heap} {v : Value} {H' : Heap} : tryV short call args H ≠ .panic v H' := by
 unfold tryV
 split
 ·rename_i g f c
  cases call g (f.toList ++ c.toList) H with
  | stuck => simp [Res.bindP]
  | ok a H => simp [Res.bindP]
  | panic a H =>
   simp only [Res.bindP]
   split
   ·rename_i t xs
    cases Nat.beq t short && Nat.beq xs.size 0 <;> simp
   ·simp
 ·simp
theorem Try_R (k : Nat) (f : Value) (H : Heap) : R (T k) F.view_Try [f] H = tryV shortT (R (T k)) [f] H :=
 ((R_sp (t := T k) (T_scott k) (s := tryV shortT) (by kernel_rfl) [f] H).trans (by
  show nrm Mode.no H _ = _
  cases h : tryV shortT (R (T k)) [f] H with
  | ok a H => rfl
  | stuck => rfl
  | panic a H => exact absurd h tryV_np))
theorem Try_ok (k : Nat) (g : FuncId) (cap : Array Value) {H H' : Heap} {v : Value} (h : R (T k) g cap.toList H = .ok v H') : R (T k) F.view_Try [.func (.func g) #[] cap] H = .ok (.bool true) H' := by
 rw [Try_R]
 unfold tryV
 simp [h, Res.bindP]
theorem Try_no (k : Nat) (g : FuncId) (cap : Array Value) {H H' : Heap} (h : R (T k) g cap.toList H = .panic failV H') : R (T k) F.view_Try [.func (.func g) #[] cap] H = .ok (.bool false) H' := by
 rw [Try_R]
 unfold tryV
 simp [h, Res.bindP]
def lookV (o : Option (Int × List Pt)) : Value := match o with | some x => tabV x | none => .pointer none
theorem lookV_flat (o : Option (Int × List Pt)) : Flat (lookV o) := by
 cases o with
 | none => exact .nilPtr
 | some x => exact Flat.tab x
end Go.Sw
end
section
namespace Go.Sw
open Go.RowKit
theorem at_run (k : Nat) (p : Pt) (hp : p.ok) (id : Int) (hf : p.first ≤ id) (hi : id ≤ p.last) (H : Heap) : R (T k) F.lookup_part_at [.agg #[.int .i64 p.first, .int .i64 p.last, lv encI p.vals], .int .i64 id] H = .ok (.int .i64 ((p.num id).getD 0)) H := by
 rw [lookup_part_at_R]
 obtain ⟨x, hx, _⟩ := Pt.num_some hp hf
 obtain ⟨h1, h2, h3, h4, h5, h6⟩ := hp
 have hl : 0 < p.vals.length := List.length_pos_iff.2 h4
 refine nrm_gc ⟨_, ?_, (Ext.refl H).push ⟨[.int .i64 p.first, .int .i64 p.last, lv encI p.vals], 1, false⟩⟩ (.int _ _)
 unfold Pt.num at hx ⊢
 obtain ⟨m, hm⟩ : ∃ m : Int, m = (if (p.vals.length : Int) - 1 < id - p.first then (p.vals.length : Int) - 1 else id - p.first) := ⟨_, rfl⟩
 have hm2 : min (id - p.first) ((p.vals.length : Int) - 1) = m := by rw [hm]; split <;> omega
 rw [hm2] at hx ⊢
 have hm0 : 0 ≤ m := by rw [hm]; split <;> omega
 have hix := fun H' => ixS_lv encI_len p.vals .i64 m x hm0 hx H'
 simp only [hx, Option.getD_some]
 simp -implicitDefEqProofs (disch := omega) [lookup_part_at, ← hm, hix]
theorem Get_in1_run (k : Nat) {H : Heap} (x : Int × List Pt) (id : Int) (p1 p2 : Nat) (h1 : H.get p1 = some ⟨[tabV x], 1, false⟩) (h2 : H.get p2 = some ⟨[.int .i64 id], 1, false⟩) (j : Nat) (p : Pt) (hj : x.2[j]? = some p) :
  R (T k) F.lookup_Table_Get_in1 [.int .i64 j, .pointer (some ⟨p1, 0, none⟩), .pointer (some ⟨p2, 0, none⟩)] H = .ok (.bool (decide (id ≤ p.last))) H := by
 rw [lookup_Table_Get_in1_R]
 refine nrm_gc (Pure.of ?_) (.bool _)
 have i1 := fun H' => ixS_lvN encPt_len x.2 .i64 j p hj H'
 simp -implicitDefEqProofs (disch := omega) [lookup_Table_Get_in1, h1, h2, i1]
theorem Get_run (k : Nat) (x : Int × List Pt) (hok : ∀ p, p ∈ x.2 → p.ok) (hr : risesS x.2 = true) (id : Int) (hl : x.2.length < 2 ^ 31) (H : Heap) :
  R (T k) F.lookup_Table_Get [tabV x, .int .i64 id] H = .ok (.tuple #[.int .i64 ((getS x.2 id).getD 0), .bool (getS x.2 id).isSome]) H := by
 rw [lookup_Table_Get_R]
 obtain ⟨fmt, ps⟩ := x
 dsimp only at hok hr hl ⊢
 have hx : Ext H ((H.push ⟨[tabV (fmt, ps)], 1, false⟩).push ⟨[.int .i64 id], 1, false⟩) := ((Ext.refl H).push _).push _
 have hmono : ∀ i j : Nat, i ≤ j → j < ps.length → (ps[i]?).elim false (fun p => decide (id ≤ p.last)) = true → (ps[j]?).elim false (fun p => decide (id ≤ p.last)) = true := by
  intro i j hij hj hi
  by_cases he : i = j
  ·subst he; exact hi
  ·obtain ⟨p, hp⟩ : ∃ p, ps[i]? = some p := ⟨_, List.getElem?_eq_getElem (by omega)⟩
   obtain ⟨q, hq⟩ : ∃ q, ps[j]? = some q := ⟨_, List.getElem?_eq_getElem hj⟩
   have h1 := risesS_get hr hok i j p q (by omega) hp hq
   have h2 := (hok q (List.mem_of_getElem? hq)).2.1
   rw [hp] at hi
   rw [hq]
   simp at hi ⊢
   omega
 obtain ⟨i, hfi⟩ := isFirst_ex ps.length (fun j => (ps[j]?).elim false fun p => decide (id ≤ p.last)) hmono
 have hfirst := First_run k ps.length (.func (.func F.lookup_Table_Get_in1) #[] #[.pointer (some ⟨H.n, 0, none⟩), .pointer (some ⟨H.n + 1, 0, none⟩)]) (fun j => (ps[j]?).elim false fun p => decide (id ≤ p.last)) ((H.push ⟨[tabV (fmt, ps)], 1, false⟩).push ⟨[.int .i64 id], 1, false⟩) (by omega)
  (fun j hj => by
   obtain ⟨p, hp⟩ : ∃ p, ps[j]? = some p := ⟨_, List.getElem?_eq_getElem hj⟩
   have := Get_in1_run k (H := (H.push ⟨[tabV (fmt, ps)], 1, false⟩).push ⟨[.int .i64 id], 1, false⟩) (fmt, ps) id H.n (H.n + 1) (by simp) (by simp) j p hp
   simp only [callV, List.nil_append, List.cons_append]
   rw [hp]
   simpa using this)
  hmono i hfi
 rw [getS_first id i hfi]
 have hle := hfi.1
 by_cases hil : i < ps.length
 ·obtain ⟨p, hp⟩ : ∃ p, ps[i]? = some p := ⟨_, List.getElem?_eq_getElem hil⟩
  have hpok := hok p (List.mem_of_getElem? hp)
  have hne : ((i : Int) == (ps.length : Int)) = false := by simp; omega
  have i1 := fun H' => ixS_lvN encPt_len ps .i64 i p hp H'
  have hlast : id ≤ p.last := by
   have := hfi.2.2 i (Nat.le_refl _) hil
   simp only [hp] at this
   simpa using this
  rw [hp]
  by_cases hf : p.first ≤ id
  ·have hgt : ¬ p.first > id := by omega
   obtain ⟨y, hy, _⟩ := Pt.num_some hpok hf
   have hat := at_run k p hpok id hf hlast ((H.push ⟨[tabV (fmt, ps)], 1, false⟩).push ⟨[.int .i64 id], 1, false⟩)
   refine nrm_gc ⟨_, ?_, hx⟩ (Flat.tupleL (l := [_, _]) (.cons (.int _ _) (.cons (.bool _) .nil))).alive
   simp only [Option.bind_some, if_pos hf]
   rw [hy] at hat ⊢
   simp -implicitDefEqProofs (disch := omega) [lookup_Table_Get, hfirst, hne, i1, hgt, hat]
  ·have hgt : p.first > id := by omega
   refine nrm_gc ⟨_, ?_, hx⟩ (Flat.tupleL (l := [_, _]) (.cons (.int _ _) (.cons (.bool _) .nil))).alive
   simp only [Option.bind_some, if_neg hf]
   simp -implicitDefEqProofs (disch := omega) [lookup_Table_Get, hfirst, hne, i1, hgt]
 ·have e : i = ps.length := by omega
  subst e
  refine nrm_gc ⟨_, ?_, hx⟩ (Flat.tupleL (l := [_, _]) (.cons (.int _ _) (.cons (.bool _) .nil))).alive
  simp -implicitDefEqProofs (disch := omega) [lookup_Table_Get, hfirst]
theorem Most_run (k : Nat) (x : Int × List Pt) (hok : ∀ p, p ∈ x.2 → p.ok) (hl : x.2.length < 2 ^ 31) (H : Heap) : R (T k) F.lookup_Table_Most [tabV x] H = .ok (.int .i64 (mostS x.2)) H := by
 rw [lookup_Table_Most_R]
 obtain ⟨fmt, ps⟩ := x
 dsimp only at hok hl ⊢
 obtain ⟨xx, e', H1, hr, hx, rfl, a, rfl⟩ := loop_up (body := lookup_Table_Most_l1 k (R (T k))) ps.length
  (fun i e H' => Ext H H' ∧ e = [(3, .int .i64 (mostS (ps.take i))), (11, lv encPt ps), (12, .int .i64 ps.length), (13, .int .i64 i)])
  (fun x e H' => Ext H H' ∧ x = .exit 0 ∧ ∃ a, e = [(3, .int .i64 (mostS ps)), (11, lv encPt ps), (12, .int .i64 ps.length), (13, .int .i64 ps.length), (14, a)])
  (e0 := [(3, .int .i64 (-1)), (11, lv encPt ps), (12, .int .i64 ps.length), (13, .int .i64 0)]) (H0 := H) ⟨Ext.refl H, by simp [mostS]⟩ (by omega)
  (fun i e H' hi ⟨hx, he⟩ => by
   subst he
   have hlt : (i : Int) < ps.length := by omega
   obtain ⟨p, hp⟩ : ∃ p, ps[i]? = some p := ⟨_, List.getElem?_eq_getElem hi⟩
   have hpok := hok p (List.mem_of_getElem? hp)
   have i1 := fun H' => ixS_lvN encPt_len ps .i64 i p hp H'
   have hx2 : Ext H (H'.push ⟨[.int .i64 p.first, .int .i64 p.last, lv encI p.vals], 1, false⟩) := hx.push _
   have hmost : mostS (ps.take (i + 1)) = p.vals.foldl max (mostS (ps.take i)) := by
    unfold mostS
    rw [List.take_add_one, hp]
    simp
   obtain ⟨y, e2, H2, hr2, rfl, rfl, a, rfl⟩ := loop_up (body := lookup_Table_Most_l2 k (R (T k))) p.vals.length
    (fun j e H2 => H2 = H'.push ⟨[.int .i64 p.first, .int .i64 p.last, lv encI p.vals], 1, false⟩ ∧ e = [(3, .int .i64 ((p.vals.take j).foldl max (mostS (ps.take i)))), (11, lv encPt ps), (12, .int .i64 ps.length), (13, .int .i64 i), (18, lv encI p.vals), (19, .int .i64 p.vals.length), (20, .int .i64 j)])
    (fun x e H2 => H2 = H'.push ⟨[.int .i64 p.first, .int .i64 p.last, lv encI p.vals], 1, false⟩ ∧ x = .exit 2 ∧ ∃ a, e = [(3, .int .i64 (mostS (ps.take (i + 1)))), (11, lv encPt ps), (12, .int .i64 ps.length), (13, .int .i64 i), (18, lv encI p.vals), (19, .int .i64 p.vals.length), (20, .int .i64 p.vals.length), (21, a)])
    (e0 := [(3, .int .i64 (mostS (ps.take i))), (11, lv encPt ps), (12, .int .i64 ps.length), (13, .int .i64 i), (18, lv encI p.vals), (19, .int .i64 p.vals.length), (20, .int .i64 0)]) (H0 := H'.push ⟨[.int .i64 p.first, .int .i64 p.last, lv encI p.vals], 1, false⟩) ⟨rfl, by simp⟩ (by have := hpok.2.2.2.2.1; omega)
    (fun j e H2 hj ⟨hH, he⟩ => by
     subst he hH
     have hlt2 : (j : Int) < p.vals.length := by omega
     obtain ⟨n, hn⟩ : ∃ n, p.vals[j]? = some n := ⟨_, List.getElem?_eq_getElem hj⟩
     have i2 := fun H' => ixS_lvN encI_len p.vals .i64 j n hn H'
     have hjl := hpok.2.2.2.2.1
     have hmx : (if n > (p.vals.take j).foldl max (mostS (ps.take i)) then n else (p.vals.take j).foldl max (mostS (ps.take i))) = (p.vals.take (j + 1)).foldl max (mostS (ps.take i)) := by
      rw [List.take_add_one, hn]
      simp
      split <;> omega
     refine .inl ⟨_, _, ?_, rfl, rfl⟩
     rw [lookup_Table_Most_l2_eq, ← hmx]
     simp -implicitDefEqProofs (disch := omega) [hlt2, i2])
    (fun e H2 ⟨hH, he⟩ => by
     subst he hH
     rw [List.take_length, ← hmost]
     refine ⟨.exit 2, _, _, ?_, by simp, rfl, rfl, .bool false, rfl⟩
     rw [lookup_Table_Most_l2_eq]
     simp -implicitDefEqProofs (disch := omega))
   refine .inl ⟨_, _, ?_, hx2, rfl⟩
   rw [lookup_Table_Most_l1_eq]
   simp -implicitDefEqProofs (disch := omega) [hlt, i1, hr2, lookup_Table_Most_l2k_x2])
  (fun e H' ⟨hx, he⟩ => by
   subst he
   rw [List.take_length]
   refine ⟨.exit 0, _, H', ?_, by simp, hx, rfl, .bool false, rfl⟩
   rw [lookup_Table_Most_l1_eq]
   simp -implicitDefEqProofs (disch := omega))
 refine nrm_gc ⟨H1, ?_, hx⟩ (.int _ _)
 simp -implicitDefEqProofs (disch := omega) [lookup_Table_Most, hr, lookup_Table_Most_l1k_x0]
end Go.Sw
end
section
namespace Go.Sw
open Go.RowKit
section
variable {α : Type} {enc : α → List Value}
theorem Star.stRow {H0 H : Heap} {L : List It} (h : Star H0 H L) (i : Nat) {b m : Nat} {s : Value} {l : List α} (hi : L[i]? = some (itRow (some b) m s enc l)) (he : ∀ x, (enc x).length = m) {j c n : Nat} {x : α} (y : α) {v : Value} (hx : l[j]? = some x)
  (hn : v.cells.size = n) (hs : storable v = true) (hc : c + n ≤ m) (hy : enc y = splice (enc x) c v.cells.toList) :
  ∃ H', stR n (.pointer (some ⟨b, j * m + c, none⟩)) v H = .ok undef H' ∧ Star H0 H' (L.set i (itRow (some b) m s enc (l.set j y))) ∧ H'.n = H.n := by
 rcases h.row i hi with ⟨h0, _⟩ | ⟨b', h0, h1, h2⟩
 ·cases h0
 ·injection h0 with h0
  subst h0
  obtain ⟨H', e1, e2, e3, e4⟩ := st_row he h2 y hx hn hs hc hy
  exact ⟨H', e1, h.step i hi (by omega) (fun d _ hd => e3 d fun e => hd (show d ∈ [b] from List.mem_singleton.2 e)) _ (.inr ⟨b, rfl, by rw [List.length_set]; exact h1, e2⟩) fun b hb => .inl hb, e4⟩
theorem Star.ix {H0 H : Heap} {L : List It} (h : Star H0 H L) (i : Nat) {o : Option Nat} {m : Nat} {s : Value} {l : List α} (hi : L[i]? = some (itRow o m s enc l)) (k : IntKind) (j : Nat) (hj : j < l.length) :
  ∃ b, o = some b ∧ H.get b = some ⟨rows enc l, m, false⟩ ∧ ∀ H', ixS m s (.int k j) H' = .ok (.pointer (some ⟨b, j * m, none⟩)) H' := by
 obtain ⟨b, h1, _, h3, h4⟩ := (h.row i hi).ix k j hj
 exact ⟨b, h1, h3, h4⟩
end
section
variable {α : Type} {enc : α → List Value}
theorem Sl.lenL {H : Heap} {m : Nat} {v : Value} {l : List α} (h : Sl H m v enc l) : Go.Sw.lenL v = some l.length := by
 rcases h with rfl | ⟨rfl, rfl | rfl | rfl⟩ | ⟨b, off, cap, k, rfl, _⟩ <;> rfl
theorem Sl.first {H : Heap} {m : Nat} {v : Value} {l : List α} (he : ∀ x, (enc x).length = m) (h : Sl H m v enc l) : firstV m l.length v H = some (rows enc l) := by
 rcases h with rfl | ⟨rfl, rfl | rfl | rfl⟩ | ⟨b, off, cap, k, rfl, hc, hk, hr⟩
 ·exact lv_first he l H
 ·rfl
 ·rfl
 ·rfl
 ·unfold firstV
  dsimp only
  have hl := rows_length he l
  split
  ·rename_i h0
   rw [List.length_eq_zero_iff.1 (hl.trans h0)]
  ·rename_i h0
   rw [cellsAt_eq, hk, Option.bind_some, hr, if_pos]
   have := congrArg List.length hr
   rw [hl] at this
   simp at this
   omega
theorem Star.more_own {H0 H H' : Heap} {L : List It} (h : Star H0 H L) {m : Nat} {s : Value} {l : List α} (ho : Own H H' m s enc l) (he : Ext H H') : ∃ o, Star H0 H' (L ++ [itRow o m s enc l]) := by
 obtain ⟨o, h1, h2⟩ := ho.toO
 exact ⟨o, h.more_row he h1 fun b hb => ⟨h2 b hb, h1.lt b hb⟩⟩
end
theorem take_snoc {α : Type} {l : List α} {j : Nat} {p : α} (h : l[j]? = some p) : l.take (j + 1) = l.take j ++ [p] := by
 rw [List.take_add_one, h]; rfl
theorem nrm_of {H H' : Heap} {r : Res Value} {v : Value} (h : r = .ok v H') : nrm .no H r = .ok v H' := by rw [h]; rfl
theorem fz_box {n0 : Nat} {H : Heap} {d c e : Nat} {cells r : List Value} {L : List Nat} (hn : n0 ≤ c) (hc : H.get c = some ⟨cells, e, false⟩) (h : mapF (fzV n0 H d) cells = some (r, L)) : fzV n0 H (d + 1) (.pointer (some ⟨c, 0, none⟩)) = some (boxV r.toArray, c :: L) := by
 have h1 : Nat.blt c n0 = false := by
  cases hb : Nat.blt c n0 with
  | false => rfl
  | true => exact absurd (Nat.le_of_ble_eq_true hb) (by omega)
 simp only [fzV, h1, cond_false, hc, List.drop_zero, h]
 rfl
theorem mapF_one {f : Value → Option (Value × List Nat)} {v u : Value} {L : List Nat} (h : f v = some (u, L)) : mapF f [v] = some ([u], L) := by
 have := mapF_cons (f := f) h mapF_nil
 simpa using this
end Go.Sw
end
section
set_option maxRecDepth 100000
set_option linter.unusedVariables false
namespace Go.Sw
noncomputable section
end
end Go.Sw
end
section
set_option maxRecDepth 100000
set_option linter.unusedVariables false
namespace Go.Sw
noncomputable section
def slices_Clone_of_api_Place_api_Place (k : Nat) (call : Caller) (a0 : Value) (h : Heap) : Res Value :=
 (binR Prog .eql 31 a0 (.slice none 0 0) h).bind fun v1 h2 =>
 condV (some v1) (
 .ok (.slice none 0 0) h2)
 (
 (buildSliceR Prog 31 0 [] h2).bind fun v3 h4 =>
 (builtinV Prog .append [31, 31] [v3, a0] h4).bind fun v5 h6 =>
 .ok v5 h6)
theorem slices_Clone_of_api_Place_api_Place_body (k : Nat) (sp : FuncId → Option Sp) (call : Caller) (a0 : Value) (h : Heap) : bodyK { P := Prog, kp := kpS, sp := sp } call F.slices_Clone_of_api_Place_api_Place [a0] h = slices_Clone_of_api_Place_api_Place k call a0 h := by kernel_rfl
def slices_Clone_of_api_Glyph_api_Glyph (k : Nat) (call : Caller) (a0 : Value) (h : Heap) : Res Value :=
 (binR Prog .eql 50 a0 (.slice none 0 0) h).bind fun v1 h2 =>
 condV (some v1) (
 .ok (.slice none 0 0) h2)
 (
 (buildSliceR Prog 50 0 [] h2).bind fun v3 h4 =>
 (builtinV Prog .append [50, 50] [v3, a0] h4).bind fun v5 h6 =>
 .ok v5 h6)
theorem slices_Clone_of_api_Glyph_api_Glyph_body (k : Nat) (sp : FuncId → Option Sp) (call : Caller) (a0 : Value) (h : Heap) : bodyK { P := Prog, kp := kpS, sp := sp } call F.slices_Clone_of_api_Glyph_api_Glyph [a0] h = slices_Clone_of_api_Glyph_api_Glyph k call a0 h := by kernel_rfl
end
end Go.Sw
end
section
set_option maxRecDepth 100000
set_option linter.unusedVariables false
namespace Go.Sw
noncomputable section
end
end Go.Sw
end
section
namespace Go.Sw
open Go.RowKit
abbrev ptrV (c : Nat) : Value := .pointer (some ⟨c, 0, none⟩)
end Go.Sw
end
section
set_option maxRecDepth 100000
set_option linter.unusedVariables false
namespace Go.Sw
noncomputable section
end
end Go.Sw
end
section
namespace Go.Sw
open Go.RowKit
theorem Star.stCell {H0 H : Heap} {L : List It} (h : Star H0 H L) (i : Nat) {c : Nat} {cells : List Value} {e : Nat} (hi : L[i]? = some (itBlk c ⟨cells, e, false⟩)) (off : Nat) {v : Value} (hs : storable v = true) (hc : v.cells = #[v]) (ho : off < cells.length) :
  ∃ H', stR 1 (.pointer (some ⟨c, off, none⟩)) v H = .ok undef H' ∧ Star H0 H' (L.set i (itBlk c ⟨cells.set off v, e, false⟩)) ∧ H'.n = H.n := by
 have hg := h.get i hi
 have hsp : splice cells off [v] = cells.set off v := by
  unfold splice
  rw [List.set_eq_take_append_cons_drop, if_pos ho]
  rfl
 refine ⟨H.set c (some ⟨cells.set off v, e, false⟩), ?_, h.step i hi (by simp) (fun d _ hd => ?_) _ ?_ fun b hb => .inl hb, by simp⟩
 ·simp [hs, hc, hg, hsp]
  rw [if_pos (show off + 1 ≤ cells.length by omega)]
  rfl
 ·rw [get_set_ne]
  exact fun e => hd (show d ∈ [c] by simp [e])
 ·exact get_set_eq _ _ _ (by rw [hg]; rfl)
end Go.Sw
end
section
namespace Go.Sw
open Go.RowKit
section
variable (k : Nat) {H0 : Heap} {X : List It} {c r : Nat} {n : Int} {tab vR vE : Value} {rv ev : List Int} {w : Int}
 (hn : 0 ≤ n ∧ n ≤ 65535) (hw : w = 0 ∨ w = 1 ∨ w = 2) (hvR : Sl H0 1 vR encB rv) (hvE : Sl H0 1 vE encB ev) (hbR : Byt rv) (hbE : Byt ev) (hlR : rv.length < 2 ^ 31) (hlE : ev.length < 2 ^ 31)
 (hX : itBlk r ⟨[ptrV c, vR, vE, .int .i64 w], 1, false⟩ ∈ X)
include hn hvR hvE hbR hlR hX
end
section
variable (k : Nat) {H0 : Heap} {X : List It} {c r : Nat} {n : Int} {tab vR vE : Value} {rv ev : List Int} {w : Int}
 (hn : 0 ≤ n ∧ n ≤ 65535) (hw : w = 0 ∨ w = 1 ∨ w = 2) (hvR : Sl H0 1 vR encB rv) (hvE : Sl H0 1 vE encB ev) (hbR : Byt rv) (hbE : Byt ev) (hlR : rv.length < 2 ^ 31) (hlE : ev.length < 2 ^ 31)
 (hX : itBlk r ⟨[ptrV c, vR, vE, .int .i64 w], 1, false⟩ ∈ X)
include hw hvR hvE hbE hlE hX
end
section
variable (k : Nat) {H0 : Heap} {X : List It} {c r : Nat} {n : Int} {tab vR vE : Value} {rv ev : List Int} {w : Int}
 (hn : 0 ≤ n ∧ n ≤ 65535) (hw : w = 0 ∨ w = 1 ∨ w = 2) (hvR : Sl H0 1 vR encB rv) (hvE : Sl H0 1 vE encB ev) (hbR : Byt rv) (hbE : Byt ev) (hlR : rv.length < 2 ^ 31) (hlE : ev.length < 2 ^ 31)
 (hX : itBlk r ⟨[ptrV c, vR, vE, .int .i64 w], 1, false⟩ ∈ X)
include hn hw hvR hvE hbR hbE hlR hlE hX
end
end Go.Sw
end
section
namespace Go.Sw
open Go.RowKit
theorem restS_len {b r : List Int} {i : Int} (h : restS b i = some r) : r.length ≤ b.length := by
 unfold restS at h
 split at h
 ·injection h with h
  subst h
  simp
 ·cases h
end Go.Sw
end
section
set_option maxRecDepth 100000
set_option linter.unusedVariables false
namespace Go.Sw
noncomputable section
def pair_Read (k : Nat) (call : Caller) (a0 a1 a2 : Value) (h : Heap) : Res Value :=
 (boxR a0 h).bind fun v1 h2 =>
 (boxR a2 h2).bind fun v3 h4 =>
 (allocR Prog 160 h4).bind fun v5 h6 =>
 (loadR Prog 3 v3 h6).bind fun v7 h8 =>
 (binR Prog .lss 3 v7 (.int .i64 1) h8).bind fun v9 h10 =>
 ((bif wantVal v9 false then loadR Prog 3 v3 h10 else Res.ok undef h10)).bind fun v11 h12 =>
 ((bif wantVal v9 false then binR Prog .gtr 3 v11 (.int .i64 65535) h12 else Res.ok undef h12)).bind fun v13 h14 =>
 (condV (some v9) (Res.ok (.bool true) h14) (Res.ok v13 h14)).bind fun v15 h16 =>
 ((bif wantVal v15 false then loadR Prog 3 v1 h16 else Res.ok undef h16)).bind fun v17 h18 =>
 ((bif wantVal v15 false then binR Prog .neq 3 v17 (.int .i64 0) h18 else Res.ok undef h18)).bind fun v19 h20 =>
 ((bif wantVal v15 false then Res.ok v19 h20 else Res.ok undef h20)).bind fun v21 h22 =>
 ((bif wantVal v21 true then loadR Prog 3 v1 h22 else Res.ok undef h22)).bind fun v23 h24 =>
 ((bif wantVal v21 true then binR Prog .neq 3 v23 (.int .i64 2) h24 else Res.ok undef h24)).bind fun v25 h26 =>
 ((bif wantVal v15 false then condV (some v21) (Res.ok v25 h26) (Res.ok (.bool false) h26) else Res.ok undef h26)).bind fun v27 h28 =>
 ((bif wantVal v15 false then Res.ok v27 h28 else Res.ok undef h28)).bind fun v29 h30 =>
 ((bif wantVal v29 true then loadR Prog 3 v1 h30 else Res.ok undef h30)).bind fun v31 h32 =>
 ((bif wantVal v29 true then binR Prog .neq 3 v31 (.int .i64 6) h32 else Res.ok undef h32)).bind fun v33 h34 =>
 ((bif wantVal v15 false then condV (some v29) (Res.ok v33 h34) (Res.ok (.bool false) h34) else Res.ok undef h34)).bind fun v35 h36 =>
 (condV (some v15) (Res.ok (.bool true) h36) (Res.ok v35 h36)).bind fun v37 h38 =>
 condV (some v37) (
 (storeR Prog 160 v5 (.pointer none) h38).bind fun _v39 h40 =>
 (loadR Prog 160 v5 h40).bind fun v41 h42 =>
 .ok (.tuple #[v41, (.int .i64 1)]) h42)
 (
 (call F.view_Of [a1] h38).bind fun v43 h44 =>
 (call F.view_View_Bytes [v43] h44).bind fun v45 h46 =>
 (call F.view_Of [v45] h46).bind fun v47 h48 =>
 (allocR Prog 83 h48).bind fun v49 h50 =>
 (storeR Prog 83 v49 v47 h50).bind fun _v51 h52 =>
 (call F.view_Try [(.func (.func F.pair_Read_in1) #[] #[v1, v49, v3, v5])] h52).bind fun v53 h54 =>
 (unR .not v53 h54).bind fun v55 h56 =>
 condV (some v55) (
 (storeR Prog 160 v5 (.pointer none) h56).bind fun _v57 h58 =>
 (loadR Prog 160 v5 h58).bind fun v59 h60 =>
 .ok (.tuple #[v59, (.int .i64 2)]) h60)
 (
 (loadR Prog 160 v5 h56).bind fun v61 h62 =>
 (storeR Prog 160 v5 v61 h62).bind fun _v63 h64 =>
 (loadR Prog 160 v5 h64).bind fun v65 h66 =>
 .ok (.tuple #[v65, (.int .i64 0)]) h66))
theorem pair_Read_R (k : Nat) (a0 a1 a2 : Value) (h : Heap) : R (T k) F.pair_Read [a0, a1, a2] h = nrm .fz h (pair_Read k (R (T k)) a0 a1 a2 h) :=
 (R_body (t := T k) (T_scott k) (by kernel_rfl) (by kernel_rfl) _ _).trans (by kernel_rfl)
def pair_Table_Get (k : Nat) (call : Caller) (a0 a1 a2 : Value) (h : Heap) : Res Value :=
 (nilR a0 h).bind fun v1 h2 =>
 (fieldAddrR Prog 273 v1 2 h2).bind fun v3 h4 =>
 (loadR Prog 68 v3 h4).bind fun v5 h6 =>
 (binR Prog .eql 68 v5 (.pointer none) h6).bind fun v7 h8 =>
 condV (some v7) (
 (binR Prog .lss 3 a1 (.int .i64 0) h8).bind fun v9 h10 =>
 ((bif wantVal v9 false then Res.ok a1 h10 else Res.ok undef h10)).bind fun v11 h12 =>
 ((bif wantVal v9 false then binR Prog .gtr 3 v11 (.int .i64 65535) h12 else Res.ok undef h12)).bind fun v13 h14 =>
 (condV (some v9) (Res.ok (.bool true) h14) (Res.ok v13 h14)).bind fun v15 h16 =>
 ((bif wantVal v15 false then Res.ok a2 h16 else Res.ok undef h16)).bind fun v17 h18 =>
 ((bif wantVal v15 false then binR Prog .lss 3 v17 (.int .i64 0) h18 else Res.ok undef h18)).bind fun v19 h20 =>
 (condV (some v15) (Res.ok (.bool true) h20) (Res.ok v19 h20)).bind fun v21 h22 =>
 ((bif wantVal v21 false then Res.ok a2 h22 else Res.ok undef h22)).bind fun v23 h24 =>
 ((bif wantVal v21 false then binR Prog .gtr 3 v23 (.int .i64 65535) h24 else Res.ok undef h24)).bind fun v25 h26 =>
 (condV (some v21) (Res.ok (.bool true) h26) (Res.ok v25 h26)).bind fun v27 h28 =>
 condV (some v27) (
 .ok (.int .i64 0) h28)
 (
 (nilR a0 h28).bind fun v29 h30 =>
 (fieldAddrR Prog 273 v29 0 h30).bind fun v31 h32 =>
 (loadR Prog 28 v31 h32).bind fun v33 h34 =>
 (binR Prog .shl 3 a1 (.int .u64 16) h34).bind fun v35 h36 =>
 (binR Prog .or 3 v35 a2 h36).bind fun v37 h38 =>
 (call F.seek_Place [v33, v37] h38).bind fun v39 h40 =>
 (extractR v39 0 h40).bind fun v41 h42 =>
 (extractR v39 1 h42).bind fun v43 h44 =>
 (unR .not v43 h44).bind fun v45 h46 =>
 condV (some v45) (
 .ok (.int .i64 0) h46)
 (
 (binR Prog .mul 3 (.int .i64 6) v41 h46).bind fun v47 h48 =>
 (binR Prog .add 3 v47 (.int .i64 4) h48).bind fun v49 h50 =>
 (call F.pair_Table_value [a0, v49] h50).bind fun v51 h52 =>
 .ok v51 h52)))
 (
 (nilR a0 h8).bind fun v53 h54 =>
 (fieldAddrR Prog 273 v53 2 h54).bind fun v55 h56 =>
 (loadR Prog 68 v55 h56).bind fun v57 h58 =>
 (call F.lookup_Table_Get [v57, a1] h58).bind fun v59 h60 =>
 (extractR v59 0 h60).bind fun v61 h62 =>
 (extractR v59 1 h62).bind fun v63 h64 =>
 (nilR a0 h64).bind fun v65 h66 =>
 (fieldAddrR Prog 273 v65 3 h66).bind fun v67 h68 =>
 (loadR Prog 68 v67 h68).bind fun v69 h70 =>
 (call F.lookup_Table_Get [v69, a2] h70).bind fun v71 h72 =>
 (extractR v71 0 h72).bind fun v73 h74 =>
 (extractR v71 1 h74).bind fun v75 h76 =>
 (nilR a0 h76).bind fun v77 h78 =>
 (fieldAddrR Prog 273 v77 4 h78).bind fun v79 h80 =>
 (loadR Prog 3 v79 h80).bind fun v81 h82 =>
 (binR Prog .add 3 v61 v73 h82).bind fun v83 h84 =>
 (binR Prog .mul 3 v81 v83 h84).bind fun v85 h86 =>
 (call F.pair_Table_value [a0, v85] h86).bind fun v87 h88 =>
 .ok v87 h88)
theorem pair_Table_Get_R (k : Nat) (a0 a1 a2 : Value) (h : Heap) : R (T k) F.pair_Table_Get [a0, a1, a2] h = nrm .gc h (pair_Table_Get k (R (T k)) a0 a1 a2 h) :=
 (R_body (t := T k) (T_scott k) (by kernel_rfl) (by kernel_rfl) _ _).trans (by kernel_rfl)
def pair_Take (k : Nat) (call : Caller) (a0 a1 a2 : Value) (h : Heap) : Res Value :=
 (boxR a1 h).bind fun v1 h2 =>
 (binR Prog .eql 3 a0 (.int .i64 0) h2).bind fun v3 h4 =>
 condV (some v3) (
 (loadR Prog 83 v1 h4).bind fun v5 h6 =>
 (call F.pair_list [v5] h6).bind fun v7 h8 =>
 .ok v7 h8)
 (
 (binR Prog .eql 3 a0 (.int .i64 2) h4).bind fun v9 h10 =>
 condV (some v9) (
 (loadR Prog 83 v1 h10).bind fun v11 h12 =>
 (call F.pair_table [v11, (.int .i64 4), a2, (.int .i64 2), (.int .i64 1)] h12).bind fun v13 h14 =>
 .ok v13 h14)
 (
 (binR Prog .eql 3 a0 (.int .i64 6) h10).bind fun v15 h16 =>
 condV (some v15) (
 (loadR Prog 83 v1 h16).bind fun v17 h18 =>
 (call F.view_View_U32 [v17, (.int .i64 0)] h18).bind fun v19 h20 =>
 (binR Prog .and 3 v19 (.int .i64 1) h20).bind fun v21 h22 =>
 (binR Prog .eql 3 v21 (.int .i64 1) h22).bind fun v23 h24 =>
 condV (some v23) (
 (loadR Prog 83 v1 h24).bind fun v25 h26 =>
 (call F.pair_table [v25, (.int .i64 8), a2, (.int .i64 4), (.int .i64 4)] h26).bind fun v27 h28 =>
 .ok v27 h28)
 (
 (loadR Prog 83 v1 h24).bind fun v29 h30 =>
 (call F.pair_table [v29, (.int .i64 8), a2, (.int .i64 2), (.int .i64 2)] h30).bind fun v31 h32 =>
 .ok v31 h32))
 (
 (call F.view_Fail [] h16).bind fun v33 h34 =>
 .ok (.pointer none) h34)))
theorem pair_Take_R (k : Nat) (a0 a1 a2 : Value) (h : Heap) : R (T k) F.pair_Take [a0, a1, a2] h = nrm .fz h (pair_Take k (R (T k)) a0 a1 a2 h) :=
 (R_body (t := T k) (T_scott k) (by kernel_rfl) (by kernel_rfl) _ _).trans (by kernel_rfl)
def pair_Read_in1 (k : Nat) (call : Caller) (a0 a1 a2 a3 : Value) (h : Heap) : Res Value :=
 (loadR Prog 3 a0 h).bind fun v1 h2 =>
 (loadR Prog 83 a1 h2).bind fun v3 h4 =>
 (loadR Prog 3 a2 h4).bind fun v5 h6 =>
 (call F.pair_Take [v1, v3, v5] h6).bind fun v7 h8 =>
 (storeR Prog 160 a3 v7 h8).bind fun _v9 h10 =>
 .ok (.tuple #[]) h10
theorem pair_Read_in1_R (k : Nat) (a0 a1 a2 a3 : Value) (h : Heap) : R (T k) F.pair_Read_in1 [a0, a1, a2, a3] h = nrm .no h (pair_Read_in1 k (R (T k)) a0 a1 a2 a3 h) :=
 (R_body (t := T k) (T_scott k) (by kernel_rfl) (by kernel_rfl) _ _).trans (by kernel_rfl)
def pair_Table_value (k : Nat) (call : Caller) (a0 a1 : Value) (h : Heap) : Res Value :=
 (nilR a0 h).bind fun v1 h2 =>
 (fieldAddrR Prog 273 v1 5 h2).bind fun v3 h4 =>
 (loadR Prog 3 v3 h4).bind fun v5 h6 =>
 (binR Prog .eql 3 v5 (.int .i64 4) h6).bind fun v7 h8 =>
 condV (some v7) (
 (nilR a0 h8).bind fun v9 h10 =>
 (fieldAddrR Prog 273 v9 1 h10).bind fun v11 h12 =>
 (loadR Prog 83 v11 h12).bind fun v13 h14 =>
 (call F.view_View_I32 [v13, a1] h14).bind fun v15 h16 =>
 .ok v15 h16)
 (
 (nilR a0 h8).bind fun v17 h18 =>
 (fieldAddrR Prog 273 v17 1 h18).bind fun v19 h20 =>
 (loadR Prog 83 v19 h20).bind fun v21 h22 =>
 (call F.view_View_I16 [v21, a1] h22).bind fun v23 h24 =>
 .ok v23 h24)
theorem pair_Table_value_R (k : Nat) (a0 a1 : Value) (h : Heap) : R (T k) F.pair_Table_value [a0, a1] h = nrm .gc h (pair_Table_value k (R (T k)) a0 a1 h) :=
 (R_body (t := T k) (T_scott k) (by kernel_rfl) (by kernel_rfl) _ _).trans (by kernel_rfl)
def pair_list_l1 (k : Nat) (call : Caller) : Env → Heap → Res (AExit × Env) := loopB (C k) call F.pair_list [1, 1, 1, 1, 0, 1, 0, 0]
def pair_list_l1k (k : Nat) (call : Caller) : Kont Value := kBlock 0 (kSeq (pieceK (C k) call F.pair_list [1, 1, 1, 1, 1]) (kDone Prog (resOf Prog F.pair_list)))
def pair_list (k : Nat) (call : Caller) (a0 : Value) (h : Heap) : Res Value :=
 (boxR a0 h).bind fun v1 h2 =>
 (loadR Prog 83 v1 h2).bind fun v3 h4 =>
 (call F.view_View_U32 [v3, (.int .i64 0)] h4).bind fun v5 h6 =>
 (loadR Prog 83 v1 h6).bind fun v7 h8 =>
 (call F.view_View_Cut [v7, (.int .i64 0), (.int .i64 16)] h8).bind fun v9 h10 =>
 (loadR Prog 83 v1 h10).bind fun v11 h12 =>
 (call F.view_View_Rows [v11, (.int .i64 16), v5, (.int .i64 6)] h12).bind fun v13 h14 =>
 (buildR Prog 273 [(1, v13), (5, (.int .i64 2))] h14).bind fun v15 h16 =>
 (boxR v15 h16).bind fun v17 h18 =>
 (loopN (pair_list_l1 k call) loopFuel [(4, v17), (15, v5), (16, (.int .i64 0))] h18).bind fun r19 h20 =>
 pair_list_l1k k call r19.1 r19.2 h20
theorem pair_list_R (k : Nat) (a0 : Value) (h : Heap) : R (T k) F.pair_list [a0] h = nrm .fz h (pair_list k (R (T k)) a0 h) :=
 (R_body (t := T k) (T_scott k) (by kernel_rfl) (by kernel_rfl) _ _).trans (by kernel_rfl)
theorem pair_list_l1_eq (k : Nat) (call : Caller) (a4 a15 a16 : Value) (h : Heap) : pair_list_l1 k call [(4, a4), (15, a15), (16, a16)] h =
 (binR Prog .lss 3 a16 a15 h).bind fun v21 h22 =>
 condV (some v21) (
 (nilR a4 h22).bindN fun v23 h24 =>
 (fieldAddrR Prog 273 v23 0 h24).bindN fun v25 h26 =>
 (loadR Prog 28 v25 h26).bindN fun v27 h28 =>
 (nilR a4 h28).bindN fun v29 h30 =>
 (fieldAddrR Prog 273 v29 1 h30).bindN fun v31 h32 =>
 (loadR Prog 83 v31 h32).bindN fun v33 h34 =>
 (binR Prog .mul 3 (.int .i64 6) a16 h34).bindN fun v35 h36 =>
 (call F.view_View_U32 [v33, v35] h36).bindT (fun p39 h40 => .panic p39 h40) fun v37 h38 =>
 (buildSliceR Prog 28 1 [(0, v37)] h38).bindN fun v41 h42 =>
 (builtinV Prog .append [28, 28] [v27, v41] h42).bindN fun v43 h44 =>
 (nilR a4 h44).bindN fun v45 h46 =>
 (fieldAddrR Prog 273 v45 0 h46).bindN fun v47 h48 =>
 (storeR Prog 28 v47 v43 h48).bindN fun _v49 h50 =>
 chkR ((okVal (loadR Prog 28 v25 h38) v27 && (okVal (loadR Prog 28 v25 h42) v27 && true)) && true) (
 (binR Prog .eql 3 a16 (.int .i64 0) h50).bindN fun v51 h52 =>
 ((bif wantVal v51 false then Res.ok a4 h52 else Res.ok undef h52)).bindN fun v53 h54 =>
 ((bif wantVal v51 false then nilR v53 h54 else Res.ok undef h54)).bindN fun v55 h56 =>
 ((bif wantVal v51 false then fieldAddrR Prog 273 v55 0 h56 else Res.ok undef h56)).bindN fun v57 h58 =>
 ((bif wantVal v51 false then loadR Prog 28 v57 h58 else Res.ok undef h58)).bindN fun v59 h60 =>
 ((bif wantVal v51 false then Res.ok a16 h60 else Res.ok undef h60)).bindN fun v61 h62 =>
 ((bif wantVal v51 false then binR Prog .sub 3 v61 (.int .i64 1) h62 else Res.ok undef h62)).bindN fun v63 h64 =>
 ((bif wantVal v51 false then indexAddrR Prog 28 v59 v63 h64 else Res.ok undef h64)).bindN fun v65 h66 =>
 ((bif wantVal v51 false then loadR Prog 3 v65 h66 else Res.ok undef h66)).bindN fun v67 h68 =>
 ((bif wantVal v51 false then Res.ok a4 h68 else Res.ok undef h68)).bindN fun v69 h70 =>
 ((bif wantVal v51 false then nilR v69 h70 else Res.ok undef h70)).bindN fun v71 h72 =>
 ((bif wantVal v51 false then fieldAddrR Prog 273 v71 0 h72 else Res.ok undef h72)).bindN fun v73 h74 =>
 ((bif wantVal v51 false then loadR Prog 28 v73 h74 else Res.ok undef h74)).bindN fun v75 h76 =>
 ((bif wantVal v51 false then Res.ok a16 h76 else Res.ok undef h76)).bindN fun v77 h78 =>
 ((bif wantVal v51 false then indexAddrR Prog 28 v75 v77 h78 else Res.ok undef h78)).bindN fun v79 h80 =>
 ((bif wantVal v51 false then loadR Prog 3 v79 h80 else Res.ok undef h80)).bindN fun v81 h82 =>
 ((bif wantVal v51 false then binR Prog .lss 3 v67 v81 h82 else Res.ok undef h82)).bindN fun v83 h84 =>
 (condV (some v51) (Res.ok (.bool true) h84) (Res.ok v83 h84)).bindN fun v85 h86 =>
 (call F.view_Need [v85] h86).bindT (fun p89 h90 => .panic p89 h90) fun v87 h88 =>
 (binR Prog .add 3 a16 (.int .i64 1) h88).bind fun v91 h92 =>
 .ok (.normal, [(4, a4), (15, a15), (16, v91)]) h92))
 (
 .ok ((.exit 0), [(4, a4), (15, a15), (16, a16), (17, v21)]) h22) :=
 (loopB_eq _ _).trans (by kernel_rfl)
theorem pair_list_l1k_x0 (k : Nat) (call : Caller) (a4 a15 a16 a17 : Value) (h : Heap) : pair_list_l1k k call (.exit 0) [(4, a4), (15, a15), (16, a16), (17, a17)] h =
 .ok a4 h := by kernel_rfl
def pair_table (k : Nat) (call : Caller) (a0 a1 a2 a3 a4 : Value) (h : Heap) : Res Value :=
 (boxR a0 h).bind fun v1 h2 =>
 (buildR Prog 273 [(4, a4), (5, a3)] h2).bind fun v3 h4 =>
 (boxR v3 h4).bind fun v5 h6 =>
 (loadR Prog 83 v1 h6).bindN fun v7 h8 =>
 (loadR Prog 83 v1 h8).bindN fun v9 h10 =>
 (call F.view_View_U32 [v9, a1] h10).bindT (fun p13 h14 => .panic p13 h14) fun v11 h12 =>
 (call F.view_View_Rest [v7, v11] h12).bindT (fun p17 h18 => chkR ((okVal (loadR Prog 83 v1 h12) v7 && true) && true) (.panic p17 h18)) fun v15 h16 =>
 (call F.lookup_Take [v15, a2, a3] h16).bindT (fun p21 h22 => chkR ((okVal (loadR Prog 83 v1 h12) v7 && true) && true) (.panic p21 h22)) fun v19 h20 =>
 (nilR v5 h20).bindN fun v23 h24 =>
 (fieldAddrR Prog 273 v23 2 h24).bindN fun v25 h26 =>
 (storeR Prog 68 v25 v19 h26).bindN fun _v27 h28 =>
 chkR ((okVal (loadR Prog 83 v1 h12) v7 && true) && true) (
 (loadR Prog 83 v1 h28).bindN fun v29 h30 =>
 (loadR Prog 83 v1 h30).bindN fun v31 h32 =>
 (binR Prog .add 3 a1 (.int .i64 4) h32).bindN fun v33 h34 =>
 (call F.view_View_U32 [v31, v33] h34).bindT (fun p37 h38 => .panic p37 h38) fun v35 h36 =>
 (call F.view_View_Rest [v29, v35] h36).bindT (fun p41 h42 => chkR ((okVal (loadR Prog 83 v1 h36) v29 && true) && true) (.panic p41 h42)) fun v39 h40 =>
 (call F.lookup_Take [v39, a2, a3] h40).bindT (fun p45 h46 => chkR ((okVal (loadR Prog 83 v1 h36) v29 && true) && true) (.panic p45 h46)) fun v43 h44 =>
 (nilR v5 h44).bindN fun v47 h48 =>
 (fieldAddrR Prog 273 v47 3 h48).bindN fun v49 h50 =>
 (storeR Prog 68 v49 v43 h50).bindN fun _v51 h52 =>
 chkR ((okVal (loadR Prog 83 v1 h36) v29 && true) && true) (
 (loadR Prog 83 v1 h52).bindN fun v53 h54 =>
 (loadR Prog 83 v1 h54).bindN fun v55 h56 =>
 (binR Prog .add 3 a1 (.int .i64 8) h56).bindN fun v57 h58 =>
 (call F.view_View_U32 [v55, v57] h58).bindT (fun p61 h62 => .panic p61 h62) fun v59 h60 =>
 (call F.view_View_Rest [v53, v59] h60).bindT (fun p65 h66 => chkR ((okVal (loadR Prog 83 v1 h60) v53 && true) && true) (.panic p65 h66)) fun v63 h64 =>
 (nilR v5 h64).bindN fun v67 h68 =>
 (fieldAddrR Prog 273 v67 1 h68).bindN fun v69 h70 =>
 (storeR Prog 83 v69 v63 h70).bindN fun _v71 h72 =>
 chkR ((okVal (loadR Prog 83 v1 h60) v53 && true) && true) (
 (nilR v5 h72).bindN fun v73 h74 =>
 (fieldAddrR Prog 273 v73 2 h74).bindN fun v75 h76 =>
 (loadR Prog 68 v75 h76).bindN fun v77 h78 =>
 (call F.lookup_Table_Most [v77] h78).bindT (fun p81 h82 => (nilR v5 h78).bindN fun v83 h84 => (fieldAddrR Prog 273 v83 3 h84).bindN fun v85 h86 => (loadR Prog 68 v85 h86).bindN fun v87 h88 => chkR ((okVal (loadR Prog 68 v85 h72) v87 && true) && true) (.panic p81 h82)) fun v79 h80 =>
 (builtinV Prog .max [3, 3] [v79, (.int .i64 0)] h80).bindN fun v89 h90 =>
 (nilR v5 h90).bindN fun v91 h92 =>
 (fieldAddrR Prog 273 v91 3 h92).bindN fun v93 h94 =>
 (loadR Prog 68 v93 h94).bindN fun v95 h96 =>
 (call F.lookup_Table_Most [v95] h96).bindT (fun p99 h100 => chkR ((okVal (loadR Prog 68 v93 h72) v95 && true) && true) (.panic p99 h100)) fun v97 h98 =>
 (builtinV Prog .max [3, 3] [v97, (.int .i64 0)] h98).bindN fun v101 h102 =>
 (binR Prog .add 3 v89 v101 h102).bindN fun v103 h104 =>
 chkR ((okVal (loadR Prog 68 v93 h72) v95 && true) && true) (
 (nilR v5 h104).bind fun v105 h106 =>
 (fieldAddrR Prog 273 v105 1 h106).bind fun v107 h108 =>
 (loadR Prog 83 v107 h108).bind fun v109 h110 =>
 (binR Prog .mul 3 a4 v103 h110).bind fun v111 h112 =>
 (call F.view_View_Cut [v109, v111, a3] h112).bind fun v113 h114 =>
 .ok v5 h114))))
theorem pair_table_R (k : Nat) (a0 a1 a2 a3 a4 : Value) (h : Heap) : R (T k) F.pair_table [a0, a1, a2, a3, a4] h = nrm .fz h (pair_table k (R (T k)) a0 a1 a2 a3 a4 h) :=
 (R_body (t := T k) (T_scott k) (by kernel_rfl) (by kernel_rfl) _ _).trans (by kernel_rfl)
end
end Go.Sw
end
