/-
  Lookups: their parts, in a row, or by rows.
-/
import Derived.Test.YtnaodjnimkndbaaSwLookA
namespace Go.Sw
open Go.RowKit

abbrev encPt (p : Pt) : List Value := [.int .i64 p.first, .int .i64 p.last, lv encI p.vals]
theorem encPt_len (p : Pt) : (encPt p).length = 3 := rfl
theorem encPt_flats (l : List Pt) : ∀ p, p ∈ l → Flats (encPt p) := fun _ _ => .cons (.int _ _) (.cons (.int _ _) (.cons (Flat.I _) .nil))
theorem Flat.Pts (l : List Pt) : Flat (Go.Sw.lv encPt l) := .lv (encPt_flats l)
theorem encPt_still (l : List Pt) : ∀ p, p ∈ l → ∀ v, v ∈ encPt p → Still v := fun p _ v hv => by
  simp [encPt] at hv
  rcases hv with rfl | rfl | rfl <;> trivial

theorem rd_vw {H : Heap} {v : Value} {b : List Int} (hv : Sl H 1 v encB b) : Go.Sw.veq v v = true := hv.veq fun n _ u hu => by simp at hu; subst hu; simp

theorem trimmed_run (k : Nat) {H : Heap} {v : Value} {b : List Int} (hv : Sl H 1 v encB b) (hb : Byt b) (g z0 : Value) (i z : Int) (hz : z = 1 ∨ z = 2 ∨ z = 4) (hl : b.length < 2 ^ 31) (hi : 0 ≤ i ∧ i ≤ 4) :
    R (T k) F.lookup_reader_trimmed [.agg #[v, g, z0], .int .i64 i, .int .i64 z] H = orF (trimS b i z) (lv encPt) H := by
  rw [lookup_reader_trimmed_R]
  have hx : Ext H (H.push ⟨[v, g, z0], 1, false⟩) := (Ext.refl H).push _
  have hq := rd_vw hv
  have hqa : veq (.agg #[v]) (.agg #[v]) = true := veq_agg (l := [v]) fun u hu => by simp at hu; subst hu; exact hq
  refine fz_orF ?_ fun _ _ => (Flat.Pts _).alive
  simp -implicitDefEqProofs [lookup_reader_trimmed]
  unfold trimS
  refine Cp.callT (U16_run k (hv.up hx) hb i (by omega)) (fun _ => ⟨_, by simp -implicitDefEqProofs (disch := omega) [hqa], hx⟩) fun f hf => ?_
  have hf := uS_two hb hf
  simp -implicitDefEqProofs (disch := omega)
  refine Cp.callT (U16_run k (hv.up hx) hb (i + 2) (by omega)) (fun _ => ⟨_, by simp -implicitDefEqProofs (disch := omega) [hqa], hx⟩) fun n hn => ?_
  have hn := uS_two hb hn
  simp -implicitDefEqProofs (disch := omega) [hqa]
  refine Cp.need hx fun hfn => ?_
  simp -implicitDefEqProofs (disch := omega)
  refine Cp.callM (list_run k (hv.up hx) hb (i + 4) n z hz hl) hx fun vs hvs => ?_
  by_cases h0 : n = 0
  · subst h0
    simp -implicitDefEqProofs
    exact .ok hx ⟨_, rfl⟩
  · have h0' : (n == 0) = false := by simpa using h0
    simp -implicitDefEqProofs (disch := omega) [h0, h0']
    refine .ok (hx.push _) ?_
    exact Own.freeze (l := [⟨f, f + n - 1, vs⟩]) encPt_len (.inr ⟨H.n + 1, rfl, by omega, by rw [get_push_eq _ _ _ (by simp)]; rfl⟩) (encPt_still _) 6

def encPR (x : Pt × Value) : List Value := [.int .i64 x.1.first, .int .i64 x.1.last, x.2]
theorem encPR_len (x : Pt × Value) : (encPR x).length = 3 := rfl
/-- A part's numbers, told by value or in a block of one's own. -/
def InnerOk (H0 H : Heap) (x : Pt × Value) : Prop := x.2 = lv encI x.1.vals ∨ ∃ b, x.2 = .slice (some ⟨b, 0, none⟩) x.1.vals.length x.1.vals.length ∧ H0.n ≤ b ∧ H.get b = some ⟨rows encI x.1.vals, 1, false⟩
/-- Parts that a run has made. -/
def PtsOwn (H0 H : Heap) (s : Value) (ps : List Pt) : Prop := ∃ l : List (Pt × Value), l.map Prod.fst = ps ∧ Own H0 H 3 s encPR l ∧ ∀ x, x ∈ l → InnerOk H0 H x
theorem InnerOk.keep {H0 H H' : Heap} {x : Pt × Value} (h : InnerOk H0 H x) (hk : ∀ c k, H.get c = some k → k.esz ≠ 3 → H'.get c = some k) : InnerOk H0 H' x := by
  rcases h with h | ⟨b, h1, h2, h3⟩
  · exact .inl h
  · exact .inr ⟨b, h1, h2, hk b _ h3 (by simp)⟩
theorem InnerOk.fz {H0 H : Heap} {x : Pt × Value} (h : InnerOk H0 H x) (d : Nat) : ∃ L, mapF (fzV H0.n H (d + 2)) (encPR x) = some (encPt x.1, L) := by
  have h2 : ∃ L, fzV H0.n H (d + 2) x.2 = some (lv encI x.1.vals, L) := by
    rcases h with h | ⟨b, h1, h2, h3⟩
    · rw [h]; exact ⟨[], rfl⟩
    · exact Own.freeze encI_len (.inr ⟨b, h1, h2, h3⟩) (encI_still _) d
  obtain ⟨L, hL⟩ := h2
  exact ⟨_, mapF_cons (v := .int .i64 x.1.first) (u := .int .i64 x.1.first) (L1 := []) rfl (mapF_cons (v := .int .i64 x.1.last) (u := .int .i64 x.1.last) (L1 := []) rfl (mapF_cons hL (L2 := []) rfl))⟩
theorem PtsOwn.nil (H0 H : Heap) : PtsOwn H0 H (.slice none 0 0) [] := ⟨[], rfl, Own.nil _ _ _, fun x h => by simp at h⟩
theorem PtsOwn.keep {H0 H H' : Heap} {s : Value} {ps : List Pt} (h : PtsOwn H0 H s ps) (hx : Ext H H') : PtsOwn H0 H' s ps := by
  obtain ⟨l, h1, h2, h3⟩ := h
  exact ⟨l, h1, h2.up hx, fun x hm => (h3 x hm).keep fun c k hc _ => hx.get hc⟩
theorem PtsOwn.push {H0 H : Heap} {s : Value} {ps : List Pt} (h : PtsOwn H0 H s ps) (hx : Ext H0 H) (p : Pt) (u : Value) (hi : InnerOk H0 H (p, u)) (hl : ps.length < 2 ^ 31) :
    ∃ s' H', apR 3 40 s (.slice (some ⟨H.n, 0, none⟩) 1 1) (H.push ⟨[.int .i64 p.first, .int .i64 p.last, u], 3, false⟩) = .ok s' H' ∧ PtsOwn H0 H' s' (ps ++ [p]) ∧ Ext H0 H' ∧ ∀ c k, H.get c = some k → k.esz ≠ 3 → H'.get c = some k := by
  obtain ⟨l, h1, h2, h3⟩ := h
  subst h1
  obtain ⟨s', H', e1, e2, e3, e4⟩ := apR_own (bytes := 40) encPR_len (b := .slice (some ⟨H.n, 0, none⟩) 1 1) (l2 := [(p, u)]) (h2.up ((Ext.refl H).push ⟨encPR (p, u), 3, false⟩)) (hx.push _) rfl (by
    unfold firstV
    dsimp only
    rw [if_neg (by simp), cellsAt_eq, get_push_eq H ⟨encPR (p, u), 3, false⟩ H.n rfl]
    rfl) (by simp at hl ⊢; omega) (by decide)
  have hk : ∀ c k, H.get c = some k → k.esz ≠ 3 → H'.get c = some k := fun c k hc hne => by
    have hlt := Heap.get_lt hc
    rw [e4 c (by simp; omega) fun o n m hs => ?_]
    · rw [get_push_lt _ _ _ hlt]; exact hc
    · rcases h2 with ⟨_, h | h | h⟩ | ⟨b, h, _, hb⟩
      · rw [h] at hs; simp at hs
      · rw [h] at hs; simp [bareV] at hs
      · rw [h] at hs; simp [emptyV] at hs
      · rw [h] at hs
        simp at hs
        obtain ⟨⟨rfl, _⟩, _⟩ := hs
        rw [hb] at hc
        injection hc with hc
        subst hc
        exact hne rfl
  refine ⟨s', H', e1, ⟨l ++ [(p, u)], by simp, e2, fun x hm => ?_⟩, e3, hk⟩
  rcases List.mem_append.1 hm with hm | hm
  · exact (h3 x hm).keep hk
  · simp at hm
    subst hm
    exact hi.keep hk
theorem rows_fst (l : List (Pt × Value)) : rows (fun x : Pt × Value => encPt x.1) l = rows encPt (l.map Prod.fst) := by
  induction l with
  | nil => rfl
  | cons x l ih => rw [List.map_cons, rows_cons, rows_cons, ih]
theorem PtsOwn.freeze {H0 H : Heap} {s : Value} {ps : List Pt} (h : PtsOwn H0 H s ps) (d : Nat) : ∃ L, fzV H0.n H (d + 3) s = some (lv encPt ps, L) := by
  obtain ⟨l, h1, h2, h3⟩ := h
  subst h1
  obtain ⟨L, hL⟩ := h2.freezeG (enc' := fun x : Pt × Value => encPt x.1) encPR_len (d + 1) fun x hm => (h3 x hm).fz d
  refine ⟨L, hL.trans ?_⟩
  unfold lv
  rw [rows_fst]
  simp

/-- A row that was taken, as a slice. -/
theorem takeS_row {H : Heap} {v : Value} {b : List Int} (hv : Sl H 1 v encB b) {i need : Int} {keys : Nat} {rows : List (List Int)} (h : takeS b i need keys = some rows) {j : Nat} {row : List Int} (hj : rows[j]? = some row) :
    ∃ u, (cutV (rowsV v b i) (rowZ b i) rows.length)[j]? = some u ∧ Sl H 1 u encB row := by
  have hlt := (List.getElem?_eq_some_iff.1 hj).1
  refine ⟨_, cutV_get _ _ _ _ hlt, ?_⟩
  unfold takeS at h
  split at h
  · rename_i z n h1 h2
    split at h
    · rename_i hc
      obtain ⟨r, hr, rfl⟩ := Option.map_eq_some_iff.1 h
      have hn := rowsS_n hr
      have hrl : (r.length : Int) = n * z := pieceS_len (rowsS_piece hr)
      have hsl := pieceS_sl hv (rowsS_piece hr)
      obtain ⟨z, rfl⟩ := Int.eq_ofNat_of_zero_le hn.2.1
      obtain ⟨n, rfl⟩ := Int.eq_ofNat_of_zero_le hn.1
      have hrl : r.length = n * z := by exact_mod_cast hrl
      have e1 : rowsV v b i = subV 1 v (i + 10).toNat ((n : Int) * z).toNat := by unfold rowsV; rw [h1, h2]; rfl
      have e2 : rowZ b i = z := by unfold rowZ; rw [h1]; simp
      rw [e1, e2]
      simp only [Int.toNat_natCast] at hj hlt
      have hm : (cutRows r z n)[j]? = some row := by
        unfold endRows at hj
        split at hj
        · have hlt2 := (List.getElem?_eq_some_iff.1 hj).1
          simp at hlt2
          rw [cutRows_get _ _ _ _ hlt2] at hj
          rw [cutRows_get _ _ _ _ (by omega)]
          exact hj
        · exact hj
      have hlt2 := (List.getElem?_eq_some_iff.1 hm).1
      simp at hlt2
      rw [cutRows_get _ _ _ _ hlt2] at hm
      injection hm with hm
      subst hm
      exact cutV_sl hsl z n j hrl hlt2
    · cases h
  · cases h

theorem single_run (k : Nat) {H : Heap} {v : Value} {b : List Int} (hv : Sl H 1 v encB b) (hb : Byt b) (g : Value) (z : Int) (hz : z = 2 ∨ z = 4) (hl : b.length < 2 ^ 31) :
    R (T k) F.lookup_reader_single [.agg #[v, g, .int .i64 z]] H = orF (oneS b z) (lv encPt) H := by
  rw [lookup_reader_single_R]
  have hx : Ext H (H.push ⟨[v, g, .int .i64 z], 1, false⟩) := (Ext.refl H).push _
  refine fz_orF ?_ fun _ _ => (Flat.Pts _).alive
  simp -implicitDefEqProofs (disch := omega) [lookup_reader_single]
  unfold oneS
  refine Cp.call (Take_run k (hv.up hx) hb 2 (2 + z) 1 hl (by omega) (by omega) (by omega)) hx fun rows hrows => ?_
  obtain ⟨zr, nr, hz1, hn1, hneed, hlen, hrow⟩ := takeS_spec hb hrows
  have hnr := uS_two hb hn1
  have hzr := uS_two hb hz1
  have htk := fun H' (hx' : Ext H H') j row (hj : rows[j]? = some row) => takeS_row (hv.up hx') hrows hj
  have hll : (cutV (rowsV v b 2) (rowZ b 2) rows.length).length = rows.length := by simp
  generalize cutV (rowsV v b 2) (rowZ b 2) rows.length = us at htk hll
  simp -implicitDefEqProofs (disch := omega) [hll]
  refine Cp.bindL (Cp.mapLoop (oneP z) rows
    (fun i acc e H' => ∃ s, e = [(1, .pointer (some ⟨H.n, 0, none⟩)), (3, s), (12, lv encW us), (13, .int .i64 rows.length), (14, .int .i64 i)] ∧ PtsOwn H H' s acc ∧ H'.get H.n = some ⟨[v, g, .int .i64 z], 1, false⟩)
    (fun acc x e H' => x = .exit 0 ∧ ∃ s, e = [(1, .pointer (some ⟨H.n, 0, none⟩)), (3, s), (12, lv encW us), (13, .int .i64 rows.length), (14, .int .i64 rows.length), (15, .bool false)] ∧ PtsOwn H H' s acc)
    (by omega) hx ⟨_, rfl, PtsOwn.nil _ _, get_push_eq _ _ _ rfl⟩ ?_ ?_) ?_
  · intro i row acc e H' hi ha hx' ⟨s, he, ho, hg⟩
    subst he
    have hilt := (List.getElem?_eq_some_iff.1 hi).1
    have hlt : (i : Int) < rows.length := by omega
    obtain ⟨u, hu, hsu⟩ := htk H' hx' i row hi
    have hrb := hrow row (List.mem_of_getElem? hi)
    have hgn : H.n < H'.n := Heap.get_lt hg
    have hne : ¬ H.n = H'.n := by omega
    have hx1 : Ext H' (H'.push ⟨[u], 1, false⟩) := (Ext.refl H').push _
    have hst := hsu.storable
    have hce := hsu.cells
    rw [lookup_reader_single_l1_eq]
    simp -implicitDefEqProofs (disch := omega) [hlt, ixS_lvN encW_len us .i64 i u hu]
    unfold oneP
    refine Cp.call (U16_run k (hsu.up hx1) hrb.1 0 (by omega)) (hx'.trans hx1) fun id hid => ?_
    simp -implicitDefEqProofs (disch := omega) [hg, hne]
    refine Cp.callM (number_run k (hsu.up hx1) hrb.1 2 z (by omega) (by omega)) (hx'.trans hx1) fun n hn => ?_
    have hx2 : Ext H' ((H'.push ⟨[u], 1, false⟩).push ⟨[.int .i64 n], 1, false⟩) := hx1.push _
    obtain ⟨s', H2, e1, e2, e3, e4⟩ := (ho.keep hx2).push (hx'.trans hx2) ⟨id, id, [n]⟩ (.slice (some ⟨H'.n + 1, 0, none⟩) 1 1) (.inr ⟨H'.n + 1, rfl, by omega, by rw [get_push_eq _ _ _ (by simp)]; rfl⟩) (by omega)
    simp at e1
    simp -implicitDefEqProofs (disch := omega) [e1]
    exact .ok e3 ⟨rfl, s', rfl, e2, e4 _ _ (hx2.get hg) (by simp)⟩
  · intro acc e H' ha hx' ⟨s, he, ho, _⟩
    subst he
    refine ⟨.exit 0, _, H', ?_, by simp, hx', rfl, s, rfl, ho⟩
    rw [lookup_reader_single_l1_eq]
    simp -implicitDefEqProofs
  · rintro acc ⟨x, e⟩ H' _ hx' ⟨rfl, s, rfl, ho⟩
    simp only [lookup_reader_single_l1k_x0]
    exact .ok hx' (ho.freeze 5)
end Go.Sw
