/-
  Lookups: parts by rows; the table.
-/
import Derived.Test.YtnaodjnimkndbaaSwLookB
namespace Go.Sw
open Go.RowKit

set_option maxHeartbeats 1000000 in
theorem seg_step (k : Nat) {H H' : Heap} {v : Value} {b : List Int} (hv : Sl H 1 v encB b) (hb : Byt b) (g : Value) (z : Int) (hz : z = 2 ∨ z = 4) (each : Bool) (hl : b.length < 2 ^ 31)
    (us : List Value) (n i : Nat) (row : List Int) (u : Value) (acc : List Pt) (s : Value) (hi : i < n) (hn31 : n < 2 ^ 31) (hu : us[i]? = some u) (hn : acc.length < 2 ^ 31) (ho : PtsOwn H H' s acc) (hx' : Ext H H') (hg : H'.get H.n = some ⟨[v, g, .int .i64 z], 1, false⟩)
    (hsu : Sl H' 1 u encB row) (hrb : Byt row) (hrl : row.length < 65536) (hr4 : each = false → 4 + z ≤ row.length) :
    Cp failV (Ext H) (lookup_reader_segments_l1 k (R (T k)) [(1, .bool each), (2, .pointer (some ⟨H.n, 0, none⟩)), (6, s), (17, lv encW us), (18, .int .i64 n), (19, .int .i64 i)] H') (segP b z each row)
      fun y xe H' => xe.1 = .normal ∧ ∃ s, xe.2 = [(1, .bool each), (2, .pointer (some ⟨H.n, 0, none⟩)), (6, s), (17, lv encW us), (18, .int .i64 n), (19, .int .i64 (i + 1 : Nat))] ∧ PtsOwn H H' s (acc ++ [y]) ∧ H'.get H.n = some ⟨[v, g, .int .i64 z], 1, false⟩ := by
  have hlt : (i : Int) < n := by omega
  have hqv := rd_vw hv
  have hgn : H.n < H'.n := Heap.get_lt hg
  have hne : ¬ H.n = H'.n := by omega
  have hne1 : ¬ H.n = H'.n + 1 := by omega
  have hx1 : Ext H' (H'.push ⟨[u], 1, false⟩) := (Ext.refl H').push _
  have hst := hsu.storable
  have hce := hsu.cells
  have hqu := rd_vw hsu
  have hqa : veq (.agg #[u]) (.agg #[u]) = true := veq_agg (l := [u]) fun w hw => by simp at hw; subst hw; exact hqu
  have hqb : veq (.agg #[v]) (.agg #[v]) = true := veq_agg (l := [v]) fun w hw => by simp at hw; subst hw; exact hqv
  rw [lookup_reader_segments_l1_eq]
  simp -implicitDefEqProofs (disch := omega) [hlt, ixS_lvN encW_len us .i64 i u hu]
  unfold segP
  refine Cp.callT (U16_run k (hsu.up hx1) hrb 2 (by omega)) (fun _ => ⟨_, by simp -implicitDefEqProofs (disch := omega) [hqa], hx'.trans hx1⟩) fun f hf => ?_
  have hf := uS_two hrb hf
  simp -implicitDefEqProofs (disch := omega)
  refine Cp.callT (U16_run k (hsu.up hx1) hrb 0 (by omega)) (fun _ => ⟨_, by simp -implicitDefEqProofs (disch := omega) [hqa], hx'.trans hx1⟩) fun l hl' => ?_
  have hl' := uS_two hrb hl'
  simp -implicitDefEqProofs (disch := omega) [hqa]
  have hx2 : Ext H' ((H'.push ⟨[u], 1, false⟩).push ⟨[.int .i64 f, .int .i64 l, .slice none 0 0], 1, false⟩) := hx1.push _
  refine Cp.need (hx'.trans hx2) fun hfl => ?_
  cases each with
  | true =>
    simp -implicitDefEqProofs (disch := omega) [hg, hne, hne1]
    refine Cp.callT (U16_run k (hsu.up hx2) hrb 4 (by omega)) (fun _ => ⟨_, by simp -implicitDefEqProofs (disch := omega) [hg, hne, hne1], hx'.trans hx2⟩) fun at4 hat => ?_
    have hat := uS_two hrb hat
    simp -implicitDefEqProofs (disch := omega) [hg, hne, hne1]
    refine Cp.callTM (list_run k (hv.up (hx'.trans hx2)) hb at4 (l - f + 1) z (by omega) hl) (fun _ => ⟨_, by simp -implicitDefEqProofs (disch := omega) [hqb, hg, hne, hne1], hx'.trans hx2⟩) fun vs hvs => ?_
    have hx3 : Ext H' ((H'.push ⟨[u], 1, false⟩).push ⟨[.int .i64 f, .int .i64 l, lv encI vs], 1, false⟩) := hx1.push _
    obtain ⟨s', H2, e1, e2, e3, e4⟩ := (ho.keep hx3).push (hx'.trans hx3) ⟨f, l, vs⟩ (lv encI vs) (.inl rfl) (by omega)
    simp at e1
    simp -implicitDefEqProofs (disch := omega) [hqb, hg, hne, hne1, lookup_reader_segments_j3_eq, e1]
    exact .ok e3 ⟨rfl, s', rfl, e2, e4 _ _ (hx3.get hg) (by simp)⟩
  | false =>
    simp -implicitDefEqProofs (disch := omega) [hg, hne, hne1]
    refine Cp.callM (number_run k (hsu.up hx2) hrb 4 z (by omega) (by omega)) (hx'.trans hx2) fun n hn => ?_
    have hx3 : Ext H' (((H'.push ⟨[u], 1, false⟩).push ⟨[.int .i64 f, .int .i64 l, .slice (some ⟨H'.n + 2, 0, none⟩) 1 1], 1, false⟩).push ⟨[.int .i64 n], 1, false⟩) := (hx1.push _).push _
    obtain ⟨s', H2, e1, e2, e3, e4⟩ := (ho.keep hx3).push (hx'.trans hx3) ⟨f, l, [n]⟩ (.slice (some ⟨H'.n + 2, 0, none⟩) 1 1) (.inr ⟨H'.n + 2, rfl, by omega, by rw [get_push_eq _ _ _ (by simp)]; rfl⟩) (by omega)
    simp at e1
    simp -implicitDefEqProofs (disch := omega) [lookup_reader_segments_j3_eq, e1]
    exact .ok e3 ⟨rfl, s', rfl, e2, e4 _ _ (hx3.get hg) (by simp)⟩

theorem segments_run (k : Nat) {H : Heap} {v : Value} {b : List Int} (hv : Sl H 1 v encB b) (hb : Byt b) (g : Value) (z : Int) (hz : z = 2 ∨ z = 4) (each : Bool) (hl : b.length < 2 ^ 31) :
    R (T k) F.lookup_reader_segments [.agg #[v, g, .int .i64 z], .bool each] H = orF (segS b z each) (lv encPt) H := by
  rw [lookup_reader_segments_R]
  have hx : Ext H (H.push ⟨[v, g, .int .i64 z], 1, false⟩) := (Ext.refl H).push _
  have hqv := rd_vw hv
  refine fz_orF ?_ fun _ _ => (Flat.Pts _).alive
  unfold segS
  obtain ⟨need, hneed⟩ : ∃ need : Int, need = if each then 6 else 4 + z := ⟨_, rfl⟩
  have hnd : 6 ≤ need := by rw [hneed]; split <;> omega
  have hnd2 : each = false → need = 4 + z := fun h => by rw [hneed, h]; rfl
  rw [← hneed]
  have main : ∀ rows, takeS b 2 need 2 = some rows →
      Cp failV (Ext H) ((loopN (lookup_reader_segments_l1 k (R (T k))) loopFuel [(1, .bool each), (2, .pointer (some ⟨H.n, 0, none⟩)), (6, .slice none 0 0), (17, lv encW (cutV (rowsV v b 2) (rowZ b 2) rows.length)), (18, .int .i64 rows.length), (19, .int .i64 0)] (H.push ⟨[v, g, .int .i64 z], 1, false⟩)).bind fun r h => lookup_reader_segments_l1k k (R (T k)) r.1 r.2 h)
        (mapO (segP b z each) rows) fun b v H' => ∃ L, fzV H.n H' fzDepth v = some (lv encPt b, L) := by
    intro rows hrows
    obtain ⟨zr, nr, hz1, hn1, hneed, hlen, hrow⟩ := takeS_spec hb hrows
    have hnr := uS_two hb hn1
    have hzr := uS_two hb hz1
    have htk := fun H' (hx' : Ext H H') j row (hj : rows[j]? = some row) => takeS_row (hv.up hx') hrows hj
    have hll : (cutV (rowsV v b 2) (rowZ b 2) rows.length).length = rows.length := by simp
    generalize cutV (rowsV v b 2) (rowZ b 2) rows.length = us at htk hll
    refine Cp.bindL (Cp.mapLoop (segP b z each) rows
      (fun i acc e H' => ∃ s, e = [(1, .bool each), (2, .pointer (some ⟨H.n, 0, none⟩)), (6, s), (17, lv encW us), (18, .int .i64 rows.length), (19, .int .i64 i)] ∧ PtsOwn H H' s acc ∧ H'.get H.n = some ⟨[v, g, .int .i64 z], 1, false⟩)
      (fun acc x e H' => x = .exit 0 ∧ ∃ s, e = [(1, .bool each), (2, .pointer (some ⟨H.n, 0, none⟩)), (6, s), (17, lv encW us), (18, .int .i64 rows.length), (19, .int .i64 rows.length), (20, .bool false)] ∧ PtsOwn H H' s acc)
      (by omega) hx ⟨_, rfl, PtsOwn.nil _ _, get_push_eq _ _ _ rfl⟩ ?_ ?_) ?_
    · intro i row acc e H' hi ha hx' ⟨s, he, ho, hg⟩
      subst he
      have hilt := (List.getElem?_eq_some_iff.1 hi).1
      obtain ⟨u, hu, hsu⟩ := htk H' hx' i row hi
      have hrb := hrow row (List.mem_of_getElem? hi)
      exact seg_step k hv hb g z hz each hl us rows.length i row u acc s hilt (by omega) hu (by omega) ho hx' hg hsu hrb.1 (by omega) (fun h => by have := hnd2 h; omega)
    · intro acc e H' ha hx' ⟨s, he, ho, _⟩
      subst he
      refine ⟨.exit 0, _, H', ?_, by simp, hx', rfl, s, rfl, ho⟩
      rw [lookup_reader_segments_l1_eq]
      simp -implicitDefEqProofs
    · rintro acc ⟨x, e⟩ H' _ hx' ⟨rfl, s, rfl, ho⟩
      simp only [lookup_reader_segments_l1k_x0]
      exact .ok hx' (ho.freeze 5)
  cases each with
  | true =>
    simp -implicitDefEqProofs (disch := omega) [lookup_reader_segments, lookup_reader_segments_j1_eq]
    have : need = 6 := hneed
    subst this
    refine Cp.call (Take_run k (hv.up hx) hb 2 6 2 hl (by omega) (by omega) (by omega)) hx fun rows hrows => ?_
    have := main rows hrows
    simp -implicitDefEqProofs (disch := omega)
    simpa using this
  | false =>
    simp -implicitDefEqProofs (disch := omega) [lookup_reader_segments, lookup_reader_segments_j2_eq]
    have := hnd2 rfl
    subst this
    refine Cp.call (Take_run k (hv.up hx) hb 2 (4 + z) 2 hl (by omega) (by omega) (by omega)) hx fun rows hrows => ?_
    have := main rows hrows
    simp -implicitDefEqProofs (disch := omega)
    simpa using this
end Go.Sw
