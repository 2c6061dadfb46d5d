/-
  Lines.
-/
import Derived.Test.YtnaodjnimkndbaaSwMisc
import Derived.Test.YtnaodjnimkndbaaSwGline
import Derived.Test.YtnaodjnimkndbaaSwGslices
import Derived.Test.YtnaodjnimkndbaaSwGswashref11
import Derived.Test.YtnaodjnimkndbaaSwLib8
namespace Go.Sw
open Go.RowKit

/-- A glyph. -/
structure Gl where
  id : Int
  cl : Int
deriving DecidableEq
abbrev encG (g : Gl) : List Value := [.int .i64 g.id, .int .i64 g.cl]
theorem encG_len (g : Gl) : (encG g).length = 2 := rfl
theorem encG_still (l : List Gl) : ∀ p, p ∈ l → ∀ v, v ∈ encG p → Still v := fun p _ v hv => by
  simp [encG] at hv
  rcases hv with rfl | rfl <;> trivial
theorem Flat.Gls (l : List Gl) : Flat (Go.Sw.lv encG l) := .lv fun p _ => .cons (.int _ _) (.cons (.int _ _) .nil)
/-- A line: a block of its own that leads to a row of its own. -/
abbrev itLine (c : Nat) (o : Option Nat) (l : List Gl) : It := itBox c [] o 2 encG l
abbrev ptrV (c : Nat) : Value := .pointer (some ⟨c, 0, none⟩)

theorem cloneG_R (k : Nat) {v s : Value} {H H' : Heap} (h : cloneV 2 16 [v] H = .ok s H') : R (T k) F.slices_Clone_of_api_Glyph_api_Glyph [v] H = .ok s H' :=
  (R_sp (t := T k) (T_scott k) (s := fun _ args H => cloneV 2 16 args H) (by kernel_rfl) [v] H).trans (by
    show nrm (mdS k F.slices_Clone_of_api_Glyph_api_Glyph) H _ = _
    rw [show mdS k F.slices_Clone_of_api_Glyph_api_Glyph = .no from by kernel_rfl]
    exact nrm_of h)

theorem lineOf_star (k : Nat) {H0 H : Heap} {L : List It} (h : Star H0 H L) {v : Value} {l : List Gl} (hv : Sl H 2 v encG l) (hl : l.length ≤ 2 ^ 31) :
    ∃ c o H', R (T k) F.line_Of [v] H = .ok (ptrV c) H' ∧ Star H0 H' (L ++ [itLine c o l]) := by
  obtain ⟨s, H1, e1, o1, x1⟩ := clone_sl (bytes := 16) encG_len hv hl (by decide)
  obtain ⟨o, g⟩ := h.more_own o1 x1
  have st := o1.toO.choose_spec.1.storable
  have ce := o1.toO.choose_spec.1.cells
  have g := g.push ⟨[s], 1, false⟩
  rw [List.append_assoc] at g
  have g := Star.join2 [] g
  refine ⟨H1.n, o, _, ?_, g⟩
  rw [line_Of_R]
  refine nrm_of ?_
  simp -implicitDefEqProofs [line_Of, cloneG_R k e1, st, ce]

theorem lineLen_run (k : Nat) {H0 H : Heap} {L : List It} (h : Star H0 H L) (i : Nat) {c : Nat} {o : Option Nat} {l : List Gl} (hi : L[i]? = some (itLine c o l)) : R (T k) F.line_Line_Len [ptrV c] H = .ok (.int .i64 l.length) H := by
  obtain ⟨_, s, h1, h2⟩ := h.box i hi
  rw [line_Line_Len_R]
  refine nrm_gc ⟨H, ?_, Ext.refl H⟩ (.int _ _)
  simp at h1
  simp -implicitDefEqProofs [line_Line_Len, h1, h2.len]

theorem lineIn_run (k : Nat) {H0 H : Heap} {L : List It} (h : Star H0 H L) (i : Nat) {c : Nat} {o : Option Nat} {l : List Gl} (hi : L[i]? = some (itLine c o l)) {H' : Heap} (hx : Ext H H') (j : Int) :
    R (T k) F.line_Line_in [ptrV c, .int .i64 j] H' = .ok (.bool (decide (0 ≤ j ∧ j < l.length))) H' := by
  obtain ⟨_, s, h1, h2⟩ := h.box i hi
  simp at h1
  have h1 := hx.get h1
  rw [line_Line_in_R]
  refine nrm_gc ⟨H', ?_, Ext.refl H'⟩ (.bool _)
  by_cases hj : j ≥ 0
  · simp -implicitDefEqProofs [line_Line_in, h1, h2.len, hj]
  · simp -implicitDefEqProofs [line_Line_in, hj]

/-- A glyph; none: all noughts. -/
def atG (l : List Gl) (j : Int) : Option Gl := if 0 ≤ j ∧ j < l.length then l[j.toNat]? else none
def encA (o : Option Gl) : Value := .agg (encG (o.getD ⟨0, 0⟩)).toArray
theorem lineAt_run (k : Nat) {H0 H : Heap} {L : List It} (h : Star H0 H L) (i : Nat) {c : Nat} {o : Option Nat} {l : List Gl} (hi : L[i]? = some (itLine c o l)) (j : Int) :
    R (T k) F.line_Line_At [ptrV c, .int .i64 j] H = .ok (.tuple #[encA (atG l j), .bool (atG l j).isSome]) H := by
  obtain ⟨_, s, h1, h2⟩ := h.box i hi
  simp at h1
  have hx : Ext H (H.push ⟨[.int .i64 0, .int .i64 0], 1, false⟩) := (Ext.refl H).push _
  have hin := lineIn_run k h i hi hx j
  have hcn : ¬ c = H.n := by have := Heap.get_lt h1; omega
  rw [line_Line_At_R]
  have hfl : ∀ o, Flat (.tuple #[encA o, .bool o.isSome]) := fun o => .tupleL (.cons (.aggL (.cons (.int _ _) (.cons (.int _ _) .nil))) (.cons (.bool _) .nil))
  unfold atG
  by_cases hj : 0 ≤ j ∧ j < l.length
  · obtain ⟨n, rfl⟩ := Int.eq_ofNat_of_zero_le hj.1
    obtain ⟨g, hg⟩ : ∃ g, l[n]? = some g := ⟨_, List.getElem?_eq_getElem (by omega)⟩
    obtain ⟨b, rfl, hs, hb, i1⟩ := h2.ix .i64 n (by omega)
    have hbn : ¬ b = H.n := by have := Heap.get_lt hb; omega
    have hld := fun (H' : Heap) (hH : H'.get b = some ⟨rows encG l, 2, false⟩) => ldA_row encG_len hH hg
    rw [if_pos hj, Int.toNat_natCast, hg]
    refine nrm_gc ⟨H.push ⟨encG g, 1, false⟩, ?_, (Ext.refl H).push _⟩ (hfl (some g)).alive
    have e2 : ldA 2 (.pointer (some ⟨H.n, 0, none⟩)) (H.push ⟨encG g, 1, false⟩) = .ok (.agg (encG g).toArray) (H.push ⟨encG g, 1, false⟩) := by simp
    rw [decide_eq_true hj] at hin
    have e1 := hld (H.push ⟨[.int .i64 0, .int .i64 0], 1, false⟩) (by rw [get_push_ne _ _ _ hbn]; exact hb)
    simp -implicitDefEqProofs [-ldA_ptr, line_Line_At, hin, h1, hcn, i1, e1, e2]
    rfl
  · rw [if_neg hj]
    refine nrm_gc ⟨_, ?_, hx⟩ (hfl none).alive
    rw [decide_eq_false hj] at hin
    simp -implicitDefEqProofs [line_Line_At, hin]
    rfl

/-- All glyphs, as they are for ever. -/
theorem lineGlyphs_run (k : Nat) (hk : k < 1000000) {H0 H : Heap} {L : List It} (h : Star H0 H L) (i : Nat) {c : Nat} {o : Option Nat} {l : List Gl} (hi : L[i]? = some (itLine c o l)) (hl : l.length ≤ 2 ^ 31) : R (T k) F.line_Line_Glyphs [ptrV c] H = .ok (lv encG l) H := by
  obtain ⟨_, s, h1, h2⟩ := h.box i hi
  simp at h1
  have ho : own k = .fz := by unfold own; rw [show Nat.blt k 1000000 = true from Nat.ble_eq_true_of_le hk]; rfl
  obtain ⟨s', H1, e1, o1, x1⟩ := clone_sl (bytes := 16) encG_len (h2.sl encG_len) hl (by decide)
  obtain ⟨M, hf⟩ := o1.freeze encG_len (encG_still _) 6
  rw [line_Line_Glyphs_R, ho]
  refine nrm_fz (v := s') (H' := H1) ?_ hf x1 (Flat.Gls l).alive
  simp -implicitDefEqProofs [line_Line_Glyphs, h1, cloneG_R k e1]

theorem lineGlyphs_any (k : Nat) {H0 H : Heap} {L : List It} (h : Star H0 H L) (i : Nat) {c : Nat} {o : Option Nat} {l : List Gl} (hi : L[i]? = some (itLine c o l)) (hl : l.length ≤ 2 ^ 31) :
    ∃ v o' H', R (T k) F.line_Line_Glyphs [ptrV c] H = .ok v H' ∧ Star H0 H' (L ++ [itV o' 2 v encG l]) := by
  by_cases hk : k < 1000000
  · exact ⟨_, none, H, lineGlyphs_run k hk h i hi hl, h.more_lv (Ext.refl _) 2 l⟩
  · obtain ⟨_, s, h1, h2⟩ := h.box i hi
    simp at h1
    have ho : own k = .no := by
      unfold own
      rw [show Nat.blt k 1000000 = false from by
        cases hb : Nat.blt k 1000000 with
        | false => rfl
        | true => exact absurd (Nat.le_of_ble_eq_true hb) (by omega)]
      rfl
    obtain ⟨s', H1, e1, o1, x1⟩ := clone_sl (bytes := 16) encG_len (h2.sl encG_len) hl (by decide)
    obtain ⟨o', g⟩ := h.more_v o1 x1
    refine ⟨s', o', H1, ?_, g⟩
    rw [line_Line_Glyphs_R, ho]
    refine nrm_of ?_
    simp -implicitDefEqProofs [line_Line_Glyphs, h1, cloneG_R k e1]
/-- .. a row of one's own. -/
theorem lineGlyphs_own (k : Nat) (hk : 1000000 ≤ k) {H0 H : Heap} {L : List It} (h : Star H0 H L) (i : Nat) {c : Nat} {o : Option Nat} {l : List Gl} (hi : L[i]? = some (itLine c o l)) (hl : l.length ≤ 2 ^ 31) :
    ∃ v o' H', R (T k) F.line_Line_Glyphs [ptrV c] H = .ok v H' ∧ Star H0 H' (L ++ [itRow o' 2 v encG l]) := by
  obtain ⟨_, s, h1, h2⟩ := h.box i hi
  simp at h1
  have ho : own k = .no := by
    unfold own
    rw [show Nat.blt k 1000000 = false from by
      cases hb : Nat.blt k 1000000 with
      | false => rfl
      | true => exact absurd (Nat.le_of_ble_eq_true hb) (by omega)]
    rfl
  obtain ⟨s', H1, e1, o1, x1⟩ := clone_sl (bytes := 16) encG_len (h2.sl encG_len) hl (by decide)
  obtain ⟨o', g⟩ := h.more_own o1 x1
  refine ⟨s', o', H1, ?_, g⟩
  rw [line_Line_Glyphs_R, ho]
  refine nrm_of ?_
  simp -implicitDefEqProofs [line_Line_Glyphs, h1, cloneG_R k e1]

/-- Another glyph in a place. -/
def setG (l : List Gl) (j id : Int) : List Gl := if 0 ≤ j ∧ j < l.length then l.modify j.toNat fun g => ⟨id, g.cl⟩ else l
@[simp] theorem setG_len (l : List Gl) (j id : Int) : (setG l j id).length = l.length := by unfold setG; split <;> simp
theorem lineSet_star (k : Nat) {H0 H : Heap} {L : List It} (h : Star H0 H L) (i : Nat) {c : Nat} {o : Option Nat} {l : List Gl} (hi : L[i]? = some (itLine c o l)) (j id : Int) :
    ∃ H', R (T k) F.line_Line_Set [ptrV c, .int .i64 j, .int .i64 id] H = .ok (.bool (decide (0 ≤ j ∧ j < l.length))) H' ∧ Star H0 H' (L.set i (itLine c o (setG l j id))) := by
  obtain ⟨_, s, h1, h2⟩ := h.box i hi
  simp at h1
  have hin := lineIn_run k h i hi (Ext.refl H) j
  rw [line_Line_Set_R]
  unfold setG
  by_cases hj : 0 ≤ j ∧ j < l.length
  · obtain ⟨n, rfl⟩ := Int.eq_ofNat_of_zero_le hj.1
    obtain ⟨g, hg⟩ : ∃ g, l[n]? = some g := ⟨_, List.getElem?_eq_getElem (by omega)⟩
    obtain ⟨b, rfl, hs, hb, i1⟩ := h2.ix .i64 n (by omega)
    obtain ⟨H', e1, g1, _⟩ := h.stBox i hi encG_len (c := 0) (n := 1) (⟨id, g.cl⟩ : Gl) (v := .int .i64 id) hg rfl rfl (by decide) rfl
    rw [if_pos hj, Int.toNat_natCast, modify_set _ _ _ _ hg, decide_eq_true hj]
    rw [decide_eq_true hj] at hin
    rw [Nat.add_zero] at e1
    refine ⟨H', nrm_of ?_, g1⟩
    simp -implicitDefEqProofs [-stR_ptr, line_Line_Set, hin, h1, i1, e1]
  · rw [if_neg hj, decide_eq_false hj]
    rw [decide_eq_false hj] at hin
    refine ⟨H, nrm_of ?_, ?_⟩
    · simp -implicitDefEqProofs [line_Line_Set, hin]
    · obtain ⟨hlt, hx⟩ := List.getElem?_eq_some_iff.1 hi
      rw [← hx, List.set_getElem_self]
      exact h

theorem ReverseG_run (k : Nat) {H : Heap} {o : Option Nat} {s : Value} {l : List Gl} (h : OwnO H o 2 s encG l) (hl : l.length < 2 ^ 31) :
    ∃ H', R (T k) F.slices_Reverse_of_api_Glyph_api_Glyph [s] H = .ok (.tuple #[]) H' ∧ OwnO H' o 2 s encG l.reverse ∧ H'.n = H.n ∧ ∀ c, o ≠ some c → H'.get c = H.get c := by
  rw [slices_Reverse_of_api_Glyph_api_Glyph_R]
  have hlen := h.len
  rcases h with ⟨h0, rfl, hs⟩ | ⟨b, rfl, rfl, hb⟩
  · refine ⟨H, ?_, .inl ⟨h0, rfl, hs⟩, rfl, fun _ _ => rfl⟩
    obtain ⟨x, e', H1, hr, rfl, rfl, v, rfl⟩ := loop_up (body := slices_Reverse_of_api_Glyph_api_Glyph_l1 k (R (T k))) 0
      (fun _ e H' => H' = H ∧ e = [(0, s), (2, .int .i64 0), (3, .int .i64 (-1))]) (fun x e H' => H' = H ∧ x = .exit 0 ∧ ∃ v, e = [(0, s), (2, .int .i64 0), (3, .int .i64 (-1)), (9, v)]) (e0 := [(0, s), (2, .int .i64 0), (3, .int .i64 (-1))]) (H0 := H) ⟨rfl, rfl⟩ (by omega) (fun i _ _ hi _ => by omega)
      (fun e H' ⟨hH, he⟩ => by
        subst hH he
        refine ⟨.exit 0, _, _, ?_, by simp, rfl, rfl, .bool false, rfl⟩
        rw [slices_Reverse_of_api_Glyph_api_Glyph_l1_eq]
        simp -implicitDefEqProofs)
    simp -implicitDefEqProofs [slices_Reverse_of_api_Glyph_api_Glyph, hlen, hr, slices_Reverse_of_api_Glyph_api_Glyph_l1k_x0]
  · have ix : ∀ (i : Nat) (H' : Heap), i < l.length → ixS 2 (.slice (some ⟨b, 0, none⟩) l.length l.length) (.int .i64 i) H' = .ok (.pointer (some ⟨b, i * 2, none⟩)) H' := fun i H' hi => by
      unfold ixS
      dsimp only
      rw [if_pos ⟨by omega, by omega⟩]
      simp
    obtain ⟨x, e', H1, hr, rfl, ⟨a1, v, rfl⟩, a2, a3⟩ := loop_up (body := slices_Reverse_of_api_Glyph_api_Glyph_l1 k (R (T k))) (l.length / 2)
      (fun i e H' => e = [(0, .slice (some ⟨b, 0, none⟩) l.length l.length), (2, .int .i64 i), (3, .int .i64 (l.length - 1 - i))] ∧ (∃ r, RevTo l r i ∧ H'.get b = some ⟨rows encG r, 2, false⟩) ∧ H'.n = H.n ∧ ∀ c, c ≠ b → H'.get c = H.get c)
      (fun x e H' => x = .exit 0 ∧ (∃ a v, e = [(0, .slice (some ⟨b, 0, none⟩) l.length l.length), (2, a), (3, v), (9, .bool false)]) ∧ H'.get b = some ⟨rows encG l.reverse, 2, false⟩ ∧ H'.n = H.n ∧ ∀ c, c ≠ b → H'.get c = H.get c)
      (e0 := [(0, .slice (some ⟨b, 0, none⟩) l.length l.length), (2, .int .i64 0), (3, .int .i64 (l.length - 1))]) (H0 := H) ⟨by simp, ⟨l, .zero l, hb⟩, rfl, fun _ _ => rfl⟩ (by omega)
      (fun i e H' hi ⟨he, ⟨r, hr, hg⟩, hn, hk⟩ => by
        subst he
        obtain ⟨x, y, e1, e2, hr'⟩ := hr.step (by omega)
        obtain ⟨H2, H3, s1, s2, g3, k3, n3⟩ := swap_row encG_len (fun _ => rfl) hg e1 e2
        have hlt : (i : Int) < l.length - 1 - i := by omega
        have hj : ((l.length : Int) - 1 - i) = ((l.length - 1 - i : Nat) : Int) := by omega
        have i1 := fun H' => ix i H' (by omega)
        have i2 := fun H' => ix (l.length - 1 - i) H' (by omega)
        rw [← hj] at i2
        have l1 := ldA_row encG_len hg e1
        have l2 := ldA_row encG_len hg e2
        refine .inl ⟨_, H3, ?_, rfl, ⟨_, hr', g3⟩, by rw [n3, hn], fun c hc => by rw [k3 c hc, hk c hc]⟩
        rw [slices_Reverse_of_api_Glyph_api_Glyph_l1_eq]
        simp -implicitDefEqProofs (disch := omega) [-ldA_ptr, -stR_ptr, hlt, i1, i2, l1, l2, s1, s2]
        omega)
      (fun e H' ⟨he, ⟨r, hr, hg⟩, hn, hk⟩ => by
        subst he
        have hlt : ¬ ((l.length / 2 : Nat) : Int) < l.length - 1 - (l.length / 2 : Nat) := by omega
        refine ⟨.exit 0, _, H', ?_, by simp, rfl, ⟨.int .i64 (l.length / 2 : Nat), .int .i64 (l.length - 1 - (l.length / 2 : Nat)), rfl⟩, by rw [← hr.done]; exact hg, hn, hk⟩
        rw [slices_Reverse_of_api_Glyph_api_Glyph_l1_eq]
        simp -implicitDefEqProofs (disch := omega) only [bin_lss, Res.bind_ok, hlt, decide_false, condV_bool, Bool.false_eq_true, if_false])
    refine ⟨H1, ?_, .inr ⟨b, rfl, by simp, a2⟩, a3.1, fun c hc => a3.2 c fun e => hc (by rw [e])⟩
    have hlt : 1 ≤ l.length + 1 := by omega
    simp -implicitDefEqProofs (disch := omega) [slices_Reverse_of_api_Glyph_api_Glyph, hr, slices_Reverse_of_api_Glyph_api_Glyph_l1k_x0]


theorem lineTurn_star (k : Nat) {H0 H : Heap} {L : List It} (h : Star H0 H L) (i : Nat) {c : Nat} {o : Option Nat} {l : List Gl} (hi : L[i]? = some (itLine c o l)) (hl : l.length < 2 ^ 31) :
    ∃ H', R (T k) F.line_Line_Turn [ptrV c] H = .ok (.tuple #[]) H' ∧ Star H0 H' (L.set i (itLine c o l.reverse)) := by
  obtain ⟨hne, s, h1, h2⟩ := h.box i hi
  obtain ⟨H', e1, e2, e3, e4⟩ := ReverseG_run k h2 hl
  refine ⟨H', ?_, h.step i hi (by omega) (fun d _ hd => e4 d fun e => hd (List.mem_cons_of_mem _ (Option.mem_toList.2 e))) _ ⟨hne, s, by rw [e4 c hne]; exact h1, e2⟩ fun b hb => .inl hb⟩
  simp at h1
  rw [line_Line_Turn_R]
  refine nrm_of ?_
  simp -implicitDefEqProofs [line_Line_Turn, h1, e1]

/-- A line of some glyphs, each of itself. -/
def newG (ids : List Int) : List Gl := ids.zipIdx.map fun x => ⟨x.1, (x.2 : Nat)⟩
@[simp] theorem newG_len (ids : List Int) : (newG ids).length = ids.length := by simp [newG]
theorem newG_snoc (ids : List Int) (x : Int) : newG (ids ++ [x]) = newG ids ++ [⟨x, (ids.length : Nat)⟩] := by simp [newG, List.zipIdx_append]
theorem lineNew_star (k : Nat) {H0 H : Heap} {L : List It} (h : Star H0 H L) (ids : List Int) (hl : ids.length < 2 ^ 31) :
    ∃ c o H', R (T k) F.line_New [lv encI ids] H = .ok (ptrV c) H' ∧ Star H0 H' (L ++ [itLine c o (newG ids)]) := by
  have g := (h.more_row (Ext.refl _) (OwnO.nil encG _ 2) (fun b hb => by cases hb)).push ⟨[.slice none 0 0], 1, false⟩
  rw [List.append_assoc] at g
  obtain ⟨x, e', H1, hr, rfl, ⟨a, rfl⟩, s, o, g⟩ := loop_up (body := line_New_l1 k (R (T k))) ids.length
    (fun j e H' => e = [(3, ptrV H.n), (8, lv encI ids), (9, .int .i64 ids.length), (10, .int .i64 j)] ∧ ∃ s o, Star H0 H' (L ++ [itRow o 2 s encG (newG (ids.take j)), itBlk H.n ⟨[s], 1, false⟩]))
    (fun x e H' => x = .exit 0 ∧ (∃ a, e = [(3, ptrV H.n), (8, lv encI ids), (9, .int .i64 ids.length), (10, .int .i64 ids.length), (11, a)]) ∧ ∃ s o, Star H0 H' (L ++ [itRow o 2 s encG (newG ids), itBlk H.n ⟨[s], 1, false⟩]))
    (e0 := [(3, ptrV H.n), (8, lv encI ids), (9, .int .i64 ids.length), (10, .int .i64 0)]) (H0 := H.push ⟨[.slice none 0 0], 1, false⟩) ⟨rfl, _, _, g⟩ (by omega)
    (fun j e H' hj ⟨he, s, o, g⟩ => by
      subst he
      have hlt : (j : Int) < ids.length := by omega
      obtain ⟨x, hx⟩ : ∃ x, ids[j]? = some x := ⟨_, List.getElem?_eq_getElem hj⟩
      have i1 := fun H' => ixS_lvN encI_len ids .i64 j x hx H'
      have hc := g.get (L.length + 1) (at2_1 _ _ _)
      have hcn : ¬ H.n = H'.n := by have := Heap.get_lt hc; omega
      obtain ⟨s', o', H2, e1, g⟩ := g.append1 (bytes := 16) L.length encG_len (at2_0 _ _ _) (⟨x, (j : Nat)⟩ : Gl) (by simp; omega) (by decide)
      rw [set2_0] at g
      have hc2 := g.get (L.length + 1) (at2_1 _ _ _)
      have st := (g.row L.length (at2_0 _ _ _)).storable
      have ce := (g.row L.length (at2_0 _ _ _)).cells
      have g := g.setBlk (L.length + 1) (at2_1 _ _ _) ⟨[s'], 1, false⟩
      rw [set2_1] at g
      refine .inl ⟨_, _, ?_, rfl, s', o', by rw [take_snoc hx, newG_snoc, List.length_take, Nat.min_eq_left (by omega)]; exact g⟩
      rw [line_New_l1_eq]
      have e1 : apR 2 16 s (.slice (some ⟨H'.n, 0, none⟩) 1 1) (H'.push ⟨[.int .i64 x, .int .i64 (j : Nat)], 2, false⟩) = .ok s' H2 := e1
      simp -implicitDefEqProofs (disch := omega) [hlt, i1, hc, hcn, e1, hc2, st, ce])
    (fun e H' ⟨he, s, o, g⟩ => by
      subst he
      refine ⟨.exit 0, _, H', ?_, by simp, rfl, ⟨.bool false, rfl⟩, s, o, by simpa using g⟩
      rw [line_New_l1_eq]
      simp -implicitDefEqProofs)
  have g := Star.join2 [] g
  refine ⟨H.n, o, H1, ?_, g⟩
  rw [line_New_R]
  refine nrm_of ?_
  simp -implicitDefEqProofs [line_New, hr, line_New_l1k_x0]

theorem encG_beq (a b : Gl) : ([a.id, a.cl] == [b.id, b.cl]) = decide (a = b) := by
  cases a; cases b; simp [BEq.beq, List.beq]
/-- Are two lists the same? -/
theorem Same_run (k : Nat) {H : Heap} {u v : Value} {l m : List Gl} (hu : Rd H 2 u encG l) (hv : Rd H 2 v encG m) (hl : l.length < 2 ^ 62) (hm : m.length < 2 ^ 62) : R (T k) F.swashref11_Same [u, v] H = .ok (.bool (decide (l = m))) H := by
  rw [swashref11_Same_R]
  have fl : Flat (.bool (decide (l = m))) := .bool _
  by_cases hlen : l.length = m.length
  rotate_left
  · have hne : l ≠ m := fun e => hlen (by rw [e])
    have hne' : ((l.length : Int) == (m.length : Int)) = false := by rw [beq_eq_false_iff_ne]; omega
    refine nrm_fz (v := .bool false) (H' := H) ?_ (by rw [decide_eq_false hne]; rfl) (Ext.refl H) fl.alive
    simp -implicitDefEqProofs [swashref11_Same, hu.1, hv.1, bne, hne']
  · obtain ⟨x, e', H1, hr, rfl, hq⟩ := loop_up (body := swashref11_Same_l1 k (R (T k))) l.length
      (fun j e H' => H' = H ∧ e = [(0, u), (1, v), (5, .int .i64 j)] ∧ l.take j = m.take j)
      (fun x e H' => H' = H ∧ ((x = .ret ∧ e = [(4, .bool false)] ∧ l ≠ m) ∨ (x = .exit 0 ∧ (∃ a, e = [(0, u), (1, v), (5, .int .i64 l.length), (14, a)]) ∧ l = m)))
      (e0 := [(0, u), (1, v), (5, .int .i64 0)]) (H0 := H) ⟨rfl, rfl, by simp⟩ (by omega)
      (fun j e H' hj ⟨hH, he, ht⟩ => by
        subst he hH
        have hlt : (j : Int) < l.length := by omega
        obtain ⟨a, ha⟩ : ∃ a, l[j]? = some a := ⟨_, List.getElem?_eq_getElem hj⟩
        obtain ⟨b, hb⟩ : ∃ b, m[j]? = some b := ⟨_, List.getElem?_eq_getElem (by omega)⟩
        obtain ⟨p, p1, p2⟩ := hu.2 j a ha
        obtain ⟨q, q1, q2⟩ := hv.2 j b hb
        by_cases hab : a = b
        · subst hab
          refine .inl ⟨_, _, ?_, rfl, rfl, by rw [take_snoc ha, take_snoc hb, ht]⟩
          rw [swashref11_Same_l1_eq]
          simp -implicitDefEqProofs (disch := omega) [hlt, hu.1, p1, p2, q1, q2]
        · refine .inr ⟨.ret, _, _, ?_, by simp, rfl, .inl ⟨rfl, rfl, fun e => hab (by rw [e, hb] at ha; injection ha with ha; exact ha.symm)⟩⟩
          have hne : (!(a.id == b.id) || !(a.cl == b.cl)) = true := by
            by_cases h1 : a.id = b.id
            · have : a.cl ≠ b.cl := fun h2 => hab (by cases a; cases b; simp_all)
              simp [h1, this]
            · simp [h1]
          rw [swashref11_Same_l1_eq]
          simp -implicitDefEqProofs (disch := omega) [hlt, hu.1, p1, p2, q1, q2, hne])
      (fun e H' ⟨hH, he, ht⟩ => by
        subst he hH
        refine ⟨.exit 0, _, _, ?_, by simp, rfl, .inr ⟨rfl, ⟨.bool false, rfl⟩, ?_⟩⟩
        · rw [swashref11_Same_l1_eq]
          simp -implicitDefEqProofs [hu.1]
        · rwa [List.take_length, hlen, List.take_length] at ht)
    rcases hq with ⟨rfl, rfl, hne⟩ | ⟨rfl, ⟨a, rfl⟩, heq⟩
    · refine nrm_fz (v := .bool false) (H' := H1) ?_ (by rw [decide_eq_false hne]; rfl) (Ext.refl H1) fl.alive
      simp -implicitDefEqProofs [swashref11_Same, hu.1, hv.1, hlen, bne, hr, swashref11_Same_l1k_r]
    · refine nrm_fz (v := .bool true) (H' := H1) ?_ (by rw [decide_eq_true heq]; rfl) (Ext.refl H1) fl.alive
      simp -implicitDefEqProofs [swashref11_Same, hu.1, hv.1, hlen, bne, hr, swashref11_Same_l1k_x0]
end Go.Sw
