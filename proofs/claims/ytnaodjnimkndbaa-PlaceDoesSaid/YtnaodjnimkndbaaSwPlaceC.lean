/-
  Places: what each of its functions does to it.
-/
import Derived.Test.YtnaodjnimkndbaaSwPlaceB
import Derived.Test.YtnaodjnimkndbaaSwGslices
namespace Go.Sw

/-- Places lie there: the block p, and that of their row, if there is one. -/
def PlAt (H : Heap) (p : Nat) (o : Option Nat) (down : Bool) (l : List Pl) : Prop :=
  (∀ b, o = some b → b ≠ p) ∧ ∃ s, H.get p = some ⟨[.bool down, s], 1, false⟩ ∧ OwnO H o 3 s encP l

theorem PlAt.up {H H' : Heap} {p : Nat} {o : Option Nat} {down : Bool} {l : List Pl} (h : PlAt H p o down l) (hp : H'.get p = H.get p) (ho : ∀ b, o = some b → H'.get b = H.get b) : PlAt H' p o down l := by
  obtain ⟨h1, s, h2, h3⟩ := h
  exact ⟨h1, s, by rw [hp]; exact h2, h3.up ho⟩
theorem PlAt.lt {H : Heap} {p : Nat} {o : Option Nat} {down : Bool} {l : List Pl} (h : PlAt H p o down l) : p < H.n := by
  obtain ⟨_, s, h2, _⟩ := h
  exact Heap.get_lt h2
theorem PlAt.lto {H : Heap} {p : Nat} {o : Option Nat} {down : Bool} {l : List Pl} (h : PlAt H p o down l) : ∀ b, o = some b → b < H.n := by
  obtain ⟨_, s, _, h3⟩ := h
  intro b hb
  rcases h3 with ⟨h4, _⟩ | ⟨c, h4, _, h5⟩
  · rw [h4] at hb; cases hb
  · rw [h4] at hb; injection hb with hb; subst hb; exact Heap.get_lt h5
theorem PlAt.ext {H H' : Heap} {p : Nat} {o : Option Nat} {down : Bool} {l : List Pl} (h : PlAt H p o down l) (hx : Ext H H') : PlAt H' p o down l :=
  h.up (hx.2 p h.lt (by simp)) fun b hb => hx.2 b (h.lto b hb) (by simp)

/-- The blocks of places. -/
def fpP (p : Nat) (o : Option Nat) : List Nat := p :: o.toList

theorem Len_run (k : Nat) {H : Heap} {p : Nat} {o : Option Nat} {down : Bool} {l : List Pl} (h : PlAt H p o down l) : R (T k) F.place_Places_Len [.pointer (some ⟨p, 0, none⟩)] H = .ok (.int .i64 l.length) H := by
  obtain ⟨_, s, h2, h3⟩ := h
  rw [place_Places_Len_R]
  refine nrm_gc (Pure.of ?_) (.int _ _)
  simp -implicitDefEqProofs [place_Places_Len, h2, h3.len]

/-- What at leads to: an element of a row; whatever is written there is written in the places. -/
theorem at_run (k : Nat) {H : Heap} {p : Nat} {o : Option Nat} {down : Bool} {l : List Pl} (h : PlAt H p o down l) (hok : ∀ q, q ∈ l → q.ok) (i : Int) :
    ∃ H1 b j l' q e, R (T k) F.place_Places_at [.pointer (some ⟨p, 0, none⟩), .int .i64 i] H = .ok (.pointer (some ⟨b, j * 3, none⟩)) H1 ∧ b ≠ p ∧ H1.get b = some ⟨rows encP l', e, false⟩ ∧ l'[j]? = some q ∧ q.ok ∧ H1.get p = H.get p ∧
      ∀ (H2 : Heap) (f : Pl → Pl), H2.get b = some ⟨rows encP (l'.set j (f q)), e, false⟩ → (∀ c, c ≠ b → H2.get c = H1.get c) → H2.n = H1.n → PlAt H2 p o down (updPl l i f) ∧ Keeps (fpP p o) H H2 := by
  have hh := h
  have hlt := h.lt
  have hlto := h.lto
  obtain ⟨hne, s, h2, h3⟩ := h
  rw [place_Places_at_R]
  by_cases hi : 0 ≤ i ∧ i < l.length
  · obtain ⟨n, rfl⟩ : ∃ n : Nat, i = n := ⟨i.toNat, by omega⟩
    have hn : n < l.length := by omega
    obtain ⟨q, hq⟩ : ∃ q, l[n]? = some q := ⟨l[n], List.getElem?_eq_getElem hn⟩
    obtain ⟨b, rfl, rfl, hb, hix⟩ := h3.ix .i64 n hn
    have h0 : ¬ (n : Int) < 0 := by omega
    have h1 : ¬ (l.length : Int) ≤ n := by omega
    refine ⟨H, b, n, l, q, 3, by simp -implicitDefEqProofs [place_Places_at, h2, h0, h1, hix], hne b rfl, hb, hq, hok q (List.mem_of_getElem? hq), rfl, fun H2 f g1 g2 g3 => ⟨⟨hne, _, by rw [g2 p (fun e => hne b rfl e.symm)]; exact h2, ?_⟩, by rw [g3]; exact Nat.le_refl _, fun c hc hs => g2 c fun e => hs (by simp [fpP, e])⟩⟩
    have : updPl l n f = l.set n (f q) := by
      unfold updPl
      rw [if_pos (by omega), Int.toNat_natCast, modify_set _ l n q hq]
    rw [this]
    exact .inr ⟨b, rfl, by simp, g1⟩
  · refine ⟨H.push ⟨[.int .i32 0, .int .i32 0, .int .i32 0], 1, false⟩, H.n, 0, [⟨0, 0, 0⟩], ⟨0, 0, 0⟩, 1, ?_, by omega, by rw [Heap.get_push, if_pos rfl]; rfl, rfl, by unfold Pl.ok; simp, get_push_lt _ _ _ hlt, fun H2 f g1 g2 g3 => ?_⟩
    · by_cases h0 : i < 0
      · simp -implicitDefEqProofs [place_Places_at, h0]
      · have h1 : (l.length : Int) ≤ i := by omega
        simp -implicitDefEqProofs [place_Places_at, h0, h2, h3.len, h1]
    · have : updPl l i f = l := by
        unfold updPl
        split
        · exact modify_none _ _ _ (by omega)
        · rfl
      rw [this]
      have hx : Ext H H2 := ⟨by rw [g3]; simp, fun c hc hs => by rw [g2 c (by omega)]; exact get_push_lt _ _ _ hc⟩
      exact ⟨hh.ext hx, hx.1, fun c hc _ => hx.2 c hc (by simp)⟩

theorem Along_run (k : Nat) {H : Heap} {p : Nat} {o : Option Nat} {down : Bool} {l : List Pl} (h : PlAt H p o down l) (hok : ∀ q, q ∈ l → q.ok) (i n : Int) :
    ∃ H2, R (T k) F.place_Places_Along [.pointer (some ⟨p, 0, none⟩), .int .i64 i, .int .i64 n] H = .ok (.tuple #[]) H2 ∧ PlAt H2 p o down (updPl l i fun q => ⟨addI q.adv n, q.x, q.y⟩) ∧ Keeps (fpP p o) H H2 := by
  obtain ⟨H1, b, j, l', q, e, a1, _, a2, a3, a4, _, a5⟩ := at_run k h hok i
  have r1 := ld1_row encP_len a2 (c := 0) a3 (by decide) rfl
  obtain ⟨H2, s1, g1, k1, n1⟩ := st_row encP_len a2 (c := 0) (n := 1) ⟨addI q.adv n, q.x, q.y⟩ (v := .int .i32 (addI q.adv n)) a3 rfl rfl (by decide) rfl
  obtain ⟨b1, b2⟩ := a5 H2 (fun q => ⟨addI q.adv n, q.x, q.y⟩) g1 k1 n1
  refine ⟨H2, ?_, b1, b2⟩
  simp only [Nat.add_zero] at r1 s1
  rw [place_Places_Along_R]
  simp -implicitDefEqProofs [-ld1_ptr, -stR_ptr, place_Places_Along, a1, r1, s1, Add_run _ _ _ a4.1.1 a4.1.2]

/-- How far a place stands off across. -/
theorem side_run (k : Nat) {H : Heap} {p : Nat} {o : Option Nat} {down : Bool} {l : List Pl} (h : PlAt H p o down l) (hok : ∀ q, q ∈ l → q.ok) (i : Int) :
    ∃ H1 b j l' q e, R (T k) F.place_Places_side [.pointer (some ⟨p, 0, none⟩), .int .i64 i] H = .ok (.pointer (some ⟨b, j * 3 + (if down then 1 else 2), none⟩)) H1 ∧ H1.get b = some ⟨rows encP l', e, false⟩ ∧ l'[j]? = some q ∧ q.ok ∧
      ∀ (H2 : Heap) (f : Pl → Pl), H2.get b = some ⟨rows encP (l'.set j (f q)), e, false⟩ → (∀ c, c ≠ b → H2.get c = H1.get c) → H2.n = H1.n → PlAt H2 p o down (updPl l i f) ∧ Keeps (fpP p o) H H2 := by
  obtain ⟨H1, b, j, l', q, e, a1, a0, a2, a3, a4, ap, a5⟩ := at_run k h hok i
  obtain ⟨_, s, h2, _⟩ := h
  refine ⟨H1, b, j, l', q, e, ?_, a2, a3, a4, a5⟩
  rw [place_Places_side_R]
  rw [← ap] at h2
  cases down <;> simp -implicitDefEqProofs [place_Places_side, a1, h2]

theorem Across_run (k : Nat) {H : Heap} {p : Nat} {o : Option Nat} {down : Bool} {l : List Pl} (h : PlAt H p o down l) (hok : ∀ q, q ∈ l → q.ok) (i n : Int) :
    ∃ H2, R (T k) F.place_Places_Across [.pointer (some ⟨p, 0, none⟩), .int .i64 i, .int .i64 n] H = .ok (.tuple #[]) H2 ∧ PlAt H2 p o down (updPl l i fun q => if down then ⟨q.adv, addI q.x n, q.y⟩ else ⟨q.adv, q.x, addI q.y n⟩) ∧ Keeps (fpP p o) H H2 := by
  obtain ⟨H1, b, j, l', q, e, a1, a2, a3, a4, a5⟩ := side_run k h hok i
  rw [place_Places_Across_R]
  cases down
  · have r1 := ld1_row encP_len a2 (c := 2) a3 (by decide) rfl
    obtain ⟨H2, s1, g1, k1, n1⟩ := st_row encP_len a2 (c := 2) (n := 1) ⟨q.adv, q.x, addI q.y n⟩ (v := .int .i32 (addI q.y n)) a3 rfl rfl (by decide) rfl
    obtain ⟨b1, b2⟩ := a5 H2 (fun q => ⟨q.adv, q.x, addI q.y n⟩) g1 k1 n1
    refine ⟨H2, ?_, by simpa using b1, b2⟩
    simp only [Bool.false_eq_true, if_false] at a1
    simp -implicitDefEqProofs [-ld1_ptr, -stR_ptr, place_Places_Across, a1, r1, s1, Add_run _ _ _ a4.2.2.1 a4.2.2.2]
  · have r1 := ld1_row encP_len a2 (c := 1) a3 (by decide) rfl
    obtain ⟨H2, s1, g1, k1, n1⟩ := st_row encP_len a2 (c := 1) (n := 1) ⟨q.adv, addI q.x n, q.y⟩ (v := .int .i32 (addI q.x n)) a3 rfl rfl (by decide) rfl
    obtain ⟨b1, b2⟩ := a5 H2 (fun q => ⟨q.adv, addI q.x n, q.y⟩) g1 k1 n1
    refine ⟨H2, ?_, by simpa using b1, b2⟩
    simp only [if_true] at a1
    simp -implicitDefEqProofs [-ld1_ptr, -stR_ptr, place_Places_Across, a1, r1, s1, Add_run _ _ _ a4.2.1.1 a4.2.1.2]

theorem Level_run (k : Nat) {H : Heap} {p : Nat} {o : Option Nat} {down : Bool} {l : List Pl} (h : PlAt H p o down l) (hok : ∀ q, q ∈ l → q.ok) (i : Int) :
    ∃ H2, R (T k) F.place_Places_Level [.pointer (some ⟨p, 0, none⟩), .int .i64 i] H = .ok (.tuple #[]) H2 ∧ PlAt H2 p o down (levelPl l down i) ∧ Keeps (fpP p o) H H2 := by
  obtain ⟨H1, b, j, l', q, e, a1, a2, a3, a4, a5⟩ := side_run k h hok i
  rw [place_Places_Level_R]
  cases down
  · obtain ⟨H2, s1, g1, k1, n1⟩ := st_row encP_len a2 (c := 2) (n := 1) ⟨q.adv, q.x, 0⟩ (v := .int .i32 0) a3 rfl rfl (by decide) rfl
    obtain ⟨b1, b2⟩ := a5 H2 (fun q => ⟨q.adv, q.x, 0⟩) g1 k1 n1
    refine ⟨H2, ?_, by simpa [levelPl] using b1, b2⟩
    simp only [Bool.false_eq_true, if_false] at a1
    simp -implicitDefEqProofs [-ld1_ptr, -stR_ptr, place_Places_Level, a1, s1]
  · obtain ⟨H2, s1, g1, k1, n1⟩ := st_row encP_len a2 (c := 1) (n := 1) ⟨q.adv, 0, q.y⟩ (v := .int .i32 0) a3 rfl rfl (by decide) rfl
    obtain ⟨b1, b2⟩ := a5 H2 (fun q => ⟨q.adv, 0, q.y⟩) g1 k1 n1
    refine ⟨H2, ?_, by simpa [levelPl] using b1, b2⟩
    simp only [if_true] at a1
    simp -implicitDefEqProofs [-ld1_ptr, -stR_ptr, place_Places_Level, a1, s1]
end Go.Sw
