/-
  Functions' forms, and what is proved of them, part 2.
-/
import Derived.Test.YtnaodjnimkndbaaSwW1
import Derived.Test.YtnaodjnimkndbaaSwLib9
import Derived.Test.YtnaodjnimkndbaaSwCfg
set_option linter.unusedSimpArgs false
set_option linter.unusedVariables false
set_option linter.unusedSectionVars false
section
namespace Go.Sw
open Go.RowKit
theorem pieceS_iff {b : List Int} {i n : Int} {r : List Int} : pieceS b i n = some r ↔ (0 ≤ i ∧ 0 ≤ n ∧ i ≤ b.length ∧ n ≤ b.length - i) ∧ r = (b.drop i.toNat).take n.toNat := by
  unfold pieceS
  split
  · rename_i h
    constructor
    · intro e; injection e with e; exact ⟨h, e.symm⟩
    · rintro ⟨_, rfl⟩; rfl
  · rename_i h
    constructor
    · intro e; cases e
    · rintro ⟨h', _⟩; exact absurd h' h
theorem uS_sub {b r : List Int} {p z : Int} (h : pieceS b p z = some r) {x y : Int} (hx : 0 ≤ x) (hy : 0 ≤ y) (hxy : x + y ≤ z) : uS r x y = uS b (p + x) y := by
  obtain ⟨⟨h1, h2, h3, h4⟩, rfl⟩ := pieceS_iff.1 h
  have hl : ((b.drop p.toNat).take z.toNat).length = z.toNat := by simp; omega
  unfold uS
  rw [pieceS_iff.2 ⟨by rw [hl]; omega, rfl⟩, pieceS_iff.2 ⟨by omega, rfl⟩, List.drop_take, List.take_take, List.drop_drop]
  rw [show min y.toNat (z.toNat - x.toNat) = y.toNat by omega, show p.toNat + x.toNat = (p + x).toNat by omega]
theorem rowsS_iff {b : List Int} {i n z : Int} {r : List Int} (hz : 0 < z) : rowsS b i n z = some r ↔ (0 ≤ i ∧ 0 ≤ n ∧ i ≤ b.length ∧ n * z ≤ b.length - i) ∧ r = (b.drop i.toNat).take (n * z).toNat := by
  unfold rowsS
  have k : n ≤ (b.length : Int) / z ↔ n * z ≤ b.length := Int.le_ediv_iff_mul_le hz
  split
  · rename_i h
    rw [pieceS_iff]
    constructor
    · rintro ⟨h1, h2⟩; exact ⟨⟨h1.1, h.1, h1.2.2.1, h1.2.2.2⟩, h2⟩
    · rintro ⟨h1, h2⟩; exact ⟨⟨h1.1, Int.mul_nonneg h.1 (by omega), h1.2.2.1, h1.2.2.2⟩, h2⟩
  · rename_i h
    constructor
    · intro e; cases e
    · rintro ⟨h1, _⟩
      exact absurd ⟨h1.2.1, by omega, .inr (k.2 (by omega))⟩ h
theorem rowsB_iff {s i n z : Int} (hz : 0 < z) : rowsB s i n z = true ↔ 0 ≤ i ∧ 0 ≤ n ∧ i ≤ s ∧ n * z ≤ s - i := by
  unfold rowsB
  have k : n ≤ (s - i) / z ↔ n * z ≤ s - i := Int.le_ediv_iff_mul_le hz
  rw [decide_eq_true_eq, k]
  constructor
  · rintro ⟨h1, h2, h3, h4, h5⟩; exact ⟨h1, h2, h4, by rcases h5 with h5 | h5 <;> omega⟩
  · rintro ⟨h1, h2, h3, h4⟩; exact ⟨h1, h2, by omega, h3, .inr h4⟩
theorem listS_isSome {b : List Int} {i n z : Int} (hz : 0 < z) : (listS b i n z).isSome = rowsB b.length i n z := by
  rw [Bool.eq_iff_iff, rowsB_iff hz, listS, Option.isSome_map, Option.isSome_iff_exists]
  constructor
  · rintro ⟨r, hr⟩; exact ((rowsS_iff hz).1 hr).1
  · intro h; exact ⟨_, (rowsS_iff hz).2 ⟨h, rfl⟩⟩
theorem listS_get {b : List Int} {i n z : Int} {vs : List Int} (hz : 0 < z) (h : listS b i n z = some vs) (j : Nat) (hj : (j : Int) < n) : vs[j]? = uS b (i + j * z) z := by
  unfold listS at h
  obtain ⟨r, hr, rfl⟩ := Option.map_eq_some_iff.1 h
  obtain ⟨⟨h1, h2, h3, h4⟩, rfl⟩ := (rowsS_iff hz).1 hr
  obtain ⟨i, rfl⟩ := Int.eq_ofNat_of_zero_le h1
  obtain ⟨n, rfl⟩ := Int.eq_ofNat_of_zero_le h2
  obtain ⟨z, rfl⟩ := Int.eq_ofNat_of_zero_le (Int.le_of_lt hz)
  have hj' : j < n := by omega
  have e : j * z + z ≤ n * z := by
    rw [← Nat.succ_mul]; exact Nat.mul_le_mul_right _ hj'
  have h4' : n * z ≤ b.length - i := by omega
  simp only [Int.toNat_natCast]
  rw [List.getElem?_map, cutRows_get _ _ _ _ hj', Option.map_some]
  unfold uS
  rw [pieceS_iff.2 ⟨⟨by omega, by omega, by
    have : ((j * z : Nat) : Int) = (j : Int) * z := by simp
    omega, by
    have : ((j * z : Nat) : Int) = (j : Int) * z := by simp
    omega⟩, rfl⟩, Option.map_some]
  congr 2
  rw [show ((n : Int) * z).toNat = n * z by rw [← Int.natCast_mul, Int.toNat_natCast], show ((i : Int) + j * z).toNat = i + j * z by rw [← Int.natCast_mul, ← Int.natCast_add, Int.toNat_natCast], Int.toNat_natCast]
  rw [List.drop_take, List.take_take, List.drop_drop, Nat.mul_comm z j]
  rw [show min z (n * z - j * z) = z by omega]
theorem rowsS_row {b : List Int} {i : Int} {n z : Nat} {r : List Int} (h : rowsS b i n z = some r) {j : Nat} (hj : j < n) : pieceS b (i + z * j) z = some ((r.drop (z * j)).take z) := by
  have hn := rowsS_n h
  obtain ⟨i', hi'⟩ := Int.eq_ofNat_of_zero_le hn.2.2.1
  have e : z * j + z ≤ n * z := by
    rw [← Nat.mul_succ, Nat.mul_comm]; exact Nat.mul_le_mul_right _ (by omega)
  have e1 : ((z * j : Nat) : Int) = (z : Int) * j := by simp
  have e2 : ((n * z : Nat) : Int) = (n : Int) * z := by simp
  rw [pieceS_iff]
  refine ⟨⟨by omega, by omega, by omega, by omega⟩, ?_⟩
  rw [hn.2.2.2.2.2, hi', show ((n : Int) * z).toNat = n * z by rw [← e2, Int.toNat_natCast], show ((i' : Int) + z * j).toNat = i' + z * j by rw [← e1, ← Int.natCast_add, Int.toNat_natCast]]
  simp only [Int.toNat_natCast]
  rw [List.drop_take, List.take_take, List.drop_drop]
  rw [show min z (n * z - z * j) = z by omega]
theorem takeS_get {b : List Int} {i need : Int} {keys : Nat} {rows : List (List Int)} (h : takeS b i need keys = some rows) :
    ∃ z n : Int, uS b i 2 = some z ∧ uS b (i + 2) 2 = some n ∧ need ≤ z ∧ 0 ≤ z ∧ (rows.length : Int) ≤ n ∧ ∀ (j : Nat) row, rows[j]? = some row → pieceS b (i + 10 + z * j) z = some row := by
  unfold takeS at h
  split at h
  · rename_i z n h1 h2
    split at h
    · rename_i hc
      obtain ⟨r, hr, rfl⟩ := Option.map_eq_some_iff.1 h
      have hn := rowsS_n hr
      refine ⟨z, n, h1, h2, hc.2, hn.2.1, ?_, fun j row hrow => ?_⟩
      · unfold endRows
        split <;> simp <;> omega
      · have hm : (cutRows r z.toNat n.toNat)[j]? = some row := by
          unfold endRows at hrow
          split at hrow
          · have hlt := (List.getElem?_eq_some_iff.1 hrow).1
            simp at hlt
            rw [cutRows_get _ _ _ _ (by omega)] at hrow
            rw [cutRows_get _ _ _ _ (by omega)]
            exact hrow
          · exact hrow
        have hlt := (List.getElem?_eq_some_iff.1 hm).1
        simp at hlt
        rw [cutRows_get _ _ _ _ (by omega)] at hm
        injection hm with hm
        obtain ⟨z', rfl⟩ := Int.eq_ofNat_of_zero_le hn.2.1
        obtain ⟨n', rfl⟩ := Int.eq_ofNat_of_zero_le hn.1
        obtain ⟨i', hi'⟩ := Int.eq_ofNat_of_zero_le hn.2.2.1
        simp only [Int.toNat_natCast] at hlt hm
        have e : z' * j + z' ≤ n' * z' := by
          rw [← Nat.mul_succ, Nat.mul_comm]; exact Nat.mul_le_mul_right _ (by omega)
        have e1 : ((z' * j : Nat) : Int) = (z' : Int) * j := by simp
        have e2 : ((n' * z' : Nat) : Int) = (n' : Int) * z' := by simp
        rw [pieceS_iff]
        refine ⟨⟨by omega, by omega, by omega, by omega⟩, ?_⟩
        rw [← hm, hn.2.2.2.2.2, hi', show ((n' : Int) * z').toNat = n' * z' by rw [← e2, Int.toNat_natCast], show ((i' : Int) + z' * j).toNat = i' + z' * j by rw [← e1, ← Int.natCast_add, Int.toNat_natCast]]
        simp only [Int.toNat_natCast]
        rw [List.drop_take, List.take_take, List.drop_drop]
        rw [show min z' (n' * z' - z' * j) = z' by omega]
    · cases h
  · cases h
def gU (b : List Int) (i n : Int) : Int := (uS b i n).getD (-1)
theorem gU_two {b : List Int} (hb : Byt b) (i : Int) : -1 ≤ gU b i 2 ∧ gU b i 2 < 65536 := by
  unfold gU
  cases h : uS b i 2 with
  | none => simp
  | some x => have := uS_two hb h; simp; omega
structure RP where
  first : Int
  last : Int
  pos : Int
  size : Int
  step : Int
def posS (i z : Int) (n : Nat) : List Int := (List.range n).map fun j => i + 10 + z * (j : Nat)
theorem posS_get (i z : Int) (n j : Nat) (h : j < n) : (posS i z n)[j]? = some (i + 10 + z * j) := by simp [posS, h]
@[simp] theorem posS_len (i z : Int) (n : Nat) : (posS i z n).length = n := by simp [posS]
def segR (b : List Int) (z : Int) (each : Bool) (p : Int) : Option RP :=
  if each then (if rowsB b.length (gU b (p + 4) 2) (gU b p 2 - gU b (p + 2) 2 + 1) z then some ⟨gU b (p + 2) 2, gU b p 2, gU b (p + 4) 2, z, z⟩ else none)
  else some ⟨gU b (p + 2) 2, gU b p 2, p + 4, z, 0⟩
def refSegS (b : List Int) (z : Int) (each : Bool) : Option (List RP) :=
  (takeS b 2 (if each then 6 else 4 + z) 2).bind fun rows => mapO (segR b z each) (posS 2 (gU b 2 2) rows.length)
def oneR (b : List Int) (z : Int) (p : Int) : RP := ⟨gU b p 2, gU b p 2, p + 2, z, 0⟩
def refOneS (b : List Int) (z : Int) : Option (List RP) :=
  (takeS b 2 (2 + z) 1).map fun rows => (posS 2 (gU b 2 2) rows.length).map (oneR b z)
def refTrimS (b : List Int) (i z : Int) : Option (List RP) :=
  (uS b i 2).bind fun f => (uS b (i + 2) 2).bind fun n =>
    if f + n ≤ 65536 ∧ rowsB b.length (i + 4) n z = true then some (if n = 0 then [] else [⟨f, f + n - 1, i + 4, z, z⟩]) else none
def refPartsS (b : List Int) (glyphs z fmt : Int) : Option (List RP) :=
  if fmt = 0 then (if rowsB b.length 2 glyphs z then some [⟨0, glyphs - 1, 2, z, z⟩] else none) else
  if fmt = 2 then refSegS b z false else
  if fmt = 4 then refSegS b z true else
  if fmt = 6 then refOneS b z else
  if fmt = 8 then refTrimS b 2 z else
  if fmt = 10 then (uS b 2 2).bind fun u => if u = 1 ∨ u = 2 ∨ u = 4 then refTrimS b 4 u else none
  else none
def goodR : List RP → Bool
  | [] => true
  | [r] => decide (r.first ≤ r.last)
  | r :: q :: l => decide (r.first ≤ r.last) && decide (r.last < q.first) && goodR (q :: l)
def refReadS (b : List Int) (glyphs z : Int) : Option (List RP) :=
  (refPartsS b glyphs z (gU b 0 2)).bind fun rs => if goodR rs then some rs else none
def PR (b : List Int) (p : Pt) (r : RP) : Prop := p.first = r.first ∧ p.last = r.last ∧ (∀ id, r.first ≤ id → id ≤ r.last → p.num id = uS b (r.pos + (id - r.first) * r.step) r.size) ∧ ((r.step = 0 ∧ p.vals.length = 1) ∨ (r.step ≠ 0 ∧ (p.vals.length : Int) = r.last - r.first + 1))
def Rel (b : List Int) : List Pt → List RP → Prop
  | [], [] => True
  | p :: ps, r :: rs => PR b p r ∧ Rel b ps rs
  | _, _ => False
def Bad (rs : List RP) : Prop := ∃ r, r ∈ rs ∧ r.last < r.first
theorem Bad.good {rs : List RP} (h : Bad rs) : goodR rs = false := by
  obtain ⟨r, hr, hlt⟩ := h
  induction rs with
  | nil => cases hr
  | cons a l ih =>
    rcases List.mem_cons.1 hr with rfl | hr
    · cases l with
      | nil => simp [goodR]; omega
      | cons q l => simp only [goodR, Bool.and_eq_false_iff, decide_eq_false_iff_not]; exact .inl (.inl (by omega))
    · have := ih hr
      cases l with
      | nil => cases hr
      | cons q l => simp only [goodR, this, Bool.and_false]
theorem mapO_rel {b : List Int} {f : List Int → Option Pt} {g : Int → Option RP} : ∀ (rows : List (List Int)) (ps : List Int), rows.length = ps.length →
    (∀ (j : Nat) row p, rows[j]? = some row → ps[j]? = some p → (∀ x, f row = some x → ∃ r, g p = some r ∧ PR b x r) ∧ (f row = none → g p = none ∨ ∃ r, g p = some r ∧ r.last < r.first)) →
    (∀ xs, mapO f rows = some xs → ∃ rs, mapO g ps = some rs ∧ Rel b xs rs) ∧ (mapO f rows = none → ∀ rs, mapO g ps = some rs → Bad rs)
  | [], [], _, _ => ⟨fun xs h => ⟨[], rfl, by injection h with h; subst h; trivial⟩, fun h => by cases h⟩
  | [], _ :: _, h, _ => by simp at h
  | _ :: _, [], h, _ => by simp at h
  | row :: rows, p :: ps, h, hs => by
    have h0 := hs 0 row p (by simp) (by simp)
    have ih := mapO_rel rows ps (by simpa using h) fun j r q h1 h2 => hs (j + 1) r q (by simpa using h1) (by simpa using h2)
    constructor
    · intro xs hx
      simp only [mapO] at hx
      obtain ⟨x, e1, hx⟩ := Option.bind_eq_some_iff.1 hx
      obtain ⟨xs', e2, rfl⟩ := Option.map_eq_some_iff.1 hx
      obtain ⟨r, g1, p1⟩ := h0.1 x e1
      obtain ⟨rs, g2, p2⟩ := ih.1 xs' e2
      exact ⟨r :: rs, by simp [mapO, g1, g2], p1, p2⟩
    · intro hn rs hr
      simp only [mapO] at hr
      obtain ⟨r, e1, hr⟩ := Option.bind_eq_some_iff.1 hr
      obtain ⟨rs', e2, rfl⟩ := Option.map_eq_some_iff.1 hr
      cases hf : f row with
      | none =>
        rcases h0.2 hf with h1 | ⟨r', h1, h2⟩
        · rw [h1] at e1; cases e1
        · rw [h1] at e1; injection e1 with e1; subst e1
          exact ⟨r', by simp, h2⟩
      | some x =>
        simp only [mapO, hf, Option.bind_some, Option.map_eq_none_iff] at hn
        obtain ⟨q, hq, hlt⟩ := ih.2 hn rs' e2
        exact ⟨q, by simp [hq], hlt⟩
theorem mapO_pure {α β : Type} (f : α → β) : ∀ l : List α, mapO (fun x => some (f x)) l = some (l.map f)
  | [] => rfl
  | x :: l => by simp [mapO, mapO_pure f l]
theorem gU_some {b : List Int} {i n x : Int} (h : uS b i n = some x) : gU b i n = x := by unfold gU; rw [h]; rfl
theorem row_two {b row : List Int} {p z : Int} (h : pieceS b p z = some row) {x : Int} (hx : 0 ≤ x) {y : Int} (hy : 0 ≤ y) (hxy : x + y ≤ z) : uS row x y = uS b (p + x) y ∧ ∃ n, uS b (p + x) y = some n := by
  refine ⟨uS_sub h hx hy hxy, ?_⟩
  obtain ⟨⟨h1, h2, h3, h4⟩, _⟩ := pieceS_iff.1 h
  unfold uS
  rw [pieceS_iff.2 ⟨by omega, rfl⟩]
  exact ⟨_, rfl⟩
theorem list_num {b : List Int} {i f l z : Int} {vs : List Int} (hz : 0 < z) (h : listS b i (l - f + 1) z = some vs) (hlen : (vs.length : Int) = l - f + 1) : PR b ⟨f, l, vs⟩ ⟨f, l, i, z, z⟩ := by
  refine ⟨rfl, rfl, fun id h1 h2 => ?_, .inr ⟨by dsimp only; omega, hlen⟩⟩
  dsimp only at h1 h2 ⊢
  unfold Pt.num
  dsimp only
  rw [hlen, show min (id - f) (l - f + 1 - 1) = id - f by omega]
  have := listS_get hz h (id - f).toNat (by omega)
  rw [this]
  congr 2
  rw [show (((id - f).toNat : Nat) : Int) = id - f by omega]
theorem seg_rel {b row : List Int} {p z s : Int} {each : Bool} (hb : Byt b) (hz : z = 2 ∨ z = 4) (hrow : pieceS b p s = some row) (hs : (if each then 6 else 4 + z) ≤ s) :
    (∀ x, segP b z each row = some x → ∃ r, segR b z each p = some r ∧ PR b x r) ∧ (segP b z each row = none → segR b z each p = none ∨ ∃ r, segR b z each p = some r ∧ r.last < r.first) := by
  have hs6 : 6 ≤ s := by cases each <;> simp at hs <;> omega
  obtain ⟨e2, f, hf⟩ := row_two hrow (x := 2) (y := 2) (by omega) (by omega) (by omega)
  obtain ⟨e0, l, hl⟩ := row_two hrow (x := 0) (y := 2) (by omega) (by omega) (by omega)
  obtain ⟨e4, a, ha⟩ := row_two hrow (x := 4) (y := 2) (by omega) (by omega) (by omega)
  rw [Int.add_zero] at e0 hl
  unfold segP segR
  rw [e2, e0, hf, hl, gU_some hf, gU_some hl]
  simp only [Option.bind_some]
  cases each with
  | false =>
    simp at hs
    obtain ⟨ez, x, hx⟩ := row_two hrow (x := 4) (y := z) (by omega) (by omega) (by omega)
    simp only [Bool.false_eq_true, if_false]
    by_cases h : f ≤ l
    · rw [if_pos h, ez, hx]
      refine ⟨fun y hy => ?_, fun hn => by cases hn⟩
      injection hy with hy
      subst hy
      refine ⟨_, rfl, rfl, rfl, fun id h1 h2 => ?_, .inl ⟨rfl, rfl⟩⟩
      dsimp only at h1 h2 ⊢
      rw [Int.mul_zero, Int.add_zero, hx]
      unfold Pt.num
      simp
      rw [show (min (id - f) 0).toNat = 0 by omega]
      rfl
    · rw [if_neg h]
      exact ⟨fun y hy => (by cases hy), fun _ => .inr ⟨_, rfl, by dsimp only; omega⟩⟩
  | true =>
    simp only [if_true]
    rw [e4, ha, gU_some ha]
    simp only [Option.bind_some]
    have hbl := listS_isSome (b := b) (i := a) (n := l - f + 1) (z := z) (by omega)
    by_cases h : f ≤ l
    · rw [if_pos h]
      cases hv : listS b a (l - f + 1) z with
      | none =>
        rw [hv] at hbl
        rw [if_neg (by rw [← hbl]; simp)]
        exact ⟨fun y hy => (by cases hy), fun _ => .inl rfl⟩
      | some vs =>
        rw [hv] at hbl
        rw [if_pos (by rw [← hbl]; rfl)]
        refine ⟨fun y hy => ?_, fun hn => by cases hn⟩
        injection hy with hy
        subst hy
        exact ⟨_, rfl, list_num (by omega) hv (listS_spec hb (by omega) hv).2.1⟩
    · rw [if_neg h]
      refine ⟨fun y hy => (by cases hy), fun _ => ?_⟩
      split
      · exact .inr ⟨_, rfl, by dsimp only; omega⟩
      · exact .inl rfl
def Alike (b : List Int) (o : Option (List Pt)) (q : Option (List RP)) : Prop := (∀ xs, o = some xs → ∃ rs, q = some rs ∧ Rel b xs rs) ∧ (o = none → ∀ rs, q = some rs → Bad rs)
theorem Alike.none {b : List Int} : Alike b none none := ⟨fun xs h => (by cases h), fun _ rs h => by cases h⟩
theorem Alike.one {b : List Int} {p : Pt} {r : RP} (h : PR b p r) : Alike b (some [p]) (some [r]) := ⟨fun xs h' => ⟨_, rfl, by injection h' with h'; subst h'; exact ⟨h, trivial⟩⟩, fun h => by cases h⟩
theorem segs_rel {b : List Int} (hb : Byt b) {z : Int} (hz : z = 2 ∨ z = 4) (each : Bool) : Alike b (segS b z each) (refSegS b z each) := by
  unfold segS refSegS
  cases h : takeS b 2 (if each then 6 else 4 + z) 2 with
  | none => exact .none
  | some rows =>
    obtain ⟨s, n, h1, h2, h3, h4, h5, h6⟩ := takeS_get h
    simp only [Option.bind_some]
    rw [gU_some h1]
    refine mapO_rel rows _ (by simp) fun j row p hr hp => ?_
    have hlt := (List.getElem?_eq_some_iff.1 hr).1
    rw [posS_get _ _ _ _ hlt] at hp
    injection hp with hp
    subst hp
    exact seg_rel hb hz (h6 j row hr) h3
theorem ones_rel {b : List Int} {z : Int} (hz : z = 2 ∨ z = 4) : Alike b (oneS b z) (refOneS b z) := by
  unfold oneS refOneS
  cases h : takeS b 2 (2 + z) 1 with
  | none => exact .none
  | some rows =>
    obtain ⟨s, n, h1, h2, h3, h4, h5, h6⟩ := takeS_get h
    simp only [Option.bind_some, Option.map_some]
    rw [gU_some h1, ← mapO_pure]
    refine mapO_rel rows _ (by simp) fun j row p hr hp => ?_
    have hlt := (List.getElem?_eq_some_iff.1 hr).1
    rw [posS_get _ _ _ _ hlt] at hp
    injection hp with hp
    subst hp
    have hp := h6 j row hr
    obtain ⟨e0, f, hf⟩ := row_two hp (x := 0) (y := 2) (by omega) (by omega) (by omega)
    obtain ⟨e2, x, hx⟩ := row_two hp (x := 2) (y := z) (by omega) (by omega) (by omega)
    rw [Int.add_zero] at e0 hf
    unfold oneP oneR
    rw [e0, e2, hf, hx, gU_some hf]
    refine ⟨fun y hy => ?_, fun hn => by cases hn⟩
    simp at hy
    subst hy
    refine ⟨_, rfl, rfl, rfl, fun id h1 h2 => ?_, .inl ⟨rfl, rfl⟩⟩
    dsimp only at h1 h2 ⊢
    rw [Int.mul_zero, Int.add_zero, hx]
    unfold Pt.num
    simp
    rw [show (min (id - f) 0).toNat = 0 by omega]
    rfl
theorem trims_rel {b : List Int} (hb : Byt b) {i z : Int} (hz : z = 1 ∨ z = 2 ∨ z = 4) : Alike b (trimS b i z) (refTrimS b i z) := by
  unfold trimS refTrimS
  cases h1 : uS b i 2 with
  | none => exact .none
  | some f =>
    cases h2 : uS b (i + 2) 2 with
    | none => exact .none
    | some n =>
      simp only [Option.bind_some]
      have hbl := listS_isSome (b := b) (i := i + 4) (n := n) (z := z) (by omega)
      by_cases h : f + n ≤ 65536
      · rw [if_pos h]
        cases hv : listS b (i + 4) n z with
        | none =>
          rw [hv] at hbl
          rw [if_neg (by rw [← hbl]; simp)]
          exact .none
        | some vs =>
          rw [hv] at hbl
          rw [if_pos ⟨h, by rw [← hbl]; rfl⟩]
          simp only [Option.map_some]
          by_cases h0 : n = 0
          · rw [if_pos h0, if_pos h0]
            exact ⟨fun xs hx => ⟨[], rfl, by injection hx with hx; subst hx; trivial⟩, fun h => by cases h⟩
          · rw [if_neg h0, if_neg h0]
            have hlen := (listS_spec hb (by omega) hv).2.1
            exact .one (list_num (by omega) (by rw [show f + n - 1 - f + 1 = n by omega]; exact hv) (by omega))
      · rw [if_neg h, if_neg (fun hc => h hc.1)]
        exact .none
theorem parts_rel {b : List Int} (hb : Byt b) {g z : Int} (fmt : Int) (hz : z = 2 ∨ z = 4) : Alike b (partsS b g z fmt) (refPartsS b g z fmt) := by
  unfold partsS refPartsS
  split
  · have hbl := listS_isSome (b := b) (i := 2) (n := g) (z := z) (by omega)
    cases hv : listS b 2 g z with
    | none =>
      rw [hv] at hbl
      rw [if_neg (by rw [← hbl]; simp)]
      exact .none
    | some vs =>
      rw [hv] at hbl
      rw [if_pos (by rw [← hbl]; rfl)]
      have hlen := (listS_spec hb (by omega) hv).2.1
      exact .one (list_num (by omega) (by rw [show g - 1 - 0 + 1 = g by omega]; exact hv) (by omega))
  split
  · exact segs_rel hb hz false
  split
  · exact segs_rel hb hz true
  split
  · exact ones_rel hz
  split
  · exact trims_rel hb (by omega)
  split
  · cases h : uS b 2 2 with
    | none => exact .none
    | some u =>
      simp only [Option.bind_some]
      by_cases hu : u = 1 ∨ u = 2 ∨ u = 4
      · rw [if_pos hu, if_pos hu]; exact trims_rel hb hu
      · rw [if_neg hu, if_neg hu]; exact .none
  · exact .none
theorem Rel.good {b : List Int} : ∀ {ps : List Pt} {rs : List RP}, Rel b ps rs → (∀ p, p ∈ ps → p.ok) → goodR rs = risesS ps
  | [], [], _, _ => rfl
  | [], _ :: _, h, _ => by cases h
  | _ :: _, [], h, _ => by cases h
  | [p], [r], h, hok => by
    have h1 := (hok p (by simp)).2.1
    have h2 := h.1
    rw [h2.1, h2.2.1] at h1
    simp [goodR, risesS, h1]
  | [p], _ :: _ :: _, h, _ => by cases h.2
  | _ :: _ :: _, [_], h, _ => by cases h.2
  | p :: p' :: ps, r :: r' :: rs, h, hok => by
    have ih := Rel.good (ps := p' :: ps) (rs := r' :: rs) h.2 fun q hq => hok q (by simp at hq ⊢; exact .inr hq)
    have h1 := (hok p (by simp)).2.1
    have h2 := h.1
    have h3 := h.2.1
    rw [h2.1, h2.2.1] at h1
    rw [← h2.2.1] at h1
    simp only [goodR, risesS, ih, ← h2.2.1, ← h3.1, decide_eq_true h1, Bool.true_and]
theorem look_ref {b : List Int} (hb : Byt b) {g z : Int} (h1 : 1 ≤ g) (h2 : g ≤ 65535) (hz : z = 2 ∨ z = 4) :
    (∀ x, lookS b g z = some x → ∃ rs, refReadS b g z = some rs ∧ Rel b x.2 rs) ∧ (lookS b g z = none → refReadS b g z = none) := by
  unfold lookS refReadS
  cases h : uS b 0 2 with
  | none =>
    have : gU b 0 2 = -1 := by unfold gU; rw [h]; rfl
    rw [this]
    exact ⟨fun x hx => (by cases hx), fun _ => rfl⟩
  | some fmt =>
    rw [gU_some h]
    have hr := parts_rel hb (g := g) fmt hz
    simp only [Option.bind_some]
    cases hp : partsS b g z fmt with
    | none =>
      refine ⟨fun x hx => by simp at hx, fun _ => ?_⟩
      cases hq : refPartsS b g z fmt with
      | none => rfl
      | some rs =>
        have := (hr.2 hp rs hq).good
        simp [this]
    | some ps =>
      obtain ⟨rs, hq, hrel⟩ := hr.1 ps hp
      have hg := hrel.good (partsS_ok hb h1 h2 hz hp)
      rw [hq]
      simp only [Option.bind_some, hg]
      cases risesS ps with
      | true => exact ⟨fun x hx => by simp at hx; subst hx; exact ⟨rs, rfl, hrel⟩, fun hn => by simp at hn⟩
      | false => exact ⟨fun x hx => by simp at hx, fun _ => rfl⟩
end Go.Sw
end
section
namespace Go.Sw
open Go.RowKit
def bytesOf (n : Int) : Nat → List Int
  | 0 => []
  | k + 1 => (n / 256 ^ k) % 256 :: bytesOf n k
@[simp] theorem bytesOf_len (n : Int) : ∀ k, (bytesOf n k).length = k
  | 0 => rfl
  | k + 1 => by simp [bytesOf, bytesOf_len n k]
theorem bytesOf_byt (n : Int) : ∀ k, Byt (bytesOf n k)
  | 0 => fun x hx => by simp [bytesOf] at hx
  | k + 1 => fun x hx => by
    simp only [bytesOf, List.mem_cons] at hx
    rcases hx with rfl | hx
    · omega
    · exact bytesOf_byt n k x hx
def headS (fmt z n : Int) : List Int := bytesOf fmt 2 ++ (bytesOf z 2 ++ (bytesOf n 2 ++ [0, 0, 0, 0, 0, 0]))
@[simp] theorem headS_len (fmt z n : Int) : (headS fmt z n).length = 12 := by simp [headS]
theorem Byt.app {a b : List Int} (ha : Byt a) (hb : Byt b) : Byt (a ++ b) := fun x hx => by
  rcases List.mem_append.1 hx with h | h
  · exact ha x h
  · exact hb x h
theorem Byt.flat {l : List (List Int)} (h : ∀ r, r ∈ l → Byt r) : Byt l.flatten := fun x hx => by
  obtain ⟨r, hr, hx⟩ := List.mem_flatten.1 hx
  exact h r hr x hx
theorem Byt.nil : Byt [] := fun x hx => by cases hx
theorem flat_len {z : Nat} : ∀ {rs : List (List Int)}, (∀ r, r ∈ rs → r.length = z) → rs.flatten.length = rs.length * z
  | [], _ => by simp
  | r :: rs, h => by
    have h1 := h r (by simp)
    have h2 := flat_len (rs := rs) fun q hq => h q (by simp [hq])
    simp only [List.flatten_cons, List.length_append, List.length_cons, h1, h2, Nat.succ_mul]
    omega
structure Pr where
  id : Int
  x : Int
def Pr.ok (p : Pr) : Prop := 0 ≤ p.id ∧ p.id < 65536 ∧ 0 ≤ p.x ∧ p.x < 65536
end Go.Sw
end
section
namespace Go.Sw
open Go.RowKit
structure En where
  next : Int
  flags : Int
  a : Int
  b : Int
theorem mapO_append {α β : Type} (f : α → Option β) : ∀ (l m : List α), mapO f (l ++ m) = (mapO f l).bind fun x => (mapO f m).map fun y => x ++ y
  | [], m => by
    simp only [List.nil_append, mapO, Option.bind_some]
    cases mapO f m <;> rfl
  | x :: l, m => by
    simp only [List.cons_append, mapO, mapO_append f l m]
    cases f x with
    | none => rfl
    | some y =>
      simp only [Option.bind_some]
      cases mapO f l with
      | none => rfl
      | some r =>
        simp only [Option.bind_some, Option.map_some]
        cases mapO f m <;> rfl
theorem mapO_range {β : Type} (f : Nat → Option β) (n : Nat) : mapO f (List.range (n + 1)) = (mapO f (List.range n)).bind fun r => (f n).map fun y => r ++ [y] := by
  rw [List.range_succ, mapO_append]
  congr 1
  funext r
  simp only [mapO]
  cases f n <;> rfl
theorem mapO_prefix {β : Type} {f : Nat → Option β} {n m : Nat} (h : n ≤ m) {r : List β} (hr : mapO f (List.range m) = some r) : mapO f (List.range n) = some (r.take n) := by
  obtain ⟨d, rfl⟩ := Nat.exists_eq_add_of_le h
  rw [List.range_add, mapO_append] at hr
  obtain ⟨x, hx, hr⟩ := Option.bind_eq_some_iff.1 hr
  obtain ⟨y, hy, rfl⟩ := Option.map_eq_some_iff.1 hr
  have := mapO_len hx
  rw [hx, List.take_left' (by simpa using this)]
theorem mapO_at {β : Type} {f : Nat → Option β} {n : Nat} {r : List β} (hr : mapO f (List.range n) = some r) {i : Nat} (hi : i < n) : ∃ y, f i = some y ∧ r[i]? = some y := by
  have hl := mapO_len hr
  have hlt : i < r.length := by rw [hl, List.length_range]; exact hi
  obtain ⟨x, hx, hf⟩ := mapO_get hr (List.getElem?_eq_getElem hlt)
  rw [List.getElem?_range hi] at hx
  injection hx with hx
  subst hx
  exact ⟨_, hf, List.getElem?_eq_getElem hlt⟩
theorem mapO_all_some {β : Type} {f : Nat → Option β} : ∀ {n : Nat}, (∀ i, i < n → (f i).isSome = true) → ∃ r, mapO f (List.range n) = some r
  | 0, _ => ⟨[], rfl⟩
  | n + 1, h => by
    obtain ⟨r, hr⟩ := mapO_all_some (n := n) fun i hi => h i (by omega)
    obtain ⟨y, hy⟩ := Option.isSome_iff_exists.1 (h n (by omega))
    exact ⟨r ++ [y], by rw [mapO_range, hr, Option.bind_some, hy, Option.map_some]⟩
def needL (l : List Int) : Int := l.foldl (fun m x => max m (x + 1)) 0
theorem foldl_max1 (l : List Int) : ∀ m : Int, l.foldl (fun m x => max m (x + 1)) m = max m (l.foldl (fun m x => max m (x + 1)) (0 : Int)) ∨ m < 0 := by
  induction l with
  | nil => intro m; simp; omega
  | cons x l ih =>
    intro m
    rcases Int.lt_or_le m 0 with h | h
    · exact .inr h
    · left
      simp only [List.foldl_cons]
      rcases ih (max m (x + 1)) with h1 | h1
      · rcases ih (max 0 (x + 1)) with h2 | h2
        · rw [h1, h2]; omega
        · omega
      · omega
theorem needL_snoc (l : List Int) (x : Int) : needL (l ++ [x]) = max (needL l) (x + 1) := by simp [needL]
theorem needL_nonneg : ∀ l : List Int, 0 ≤ needL l := fun l => by
  have : ∀ (l : List Int) (m : Int), m ≤ l.foldl (fun m x => max m (x + 1)) m := by
    intro l
    induction l with
    | nil => intro m; exact Int.le_refl _
    | cons x l ih => intro m; exact Int.le_trans (by omega) (ih (max m (x + 1)))
  exact this l 0
theorem needL_append (l m : List Int) : needL (l ++ m) = max (needL l) (needL m) := by
  unfold needL
  rw [List.foldl_append]
  have h0 := needL_nonneg l
  unfold needL at h0
  rcases foldl_max1 m (l.foldl (fun m x => max m (x + 1)) 0) with h | h
  · exact h
  · omega
theorem needL_le {l : List Int} {x : Int} (h : x ∈ l) : x < needL l := by
  obtain ⟨a, b, rfl⟩ := List.append_of_mem h
  rw [needL_append, needL_append' (x := x) (b := b)]
  omega
where needL_append' {x : Int} {b : List Int} : needL (x :: b) = max (x + 1) (needL b) := by
        have := needL_append [x] b
        rw [List.singleton_append] at this
        rw [this]
        have : needL [x] = max 0 (x + 1) := rfl
        have := needL_nonneg b
        omega
theorem needL_lt {l : List Int} {n : Int} (hn : 0 ≤ n) (h : ∀ x, x ∈ l → x < n) : needL l ≤ n := by
  induction l with
  | nil => exact hn
  | cons x l ih =>
    have h1 := h x (by simp)
    have h2 := ih fun y hy => h y (by simp [hy])
    have := needL_append [x] l
    rw [List.singleton_append] at this
    rw [this]
    have : needL [x] = max 0 (x + 1) := rfl
    omega
def rowK (rv : List Int) (n : Int) (k : Nat) : Option (List Int) := listS rv (2 * n * k) n 2
def entOf (w : Int) (r : List Int) : En := ⟨gU r 0 2, gU r 2 2, if 0 < w then gU r 4 2 else 0, if 1 < w then gU r 6 2 else 0⟩
def entK (ev : List Int) (w : Int) (k : Nat) : Option En := (pieceS ev ((4 + 2 * w) * k) (4 + 2 * w)).map (entOf w)
def rowsTo (rv : List Int) (n : Int) (m : Nat) : Option (List (List Int)) := mapO (rowK rv n) (List.range m)
def entsTo (ev : List Int) (w : Int) (m : Nat) : Option (List En) := mapO (entK ev w) (List.range m)
def needR (rs : List (List Int)) : Int := needL rs.flatten
def needE (es : List En) : Int := max 2 (needL (es.map En.next))
def closeS (rv ev : List Int) (n w : Int) : Nat → Nat → Option (List (List Int) × List En)
  | 0, _ => none
  | f + 1, s => (rowsTo rv n s).bind fun rs => (entsTo ev w (needR rs).toNat).bind fun es => if (needE es).toNat ≤ s then some (rs, es) else closeS rv ev n w f (needE es).toNat
def closeA (rv ev : List Int) (n w : Int) (s : Nat) : Option (List (List Int) × List En) := closeS rv ev n w (65538 - s) s
theorem entK_next {ev : List Int} (hb : Byt ev) {w : Int} {k : Nat} {e : En} (h : entK ev w k = some e) : -1 ≤ e.next ∧ e.next < 65536 := by
  unfold entK at h
  obtain ⟨r, hr, rfl⟩ := Option.map_eq_some_iff.1 h
  exact gU_two (hb.piece hr).1 0
theorem needE_le {ev : List Int} (hb : Byt ev) {w : Int} {m : Nat} {es : List En} (h : entsTo ev w m = some es) : 2 ≤ needE es ∧ needE es ≤ 65536 := by
  refine ⟨by unfold needE; omega, ?_⟩
  have : needL (es.map En.next) ≤ 65536 := needL_lt (by omega) fun x hx => by
    obtain ⟨e, he, rfl⟩ := List.mem_map.1 hx
    obtain ⟨i, hi⟩ := List.getElem?_of_mem he
    obtain ⟨k, _, hk⟩ := mapO_get h hi
    exact (entK_next hb hk).2
  unfold needE
  omega
theorem closeS_fuel {rv ev : List Int} (hb : Byt ev) {n w : Int} : ∀ (f g s : Nat), 65537 - s ≤ f → 65537 - s ≤ g → s ≤ 65536 → closeS rv ev n w f s = closeS rv ev n w g s
  | 0, _, s, h1, _, h3 => by omega
  | _ + 1, 0, s, _, h2, h3 => by omega
  | f + 1, g + 1, s, h1, h2, h3 => by
    simp only [closeS]
    cases rowsTo rv n s with
    | none => rfl
    | some rs =>
      simp only [Option.bind_some]
      cases he : entsTo ev w (needR rs).toNat with
      | none => rfl
      | some es =>
        simp only [Option.bind_some]
        have := needE_le hb he
        split
        · rfl
        · exact closeS_fuel hb f g _ (by omega) (by omega) (by omega)
theorem closeA_eq {rv ev : List Int} (hb : Byt ev) {n w : Int} {s : Nat} (hs : s ≤ 65536) : closeA rv ev n w s =
    (rowsTo rv n s).bind fun rs => (entsTo ev w (needR rs).toNat).bind fun es => if (needE es).toNat ≤ s then some (rs, es) else closeA rv ev n w (needE es).toNat := by
  unfold closeA
  rw [show 65538 - s = (65537 - s) + 1 by omega]
  simp only [closeS]
  cases rowsTo rv n s with
  | none => rfl
  | some rs =>
    simp only [Option.bind_some]
    cases he : entsTo ev w (needR rs).toNat with
    | none => rfl
    | some es =>
      simp only [Option.bind_some]
      have := needE_le hb he
      split
      · rfl
      · exact closeS_fuel hb _ _ _ (by omega) (by omega) (by omega)
structure Mach where
  classes : Int
  tab : Int × List Pt
  rows : List (List Int)
  ents : List En
def machS (b : List Int) (g w : Int) : Option Mach :=
  (uS b 0 4).bind fun n => if 4 ≤ n ∧ n ≤ 65535 then
    (uS b 4 4).bind fun i => (restS b i).bind fun tb => (lookS tb g 2).bind fun tab =>
    (uS b 8 4).bind fun j => (restS b j).bind fun rv => (uS b 12 4).bind fun k => (restS b k).bind fun ev =>
    (closeA rv ev n w 2).map fun x => ⟨n, tab, x.1, x.2⟩
  else none
def stepS (m : Mach) (s c : Int) : Option En := if 0 ≤ s ∧ s < m.rows.length ∧ 0 ≤ c ∧ c < m.classes then (m.rows[s.toNat]?).bind fun r => (r[c.toNat]?).bind fun x => m.ents[x.toNat]? else none
structure Mach.ok (m : Mach) : Prop where
  cl : 4 ≤ m.classes ∧ m.classes ≤ 65535
  pts : ∀ p, p ∈ m.tab.2 → p.ok
  rise : risesS m.tab.2 = true
  plen : m.tab.2.length < 2 ^ 31
  two : 2 ≤ m.rows.length ∧ m.rows.length ≤ 65536
  row : ∀ r, r ∈ m.rows → (r.length : Int) = m.classes ∧ ∀ x, x ∈ r → 0 ≤ x ∧ x < m.ents.length
  ent : ∀ e, e ∈ m.ents → 0 ≤ e.next ∧ e.next < m.rows.length ∧ 0 ≤ e.flags ∧ e.flags < 65536 ∧ 0 ≤ e.a ∧ e.a < 65536 ∧ 0 ≤ e.b ∧ e.b < 65536
  elen : m.ents.length ≤ 65536
theorem piece_gU {b r : List Int} (hb : Byt b) {p z : Int} (h : pieceS b p z = some r) {i : Int} (h0 : 0 ≤ i) (hi : i + 2 ≤ z) : uS r i 2 = some (gU r i 2) ∧ 0 ≤ gU r i 2 ∧ gU r i 2 < 65536 := by
  obtain ⟨e, x, hx⟩ := row_two h h0 (y := 2) (by omega) hi
  rw [hx] at e
  rw [gU_some e]
  have := uS_two (hb.piece h).1 e
  exact ⟨e, this⟩
theorem entK_ok {ev : List Int} (hb : Byt ev) {w : Int} (hw : 0 ≤ w ∧ w ≤ 2) {k : Nat} {e : En} (h : entK ev w k = some e) : 0 ≤ e.next ∧ 0 ≤ e.flags ∧ e.flags < 65536 ∧ 0 ≤ e.a ∧ e.a < 65536 ∧ 0 ≤ e.b ∧ e.b < 65536 := by
  unfold entK at h
  obtain ⟨r, hr, rfl⟩ := Option.map_eq_some_iff.1 h
  have g := fun i h0 h1 => (piece_gU hb hr (i := i) h0 h1).2
  unfold entOf
  dsimp only
  have g0 := g 0 (by omega) (by omega)
  have g2 := g 2 (by omega) (by omega)
  refine ⟨g0.1, g2.1, g2.2, ?_⟩
  by_cases h1 : 0 < w
  · have g4 := g 4 (by omega) (by omega)
    rw [if_pos h1]
    by_cases h2 : 1 < w
    · have g6 := g 6 (by omega) (by omega)
      rw [if_pos h2]
      omega
    · rw [if_neg h2]; omega
  · rw [if_neg h1, if_neg (by omega)]; omega
theorem closeS_ok {rv ev : List Int} (hr : Byt rv) (hb : Byt ev) {n w : Int} (hn : 0 ≤ n) (hw : 0 ≤ w ∧ w ≤ 2) : ∀ (f s : Nat) x, 2 ≤ s → s ≤ 65536 → closeS rv ev n w f s = some x →
    (2 ≤ x.1.length ∧ x.1.length ≤ 65536) ∧ (∀ r, r ∈ x.1 → (r.length : Int) = n ∧ ∀ y, y ∈ r → 0 ≤ y ∧ y < x.2.length) ∧ (∀ e, e ∈ x.2 → e.next < x.1.length) ∧ (∀ e, e ∈ x.2 → ∃ k, entK ev w k = some e) ∧ x.2.length ≤ 65536 ∧
    rowsTo rv n x.1.length = some x.1 ∧ entsTo ev w x.2.length = some x.2 ∧ (x.2.length : Int) = needR x.1 ∧ needE x.2 ≤ x.1.length
  | 0, _, _, _, _, h => by cases h
  | f + 1, s, x, h2, h3, h => by
    simp only [closeS] at h
    obtain ⟨rs, e1, h⟩ := Option.bind_eq_some_iff.1 h
    obtain ⟨es, e2, h⟩ := Option.bind_eq_some_iff.1 h
    have hE := needE_le hb e2
    split at h
    · rename_i hs
      injection h with h
      subst h
      dsimp only
      have l1 : rs.length = s := by rw [mapO_len e1, List.length_range]
      have l2 : es.length = (needR rs).toNat := by rw [mapO_len e2, List.length_range]
      have hnn := needL_nonneg rs.flatten
      have hrow : ∀ r, r ∈ rs → (r.length : Int) = n ∧ ∀ y, y ∈ r → 0 ≤ y ∧ y < 65536 := fun r hrm => by
        obtain ⟨i, hi⟩ := List.getElem?_of_mem hrm
        obtain ⟨k, _, hk⟩ := mapO_get e1 hi
        unfold rowK listS at hk
        obtain ⟨q, hq, rfl⟩ := Option.map_eq_some_iff.1 hk
        have hqb := (hr.piece (rowsS_piece hq)).1
        refine ⟨by simp; omega, fun y hy => ?_⟩
        obtain ⟨c, hc, rfl⟩ := List.mem_map.1 hy
        obtain ⟨h5, h6⟩ := cutRows_byt hqb _ _ hc
        have := num_bound c h5
        have hp : (256 : Int) ^ c.length ≤ 256 ^ 2 := by
          have : c.length ≤ 2 := h6
          match hcl : c.length, this with
          | 0, _ => decide
          | 1, _ => decide
          | 2, _ => decide
        omega
      refine ⟨⟨by omega, by omega⟩, fun r hrm => ⟨(hrow r hrm).1, fun y hy => ⟨((hrow r hrm).2 y hy).1, ?_⟩⟩, fun e he => ?_, fun e he => ?_, ?_, by rw [l1]; exact e1, by rw [l2]; exact e2, by unfold needR at l2 ⊢; omega, by omega⟩
      · have : y < needL rs.flatten := needL_le (List.mem_flatten.2 ⟨r, hrm, hy⟩)
        rw [l2]; unfold needR; omega
      · have : e.next < needL (es.map En.next) := needL_le (List.mem_map.2 ⟨e, he, rfl⟩)
        unfold needE at hs
        omega
      · obtain ⟨i, hi⟩ := List.getElem?_of_mem he
        obtain ⟨k, _, hk⟩ := mapO_get e2 hi
        exact ⟨_, hk⟩
      · rw [l2]
        have : needL rs.flatten ≤ 65536 := needL_lt (by omega) fun y hy => by
          obtain ⟨r, hrm, hy⟩ := List.mem_flatten.1 hy
          exact ((hrow r hrm).2 y hy).2
        unfold needR
        omega
    · exact closeS_ok hr hb hn hw f _ x (by omega) (by omega) h
theorem Byt.rest {b r : List Int} (hb : Byt b) {i : Int} (h : restS b i = some r) : Byt r := by
  unfold restS at h
  split at h
  · injection h with h
    subst h
    exact fun x hx => hb x (List.mem_of_mem_drop hx)
  · cases h
theorem machS_ok {b : List Int} (hb : Byt b) {g w : Int} (h1 : 1 ≤ g) (h2 : g ≤ 65535) (hw : 0 ≤ w ∧ w ≤ 2) {m : Mach} (h : machS b g w = some m) : m.ok := by
  unfold machS at h
  obtain ⟨n, _, h⟩ := Option.bind_eq_some_iff.1 h
  split at h
  rotate_left
  · cases h
  rename_i hn
  obtain ⟨i, _, h⟩ := Option.bind_eq_some_iff.1 h
  obtain ⟨tb, htb, h⟩ := Option.bind_eq_some_iff.1 h
  obtain ⟨tab, htab, h⟩ := Option.bind_eq_some_iff.1 h
  obtain ⟨j, _, h⟩ := Option.bind_eq_some_iff.1 h
  obtain ⟨rv, hrv, h⟩ := Option.bind_eq_some_iff.1 h
  obtain ⟨k, _, h⟩ := Option.bind_eq_some_iff.1 h
  obtain ⟨ev, hev, h⟩ := Option.bind_eq_some_iff.1 h
  obtain ⟨x, hx, rfl⟩ := Option.map_eq_some_iff.1 h
  have hl := lookS_ok (hb.rest htb) h1 h2 (.inl rfl) htab
  have hpl := lookS_len (hb.rest htb) htab
  obtain ⟨c1, c2, c3, c4, c5, _⟩ := closeS_ok (hb.rest hrv) (hb.rest hev) (by omega) hw _ _ x (by omega) (by omega) hx
  refine ⟨hn, hl.2.1, hl.2.2, hpl, c1, c2, fun e he => ?_, c5⟩
  obtain ⟨k, hk⟩ := c4 e he
  have := entK_ok (hb.rest hev) hw hk
  exact ⟨this.1, c3 e he, this.2⟩
end Go.Sw
end
section
namespace Go.Sw
open Go.RowKit
@[simp] theorem neb_4 (a b : Bool) (h : Heap) : binR Prog .neq 4 (.bool a) (.bool b) h = .ok (.bool (a != b)) h := by cases a <;> cases b <;> kernel_rfl
@[simp] theorem eqb_4 (a b : Bool) (h : Heap) : binR Prog .eql 4 (.bool a) (.bool b) h = .ok (.bool (a == b)) h := by cases a <;> cases b <;> kernel_rfl
section
variable {α β γ δ : Type} {E : Heap → Prop} {o : Option β} {f : β → Value} {r : Res Value} {H : Heap} {Q : δ → γ → Heap → Prop}
theorem Cp.call {K : Value → Heap → Res γ} {g : β → Option δ} (hr : r = orF o f H) (hE : E H) (hk : ∀ b, o = some b → Cp failV E (K (f b) H) (g b) Q) : Cp failV E (r.bind K) (o.bind g) Q := by
  subst hr
  cases o with
  | none => exact ⟨H, rfl, hE⟩
  | some b => exact hk b rfl
theorem Cp.callM {K : Value → Heap → Res γ} {g : β → δ} (hr : r = orF o f H) (hE : E H) (hk : ∀ b, o = some b → Cp failV E (K (f b) H) (some (g b)) Q) : Cp failV E (r.bind K) (o.map g) Q := by
  subst hr
  cases o with
  | none => exact ⟨H, rfl, hE⟩
  | some b => exact hk b rfl
theorem Cp.callL {Q : β → γ → Heap → Prop} {K : Value → Heap → Res γ} (hr : r = orF o f H) (hE : E H) (hk : ∀ b, o = some b → Cp failV E (K (f b) H) (some b) Q) : Cp failV E (r.bind K) o Q := by
  subst hr
  cases o with
  | none => exact ⟨H, rfl, hE⟩
  | some b => exact hk b rfl
theorem Cp.callT {G : Value → Heap → Res γ} {K : Value → Heap → Res γ} {g : β → Option δ} (hr : r = orF o f H) (hp : o = none → ∃ H', G failV H = .panic failV H' ∧ E H') (hk : ∀ b, o = some b → Cp failV E (K (f b) H) (g b) Q) : Cp failV E (r.bindT G K) (o.bind g) Q := by
  subst hr
  cases o with
  | none => exact hp rfl
  | some b => exact hk b rfl
theorem Cp.callTM {G : Value → Heap → Res γ} {K : Value → Heap → Res γ} {g : β → δ} (hr : r = orF o f H) (hp : o = none → ∃ H', G failV H = .panic failV H' ∧ E H') (hk : ∀ b, o = some b → Cp failV E (K (f b) H) (some (g b)) Q) : Cp failV E (r.bindT G K) (o.map g) Q := by
  subst hr
  cases o with
  | none => exact hp rfl
  | some b => exact hk b rfl
theorem Cp.need {k : Nat} {p : Prop} [Decidable p] {K : Value → Heap → Res γ} {g : Option δ} (hE : E H) (hk : p → Cp failV E (K (.tuple #[]) H) g Q) : Cp failV E ((R (T k) F.view_Need [.bool (decide p)] H).bind K) (if p then g else none) Q := by
  by_cases h : p
  · rw [if_pos h, decide_eq_true h, Need_true]
    exact hk h
  · rw [if_neg h, decide_eq_false h, Need_false]
    exact ⟨H, rfl, hE⟩
end
section
variable {β : Type} {H : Heap} {r : Res Value} {o : Option β} {f : β → Value}
theorem gc_orF (h : Cp failV (Ext H) r o fun b v _ => v = f b) (ha : ∀ b, o = some b → Alive H (f b)) : nrm .gc H r = orF o f H := by
  rw [nrm_gc_cp h ha Flat.fail.alive]
  cases o <;> rfl
theorem fz_orF (h : Cp failV (Ext H) r o fun b v H' => ∃ L, fzV H.n H' fzDepth v = some (f b, L)) (ha : ∀ b, o = some b → Alive H (f b)) : nrm .fz H r = orF o f H := by
  rw [nrm_fz_cp h ha Flat.fail.alive]
  cases o <;> rfl
end
end Go.Sw
end
section
set_option maxRecDepth 100000
set_option linter.unusedVariables false
namespace Go.Sw
noncomputable section
def lookup_Take_j1 (k : Nat) (call : Caller) (a8 : Value) (h : Heap) : Res Value :=
  kSeq (pieceK (C k) call F.lookup_Take [1, 1, 1, 1]) (kDone Prog (resOf Prog F.lookup_Take)) .normal [(8, a8)] h
def lookup_Take_l1 (k : Nat) (call : Caller) : Env → Heap → Res (AExit × Env) := loopB (C k) call F.lookup_Take [1, 1, 1, 1, 0, 1, 0, 0]
def lookup_Take_l1k (k : Nat) (call : Caller) : Kont Value := kBlock 1 (kSeq (pieceK (C k) call F.lookup_Take [1, 1, 1, 1, 1]) (kDone Prog (resOf Prog F.lookup_Take)))
def lookup_Take (k : Nat) (call : Caller) (a0 a1 a2 : Value) (h : Heap) : Res Value :=
  (boxR a0 h).bind fun v1 h2 =>
  (loadR Prog 83 v1 h2).bind fun v3 h4 =>
  (buildR Prog 235 [(0, v3), (1, a1), (2, a2)] h4).bind fun v5 h6 =>
  (allocR Prog 235 h6).bind fun v7 h8 =>
  (storeR Prog 235 v7 v5 h8).bind fun _v9 h10 =>
  (loadR Prog 83 v1 h10).bind fun v11 h12 =>
  (call F.view_View_U16 [v11, (.int .i64 0)] h12).bind fun v13 h14 =>
  (buildR Prog 228 [(0, v13)] h14).bind fun v15 h16 =>
  (boxR v15 h16).bind fun v17 h18 =>
  (nilR v17 h18).bind fun v19 h20 =>
  (fieldAddrR Prog 228 v19 0 h20).bind fun v21 h22 =>
  (loadR Prog 3 v21 h22).bind fun v23 h24 =>
  (binR Prog .eql 3 v23 (.int .i64 0) h24).bind fun v25 h26 =>
  condV (some v25) (
    (binR Prog .sub 3 a1 (.int .i64 1) h26).bind fun v27 h28 =>
    (loadR Prog 83 v1 h28).bind fun v29 h30 =>
    (call F.lookup_list [v29, (.int .i64 2), a1, a2] h30).bind fun v31 h32 =>
    (buildR Prog 230 [(0, (.int .i64 0)), (1, v27), (2, v31)] h32).bind fun v33 h34 =>
    (buildSliceR Prog 226 1 [(0, v33)] h34).bind fun v35 h36 =>
    (nilR v17 h36).bind fun v37 h38 =>
    (fieldAddrR Prog 228 v37 1 h38).bind fun v39 h40 =>
    (storeR Prog 226 v39 v35 h40).bind fun _v41 h42 =>
    lookup_Take_j1 k call v17 h42)
  (
    (binR Prog .eql 3 v23 (.int .i64 2) h26).bind fun v43 h44 =>
    condV (some v43) (
      (loadR Prog 235 v7 h44).bind fun v45 h46 =>
      (call F.lookup_reader_segments [v45, (.bool false)] h46).bind fun v47 h48 =>
      (nilR v17 h48).bind fun v49 h50 =>
      (fieldAddrR Prog 228 v49 1 h50).bind fun v51 h52 =>
      (storeR Prog 226 v51 v47 h52).bind fun _v53 h54 =>
      lookup_Take_j1 k call v17 h54)
    (
      (binR Prog .eql 3 v23 (.int .i64 4) h44).bind fun v55 h56 =>
      condV (some v55) (
        (loadR Prog 235 v7 h56).bind fun v57 h58 =>
        (call F.lookup_reader_segments [v57, (.bool true)] h58).bind fun v59 h60 =>
        (nilR v17 h60).bind fun v61 h62 =>
        (fieldAddrR Prog 228 v61 1 h62).bind fun v63 h64 =>
        (storeR Prog 226 v63 v59 h64).bind fun _v65 h66 =>
        lookup_Take_j1 k call v17 h66)
      (
        (binR Prog .eql 3 v23 (.int .i64 6) h56).bind fun v67 h68 =>
        condV (some v67) (
          (loadR Prog 235 v7 h68).bind fun v69 h70 =>
          (call F.lookup_reader_single [v69] h70).bind fun v71 h72 =>
          (nilR v17 h72).bind fun v73 h74 =>
          (fieldAddrR Prog 228 v73 1 h74).bind fun v75 h76 =>
          (storeR Prog 226 v75 v71 h76).bind fun _v77 h78 =>
          lookup_Take_j1 k call v17 h78)
        (
          (binR Prog .eql 3 v23 (.int .i64 8) h68).bind fun v79 h80 =>
          condV (some v79) (
            (loadR Prog 235 v7 h80).bind fun v81 h82 =>
            (call F.lookup_reader_trimmed [v81, (.int .i64 2), a2] h82).bind fun v83 h84 =>
            (nilR v17 h84).bind fun v85 h86 =>
            (fieldAddrR Prog 228 v85 1 h86).bind fun v87 h88 =>
            (storeR Prog 226 v87 v83 h88).bind fun _v89 h90 =>
            lookup_Take_j1 k call v17 h90)
          (
            (binR Prog .eql 3 v23 (.int .i64 10) h80).bind fun v91 h92 =>
            condV (some v91) (
              (loadR Prog 83 v1 h92).bind fun v93 h94 =>
              (call F.view_View_U16 [v93, (.int .i64 2)] h94).bind fun v95 h96 =>
              (binR Prog .eql 3 v95 (.int .i64 1) h96).bind fun v97 h98 =>
              ((bif wantVal v97 false then Res.ok v95 h98 else Res.ok undef h98)).bind fun v99 h100 =>
              ((bif wantVal v97 false then binR Prog .eql 3 v99 (.int .i64 2) h100 else Res.ok undef h100)).bind fun v101 h102 =>
              (condV (some v97) (Res.ok (.bool true) h102) (Res.ok v101 h102)).bind fun v103 h104 =>
              ((bif wantVal v103 false then Res.ok v95 h104 else Res.ok undef h104)).bind fun v105 h106 =>
              ((bif wantVal v103 false then binR Prog .eql 3 v105 (.int .i64 4) h106 else Res.ok undef h106)).bind fun v107 h108 =>
              (condV (some v103) (Res.ok (.bool true) h108) (Res.ok v107 h108)).bind fun v109 h110 =>
              (call F.view_Need [v109] h110).bind fun v111 h112 =>
              (loadR Prog 235 v7 h112).bind fun v113 h114 =>
              (call F.lookup_reader_trimmed [v113, (.int .i64 4), v95] h114).bind fun v115 h116 =>
              (nilR v17 h116).bind fun v117 h118 =>
              (fieldAddrR Prog 228 v117 1 h118).bind fun v119 h120 =>
              (storeR Prog 226 v119 v115 h120).bind fun _v121 h122 =>
              lookup_Take_j1 k call v17 h122)
            (
              (call F.view_Fail [] h92).bind fun v123 h124 =>
              lookup_Take_j1 k call v17 h124))))))
theorem lookup_Take_R (k : Nat) (a0 a1 a2 : Value) (h : Heap) : R (T k) F.lookup_Take [a0, a1, a2] h = nrm .fz h (lookup_Take k (R (T k)) a0 a1 a2 h) :=
  (R_body (t := T k) (T_scott k) (by kernel_rfl) _ _).trans (by kernel_rfl)
theorem lookup_Take_j1_eq (k : Nat) (call : Caller) (a8 : Value) (h : Heap) : lookup_Take_j1 k call a8 h =
  (loopN (lookup_Take_l1 k call) loopFuel [(8, a8), (10, (.int .i64 1))] h).bind fun r125 h126 =>
  lookup_Take_l1k k call r125.1 r125.2 h126 := by kernel_rfl
theorem lookup_Take_l1_eq (k : Nat) (call : Caller) (a8 a10 : Value) (h : Heap) : lookup_Take_l1 k call [(8, a8), (10, a10)] h =
  (nilR a8 h).bind fun v127 h128 =>
  (fieldAddrR Prog 228 v127 1 h128).bind fun v129 h130 =>
  (loadR Prog 226 v129 h130).bind fun v131 h132 =>
  (builtinV Prog .len [226] [v131] h132).bind fun v133 h134 =>
  (binR Prog .lss 3 a10 v133 h134).bind fun v135 h136 =>
  condV (some v135) (
    (nilR a8 h136).bindN fun v137 h138 =>
    (fieldAddrR Prog 228 v137 1 h138).bindN fun v139 h140 =>
    (loadR Prog 226 v139 h140).bindN fun v141 h142 =>
    (binR Prog .sub 3 a10 (.int .i64 1) h142).bindN fun v143 h144 =>
    (indexAddrR Prog 226 v141 v143 h144).bindN fun v145 h146 =>
    (fieldAddrR Prog 230 v145 1 h146).bindN fun v147 h148 =>
    (loadR Prog 3 v147 h148).bindN fun v149 h150 =>
    (nilR a8 h150).bindN fun v151 h152 =>
    (fieldAddrR Prog 228 v151 1 h152).bindN fun v153 h154 =>
    (loadR Prog 226 v153 h154).bindN fun v155 h156 =>
    (indexAddrR Prog 226 v155 a10 h156).bindN fun v157 h158 =>
    (fieldAddrR Prog 230 v157 0 h158).bindN fun v159 h160 =>
    (loadR Prog 3 v159 h160).bindN fun v161 h162 =>
    (binR Prog .lss 3 v149 v161 h162).bindN fun v163 h164 =>
    (call F.view_Need [v163] h164).bindT (fun p167 h168 => .panic p167 h168) fun v165 h166 =>
    (binR Prog .add 3 a10 (.int .i64 1) h166).bind fun v169 h170 =>
    .ok (.normal, [(8, a8), (10, v169)]) h170)
  (
    .ok ((.exit 1), [(8, a8), (10, a10), (93, v135)]) h136) :=
  (loopB_eq _ _).trans (by kernel_rfl)
theorem lookup_Take_l1k_x1 (k : Nat) (call : Caller) (a8 a10 a93 : Value) (h : Heap) : lookup_Take_l1k k call (.exit 1) [(8, a8), (10, a10), (93, a93)] h =
  .ok a8 h := by kernel_rfl
def lookup_list_l1 (k : Nat) (call : Caller) : Env → Heap → Res (AExit × Env) := loopB (C k) call F.lookup_list [1, 1, 1, 0, 1, 0, 0]
def lookup_list_l1k (k : Nat) (call : Caller) : Kont Value := kBlock 0 (kSeq (pieceK (C k) call F.lookup_list [1, 1, 1, 1]) (kDone Prog (resOf Prog F.lookup_list)))
def lookup_list (k : Nat) (call : Caller) (a0 a1 a2 a3 : Value) (h : Heap) : Res Value :=
  (boxR a0 h).bind fun v1 h2 =>
  (loadR Prog 83 v1 h2).bind fun v3 h4 =>
  (call F.view_View_Rows [v3, a1, a2, a3] h4).bind fun v5 h6 =>
  (allocR Prog 83 h6).bind fun v7 h8 =>
  (storeR Prog 83 v7 v5 h8).bind fun _v9 h10 =>
  (makeSliceV Prog 28 a2 a2 h10).bind fun v11 h12 =>
  (builtinV Prog .len [28] [v11] h12).bind fun v13 h14 =>
  (loopN (lookup_list_l1 k call) loopFuel [(3, a3), (9, v7), (10, v11), (20, v13), (21, (.int .i64 0))] h14).bind fun r15 h16 =>
  lookup_list_l1k k call r15.1 r15.2 h16
theorem lookup_list_R (k : Nat) (a0 a1 a2 a3 : Value) (h : Heap) : R (T k) F.lookup_list [a0, a1, a2, a3] h = nrm .fz h (lookup_list k (R (T k)) a0 a1 a2 a3 h) :=
  (R_body (t := T k) (T_scott k) (by kernel_rfl) _ _).trans (by kernel_rfl)
theorem lookup_list_l1_eq (k : Nat) (call : Caller) (a3 a9 a10 a20 a21 : Value) (h : Heap) : lookup_list_l1 k call [(3, a3), (9, a9), (10, a10), (20, a20), (21, a21)] h =
  (binR Prog .lss 3 a21 a20 h).bind fun v17 h18 =>
  condV (some v17) (
    (loadR Prog 83 a9 h18).bind fun v19 h20 =>
    (binR Prog .mul 3 a3 a21 h20).bind fun v21 h22 =>
    (call F.lookup_number [v19, v21, a3] h22).bind fun v23 h24 =>
    (indexAddrR Prog 28 a10 a21 h24).bind fun v25 h26 =>
    (storeR Prog 3 v25 v23 h26).bind fun _v27 h28 =>
    (binR Prog .add 3 a21 (.int .i64 1) h28).bind fun v29 h30 =>
    .ok (.normal, [(3, a3), (9, a9), (10, a10), (20, a20), (21, v29)]) h30)
  (
    .ok ((.exit 0), [(3, a3), (9, a9), (10, a10), (20, a20), (21, a21), (22, v17)]) h18) :=
  (loopB_eq _ _).trans (by kernel_rfl)
theorem lookup_list_l1k_x0 (k : Nat) (call : Caller) (a3 a9 a10 a20 a21 a22 : Value) (h : Heap) : lookup_list_l1k k call (.exit 0) [(3, a3), (9, a9), (10, a10), (20, a20), (21, a21), (22, a22)] h =
  .ok a10 h := by kernel_rfl
def lookup_reader_segments_j1 (k : Nat) (call : Caller) (a1 a2 a5 : Value) (h : Heap) : Res Value :=
  kSeq (pieceK (C k) call F.lookup_reader_segments [1, 1, 1]) (kDone Prog (resOf Prog F.lookup_reader_segments)) .normal [(1, a1), (2, a2), (5, a5)] h
def lookup_reader_segments_j2 (k : Nat) (call : Caller) (a1 a2 a5 a13 : Value) (h : Heap) : Res Value :=
  kSeq (pieceK (C k) call F.lookup_reader_segments [1, 1, 1]) (kDone Prog (resOf Prog F.lookup_reader_segments)) .normal [(1, a1), (2, a2), (5, a5), (13, a13)] h
def lookup_reader_segments_l1 (k : Nat) (call : Caller) : Env → Heap → Res (AExit × Env) := loopB (C k) call F.lookup_reader_segments [1, 1, 1, 1, 0, 1, 0, 0]
def lookup_reader_segments_l1k (k : Nat) (call : Caller) : Kont Value := kBlock 0 (kSeq (pieceK (C k) call F.lookup_reader_segments [1, 1, 1, 1, 1]) (kDone Prog (resOf Prog F.lookup_reader_segments)))
def lookup_reader_segments_j3 (k : Nat) (call : Caller) (a1 a2 a6 a9 a17 a18 a19 : Value) (h : Heap) : Res (AExit × Env) :=
  kSeq (pieceK (C k) call F.lookup_reader_segments [1, 1, 1, 1, 0, 1, 0, 0, 1, 1, 0, 0, 1, 1, 1, 1]) (kBlock 1 (kSeq (pieceK (C k) call F.lookup_reader_segments [1, 1, 1, 1, 0, 1, 0, 0, 1, 1, 1]) (kRound (ownOf (C k) F.lookup_reader_segments [1, 1, 1, 1, 0, 1, 0, 0])))) .normal [(1, a1), (2, a2), (6, a6), (9, a9), (17, a17), (18, a18), (19, a19)] h
def lookup_reader_segments (k : Nat) (call : Caller) (a0 a1 : Value) (h : Heap) : Res Value :=
  (boxR a0 h).bind fun v1 h2 =>
  (fieldAddrR Prog 235 v1 2 h2).bind fun v3 h4 =>
  (loadR Prog 3 v3 h4).bind fun v5 h6 =>
  (binR Prog .add 3 (.int .i64 4) v5 h6).bind fun v7 h8 =>
  condV (some a1) (
    lookup_reader_segments_j1 k call a1 v1 (.int .i64 6) h8)
  (
    lookup_reader_segments_j2 k call a1 v1 v7 a1 h8)
theorem lookup_reader_segments_R (k : Nat) (a0 a1 : Value) (h : Heap) : R (T k) F.lookup_reader_segments [a0, a1] h = nrm .fz h (lookup_reader_segments k (R (T k)) a0 a1 h) :=
  (R_body (t := T k) (T_scott k) (by kernel_rfl) _ _).trans (by kernel_rfl)
theorem lookup_reader_segments_j1_eq (k : Nat) (call : Caller) (a1 a2 a5 : Value) (h : Heap) : lookup_reader_segments_j1 k call a1 a2 a5 h =
  (fieldAddrR Prog 235 a2 0 h).bind fun v9 h10 =>
  (loadR Prog 83 v9 h10).bind fun v11 h12 =>
  (call F.seek_Take [v11, (.int .i64 2), a5, (.int .i64 2)] h12).bind fun v13 h14 =>
  (builtinV Prog .len [301] [v13] h14).bind fun v15 h16 =>
  (loopN (lookup_reader_segments_l1 k call) loopFuel [(1, a1), (2, a2), (6, (.slice none 0 0)), (17, v13), (18, v15), (19, (.int .i64 0))] h16).bind fun r17 h18 =>
  lookup_reader_segments_l1k k call r17.1 r17.2 h18 := by kernel_rfl
theorem lookup_reader_segments_j2_eq (k : Nat) (call : Caller) (a1 a2 a5 a13 : Value) (h : Heap) : lookup_reader_segments_j2 k call a1 a2 a5 a13 h =
  (fieldAddrR Prog 235 a2 0 h).bind fun v19 h20 =>
  (loadR Prog 83 v19 h20).bind fun v21 h22 =>
  (call F.seek_Take [v21, (.int .i64 2), a5, (.int .i64 2)] h22).bind fun v23 h24 =>
  (builtinV Prog .len [301] [v23] h24).bind fun v25 h26 =>
  (loopN (lookup_reader_segments_l1 k call) loopFuel [(1, a1), (2, a2), (6, (.slice none 0 0)), (17, v23), (18, v25), (19, (.int .i64 0))] h26).bind fun r27 h28 =>
  lookup_reader_segments_l1k k call r27.1 r27.2 h28 := by kernel_rfl
theorem lookup_reader_segments_l1_eq (k : Nat) (call : Caller) (a1 a2 a6 a17 a18 a19 : Value) (h : Heap) : lookup_reader_segments_l1 k call [(1, a1), (2, a2), (6, a6), (17, a17), (18, a18), (19, a19)] h =
  (binR Prog .lss 3 a19 a18 h).bind fun v29 h30 =>
  condV (some v29) (
    (indexAddrR Prog 301 a17 a19 h30).bind fun v31 h32 =>
    (loadR Prog 83 v31 h32).bind fun v33 h34 =>
    (allocR Prog 83 h34).bind fun v35 h36 =>
    (storeR Prog 83 v35 v33 h36).bind fun _v37 h38 =>
    (loadR Prog 83 v35 h38).bindN fun v39 h40 =>
    (call F.view_View_U16 [v39, (.int .i64 2)] h40).bindT (fun p43 h44 => (loadR Prog 83 v35 h40).bindN fun v45 h46 => (allocR Prog 230 h46).bindN fun v47 h48 => chkR ((okVal (loadR Prog 83 v35 h38) v45 && true) && true) (.panic p43 h44)) fun v41 h42 =>
    (loadR Prog 83 v35 h42).bindN fun v49 h50 =>
    (call F.view_View_U16 [v49, (.int .i64 0)] h50).bindT (fun p53 h54 => (allocR Prog 230 h50).bindN fun v55 h56 => chkR ((okVal (loadR Prog 83 v35 h38) v49 && true) && true) (.panic p53 h54)) fun v51 h52 =>
    (buildR Prog 230 [(0, v41), (1, v51)] h52).bindN fun v57 h58 =>
    (allocR Prog 230 h58).bindN fun v59 h60 =>
    (storeR Prog 230 v59 v57 h60).bindN fun _v61 h62 =>
    chkR ((okVal (loadR Prog 83 v35 h38) v49 && true) && true) (
    (fieldAddrR Prog 230 v59 0 h62).bind fun v63 h64 =>
    (loadR Prog 3 v63 h64).bind fun v65 h66 =>
    (fieldAddrR Prog 230 v59 1 h66).bind fun v67 h68 =>
    (loadR Prog 3 v67 h68).bind fun v69 h70 =>
    (binR Prog .leq 3 v65 v69 h70).bind fun v71 h72 =>
    (call F.view_Need [v71] h72).bind fun v73 h74 =>
    condV (some a1) (
      (fieldAddrR Prog 235 a2 0 h74).bindN fun v75 h76 =>
      (loadR Prog 83 v75 h76).bindN fun v77 h78 =>
      (loadR Prog 83 v35 h78).bindN fun v79 h80 =>
      (call F.view_View_U16 [v79, (.int .i64 4)] h80).bindT (fun p83 h84 => (fieldAddrR Prog 230 v59 1 h80).bindN fun v85 h86 => (loadR Prog 3 v85 h86).bindN fun v87 h88 => (fieldAddrR Prog 230 v59 0 h88).bindN fun v89 h90 => (loadR Prog 3 v89 h90).bindN fun v91 h92 => (binR Prog .sub 3 v87 v91 h92).bindN fun v93 h94 => (binR Prog .add 3 v93 (.int .i64 1) h94).bindN fun v95 h96 => (fieldAddrR Prog 235 a2 2 h96).bindN fun v97 h98 => (loadR Prog 3 v97 h98).bindN fun v99 h100 => chkR ((okVal (loadR Prog 3 v85 h74) v87 && true) && ((okVal (loadR Prog 3 v89 h74) v91 && true) && ((okVal (loadR Prog 3 v97 h74) v99 && true) && true))) (.panic p83 h84)) fun v81 h82 =>
      (fieldAddrR Prog 230 v59 1 h82).bindN fun v101 h102 =>
      (loadR Prog 3 v101 h102).bindN fun v103 h104 =>
      (fieldAddrR Prog 230 v59 0 h104).bindN fun v105 h106 =>
      (loadR Prog 3 v105 h106).bindN fun v107 h108 =>
      (binR Prog .sub 3 v103 v107 h108).bindN fun v109 h110 =>
      (binR Prog .add 3 v109 (.int .i64 1) h110).bindN fun v111 h112 =>
      (fieldAddrR Prog 235 a2 2 h112).bindN fun v113 h114 =>
      (loadR Prog 3 v113 h114).bindN fun v115 h116 =>
      (call F.lookup_list [v77, v81, v111, v115] h116).bindT (fun p119 h120 => chkR ((okVal (loadR Prog 83 v75 h82) v77 && true) && ((okVal (loadR Prog 3 v101 h74) v103 && true) && ((okVal (loadR Prog 3 v105 h74) v107 && true) && ((okVal (loadR Prog 3 v113 h74) v115 && true) && true)))) (.panic p119 h120)) fun v117 h118 =>
      (fieldAddrR Prog 230 v59 2 h118).bindN fun v121 h122 =>
      (storeR Prog 28 v121 v117 h122).bindN fun _v123 h124 =>
      chkR ((okVal (loadR Prog 83 v75 h82) v77 && true) && ((okVal (loadR Prog 3 v101 h74) v103 && true) && ((okVal (loadR Prog 3 v105 h74) v107 && true) && ((okVal (loadR Prog 3 v113 h74) v115 && true) && true)))) (
      lookup_reader_segments_j3 k call a1 a2 a6 v59 a17 a18 a19 h124))
    (
      (loadR Prog 83 v35 h74).bind fun v125 h126 =>
      (fieldAddrR Prog 235 a2 2 h126).bind fun v127 h128 =>
      (loadR Prog 3 v127 h128).bind fun v129 h130 =>
      (call F.lookup_number [v125, (.int .i64 4), v129] h130).bind fun v131 h132 =>
      (buildSliceR Prog 28 1 [(0, v131)] h132).bind fun v133 h134 =>
      (fieldAddrR Prog 230 v59 2 h134).bind fun v135 h136 =>
      (storeR Prog 28 v135 v133 h136).bind fun _v137 h138 =>
      lookup_reader_segments_j3 k call a1 a2 a6 v59 a17 a18 a19 h138)))
  (
    .ok ((.exit 0), [(1, a1), (2, a2), (6, a6), (17, a17), (18, a18), (19, a19), (20, v29)]) h30) :=
  (loopB_eq _ _).trans (by kernel_rfl)
theorem lookup_reader_segments_j3_eq (k : Nat) (call : Caller) (a1 a2 a6 a9 a17 a18 a19 : Value) (h : Heap) : lookup_reader_segments_j3 k call a1 a2 a6 a9 a17 a18 a19 h =
  (loadR Prog 230 a9 h).bind fun v139 h140 =>
  (buildSliceR Prog 226 1 [(0, v139)] h140).bind fun v141 h142 =>
  (builtinV Prog .append [226, 226] [a6, v141] h142).bind fun v143 h144 =>
  (binR Prog .add 3 a19 (.int .i64 1) h144).bind fun v145 h146 =>
  .ok (.normal, [(1, a1), (2, a2), (6, v143), (17, a17), (18, a18), (19, v145)]) h146 := by kernel_rfl
theorem lookup_reader_segments_l1k_x0 (k : Nat) (call : Caller) (a1 a2 a6 a17 a18 a19 a20 : Value) (h : Heap) : lookup_reader_segments_l1k k call (.exit 0) [(1, a1), (2, a2), (6, a6), (17, a17), (18, a18), (19, a19), (20, a20)] h =
  .ok a6 h := by kernel_rfl
def lookup_reader_single_l1 (k : Nat) (call : Caller) : Env → Heap → Res (AExit × Env) := loopB (C k) call F.lookup_reader_single [1, 1, 0, 1, 0, 0]
def lookup_reader_single_l1k (k : Nat) (call : Caller) : Kont Value := kBlock 0 (kSeq (pieceK (C k) call F.lookup_reader_single [1, 1, 1]) (kDone Prog (resOf Prog F.lookup_reader_single)))
def lookup_reader_single (k : Nat) (call : Caller) (a0 : Value) (h : Heap) : Res Value :=
  (boxR a0 h).bind fun v1 h2 =>
  (fieldAddrR Prog 235 v1 0 h2).bind fun v3 h4 =>
  (loadR Prog 83 v3 h4).bind fun v5 h6 =>
  (fieldAddrR Prog 235 v1 2 h6).bind fun v7 h8 =>
  (loadR Prog 3 v7 h8).bind fun v9 h10 =>
  (binR Prog .add 3 (.int .i64 2) v9 h10).bind fun v11 h12 =>
  (call F.seek_Take [v5, (.int .i64 2), v11, (.int .i64 1)] h12).bind fun v13 h14 =>
  (builtinV Prog .len [301] [v13] h14).bind fun v15 h16 =>
  (loopN (lookup_reader_single_l1 k call) loopFuel [(1, v1), (3, (.slice none 0 0)), (12, v13), (13, v15), (14, (.int .i64 0))] h16).bind fun r17 h18 =>
  lookup_reader_single_l1k k call r17.1 r17.2 h18
theorem lookup_reader_single_R (k : Nat) (a0 : Value) (h : Heap) : R (T k) F.lookup_reader_single [a0] h = nrm .fz h (lookup_reader_single k (R (T k)) a0 h) :=
  (R_body (t := T k) (T_scott k) (by kernel_rfl) _ _).trans (by kernel_rfl)
theorem lookup_reader_single_l1_eq (k : Nat) (call : Caller) (a1 a3 a12 a13 a14 : Value) (h : Heap) : lookup_reader_single_l1 k call [(1, a1), (3, a3), (12, a12), (13, a13), (14, a14)] h =
  (binR Prog .lss 3 a14 a13 h).bind fun v19 h20 =>
  condV (some v19) (
    (indexAddrR Prog 301 a12 a14 h20).bind fun v21 h22 =>
    (loadR Prog 83 v21 h22).bind fun v23 h24 =>
    (allocR Prog 83 h24).bind fun v25 h26 =>
    (storeR Prog 83 v25 v23 h26).bind fun _v27 h28 =>
    (loadR Prog 83 v25 h28).bind fun v29 h30 =>
    (call F.view_View_U16 [v29, (.int .i64 0)] h30).bind fun v31 h32 =>
    (loadR Prog 83 v25 h32).bind fun v33 h34 =>
    (fieldAddrR Prog 235 a1 2 h34).bind fun v35 h36 =>
    (loadR Prog 3 v35 h36).bind fun v37 h38 =>
    (call F.lookup_number [v33, (.int .i64 2), v37] h38).bind fun v39 h40 =>
    (buildSliceR Prog 28 1 [(0, v39)] h40).bind fun v41 h42 =>
    (buildR Prog 230 [(0, v31), (1, v31), (2, v41)] h42).bind fun v43 h44 =>
    (buildSliceR Prog 226 1 [(0, v43)] h44).bind fun v45 h46 =>
    (builtinV Prog .append [226, 226] [a3, v45] h46).bind fun v47 h48 =>
    (binR Prog .add 3 a14 (.int .i64 1) h48).bind fun v49 h50 =>
    .ok (.normal, [(1, a1), (3, v47), (12, a12), (13, a13), (14, v49)]) h50)
  (
    .ok ((.exit 0), [(1, a1), (3, a3), (12, a12), (13, a13), (14, a14), (15, v19)]) h20) :=
  (loopB_eq _ _).trans (by kernel_rfl)
theorem lookup_reader_single_l1k_x0 (k : Nat) (call : Caller) (a1 a3 a12 a13 a14 a15 : Value) (h : Heap) : lookup_reader_single_l1k k call (.exit 0) [(1, a1), (3, a3), (12, a12), (13, a13), (14, a14), (15, a15)] h =
  .ok a3 h := by kernel_rfl
def lookup_reader_trimmed (k : Nat) (call : Caller) (a0 a1 a2 : Value) (h : Heap) : Res Value :=
  (boxR a0 h).bind fun v1 h2 =>
  (fieldAddrR Prog 235 v1 0 h2).bindN fun v3 h4 =>
  (loadR Prog 83 v3 h4).bindN fun v5 h6 =>
  (call F.view_View_U16 [v5, a1] h6).bindT (fun p9 h10 => (fieldAddrR Prog 235 v1 0 h6).bindN fun v11 h12 => (loadR Prog 83 v11 h12).bindN fun v13 h14 => (binR Prog .add 3 a1 (.int .i64 2) h14).bindN fun v15 h16 => chkR ((okVal (loadR Prog 83 v11 h2) v13 && true) && true) (.panic p9 h10)) fun v7 h8 =>
  (fieldAddrR Prog 235 v1 0 h8).bindN fun v17 h18 =>
  (loadR Prog 83 v17 h18).bindN fun v19 h20 =>
  (binR Prog .add 3 a1 (.int .i64 2) h20).bindN fun v21 h22 =>
  (call F.view_View_U16 [v19, v21] h22).bindT (fun p25 h26 => chkR ((okVal (loadR Prog 83 v17 h2) v19 && true) && true) (.panic p25 h26)) fun v23 h24 =>
  chkR ((okVal (loadR Prog 83 v17 h2) v19 && true) && true) (
  (binR Prog .add 3 v7 v23 h24).bind fun v27 h28 =>
  (binR Prog .leq 3 v27 (.int .i64 65536) h28).bind fun v29 h30 =>
  (call F.view_Need [v29] h30).bind fun v31 h32 =>
  (fieldAddrR Prog 235 v1 0 h32).bind fun v33 h34 =>
  (loadR Prog 83 v33 h34).bind fun v35 h36 =>
  (binR Prog .add 3 a1 (.int .i64 4) h36).bind fun v37 h38 =>
  (call F.lookup_list [v35, v37, v23, a2] h38).bind fun v39 h40 =>
  (binR Prog .eql 3 v23 (.int .i64 0) h40).bind fun v41 h42 =>
  condV (some v41) (
    .ok (.slice none 0 0) h42)
  (
    (binR Prog .add 3 v7 v23 h42).bind fun v43 h44 =>
    (binR Prog .sub 3 v43 (.int .i64 1) h44).bind fun v45 h46 =>
    (buildR Prog 230 [(0, v7), (1, v45), (2, v39)] h46).bind fun v47 h48 =>
    (buildSliceR Prog 226 1 [(0, v47)] h48).bind fun v49 h50 =>
    .ok v49 h50))
theorem lookup_reader_trimmed_R (k : Nat) (a0 a1 a2 : Value) (h : Heap) : R (T k) F.lookup_reader_trimmed [a0, a1, a2] h = nrm .fz h (lookup_reader_trimmed k (R (T k)) a0 a1 a2 h) :=
  (R_body (t := T k) (T_scott k) (by kernel_rfl) _ _).trans (by kernel_rfl)
def lookup_number (k : Nat) (call : Caller) (a0 a1 a2 : Value) (h : Heap) : Res Value :=
  (boxR a0 h).bind fun v1 h2 =>
  (binR Prog .eql 3 a2 (.int .i64 1) h2).bind fun v3 h4 =>
  condV (some v3) (
    (loadR Prog 83 v1 h4).bind fun v5 h6 =>
    (call F.view_View_U8 [v5, a1] h6).bind fun v7 h8 =>
    .ok v7 h8)
  (
    (binR Prog .eql 3 a2 (.int .i64 2) h4).bind fun v9 h10 =>
    condV (some v9) (
      (loadR Prog 83 v1 h10).bind fun v11 h12 =>
      (call F.view_View_U16 [v11, a1] h12).bind fun v13 h14 =>
      .ok v13 h14)
    (
      (loadR Prog 83 v1 h10).bind fun v15 h16 =>
      (call F.view_View_U32 [v15, a1] h16).bind fun v17 h18 =>
      .ok v17 h18))
theorem lookup_number_R (k : Nat) (a0 a1 a2 : Value) (h : Heap) : R (T k) F.lookup_number [a0, a1, a2] h = nrm .gc h (lookup_number k (R (T k)) a0 a1 a2 h) :=
  (R_body (t := T k) (T_scott k) (by kernel_rfl) _ _).trans (by kernel_rfl)
end
end Go.Sw
end
section
namespace Go.Sw
open Go.RowKit
theorem number_run (k : Nat) {H : Heap} {v : Value} {b : List Int} (hv : Sl H 1 v encB b) (hb : Byt b) (i z : Int) (hz : z = 1 ∨ z = 2 ∨ z = 4) (hl : b.length < 2 ^ 62) : R (T k) F.lookup_number [.agg #[v], .int .i64 i, .int .i64 z] H = orF (uS b i z) (.int .i64) H := by
  rw [lookup_number_R]
  have hx : Ext H (H.push ⟨[v], 1, false⟩) := (Ext.refl H).push _
  refine gc_orF ?_ fun _ _ => .int _ _
  rcases hz with rfl | rfl | rfl
  · simp -implicitDefEqProofs [lookup_number]
    exact Cp.callL (U8_run k (hv.up hx) hb i hl) hx fun n hn => .ok hx rfl
  · simp -implicitDefEqProofs [lookup_number]
    exact Cp.callL (U16_run k (hv.up hx) hb i hl) hx fun n hn => .ok hx rfl
  · simp -implicitDefEqProofs [lookup_number]
    exact Cp.callL (U32_run k (hv.up hx) hb i hl) hx fun n hn => .ok hx rfl
theorem repeat_I : ∀ n, repeatCells [Value.int .i64 0] n = rows encI (List.replicate n 0)
  | 0 => rfl
  | n + 1 => by
    have := repeat_I n
    simp only [repeatCells, List.replicate_succ] at this ⊢
    simp [rows, this]
theorem uS_cut {r : List Int} {z n j : Nat} (hr : r.length = n * z) (hj : j < n) : uS r ((z : Int) * j) z = some (num ((r.drop (z * j)).take z)) := by
  have : z * j + z ≤ r.length := by
    rw [hr, ← Nat.mul_succ, Nat.mul_comm]
    exact Nat.mul_le_mul_right _ hj
  have e1 : ((z : Int) * j) = ((z * j : Nat) : Int) := by simp
  unfold uS
  rw [e1, pieceS, if_pos (by omega), Int.toNat_natCast, Int.toNat_natCast]
  rfl
theorem list_run (k : Nat) {H : Heap} {v : Value} {b : List Int} (hv : Sl H 1 v encB b) (hb : Byt b) (i n z : Int) (hz : z = 1 ∨ z = 2 ∨ z = 4) (hl : b.length < 2 ^ 31) : R (T k) F.lookup_list [.agg #[v], .int .i64 i, .int .i64 n, .int .i64 z] H = orF (listS b i n z) (lv encI) H := by
  rw [lookup_list_R]
  have hx1 : Ext H (H.push ⟨[v], 1, false⟩) := (Ext.refl H).push _
  refine fz_orF ?_ fun _ _ => (Flat.I _).alive
  simp -implicitDefEqProofs [lookup_list]
  unfold listS
  refine Cp.callM (Rows_run k (hv.up hx1) i n z (by omega)) hx1 fun r hr => ?_
  have hn := rowsS_n hr
  have hp := rowsS_piece hr
  have hs := pieceS_sl hv hp
  have hrb := (hb.piece hp).1
  have hrl := pieceS_len hp
  obtain ⟨n, rfl⟩ := Int.eq_ofNat_of_zero_le hn.1
  obtain ⟨z, rfl⟩ := Int.eq_ofNat_of_zero_le hn.2.1
  have hrl : r.length = n * z := by exact_mod_cast hrl
  have hnl : n ≤ 2 ^ 31 := by
    have h1 : n * 1 ≤ n * z := Nat.mul_le_mul_left n (by omega)
    have h2 : (n : Int) * z ≤ b.length := by omega
    have h3 : n * z ≤ b.length := by exact_mod_cast h2
    omega
  simp only [Int.toNat_natCast]
  generalize subV 1 v i.toNat ((n : Int) * z).toNat = rv at hs
  have hx2 : Ext H ((H.push ⟨[v], 1, false⟩).push ⟨[rv], 1, false⟩) := hx1.push _
  obtain ⟨x, e', H1, hr', rfl, rfl, ho, hx⟩ := loop_up (body := lookup_list_l1 k (R (T k))) n
    (fun j e H' => e = [(3, .int .i64 z), (9, .pointer (some ⟨H.n + 1, 0, none⟩)), (10, .slice (some ⟨H.n + 2, 0, none⟩) n n), (20, .int .i64 n), (21, .int .i64 j)] ∧
      Own H H' 1 (.slice (some ⟨H.n + 2, 0, none⟩) n n) encI (((cutRows r z n).map num).take j ++ List.replicate (n - j) 0) ∧ Ext H H' ∧ H'.get (H.n + 1) = some ⟨[rv], 1, false⟩)
    (fun x e H' => x = .exit 0 ∧ e = [(3, .int .i64 z), (9, .pointer (some ⟨H.n + 1, 0, none⟩)), (10, .slice (some ⟨H.n + 2, 0, none⟩) n n), (20, .int .i64 n), (21, .int .i64 n), (22, .bool false)] ∧
      Own H H' 1 (.slice (some ⟨H.n + 2, 0, none⟩) n n) encI ((cutRows r z n).map num) ∧ Ext H H')
    (e0 := [(3, .int .i64 z), (9, .pointer (some ⟨H.n + 1, 0, none⟩)), (10, .slice (some ⟨H.n + 2, 0, none⟩) n n), (20, .int .i64 n), (21, .int .i64 0)])
    (H0 := ((H.push ⟨[v], 1, false⟩).push ⟨[rv], 1, false⟩).push ⟨repeatCells [Value.int .i64 0] n, 1, false⟩)
    ⟨rfl, .inr ⟨H.n + 2, by simp, by omega, by rw [get_push_eq _ _ _ (by simp), repeat_I]; simp⟩, hx2.push _, by rw [get_push_lt _ _ _ (by simp), get_push_eq _ _ _ (by simp)]⟩ (by omega)
    (fun j e H' hj ⟨he, ho, hx, hg⟩ => by
      subst he
      have hlt : (j : Int) < n := by omega
      have hnum := number_run k (hs.up hx) hrb ((z : Int) * j) z hz (by omega)
      rw [uS_cut hrl hj, orF_some] at hnum
      have hz4 : (z : Int) * j ≤ 4 * 2147483648 := Int.mul_le_mul (by omega) (by omega) (by omega) (by omega)
      have hz0 : 0 ≤ (z : Int) * j := Int.mul_nonneg (by omega) (by omega)
      have hlen : ((cutRows r z n).map num).length = n := by simp
      have hy : ((cutRows r z n).map num)[j]? = some (num ((r.drop (z * j)).take z)) := by rw [List.getElem?_map, cutRows_get _ _ _ _ hj]; rfl
      obtain ⟨b, H2, e1, h1, h2, h3, h4, h5, h6⟩ := ho.set encI_len j 0 1 0 (num ((r.drop (z * j)).take z)) (.int .i64 (num ((r.drop (z * j)).take z))) (fill_get _ _ hlen hj) rfl rfl (by decide) rfl
      rw [fill_step _ _ hlen hj _ hy] at h4
      simp at e1
      obtain ⟨rfl, _⟩ := e1
      generalize num ((r.drop (z * j)).take z) = y at hnum h3 h4
      have hx' : Ext H H2 := ⟨by rw [h6]; exact hx.n, fun c hc hs => by rw [h5 c (by omega)]; exact hx.2 c hc hs⟩
      refine .inl ⟨_, H2, ?_, rfl, h4, hx', by rw [h5 _ (by omega)]; exact hg⟩
      simp only [Nat.add_zero, Nat.mul_one] at h3
      rw [lookup_list_l1_eq]
      simp -implicitDefEqProofs (disch := omega) [-stR_ptr, hlt, hg, hnum, ixS_slice, h3])
    (fun e H' ⟨he, ho, hx, hg⟩ => by
      subst he
      refine ⟨.exit 0, _, H', ?_, by simp, rfl, rfl, by simpa [List.take_of_length_le] using ho, hx⟩
      rw [lookup_list_l1_eq]
      simp -implicitDefEqProofs)
  obtain ⟨L, hf⟩ := ho.freeze encI_len (encI_still _) 6
  simp -implicitDefEqProofs (disch := omega) [mkR_nat, hr', lookup_list_l1k_x0]
  exact .ok hx ⟨L, hf⟩
end Go.Sw
end
