/-
  Lookups, as the document reads them: parts that tell where numbers stand; they are the ones of the code.
-/
import Derived.Test.YtnaodjnimkndbaaSwLookS
namespace Go.Sw
open Go.RowKit

theorem pieceS_iff {b : List Int} {i n : Int} {r : List Int} : pieceS b i n = some r ↔ (0 ≤ i ∧ 0 ≤ n ∧ i ≤ b.length ∧ n ≤ b.length - i) ∧ r = (b.drop i.toNat).take n.toNat := by
  unfold pieceS
  split
  · rename_i h
    constructor
    · intro e; injection e with e; exact ⟨h, e.symm⟩
    · rintro ⟨_, rfl⟩; rfl
  · rename_i h
    constructor
    · intro e; cases e
    · rintro ⟨h', _⟩; exact absurd h' h

/-- A number of a piece is one of the whole. -/
theorem uS_sub {b r : List Int} {p z : Int} (h : pieceS b p z = some r) {x y : Int} (hx : 0 ≤ x) (hy : 0 ≤ y) (hxy : x + y ≤ z) : uS r x y = uS b (p + x) y := by
  obtain ⟨⟨h1, h2, h3, h4⟩, rfl⟩ := pieceS_iff.1 h
  have hl : ((b.drop p.toNat).take z.toNat).length = z.toNat := by simp; omega
  unfold uS
  rw [pieceS_iff.2 ⟨by rw [hl]; omega, rfl⟩, pieceS_iff.2 ⟨by omega, rfl⟩, List.drop_take, List.take_take, List.drop_drop]
  rw [show min y.toNat (z.toNat - x.toNat) = y.toNat by omega, show p.toNat + x.toNat = (p + x).toNat by omega]

theorem rowsS_iff {b : List Int} {i n z : Int} {r : List Int} (hz : 0 < z) : rowsS b i n z = some r ↔ (0 ≤ i ∧ 0 ≤ n ∧ i ≤ b.length ∧ n * z ≤ b.length - i) ∧ r = (b.drop i.toNat).take (n * z).toNat := by
  unfold rowsS
  have k : n ≤ (b.length : Int) / z ↔ n * z ≤ b.length := Int.le_ediv_iff_mul_le hz
  split
  · rename_i h
    rw [pieceS_iff]
    constructor
    · rintro ⟨h1, h2⟩; exact ⟨⟨h1.1, h.1, h1.2.2.1, h1.2.2.2⟩, h2⟩
    · rintro ⟨h1, h2⟩; exact ⟨⟨h1.1, Int.mul_nonneg h.1 (by omega), h1.2.2.1, h1.2.2.2⟩, h2⟩
  · rename_i h
    constructor
    · intro e; cases e
    · rintro ⟨h1, _⟩
      exact absurd ⟨h1.2.1, by omega, .inr (k.2 (by omega))⟩ h
theorem rowsB_iff {s i n z : Int} (hz : 0 < z) : rowsB s i n z = true ↔ 0 ≤ i ∧ 0 ≤ n ∧ i ≤ s ∧ n * z ≤ s - i := by
  unfold rowsB
  have k : n ≤ (s - i) / z ↔ n * z ≤ s - i := Int.le_ediv_iff_mul_le hz
  rw [decide_eq_true_eq, k]
  constructor
  · rintro ⟨h1, h2, h3, h4, h5⟩; exact ⟨h1, h2, h4, by rcases h5 with h5 | h5 <;> omega⟩
  · rintro ⟨h1, h2, h3, h4⟩; exact ⟨h1, h2, by omega, h3, .inr h4⟩
theorem listS_isSome {b : List Int} {i n z : Int} (hz : 0 < z) : (listS b i n z).isSome = rowsB b.length i n z := by
  rw [Bool.eq_iff_iff, rowsB_iff hz, listS, Option.isSome_map, Option.isSome_iff_exists]
  constructor
  · rintro ⟨r, hr⟩; exact ((rowsS_iff hz).1 hr).1
  · intro h; exact ⟨_, (rowsS_iff hz).2 ⟨h, rfl⟩⟩
theorem listS_get {b : List Int} {i n z : Int} {vs : List Int} (hz : 0 < z) (h : listS b i n z = some vs) (j : Nat) (hj : (j : Int) < n) : vs[j]? = uS b (i + j * z) z := by
  unfold listS at h
  obtain ⟨r, hr, rfl⟩ := Option.map_eq_some_iff.1 h
  obtain ⟨⟨h1, h2, h3, h4⟩, rfl⟩ := (rowsS_iff hz).1 hr
  obtain ⟨i, rfl⟩ := Int.eq_ofNat_of_zero_le h1
  obtain ⟨n, rfl⟩ := Int.eq_ofNat_of_zero_le h2
  obtain ⟨z, rfl⟩ := Int.eq_ofNat_of_zero_le (Int.le_of_lt hz)
  have hj' : j < n := by omega
  have e : j * z + z ≤ n * z := by
    rw [← Nat.succ_mul]; exact Nat.mul_le_mul_right _ hj'
  have h4' : n * z ≤ b.length - i := by omega
  simp only [Int.toNat_natCast]
  rw [List.getElem?_map, cutRows_get _ _ _ _ hj', Option.map_some]
  unfold uS
  rw [pieceS_iff.2 ⟨⟨by omega, by omega, by
    have : ((j * z : Nat) : Int) = (j : Int) * z := by simp
    omega, by
    have : ((j * z : Nat) : Int) = (j : Int) * z := by simp
    omega⟩, rfl⟩, Option.map_some]
  congr 2
  rw [show ((n : Int) * z).toNat = n * z by rw [← Int.natCast_mul, Int.toNat_natCast], show ((i : Int) + j * z).toNat = i + j * z by rw [← Int.natCast_mul, ← Int.natCast_add, Int.toNat_natCast], Int.toNat_natCast]
  rw [List.drop_take, List.take_take, List.drop_drop, Nat.mul_comm z j]
  rw [show min z (n * z - j * z) = z by omega]

theorem rowsS_row {b : List Int} {i : Int} {n z : Nat} {r : List Int} (h : rowsS b i n z = some r) {j : Nat} (hj : j < n) : pieceS b (i + z * j) z = some ((r.drop (z * j)).take z) := by
  have hn := rowsS_n h
  obtain ⟨i', hi'⟩ := Int.eq_ofNat_of_zero_le hn.2.2.1
  have e : z * j + z ≤ n * z := by
    rw [← Nat.mul_succ, Nat.mul_comm]; exact Nat.mul_le_mul_right _ (by omega)
  have e1 : ((z * j : Nat) : Int) = (z : Int) * j := by simp
  have e2 : ((n * z : Nat) : Int) = (n : Int) * z := by simp
  rw [pieceS_iff]
  refine ⟨⟨by omega, by omega, by omega, by omega⟩, ?_⟩
  rw [hn.2.2.2.2.2, hi', show ((n : Int) * z).toNat = n * z by rw [← e2, Int.toNat_natCast], show ((i' : Int) + z * j).toNat = i' + z * j by rw [← e1, ← Int.natCast_add, Int.toNat_natCast]]
  simp only [Int.toNat_natCast]
  rw [List.drop_take, List.take_take, List.drop_drop]
  rw [show min z (n * z - z * j) = z by omega]
/-- A row of some that were taken is a piece of the bytes. -/
theorem takeS_get {b : List Int} {i need : Int} {keys : Nat} {rows : List (List Int)} (h : takeS b i need keys = some rows) :
    ∃ z n : Int, uS b i 2 = some z ∧ uS b (i + 2) 2 = some n ∧ need ≤ z ∧ 0 ≤ z ∧ (rows.length : Int) ≤ n ∧ ∀ (j : Nat) row, rows[j]? = some row → pieceS b (i + 10 + z * j) z = some row := by
  unfold takeS at h
  split at h
  · rename_i z n h1 h2
    split at h
    · rename_i hc
      obtain ⟨r, hr, rfl⟩ := Option.map_eq_some_iff.1 h
      have hn := rowsS_n hr
      refine ⟨z, n, h1, h2, hc.2, hn.2.1, ?_, fun j row hrow => ?_⟩
      · unfold endRows
        split <;> simp <;> omega
      · have hm : (cutRows r z.toNat n.toNat)[j]? = some row := by
          unfold endRows at hrow
          split at hrow
          · have hlt := (List.getElem?_eq_some_iff.1 hrow).1
            simp at hlt
            rw [cutRows_get _ _ _ _ (by omega)] at hrow
            rw [cutRows_get _ _ _ _ (by omega)]
            exact hrow
          · exact hrow
        have hlt := (List.getElem?_eq_some_iff.1 hm).1
        simp at hlt
        rw [cutRows_get _ _ _ _ (by omega)] at hm
        injection hm with hm
        obtain ⟨z', rfl⟩ := Int.eq_ofNat_of_zero_le hn.2.1
        obtain ⟨n', rfl⟩ := Int.eq_ofNat_of_zero_le hn.1
        obtain ⟨i', hi'⟩ := Int.eq_ofNat_of_zero_le hn.2.2.1
        simp only [Int.toNat_natCast] at hlt hm
        have e : z' * j + z' ≤ n' * z' := by
          rw [← Nat.mul_succ, Nat.mul_comm]; exact Nat.mul_le_mul_right _ (by omega)
        have e1 : ((z' * j : Nat) : Int) = (z' : Int) * j := by simp
        have e2 : ((n' * z' : Nat) : Int) = (n' : Int) * z' := by simp
        rw [pieceS_iff]
        refine ⟨⟨by omega, by omega, by omega, by omega⟩, ?_⟩
        rw [← hm, hn.2.2.2.2.2, hi', show ((n' : Int) * z').toNat = n' * z' by rw [← e2, Int.toNat_natCast], show ((i' : Int) + z' * j).toNat = i' + z' * j by rw [← e1, ← Int.natCast_add, Int.toNat_natCast]]
        simp only [Int.toNat_natCast]
        rw [List.drop_take, List.take_take, List.drop_drop]
        rw [show min z' (n' * z' - z' * j) = z' by omega]
    · cases h
  · cases h

/-- A number that the document reads: -1, where there is none. -/
def gU (b : List Int) (i n : Int) : Int := (uS b i n).getD (-1)
theorem gU_two {b : List Int} (hb : Byt b) (i : Int) : -1 ≤ gU b i 2 ∧ gU b i 2 < 65536 := by
  unfold gU
  cases h : uS b i 2 with
  | none => simp
  | some x => have := uS_two hb h; simp; omega
/-- Glyphs in a row, and where their numbers stand. -/
structure RP where
  first : Int
  last : Int
  pos : Int
  size : Int
  step : Int
/-- Where rows begin. -/
def posS (i z : Int) (n : Nat) : List Int := (List.range n).map fun j => i + 10 + z * (j : Nat)
theorem posS_get (i z : Int) (n j : Nat) (h : j < n) : (posS i z n)[j]? = some (i + 10 + z * j) := by simp [posS, h]
@[simp] theorem posS_len (i z : Int) (n : Nat) : (posS i z n).length = n := by simp [posS]

def segR (b : List Int) (z : Int) (each : Bool) (p : Int) : Option RP :=
  if each then (if rowsB b.length (gU b (p + 4) 2) (gU b p 2 - gU b (p + 2) 2 + 1) z then some ⟨gU b (p + 2) 2, gU b p 2, gU b (p + 4) 2, z, z⟩ else none)
  else some ⟨gU b (p + 2) 2, gU b p 2, p + 4, z, 0⟩
def refSegS (b : List Int) (z : Int) (each : Bool) : Option (List RP) :=
  (takeS b 2 (if each then 6 else 4 + z) 2).bind fun rows => mapO (segR b z each) (posS 2 (gU b 2 2) rows.length)
def oneR (b : List Int) (z : Int) (p : Int) : RP := ⟨gU b p 2, gU b p 2, p + 2, z, 0⟩
def refOneS (b : List Int) (z : Int) : Option (List RP) :=
  (takeS b 2 (2 + z) 1).map fun rows => (posS 2 (gU b 2 2) rows.length).map (oneR b z)
def refTrimS (b : List Int) (i z : Int) : Option (List RP) :=
  (uS b i 2).bind fun f => (uS b (i + 2) 2).bind fun n =>
    if f + n ≤ 65536 ∧ rowsB b.length (i + 4) n z = true then some (if n = 0 then [] else [⟨f, f + n - 1, i + 4, z, z⟩]) else none
def refPartsS (b : List Int) (glyphs z fmt : Int) : Option (List RP) :=
  if fmt = 0 then (if rowsB b.length 2 glyphs z then some [⟨0, glyphs - 1, 2, z, z⟩] else none) else
  if fmt = 2 then refSegS b z false else
  if fmt = 4 then refSegS b z true else
  if fmt = 6 then refOneS b z else
  if fmt = 8 then refTrimS b 2 z else
  if fmt = 10 then (uS b 2 2).bind fun u => if u = 1 ∨ u = 2 ∨ u = 4 then refTrimS b 4 u else none
  else none
/-- Each part is one, and none reaches into the next one. -/
def goodR : List RP → Bool
  | [] => true
  | [r] => decide (r.first ≤ r.last)
  | r :: q :: l => decide (r.first ≤ r.last) && decide (r.last < q.first) && goodR (q :: l)
def refReadS (b : List Int) (glyphs z : Int) : Option (List RP) :=
  (refPartsS b glyphs z (gU b 0 2)).bind fun rs => if goodR rs then some rs else none
/-- A glyph's number. -/
def refGetS (b : List Int) (rs : List RP) (id : Int) : Option Int :=
  (rs.find? fun r => decide (r.first ≤ id ∧ id ≤ r.last)).map fun r => gU b (r.pos + (id - r.first) * r.step) r.size

/-- The same part. -/
def PR (b : List Int) (p : Pt) (r : RP) : Prop := p.first = r.first ∧ p.last = r.last ∧ ∀ id, r.first ≤ id → id ≤ r.last → p.num id = uS b (r.pos + (id - r.first) * r.step) r.size
def Rel (b : List Int) : List Pt → List RP → Prop
  | [], [] => True
  | p :: ps, r :: rs => PR b p r ∧ Rel b ps rs
  | _, _ => False
def Bad (rs : List RP) : Prop := ∃ r, r ∈ rs ∧ r.last < r.first
theorem Bad.good {rs : List RP} (h : Bad rs) : goodR rs = false := by
  obtain ⟨r, hr, hlt⟩ := h
  induction rs with
  | nil => cases hr
  | cons a l ih =>
    rcases List.mem_cons.1 hr with rfl | hr
    · cases l with
      | nil => simp [goodR]; omega
      | cons q l => simp only [goodR, Bool.and_eq_false_iff, decide_eq_false_iff_not]; exact .inl (.inl (by omega))
    · have := ih hr
      cases l with
      | nil => cases hr
      | cons q l => simp only [goodR, this, Bool.and_false]

theorem mapO_rel {b : List Int} {f : List Int → Option Pt} {g : Int → Option RP} : ∀ (rows : List (List Int)) (ps : List Int), rows.length = ps.length →
    (∀ (j : Nat) row p, rows[j]? = some row → ps[j]? = some p → (∀ x, f row = some x → ∃ r, g p = some r ∧ PR b x r) ∧ (f row = none → g p = none ∨ ∃ r, g p = some r ∧ r.last < r.first)) →
    (∀ xs, mapO f rows = some xs → ∃ rs, mapO g ps = some rs ∧ Rel b xs rs) ∧ (mapO f rows = none → ∀ rs, mapO g ps = some rs → Bad rs)
  | [], [], _, _ => ⟨fun xs h => ⟨[], rfl, by injection h with h; subst h; trivial⟩, fun h => by cases h⟩
  | [], _ :: _, h, _ => by simp at h
  | _ :: _, [], h, _ => by simp at h
  | row :: rows, p :: ps, h, hs => by
    have h0 := hs 0 row p (by simp) (by simp)
    have ih := mapO_rel rows ps (by simpa using h) fun j r q h1 h2 => hs (j + 1) r q (by simpa using h1) (by simpa using h2)
    constructor
    · intro xs hx
      simp only [mapO] at hx
      obtain ⟨x, e1, hx⟩ := Option.bind_eq_some_iff.1 hx
      obtain ⟨xs', e2, rfl⟩ := Option.map_eq_some_iff.1 hx
      obtain ⟨r, g1, p1⟩ := h0.1 x e1
      obtain ⟨rs, g2, p2⟩ := ih.1 xs' e2
      exact ⟨r :: rs, by simp [mapO, g1, g2], p1, p2⟩
    · intro hn rs hr
      simp only [mapO] at hr
      obtain ⟨r, e1, hr⟩ := Option.bind_eq_some_iff.1 hr
      obtain ⟨rs', e2, rfl⟩ := Option.map_eq_some_iff.1 hr
      cases hf : f row with
      | none =>
        rcases h0.2 hf with h1 | ⟨r', h1, h2⟩
        · rw [h1] at e1; cases e1
        · rw [h1] at e1; injection e1 with e1; subst e1
          exact ⟨r', by simp, h2⟩
      | some x =>
        simp only [mapO, hf, Option.bind_some, Option.map_eq_none_iff] at hn
        obtain ⟨q, hq, hlt⟩ := ih.2 hn rs' e2
        exact ⟨q, by simp [hq], hlt⟩

theorem mapO_pure {α β : Type} (f : α → β) : ∀ l : List α, mapO (fun x => some (f x)) l = some (l.map f)
  | [] => rfl
  | x :: l => by simp [mapO, mapO_pure f l]

theorem gU_some {b : List Int} {i n x : Int} (h : uS b i n = some x) : gU b i n = x := by unfold gU; rw [h]; rfl

theorem row_two {b row : List Int} {p z : Int} (h : pieceS b p z = some row) {x : Int} (hx : 0 ≤ x) {y : Int} (hy : 0 ≤ y) (hxy : x + y ≤ z) : uS row x y = uS b (p + x) y ∧ ∃ n, uS b (p + x) y = some n := by
  refine ⟨uS_sub h hx hy hxy, ?_⟩
  obtain ⟨⟨h1, h2, h3, h4⟩, _⟩ := pieceS_iff.1 h
  unfold uS
  rw [pieceS_iff.2 ⟨by omega, rfl⟩]
  exact ⟨_, rfl⟩

theorem list_num {b : List Int} {i f l z : Int} {vs : List Int} (hz : 0 < z) (h : listS b i (l - f + 1) z = some vs) (hlen : (vs.length : Int) = l - f + 1) : PR b ⟨f, l, vs⟩ ⟨f, l, i, z, z⟩ := by
  refine ⟨rfl, rfl, fun id h1 h2 => ?_⟩
  dsimp only at h1 h2 ⊢
  unfold Pt.num
  dsimp only
  rw [hlen, show min (id - f) (l - f + 1 - 1) = id - f by omega]
  have := listS_get hz h (id - f).toNat (by omega)
  rw [this]
  congr 2
  rw [show (((id - f).toNat : Nat) : Int) = id - f by omega]

theorem seg_rel {b row : List Int} {p z s : Int} {each : Bool} (hb : Byt b) (hz : z = 2 ∨ z = 4) (hrow : pieceS b p s = some row) (hs : (if each then 6 else 4 + z) ≤ s) :
    (∀ x, segP b z each row = some x → ∃ r, segR b z each p = some r ∧ PR b x r) ∧ (segP b z each row = none → segR b z each p = none ∨ ∃ r, segR b z each p = some r ∧ r.last < r.first) := by
  have hs6 : 6 ≤ s := by cases each <;> simp at hs <;> omega
  obtain ⟨e2, f, hf⟩ := row_two hrow (x := 2) (y := 2) (by omega) (by omega) (by omega)
  obtain ⟨e0, l, hl⟩ := row_two hrow (x := 0) (y := 2) (by omega) (by omega) (by omega)
  obtain ⟨e4, a, ha⟩ := row_two hrow (x := 4) (y := 2) (by omega) (by omega) (by omega)
  rw [Int.add_zero] at e0 hl
  unfold segP segR
  rw [e2, e0, hf, hl, gU_some hf, gU_some hl]
  simp only [Option.bind_some]
  cases each with
  | false =>
    simp at hs
    obtain ⟨ez, x, hx⟩ := row_two hrow (x := 4) (y := z) (by omega) (by omega) (by omega)
    simp only [Bool.false_eq_true, if_false]
    by_cases h : f ≤ l
    · rw [if_pos h, ez, hx]
      refine ⟨fun y hy => ?_, fun hn => by cases hn⟩
      injection hy with hy
      subst hy
      refine ⟨_, rfl, rfl, rfl, fun id h1 h2 => ?_⟩
      dsimp only at h1 h2 ⊢
      rw [Int.mul_zero, Int.add_zero, hx]
      unfold Pt.num
      simp
      rw [show (min (id - f) 0).toNat = 0 by omega]
      rfl
    · rw [if_neg h]
      exact ⟨fun y hy => (by cases hy), fun _ => .inr ⟨_, rfl, by dsimp only; omega⟩⟩
  | true =>
    simp only [if_true]
    rw [e4, ha, gU_some ha]
    simp only [Option.bind_some]
    have hbl := listS_isSome (b := b) (i := a) (n := l - f + 1) (z := z) (by omega)
    by_cases h : f ≤ l
    · rw [if_pos h]
      cases hv : listS b a (l - f + 1) z with
      | none =>
        rw [hv] at hbl
        rw [if_neg (by rw [← hbl]; simp)]
        exact ⟨fun y hy => (by cases hy), fun _ => .inl rfl⟩
      | some vs =>
        rw [hv] at hbl
        rw [if_pos (by rw [← hbl]; rfl)]
        refine ⟨fun y hy => ?_, fun hn => by cases hn⟩
        injection hy with hy
        subst hy
        exact ⟨_, rfl, list_num (by omega) hv (listS_spec hb (by omega) hv).2.1⟩
    · rw [if_neg h]
      refine ⟨fun y hy => (by cases hy), fun _ => ?_⟩
      split
      · exact .inr ⟨_, rfl, by dsimp only; omega⟩
      · exact .inl rfl

/-- The code's parts, and the document's. -/
def Alike (b : List Int) (o : Option (List Pt)) (q : Option (List RP)) : Prop := (∀ xs, o = some xs → ∃ rs, q = some rs ∧ Rel b xs rs) ∧ (o = none → ∀ rs, q = some rs → Bad rs)
theorem Alike.none {b : List Int} : Alike b none none := ⟨fun xs h => (by cases h), fun _ rs h => by cases h⟩
theorem Alike.one {b : List Int} {p : Pt} {r : RP} (h : PR b p r) : Alike b (some [p]) (some [r]) := ⟨fun xs h' => ⟨_, rfl, by injection h' with h'; subst h'; exact ⟨h, trivial⟩⟩, fun h => by cases h⟩

theorem segs_rel {b : List Int} (hb : Byt b) {z : Int} (hz : z = 2 ∨ z = 4) (each : Bool) : Alike b (segS b z each) (refSegS b z each) := by
  unfold segS refSegS
  cases h : takeS b 2 (if each then 6 else 4 + z) 2 with
  | none => exact .none
  | some rows =>
    obtain ⟨s, n, h1, h2, h3, h4, h5, h6⟩ := takeS_get h
    simp only [Option.bind_some]
    rw [gU_some h1]
    refine mapO_rel rows _ (by simp) fun j row p hr hp => ?_
    have hlt := (List.getElem?_eq_some_iff.1 hr).1
    rw [posS_get _ _ _ _ hlt] at hp
    injection hp with hp
    subst hp
    exact seg_rel hb hz (h6 j row hr) h3

theorem ones_rel {b : List Int} {z : Int} (hz : z = 2 ∨ z = 4) : Alike b (oneS b z) (refOneS b z) := by
  unfold oneS refOneS
  cases h : takeS b 2 (2 + z) 1 with
  | none => exact .none
  | some rows =>
    obtain ⟨s, n, h1, h2, h3, h4, h5, h6⟩ := takeS_get h
    simp only [Option.bind_some, Option.map_some]
    rw [gU_some h1, ← mapO_pure]
    refine mapO_rel rows _ (by simp) fun j row p hr hp => ?_
    have hlt := (List.getElem?_eq_some_iff.1 hr).1
    rw [posS_get _ _ _ _ hlt] at hp
    injection hp with hp
    subst hp
    have hp := h6 j row hr
    obtain ⟨e0, f, hf⟩ := row_two hp (x := 0) (y := 2) (by omega) (by omega) (by omega)
    obtain ⟨e2, x, hx⟩ := row_two hp (x := 2) (y := z) (by omega) (by omega) (by omega)
    rw [Int.add_zero] at e0 hf
    unfold oneP oneR
    rw [e0, e2, hf, hx, gU_some hf]
    refine ⟨fun y hy => ?_, fun hn => by cases hn⟩
    simp at hy
    subst hy
    refine ⟨_, rfl, rfl, rfl, fun id h1 h2 => ?_⟩
    dsimp only at h1 h2 ⊢
    rw [Int.mul_zero, Int.add_zero, hx]
    unfold Pt.num
    simp
    rw [show (min (id - f) 0).toNat = 0 by omega]
    rfl

theorem trims_rel {b : List Int} (hb : Byt b) {i z : Int} (hz : z = 1 ∨ z = 2 ∨ z = 4) : Alike b (trimS b i z) (refTrimS b i z) := by
  unfold trimS refTrimS
  cases h1 : uS b i 2 with
  | none => exact .none
  | some f =>
    cases h2 : uS b (i + 2) 2 with
    | none => exact .none
    | some n =>
      simp only [Option.bind_some]
      have hbl := listS_isSome (b := b) (i := i + 4) (n := n) (z := z) (by omega)
      by_cases h : f + n ≤ 65536
      · rw [if_pos h]
        cases hv : listS b (i + 4) n z with
        | none =>
          rw [hv] at hbl
          rw [if_neg (by rw [← hbl]; simp)]
          exact .none
        | some vs =>
          rw [hv] at hbl
          rw [if_pos ⟨h, by rw [← hbl]; rfl⟩]
          simp only [Option.map_some]
          by_cases h0 : n = 0
          · rw [if_pos h0, if_pos h0]
            exact ⟨fun xs hx => ⟨[], rfl, by injection hx with hx; subst hx; trivial⟩, fun h => by cases h⟩
          · rw [if_neg h0, if_neg h0]
            have hlen := (listS_spec hb (by omega) hv).2.1
            exact .one (list_num (by omega) (by rw [show f + n - 1 - f + 1 = n by omega]; exact hv) (by omega))
      · rw [if_neg h, if_neg (fun hc => h hc.1)]
        exact .none

theorem parts_rel {b : List Int} (hb : Byt b) {g z : Int} (fmt : Int) (hz : z = 2 ∨ z = 4) : Alike b (partsS b g z fmt) (refPartsS b g z fmt) := by
  unfold partsS refPartsS
  split
  · have hbl := listS_isSome (b := b) (i := 2) (n := g) (z := z) (by omega)
    cases hv : listS b 2 g z with
    | none =>
      rw [hv] at hbl
      rw [if_neg (by rw [← hbl]; simp)]
      exact .none
    | some vs =>
      rw [hv] at hbl
      rw [if_pos (by rw [← hbl]; rfl)]
      have hlen := (listS_spec hb (by omega) hv).2.1
      exact .one (list_num (by omega) (by rw [show g - 1 - 0 + 1 = g by omega]; exact hv) (by omega))
  split
  · exact segs_rel hb hz false
  split
  · exact segs_rel hb hz true
  split
  · exact ones_rel hz
  split
  · exact trims_rel hb (by omega)
  split
  · cases h : uS b 2 2 with
    | none => exact .none
    | some u =>
      simp only [Option.bind_some]
      by_cases hu : u = 1 ∨ u = 2 ∨ u = 4
      · rw [if_pos hu, if_pos hu]; exact trims_rel hb hu
      · rw [if_neg hu, if_neg hu]; exact .none
  · exact .none

theorem Rel.good {b : List Int} : ∀ {ps : List Pt} {rs : List RP}, Rel b ps rs → (∀ p, p ∈ ps → p.ok) → goodR rs = risesS ps
  | [], [], _, _ => rfl
  | [], _ :: _, h, _ => by cases h
  | _ :: _, [], h, _ => by cases h
  | [p], [r], h, hok => by
    have h1 := (hok p (by simp)).2.1
    have h2 := h.1
    rw [h2.1, h2.2.1] at h1
    simp [goodR, risesS, h1]
  | [p], _ :: _ :: _, h, _ => by cases h.2
  | _ :: _ :: _, [_], h, _ => by cases h.2
  | p :: p' :: ps, r :: r' :: rs, h, hok => by
    have ih := Rel.good (ps := p' :: ps) (rs := r' :: rs) h.2 fun q hq => hok q (by simp at hq ⊢; exact .inr hq)
    have h1 := (hok p (by simp)).2.1
    have h2 := h.1
    have h3 := h.2.1
    rw [h2.1, h2.2.1] at h1
    rw [← h2.2.1] at h1
    simp only [goodR, risesS, ih, ← h2.2.1, ← h3.1, decide_eq_true h1, Bool.true_and]

/-- The table that the code reads is the document's. -/
theorem look_ref {b : List Int} (hb : Byt b) {g z : Int} (h1 : 1 ≤ g) (h2 : g ≤ 65535) (hz : z = 2 ∨ z = 4) :
    (∀ x, lookS b g z = some x → ∃ rs, refReadS b g z = some rs ∧ Rel b x.2 rs) ∧ (lookS b g z = none → refReadS b g z = none) := by
  unfold lookS refReadS
  cases h : uS b 0 2 with
  | none =>
    have : gU b 0 2 = -1 := by unfold gU; rw [h]; rfl
    rw [this]
    exact ⟨fun x hx => (by cases hx), fun _ => rfl⟩
  | some fmt =>
    rw [gU_some h]
    have hr := parts_rel hb (g := g) fmt hz
    simp only [Option.bind_some]
    cases hp : partsS b g z fmt with
    | none =>
      refine ⟨fun x hx => by simp at hx, fun _ => ?_⟩
      cases hq : refPartsS b g z fmt with
      | none => rfl
      | some rs =>
        have := (hr.2 hp rs hq).good
        simp [this]
    | some ps =>
      obtain ⟨rs, hq, hrel⟩ := hr.1 ps hp
      have hg := hrel.good (partsS_ok hb h1 h2 hz hp)
      rw [hq]
      simp only [Option.bind_some, hg]
      cases risesS ps with
      | true => exact ⟨fun x hx => by simp at hx; subst hx; exact ⟨rs, rfl, hrel⟩, fun hn => by simp at hn⟩
      | false => exact ⟨fun x hx => by simp at hx, fun _ => rfl⟩

/-- A glyph's number is the document's. -/
theorem get_ref {b : List Int} {id : Int} : ∀ {ps : List Pt} {rs : List RP}, Rel b ps rs → (∀ p, p ∈ ps → p.ok) → risesS ps = true → getS ps id = refGetS b rs id
  | [], [], _, _, _ => rfl
  | [], _ :: _, h, _, _ => by cases h
  | _ :: _, [], h, _, _ => by cases h
  | p :: ps, r :: rs, h, hok, hr => by
    have hp := hok p (by simp)
    have hrs : risesS ps = true := by
      cases ps with
      | nil => rfl
      | cons q l => simp only [risesS, Bool.and_eq_true] at hr; exact hr.2
    have ih := get_ref (id := id) h.2 (fun q hq => hok q (by simp [hq])) hrs
    obtain ⟨e1, e2, e3⟩ := h.1
    unfold getS refGetS at ih ⊢
    rw [List.find?_cons, List.find?_cons]
    by_cases hl : id ≤ p.last
    · rw [decide_eq_true hl]
      dsimp only
      rw [Option.bind_some]
      by_cases hf : p.first ≤ id
      · rw [if_pos hf, decide_eq_true (by rw [← e1, ← e2]; exact ⟨hf, hl⟩)]
        dsimp only
        rw [Option.map_some]
        obtain ⟨x, hx, _⟩ := Pt.num_some hp hf
        have := e3 id (by rw [← e1]; exact hf) (by rw [← e2]; exact hl)
        rw [hx] at this ⊢
        rw [gU_some this.symm]
      · rw [if_neg hf, decide_eq_false (by rw [← e1]; exact fun hc => hf hc.1)]
        dsimp only
        rw [← ih]
        cases hfd : ps.find? (fun p => decide (id ≤ p.last)) with
        | none => rfl
        | some q =>
          have hq := List.mem_of_find?_eq_some hfd
          obtain ⟨j, hj⟩ := List.getElem?_of_mem hq
          have := risesS_get hr hok 0 (j + 1) p q (by omega) (by simp) (by simpa using hj)
          rw [Option.bind_some, if_neg (by have := hp.2.1; omega)]
    · rw [decide_eq_false hl, decide_eq_false (by rw [← e2]; exact fun hc => hl hc.2)]
      exact ih
end Go.Sw
