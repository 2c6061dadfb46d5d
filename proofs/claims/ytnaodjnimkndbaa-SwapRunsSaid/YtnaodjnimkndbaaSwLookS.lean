/-
  Lookups, as they are read: parts of glyphs in a row, and their numbers.
-/
import Derived.Test.YtnaodjnimkndbaaSwSeek
import Derived.Test.YtnaodjnimkndbaaSwRef1
import Derived.Test.YtnaodjnimkndbaaSwLib9
namespace Go.Sw
open Go.RowKit

theorem mapO_len {α β : Type} {f : α → Option β} : ∀ {l : List α} {r : List β}, mapO f l = some r → r.length = l.length
  | [], r, h => by injection h with h; subst h; rfl
  | x :: l, r, h => by
    simp only [mapO] at h
    obtain ⟨y, _, h⟩ := Option.bind_eq_some_iff.1 h
    obtain ⟨r', h1, rfl⟩ := Option.map_eq_some_iff.1 h
    simp [mapO_len h1]
theorem mapO_get {α β : Type} {f : α → Option β} : ∀ {l : List α} {r : List β} {i : Nat} {y : β}, mapO f l = some r → r[i]? = some y → ∃ x, l[i]? = some x ∧ f x = some y
  | [], r, i, y, h, hy => by injection h with h; subst h; simp at hy
  | x :: l, r, i, y, h, hy => by
    simp only [mapO] at h
    obtain ⟨z, h0, h⟩ := Option.bind_eq_some_iff.1 h
    obtain ⟨r', h1, rfl⟩ := Option.map_eq_some_iff.1 h
    cases i with
    | zero => simp at hy; subst hy; exact ⟨x, by simp, h0⟩
    | succ i => simp at hy; simpa using mapO_get h1 hy
/-- Glyphs in a row, and their numbers: one for all, or one each. -/
structure Pt where
  first : Int
  last : Int
  vals : List Int

/-- So many numbers of so many bytes. -/
def listS (b : List Int) (i n z : Int) : Option (List Int) := (rowsS b i n z).map fun r => (cutRows r z.toNat n.toNat).map num

def trimS (b : List Int) (i z : Int) : Option (List Pt) :=
  (uS b i 2).bind fun f => (uS b (i + 2) 2).bind fun n =>
    if f + n ≤ 65536 then (listS b (i + 4) n z).map fun vs => if n = 0 then [] else [⟨f, f + n - 1, vs⟩] else none

def segP (b : List Int) (z : Int) (each : Bool) (row : List Int) : Option Pt :=
  (uS row 2 2).bind fun f => (uS row 0 2).bind fun l =>
    if f ≤ l then (if each then (uS row 4 2).bind fun i => (listS b i (l - f + 1) z).map fun vs => ⟨f, l, vs⟩ else (uS row 4 z).map fun x => ⟨f, l, [x]⟩) else none
def segS (b : List Int) (z : Int) (each : Bool) : Option (List Pt) :=
  (takeS b 2 (if each then 6 else 4 + z) 2).bind (mapO (segP b z each))
def oneP (z : Int) (row : List Int) : Option Pt := (uS row 0 2).bind fun i => (uS row 2 z).map fun x => ⟨i, i, [x]⟩
def oneS (b : List Int) (z : Int) : Option (List Pt) := (takeS b 2 (2 + z) 1).bind (mapO (oneP z))

/-- No part reaches into the next one. -/
def risesS : List Pt → Bool
  | [] => true
  | [_] => true
  | p :: q :: l => decide (p.last < q.first) && risesS (q :: l)

def partsS (b : List Int) (glyphs z fmt : Int) : Option (List Pt) :=
  if fmt = 0 then (listS b 2 glyphs z).map fun vs => [⟨0, glyphs - 1, vs⟩] else
  if fmt = 2 then segS b z false else
  if fmt = 4 then segS b z true else
  if fmt = 6 then oneS b z else
  if fmt = 8 then trimS b 2 z else
  if fmt = 10 then (uS b 2 2).bind fun u => if u = 1 ∨ u = 2 ∨ u = 4 then trimS b 4 u else none
  else none

/-- The table that bytes begin with. -/
def lookS (b : List Int) (glyphs z : Int) : Option (Int × List Pt) :=
  (uS b 0 2).bind fun fmt => (partsS b glyphs z fmt).bind fun ps => if risesS ps then some (fmt, ps) else none

/-- A part's number of a glyph. -/
def Pt.num (p : Pt) (id : Int) : Option Int := p.vals[(min (id - p.first) ((p.vals.length : Int) - 1)).toNat]?
/-- A glyph's number. -/
def getS (ps : List Pt) (id : Int) : Option Int := (ps.find? fun p => decide (id ≤ p.last)).bind fun p => if p.first ≤ id then p.num id else none
/-- The greatest number. -/
def mostS (ps : List Pt) : Int := ps.foldl (fun m p => p.vals.foldl max m) (-1)

theorem find_first {α : Type} (q : α → Bool) : ∀ (l : List α) (i : Nat), IsFirst l.length (fun j => (l[j]?).elim false q) i → l.find? q = l[i]?
  | [], i, h => by simp
  | x :: l, 0, h => by
    have := h.2.2 0 (Nat.le_refl _) (by simp)
    simp at this
    simp [this]
  | x :: l, i + 1, h => by
    have h0 := h.2.1 0 (by omega)
    simp at h0
    rw [List.find?_cons, h0]
    simp only [List.getElem?_cons_succ]
    exact find_first q l i ⟨by simpa using h.1, fun j hj => by simpa using h.2.1 (j + 1) (by omega), fun j h1 h2 => by simpa using h.2.2 (j + 1) (by omega) (by simpa using h2)⟩

/-- A part is as it should be. -/
def Pt.ok (p : Pt) : Prop := 0 ≤ p.first ∧ p.first ≤ p.last ∧ p.last < 65536 ∧ p.vals ≠ [] ∧ (p.vals.length : Int) ≤ 65536 ∧ ∀ x, x ∈ p.vals → 0 ≤ x ∧ x < 4294967296

theorem num_lt4 {l : List Int} (h : Byt l) (hl : l.length ≤ 4) : 0 ≤ num l ∧ num l < 4294967296 := by
  have := num_bound l h
  have h4 : l.length = 0 ∨ l.length = 1 ∨ l.length = 2 ∨ l.length = 3 ∨ l.length = 4 := by omega
  rcases h4 with e | e | e | e | e <;> rw [e] at this <;> omega
theorem cutRows_byt {r : List Int} (hb : Byt r) (z n : Nat) {l : List Int} (h : l ∈ cutRows r z n) : Byt l ∧ l.length ≤ z := by
  obtain ⟨i, _, rfl⟩ := List.mem_map.1 h
  exact ⟨fun x hx => hb x (List.mem_of_mem_drop (List.mem_of_mem_take hx)), by simp; omega⟩
theorem rowsS_n {b : List Int} {i n z : Int} {r : List Int} (h : rowsS b i n z = some r) : 0 ≤ n ∧ 0 ≤ z ∧ 0 ≤ i ∧ i ≤ b.length ∧ n * z ≤ b.length - i ∧ r = (b.drop i.toNat).take (n * z).toNat := by
  unfold rowsS at h
  split at h
  · rename_i hc
    unfold pieceS at h
    split at h
    · rename_i hd
      injection h with h
      exact ⟨hc.1, hc.2.1, hd.1, hd.2.2.1, hd.2.2.2, h.symm⟩
    · cases h
  · cases h
theorem listS_spec {b : List Int} (hb : Byt b) {i n z : Int} {vs : List Int} (hz : z ≤ 4) (h : listS b i n z = some vs) : 0 ≤ n ∧ (vs.length : Int) = n ∧ ∀ x, x ∈ vs → 0 ≤ x ∧ x < 4294967296 := by
  unfold listS at h
  obtain ⟨r, hr, rfl⟩ := Option.map_eq_some_iff.1 h
  have h1 := rowsS_n hr
  have h2 := (hb.piece (rowsS_piece hr)).1
  refine ⟨h1.1, by simp; omega, fun x hx => ?_⟩
  obtain ⟨l, hl, rfl⟩ := List.mem_map.1 hx
  obtain ⟨h3, h4⟩ := cutRows_byt h2 _ _ hl
  exact num_lt4 h3 (by omega)
/-- All rows of a header are bytes of one length. -/
theorem takeS_spec {b : List Int} (hb : Byt b) {i need : Int} {keys : Nat} {rows : List (List Int)} (h : takeS b i need keys = some rows) : ∃ z n : Int, uS b i 2 = some z ∧ uS b (i + 2) 2 = some n ∧ need ≤ z ∧ (rows.length : Int) ≤ n ∧ ∀ row, row ∈ rows → Byt row ∧ (row.length : Int) = z := by
  unfold takeS at h
  split at h
  · rename_i z n h1 h2
    split at h
    · rename_i hc
      obtain ⟨r, hr, rfl⟩ := Option.map_eq_some_iff.1 h
      have hn := rowsS_n hr
      have hrb := (hb.piece (rowsS_piece hr)).1
      have hrl : (r.length : Int) = n * z := pieceS_len (rowsS_piece hr)
      refine ⟨z, n, h1, h2, hc.2, ?_, fun row hrow => ?_⟩
      · unfold endRows
        split <;> simp <;> omega
      · have hm : row ∈ cutRows r z.toNat n.toNat := by
          unfold endRows at hrow
          split at hrow
          · obtain ⟨i, hi, rfl⟩ := List.mem_map.1 hrow
            exact List.mem_map.2 ⟨i, List.mem_range.2 (by have := List.mem_range.1 hi; omega), rfl⟩
          · exact hrow
        refine ⟨(cutRows_byt hrb _ _ hm).1, ?_⟩
        obtain ⟨j, hj, rfl⟩ := List.mem_map.1 hm
        have hj := List.mem_range.1 hj
        obtain ⟨z', rfl⟩ := Int.eq_ofNat_of_zero_le hn.2.1
        obtain ⟨n', rfl⟩ := Int.eq_ofNat_of_zero_le hn.1
        have hrl : r.length = n' * z' := by exact_mod_cast hrl
        simp only [Int.toNat_natCast] at hj ⊢
        have : z' * j + z' ≤ r.length := by
          rw [hrl, ← Nat.mul_succ, Nat.mul_comm]
          exact Nat.mul_le_mul_right _ hj
        simp; omega
    · cases h
  · cases h
theorem trimS_ok {b : List Int} (hb : Byt b) {i z : Int} (hz : z ≤ 4) {ps : List Pt} (h : trimS b i z = some ps) : ∀ p, p ∈ ps → p.ok := by
  unfold trimS at h
  obtain ⟨f, hf, h⟩ := Option.bind_eq_some_iff.1 h
  obtain ⟨n, hn, h⟩ := Option.bind_eq_some_iff.1 h
  split at h
  · rename_i hc
    obtain ⟨vs, hv, rfl⟩ := Option.map_eq_some_iff.1 h
    have hs := listS_spec hb hz hv
    have hf := uS_two hb hf
    have hn := uS_two hb hn
    intro p hp
    split at hp
    · simp at hp
    · simp at hp
      subst hp
      exact ⟨by simp; omega, by simp; omega, by simp; omega, fun e => by simp at e; simp [e] at hs; omega, by simp; omega, hs.2.2⟩
  · cases h
theorem segP_ok {b row : List Int} (hb : Byt b) (hr : Byt row) {z : Int} (hz : z = 2 ∨ z = 4) {each : Bool} {p : Pt} (h : segP b z each row = some p) : p.ok := by
  unfold segP at h
  obtain ⟨f, hf, h⟩ := Option.bind_eq_some_iff.1 h
  obtain ⟨l, hl, h⟩ := Option.bind_eq_some_iff.1 h
  have hf := uS_two hr hf
  have hl := uS_two hr hl
  split at h
  · split at h
    · obtain ⟨i, hi, h⟩ := Option.bind_eq_some_iff.1 h
      obtain ⟨vs, hv, rfl⟩ := Option.map_eq_some_iff.1 h
      have hs := listS_spec hb (by omega) hv
      exact ⟨by simp; omega, by simpa, by simp; omega, fun e => by simp at e; simp [e] at hs; omega, by simp; omega, hs.2.2⟩
    · obtain ⟨x, hx, rfl⟩ := Option.map_eq_some_iff.1 h
      refine ⟨by simp; omega, by simpa, by simp; omega, by simp, by simp, fun y hy => ?_⟩
      simp at hy
      subst hy
      rcases hz with rfl | rfl
      · have := uS_two hr hx; omega
      · have := uS_four hr hx; omega
  · cases h
theorem oneP_ok {row : List Int} (hr : Byt row) {z : Int} (hz : z = 2 ∨ z = 4) {p : Pt} (h : oneP z row = some p) : p.ok := by
  unfold oneP at h
  obtain ⟨i, hi, h⟩ := Option.bind_eq_some_iff.1 h
  obtain ⟨x, hx, rfl⟩ := Option.map_eq_some_iff.1 h
  have hi := uS_two hr hi
  refine ⟨by simp; omega, by simp, by simp; omega, by simp, by simp, fun y hy => ?_⟩
  simp at hy
  subst hy
  rcases hz with rfl | rfl
  · have := uS_two hr hx; omega
  · have := uS_four hr hx; omega
theorem mapO_all {α β : Type} {f : α → Option β} {l : List α} {r : List β} (h : mapO f l = some r) {P : β → Prop} (hp : ∀ x y, x ∈ l → f x = some y → P y) : ∀ y, y ∈ r → P y := by
  intro y hy
  obtain ⟨i, hi⟩ := List.mem_iff_getElem?.1 hy
  obtain ⟨x, hx, hf⟩ := mapO_get h hi
  exact hp x y (List.mem_of_getElem? hx) hf
theorem partsS_ok {b : List Int} (hb : Byt b) {glyphs z fmt : Int} (hg : 1 ≤ glyphs) (hg2 : glyphs ≤ 65535) (hz : z = 2 ∨ z = 4) {ps : List Pt} (h : partsS b glyphs z fmt = some ps) : ∀ p, p ∈ ps → p.ok := by
  unfold partsS at h
  split at h
  · obtain ⟨vs, hv, rfl⟩ := Option.map_eq_some_iff.1 h
    have hs := listS_spec hb (by omega) hv
    intro p hp
    simp at hp
    subst hp
    exact ⟨by simp, by simp; omega, by simp; omega, fun e => by simp at e; simp [e] at hs; omega, by simp; omega, hs.2.2⟩
  split at h
  · obtain ⟨rows, h1, h2⟩ := Option.bind_eq_some_iff.1 h
    obtain ⟨_, _, _, _, _, _, hr⟩ := takeS_spec hb h1
    exact mapO_all h2 fun x y hx hy => segP_ok hb (hr x hx).1 hz hy
  split at h
  · obtain ⟨rows, h1, h2⟩ := Option.bind_eq_some_iff.1 h
    obtain ⟨_, _, _, _, _, _, hr⟩ := takeS_spec hb h1
    exact mapO_all h2 fun x y hx hy => segP_ok hb (hr x hx).1 hz hy
  split at h
  · obtain ⟨rows, h1, h2⟩ := Option.bind_eq_some_iff.1 h
    obtain ⟨_, _, _, _, _, _, hr⟩ := takeS_spec hb h1
    exact mapO_all h2 fun x y hx hy => oneP_ok (hr x hx).1 hz hy
  split at h
  · exact trimS_ok hb (by omega) h
  split at h
  · obtain ⟨u, _, h⟩ := Option.bind_eq_some_iff.1 h
    split at h
    · exact trimS_ok hb (by omega) h
    · cases h
  · cases h
theorem lookS_ok {b : List Int} (hb : Byt b) {glyphs z fmt : Int} (hg : 1 ≤ glyphs) (hg2 : glyphs ≤ 65535) (hz : z = 2 ∨ z = 4) {ps : List Pt} (h : lookS b glyphs z = some (fmt, ps)) : uS b 0 2 = some fmt ∧ (∀ p, p ∈ ps → p.ok) ∧ risesS ps = true := by
  unfold lookS at h
  obtain ⟨f, hf, h⟩ := Option.bind_eq_some_iff.1 h
  obtain ⟨qs, hq, h⟩ := Option.bind_eq_some_iff.1 h
  split at h
  · rename_i hr
    injection h with h; injection h with h1 h2
    subst h1 h2
    exact ⟨hf, partsS_ok hb hg hg2 hz hq, hr⟩
  · cases h
theorem segS_len {b : List Int} (hb : Byt b) {z : Int} {each : Bool} {ps : List Pt} (h : segS b z each = some ps) : ps.length < 65536 := by
  obtain ⟨rows, h1, h2⟩ := Option.bind_eq_some_iff.1 h
  obtain ⟨_, n, _, hn, _, hlen, _⟩ := takeS_spec hb h1
  have := uS_two hb hn
  have := mapO_len h2
  omega
theorem oneS_len {b : List Int} (hb : Byt b) {z : Int} {ps : List Pt} (h : oneS b z = some ps) : ps.length < 65536 := by
  obtain ⟨rows, h1, h2⟩ := Option.bind_eq_some_iff.1 h
  obtain ⟨_, n, _, hn, _, hlen, _⟩ := takeS_spec hb h1
  have := uS_two hb hn
  have := mapO_len h2
  omega
theorem trimS_len {b : List Int} {i z : Int} {ps : List Pt} (h : trimS b i z = some ps) : ps.length < 65536 := by
  obtain ⟨f, _, h⟩ := Option.bind_eq_some_iff.1 h
  obtain ⟨n, _, h⟩ := Option.bind_eq_some_iff.1 h
  split at h
  · obtain ⟨vs, _, rfl⟩ := Option.map_eq_some_iff.1 h
    split <;> simp
  · cases h
theorem lookS_len {b : List Int} (hb : Byt b) {g z : Int} {x : Int × List Pt} (h : lookS b g z = some x) : x.2.length < 2 ^ 31 := by
  unfold lookS at h
  obtain ⟨f, _, h⟩ := Option.bind_eq_some_iff.1 h
  obtain ⟨ps, h1, h⟩ := Option.bind_eq_some_iff.1 h
  split at h
  · injection h with h
    subst h
    dsimp only
    unfold partsS at h1
    split at h1
    · obtain ⟨vs, _, rfl⟩ := Option.map_eq_some_iff.1 h1
      simp
    split at h1
    · have := segS_len hb h1; omega
    split at h1
    · have := segS_len hb h1; omega
    split at h1
    · have := oneS_len hb h1; omega
    split at h1
    · have := trimS_len h1; omega
    split at h1
    · obtain ⟨u, _, h1⟩ := Option.bind_eq_some_iff.1 h1
      split at h1
      · have := trimS_len h1; omega
      · cases h1
    · cases h1
  · cases h
theorem risesS_get : ∀ {ps : List Pt}, risesS ps = true → (∀ p, p ∈ ps → p.ok) → ∀ (i j : Nat) (p q : Pt), i < j → ps[i]? = some p → ps[j]? = some q → p.last < q.first
  | [], _, _, i, j, p, q, _, hp, _ => by simp at hp
  | [_], _, _, i, j, p, q, hij, hp, hq => by
    have h1 := (List.getElem?_eq_some_iff.1 hq).1
    simp at h1
    omega
  | a :: b :: l, h, hok, i, j, p, q, hij, hp, hq => by
    simp only [risesS, Bool.and_eq_true, decide_eq_true_eq] at h
    obtain ⟨j, rfl⟩ : ∃ j', j = j' + 1 := ⟨j - 1, by omega⟩
    have hq : (b :: l)[j]? = some q := by simpa using hq
    have hok' : ∀ p, p ∈ b :: l → p.ok := fun p hp => hok p (by simp at hp ⊢; exact .inr hp)
    cases i with
    | succ i => exact risesS_get h.2 hok' i j p q (by omega) (by simpa using hp) hq
    | zero =>
      simp at hp
      subst hp
      cases j with
      | zero => simp at hq; subst hq; exact h.1
      | succ j =>
        have h1 := risesS_get h.2 hok' 0 (j + 1) b q (by omega) (by simp) hq
        have h2 := hok b (by simp)
        have := h2.2.1
        omega
theorem getS_first {ps : List Pt} (id : Int) (i : Nat) (h : IsFirst ps.length (fun j => (ps[j]?).elim false fun p => decide (id ≤ p.last)) i) : getS ps id = (ps[i]?).bind fun p => if p.first ≤ id then p.num id else none := by
  unfold getS
  rw [find_first _ ps i h]
theorem Pt.num_some {p : Pt} (h : p.ok) {id : Int} (hf : p.first ≤ id) : ∃ x, p.num id = some x ∧ 0 ≤ x ∧ x < 4294967296 := by
  obtain ⟨h1, h2, h3, h4, h5, h6⟩ := h
  have hl : 0 < p.vals.length := List.length_pos_iff.2 h4
  unfold Pt.num
  have hi : (min (id - p.first) ((p.vals.length : Int) - 1)).toNat < p.vals.length := by omega
  exact ⟨p.vals[(min (id - p.first) ((p.vals.length : Int) - 1)).toNat], List.getElem?_eq_getElem hi, h6 _ (List.getElem_mem _)⟩
end Go.Sw
