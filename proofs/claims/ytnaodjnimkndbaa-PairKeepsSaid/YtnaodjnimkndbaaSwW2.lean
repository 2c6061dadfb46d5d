/-
  Functions' forms, and what is proved of them, part 2.
-/
import Derived.Test.YtnaodjnimkndbaaSwW1
import Derived.Test.YtnaodjnimkndbaaSwLib9
import Derived.Test.YtnaodjnimkndbaaSwCfg
set_option linter.unusedSimpArgs false
set_option linter.unusedVariables false
set_option linter.unusedSectionVars false
section
namespace Go.Sw
open Go.RowKit
theorem mapO_len {α β : Type} {f : α → Option β} : ∀ {l : List α} {r : List β}, mapO f l = some r → r.length = l.length
 | [], r, h => by injection h with h; subst h; rfl
 | x :: l, r, h => by
  simp only [mapO] at h
  obtain ⟨y, _, h⟩ := Option.bind_eq_some_iff.1 h
  obtain ⟨r', h1, rfl⟩ := Option.map_eq_some_iff.1 h
  simp [mapO_len h1]
theorem mapO_get {α β : Type} {f : α → Option β} : ∀ {l : List α} {r : List β} {i : Nat} {y : β}, mapO f l = some r → r[i]? = some y → ∃ x, l[i]? = some x ∧ f x = some y
 | [], r, i, y, h, hy => by injection h with h; subst h; simp at hy
 | x :: l, r, i, y, h, hy => by
  simp only [mapO] at h
  obtain ⟨z, h0, h⟩ := Option.bind_eq_some_iff.1 h
  obtain ⟨r', h1, rfl⟩ := Option.map_eq_some_iff.1 h
  cases i with
  | zero => simp at hy; subst hy; exact ⟨x, by simp, h0⟩
  | succ i => simp at hy; simpa using mapO_get h1 hy
structure Pt where
 first : Int
 last : Int
 vals : List Int
def listS (b : List Int) (i n z : Int) : Option (List Int) := (rowsS b i n z).map fun r => (cutRows r z.toNat n.toNat).map num
def trimS (b : List Int) (i z : Int) : Option (List Pt) :=
 (uS b i 2).bind fun f => (uS b (i + 2) 2).bind fun n =>
  if f + n ≤ 65536 then (listS b (i + 4) n z).map fun vs => if n = 0 then [] else [⟨f, f + n - 1, vs⟩] else none
def segP (b : List Int) (z : Int) (each : Bool) (row : List Int) : Option Pt :=
 (uS row 2 2).bind fun f => (uS row 0 2).bind fun l =>
  if f ≤ l then (if each then (uS row 4 2).bind fun i => (listS b i (l - f + 1) z).map fun vs => ⟨f, l, vs⟩ else (uS row 4 z).map fun x => ⟨f, l, [x]⟩) else none
def segS (b : List Int) (z : Int) (each : Bool) : Option (List Pt) :=
 (takeS b 2 (if each then 6 else 4 + z) 2).bind (mapO (segP b z each))
def oneP (z : Int) (row : List Int) : Option Pt := (uS row 0 2).bind fun i => (uS row 2 z).map fun x => ⟨i, i, [x]⟩
def oneS (b : List Int) (z : Int) : Option (List Pt) := (takeS b 2 (2 + z) 1).bind (mapO (oneP z))
def risesS : List Pt → Bool
 | [] => true
 | [_] => true
 | p :: q :: l => decide (p.last < q.first) && risesS (q :: l)
def partsS (b : List Int) (glyphs z fmt : Int) : Option (List Pt) :=
 if fmt = 0 then (listS b 2 glyphs z).map fun vs => [⟨0, glyphs - 1, vs⟩] else
 if fmt = 2 then segS b z false else
 if fmt = 4 then segS b z true else
 if fmt = 6 then oneS b z else
 if fmt = 8 then trimS b 2 z else
 if fmt = 10 then (uS b 2 2).bind fun u => if u = 1 ∨ u = 2 ∨ u = 4 then trimS b 4 u else none
 else none
def lookS (b : List Int) (glyphs z : Int) : Option (Int × List Pt) :=
 (uS b 0 2).bind fun fmt => (partsS b glyphs z fmt).bind fun ps => if risesS ps then some (fmt, ps) else none
def Pt.num (p : Pt) (id : Int) : Option Int := p.vals[(min (id - p.first) ((p.vals.length : Int) - 1)).toNat]?
def getS (ps : List Pt) (id : Int) : Option Int := (ps.find? fun p => decide (id ≤ p.last)).bind fun p => if p.first ≤ id then p.num id else none
def mostS (ps : List Pt) : Int := ps.foldl (fun m p => p.vals.foldl max m) (-1)
theorem find_first {α : Type} (q : α → Bool) : ∀ (l : List α) (i : Nat), IsFirst l.length (fun j => (l[j]?).elim false q) i → l.find? q = l[i]?
 | [], i, h => by simp
 | x :: l, 0, h => by
  have := h.2.2 0 (Nat.le_refl _) (by simp)
  simp at this
  simp [this]
 | x :: l, i + 1, h => by
  have h0 := h.2.1 0 (by omega)
  simp at h0
  rw [List.find?_cons, h0]
  simp only [List.getElem?_cons_succ]
  exact find_first q l i ⟨by simpa using h.1, fun j hj => by simpa using h.2.1 (j + 1) (by omega), fun j h1 h2 => by simpa using h.2.2 (j + 1) (by omega) (by simpa using h2)⟩
def Pt.ok (p : Pt) : Prop := 0 ≤ p.first ∧ p.first ≤ p.last ∧ p.last < 65536 ∧ p.vals ≠ [] ∧ (p.vals.length : Int) ≤ 65536 ∧ ∀ x, x ∈ p.vals → 0 ≤ x ∧ x < 4294967296
theorem num_lt4 {l : List Int} (h : Byt l) (hl : l.length ≤ 4) : 0 ≤ num l ∧ num l < 4294967296 := by
 have := num_bound l h
 have h4 : l.length = 0 ∨ l.length = 1 ∨ l.length = 2 ∨ l.length = 3 ∨ l.length = 4 := by omega
 rcases h4 with e | e | e | e | e <;> rw [e] at this <;> omega
theorem cutRows_byt {r : List Int} (hb : Byt r) (z n : Nat) {l : List Int} (h : l ∈ cutRows r z n) : Byt l ∧ l.length ≤ z := by
 obtain ⟨i, _, rfl⟩ := List.mem_map.1 h
 exact ⟨fun x hx => hb x (List.mem_of_mem_drop (List.mem_of_mem_take hx)), by simp; omega⟩
theorem rowsS_n {b : List Int} {i n z : Int} {r : List Int} (h : rowsS b i n z = some r) : 0 ≤ n ∧ 0 ≤ z ∧ 0 ≤ i ∧ i ≤ b.length ∧ n * z ≤ b.length - i ∧ r = (b.drop i.toNat).take (n * z).toNat := by
 unfold rowsS at h
 split at h
 ·rename_i hc
  unfold pieceS at h
  split at h
  ·rename_i hd
   injection h with h
   exact ⟨hc.1, hc.2.1, hd.1, hd.2.2.1, hd.2.2.2, h.symm⟩
  ·cases h
 ·cases h
theorem listS_spec {b : List Int} (hb : Byt b) {i n z : Int} {vs : List Int} (hz : z ≤ 4) (h : listS b i n z = some vs) : 0 ≤ n ∧ (vs.length : Int) = n ∧ ∀ x, x ∈ vs → 0 ≤ x ∧ x < 4294967296 := by
 unfold listS at h
 obtain ⟨r, hr, rfl⟩ := Option.map_eq_some_iff.1 h
 have h1 := rowsS_n hr
 have h2 := (hb.piece (rowsS_piece hr)).1
 refine ⟨h1.1, by simp; omega, fun x hx => ?_⟩
 obtain ⟨l, hl, rfl⟩ := List.mem_map.1 hx
 obtain ⟨h3, h4⟩ := cutRows_byt h2 _ _ hl
 exact num_lt4 h3 (by omega)
theorem takeS_spec {b : List Int} (hb : Byt b) {i need : Int} {keys : Nat} {rows : List (List Int)} (h : takeS b i need keys = some rows) : ∃ z n : Int, uS b i 2 = some z ∧ uS b (i + 2) 2 = some n ∧ need ≤ z ∧ (rows.length : Int) ≤ n ∧ ∀ row, row ∈ rows → Byt row ∧ (row.length : Int) = z := by
 unfold takeS at h
 split at h
 ·rename_i z n h1 h2
  split at h
  ·rename_i hc
   obtain ⟨r, hr, rfl⟩ := Option.map_eq_some_iff.1 h
   have hn := rowsS_n hr
   have hrb := (hb.piece (rowsS_piece hr)).1
   have hrl : (r.length : Int) = n * z := pieceS_len (rowsS_piece hr)
   refine ⟨z, n, h1, h2, hc.2, ?_, fun row hrow => ?_⟩
   ·unfold endRows
    split <;> simp <;> omega
   ·have hm : row ∈ cutRows r z.toNat n.toNat := by
     unfold endRows at hrow
     split at hrow
     ·obtain ⟨i, hi, rfl⟩ := List.mem_map.1 hrow
      exact List.mem_map.2 ⟨i, List.mem_range.2 (by have := List.mem_range.1 hi; omega), rfl⟩
     ·exact hrow
    refine ⟨(cutRows_byt hrb _ _ hm).1, ?_⟩
    obtain ⟨j, hj, rfl⟩ := List.mem_map.1 hm
    have hj := List.mem_range.1 hj
    obtain ⟨z', rfl⟩ := Int.eq_ofNat_of_zero_le hn.2.1
    obtain ⟨n', rfl⟩ := Int.eq_ofNat_of_zero_le hn.1
    have hrl : r.length = n' * z' := by exact_mod_cast hrl
    simp only [Int.toNat_natCast] at hj ⊢
    have : z' * j + z' ≤ r.length := by
     rw [hrl, ← Nat.mul_succ, Nat.mul_comm]
     exact Nat.mul_le_mul_right _ hj
    simp; omega
  ·cases h
 ·cases h
theorem trimS_ok {b : List Int} (hb : Byt b) {i z : Int} (hz : z ≤ 4) {ps : List Pt} (h : trimS b i z = some ps) : ∀ p, p ∈ ps → p.ok := by
 unfold trimS at h
 obtain ⟨f, hf, h⟩ := Option.bind_eq_some_iff.1 h
 obtain ⟨n, hn, h⟩ := Option.bind_eq_some_iff.1 h
 split at h
 ·rename_i hc
  obtain ⟨vs, hv, rfl⟩ := Option.map_eq_some_iff.1 h
  have hs := listS_spec hb hz hv
  have hf := uS_two hb hf
  have hn := uS_two hb hn
  intro p hp
  split at hp
  ·simp at hp
  ·simp at hp
   subst hp
   exact ⟨by simp; omega, by simp; omega, by simp; omega, fun e => by simp at e; simp [e] at hs; omega, by simp; omega, hs.2.2⟩
 ·cases h
theorem segP_ok {b row : List Int} (hb : Byt b) (hr : Byt row) {z : Int} (hz : z = 2 ∨ z = 4) {each : Bool} {p : Pt} (h : segP b z each row = some p) : p.ok := by
 unfold segP at h
 obtain ⟨f, hf, h⟩ := Option.bind_eq_some_iff.1 h
 obtain ⟨l, hl, h⟩ := Option.bind_eq_some_iff.1 h
 have hf := uS_two hr hf
 have hl := uS_two hr hl
 split at h
 ·split at h
  ·obtain ⟨i, hi, h⟩ := Option.bind_eq_some_iff.1 h
   obtain ⟨vs, hv, rfl⟩ := Option.map_eq_some_iff.1 h
   have hs := listS_spec hb (by omega) hv
   exact ⟨by simp; omega, by simpa, by simp; omega, fun e => by simp at e; simp [e] at hs; omega, by simp; omega, hs.2.2⟩
  ·obtain ⟨x, hx, rfl⟩ := Option.map_eq_some_iff.1 h
   refine ⟨by simp; omega, by simpa, by simp; omega, by simp, by simp, fun y hy => ?_⟩
   simp at hy
   subst hy
   rcases hz with rfl | rfl
   ·have := uS_two hr hx; omega
   ·have := uS_four hr hx; omega
 ·cases h
theorem oneP_ok {row : List Int} (hr : Byt row) {z : Int} (hz : z = 2 ∨ z = 4) {p : Pt} (h : oneP z row = some p) : p.ok := by
 unfold oneP at h
 obtain ⟨i, hi, h⟩ := Option.bind_eq_some_iff.1 h
 obtain ⟨x, hx, rfl⟩ := Option.map_eq_some_iff.1 h
 have hi := uS_two hr hi
 refine ⟨by simp; omega, by simp, by simp; omega, by simp, by simp, fun y hy => ?_⟩
 simp at hy
 subst hy
 rcases hz with rfl | rfl
 ·have := uS_two hr hx; omega
 ·have := uS_four hr hx; omega
theorem mapO_all {α β : Type} {f : α → Option β} {l : List α} {r : List β} (h : mapO f l = some r) {P : β → Prop} (hp : ∀ x y, x ∈ l → f x = some y → P y) : ∀ y, y ∈ r → P y := by
 intro y hy
 obtain ⟨i, hi⟩ := List.mem_iff_getElem?.1 hy
 obtain ⟨x, hx, hf⟩ := mapO_get h hi
 exact hp x y (List.mem_of_getElem? hx) hf
theorem partsS_ok {b : List Int} (hb : Byt b) {glyphs z fmt : Int} (hg : 1 ≤ glyphs) (hg2 : glyphs ≤ 65535) (hz : z = 2 ∨ z = 4) {ps : List Pt} (h : partsS b glyphs z fmt = some ps) : ∀ p, p ∈ ps → p.ok := by
 unfold partsS at h
 split at h
 ·obtain ⟨vs, hv, rfl⟩ := Option.map_eq_some_iff.1 h
  have hs := listS_spec hb (by omega) hv
  intro p hp
  simp at hp
  subst hp
  exact ⟨by simp, by simp; omega, by simp; omega, fun e => by simp at e; simp [e] at hs; omega, by simp; omega, hs.2.2⟩
 split at h
 ·obtain ⟨rows, h1, h2⟩ := Option.bind_eq_some_iff.1 h
  obtain ⟨_, _, _, _, _, _, hr⟩ := takeS_spec hb h1
  exact mapO_all h2 fun x y hx hy => segP_ok hb (hr x hx).1 hz hy
 split at h
 ·obtain ⟨rows, h1, h2⟩ := Option.bind_eq_some_iff.1 h
  obtain ⟨_, _, _, _, _, _, hr⟩ := takeS_spec hb h1
  exact mapO_all h2 fun x y hx hy => segP_ok hb (hr x hx).1 hz hy
 split at h
 ·obtain ⟨rows, h1, h2⟩ := Option.bind_eq_some_iff.1 h
  obtain ⟨_, _, _, _, _, _, hr⟩ := takeS_spec hb h1
  exact mapO_all h2 fun x y hx hy => oneP_ok (hr x hx).1 hz hy
 split at h
 ·exact trimS_ok hb (by omega) h
 split at h
 ·obtain ⟨u, _, h⟩ := Option.bind_eq_some_iff.1 h
  split at h
  ·exact trimS_ok hb (by omega) h
  ·cases h
 ·cases h
theorem lookS_ok {b : List Int} (hb : Byt b) {glyphs z fmt : Int} (hg : 1 ≤ glyphs) (hg2 : glyphs ≤ 65535) (hz : z = 2 ∨ z = 4) {ps : List Pt} (h : lookS b glyphs z = some (fmt, ps)) : uS b 0 2 = some fmt ∧ (∀ p, p ∈ ps → p.ok) ∧ risesS ps = true := by
 unfold lookS at h
 obtain ⟨f, hf, h⟩ := Option.bind_eq_some_iff.1 h
 obtain ⟨qs, hq, h⟩ := Option.bind_eq_some_iff.1 h
 split at h
 ·rename_i hr
  injection h with h; injection h with h1 h2
  subst h1 h2
  exact ⟨hf, partsS_ok hb hg hg2 hz hq, hr⟩
 ·cases h
theorem segS_len {b : List Int} (hb : Byt b) {z : Int} {each : Bool} {ps : List Pt} (h : segS b z each = some ps) : ps.length < 65536 := by
 obtain ⟨rows, h1, h2⟩ := Option.bind_eq_some_iff.1 h
 obtain ⟨_, n, _, hn, _, hlen, _⟩ := takeS_spec hb h1
 have := uS_two hb hn
 have := mapO_len h2
 omega
theorem oneS_len {b : List Int} (hb : Byt b) {z : Int} {ps : List Pt} (h : oneS b z = some ps) : ps.length < 65536 := by
 obtain ⟨rows, h1, h2⟩ := Option.bind_eq_some_iff.1 h
 obtain ⟨_, n, _, hn, _, hlen, _⟩ := takeS_spec hb h1
 have := uS_two hb hn
 have := mapO_len h2
 omega
theorem trimS_len {b : List Int} {i z : Int} {ps : List Pt} (h : trimS b i z = some ps) : ps.length < 65536 := by
 obtain ⟨f, _, h⟩ := Option.bind_eq_some_iff.1 h
 obtain ⟨n, _, h⟩ := Option.bind_eq_some_iff.1 h
 split at h
 ·obtain ⟨vs, _, rfl⟩ := Option.map_eq_some_iff.1 h
  split <;> simp
 ·cases h
theorem lookS_len {b : List Int} (hb : Byt b) {g z : Int} {x : Int × List Pt} (h : lookS b g z = some x) : x.2.length < 2 ^ 31 := by
 unfold lookS at h
 obtain ⟨f, _, h⟩ := Option.bind_eq_some_iff.1 h
 obtain ⟨ps, h1, h⟩ := Option.bind_eq_some_iff.1 h
 split at h
 ·injection h with h
  subst h
  dsimp only
  unfold partsS at h1
  split at h1
  ·obtain ⟨vs, _, rfl⟩ := Option.map_eq_some_iff.1 h1
   simp
  split at h1
  ·have := segS_len hb h1; omega
  split at h1
  ·have := segS_len hb h1; omega
  split at h1
  ·have := oneS_len hb h1; omega
  split at h1
  ·have := trimS_len h1; omega
  split at h1
  ·obtain ⟨u, _, h1⟩ := Option.bind_eq_some_iff.1 h1
   split at h1
   ·have := trimS_len h1; omega
   ·cases h1
  ·cases h1
 ·cases h
theorem risesS_get : ∀ {ps : List Pt}, risesS ps = true → (∀ p, p ∈ ps → p.ok) → ∀ (i j : Nat) (p q : Pt), i < j → ps[i]? = some p → ps[j]? = some q → p.last < q.first
 | [], _, _, i, j, p, q, _, hp, _ => by simp at hp
 | [_], _, _, i, j, p, q, hij, hp, hq => by
  have h1 := (List.getElem?_eq_some_iff.1 hq).1
  simp at h1
  omega
 | a :: b :: l, h, hok, i, j, p, q, hij, hp, hq => by
  simp only [risesS, Bool.and_eq_true, decide_eq_true_eq] at h
  obtain ⟨j, rfl⟩ : ∃ j', j = j' + 1 := ⟨j - 1, by omega⟩
  have hq : (b :: l)[j]? = some q := by simpa using hq
  have hok' : ∀ p, p ∈ b :: l → p.ok := fun p hp => hok p (by simp at hp ⊢; exact .inr hp)
  cases i with
  | succ i => exact risesS_get h.2 hok' i j p q (by omega) (by simpa using hp) hq
  | zero =>
   simp at hp
   subst hp
   cases j with
   | zero => simp at hq; subst hq; exact h.1
   | succ j =>
    have h1 := risesS_get h.2 hok' 0 (j + 1) b q (by omega) (by simp) hq
    have h2 := hok b (by simp)
    have := h2.2.1
    omega
theorem getS_first {ps : List Pt} (id : Int) (i : Nat) (h : IsFirst ps.length (fun j => (ps[j]?).elim false fun p => decide (id ≤ p.last)) i) : getS ps id = (ps[i]?).bind fun p => if p.first ≤ id then p.num id else none := by
 unfold getS
 rw [find_first _ ps i h]
theorem Pt.num_some {p : Pt} (h : p.ok) {id : Int} (hf : p.first ≤ id) : ∃ x, p.num id = some x ∧ 0 ≤ x ∧ x < 4294967296 := by
 obtain ⟨h1, h2, h3, h4, h5, h6⟩ := h
 have hl : 0 < p.vals.length := List.length_pos_iff.2 h4
 unfold Pt.num
 have hi : (min (id - p.first) ((p.vals.length : Int) - 1)).toNat < p.vals.length := by omega
 exact ⟨p.vals[(min (id - p.first) ((p.vals.length : Int) - 1)).toNat], List.getElem?_eq_getElem hi, h6 _ (List.getElem_mem _)⟩
end Go.Sw
end
section
namespace Go.Sw
open Go.RowKit
theorem pieceS_iff {b : List Int} {i n : Int} {r : List Int} : pieceS b i n = some r ↔ (0 ≤ i ∧ 0 ≤ n ∧ i ≤ b.length ∧ n ≤ b.length - i) ∧ r = (b.drop i.toNat).take n.toNat := by
 unfold pieceS
 split
 ·rename_i h
  constructor
  ·intro e; injection e with e; exact ⟨h, e.symm⟩
  ·rintro ⟨_, rfl⟩; rfl
 ·rename_i h
  constructor
  ·intro e; cases e
  ·rintro ⟨h', _⟩; exact absurd h' h
theorem uS_sub {b r : List Int} {p z : Int} (h : pieceS b p z = some r) {x y : Int} (hx : 0 ≤ x) (hy : 0 ≤ y) (hxy : x + y ≤ z) : uS r x y = uS b (p + x) y := by
 obtain ⟨⟨h1, h2, h3, h4⟩, rfl⟩ := pieceS_iff.1 h
 have hl : ((b.drop p.toNat).take z.toNat).length = z.toNat := by simp; omega
 unfold uS
 rw [pieceS_iff.2 ⟨by rw [hl]; omega, rfl⟩, pieceS_iff.2 ⟨by omega, rfl⟩, List.drop_take, List.take_take, List.drop_drop]
 rw [show min y.toNat (z.toNat - x.toNat) = y.toNat by omega, show p.toNat + x.toNat = (p + x).toNat by omega]
theorem rowsS_iff {b : List Int} {i n z : Int} {r : List Int} (hz : 0 < z) : rowsS b i n z = some r ↔ (0 ≤ i ∧ 0 ≤ n ∧ i ≤ b.length ∧ n * z ≤ b.length - i) ∧ r = (b.drop i.toNat).take (n * z).toNat := by
 unfold rowsS
 have k : n ≤ (b.length : Int) / z ↔ n * z ≤ b.length := Int.le_ediv_iff_mul_le hz
 split
 ·rename_i h
  rw [pieceS_iff]
  constructor
  ·rintro ⟨h1, h2⟩; exact ⟨⟨h1.1, h.1, h1.2.2.1, h1.2.2.2⟩, h2⟩
  ·rintro ⟨h1, h2⟩; exact ⟨⟨h1.1, Int.mul_nonneg h.1 (by omega), h1.2.2.1, h1.2.2.2⟩, h2⟩
 ·rename_i h
  constructor
  ·intro e; cases e
  ·rintro ⟨h1, _⟩
   exact absurd ⟨h1.2.1, by omega, .inr (k.2 (by omega))⟩ h
theorem rowsB_iff {s i n z : Int} (hz : 0 < z) : rowsB s i n z = true ↔ 0 ≤ i ∧ 0 ≤ n ∧ i ≤ s ∧ n * z ≤ s - i := by
 unfold rowsB
 have k : n ≤ (s - i) / z ↔ n * z ≤ s - i := Int.le_ediv_iff_mul_le hz
 rw [decide_eq_true_eq, k]
 constructor
 ·rintro ⟨h1, h2, h3, h4, h5⟩; exact ⟨h1, h2, h4, by rcases h5 with h5 | h5 <;> omega⟩
 ·rintro ⟨h1, h2, h3, h4⟩; exact ⟨h1, h2, by omega, h3, .inr h4⟩
theorem listS_isSome {b : List Int} {i n z : Int} (hz : 0 < z) : (listS b i n z).isSome = rowsB b.length i n z := by
 rw [Bool.eq_iff_iff, rowsB_iff hz, listS, Option.isSome_map, Option.isSome_iff_exists]
 constructor
 ·rintro ⟨r, hr⟩; exact ((rowsS_iff hz).1 hr).1
 ·intro h; exact ⟨_, (rowsS_iff hz).2 ⟨h, rfl⟩⟩
theorem listS_get {b : List Int} {i n z : Int} {vs : List Int} (hz : 0 < z) (h : listS b i n z = some vs) (j : Nat) (hj : (j : Int) < n) : vs[j]? = uS b (i + j * z) z := by
 unfold listS at h
 obtain ⟨r, hr, rfl⟩ := Option.map_eq_some_iff.1 h
 obtain ⟨⟨h1, h2, h3, h4⟩, rfl⟩ := (rowsS_iff hz).1 hr
 obtain ⟨i, rfl⟩ := Int.eq_ofNat_of_zero_le h1
 obtain ⟨n, rfl⟩ := Int.eq_ofNat_of_zero_le h2
 obtain ⟨z, rfl⟩ := Int.eq_ofNat_of_zero_le (Int.le_of_lt hz)
 have hj' : j < n := by omega
 have e : j * z + z ≤ n * z := by
  rw [← Nat.succ_mul]; exact Nat.mul_le_mul_right _ hj'
 have h4' : n * z ≤ b.length - i := by omega
 simp only [Int.toNat_natCast]
 rw [List.getElem?_map, cutRows_get _ _ _ _ hj', Option.map_some]
 unfold uS
 rw [pieceS_iff.2 ⟨⟨by omega, by omega, by
  have : ((j * z : Nat) : Int) = (j : Int) * z := by simp
  omega, by
  have : ((j * z : Nat) : Int) = (j : Int) * z := by simp
  omega⟩, rfl⟩, Option.map_some]
 congr 2
 rw [show ((n : Int) * z).toNat = n * z by rw [← Int.natCast_mul, Int.toNat_natCast], show ((i : Int) + j * z).toNat = i + j * z by rw [← Int.natCast_mul, ← Int.natCast_add, Int.toNat_natCast], Int.toNat_natCast]
 rw [List.drop_take, List.take_take, List.drop_drop, Nat.mul_comm z j]
 rw [show min z (n * z - j * z) = z by omega]
theorem rowsS_row {b : List Int} {i : Int} {n z : Nat} {r : List Int} (h : rowsS b i n z = some r) {j : Nat} (hj : j < n) : pieceS b (i + z * j) z = some ((r.drop (z * j)).take z) := by
 have hn := rowsS_n h
 obtain ⟨i', hi'⟩ := Int.eq_ofNat_of_zero_le hn.2.2.1
 have e : z * j + z ≤ n * z := by
  rw [← Nat.mul_succ, Nat.mul_comm]; exact Nat.mul_le_mul_right _ (by omega)
 have e1 : ((z * j : Nat) : Int) = (z : Int) * j := by simp
 have e2 : ((n * z : Nat) : Int) = (n : Int) * z := by simp
 rw [pieceS_iff]
 refine ⟨⟨by omega, by omega, by omega, by omega⟩, ?_⟩
 rw [hn.2.2.2.2.2, hi', show ((n : Int) * z).toNat = n * z by rw [← e2, Int.toNat_natCast], show ((i' : Int) + z * j).toNat = i' + z * j by rw [← e1, ← Int.natCast_add, Int.toNat_natCast]]
 simp only [Int.toNat_natCast]
 rw [List.drop_take, List.take_take, List.drop_drop]
 rw [show min z (n * z - z * j) = z by omega]
theorem takeS_get {b : List Int} {i need : Int} {keys : Nat} {rows : List (List Int)} (h : takeS b i need keys = some rows) :
  ∃ z n : Int, uS b i 2 = some z ∧ uS b (i + 2) 2 = some n ∧ need ≤ z ∧ 0 ≤ z ∧ (rows.length : Int) ≤ n ∧ ∀ (j : Nat) row, rows[j]? = some row → pieceS b (i + 10 + z * j) z = some row := by
 unfold takeS at h
 split at h
 ·rename_i z n h1 h2
  split at h
  ·rename_i hc
   obtain ⟨r, hr, rfl⟩ := Option.map_eq_some_iff.1 h
   have hn := rowsS_n hr
   refine ⟨z, n, h1, h2, hc.2, hn.2.1, ?_, fun j row hrow => ?_⟩
   ·unfold endRows
    split <;> simp <;> omega
   ·have hm : (cutRows r z.toNat n.toNat)[j]? = some row := by
     unfold endRows at hrow
     split at hrow
     ·have hlt := (List.getElem?_eq_some_iff.1 hrow).1
      simp at hlt
      rw [cutRows_get _ _ _ _ (by omega)] at hrow
      rw [cutRows_get _ _ _ _ (by omega)]
      exact hrow
     ·exact hrow
    have hlt := (List.getElem?_eq_some_iff.1 hm).1
    simp at hlt
    rw [cutRows_get _ _ _ _ (by omega)] at hm
    injection hm with hm
    obtain ⟨z', rfl⟩ := Int.eq_ofNat_of_zero_le hn.2.1
    obtain ⟨n', rfl⟩ := Int.eq_ofNat_of_zero_le hn.1
    obtain ⟨i', hi'⟩ := Int.eq_ofNat_of_zero_le hn.2.2.1
    simp only [Int.toNat_natCast] at hlt hm
    have e : z' * j + z' ≤ n' * z' := by
     rw [← Nat.mul_succ, Nat.mul_comm]; exact Nat.mul_le_mul_right _ (by omega)
    have e1 : ((z' * j : Nat) : Int) = (z' : Int) * j := by simp
    have e2 : ((n' * z' : Nat) : Int) = (n' : Int) * z' := by simp
    rw [pieceS_iff]
    refine ⟨⟨by omega, by omega, by omega, by omega⟩, ?_⟩
    rw [← hm, hn.2.2.2.2.2, hi', show ((n' : Int) * z').toNat = n' * z' by rw [← e2, Int.toNat_natCast], show ((i' : Int) + z' * j).toNat = i' + z' * j by rw [← e1, ← Int.natCast_add, Int.toNat_natCast]]
    simp only [Int.toNat_natCast]
    rw [List.drop_take, List.take_take, List.drop_drop]
    rw [show min z' (n' * z' - z' * j) = z' by omega]
  ·cases h
 ·cases h
def gU (b : List Int) (i n : Int) : Int := (uS b i n).getD (-1)
theorem gU_two {b : List Int} (hb : Byt b) (i : Int) : -1 ≤ gU b i 2 ∧ gU b i 2 < 65536 := by
 unfold gU
 cases h : uS b i 2 with
 | none => simp
 | some x => have := uS_two hb h; simp; omega
structure RP where
 first : Int
 last : Int
 pos : Int
 size : Int
 step : Int
def posS (i z : Int) (n : Nat) : List Int := (List.range n).map fun j => i + 10 + z * (j : Nat)
theorem posS_get (i z : Int) (n j : Nat) (h : j < n) : (posS i z n)[j]? = some (i + 10 + z * j) := by simp [posS, h]
@[simp] theorem posS_len (i z : Int) (n : Nat) : (posS i z n).length = n := by simp [posS]
def segR (b : List Int) (z : Int) (each : Bool) (p : Int) : Option RP :=
 if each then (if rowsB b.length (gU b (p + 4) 2) (gU b p 2 - gU b (p + 2) 2 + 1) z then some ⟨gU b (p + 2) 2, gU b p 2, gU b (p + 4) 2, z, z⟩ else none)
 else some ⟨gU b (p + 2) 2, gU b p 2, p + 4, z, 0⟩
def refSegS (b : List Int) (z : Int) (each : Bool) : Option (List RP) :=
 (takeS b 2 (if each then 6 else 4 + z) 2).bind fun rows => mapO (segR b z each) (posS 2 (gU b 2 2) rows.length)
def oneR (b : List Int) (z : Int) (p : Int) : RP := ⟨gU b p 2, gU b p 2, p + 2, z, 0⟩
def refOneS (b : List Int) (z : Int) : Option (List RP) :=
 (takeS b 2 (2 + z) 1).map fun rows => (posS 2 (gU b 2 2) rows.length).map (oneR b z)
def refTrimS (b : List Int) (i z : Int) : Option (List RP) :=
 (uS b i 2).bind fun f => (uS b (i + 2) 2).bind fun n =>
  if f + n ≤ 65536 ∧ rowsB b.length (i + 4) n z = true then some (if n = 0 then [] else [⟨f, f + n - 1, i + 4, z, z⟩]) else none
def refPartsS (b : List Int) (glyphs z fmt : Int) : Option (List RP) :=
 if fmt = 0 then (if rowsB b.length 2 glyphs z then some [⟨0, glyphs - 1, 2, z, z⟩] else none) else
 if fmt = 2 then refSegS b z false else
 if fmt = 4 then refSegS b z true else
 if fmt = 6 then refOneS b z else
 if fmt = 8 then refTrimS b 2 z else
 if fmt = 10 then (uS b 2 2).bind fun u => if u = 1 ∨ u = 2 ∨ u = 4 then refTrimS b 4 u else none
 else none
def goodR : List RP → Bool
 | [] => true
 | [r] => decide (r.first ≤ r.last)
 | r :: q :: l => decide (r.first ≤ r.last) && decide (r.last < q.first) && goodR (q :: l)
def refReadS (b : List Int) (glyphs z : Int) : Option (List RP) :=
 (refPartsS b glyphs z (gU b 0 2)).bind fun rs => if goodR rs then some rs else none
def refGetS (b : List Int) (rs : List RP) (id : Int) : Option Int :=
 (rs.find? fun r => decide (r.first ≤ id ∧ id ≤ r.last)).map fun r => gU b (r.pos + (id - r.first) * r.step) r.size
def PR (b : List Int) (p : Pt) (r : RP) : Prop := p.first = r.first ∧ p.last = r.last ∧ (∀ id, r.first ≤ id → id ≤ r.last → p.num id = uS b (r.pos + (id - r.first) * r.step) r.size) ∧ ((r.step = 0 ∧ p.vals.length = 1) ∨ (r.step ≠ 0 ∧ (p.vals.length : Int) = r.last - r.first + 1))
def Rel (b : List Int) : List Pt → List RP → Prop
 | [], [] => True
 | p :: ps, r :: rs => PR b p r ∧ Rel b ps rs
 | _, _ => False
def Bad (rs : List RP) : Prop := ∃ r, r ∈ rs ∧ r.last < r.first
theorem Bad.good {rs : List RP} (h : Bad rs) : goodR rs = false := by
 obtain ⟨r, hr, hlt⟩ := h
 induction rs with
 | nil => cases hr
 | cons a l ih =>
  rcases List.mem_cons.1 hr with rfl | hr
  ·cases l with
   | nil => simp [goodR]; omega
   | cons q l => simp only [goodR, Bool.and_eq_false_iff, decide_eq_false_iff_not]; exact .inl (.inl (by omega))
  ·have := ih hr
   cases l with
   | nil => cases hr
   | cons q l => simp only [goodR, this, Bool.and_false]
theorem mapO_rel {b : List Int} {f : List Int → Option Pt} {g : Int → Option RP} : ∀ (rows : List (List Int)) (ps : List Int), rows.length = ps.length →
  (∀ (j : Nat) row p, rows[j]? = some row → ps[j]? = some p → (∀ x, f row = some x → ∃ r, g p = some r ∧ PR b x r) ∧ (f row = none → g p = none ∨ ∃ r, g p = some r ∧ r.last < r.first)) →
  (∀ xs, mapO f rows = some xs → ∃ rs, mapO g ps = some rs ∧ Rel b xs rs) ∧ (mapO f rows = none → ∀ rs, mapO g ps = some rs → Bad rs)
 | [], [], _, _ => ⟨fun xs h => ⟨[], rfl, by injection h with h; subst h; trivial⟩, fun h => by cases h⟩
 | [], _ :: _, h, _ => by simp at h
 | _ :: _, [], h, _ => by simp at h
 | row :: rows, p :: ps, h, hs => by
  have h0 := hs 0 row p (by simp) (by simp)
  have ih := mapO_rel rows ps (by simpa using h) fun j r q h1 h2 => hs (j + 1) r q (by simpa using h1) (by simpa using h2)
  constructor
  ·intro xs hx
   simp only [mapO] at hx
   obtain ⟨x, e1, hx⟩ := Option.bind_eq_some_iff.1 hx
   obtain ⟨xs', e2, rfl⟩ := Option.map_eq_some_iff.1 hx
   obtain ⟨r, g1, p1⟩ := h0.1 x e1
   obtain ⟨rs, g2, p2⟩ := ih.1 xs' e2
   exact ⟨r :: rs, by simp [mapO, g1, g2], p1, p2⟩
  ·intro hn rs hr
   simp only [mapO] at hr
   obtain ⟨r, e1, hr⟩ := Option.bind_eq_some_iff.1 hr
   obtain ⟨rs', e2, rfl⟩ := Option.map_eq_some_iff.1 hr
   cases hf : f row with
   | none =>
    rcases h0.2 hf with h1 | ⟨r', h1, h2⟩
    ·rw [h1] at e1; cases e1
    ·rw [h1] at e1; injection e1 with e1; subst e1
     exact ⟨r', by simp, h2⟩
   | some x =>
    simp only [mapO, hf, Option.bind_some, Option.map_eq_none_iff] at hn
    obtain ⟨q, hq, hlt⟩ := ih.2 hn rs' e2
    exact ⟨q, by simp [hq], hlt⟩
theorem mapO_pure {α β : Type} (f : α → β) : ∀ l : List α, mapO (fun x => some (f x)) l = some (l.map f)
 | [] => rfl
 | x :: l => by simp [mapO, mapO_pure f l]
theorem gU_some {b : List Int} {i n x : Int} (h : uS b i n = some x) : gU b i n = x := by unfold gU; rw [h]; rfl
theorem row_two {b row : List Int} {p z : Int} (h : pieceS b p z = some row) {x : Int} (hx : 0 ≤ x) {y : Int} (hy : 0 ≤ y) (hxy : x + y ≤ z) : uS row x y = uS b (p + x) y ∧ ∃ n, uS b (p + x) y = some n := by
 refine ⟨uS_sub h hx hy hxy, ?_⟩
 obtain ⟨⟨h1, h2, h3, h4⟩, _⟩ := pieceS_iff.1 h
 unfold uS
 rw [pieceS_iff.2 ⟨by omega, rfl⟩]
 exact ⟨_, rfl⟩
theorem list_num {b : List Int} {i f l z : Int} {vs : List Int} (hz : 0 < z) (h : listS b i (l - f + 1) z = some vs) (hlen : (vs.length : Int) = l - f + 1) : PR b ⟨f, l, vs⟩ ⟨f, l, i, z, z⟩ := by
 refine ⟨rfl, rfl, fun id h1 h2 => ?_, .inr ⟨by dsimp only; omega, hlen⟩⟩
 dsimp only at h1 h2 ⊢
 unfold Pt.num
 dsimp only
 rw [hlen, show min (id - f) (l - f + 1 - 1) = id - f by omega]
 have := listS_get hz h (id - f).toNat (by omega)
 rw [this]
 congr 2
 rw [show (((id - f).toNat : Nat) : Int) = id - f by omega]
theorem seg_rel {b row : List Int} {p z s : Int} {each : Bool} (hb : Byt b) (hz : z = 2 ∨ z = 4) (hrow : pieceS b p s = some row) (hs : (if each then 6 else 4 + z) ≤ s) :
  (∀ x, segP b z each row = some x → ∃ r, segR b z each p = some r ∧ PR b x r) ∧ (segP b z each row = none → segR b z each p = none ∨ ∃ r, segR b z each p = some r ∧ r.last < r.first) := by
 have hs6 : 6 ≤ s := by cases each <;> simp at hs <;> omega
 obtain ⟨e2, f, hf⟩ := row_two hrow (x := 2) (y := 2) (by omega) (by omega) (by omega)
 obtain ⟨e0, l, hl⟩ := row_two hrow (x := 0) (y := 2) (by omega) (by omega) (by omega)
 obtain ⟨e4, a, ha⟩ := row_two hrow (x := 4) (y := 2) (by omega) (by omega) (by omega)
 rw [Int.add_zero] at e0 hl
 unfold segP segR
 rw [e2, e0, hf, hl, gU_some hf, gU_some hl]
 simp only [Option.bind_some]
 cases each with
 | false =>
  simp at hs
  obtain ⟨ez, x, hx⟩ := row_two hrow (x := 4) (y := z) (by omega) (by omega) (by omega)
  simp only [Bool.false_eq_true, if_false]
  by_cases h : f ≤ l
  ·rw [if_pos h, ez, hx]
   refine ⟨fun y hy => ?_, fun hn => by cases hn⟩
   injection hy with hy
   subst hy
   refine ⟨_, rfl, rfl, rfl, fun id h1 h2 => ?_, .inl ⟨rfl, rfl⟩⟩
   dsimp only at h1 h2 ⊢
   rw [Int.mul_zero, Int.add_zero, hx]
   unfold Pt.num
   simp
   rw [show (min (id - f) 0).toNat = 0 by omega]
   rfl
  ·rw [if_neg h]
   exact ⟨fun y hy => (by cases hy), fun _ => .inr ⟨_, rfl, by dsimp only; omega⟩⟩
 | true =>
  simp only [if_true]
  rw [e4, ha, gU_some ha]
  simp only [Option.bind_some]
  have hbl := listS_isSome (b := b) (i := a) (n := l - f + 1) (z := z) (by omega)
  by_cases h : f ≤ l
  ·rw [if_pos h]
   cases hv : listS b a (l - f + 1) z with
   | none =>
    rw [hv] at hbl
    rw [if_neg (by rw [← hbl]; simp)]
    exact ⟨fun y hy => (by cases hy), fun _ => .inl rfl⟩
   | some vs =>
    rw [hv] at hbl
    rw [if_pos (by rw [← hbl]; rfl)]
    refine ⟨fun y hy => ?_, fun hn => by cases hn⟩
    injection hy with hy
    subst hy
    exact ⟨_, rfl, list_num (by omega) hv (listS_spec hb (by omega) hv).2.1⟩
  ·rw [if_neg h]
   refine ⟨fun y hy => (by cases hy), fun _ => ?_⟩
   split
   ·exact .inr ⟨_, rfl, by dsimp only; omega⟩
   ·exact .inl rfl
def Alike (b : List Int) (o : Option (List Pt)) (q : Option (List RP)) : Prop := (∀ xs, o = some xs → ∃ rs, q = some rs ∧ Rel b xs rs) ∧ (o = none → ∀ rs, q = some rs → Bad rs)
theorem Alike.none {b : List Int} : Alike b none none := ⟨fun xs h => (by cases h), fun _ rs h => by cases h⟩
theorem Alike.one {b : List Int} {p : Pt} {r : RP} (h : PR b p r) : Alike b (some [p]) (some [r]) := ⟨fun xs h' => ⟨_, rfl, by injection h' with h'; subst h'; exact ⟨h, trivial⟩⟩, fun h => by cases h⟩
theorem segs_rel {b : List Int} (hb : Byt b) {z : Int} (hz : z = 2 ∨ z = 4) (each : Bool) : Alike b (segS b z each) (refSegS b z each) := by
 unfold segS refSegS
 cases h : takeS b 2 (if each then 6 else 4 + z) 2 with
 | none => exact .none
 | some rows =>
  obtain ⟨s, n, h1, h2, h3, h4, h5, h6⟩ := takeS_get h
  simp only [Option.bind_some]
  rw [gU_some h1]
  refine mapO_rel rows _ (by simp) fun j row p hr hp => ?_
  have hlt := (List.getElem?_eq_some_iff.1 hr).1
  rw [posS_get _ _ _ _ hlt] at hp
  injection hp with hp
  subst hp
  exact seg_rel hb hz (h6 j row hr) h3
theorem ones_rel {b : List Int} {z : Int} (hz : z = 2 ∨ z = 4) : Alike b (oneS b z) (refOneS b z) := by
 unfold oneS refOneS
 cases h : takeS b 2 (2 + z) 1 with
 | none => exact .none
 | some rows =>
  obtain ⟨s, n, h1, h2, h3, h4, h5, h6⟩ := takeS_get h
  simp only [Option.bind_some, Option.map_some]
  rw [gU_some h1, ← mapO_pure]
  refine mapO_rel rows _ (by simp) fun j row p hr hp => ?_
  have hlt := (List.getElem?_eq_some_iff.1 hr).1
  rw [posS_get _ _ _ _ hlt] at hp
  injection hp with hp
  subst hp
  have hp := h6 j row hr
  obtain ⟨e0, f, hf⟩ := row_two hp (x := 0) (y := 2) (by omega) (by omega) (by omega)
  obtain ⟨e2, x, hx⟩ := row_two hp (x := 2) (y := z) (by omega) (by omega) (by omega)
  rw [Int.add_zero] at e0 hf
  unfold oneP oneR
  rw [e0, e2, hf, hx, gU_some hf]
  refine ⟨fun y hy => ?_, fun hn => by cases hn⟩
  simp at hy
  subst hy
  refine ⟨_, rfl, rfl, rfl, fun id h1 h2 => ?_, .inl ⟨rfl, rfl⟩⟩
  dsimp only at h1 h2 ⊢
  rw [Int.mul_zero, Int.add_zero, hx]
  unfold Pt.num
  simp
  rw [show (min (id - f) 0).toNat = 0 by omega]
  rfl
theorem trims_rel {b : List Int} (hb : Byt b) {i z : Int} (hz : z = 1 ∨ z = 2 ∨ z = 4) : Alike b (trimS b i z) (refTrimS b i z) := by
 unfold trimS refTrimS
 cases h1 : uS b i 2 with
 | none => exact .none
 | some f =>
  cases h2 : uS b (i + 2) 2 with
  | none => exact .none
  | some n =>
   simp only [Option.bind_some]
   have hbl := listS_isSome (b := b) (i := i + 4) (n := n) (z := z) (by omega)
   by_cases h : f + n ≤ 65536
   ·rw [if_pos h]
    cases hv : listS b (i + 4) n z with
    | none =>
     rw [hv] at hbl
     rw [if_neg (by rw [← hbl]; simp)]
     exact .none
    | some vs =>
     rw [hv] at hbl
     rw [if_pos ⟨h, by rw [← hbl]; rfl⟩]
     simp only [Option.map_some]
     by_cases h0 : n = 0
     ·rw [if_pos h0, if_pos h0]
      exact ⟨fun xs hx => ⟨[], rfl, by injection hx with hx; subst hx; trivial⟩, fun h => by cases h⟩
     ·rw [if_neg h0, if_neg h0]
      have hlen := (listS_spec hb (by omega) hv).2.1
      exact .one (list_num (by omega) (by rw [show f + n - 1 - f + 1 = n by omega]; exact hv) (by omega))
   ·rw [if_neg h, if_neg (fun hc => h hc.1)]
    exact .none
theorem parts_rel {b : List Int} (hb : Byt b) {g z : Int} (fmt : Int) (hz : z = 2 ∨ z = 4) : Alike b (partsS b g z fmt) (refPartsS b g z fmt) := by
 unfold partsS refPartsS
 split
 ·have hbl := listS_isSome (b := b) (i := 2) (n := g) (z := z) (by omega)
  cases hv : listS b 2 g z with
  | none =>
   rw [hv] at hbl
   rw [if_neg (by rw [← hbl]; simp)]
   exact .none
  | some vs =>
   rw [hv] at hbl
   rw [if_pos (by rw [← hbl]; rfl)]
   have hlen := (listS_spec hb (by omega) hv).2.1
   exact .one (list_num (by omega) (by rw [show g - 1 - 0 + 1 = g by omega]; exact hv) (by omega))
 split
 ·exact segs_rel hb hz false
 split
 ·exact segs_rel hb hz true
 split
 ·exact ones_rel hz
 split
 ·exact trims_rel hb (by omega)
 split
 ·cases h : uS b 2 2 with
  | none => exact .none
  | some u =>
   simp only [Option.bind_some]
   by_cases hu : u = 1 ∨ u = 2 ∨ u = 4
   ·rw [if_pos hu, if_pos hu]; exact trims_rel hb hu
   ·rw [if_neg hu, if_neg hu]; exact .none
 ·exact .none
theorem Rel.good {b : List Int} : ∀ {ps : List Pt} {rs : List RP}, Rel b ps rs → (∀ p, p ∈ ps → p.ok) → goodR rs = risesS ps
 | [], [], _, _ => rfl
 | [], _ :: _, h, _ => by cases h
 | _ :: _, [], h, _ => by cases h
 | [p], [r], h, hok => by
  have h1 := (hok p (by simp)).2.1
  have h2 := h.1
  rw [h2.1, h2.2.1] at h1
  simp [goodR, risesS, h1]
 | [p], _ :: _ :: _, h, _ => by cases h.2
 | _ :: _ :: _, [_], h, _ => by cases h.2
 | p :: p' :: ps, r :: r' :: rs, h, hok => by
  have ih := Rel.good (ps := p' :: ps) (rs := r' :: rs) h.2 fun q hq => hok q (by simp at hq ⊢; exact .inr hq)
  have h1 := (hok p (by simp)).2.1
  have h2 := h.1
  have h3 := h.2.1
  rw [h2.1, h2.2.1] at h1
  rw [← h2.2.1] at h1
  simp only [goodR, risesS, ih, ← h2.2.1, ← h3.1, decide_eq_true h1, Bool.true_and]
theorem look_ref {b : List Int} (hb : Byt b) {g z : Int} (h1 : 1 ≤ g) (h2 : g ≤ 65535) (hz : z = 2 ∨ z = 4) :
  (∀ x, lookS b g z = some x → ∃ rs, refReadS b g z = some rs ∧ Rel b x.2 rs) ∧ (lookS b g z = none → refReadS b g z = none) := by
 unfold lookS refReadS
 cases h : uS b 0 2 with
 | none =>
  have : gU b 0 2 = -1 := by unfold gU; rw [h]; rfl
  rw [this]
  exact ⟨fun x hx => (by cases hx), fun _ => rfl⟩
 | some fmt =>
  rw [gU_some h]
  have hr := parts_rel hb (g := g) fmt hz
  simp only [Option.bind_some]
  cases hp : partsS b g z fmt with
  | none =>
   refine ⟨fun x hx => by simp at hx, fun _ => ?_⟩
   cases hq : refPartsS b g z fmt with
   | none => rfl
   | some rs =>
    have := (hr.2 hp rs hq).good
    simp [this]
  | some ps =>
   obtain ⟨rs, hq, hrel⟩ := hr.1 ps hp
   have hg := hrel.good (partsS_ok hb h1 h2 hz hp)
   rw [hq]
   simp only [Option.bind_some, hg]
   cases risesS ps with
   | true => exact ⟨fun x hx => by simp at hx; subst hx; exact ⟨rs, rfl, hrel⟩, fun hn => by simp at hn⟩
   | false => exact ⟨fun x hx => by simp at hx, fun _ => rfl⟩
theorem get_ref {b : List Int} {id : Int} : ∀ {ps : List Pt} {rs : List RP}, Rel b ps rs → (∀ p, p ∈ ps → p.ok) → risesS ps = true → getS ps id = refGetS b rs id
 | [], [], _, _, _ => rfl
 | [], _ :: _, h, _, _ => by cases h
 | _ :: _, [], h, _, _ => by cases h
 | p :: ps, r :: rs, h, hok, hr => by
  have hp := hok p (by simp)
  have hrs : risesS ps = true := by
   cases ps with
   | nil => rfl
   | cons q l => simp only [risesS, Bool.and_eq_true] at hr; exact hr.2
  have ih := get_ref (id := id) h.2 (fun q hq => hok q (by simp [hq])) hrs
  obtain ⟨e1, e2, e3, _⟩ := h.1
  unfold getS refGetS at ih ⊢
  rw [List.find?_cons, List.find?_cons]
  by_cases hl : id ≤ p.last
  ·rw [decide_eq_true hl]
   dsimp only
   rw [Option.bind_some]
   by_cases hf : p.first ≤ id
   ·rw [if_pos hf, decide_eq_true (by rw [← e1, ← e2]; exact ⟨hf, hl⟩)]
    dsimp only
    rw [Option.map_some]
    obtain ⟨x, hx, _⟩ := Pt.num_some hp hf
    have := e3 id (by rw [← e1]; exact hf) (by rw [← e2]; exact hl)
    rw [hx] at this ⊢
    rw [gU_some this.symm]
   ·rw [if_neg hf, decide_eq_false (by rw [← e1]; exact fun hc => hf hc.1)]
    dsimp only
    rw [← ih]
    cases hfd : ps.find? (fun p => decide (id ≤ p.last)) with
    | none => rfl
    | some q =>
     have hq := List.mem_of_find?_eq_some hfd
     obtain ⟨j, hj⟩ := List.getElem?_of_mem hq
     have := risesS_get hr hok 0 (j + 1) p q (by omega) (by simp) (by simpa using hj)
     rw [Option.bind_some, if_neg (by have := hp.2.1; omega)]
  ·rw [decide_eq_false hl, decide_eq_false (by rw [← e2]; exact fun hc => hl hc.2)]
   exact ih
end Go.Sw
end
section
namespace Go.Sw
open Go.RowKit
def bytesOf (n : Int) : Nat → List Int
 | 0 => []
 | k + 1 => (n / 256 ^ k) % 256 :: bytesOf n k
@[simp] theorem bytesOf_len (n : Int) : ∀ k, (bytesOf n k).length = k
 | 0 => rfl
 | k + 1 => by simp [bytesOf, bytesOf_len n k]
theorem bytesOf_byt (n : Int) : ∀ k, Byt (bytesOf n k)
 | 0 => fun x hx => by simp [bytesOf] at hx
 | k + 1 => fun x hx => by
  simp only [bytesOf, List.mem_cons] at hx
  rcases hx with rfl | hx
  ·omega
  ·exact bytesOf_byt n k x hx
theorem num_cons (x : Int) (l : List Int) : num (x :: l) = x * 256 ^ l.length + num l := by
 have h : ∀ (l : List Int) (a : Int), l.foldl (fun x y => 256 * x + y) a = a * 256 ^ l.length + l.foldl (fun x y => 256 * x + y) 0 := by
  intro l
  induction l with
  | nil => intro a; simp
  | cons y l ih =>
   intro a
   simp only [List.foldl_cons, List.length_cons]
   rw [ih, ih (256 * 0 + y), Int.pow_succ]
   simp only [Int.mul_zero, Int.zero_add, Int.add_mul]
   rw [Int.mul_comm 256 a, Int.mul_assoc a 256, Int.mul_comm 256 (256 ^ l.length)]
   omega
 unfold num
 rw [List.foldl_cons, h]
 simp
theorem Byt.app {a b : List Int} (ha : Byt a) (hb : Byt b) : Byt (a ++ b) := fun x hx => by
 rcases List.mem_append.1 hx with h | h
 ·exact ha x h
 ·exact hb x h
theorem Byt.flat {l : List (List Int)} (h : ∀ r, r ∈ l → Byt r) : Byt l.flatten := fun x hx => by
 obtain ⟨r, hr, hx⟩ := List.mem_flatten.1 hx
 exact h r hr x hx
theorem flat_len {z : Nat} : ∀ {rs : List (List Int)}, (∀ r, r ∈ rs → r.length = z) → rs.flatten.length = rs.length * z
 | [], _ => by simp
 | r :: rs, h => by
  have h1 := h r (by simp)
  have h2 := flat_len (rs := rs) fun q hq => h q (by simp [hq])
  simp only [List.flatten_cons, List.length_append, List.length_cons, h1, h2, Nat.succ_mul]
  omega
structure Pr where
 id : Int
 x : Int
def Pr.ok (p : Pr) : Prop := 0 ≤ p.id ∧ p.id < 65536 ∧ 0 ≤ p.x ∧ p.x < 65536
end Go.Sw
end
section
namespace Go.Sw
open Go.RowKit
structure En where
 next : Int
 flags : Int
 a : Int
 b : Int
structure Mach where
 classes : Int
 tab : Int × List Pt
 rows : List (List Int)
 ents : List En
structure Mach.ok (m : Mach) : Prop where
 cl : 4 ≤ m.classes ∧ m.classes ≤ 65535
 pts : ∀ p, p ∈ m.tab.2 → p.ok
 rise : risesS m.tab.2 = true
 plen : m.tab.2.length < 2 ^ 31
 two : 2 ≤ m.rows.length ∧ m.rows.length ≤ 65536
 row : ∀ r, r ∈ m.rows → (r.length : Int) = m.classes ∧ ∀ x, x ∈ r → 0 ≤ x ∧ x < m.ents.length
 ent : ∀ e, e ∈ m.ents → 0 ≤ e.next ∧ e.next < m.rows.length ∧ 0 ≤ e.flags ∧ e.flags < 65536 ∧ 0 ≤ e.a ∧ e.a < 65536 ∧ 0 ≤ e.b ∧ e.b < 65536
 elen : m.ents.length ≤ 65536
theorem Byt.rest {b r : List Int} (hb : Byt b) {i : Int} (h : restS b i = some r) : Byt r := by
 unfold restS at h
 split at h
 ·injection h with h
  subst h
  exact fun x hx => hb x (List.mem_of_mem_drop hx)
 ·cases h
end Go.Sw
end
section
namespace Go.Sw
open Go.RowKit
section
variable {α β γ δ : Type} {E : Heap → Prop} {o : Option β} {f : β → Value} {r : Res Value} {H : Heap} {Q : δ → γ → Heap → Prop}
theorem Cp.call {K : Value → Heap → Res γ} {g : β → Option δ} (hr : r = orF o f H) (hE : E H) (hk : ∀ b, o = some b → Cp failV E (K (f b) H) (g b) Q) : Cp failV E (r.bind K) (o.bind g) Q := by
 subst hr
 cases o with
 | none => exact ⟨H, rfl, hE⟩
 | some b => exact hk b rfl
theorem Cp.callM {K : Value → Heap → Res γ} {g : β → δ} (hr : r = orF o f H) (hE : E H) (hk : ∀ b, o = some b → Cp failV E (K (f b) H) (some (g b)) Q) : Cp failV E (r.bind K) (o.map g) Q := by
 subst hr
 cases o with
 | none => exact ⟨H, rfl, hE⟩
 | some b => exact hk b rfl
theorem Cp.callL {Q : β → γ → Heap → Prop} {K : Value → Heap → Res γ} (hr : r = orF o f H) (hE : E H) (hk : ∀ b, o = some b → Cp failV E (K (f b) H) (some b) Q) : Cp failV E (r.bind K) o Q := by
 subst hr
 cases o with
 | none => exact ⟨H, rfl, hE⟩
 | some b => exact hk b rfl
theorem Cp.callT {G : Value → Heap → Res γ} {K : Value → Heap → Res γ} {g : β → Option δ} (hr : r = orF o f H) (hp : o = none → ∃ H', G failV H = .panic failV H' ∧ E H') (hk : ∀ b, o = some b → Cp failV E (K (f b) H) (g b) Q) : Cp failV E (r.bindT G K) (o.bind g) Q := by
 subst hr
 cases o with
 | none => exact hp rfl
 | some b => exact hk b rfl
theorem Cp.callTM {G : Value → Heap → Res γ} {K : Value → Heap → Res γ} {g : β → δ} (hr : r = orF o f H) (hp : o = none → ∃ H', G failV H = .panic failV H' ∧ E H') (hk : ∀ b, o = some b → Cp failV E (K (f b) H) (some (g b)) Q) : Cp failV E (r.bindT G K) (o.map g) Q := by
 subst hr
 cases o with
 | none => exact hp rfl
 | some b => exact hk b rfl
theorem Cp.need {k : Nat} {p : Prop} [Decidable p] {K : Value → Heap → Res γ} {g : Option δ} (hE : E H) (hk : p → Cp failV E (K (.tuple #[]) H) g Q) : Cp failV E ((R (T k) F.view_Need [.bool (decide p)] H).bind K) (if p then g else none) Q := by
 by_cases h : p
 ·rw [if_pos h, decide_eq_true h, Need_true]
  exact hk h
 ·rw [if_neg h, decide_eq_false h, Need_false]
  exact ⟨H, rfl, hE⟩
end
section
variable {β : Type} {H : Heap} {r : Res Value} {o : Option β} {f : β → Value}
theorem gc_orF (h : Cp failV (Ext H) r o fun b v _ => v = f b) (ha : ∀ b, o = some b → Alive H (f b)) : nrm .gc H r = orF o f H := by
 rw [nrm_gc_cp h ha Flat.fail.alive]
 cases o <;> rfl
theorem fz_orF (h : Cp failV (Ext H) r o fun b v H' => ∃ L, fzV H.n H' fzDepth v = some (f b, L)) (ha : ∀ b, o = some b → Alive H (f b)) : nrm .fz H r = orF o f H := by
 rw [nrm_fz_cp h ha Flat.fail.alive]
 cases o <;> rfl
end
end Go.Sw
end
section
set_option maxRecDepth 100000
set_option linter.unusedVariables false
namespace Go.Sw
noncomputable section
def lookup_Table_Get (k : Nat) (call : Caller) (a0 a1 : Value) (h : Heap) : Res Value :=
 (boxR a0 h).bind fun v1 h2 =>
 (boxR a1 h2).bind fun v3 h4 =>
 (loadR Prog 68 v1 h4).bind fun v5 h6 =>
 (nilR v5 h6).bind fun v7 h8 =>
 (fieldAddrR Prog 228 v7 1 h8).bind fun v9 h10 =>
 (loadR Prog 226 v9 h10).bind fun v11 h12 =>
 (builtinV Prog .len [226] [v11] h12).bind fun v13 h14 =>
 (call F.seek_First [v13, (.func (.func F.lookup_Table_Get_in1) #[] #[v1, v3])] h14).bind fun v15 h16 =>
 (loadR Prog 68 v1 h16).bindN fun v17 h18 =>
 (nilR v17 h18).bindN fun v19 h20 =>
 (fieldAddrR Prog 228 v19 1 h20).bindN fun v21 h22 =>
 (loadR Prog 226 v21 h22).bindN fun v23 h24 =>
 (builtinV Prog .len [226] [v23] h24).bindN fun v25 h26 =>
 (binR Prog .eql 3 v15 v25 h26).bindN fun v27 h28 =>
 ((bif wantVal v27 false then loadR Prog 68 v1 h28 else Res.ok undef h28)).bindN fun v29 h30 =>
 ((bif wantVal v27 false then nilR v29 h30 else Res.ok undef h30)).bindN fun v31 h32 =>
 ((bif wantVal v27 false then fieldAddrR Prog 228 v31 1 h32 else Res.ok undef h32)).bindN fun v33 h34 =>
 ((bif wantVal v27 false then loadR Prog 226 v33 h34 else Res.ok undef h34)).bindN fun v35 h36 =>
 ((bif wantVal v27 false then Res.ok v15 h36 else Res.ok undef h36)).bindN fun v37 h38 =>
 ((bif wantVal v27 false then indexAddrR Prog 226 v35 v37 h38 else Res.ok undef h38)).bindN fun v39 h40 =>
 ((bif wantVal v27 false then fieldAddrR Prog 230 v39 0 h40 else Res.ok undef h40)).bindN fun v41 h42 =>
 ((bif wantVal v27 false then loadR Prog 3 v41 h42 else Res.ok undef h42)).bindN fun v43 h44 =>
 ((bif wantVal v27 false then loadR Prog 3 v3 h44 else Res.ok undef h44)).bindN fun v45 h46 =>
 ((bif wantVal v27 false then binR Prog .gtr 3 v43 v45 h46 else Res.ok undef h46)).bindN fun v47 h48 =>
 (condV (some v27) (Res.ok (.bool true) h48) (Res.ok v47 h48)).bindN fun v49 h50 =>
 condV (some v49) (
 .ok (.tuple #[(.int .i64 0), (.bool false)]) h50)
 (
 (loadR Prog 68 v1 h50).bindN fun v51 h52 =>
 (nilR v51 h52).bindN fun v53 h54 =>
 (fieldAddrR Prog 228 v53 1 h54).bindN fun v55 h56 =>
 (loadR Prog 226 v55 h56).bindN fun v57 h58 =>
 (indexAddrR Prog 226 v57 v15 h58).bindN fun v59 h60 =>
 (loadR Prog 230 v59 h60).bindN fun v61 h62 =>
 (loadR Prog 3 v3 h62).bindN fun v63 h64 =>
 (call F.lookup_part_at [v61, v63] h64).bindT (fun p67 h68 => .panic p67 h68) fun v65 h66 =>
 .ok (.tuple #[v65, (.bool true)]) h66)
theorem lookup_Table_Get_R (k : Nat) (a0 a1 : Value) (h : Heap) : R (T k) F.lookup_Table_Get [a0, a1] h = nrm .gc h (lookup_Table_Get k (R (T k)) a0 a1 h) :=
 (R_body (t := T k) (T_scott k) (by kernel_rfl) (by kernel_rfl) _ _).trans (by kernel_rfl)
def lookup_Table_Most_l1 (k : Nat) (call : Caller) : Env → Heap → Res (AExit × Env) := loopB (C k) call F.lookup_Table_Most [1, 1, 0, 1, 0, 0]
def lookup_Table_Most_l1k (k : Nat) (call : Caller) : Kont Value := kBlock 0 (kSeq (pieceK (C k) call F.lookup_Table_Most [1, 1, 1]) (kDone Prog (resOf Prog F.lookup_Table_Most)))
def lookup_Table_Most_l2 (k : Nat) (call : Caller) : Env → Heap → Res (AExit × Env) := loopB (C k) call F.lookup_Table_Most [1, 1, 0, 1, 0, 0, 1, 1, 0, 0, 1, 1, 0, 0]
def lookup_Table_Most_l2k (k : Nat) (call : Caller) : Kont (AExit × Env) := kBlock 2 (kBlock 1 (kSeq (pieceK (C k) call F.lookup_Table_Most [1, 1, 0, 1, 0, 0, 1, 1, 1]) (kRound (ownOf (C k) F.lookup_Table_Most [1, 1, 0, 1, 0, 0]))))
def lookup_Table_Most (k : Nat) (call : Caller) (a0 : Value) (h : Heap) : Res Value :=
 (nilR a0 h).bind fun v1 h2 =>
 (fieldAddrR Prog 228 v1 1 h2).bind fun v3 h4 =>
 (loadR Prog 226 v3 h4).bind fun v5 h6 =>
 (builtinV Prog .len [226] [v5] h6).bind fun v7 h8 =>
 (loopN (lookup_Table_Most_l1 k call) loopFuel [(3, (.int .i64 (-1))), (11, v5), (12, v7), (13, (.int .i64 0))] h8).bind fun r9 h10 =>
 lookup_Table_Most_l1k k call r9.1 r9.2 h10
theorem lookup_Table_Most_R (k : Nat) (a0 : Value) (h : Heap) : R (T k) F.lookup_Table_Most [a0] h = nrm .gc h (lookup_Table_Most k (R (T k)) a0 h) :=
 (R_body (t := T k) (T_scott k) (by kernel_rfl) (by kernel_rfl) _ _).trans (by kernel_rfl)
theorem lookup_Table_Most_l1_eq (k : Nat) (call : Caller) (a3 a11 a12 a13 : Value) (h : Heap) : lookup_Table_Most_l1 k call [(3, a3), (11, a11), (12, a12), (13, a13)] h =
 (binR Prog .lss 3 a13 a12 h).bind fun v11 h12 =>
 condV (some v11) (
 (indexAddrR Prog 226 a11 a13 h12).bind fun v13 h14 =>
 (loadR Prog 230 v13 h14).bind fun v15 h16 =>
 (allocR Prog 230 h16).bind fun v17 h18 =>
 (storeR Prog 230 v17 v15 h18).bind fun _v19 h20 =>
 (fieldAddrR Prog 230 v17 2 h20).bind fun v21 h22 =>
 (loadR Prog 28 v21 h22).bind fun v23 h24 =>
 (builtinV Prog .len [28] [v23] h24).bind fun v25 h26 =>
 (loopN (lookup_Table_Most_l2 k call) loopFuel [(3, a3), (11, a11), (12, a12), (13, a13), (18, v23), (19, v25), (20, (.int .i64 0))] h26).bind fun r27 h28 =>
 lookup_Table_Most_l2k k call r27.1 r27.2 h28)
 (
 .ok ((.exit 0), [(3, a3), (11, a11), (12, a12), (13, a13), (14, v11)]) h12) :=
 (loopB_eq _ _).trans (by kernel_rfl)
theorem lookup_Table_Most_l2_eq (k : Nat) (call : Caller) (a3 a11 a12 a13 a18 a19 a20 : Value) (h : Heap) : lookup_Table_Most_l2 k call [(3, a3), (11, a11), (12, a12), (13, a13), (18, a18), (19, a19), (20, a20)] h =
 (binR Prog .lss 3 a20 a19 h).bind fun v29 h30 =>
 condV (some v29) (
 (indexAddrR Prog 28 a18 a20 h30).bind fun v31 h32 =>
 (loadR Prog 3 v31 h32).bind fun v33 h34 =>
 (builtinV Prog .max [3, 3] [a3, v33] h34).bind fun v35 h36 =>
 (binR Prog .add 3 a20 (.int .i64 1) h36).bind fun v37 h38 =>
 .ok (.normal, [(3, v35), (11, a11), (12, a12), (13, a13), (18, a18), (19, a19), (20, v37)]) h38)
 (
 .ok ((.exit 2), [(3, a3), (11, a11), (12, a12), (13, a13), (18, a18), (19, a19), (20, a20), (21, v29)]) h30) :=
 (loopB_eq _ _).trans (by kernel_rfl)
theorem lookup_Table_Most_l1k_x0 (k : Nat) (call : Caller) (a3 a11 a12 a13 a14 : Value) (h : Heap) : lookup_Table_Most_l1k k call (.exit 0) [(3, a3), (11, a11), (12, a12), (13, a13), (14, a14)] h =
 .ok a3 h := by kernel_rfl
theorem lookup_Table_Most_l2k_x2 (k : Nat) (call : Caller) (a3 a11 a12 a13 a18 a19 a20 a21 : Value) (h : Heap) : lookup_Table_Most_l2k k call (.exit 2) [(3, a3), (11, a11), (12, a12), (13, a13), (18, a18), (19, a19), (20, a20), (21, a21)] h =
 (binR Prog .add 3 a13 (.int .i64 1) h).bind fun v39 h40 =>
 .ok (.normal, [(3, a3), (11, a11), (12, a12), (13, v39)]) h40 := by kernel_rfl
def lookup_Take_j1 (k : Nat) (call : Caller) (a8 : Value) (h : Heap) : Res Value :=
 kSeq (pieceK (C k) call F.lookup_Take [1, 1, 1, 1]) (kDone Prog (resOf Prog F.lookup_Take)) .normal [(8, a8)] h
def lookup_Take_l1 (k : Nat) (call : Caller) : Env → Heap → Res (AExit × Env) := loopB (C k) call F.lookup_Take [1, 1, 1, 1, 0, 1, 0, 0]
def lookup_Take_l1k (k : Nat) (call : Caller) : Kont Value := kBlock 1 (kSeq (pieceK (C k) call F.lookup_Take [1, 1, 1, 1, 1]) (kDone Prog (resOf Prog F.lookup_Take)))
def lookup_Take (k : Nat) (call : Caller) (a0 a1 a2 : Value) (h : Heap) : Res Value :=
 (boxR a0 h).bind fun v1 h2 =>
 (loadR Prog 83 v1 h2).bind fun v3 h4 =>
 (buildR Prog 235 [(0, v3), (1, a1), (2, a2)] h4).bind fun v5 h6 =>
 (allocR Prog 235 h6).bind fun v7 h8 =>
 (storeR Prog 235 v7 v5 h8).bind fun _v9 h10 =>
 (loadR Prog 83 v1 h10).bind fun v11 h12 =>
 (call F.view_View_U16 [v11, (.int .i64 0)] h12).bind fun v13 h14 =>
 (buildR Prog 228 [(0, v13)] h14).bind fun v15 h16 =>
 (boxR v15 h16).bind fun v17 h18 =>
 (nilR v17 h18).bind fun v19 h20 =>
 (fieldAddrR Prog 228 v19 0 h20).bind fun v21 h22 =>
 (loadR Prog 3 v21 h22).bind fun v23 h24 =>
 (binR Prog .eql 3 v23 (.int .i64 0) h24).bind fun v25 h26 =>
 condV (some v25) (
 (binR Prog .sub 3 a1 (.int .i64 1) h26).bind fun v27 h28 =>
 (loadR Prog 83 v1 h28).bind fun v29 h30 =>
 (call F.lookup_list [v29, (.int .i64 2), a1, a2] h30).bind fun v31 h32 =>
 (buildR Prog 230 [(0, (.int .i64 0)), (1, v27), (2, v31)] h32).bind fun v33 h34 =>
 (buildSliceR Prog 226 1 [(0, v33)] h34).bind fun v35 h36 =>
 (nilR v17 h36).bind fun v37 h38 =>
 (fieldAddrR Prog 228 v37 1 h38).bind fun v39 h40 =>
 (storeR Prog 226 v39 v35 h40).bind fun _v41 h42 =>
 lookup_Take_j1 k call v17 h42)
 (
 (binR Prog .eql 3 v23 (.int .i64 2) h26).bind fun v43 h44 =>
 condV (some v43) (
 (loadR Prog 235 v7 h44).bind fun v45 h46 =>
 (call F.lookup_reader_segments [v45, (.bool false)] h46).bind fun v47 h48 =>
 (nilR v17 h48).bind fun v49 h50 =>
 (fieldAddrR Prog 228 v49 1 h50).bind fun v51 h52 =>
 (storeR Prog 226 v51 v47 h52).bind fun _v53 h54 =>
 lookup_Take_j1 k call v17 h54)
 (
 (binR Prog .eql 3 v23 (.int .i64 4) h44).bind fun v55 h56 =>
 condV (some v55) (
 (loadR Prog 235 v7 h56).bind fun v57 h58 =>
 (call F.lookup_reader_segments [v57, (.bool true)] h58).bind fun v59 h60 =>
 (nilR v17 h60).bind fun v61 h62 =>
 (fieldAddrR Prog 228 v61 1 h62).bind fun v63 h64 =>
 (storeR Prog 226 v63 v59 h64).bind fun _v65 h66 =>
 lookup_Take_j1 k call v17 h66)
 (
 (binR Prog .eql 3 v23 (.int .i64 6) h56).bind fun v67 h68 =>
 condV (some v67) (
 (loadR Prog 235 v7 h68).bind fun v69 h70 =>
 (call F.lookup_reader_single [v69] h70).bind fun v71 h72 =>
 (nilR v17 h72).bind fun v73 h74 =>
 (fieldAddrR Prog 228 v73 1 h74).bind fun v75 h76 =>
 (storeR Prog 226 v75 v71 h76).bind fun _v77 h78 =>
 lookup_Take_j1 k call v17 h78)
 (
 (binR Prog .eql 3 v23 (.int .i64 8) h68).bind fun v79 h80 =>
 condV (some v79) (
 (loadR Prog 235 v7 h80).bind fun v81 h82 =>
 (call F.lookup_reader_trimmed [v81, (.int .i64 2), a2] h82).bind fun v83 h84 =>
 (nilR v17 h84).bind fun v85 h86 =>
 (fieldAddrR Prog 228 v85 1 h86).bind fun v87 h88 =>
 (storeR Prog 226 v87 v83 h88).bind fun _v89 h90 =>
 lookup_Take_j1 k call v17 h90)
 (
 (binR Prog .eql 3 v23 (.int .i64 10) h80).bind fun v91 h92 =>
 condV (some v91) (
 (loadR Prog 83 v1 h92).bind fun v93 h94 =>
 (call F.view_View_U16 [v93, (.int .i64 2)] h94).bind fun v95 h96 =>
 (binR Prog .eql 3 v95 (.int .i64 1) h96).bind fun v97 h98 =>
 ((bif wantVal v97 false then Res.ok v95 h98 else Res.ok undef h98)).bind fun v99 h100 =>
 ((bif wantVal v97 false then binR Prog .eql 3 v99 (.int .i64 2) h100 else Res.ok undef h100)).bind fun v101 h102 =>
 (condV (some v97) (Res.ok (.bool true) h102) (Res.ok v101 h102)).bind fun v103 h104 =>
 ((bif wantVal v103 false then Res.ok v95 h104 else Res.ok undef h104)).bind fun v105 h106 =>
 ((bif wantVal v103 false then binR Prog .eql 3 v105 (.int .i64 4) h106 else Res.ok undef h106)).bind fun v107 h108 =>
 (condV (some v103) (Res.ok (.bool true) h108) (Res.ok v107 h108)).bind fun v109 h110 =>
 (call F.view_Need [v109] h110).bind fun v111 h112 =>
 (loadR Prog 235 v7 h112).bind fun v113 h114 =>
 (call F.lookup_reader_trimmed [v113, (.int .i64 4), v95] h114).bind fun v115 h116 =>
 (nilR v17 h116).bind fun v117 h118 =>
 (fieldAddrR Prog 228 v117 1 h118).bind fun v119 h120 =>
 (storeR Prog 226 v119 v115 h120).bind fun _v121 h122 =>
 lookup_Take_j1 k call v17 h122)
 (
 (call F.view_Fail [] h92).bind fun v123 h124 =>
 lookup_Take_j1 k call v17 h124))))))
theorem lookup_Take_R (k : Nat) (a0 a1 a2 : Value) (h : Heap) : R (T k) F.lookup_Take [a0, a1, a2] h = nrm .fz h (lookup_Take k (R (T k)) a0 a1 a2 h) :=
 (R_body (t := T k) (T_scott k) (by kernel_rfl) (by kernel_rfl) _ _).trans (by kernel_rfl)
theorem lookup_Take_j1_eq (k : Nat) (call : Caller) (a8 : Value) (h : Heap) : lookup_Take_j1 k call a8 h =
 (loopN (lookup_Take_l1 k call) loopFuel [(8, a8), (10, (.int .i64 1))] h).bind fun r125 h126 =>
 lookup_Take_l1k k call r125.1 r125.2 h126 := by kernel_rfl
theorem lookup_Take_l1_eq (k : Nat) (call : Caller) (a8 a10 : Value) (h : Heap) : lookup_Take_l1 k call [(8, a8), (10, a10)] h =
 (nilR a8 h).bind fun v127 h128 =>
 (fieldAddrR Prog 228 v127 1 h128).bind fun v129 h130 =>
 (loadR Prog 226 v129 h130).bind fun v131 h132 =>
 (builtinV Prog .len [226] [v131] h132).bind fun v133 h134 =>
 (binR Prog .lss 3 a10 v133 h134).bind fun v135 h136 =>
 condV (some v135) (
 (nilR a8 h136).bindN fun v137 h138 =>
 (fieldAddrR Prog 228 v137 1 h138).bindN fun v139 h140 =>
 (loadR Prog 226 v139 h140).bindN fun v141 h142 =>
 (binR Prog .sub 3 a10 (.int .i64 1) h142).bindN fun v143 h144 =>
 (indexAddrR Prog 226 v141 v143 h144).bindN fun v145 h146 =>
 (fieldAddrR Prog 230 v145 1 h146).bindN fun v147 h148 =>
 (loadR Prog 3 v147 h148).bindN fun v149 h150 =>
 (nilR a8 h150).bindN fun v151 h152 =>
 (fieldAddrR Prog 228 v151 1 h152).bindN fun v153 h154 =>
 (loadR Prog 226 v153 h154).bindN fun v155 h156 =>
 (indexAddrR Prog 226 v155 a10 h156).bindN fun v157 h158 =>
 (fieldAddrR Prog 230 v157 0 h158).bindN fun v159 h160 =>
 (loadR Prog 3 v159 h160).bindN fun v161 h162 =>
 (binR Prog .lss 3 v149 v161 h162).bindN fun v163 h164 =>
 (call F.view_Need [v163] h164).bindT (fun p167 h168 => .panic p167 h168) fun v165 h166 =>
 (binR Prog .add 3 a10 (.int .i64 1) h166).bind fun v169 h170 =>
 .ok (.normal, [(8, a8), (10, v169)]) h170)
 (
 .ok ((.exit 1), [(8, a8), (10, a10), (93, v135)]) h136) :=
 (loopB_eq _ _).trans (by kernel_rfl)
theorem lookup_Take_l1k_x1 (k : Nat) (call : Caller) (a8 a10 a93 : Value) (h : Heap) : lookup_Take_l1k k call (.exit 1) [(8, a8), (10, a10), (93, a93)] h =
 .ok a8 h := by kernel_rfl
def lookup_Table_Get_in1 (k : Nat) (call : Caller) (a0 a1 a2 : Value) (h : Heap) : Res Value :=
 (loadR Prog 68 a1 h).bindN fun v1 h2 =>
 (nilR v1 h2).bindN fun v3 h4 =>
 (fieldAddrR Prog 228 v3 1 h4).bindN fun v5 h6 =>
 (loadR Prog 226 v5 h6).bindN fun v7 h8 =>
 (indexAddrR Prog 226 v7 a0 h8).bindN fun v9 h10 =>
 (fieldAddrR Prog 230 v9 1 h10).bindN fun v11 h12 =>
 (loadR Prog 3 v11 h12).bindN fun v13 h14 =>
 (loadR Prog 3 a2 h14).bindN fun v15 h16 =>
 (binR Prog .geq 3 v13 v15 h16).bindN fun v17 h18 =>
 .ok v17 h18
theorem lookup_Table_Get_in1_R (k : Nat) (a0 a1 a2 : Value) (h : Heap) : R (T k) F.lookup_Table_Get_in1 [a0, a1, a2] h = nrm .gc h (lookup_Table_Get_in1 k (R (T k)) a0 a1 a2 h) :=
 (R_body (t := T k) (T_scott k) (by kernel_rfl) (by kernel_rfl) _ _).trans (by kernel_rfl)
def lookup_part_at (k : Nat) (call : Caller) (a0 a1 : Value) (h : Heap) : Res Value :=
 (boxR a0 h).bind fun v1 h2 =>
 (fieldAddrR Prog 230 v1 2 h2).bind fun v3 h4 =>
 (loadR Prog 28 v3 h4).bind fun v5 h6 =>
 (fieldAddrR Prog 230 v1 0 h6).bind fun v7 h8 =>
 (loadR Prog 3 v7 h8).bind fun v9 h10 =>
 (binR Prog .sub 3 a1 v9 h10).bind fun v11 h12 =>
 (fieldAddrR Prog 230 v1 2 h12).bind fun v13 h14 =>
 (loadR Prog 28 v13 h14).bind fun v15 h16 =>
 (builtinV Prog .len [28] [v15] h16).bind fun v17 h18 =>
 (binR Prog .sub 3 v17 (.int .i64 1) h18).bind fun v19 h20 =>
 (builtinV Prog .min [3, 3] [v11, v19] h20).bind fun v21 h22 =>
 (indexAddrR Prog 28 v5 v21 h22).bind fun v23 h24 =>
 (loadR Prog 3 v23 h24).bind fun v25 h26 =>
 .ok v25 h26
theorem lookup_part_at_R (k : Nat) (a0 a1 : Value) (h : Heap) : R (T k) F.lookup_part_at [a0, a1] h = nrm .gc h (lookup_part_at k (R (T k)) a0 a1 h) :=
 (R_body (t := T k) (T_scott k) (by kernel_rfl) (by kernel_rfl) _ _).trans (by kernel_rfl)
def lookup_list_l1 (k : Nat) (call : Caller) : Env → Heap → Res (AExit × Env) := loopB (C k) call F.lookup_list [1, 1, 1, 0, 1, 0, 0]
def lookup_list_l1k (k : Nat) (call : Caller) : Kont Value := kBlock 0 (kSeq (pieceK (C k) call F.lookup_list [1, 1, 1, 1]) (kDone Prog (resOf Prog F.lookup_list)))
def lookup_list (k : Nat) (call : Caller) (a0 a1 a2 a3 : Value) (h : Heap) : Res Value :=
 (boxR a0 h).bind fun v1 h2 =>
 (loadR Prog 83 v1 h2).bind fun v3 h4 =>
 (call F.view_View_Rows [v3, a1, a2, a3] h4).bind fun v5 h6 =>
 (allocR Prog 83 h6).bind fun v7 h8 =>
 (storeR Prog 83 v7 v5 h8).bind fun _v9 h10 =>
 (makeSliceV Prog 28 a2 a2 h10).bind fun v11 h12 =>
 (builtinV Prog .len [28] [v11] h12).bind fun v13 h14 =>
 (loopN (lookup_list_l1 k call) loopFuel [(3, a3), (9, v7), (10, v11), (20, v13), (21, (.int .i64 0))] h14).bind fun r15 h16 =>
 lookup_list_l1k k call r15.1 r15.2 h16
theorem lookup_list_R (k : Nat) (a0 a1 a2 a3 : Value) (h : Heap) : R (T k) F.lookup_list [a0, a1, a2, a3] h = nrm .fz h (lookup_list k (R (T k)) a0 a1 a2 a3 h) :=
 (R_body (t := T k) (T_scott k) (by kernel_rfl) (by kernel_rfl) _ _).trans (by kernel_rfl)
theorem lookup_list_l1_eq (k : Nat) (call : Caller) (a3 a9 a10 a20 a21 : Value) (h : Heap) : lookup_list_l1 k call [(3, a3), (9, a9), (10, a10), (20, a20), (21, a21)] h =
 (binR Prog .lss 3 a21 a20 h).bind fun v17 h18 =>
 condV (some v17) (
 (loadR Prog 83 a9 h18).bind fun v19 h20 =>
 (binR Prog .mul 3 a3 a21 h20).bind fun v21 h22 =>
 (call F.lookup_number [v19, v21, a3] h22).bind fun v23 h24 =>
 (indexAddrR Prog 28 a10 a21 h24).bind fun v25 h26 =>
 (storeR Prog 3 v25 v23 h26).bind fun _v27 h28 =>
 (binR Prog .add 3 a21 (.int .i64 1) h28).bind fun v29 h30 =>
 .ok (.normal, [(3, a3), (9, a9), (10, a10), (20, a20), (21, v29)]) h30)
 (
 .ok ((.exit 0), [(3, a3), (9, a9), (10, a10), (20, a20), (21, a21), (22, v17)]) h18) :=
 (loopB_eq _ _).trans (by kernel_rfl)
theorem lookup_list_l1k_x0 (k : Nat) (call : Caller) (a3 a9 a10 a20 a21 a22 : Value) (h : Heap) : lookup_list_l1k k call (.exit 0) [(3, a3), (9, a9), (10, a10), (20, a20), (21, a21), (22, a22)] h =
 .ok a10 h := by kernel_rfl
def lookup_reader_segments_j1 (k : Nat) (call : Caller) (a1 a2 a5 : Value) (h : Heap) : Res Value :=
 kSeq (pieceK (C k) call F.lookup_reader_segments [1, 1, 1]) (kDone Prog (resOf Prog F.lookup_reader_segments)) .normal [(1, a1), (2, a2), (5, a5)] h
def lookup_reader_segments_j2 (k : Nat) (call : Caller) (a1 a2 a5 a13 : Value) (h : Heap) : Res Value :=
 kSeq (pieceK (C k) call F.lookup_reader_segments [1, 1, 1]) (kDone Prog (resOf Prog F.lookup_reader_segments)) .normal [(1, a1), (2, a2), (5, a5), (13, a13)] h
def lookup_reader_segments_l1 (k : Nat) (call : Caller) : Env → Heap → Res (AExit × Env) := loopB (C k) call F.lookup_reader_segments [1, 1, 1, 1, 0, 1, 0, 0]
def lookup_reader_segments_l1k (k : Nat) (call : Caller) : Kont Value := kBlock 0 (kSeq (pieceK (C k) call F.lookup_reader_segments [1, 1, 1, 1, 1]) (kDone Prog (resOf Prog F.lookup_reader_segments)))
def lookup_reader_segments_j3 (k : Nat) (call : Caller) (a1 a2 a6 a9 a17 a18 a19 : Value) (h : Heap) : Res (AExit × Env) :=
 kSeq (pieceK (C k) call F.lookup_reader_segments [1, 1, 1, 1, 0, 1, 0, 0, 1, 1, 0, 0, 1, 1, 1, 1]) (kBlock 1 (kSeq (pieceK (C k) call F.lookup_reader_segments [1, 1, 1, 1, 0, 1, 0, 0, 1, 1, 1]) (kRound (ownOf (C k) F.lookup_reader_segments [1, 1, 1, 1, 0, 1, 0, 0])))) .normal [(1, a1), (2, a2), (6, a6), (9, a9), (17, a17), (18, a18), (19, a19)] h
def lookup_reader_segments (k : Nat) (call : Caller) (a0 a1 : Value) (h : Heap) : Res Value :=
 (boxR a0 h).bind fun v1 h2 =>
 (fieldAddrR Prog 235 v1 2 h2).bind fun v3 h4 =>
 (loadR Prog 3 v3 h4).bind fun v5 h6 =>
 (binR Prog .add 3 (.int .i64 4) v5 h6).bind fun v7 h8 =>
 condV (some a1) (
 lookup_reader_segments_j1 k call a1 v1 (.int .i64 6) h8)
 (
 lookup_reader_segments_j2 k call a1 v1 v7 a1 h8)
theorem lookup_reader_segments_R (k : Nat) (a0 a1 : Value) (h : Heap) : R (T k) F.lookup_reader_segments [a0, a1] h = nrm .fz h (lookup_reader_segments k (R (T k)) a0 a1 h) :=
 (R_body (t := T k) (T_scott k) (by kernel_rfl) (by kernel_rfl) _ _).trans (by kernel_rfl)
theorem lookup_reader_segments_j1_eq (k : Nat) (call : Caller) (a1 a2 a5 : Value) (h : Heap) : lookup_reader_segments_j1 k call a1 a2 a5 h =
 (fieldAddrR Prog 235 a2 0 h).bind fun v9 h10 =>
 (loadR Prog 83 v9 h10).bind fun v11 h12 =>
 (call F.seek_Take [v11, (.int .i64 2), a5, (.int .i64 2)] h12).bind fun v13 h14 =>
 (builtinV Prog .len [301] [v13] h14).bind fun v15 h16 =>
 (loopN (lookup_reader_segments_l1 k call) loopFuel [(1, a1), (2, a2), (6, (.slice none 0 0)), (17, v13), (18, v15), (19, (.int .i64 0))] h16).bind fun r17 h18 =>
 lookup_reader_segments_l1k k call r17.1 r17.2 h18 := by kernel_rfl
theorem lookup_reader_segments_j2_eq (k : Nat) (call : Caller) (a1 a2 a5 a13 : Value) (h : Heap) : lookup_reader_segments_j2 k call a1 a2 a5 a13 h =
 (fieldAddrR Prog 235 a2 0 h).bind fun v19 h20 =>
 (loadR Prog 83 v19 h20).bind fun v21 h22 =>
 (call F.seek_Take [v21, (.int .i64 2), a5, (.int .i64 2)] h22).bind fun v23 h24 =>
 (builtinV Prog .len [301] [v23] h24).bind fun v25 h26 =>
 (loopN (lookup_reader_segments_l1 k call) loopFuel [(1, a1), (2, a2), (6, (.slice none 0 0)), (17, v23), (18, v25), (19, (.int .i64 0))] h26).bind fun r27 h28 =>
 lookup_reader_segments_l1k k call r27.1 r27.2 h28 := by kernel_rfl
theorem lookup_reader_segments_l1_eq (k : Nat) (call : Caller) (a1 a2 a6 a17 a18 a19 : Value) (h : Heap) : lookup_reader_segments_l1 k call [(1, a1), (2, a2), (6, a6), (17, a17), (18, a18), (19, a19)] h =
 (binR Prog .lss 3 a19 a18 h).bind fun v29 h30 =>
 condV (some v29) (
 (indexAddrR Prog 301 a17 a19 h30).bind fun v31 h32 =>
 (loadR Prog 83 v31 h32).bind fun v33 h34 =>
 (allocR Prog 83 h34).bind fun v35 h36 =>
 (storeR Prog 83 v35 v33 h36).bind fun _v37 h38 =>
 (loadR Prog 83 v35 h38).bindN fun v39 h40 =>
 (call F.view_View_U16 [v39, (.int .i64 2)] h40).bindT (fun p43 h44 => (loadR Prog 83 v35 h40).bindN fun v45 h46 => (allocR Prog 230 h46).bindN fun v47 h48 => chkR ((okVal (loadR Prog 83 v35 h38) v45 && true) && true) (.panic p43 h44)) fun v41 h42 =>
 (loadR Prog 83 v35 h42).bindN fun v49 h50 =>
 (call F.view_View_U16 [v49, (.int .i64 0)] h50).bindT (fun p53 h54 => (allocR Prog 230 h50).bindN fun v55 h56 => chkR ((okVal (loadR Prog 83 v35 h38) v49 && true) && true) (.panic p53 h54)) fun v51 h52 =>
 (buildR Prog 230 [(0, v41), (1, v51)] h52).bindN fun v57 h58 =>
 (allocR Prog 230 h58).bindN fun v59 h60 =>
 (storeR Prog 230 v59 v57 h60).bindN fun _v61 h62 =>
 chkR ((okVal (loadR Prog 83 v35 h38) v49 && true) && true) (
 (fieldAddrR Prog 230 v59 0 h62).bind fun v63 h64 =>
 (loadR Prog 3 v63 h64).bind fun v65 h66 =>
 (fieldAddrR Prog 230 v59 1 h66).bind fun v67 h68 =>
 (loadR Prog 3 v67 h68).bind fun v69 h70 =>
 (binR Prog .leq 3 v65 v69 h70).bind fun v71 h72 =>
 (call F.view_Need [v71] h72).bind fun v73 h74 =>
 condV (some a1) (
 (fieldAddrR Prog 235 a2 0 h74).bindN fun v75 h76 =>
 (loadR Prog 83 v75 h76).bindN fun v77 h78 =>
 (loadR Prog 83 v35 h78).bindN fun v79 h80 =>
 (call F.view_View_U16 [v79, (.int .i64 4)] h80).bindT (fun p83 h84 => (fieldAddrR Prog 230 v59 1 h80).bindN fun v85 h86 => (loadR Prog 3 v85 h86).bindN fun v87 h88 => (fieldAddrR Prog 230 v59 0 h88).bindN fun v89 h90 => (loadR Prog 3 v89 h90).bindN fun v91 h92 => (binR Prog .sub 3 v87 v91 h92).bindN fun v93 h94 => (binR Prog .add 3 v93 (.int .i64 1) h94).bindN fun v95 h96 => (fieldAddrR Prog 235 a2 2 h96).bindN fun v97 h98 => (loadR Prog 3 v97 h98).bindN fun v99 h100 => chkR ((okVal (loadR Prog 3 v85 h74) v87 && true) && ((okVal (loadR Prog 3 v89 h74) v91 && true) && ((okVal (loadR Prog 3 v97 h74) v99 && true) && true))) (.panic p83 h84)) fun v81 h82 =>
 (fieldAddrR Prog 230 v59 1 h82).bindN fun v101 h102 =>
 (loadR Prog 3 v101 h102).bindN fun v103 h104 =>
 (fieldAddrR Prog 230 v59 0 h104).bindN fun v105 h106 =>
 (loadR Prog 3 v105 h106).bindN fun v107 h108 =>
 (binR Prog .sub 3 v103 v107 h108).bindN fun v109 h110 =>
 (binR Prog .add 3 v109 (.int .i64 1) h110).bindN fun v111 h112 =>
 (fieldAddrR Prog 235 a2 2 h112).bindN fun v113 h114 =>
 (loadR Prog 3 v113 h114).bindN fun v115 h116 =>
 (call F.lookup_list [v77, v81, v111, v115] h116).bindT (fun p119 h120 => chkR ((okVal (loadR Prog 83 v75 h82) v77 && true) && ((okVal (loadR Prog 3 v101 h74) v103 && true) && ((okVal (loadR Prog 3 v105 h74) v107 && true) && ((okVal (loadR Prog 3 v113 h74) v115 && true) && true)))) (.panic p119 h120)) fun v117 h118 =>
 (fieldAddrR Prog 230 v59 2 h118).bindN fun v121 h122 =>
 (storeR Prog 28 v121 v117 h122).bindN fun _v123 h124 =>
 chkR ((okVal (loadR Prog 83 v75 h82) v77 && true) && ((okVal (loadR Prog 3 v101 h74) v103 && true) && ((okVal (loadR Prog 3 v105 h74) v107 && true) && ((okVal (loadR Prog 3 v113 h74) v115 && true) && true)))) (
 lookup_reader_segments_j3 k call a1 a2 a6 v59 a17 a18 a19 h124))
 (
 (loadR Prog 83 v35 h74).bind fun v125 h126 =>
 (fieldAddrR Prog 235 a2 2 h126).bind fun v127 h128 =>
 (loadR Prog 3 v127 h128).bind fun v129 h130 =>
 (call F.lookup_number [v125, (.int .i64 4), v129] h130).bind fun v131 h132 =>
 (buildSliceR Prog 28 1 [(0, v131)] h132).bind fun v133 h134 =>
 (fieldAddrR Prog 230 v59 2 h134).bind fun v135 h136 =>
 (storeR Prog 28 v135 v133 h136).bind fun _v137 h138 =>
 lookup_reader_segments_j3 k call a1 a2 a6 v59 a17 a18 a19 h138)))
 (
 .ok ((.exit 0), [(1, a1), (2, a2), (6, a6), (17, a17), (18, a18), (19, a19), (20, v29)]) h30) :=
 (loopB_eq _ _).trans (by kernel_rfl)
theorem lookup_reader_segments_j3_eq (k : Nat) (call : Caller) (a1 a2 a6 a9 a17 a18 a19 : Value) (h : Heap) : lookup_reader_segments_j3 k call a1 a2 a6 a9 a17 a18 a19 h =
 (loadR Prog 230 a9 h).bind fun v139 h140 =>
 (buildSliceR Prog 226 1 [(0, v139)] h140).bind fun v141 h142 =>
 (builtinV Prog .append [226, 226] [a6, v141] h142).bind fun v143 h144 =>
 (binR Prog .add 3 a19 (.int .i64 1) h144).bind fun v145 h146 =>
 .ok (.normal, [(1, a1), (2, a2), (6, v143), (17, a17), (18, a18), (19, v145)]) h146 := by kernel_rfl
theorem lookup_reader_segments_l1k_x0 (k : Nat) (call : Caller) (a1 a2 a6 a17 a18 a19 a20 : Value) (h : Heap) : lookup_reader_segments_l1k k call (.exit 0) [(1, a1), (2, a2), (6, a6), (17, a17), (18, a18), (19, a19), (20, a20)] h =
 .ok a6 h := by kernel_rfl
def lookup_reader_single_l1 (k : Nat) (call : Caller) : Env → Heap → Res (AExit × Env) := loopB (C k) call F.lookup_reader_single [1, 1, 0, 1, 0, 0]
def lookup_reader_single_l1k (k : Nat) (call : Caller) : Kont Value := kBlock 0 (kSeq (pieceK (C k) call F.lookup_reader_single [1, 1, 1]) (kDone Prog (resOf Prog F.lookup_reader_single)))
def lookup_reader_single (k : Nat) (call : Caller) (a0 : Value) (h : Heap) : Res Value :=
 (boxR a0 h).bind fun v1 h2 =>
 (fieldAddrR Prog 235 v1 0 h2).bind fun v3 h4 =>
 (loadR Prog 83 v3 h4).bind fun v5 h6 =>
 (fieldAddrR Prog 235 v1 2 h6).bind fun v7 h8 =>
 (loadR Prog 3 v7 h8).bind fun v9 h10 =>
 (binR Prog .add 3 (.int .i64 2) v9 h10).bind fun v11 h12 =>
 (call F.seek_Take [v5, (.int .i64 2), v11, (.int .i64 1)] h12).bind fun v13 h14 =>
 (builtinV Prog .len [301] [v13] h14).bind fun v15 h16 =>
 (loopN (lookup_reader_single_l1 k call) loopFuel [(1, v1), (3, (.slice none 0 0)), (12, v13), (13, v15), (14, (.int .i64 0))] h16).bind fun r17 h18 =>
 lookup_reader_single_l1k k call r17.1 r17.2 h18
theorem lookup_reader_single_R (k : Nat) (a0 : Value) (h : Heap) : R (T k) F.lookup_reader_single [a0] h = nrm .fz h (lookup_reader_single k (R (T k)) a0 h) :=
 (R_body (t := T k) (T_scott k) (by kernel_rfl) (by kernel_rfl) _ _).trans (by kernel_rfl)
theorem lookup_reader_single_l1_eq (k : Nat) (call : Caller) (a1 a3 a12 a13 a14 : Value) (h : Heap) : lookup_reader_single_l1 k call [(1, a1), (3, a3), (12, a12), (13, a13), (14, a14)] h =
 (binR Prog .lss 3 a14 a13 h).bind fun v19 h20 =>
 condV (some v19) (
 (indexAddrR Prog 301 a12 a14 h20).bind fun v21 h22 =>
 (loadR Prog 83 v21 h22).bind fun v23 h24 =>
 (allocR Prog 83 h24).bind fun v25 h26 =>
 (storeR Prog 83 v25 v23 h26).bind fun _v27 h28 =>
 (loadR Prog 83 v25 h28).bind fun v29 h30 =>
 (call F.view_View_U16 [v29, (.int .i64 0)] h30).bind fun v31 h32 =>
 (loadR Prog 83 v25 h32).bind fun v33 h34 =>
 (fieldAddrR Prog 235 a1 2 h34).bind fun v35 h36 =>
 (loadR Prog 3 v35 h36).bind fun v37 h38 =>
 (call F.lookup_number [v33, (.int .i64 2), v37] h38).bind fun v39 h40 =>
 (buildSliceR Prog 28 1 [(0, v39)] h40).bind fun v41 h42 =>
 (buildR Prog 230 [(0, v31), (1, v31), (2, v41)] h42).bind fun v43 h44 =>
 (buildSliceR Prog 226 1 [(0, v43)] h44).bind fun v45 h46 =>
 (builtinV Prog .append [226, 226] [a3, v45] h46).bind fun v47 h48 =>
 (binR Prog .add 3 a14 (.int .i64 1) h48).bind fun v49 h50 =>
 .ok (.normal, [(1, a1), (3, v47), (12, a12), (13, a13), (14, v49)]) h50)
 (
 .ok ((.exit 0), [(1, a1), (3, a3), (12, a12), (13, a13), (14, a14), (15, v19)]) h20) :=
 (loopB_eq _ _).trans (by kernel_rfl)
theorem lookup_reader_single_l1k_x0 (k : Nat) (call : Caller) (a1 a3 a12 a13 a14 a15 : Value) (h : Heap) : lookup_reader_single_l1k k call (.exit 0) [(1, a1), (3, a3), (12, a12), (13, a13), (14, a14), (15, a15)] h =
 .ok a3 h := by kernel_rfl
def lookup_reader_trimmed (k : Nat) (call : Caller) (a0 a1 a2 : Value) (h : Heap) : Res Value :=
 (boxR a0 h).bind fun v1 h2 =>
 (fieldAddrR Prog 235 v1 0 h2).bindN fun v3 h4 =>
 (loadR Prog 83 v3 h4).bindN fun v5 h6 =>
 (call F.view_View_U16 [v5, a1] h6).bindT (fun p9 h10 => (fieldAddrR Prog 235 v1 0 h6).bindN fun v11 h12 => (loadR Prog 83 v11 h12).bindN fun v13 h14 => (binR Prog .add 3 a1 (.int .i64 2) h14).bindN fun v15 h16 => chkR ((okVal (loadR Prog 83 v11 h2) v13 && true) && true) (.panic p9 h10)) fun v7 h8 =>
 (fieldAddrR Prog 235 v1 0 h8).bindN fun v17 h18 =>
 (loadR Prog 83 v17 h18).bindN fun v19 h20 =>
 (binR Prog .add 3 a1 (.int .i64 2) h20).bindN fun v21 h22 =>
 (call F.view_View_U16 [v19, v21] h22).bindT (fun p25 h26 => chkR ((okVal (loadR Prog 83 v17 h2) v19 && true) && true) (.panic p25 h26)) fun v23 h24 =>
 chkR ((okVal (loadR Prog 83 v17 h2) v19 && true) && true) (
 (binR Prog .add 3 v7 v23 h24).bind fun v27 h28 =>
 (binR Prog .leq 3 v27 (.int .i64 65536) h28).bind fun v29 h30 =>
 (call F.view_Need [v29] h30).bind fun v31 h32 =>
 (fieldAddrR Prog 235 v1 0 h32).bind fun v33 h34 =>
 (loadR Prog 83 v33 h34).bind fun v35 h36 =>
 (binR Prog .add 3 a1 (.int .i64 4) h36).bind fun v37 h38 =>
 (call F.lookup_list [v35, v37, v23, a2] h38).bind fun v39 h40 =>
 (binR Prog .eql 3 v23 (.int .i64 0) h40).bind fun v41 h42 =>
 condV (some v41) (
 .ok (.slice none 0 0) h42)
 (
 (binR Prog .add 3 v7 v23 h42).bind fun v43 h44 =>
 (binR Prog .sub 3 v43 (.int .i64 1) h44).bind fun v45 h46 =>
 (buildR Prog 230 [(0, v7), (1, v45), (2, v39)] h46).bind fun v47 h48 =>
 (buildSliceR Prog 226 1 [(0, v47)] h48).bind fun v49 h50 =>
 .ok v49 h50))
theorem lookup_reader_trimmed_R (k : Nat) (a0 a1 a2 : Value) (h : Heap) : R (T k) F.lookup_reader_trimmed [a0, a1, a2] h = nrm .fz h (lookup_reader_trimmed k (R (T k)) a0 a1 a2 h) :=
 (R_body (t := T k) (T_scott k) (by kernel_rfl) (by kernel_rfl) _ _).trans (by kernel_rfl)
def lookup_number (k : Nat) (call : Caller) (a0 a1 a2 : Value) (h : Heap) : Res Value :=
 (boxR a0 h).bind fun v1 h2 =>
 (binR Prog .eql 3 a2 (.int .i64 1) h2).bind fun v3 h4 =>
 condV (some v3) (
 (loadR Prog 83 v1 h4).bind fun v5 h6 =>
 (call F.view_View_U8 [v5, a1] h6).bind fun v7 h8 =>
 .ok v7 h8)
 (
 (binR Prog .eql 3 a2 (.int .i64 2) h4).bind fun v9 h10 =>
 condV (some v9) (
 (loadR Prog 83 v1 h10).bind fun v11 h12 =>
 (call F.view_View_U16 [v11, a1] h12).bind fun v13 h14 =>
 .ok v13 h14)
 (
 (loadR Prog 83 v1 h10).bind fun v15 h16 =>
 (call F.view_View_U32 [v15, a1] h16).bind fun v17 h18 =>
 .ok v17 h18))
theorem lookup_number_R (k : Nat) (a0 a1 a2 : Value) (h : Heap) : R (T k) F.lookup_number [a0, a1, a2] h = nrm .gc h (lookup_number k (R (T k)) a0 a1 a2 h) :=
 (R_body (t := T k) (T_scott k) (by kernel_rfl) (by kernel_rfl) _ _).trans (by kernel_rfl)
end
end Go.Sw
end
