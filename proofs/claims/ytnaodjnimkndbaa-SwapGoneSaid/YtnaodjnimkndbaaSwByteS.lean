/-
  Bytes that are written: numbers, heads, rows.
-/
import Derived.Test.YtnaodjnimkndbaaSwRef6S
namespace Go.Sw
open Go.RowKit

/-- The bytes of a number, the higher first. -/
def bytesOf (n : Int) : Nat → List Int
  | 0 => []
  | k + 1 => (n / 256 ^ k) % 256 :: bytesOf n k
@[simp] theorem bytesOf_len (n : Int) : ∀ k, (bytesOf n k).length = k
  | 0 => rfl
  | k + 1 => by simp [bytesOf, bytesOf_len n k]
theorem bytesOf_byt (n : Int) : ∀ k, Byt (bytesOf n k)
  | 0 => fun x hx => by simp [bytesOf] at hx
  | k + 1 => fun x hx => by
    simp only [bytesOf, List.mem_cons] at hx
    rcases hx with rfl | hx
    · omega
    · exact bytesOf_byt n k x hx
theorem num_cons (x : Int) (l : List Int) : num (x :: l) = x * 256 ^ l.length + num l := by
  have h : ∀ (l : List Int) (a : Int), l.foldl (fun x y => 256 * x + y) a = a * 256 ^ l.length + l.foldl (fun x y => 256 * x + y) 0 := by
    intro l
    induction l with
    | nil => intro a; simp
    | cons y l ih =>
      intro a
      simp only [List.foldl_cons, List.length_cons]
      rw [ih, ih (256 * 0 + y), Int.pow_succ]
      simp only [Int.mul_zero, Int.zero_add, Int.add_mul]
      rw [Int.mul_comm 256 a, Int.mul_assoc a 256, Int.mul_comm 256 (256 ^ l.length)]
      omega
  unfold num
  rw [List.foldl_cons, h]
  simp
theorem num_mod (n : Int) : ∀ k, num (bytesOf n k) = n % 256 ^ k
  | 0 => by simp [bytesOf, num, Int.emod_one]
  | k + 1 => by
    rw [bytesOf, num_cons, num_mod n k, bytesOf_len, Int.pow_succ]
    have h1 := Int.emod_add_mul_ediv n (256 ^ k)
    have h2 := Int.emod_add_mul_ediv (n / 256 ^ k) 256
    have hp : (0 : Int) < 256 ^ k := Int.pow_pos (by decide)
    have h3 : n % (256 ^ k * 256) = n - 256 ^ k * 256 * (n / (256 ^ k * 256)) := by
      have := Int.emod_add_mul_ediv n (256 ^ k * 256)
      omega
    rw [h3, ← Int.ediv_ediv_of_nonneg (Int.le_of_lt hp), Int.mul_assoc]
    generalize n / 256 ^ k / 256 = d at h2 ⊢
    generalize n / 256 ^ k = c at h1 h2 ⊢
    generalize (256 : Int) ^ k = p at *
    have h4 : c % 256 = c - 256 * d := by omega
    rw [h4, Int.sub_mul]
    have : p * (256 * d) = 256 * d * p := Int.mul_comm _ _
    have : p * c = c * p := Int.mul_comm _ _
    omega
theorem num_bytesOf {n : Int} {k : Nat} (h0 : 0 ≤ n) (h1 : n < 256 ^ k) : num (bytesOf n k) = n := by
  rw [num_mod, Int.emod_eq_of_lt h0 h1]
theorem pieceS_at (p m q : List Int) (i k : Int) (hi : i = p.length) (hk : k = m.length) : pieceS (p ++ (m ++ q)) i k = some m := by
  subst hi hk
  rw [pieceS_iff]
  refine ⟨⟨by omega, by omega, by simp; omega, by simp; omega⟩, ?_⟩
  simp
theorem uS_at (p q : List Int) {n : Int} {k : Nat} (i z : Int) (hi : i = p.length) (hz : z = k) (h0 : 0 ≤ n) (h1 : n < 256 ^ k) : uS (p ++ (bytesOf n k ++ q)) i z = some n := by
  unfold uS
  rw [pieceS_at p (bytesOf n k) q i z hi (by simpa using hz), Option.map_some, num_bytesOf h0 h1]

/-- The beginning of a lookup of rows. -/
def headS (fmt z n : Int) : List Int := bytesOf fmt 2 ++ (bytesOf z 2 ++ (bytesOf n 2 ++ [0, 0, 0, 0, 0, 0]))
@[simp] theorem headS_len (fmt z n : Int) : (headS fmt z n).length = 12 := by simp [headS]
theorem headS_byt (fmt z n : Int) : Byt (headS fmt z n) := fun x hx => by
  simp only [headS, List.mem_append] at hx
  rcases hx with hx | hx | hx | hx
  · exact bytesOf_byt _ _ x hx
  · exact bytesOf_byt _ _ x hx
  · exact bytesOf_byt _ _ x hx
  · simp at hx; omega
theorem Byt.app {a b : List Int} (ha : Byt a) (hb : Byt b) : Byt (a ++ b) := fun x hx => by
  rcases List.mem_append.1 hx with h | h
  · exact ha x h
  · exact hb x h
theorem Byt.flat {l : List (List Int)} (h : ∀ r, r ∈ l → Byt r) : Byt l.flatten := fun x hx => by
  obtain ⟨r, hr, hx⟩ := List.mem_flatten.1 hx
  exact h r hr x hx
theorem Byt.nil : Byt [] := fun x hx => by cases hx

theorem flat_len {z : Nat} : ∀ {rs : List (List Int)}, (∀ r, r ∈ rs → r.length = z) → rs.flatten.length = rs.length * z
  | [], _ => by simp
  | r :: rs, h => by
    have h1 := h r (by simp)
    have h2 := flat_len (rs := rs) fun q hq => h q (by simp [hq])
    simp only [List.flatten_cons, List.length_append, List.length_cons, h1, h2, Nat.succ_mul]
    omega
theorem flat_cut {z : Nat} : ∀ {rs : List (List Int)}, (∀ r, r ∈ rs → r.length = z) → ∀ i, i < rs.length → rs[i]? = some ((rs.flatten.drop (z * i)).take z)
  | [], _, i, hi => by simp at hi
  | r :: rs, h, 0, _ => by
    have h1 := h r (by simp)
    simp [h1]
  | r :: rs, h, i + 1, hi => by
    have h1 := h r (by simp)
    have h2 := flat_cut (rs := rs) (fun q hq => h q (by simp [hq])) i (by simpa using hi)
    rw [List.getElem?_cons_succ, h2, List.flatten_cons, Nat.mul_succ, Nat.add_comm, ← List.drop_drop, List.drop_append_of_le_length (by omega), List.drop_of_length_le (l := r) (by omega), List.nil_append]
theorem cut_flat {z : Nat} {rs : List (List Int)} (h : ∀ r, r ∈ rs → r.length = z) : cutRows rs.flatten z rs.length = rs := by
  apply List.ext_getElem?
  intro i
  by_cases hi : i < rs.length
  · rw [cutRows_get _ _ _ _ hi, flat_cut h i hi]
  · rw [List.getElem?_eq_none (by simp; omega), List.getElem?_eq_none (by omega)]

theorem noneS_first {row : List Int} {x : Int} (h : uS row 0 2 = some x) (hx : x ≠ 65535) {keys : Nat} (hk : 0 < keys) : noneS row keys = false := by
  unfold noneS
  rw [List.all_eq_false]
  refine ⟨0, by simpa using hk, ?_⟩
  rw [show (2 * ((0 : Nat) : Int)) = 0 from rfl, h]
  simpa using hx

theorem head_at (fmt z n : Int) (q : List Int) (hz : 0 ≤ z ∧ z < 65536) (hn : 0 ≤ n ∧ n < 65536) : uS (headS fmt z n ++ q) 2 2 = some z ∧ uS (headS fmt z n ++ q) 4 2 = some n := by
  constructor
  · have := uS_at (bytesOf fmt 2) (bytesOf n 2 ++ ([0, 0, 0, 0, 0, 0] ++ q)) (n := z) (k := 2) 2 2 (by simp) rfl hz.1 (by simpa using hz.2)
    simpa [headS, List.append_assoc] using this
  · have := uS_at (bytesOf fmt 2 ++ bytesOf z 2) ([0, 0, 0, 0, 0, 0] ++ q) (n := n) (k := 2) 4 2 (by simp) rfl hn.1 (by simpa using hn.2)
    simpa [headS, List.append_assoc] using this
theorem head_fmt (fmt z n : Int) (q : List Int) (hf : 0 ≤ fmt ∧ fmt < 65536) : uS (headS fmt z n ++ q) 0 2 = some fmt := by
  have := uS_at [] (bytesOf z 2 ++ (bytesOf n 2 ++ ([0, 0, 0, 0, 0, 0] ++ q))) (n := fmt) (k := 2) 0 2 rfl rfl hf.1 (by simpa using hf.2)
  simpa [headS, List.append_assoc] using this

/-- Rows that were written are taken. -/
theorem takeS_rows (fmt : Int) (z keys : Nat) (need : Int) (rs : List (List Int)) (rest : List Int) (hr : ∀ r, r ∈ rs → r.length = z) (hz : 0 < z ∧ z < 65536) (hn : rs.length < 65536) (hneed : need ≤ z) (hlast : ∀ r, r ∈ rs → noneS r keys = false) :
    takeS (headS fmt z rs.length ++ (rs.flatten ++ rest)) 2 need keys = some rs := by
  obtain ⟨h1, h2⟩ := head_at fmt z rs.length (rs.flatten ++ rest) ⟨by omega, by omega⟩ ⟨by omega, by omega⟩
  have hfl := flat_len hr
  unfold takeS
  rw [show (2 : Int) + 2 = 4 from rfl, h1, h2]
  dsimp only
  have hp : pieceS (headS fmt z rs.length ++ (rs.flatten ++ rest)) 2 10 = some ((headS fmt z rs.length).drop 2) := by
    have := pieceS_at ((headS fmt z rs.length).take 2) ((headS fmt z rs.length).drop 2) (rs.flatten ++ rest) 2 10 (by simp) (by simp)
    rwa [← List.append_assoc, List.take_append_drop] at this
  rw [hp, if_pos ⟨rfl, hneed⟩]
  have e2 : ((rs.length * z : Nat) : Int) = (rs.length : Int) * z := by simp
  have hrows : rowsS (headS fmt z rs.length ++ (rs.flatten ++ rest)) (2 + 10) rs.length z = some rs.flatten := by
    rw [rowsS_iff (by omega)]
    refine ⟨⟨by omega, by omega, by simp; omega, by simp [hfl]; omega⟩, ?_⟩
    rw [← e2, Int.toNat_natCast, ← hfl, show ((2 : Int) + 10).toNat = 12 from rfl, List.drop_append_of_le_length (by simp), List.drop_of_length_le (by simp), List.nil_append, List.take_left]
  rw [hrows, Option.map_some, Int.toNat_natCast, Int.toNat_natCast]
  congr 1
  unfold endRows
  rw [if_neg, cut_flat hr]
  rintro ⟨hpos, hno⟩
  have := flat_cut hr (rs.length - 1) (by omega)
  rw [hlast _ (List.mem_of_getElem? this)] at hno
  cases hno

/-! ### pairs, as lookups -/

/-- A glyph and its number. -/
structure Pr where
  id : Int
  x : Int
def Pr.ok (p : Pr) : Prop := 0 ≤ p.id ∧ p.id < 65536 ∧ 0 ≤ p.x ∧ p.x < 65536
/-- Rising, each below a number. -/
def RiseTo (l : List Pr) (n : Int) : Prop := (∀ (i j : Nat) p q, i < j → l[i]? = some p → l[j]? = some q → p.id < q.id) ∧ ∀ p, p ∈ l → p.id < n
/-- A pair as a part. -/
def Pr.pt (p : Pr) : Pt := ⟨p.id, p.id, [p.x]⟩

theorem rise_tail {p : Pr} {l : List Pr} {n : Int} (h : RiseTo (p :: l) n) : RiseTo l n ∧ ∀ q, q ∈ l → p.id < q.id := by
  refine ⟨⟨fun i j a b hij ha hb => h.1 (i + 1) (j + 1) a b (by omega) (by simpa using ha) (by simpa using hb), fun q hq => h.2 q (by simp [hq])⟩, fun q hq => ?_⟩
  obtain ⟨j, hj⟩ := List.getElem?_of_mem hq
  exact h.1 0 (j + 1) p q (by omega) (by simp) (by simpa using hj)
theorem rise_pts : ∀ {l : List Pr} {n : Int}, RiseTo l n → risesS (l.map Pr.pt) = true
  | [], _, _ => rfl
  | [_], _, _ => rfl
  | p :: q :: l, n, h => by
    have h1 := rise_tail h
    have ih := rise_pts h1.1
    simp only [List.map_cons] at ih ⊢
    rw [risesS, ih, Bool.and_true, decide_eq_true_eq]
    exact h1.2 q (by simp)
/-- What the pairs say of a glyph. -/
def wantS (l : List Pr) (id : Int) : Option Int := (l.find? fun p => decide (p.id = id)).map Pr.x
theorem get_pts {id : Int} : ∀ {l : List Pr} {n : Int}, RiseTo l n → getS (l.map Pr.pt) id = wantS l id
  | [], _, _ => rfl
  | p :: l, n, h => by
    have h1 := rise_tail h
    have ih := get_pts (id := id) h1.1
    unfold getS wantS at ih ⊢
    rw [List.map_cons, List.find?_cons, List.find?_cons]
    by_cases hl : id ≤ p.id
    · rw [show decide (id ≤ (Pr.pt p).last) = true from decide_eq_true hl]
      dsimp only
      rw [Option.bind_some]
      by_cases he : p.id = id
      · rw [decide_eq_true he]
        dsimp only
        rw [if_pos (by unfold Pr.pt; dsimp only; omega)]
        unfold Pt.num Pr.pt
        simp
        rw [show (min (id - p.id) 0).toNat = 0 by omega]
        rfl
      · rw [decide_eq_false he, if_neg (by unfold Pr.pt; dsimp only; omega)]
        dsimp only
        have : l.find? (fun p => decide (p.id = id)) = none := by
          rw [List.find?_eq_none]
          intro q hq
          have := h1.2 q hq
          simp; omega
        rw [this]; rfl
    · rw [show decide (id ≤ (Pr.pt p).last) = false from decide_eq_false hl, decide_eq_false (by omega)]
      exact ih
theorem pts_ok {l : List Pr} (h : ∀ p, p ∈ l → p.ok) : ∀ p, p ∈ l.map Pr.pt → p.ok := fun p hp => by
  obtain ⟨q, hq, rfl⟩ := List.mem_map.1 hp
  obtain ⟨h1, h2, h3, h4⟩ := h q hq
  refine ⟨h1, Int.le_refl _, h2, by simp [Pr.pt], by simp [Pr.pt], fun x hx => ?_⟩
  simp [Pr.pt] at hx
  subst hx
  omega

theorem mapO_some {α β : Type} {f : α → Option β} : ∀ {l : List α} {r : List β}, l.length = r.length → (∀ (i : Nat) x y, l[i]? = some x → r[i]? = some y → f x = some y) → mapO f l = some r
  | [], [], _, _ => rfl
  | [], _ :: _, h, _ => by simp at h
  | _ :: _, [], h, _ => by simp at h
  | x :: l, y :: r, h, hf => by
    have h1 := hf 0 x y (by simp) (by simp)
    have h2 := mapO_some (f := f) (l := l) (r := r) (by simpa using h) fun i a b ha hb => hf (i + 1) a b (by simpa using ha) (by simpa using hb)
    simp [mapO, h1, h2]

def twoRow (p : Pr) : List Int := bytesOf p.id 2 ++ (bytesOf p.id 2 ++ (bytesOf p.x 2 ++ []))
def sixRow (z : Nat) (p : Pr) : List Int := bytesOf p.id 2 ++ (bytesOf p.x z ++ [])
def fourRow (p : Pr) (a : Int) : List Int := bytesOf p.id 2 ++ (bytesOf p.id 2 ++ (bytesOf a 2 ++ []))
def fourRows (a : Int) : List Pr → List (List Int)
  | [] => []
  | p :: l => fourRow p a :: fourRows (a + 2) l
theorem fourRows_len : ∀ (l : List Pr) (a : Int), (fourRows a l).length = l.length
  | [], _ => rfl
  | p :: l, a => by simp [fourRows, fourRows_len l]
theorem fourRows_get : ∀ (l : List Pr) (a : Int) (i : Nat) (p : Pr), l[i]? = some p → (fourRows a l)[i]? = some (fourRow p (a + 2 * i))
  | [], _, i, p, h => by simp at h
  | q :: l, a, 0, p, h => by simp at h; subst h; simp [fourRows]
  | q :: l, a, i + 1, p, h => by
    rw [fourRows, List.getElem?_cons_succ, fourRows_get l (a + 2) i p (by simpa using h)]
    congr 2; omega
def valS (l : List Pr) : List Int := (l.map fun p => bytesOf p.x 2).flatten
def twoS (l : List Pr) : List Int := headS 2 6 l.length ++ ((l.map twoRow).flatten ++ [])
def sixS (z : Nat) (l : List Pr) : List Int := headS 6 (2 + z) l.length ++ ((l.map (sixRow z)).flatten ++ [])
def fourS (l : List Pr) : List Int := headS 4 6 l.length ++ ((fourRows (12 + 6 * l.length) l).flatten ++ valS l)
def eightS (l : List Pr) : List Int := match l with
  | [p] => bytesOf 8 2 ++ (bytesOf p.id 2 ++ (bytesOf 1 2 ++ (bytesOf p.x 2 ++ [])))
  | _ => bytesOf 8 2 ++ (bytesOf 0 2 ++ (bytesOf 0 2 ++ []))

theorem look_of {b : List Int} {g z fmt : Int} {ps : List Pt} (h1 : uS b 0 2 = some fmt) (h2 : partsS b g z fmt = some ps) (h3 : risesS ps = true) : lookS b g z = some (fmt, ps) := by
  unfold lookS
  rw [h1, Option.bind_some, h2, Option.bind_some, if_pos h3]

theorem two_look {l : List Pr} (hok : ∀ p, p ∈ l → p.ok) (hr : RiseTo l 65535) (hl : l.length < 65536) (g : Int) : lookS (twoS l) g 2 = some (2, l.map Pr.pt) := by
  refine look_of (head_fmt _ _ _ _ (by omega)) ?_ (rise_pts hr)
  unfold partsS
  rw [if_neg (by decide), if_pos rfl]
  unfold segS
  have := takeS_rows 2 6 2 6 (l.map twoRow) [] (fun r hr => by obtain ⟨p, _, rfl⟩ := List.mem_map.1 hr; simp [twoRow]) (by omega) (by simpa using hl) (by omega) (fun r h => by
    obtain ⟨p, hp, rfl⟩ := List.mem_map.1 h
    have hp1 := hok p hp
    have hp2 := hr.2 p hp
    exact noneS_first (uS_at [] _ 0 2 rfl rfl hp1.1 (by simpa using hp1.2.1)) (by omega) (by omega))
  simp only [List.length_map] at this
  have e : (if (false : Bool) = true then (6 : Int) else 4 + 2) = 6 := rfl
  rw [e]
  unfold twoS
  rw [show ((6 : Nat) : Int) = 6 from rfl] at this
  rw [this, Option.bind_some]
  refine mapO_some (by simp) fun i x y hx hy => ?_
  rw [List.getElem?_map] at hx hy
  obtain ⟨p, hp, rfl⟩ := Option.map_eq_some_iff.1 hx
  rw [hp] at hy
  simp at hy
  subst hy
  obtain ⟨h1, h2, h3, h4⟩ := hok p (List.mem_of_getElem? hp)
  have e0 := uS_at [] (bytesOf p.id 2 ++ (bytesOf p.x 2 ++ [])) (n := p.id) (k := 2) 0 2 rfl rfl h1 (by simpa using h2)
  have e2 := uS_at (bytesOf p.id 2) (bytesOf p.x 2 ++ []) (n := p.id) (k := 2) 2 2 (by simp) rfl h1 (by simpa using h2)
  have e4 := uS_at (bytesOf p.id 2 ++ bytesOf p.id 2) [] (n := p.x) (k := 2) 4 2 (by simp) rfl h3 (by simpa using h4)
  rw [List.append_assoc] at e4
  rw [List.nil_append] at e0
  unfold segP twoRow
  rw [e2, e0, e4]
  simp [Pr.pt]

theorem six_look {l : List Pr} (z : Nat) (hz : z = 2 ∨ z = 4) (hok : ∀ p, p ∈ l → p.ok) (hr : RiseTo l 65535) (hl : l.length < 65536) (g : Int) : lookS (sixS z l) g z = some (6, l.map Pr.pt) := by
  refine look_of (head_fmt _ _ _ _ (by omega)) ?_ (rise_pts hr)
  unfold partsS
  rw [if_neg (by decide), if_neg (by decide), if_neg (by decide), if_pos rfl]
  unfold oneS
  have hpow : (65536 : Int) ≤ 256 ^ z := by rcases hz with rfl | rfl <;> decide
  have := takeS_rows 6 (2 + z) 1 (2 + z) (l.map (sixRow z)) [] (fun r hr => by obtain ⟨p, _, rfl⟩ := List.mem_map.1 hr; simp [sixRow]) (by omega) (by simpa using hl) (by omega) (fun r h => by
    obtain ⟨p, hp, rfl⟩ := List.mem_map.1 h
    have hp1 := hok p hp
    have hp2 := hr.2 p hp
    exact noneS_first (uS_at [] _ 0 2 rfl rfl hp1.1 (by simpa using hp1.2.1)) (by omega) (by omega))
  simp only [List.length_map] at this
  unfold sixS
  rw [show (((2 + z : Nat)) : Int) = 2 + z by omega] at this
  rw [this, Option.bind_some]
  refine mapO_some (by simp) fun i x y hx hy => ?_
  rw [List.getElem?_map] at hx hy
  obtain ⟨p, hp, rfl⟩ := Option.map_eq_some_iff.1 hx
  rw [hp] at hy
  simp at hy
  subst hy
  obtain ⟨h1, h2, h3, h4⟩ := hok p (List.mem_of_getElem? hp)
  have e0 := uS_at [] (bytesOf p.x z ++ []) (n := p.id) (k := 2) 0 2 rfl rfl h1 (by simpa using h2)
  have e2 := uS_at (bytesOf p.id 2) [] (n := p.x) (k := z) 2 z (by simp) rfl h3 (by omega)
  rw [List.nil_append] at e0
  unfold oneP sixRow
  rw [e2, e0]
  simp [Pr.pt]

theorem val_at : ∀ (l : List Pr) (i : Nat) (p : Pr), l[i]? = some p → ∃ u v, valS l = u ++ (bytesOf p.x 2 ++ v) ∧ u.length = 2 * i
  | [], i, p, h => by simp at h
  | q :: l, 0, p, h => by simp at h; subst h; exact ⟨[], valS l, by simp [valS], rfl⟩
  | q :: l, i + 1, p, h => by
    obtain ⟨u, v, h1, h2⟩ := val_at l i p (by simpa using h)
    refine ⟨bytesOf q.x 2 ++ u, v, ?_, by simp [h2]; omega⟩
    rw [List.append_assoc, ← h1]; simp [valS]

theorem listS_one {b : List Int} {i z x : Int} (hz : 0 < z) (h : uS b i z = some x) : listS b i 1 z = some [x] := by
  unfold uS at h
  obtain ⟨r, hr, hx⟩ := Option.map_eq_some_iff.1 h
  have hp := pieceS_iff.1 hr
  have : rowsS b i 1 z = some r := by
    rw [rowsS_iff hz]
    exact ⟨⟨hp.1.1, by omega, hp.1.2.2.1, by omega⟩, by rw [Int.one_mul]; exact hp.2⟩
  unfold listS
  rw [this, Option.map_some]
  have hrl := pieceS_len hr
  congr 1
  show (cutRows r z.toNat 1).map num = [x]
  rw [show cutRows r z.toNat 1 = [(r.drop (z.toNat * 0)).take z.toNat] from rfl, Nat.mul_zero, List.drop_zero, List.take_of_length_le (by omega), List.map_cons, List.map_nil, hx]

theorem four_look {l : List Pr} (hok : ∀ p, p ∈ l → p.ok) (hr : RiseTo l 65535) (hl : l.length ≤ 1000) (g : Int) : lookS (fourS l) g 2 = some (4, l.map Pr.pt) := by
  refine look_of (head_fmt _ _ _ _ (by omega)) ?_ (rise_pts hr)
  unfold partsS
  rw [if_neg (by decide), if_neg (by decide), if_pos rfl]
  unfold segS
  have hmem : ∀ r, r ∈ fourRows (12 + 6 * (l.length : Int)) l → ∃ (i : Nat) (p : Pr), l[i]? = some p ∧ r = fourRow p (12 + 6 * (l.length : Int) + 2 * i) := fun r hr => by
    obtain ⟨i, hi⟩ := List.getElem?_of_mem hr
    have hlt := (List.getElem?_eq_some_iff.1 hi).1
    rw [fourRows_len] at hlt
    refine ⟨i, l[i], List.getElem?_eq_getElem hlt, ?_⟩
    rw [fourRows_get l _ i _ (List.getElem?_eq_getElem hlt)] at hi
    injection hi with hi
    exact hi.symm
  have hlen : ∀ r, r ∈ fourRows (12 + 6 * (l.length : Int)) l → r.length = 6 := fun r hr => by
    obtain ⟨i, p, _, rfl⟩ := hmem r hr
    simp [fourRow]
  have := takeS_rows 4 6 2 6 (fourRows (12 + 6 * (l.length : Int)) l) (valS l) hlen (by omega) (by rw [fourRows_len]; omega) (by omega) (fun r h => by
    obtain ⟨i, p, hp, rfl⟩ := hmem r h
    have hp := List.mem_of_getElem? hp
    have hp1 := hok p hp
    have hp2 := hr.2 p hp
    exact noneS_first (uS_at [] _ 0 2 rfl rfl hp1.1 (by simpa using hp1.2.1)) (by omega) (by omega))
  rw [fourRows_len] at this
  rw [show (if (true : Bool) = true then (6 : Int) else 4 + 2) = 6 from rfl]
  unfold fourS
  rw [show ((6 : Nat) : Int) = 6 from rfl] at this
  rw [this, Option.bind_some]
  refine mapO_some (by rw [fourRows_len, List.length_map]) fun i x y hx hy => ?_
  rw [List.getElem?_map] at hy
  obtain ⟨p, hp, rfl⟩ := Option.map_eq_some_iff.1 hy
  rw [fourRows_get l _ i p hp] at hx
  injection hx with hx
  subst hx
  have hil := (List.getElem?_eq_some_iff.1 hp).1
  obtain ⟨h1, h2, h3, h4⟩ := hok p (List.mem_of_getElem? hp)
  have e0 := uS_at [] (bytesOf p.id 2 ++ (bytesOf (12 + 6 * (l.length : Int) + 2 * i) 2 ++ [])) (n := p.id) (k := 2) 0 2 rfl rfl h1 (by simpa using h2)
  have e2 := uS_at (bytesOf p.id 2) (bytesOf (12 + 6 * (l.length : Int) + 2 * i) 2 ++ []) (n := p.id) (k := 2) 2 2 (by simp) rfl h1 (by simpa using h2)
  have e4 := uS_at (bytesOf p.id 2 ++ bytesOf p.id 2) [] (n := 12 + 6 * (l.length : Int) + 2 * i) (k := 2) 4 2 (by simp) rfl (by omega) (by simp; omega)
  rw [List.append_assoc] at e4
  rw [List.nil_append] at e0
  obtain ⟨u, v, hv, hu⟩ := val_at l i p hp
  have hfl := flat_len hlen
  rw [fourRows_len] at hfl
  have ev : listS (headS 4 6 l.length ++ ((fourRows (12 + 6 * (l.length : Int)) l).flatten ++ valS l)) (12 + 6 * (l.length : Int) + 2 * i) 1 2 = some [p.x] := by
    refine listS_one (by decide) ?_
    have := uS_at (headS 4 6 l.length ++ ((fourRows (12 + 6 * (l.length : Int)) l).flatten ++ u)) v (n := p.x) (k := 2) (12 + 6 * (l.length : Int) + 2 * i) 2 (by simp [hfl, hu]; omega) rfl h3 (by simpa using h4)
    rw [hv]
    simpa [List.append_assoc] using this
  unfold segP fourRow
  rw [e2, e0, e4]
  simp only [Option.bind_some, Int.le_refl, if_true]
  rw [show p.id - p.id + 1 = 1 by omega, ev]
  rfl

theorem eight_look {l : List Pr} (hok : ∀ p, p ∈ l → p.ok) (hl : l.length ≤ 1) (g : Int) : lookS (eightS l) g 2 = some (8, l.map Pr.pt) := by
  match l, hl with
  | [], _ => rfl
  | [p], _ =>
    obtain ⟨h1, h2, h3, h4⟩ := hok p (by simp)
    have e0 := uS_at [] (bytesOf p.id 2 ++ (bytesOf 1 2 ++ (bytesOf p.x 2 ++ []))) (n := 8) (k := 2) 0 2 rfl rfl (by decide) (by decide)
    have e2 := uS_at (bytesOf 8 2) (bytesOf 1 2 ++ (bytesOf p.x 2 ++ [])) (n := p.id) (k := 2) 2 2 (by simp) rfl h1 (by simpa using h2)
    have e4 := uS_at (bytesOf 8 2 ++ bytesOf p.id 2) (bytesOf p.x 2 ++ []) (n := 1) (k := 2) (2 + 2) 2 (by simp) rfl (by decide) (by decide)
    have e6 := uS_at (bytesOf 8 2 ++ (bytesOf p.id 2 ++ bytesOf 1 2)) [] (n := p.x) (k := 2) (2 + 4) 2 (by simp) rfl h3 (by simpa using h4)
    simp only [List.append_assoc] at e4 e6
    rw [List.nil_append] at e0
    refine look_of e0 ?_ rfl
    unfold partsS
    rw [if_neg (by decide), if_neg (by decide), if_neg (by decide), if_neg (by decide), if_pos rfl]
    unfold trimS eightS
    dsimp only
    rw [e2, e4, Option.bind_some, Option.bind_some, if_pos (by omega), listS_one (by decide) e6]
    simp [Pr.pt]
end Go.Sw
