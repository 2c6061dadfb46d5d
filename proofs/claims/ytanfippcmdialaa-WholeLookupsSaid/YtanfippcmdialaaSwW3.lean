/-
  Functions' forms, and what is proved of them, part 3.
-/
import Derived.Test.YtanfippcmdialaaSwW1
import Derived.Test.YtanfippcmdialaaSwW2
import Derived.Test.YtanfippcmdialaaSwLib9
import Derived.Test.YtanfippcmdialaaSwCfg
set_option linter.unusedSimpArgs false
set_option linter.unusedVariables false
set_option linter.unusedSectionVars false
section
namespace Go.Sw
open Go.RowKit
def inS (size i n : Int) : Bool := decide (0 ≤ i ∧ 0 ≤ n ∧ i ≤ size ∧ n ≤ size - i)
theorem refIn_run (k : Nat) (z i n : Int) (hz0 : 0 ≤ z) (hz : z < 2 ^ 62) (H : Heap) : R (T k) F.swashref01_In [.int .i64 z, .int .i64 i, .int .i64 n] H = .ok (.bool (inS z i n)) H := by
 rw [swashref01_In_R];refine nrm_gc (Pure.of ?_) (.bool _);unfold inS;by_cases h1 : 0 ≤ i
 ·by_cases h2 : 0 ≤ n
  ·by_cases h3 : i ≤ z
   ·by_cases h4 : n ≤ z - i <;> simp -implicitDefEqProofs (disch := omega) [swashref01_In, h1, h2, h3, h4]
   ·simp -implicitDefEqProofs (disch := omega) [swashref01_In, h1, h2, h3]
  ·simp -implicitDefEqProofs (disch := omega) [swashref01_In, h1, h2]
 ·simp -implicitDefEqProofs (disch := omega) [swashref01_In, h1]
theorem num_snoc (l : List Int) (y : Int) : num (l ++ [y]) = 256 * num l + y := by simp [num]
theorem num_acc : ∀ (l : List Int) (x m : Int), 0 ≤ x → x < m → Byt l → 0 ≤ l.foldl (fun x y => 256 * x + y) x ∧ l.foldl (fun x y => 256 * x + y) x < m * 256 ^ l.length
 | [], x, m, h0, h1, _ => by simp; exact ⟨h0, h1⟩
 | y :: l, x, m, h0, h1, hb => by
  have hy := hb y (by simp);have := num_acc l (256 * x + y) (256 * m) (by omega) (by omega) fun n hn => hb n (by simp [hn]);rw [List.foldl_cons, List.length_cons, Int.pow_succ, Int.mul_comm (256 ^ l.length) 256, ← Int.mul_assoc, Int.mul_comm m 256];exact this
theorem num_bound (l : List Int) (h : Byt l) : 0 ≤ num l ∧ num l < 256 ^ l.length := by
 have := num_acc l 0 1 (by omega) (by omega) h;rw [Int.one_mul] at this;exact this
theorem num_bound3 (l : List Int) (h : Byt l) (hl : l.length ≤ 3) : 0 ≤ num l ∧ num l < 16777216 := by
 have := num_bound l h;rcases (by omega : l.length = 0 ∨ l.length = 1 ∨ l.length = 2 ∨ l.length = 3) with e | e | e | e <;> rw [e] at this <;> omega
theorem refU_run (k : Nat) {H : Heap} {v : Value} {b : List Int} (hv : Sl H 1 v encB b) (hb : Byt b) (i n : Int) (hl : b.length < 2 ^ 62) (hn : n ≤ 4) : R (T k) F.swashref01_U [v, .int .i64 i, .int .i64 n] H = .ok (.int .i64 ((uS b i n).getD (-1))) H := by
 rw [swashref01_U_R];refine nrm_gc (Pure.of ?_) (.int _ _);have hin := refIn_run k b.length i n (by omega) (by omega);by_cases hc : 0 ≤ i ∧ 0 ≤ n ∧ i ≤ b.length ∧ n ≤ b.length - i
 ·have hi : inS b.length i n = true := by simpa [inS] using hc
  rw [hi] at hin;obtain ⟨h1, h2, h3, h4⟩ := hc;obtain ⟨i, rfl⟩ := Int.eq_ofNat_of_zero_le h1;obtain ⟨n, rfl⟩ := Int.eq_ofNat_of_zero_le h2;obtain ⟨l, hld⟩ : ∃ l, l = (b.drop i).take n := ⟨_, rfl⟩
  have hp : pieceS b i n = some l := by rw [pieceS, if_pos ⟨h1, h2, h3, h4⟩, hld]; simp
  have hbl := (hb.piece hp).1;have hll : l.length = n := by have := pieceS_len hp; omega
  have hu : (uS b i n).getD (-1) = num l := by rw [uS, hp]; rfl
  rw [hu]
  obtain ⟨x, e', H1, hr, rfl, rfl, a, rfl⟩ := loop_up (body := swashref01_U_l1 k (R (T k))) n
   (fun j e H' => H' = H ∧ e = [(0, v), (1, .int .i64 i), (2, .int .i64 n), (7, .int .i64 (num (l.take j))), (8, .int .i64 j)])
   (fun x e H' => H' = H ∧ x = .exit 0 ∧ ∃ a, e = [(0, v), (1, .int .i64 i), (2, .int .i64 n), (7, .int .i64 (num l)), (8, .int .i64 n), (17, a)])
   (e0 := [(0, v), (1, .int .i64 i), (2, .int .i64 n), (7, .int .i64 0), (8, .int .i64 0)]) (H0 := H) ⟨rfl, rfl⟩ (by omega)
   (fun j e H' hj ⟨hH, he⟩ => by
    subst he hH;obtain ⟨y, hy⟩ : ∃ y, l[j]? = some y := ⟨l[j]'(by omega), List.getElem?_eq_getElem _⟩
    have hyb := hbl y (List.mem_of_getElem? hy);have hg : b[i + j]? = some y := by
     rw [hld, List.getElem?_take, if_pos hj, List.getElem?_drop] at hy;exact hy
    obtain ⟨p, hix, hld⟩ := hv.ix1 encB_len (i + j) y hg _ rfl;have hix : ∀ H'', ixS 1 v (.int .i64 ((i : Int) + j)) H'' = .ok p H'' := fun H'' => by rw [← hix .i64 H'', Int.natCast_add]
    have hld := hld _ (Ext.refl _);have hnb := num_bound3 (l.take j) (fun z hz => hbl z (List.mem_of_mem_take hz)) (by simp; omega);have hlt : (j : Int) < n := by omega
    refine .inl ⟨_, H', ?_, rfl, rfl⟩;rw [swashref01_U_l1_eq, List.take_add_one, hy, Option.toList_some, num_snoc];simp -implicitDefEqProofs (disch := omega) [hlt, hix, hld])
   (fun e H' ⟨hH, he⟩ => by
    subst he hH;refine ⟨.exit 0, _, H', ?_, by simp, rfl, rfl, .bool false, rfl⟩;rw [swashref01_U_l1_eq, List.take_of_length_le (by omega)];simp -implicitDefEqProofs)
  simp -implicitDefEqProofs (disch := omega) [swashref01_U, hv.len, hin, hr, swashref01_U_l1k_x0]
 ·have hi : inS b.length i n = false := by simpa [inS] using hc
  rw [hi] at hin;have hu : (uS b i n).getD (-1) = -1 := by rw [uS, pieceS, if_neg hc]; rfl
  rw [hu];simp -implicitDefEqProofs (disch := omega) [swashref01_U, hv.len, hin]
def rowsB (z i n s : Int) : Bool := decide (0 ≤ i ∧ 0 ≤ n ∧ 0 ≤ s ∧ i ≤ z ∧ (s = 0 ∨ n ≤ (z - i) / s))
theorem refRows_run (k : Nat) (z i n s : Int) (hz0 : 0 ≤ z) (hz : z < 2 ^ 62) (H : Heap) : R (T k) F.swashref01_Rows [.int .i64 z, .int .i64 i, .int .i64 n, .int .i64 s] H = .ok (.bool (rowsB z i n s)) H := by
 rw [swashref01_Rows_R];refine nrm_gc (Pure.of ?_) (.bool _);by_cases h1 : i < 0
 ·have e : rowsB z i n s = false := by unfold rowsB; simp; omega
  simp -implicitDefEqProofs (disch := omega) [swashref01_Rows, h1, e]
 by_cases h2 : n < 0
 ·have e : rowsB z i n s = false := by unfold rowsB; simp; omega
  simp -implicitDefEqProofs (disch := omega) [swashref01_Rows, h1, h2, e]
 by_cases h3 : s < 0
 ·have e : rowsB z i n s = false := by unfold rowsB; simp; omega
  simp -implicitDefEqProofs (disch := omega) [swashref01_Rows, h1, h2, h3, e]
 by_cases h4 : i > z
 ·have e : rowsB z i n s = false := by unfold rowsB; simp; omega
  simp -implicitDefEqProofs (disch := omega) [swashref01_Rows, h1, h2, h3, h4, e]
 by_cases h5 : s = 0
 ·subst h5;have e : rowsB z i n 0 = true := by unfold rowsB; simp; omega
  simp -implicitDefEqProofs (disch := omega) [swashref01_Rows, h1, h2, h4, e]
 have hq : (z - i).tdiv s = (z - i) / s := Int.tdiv_eq_ediv_of_nonneg (by omega);have hq0 : 0 ≤ (z - i) / s := Int.ediv_nonneg (by omega) (by omega);have hq1 : (z - i) / s ≤ z - i := Int.ediv_le_self _ (by omega);have qr := fun H => bin_quo Prog 3 H .i64 (z - i) s h5;rw [hq] at qr;have hb5 : (s == 0) = false := by simpa using h5
 have e : rowsB z i n s = decide (n ≤ (z - i) / s) := by unfold rowsB; simp only [decide_eq_decide]; omega
 simp -implicitDefEqProofs (disch := omega) [swashref01_Rows, h1, h2, h3, h4, hb5, qr, e]
end Go.Sw
end
section
namespace Go.Sw
open Go.RowKit
theorem mapO_len {α β : Type} {f : α → Option β} : ∀ {l : List α} {r : List β}, mapO f l = some r → r.length = l.length
 | [], r, h => by injection h with h; subst h; rfl
 | x :: l, r, h => by
  simp only [mapO] at h;obtain ⟨y, _, h⟩ := Option.bind_eq_some_iff.1 h;obtain ⟨r', h1, rfl⟩ := Option.map_eq_some_iff.1 h;simp [mapO_len h1]
theorem mapO_get {α β : Type} {f : α → Option β} : ∀ {l : List α} {r : List β} {i : Nat} {y : β}, mapO f l = some r → r[i]? = some y → ∃ x, l[i]? = some x ∧ f x = some y
 | [], r, i, y, h, hy => by injection h with h; subst h; simp at hy
 | x :: l, r, i, y, h, hy => by
  simp only [mapO] at h;obtain ⟨z, h0, h⟩ := Option.bind_eq_some_iff.1 h;obtain ⟨r', h1, rfl⟩ := Option.map_eq_some_iff.1 h;cases i with
  | zero => simp at hy; subst hy; exact ⟨x, by simp, h0⟩
  | succ i => simp at hy; simpa using mapO_get h1 hy
structure Pt where
 first : Int
 last : Int
 vals : List Int
def listS (b : List Int) (i n z : Int) : Option (List Int) := (rowsS b i n z).map fun r => (cutRows r z.toNat n.toNat).map num
def trimS (b : List Int) (i z : Int) : Option (List Pt) :=
 (uS b i 2).bind fun f => (uS b (i + 2) 2).bind fun n =>
  if f + n ≤ 65536 then (listS b (i + 4) n z).map fun vs => if n = 0 then [] else [⟨f, f + n - 1, vs⟩] else none
def segP (b : List Int) (z : Int) (each : Bool) (row : List Int) : Option Pt :=
 (uS row 2 2).bind fun f => (uS row 0 2).bind fun l =>
  if f ≤ l then (if each then (uS row 4 2).bind fun i => (listS b i (l - f + 1) z).map fun vs => ⟨f, l, vs⟩ else (uS row 4 z).map fun x => ⟨f, l, [x]⟩) else none
def segS (b : List Int) (z : Int) (each : Bool) : Option (List Pt) :=
 (takeS b 2 (if each then 6 else 4 + z) 2).bind (mapO (segP b z each))
def oneP (z : Int) (row : List Int) : Option Pt := (uS row 0 2).bind fun i => (uS row 2 z).map fun x => ⟨i, i, [x]⟩
def oneS (b : List Int) (z : Int) : Option (List Pt) := (takeS b 2 (2 + z) 1).bind (mapO (oneP z))
def risesS : List Pt → Bool
 | [] => true
 | [_] => true
 | p :: q :: l => decide (p.last < q.first) && risesS (q :: l)
def partsS (b : List Int) (glyphs z fmt : Int) : Option (List Pt) :=
 if fmt = 0 then (listS b 2 glyphs z).map fun vs => [⟨0, glyphs - 1, vs⟩] else
 if fmt = 2 then segS b z false else
 if fmt = 4 then segS b z true else
 if fmt = 6 then oneS b z else
 if fmt = 8 then trimS b 2 z else
 if fmt = 10 then (uS b 2 2).bind fun u => if u = 1 ∨ u = 2 ∨ u = 4 then trimS b 4 u else none
 else none
def lookS (b : List Int) (glyphs z : Int) : Option (Int × List Pt) :=
 (uS b 0 2).bind fun fmt => (partsS b glyphs z fmt).bind fun ps => if risesS ps then some (fmt, ps) else none
def Pt.num (p : Pt) (id : Int) : Option Int := p.vals[(min (id - p.first) ((p.vals.length : Int) - 1)).toNat]?
def getS (ps : List Pt) (id : Int) : Option Int := (ps.find? fun p => decide (id ≤ p.last)).bind fun p => if p.first ≤ id then p.num id else none
def mostS (ps : List Pt) : Int := ps.foldl (fun m p => p.vals.foldl max m) (-1)
theorem find_first {α : Type} (q : α → Bool) : ∀ (l : List α) (i : Nat), IsFirst l.length (fun j => (l[j]?).elim false q) i → l.find? q = l[i]?
 | [], i, h => by simp
 | x :: l, 0, h => by
  have := h.2.2 0 (Nat.le_refl _) (by simp);simp at this;simp [this]
 | x :: l, i + 1, h => by
  have h0 := h.2.1 0 (by omega);simp at h0;rw [List.find?_cons, h0];simp only [List.getElem?_cons_succ];exact find_first q l i ⟨by simpa using h.1, fun j hj => by simpa using h.2.1 (j + 1) (by omega), fun j h1 h2 => by simpa using h.2.2 (j + 1) (by omega) (by simpa using h2)⟩
def Pt.ok (p : Pt) : Prop := 0 ≤ p.first ∧ p.first ≤ p.last ∧ p.last < 65536 ∧ p.vals ≠ [] ∧ (p.vals.length : Int) ≤ 65536 ∧ ∀ x, x ∈ p.vals → 0 ≤ x ∧ x < 4294967296
theorem num_lt4 {l : List Int} (h : Byt l) (hl : l.length ≤ 4) : 0 ≤ num l ∧ num l < 4294967296 := by
 have := num_bound l h;have h4 : l.length = 0 ∨ l.length = 1 ∨ l.length = 2 ∨ l.length = 3 ∨ l.length = 4 := by omega
 rcases h4 with e | e | e | e | e <;> rw [e] at this <;> omega
theorem cutRows_byt {r : List Int} (hb : Byt r) (z n : Nat) {l : List Int} (h : l ∈ cutRows r z n) : Byt l ∧ l.length ≤ z := by
 obtain ⟨i, _, rfl⟩ := List.mem_map.1 h;exact ⟨fun x hx => hb x (List.mem_of_mem_drop (List.mem_of_mem_take hx)), by simp; omega⟩
theorem rowsS_n {b : List Int} {i n z : Int} {r : List Int} (h : rowsS b i n z = some r) : 0 ≤ n ∧ 0 ≤ z ∧ 0 ≤ i ∧ i ≤ b.length ∧ n * z ≤ b.length - i ∧ r = (b.drop i.toNat).take (n * z).toNat := by
 unfold rowsS at h;split at h
 ·rename_i hc;unfold pieceS at h;split at h
  ·rename_i hd;injection h with h;exact ⟨hc.1, hc.2.1, hd.1, hd.2.2.1, hd.2.2.2, h.symm⟩
  ·cases h
 ·cases h
theorem listS_spec {b : List Int} (hb : Byt b) {i n z : Int} {vs : List Int} (hz : z ≤ 4) (h : listS b i n z = some vs) : 0 ≤ n ∧ (vs.length : Int) = n ∧ ∀ x, x ∈ vs → 0 ≤ x ∧ x < 4294967296 := by
 unfold listS at h;obtain ⟨r, hr, rfl⟩ := Option.map_eq_some_iff.1 h;have h1 := rowsS_n hr;have h2 := (hb.piece (rowsS_piece hr)).1;refine ⟨h1.1, by simp; omega, fun x hx => ?_⟩;obtain ⟨l, hl, rfl⟩ := List.mem_map.1 hx;obtain ⟨h3, h4⟩ := cutRows_byt h2 _ _ hl;exact num_lt4 h3 (by omega)
theorem takeS_spec {b : List Int} (hb : Byt b) {i need : Int} {keys : Nat} {rows : List (List Int)} (h : takeS b i need keys = some rows) : ∃ z n : Int, uS b i 2 = some z ∧ uS b (i + 2) 2 = some n ∧ need ≤ z ∧ (rows.length : Int) ≤ n ∧ ∀ row, row ∈ rows → Byt row ∧ (row.length : Int) = z := by
 unfold takeS at h;split at h
 ·rename_i z n h1 h2;split at h
  ·rename_i hc;obtain ⟨r, hr, rfl⟩ := Option.map_eq_some_iff.1 h;have hn := rowsS_n hr;have hrb := (hb.piece (rowsS_piece hr)).1;have hrl : (r.length : Int) = n * z := pieceS_len (rowsS_piece hr);refine ⟨z, n, h1, h2, hc.2, ?_, fun row hrow => ?_⟩
   ·unfold endRows;split <;> simp <;> omega
   ·have hm : row ∈ cutRows r z.toNat n.toNat := by
     unfold endRows at hrow;split at hrow
     ·obtain ⟨i, hi, rfl⟩ := List.mem_map.1 hrow;exact List.mem_map.2 ⟨i, List.mem_range.2 (by have := List.mem_range.1 hi; omega), rfl⟩
     ·exact hrow
    refine ⟨(cutRows_byt hrb _ _ hm).1, ?_⟩;obtain ⟨j, hj, rfl⟩ := List.mem_map.1 hm;have hj := List.mem_range.1 hj;obtain ⟨z', rfl⟩ := Int.eq_ofNat_of_zero_le hn.2.1;obtain ⟨n', rfl⟩ := Int.eq_ofNat_of_zero_le hn.1;have hrl : r.length = n' * z' := by exact_mod_cast hrl
    simp only [Int.toNat_natCast] at hj ⊢;have : z' * j + z' ≤ r.length := by
     rw [hrl, ← Nat.mul_succ, Nat.mul_comm];exact Nat.mul_le_mul_right _ hj
    simp; omega
  ·cases h
 ·cases h
theorem trimS_ok {b : List Int} (hb : Byt b) {i z : Int} (hz : z ≤ 4) {ps : List Pt} (h : trimS b i z = some ps) : ∀ p, p ∈ ps → p.ok := by
 unfold trimS at h;obtain ⟨f, hf, h⟩ := Option.bind_eq_some_iff.1 h;obtain ⟨n, hn, h⟩ := Option.bind_eq_some_iff.1 h;split at h
 ·rename_i hc;obtain ⟨vs, hv, rfl⟩ := Option.map_eq_some_iff.1 h;have hs := listS_spec hb hz hv;have hf := uS_two hb hf;have hn := uS_two hb hn;intro p hp;split at hp
  ·simp at hp
  ·simp at hp;subst hp;exact ⟨by simp; omega, by simp; omega, by simp; omega, fun e => by simp at e; simp [e] at hs; omega, by simp; omega, hs.2.2⟩
 ·cases h
theorem segP_ok {b row : List Int} (hb : Byt b) (hr : Byt row) {z : Int} (hz : z = 2 ∨ z = 4) {each : Bool} {p : Pt} (h : segP b z each row = some p) : p.ok := by
 unfold segP at h;obtain ⟨f, hf, h⟩ := Option.bind_eq_some_iff.1 h;obtain ⟨l, hl, h⟩ := Option.bind_eq_some_iff.1 h;have hf := uS_two hr hf;have hl := uS_two hr hl;split at h
 ·split at h
  ·obtain ⟨i, hi, h⟩ := Option.bind_eq_some_iff.1 h;obtain ⟨vs, hv, rfl⟩ := Option.map_eq_some_iff.1 h;have hs := listS_spec hb (by omega) hv;exact ⟨by simp; omega, by simpa, by simp; omega, fun e => by simp at e; simp [e] at hs; omega, by simp; omega, hs.2.2⟩
  ·obtain ⟨x, hx, rfl⟩ := Option.map_eq_some_iff.1 h;refine ⟨by simp; omega, by simpa, by simp; omega, by simp, by simp, fun y hy => ?_⟩;simp at hy;subst hy;rcases hz with rfl | rfl
   ·have := uS_two hr hx; omega
   ·have := uS_four hr hx; omega
 ·cases h
theorem oneP_ok {row : List Int} (hr : Byt row) {z : Int} (hz : z = 2 ∨ z = 4) {p : Pt} (h : oneP z row = some p) : p.ok := by
 unfold oneP at h;obtain ⟨i, hi, h⟩ := Option.bind_eq_some_iff.1 h;obtain ⟨x, hx, rfl⟩ := Option.map_eq_some_iff.1 h;have hi := uS_two hr hi;refine ⟨by simp; omega, by simp, by simp; omega, by simp, by simp, fun y hy => ?_⟩;simp at hy;subst hy;rcases hz with rfl | rfl
 ·have := uS_two hr hx; omega
 ·have := uS_four hr hx; omega
theorem mapO_all {α β : Type} {f : α → Option β} {l : List α} {r : List β} (h : mapO f l = some r) {P : β → Prop} (hp : ∀ x y, x ∈ l → f x = some y → P y) : ∀ y, y ∈ r → P y := by
 intro y hy;obtain ⟨i, hi⟩ := List.mem_iff_getElem?.1 hy;obtain ⟨x, hx, hf⟩ := mapO_get h hi;exact hp x y (List.mem_of_getElem? hx) hf
theorem partsS_ok {b : List Int} (hb : Byt b) {glyphs z fmt : Int} (hg : 1 ≤ glyphs) (hg2 : glyphs ≤ 65535) (hz : z = 2 ∨ z = 4) {ps : List Pt} (h : partsS b glyphs z fmt = some ps) : ∀ p, p ∈ ps → p.ok := by
 unfold partsS at h;split at h
 ·obtain ⟨vs, hv, rfl⟩ := Option.map_eq_some_iff.1 h;have hs := listS_spec hb (by omega) hv;intro p hp;simp at hp;subst hp;exact ⟨by simp, by simp; omega, by simp; omega, fun e => by simp at e; simp [e] at hs; omega, by simp; omega, hs.2.2⟩
 split at h
 ·obtain ⟨rows, h1, h2⟩ := Option.bind_eq_some_iff.1 h;obtain ⟨_, _, _, _, _, _, hr⟩ := takeS_spec hb h1;exact mapO_all h2 fun x y hx hy => segP_ok hb (hr x hx).1 hz hy
 split at h
 ·obtain ⟨rows, h1, h2⟩ := Option.bind_eq_some_iff.1 h;obtain ⟨_, _, _, _, _, _, hr⟩ := takeS_spec hb h1;exact mapO_all h2 fun x y hx hy => segP_ok hb (hr x hx).1 hz hy
 split at h
 ·obtain ⟨rows, h1, h2⟩ := Option.bind_eq_some_iff.1 h;obtain ⟨_, _, _, _, _, _, hr⟩ := takeS_spec hb h1;exact mapO_all h2 fun x y hx hy => oneP_ok (hr x hx).1 hz hy
 split at h
 ·exact trimS_ok hb (by omega) h
 split at h
 ·obtain ⟨u, _, h⟩ := Option.bind_eq_some_iff.1 h;split at h
  ·exact trimS_ok hb (by omega) h
  ·cases h
 ·cases h
theorem lookS_ok {b : List Int} (hb : Byt b) {glyphs z fmt : Int} (hg : 1 ≤ glyphs) (hg2 : glyphs ≤ 65535) (hz : z = 2 ∨ z = 4) {ps : List Pt} (h : lookS b glyphs z = some (fmt, ps)) : uS b 0 2 = some fmt ∧ (∀ p, p ∈ ps → p.ok) ∧ risesS ps = true := by
 unfold lookS at h;obtain ⟨f, hf, h⟩ := Option.bind_eq_some_iff.1 h;obtain ⟨qs, hq, h⟩ := Option.bind_eq_some_iff.1 h;split at h
 ·rename_i hr;injection h with h; injection h with h1 h2;subst h1 h2;exact ⟨hf, partsS_ok hb hg hg2 hz hq, hr⟩
 ·cases h
theorem segS_len {b : List Int} (hb : Byt b) {z : Int} {each : Bool} {ps : List Pt} (h : segS b z each = some ps) : ps.length < 65536 := by
 obtain ⟨rows, h1, h2⟩ := Option.bind_eq_some_iff.1 h;obtain ⟨_, n, _, hn, _, hlen, _⟩ := takeS_spec hb h1;have := uS_two hb hn;have := mapO_len h2;omega
theorem oneS_len {b : List Int} (hb : Byt b) {z : Int} {ps : List Pt} (h : oneS b z = some ps) : ps.length < 65536 := by
 obtain ⟨rows, h1, h2⟩ := Option.bind_eq_some_iff.1 h;obtain ⟨_, n, _, hn, _, hlen, _⟩ := takeS_spec hb h1;have := uS_two hb hn;have := mapO_len h2;omega
theorem trimS_len {b : List Int} {i z : Int} {ps : List Pt} (h : trimS b i z = some ps) : ps.length < 65536 := by
 obtain ⟨f, _, h⟩ := Option.bind_eq_some_iff.1 h;obtain ⟨n, _, h⟩ := Option.bind_eq_some_iff.1 h;split at h
 ·obtain ⟨vs, _, rfl⟩ := Option.map_eq_some_iff.1 h;split <;> simp
 ·cases h
theorem lookS_len {b : List Int} (hb : Byt b) {g z : Int} {x : Int × List Pt} (h : lookS b g z = some x) : x.2.length < 2 ^ 31 := by
 unfold lookS at h;obtain ⟨f, _, h⟩ := Option.bind_eq_some_iff.1 h;obtain ⟨ps, h1, h⟩ := Option.bind_eq_some_iff.1 h;split at h
 ·injection h with h;subst h;dsimp only;unfold partsS at h1;split at h1
  ·obtain ⟨vs, _, rfl⟩ := Option.map_eq_some_iff.1 h1;simp
  split at h1
  ·have := segS_len hb h1; omega
  split at h1
  ·have := segS_len hb h1; omega
  split at h1
  ·have := oneS_len hb h1; omega
  split at h1
  ·have := trimS_len h1; omega
  split at h1
  ·obtain ⟨u, _, h1⟩ := Option.bind_eq_some_iff.1 h1;split at h1
   ·have := trimS_len h1; omega
   ·cases h1
  ·cases h1
 ·cases h
theorem risesS_get : ∀ {ps : List Pt}, risesS ps = true → (∀ p, p ∈ ps → p.ok) → ∀ (i j : Nat) (p q : Pt), i < j → ps[i]? = some p → ps[j]? = some q → p.last < q.first
 | [], _, _, i, j, p, q, _, hp, _ => by simp at hp
 | [_], _, _, i, j, p, q, hij, hp, hq => by
  have h1 := (List.getElem?_eq_some_iff.1 hq).1;simp at h1;omega
 | a :: b :: l, h, hok, i, j, p, q, hij, hp, hq => by
  simp only [risesS, Bool.and_eq_true, decide_eq_true_eq] at h;obtain ⟨j, rfl⟩ : ∃ j', j = j' + 1 := ⟨j - 1, by omega⟩
  have hq : (b :: l)[j]? = some q := by simpa using hq
  have hok' : ∀ p, p ∈ b :: l → p.ok := fun p hp => hok p (by simp at hp ⊢; exact .inr hp);cases i with
  | succ i => exact risesS_get h.2 hok' i j p q (by omega) (by simpa using hp) hq
  | zero =>
   simp at hp;subst hp;cases j with
   | zero => simp at hq; subst hq; exact h.1
   | succ j =>
    have h1 := risesS_get h.2 hok' 0 (j + 1) b q (by omega) (by simp) hq;have h2 := hok b (by simp);have := h2.2.1;omega
theorem getS_first {ps : List Pt} (id : Int) (i : Nat) (h : IsFirst ps.length (fun j => (ps[j]?).elim false fun p => decide (id ≤ p.last)) i) : getS ps id = (ps[i]?).bind fun p => if p.first ≤ id then p.num id else none := by
 unfold getS;rw [find_first _ ps i h]
theorem Pt.num_some {p : Pt} (h : p.ok) {id : Int} (hf : p.first ≤ id) : ∃ x, p.num id = some x ∧ 0 ≤ x ∧ x < 4294967296 := by
 obtain ⟨h1, h2, h3, h4, h5, h6⟩ := h;have hl : 0 < p.vals.length := List.length_pos_iff.2 h4;unfold Pt.num;have hi : (min (id - p.first) ((p.vals.length : Int) - 1)).toNat < p.vals.length := by omega
 exact ⟨p.vals[(min (id - p.first) ((p.vals.length : Int) - 1)).toNat], List.getElem?_eq_getElem hi, h6 _ (List.getElem_mem _)⟩
end Go.Sw
end
section
namespace Go.Sw
open Go.RowKit
theorem pieceS_iff {b : List Int} {i n : Int} {r : List Int} : pieceS b i n = some r ↔ (0 ≤ i ∧ 0 ≤ n ∧ i ≤ b.length ∧ n ≤ b.length - i) ∧ r = (b.drop i.toNat).take n.toNat := by
 unfold pieceS;split
 ·rename_i h;constructor
  ·intro e; injection e with e; exact ⟨h, e.symm⟩
  ·rintro ⟨_, rfl⟩; rfl
 ·rename_i h;constructor
  ·intro e; cases e
  ·rintro ⟨h', _⟩; exact absurd h' h
theorem uS_sub {b r : List Int} {p z : Int} (h : pieceS b p z = some r) {x y : Int} (hx : 0 ≤ x) (hy : 0 ≤ y) (hxy : x + y ≤ z) : uS r x y = uS b (p + x) y := by
 obtain ⟨⟨h1, h2, h3, h4⟩, rfl⟩ := pieceS_iff.1 h;have hl : ((b.drop p.toNat).take z.toNat).length = z.toNat := by simp; omega
 unfold uS;rw [pieceS_iff.2 ⟨by rw [hl]; omega, rfl⟩, pieceS_iff.2 ⟨by omega, rfl⟩, List.drop_take, List.take_take, List.drop_drop];rw [show min y.toNat (z.toNat - x.toNat) = y.toNat by omega, show p.toNat + x.toNat = (p + x).toNat by omega]
theorem rowsS_iff {b : List Int} {i n z : Int} {r : List Int} (hz : 0 < z) : rowsS b i n z = some r ↔ (0 ≤ i ∧ 0 ≤ n ∧ i ≤ b.length ∧ n * z ≤ b.length - i) ∧ r = (b.drop i.toNat).take (n * z).toNat := by
 unfold rowsS;have k : n ≤ (b.length : Int) / z ↔ n * z ≤ b.length := Int.le_ediv_iff_mul_le hz;split
 ·rename_i h;rw [pieceS_iff];constructor
  ·rintro ⟨h1, h2⟩; exact ⟨⟨h1.1, h.1, h1.2.2.1, h1.2.2.2⟩, h2⟩
  ·rintro ⟨h1, h2⟩; exact ⟨⟨h1.1, Int.mul_nonneg h.1 (by omega), h1.2.2.1, h1.2.2.2⟩, h2⟩
 ·rename_i h;constructor
  ·intro e; cases e
  ·rintro ⟨h1, _⟩;exact absurd ⟨h1.2.1, by omega, .inr (k.2 (by omega))⟩ h
theorem rowsB_iff {s i n z : Int} (hz : 0 < z) : rowsB s i n z = true ↔ 0 ≤ i ∧ 0 ≤ n ∧ i ≤ s ∧ n * z ≤ s - i := by
 unfold rowsB;have k : n ≤ (s - i) / z ↔ n * z ≤ s - i := Int.le_ediv_iff_mul_le hz;rw [decide_eq_true_eq, k];constructor
 ·rintro ⟨h1, h2, h3, h4, h5⟩; exact ⟨h1, h2, h4, by rcases h5 with h5 | h5 <;> omega⟩
 ·rintro ⟨h1, h2, h3, h4⟩; exact ⟨h1, h2, by omega, h3, .inr h4⟩
theorem listS_isSome {b : List Int} {i n z : Int} (hz : 0 < z) : (listS b i n z).isSome = rowsB b.length i n z := by
 rw [Bool.eq_iff_iff, rowsB_iff hz, listS, Option.isSome_map, Option.isSome_iff_exists];constructor
 ·rintro ⟨r, hr⟩; exact ((rowsS_iff hz).1 hr).1
 ·intro h; exact ⟨_, (rowsS_iff hz).2 ⟨h, rfl⟩⟩
theorem listS_get {b : List Int} {i n z : Int} {vs : List Int} (hz : 0 < z) (h : listS b i n z = some vs) (j : Nat) (hj : (j : Int) < n) : vs[j]? = uS b (i + j * z) z := by
 unfold listS at h;obtain ⟨r, hr, rfl⟩ := Option.map_eq_some_iff.1 h;obtain ⟨⟨h1, h2, h3, h4⟩, rfl⟩ := (rowsS_iff hz).1 hr;obtain ⟨i, rfl⟩ := Int.eq_ofNat_of_zero_le h1;obtain ⟨n, rfl⟩ := Int.eq_ofNat_of_zero_le h2;obtain ⟨z, rfl⟩ := Int.eq_ofNat_of_zero_le (Int.le_of_lt hz);have hj' : j < n := by omega
 have e : j * z + z ≤ n * z := by
  rw [← Nat.succ_mul]; exact Nat.mul_le_mul_right _ hj'
 have h4' : n * z ≤ b.length - i := by omega
 simp only [Int.toNat_natCast];rw [List.getElem?_map, cutRows_get _ _ _ _ hj', Option.map_some];unfold uS;rw [pieceS_iff.2 ⟨⟨by omega, by omega, by
  have : ((j * z : Nat) : Int) = (j : Int) * z := by simp
  omega, by
  have : ((j * z : Nat) : Int) = (j : Int) * z := by simp
  omega⟩, rfl⟩, Option.map_some]
 congr 2;rw [show ((n : Int) * z).toNat = n * z by rw [← Int.natCast_mul, Int.toNat_natCast], show ((i : Int) + j * z).toNat = i + j * z by rw [← Int.natCast_mul, ← Int.natCast_add, Int.toNat_natCast], Int.toNat_natCast];rw [List.drop_take, List.take_take, List.drop_drop, Nat.mul_comm z j];rw [show min z (n * z - j * z) = z by omega]
theorem rowsS_row {b : List Int} {i : Int} {n z : Nat} {r : List Int} (h : rowsS b i n z = some r) {j : Nat} (hj : j < n) : pieceS b (i + z * j) z = some ((r.drop (z * j)).take z) := by
 have hn := rowsS_n h;obtain ⟨i', hi'⟩ := Int.eq_ofNat_of_zero_le hn.2.2.1;have e : z * j + z ≤ n * z := by
  rw [← Nat.mul_succ, Nat.mul_comm]; exact Nat.mul_le_mul_right _ (by omega)
 have e1 : ((z * j : Nat) : Int) = (z : Int) * j := by simp
 have e2 : ((n * z : Nat) : Int) = (n : Int) * z := by simp
 rw [pieceS_iff];refine ⟨⟨by omega, by omega, by omega, by omega⟩, ?_⟩;rw [hn.2.2.2.2.2, hi', show ((n : Int) * z).toNat = n * z by rw [← e2, Int.toNat_natCast], show ((i' : Int) + z * j).toNat = i' + z * j by rw [← e1, ← Int.natCast_add, Int.toNat_natCast]];simp only [Int.toNat_natCast];rw [List.drop_take, List.take_take, List.drop_drop];rw [show min z (n * z - z * j) = z by omega]
theorem takeS_get {b : List Int} {i need : Int} {keys : Nat} {rows : List (List Int)} (h : takeS b i need keys = some rows) :
  ∃ z n : Int, uS b i 2 = some z ∧ uS b (i + 2) 2 = some n ∧ need ≤ z ∧ 0 ≤ z ∧ (rows.length : Int) ≤ n ∧ ∀ (j : Nat) row, rows[j]? = some row → pieceS b (i + 10 + z * j) z = some row := by
 unfold takeS at h;split at h
 ·rename_i z n h1 h2;split at h
  ·rename_i hc;obtain ⟨r, hr, rfl⟩ := Option.map_eq_some_iff.1 h;have hn := rowsS_n hr;refine ⟨z, n, h1, h2, hc.2, hn.2.1, ?_, fun j row hrow => ?_⟩
   ·unfold endRows;split <;> simp <;> omega
   ·have hm : (cutRows r z.toNat n.toNat)[j]? = some row := by
     unfold endRows at hrow;split at hrow
     ·have hlt := (List.getElem?_eq_some_iff.1 hrow).1;simp at hlt;rw [cutRows_get _ _ _ _ (by omega)] at hrow;rw [cutRows_get _ _ _ _ (by omega)];exact hrow
     ·exact hrow
    have hlt := (List.getElem?_eq_some_iff.1 hm).1;simp at hlt;rw [cutRows_get _ _ _ _ (by omega)] at hm;injection hm with hm;obtain ⟨z', rfl⟩ := Int.eq_ofNat_of_zero_le hn.2.1;obtain ⟨n', rfl⟩ := Int.eq_ofNat_of_zero_le hn.1;obtain ⟨i', hi'⟩ := Int.eq_ofNat_of_zero_le hn.2.2.1;simp only [Int.toNat_natCast] at hlt hm;have e : z' * j + z' ≤ n' * z' := by
     rw [← Nat.mul_succ, Nat.mul_comm]; exact Nat.mul_le_mul_right _ (by omega)
    have e1 : ((z' * j : Nat) : Int) = (z' : Int) * j := by simp
    have e2 : ((n' * z' : Nat) : Int) = (n' : Int) * z' := by simp
    rw [pieceS_iff];refine ⟨⟨by omega, by omega, by omega, by omega⟩, ?_⟩;rw [← hm, hn.2.2.2.2.2, hi', show ((n' : Int) * z').toNat = n' * z' by rw [← e2, Int.toNat_natCast], show ((i' : Int) + z' * j).toNat = i' + z' * j by rw [← e1, ← Int.natCast_add, Int.toNat_natCast]];simp only [Int.toNat_natCast];rw [List.drop_take, List.take_take, List.drop_drop];rw [show min z' (n' * z' - z' * j) = z' by omega]
  ·cases h
 ·cases h
def gU (b : List Int) (i n : Int) : Int := (uS b i n).getD (-1)
theorem gU_two {b : List Int} (hb : Byt b) (i : Int) : -1 ≤ gU b i 2 ∧ gU b i 2 < 65536 := by
 unfold gU;cases h : uS b i 2 with
 | none => simp
 | some x => have := uS_two hb h; simp; omega
structure RP where
 first : Int
 last : Int
 pos : Int
 size : Int
 step : Int
def posS (i z : Int) (n : Nat) : List Int := (List.range n).map fun j => i + 10 + z * (j : Nat)
theorem posS_get (i z : Int) (n j : Nat) (h : j < n) : (posS i z n)[j]? = some (i + 10 + z * j) := by simp [posS, h]
@[simp] theorem posS_len (i z : Int) (n : Nat) : (posS i z n).length = n := by simp [posS]
def segR (b : List Int) (z : Int) (each : Bool) (p : Int) : Option RP :=
 if each then (if rowsB b.length (gU b (p + 4) 2) (gU b p 2 - gU b (p + 2) 2 + 1) z then some ⟨gU b (p + 2) 2, gU b p 2, gU b (p + 4) 2, z, z⟩ else none)
 else some ⟨gU b (p + 2) 2, gU b p 2, p + 4, z, 0⟩
def refSegS (b : List Int) (z : Int) (each : Bool) : Option (List RP) :=
 (takeS b 2 (if each then 6 else 4 + z) 2).bind fun rows => mapO (segR b z each) (posS 2 (gU b 2 2) rows.length)
def oneR (b : List Int) (z : Int) (p : Int) : RP := ⟨gU b p 2, gU b p 2, p + 2, z, 0⟩
def refOneS (b : List Int) (z : Int) : Option (List RP) :=
 (takeS b 2 (2 + z) 1).map fun rows => (posS 2 (gU b 2 2) rows.length).map (oneR b z)
def refTrimS (b : List Int) (i z : Int) : Option (List RP) :=
 (uS b i 2).bind fun f => (uS b (i + 2) 2).bind fun n =>
  if f + n ≤ 65536 ∧ rowsB b.length (i + 4) n z = true then some (if n = 0 then [] else [⟨f, f + n - 1, i + 4, z, z⟩]) else none
def refPartsS (b : List Int) (glyphs z fmt : Int) : Option (List RP) :=
 if fmt = 0 then (if rowsB b.length 2 glyphs z then some [⟨0, glyphs - 1, 2, z, z⟩] else none) else
 if fmt = 2 then refSegS b z false else
 if fmt = 4 then refSegS b z true else
 if fmt = 6 then refOneS b z else
 if fmt = 8 then refTrimS b 2 z else
 if fmt = 10 then (uS b 2 2).bind fun u => if u = 1 ∨ u = 2 ∨ u = 4 then refTrimS b 4 u else none
 else none
def goodR : List RP → Bool
 | [] => true
 | [r] => decide (r.first ≤ r.last)
 | r :: q :: l => decide (r.first ≤ r.last) && decide (r.last < q.first) && goodR (q :: l)
def refReadS (b : List Int) (glyphs z : Int) : Option (List RP) :=
 (refPartsS b glyphs z (gU b 0 2)).bind fun rs => if goodR rs then some rs else none
def PR (b : List Int) (p : Pt) (r : RP) : Prop := p.first = r.first ∧ p.last = r.last ∧ (∀ id, r.first ≤ id → id ≤ r.last → p.num id = uS b (r.pos + (id - r.first) * r.step) r.size) ∧ ((r.step = 0 ∧ p.vals.length = 1) ∨ (r.step ≠ 0 ∧ (p.vals.length : Int) = r.last - r.first + 1))
def Rel (b : List Int) : List Pt → List RP → Prop
 | [], [] => True
 | p :: ps, r :: rs => PR b p r ∧ Rel b ps rs
 | _, _ => False
def Bad (rs : List RP) : Prop := ∃ r, r ∈ rs ∧ r.last < r.first
theorem Bad.good {rs : List RP} (h : Bad rs) : goodR rs = false := by
 obtain ⟨r, hr, hlt⟩ := h
 induction rs with
 | nil => cases hr
 | cons a l ih =>
  rcases List.mem_cons.1 hr with rfl | hr
  ·cases l with
   | nil => simp [goodR]; omega
   | cons q l => simp only [goodR, Bool.and_eq_false_iff, decide_eq_false_iff_not]; exact .inl (.inl (by omega))
  ·have := ih hr;cases l with
   | nil => cases hr
   | cons q l => simp only [goodR, this, Bool.and_false]
theorem mapO_rel {b : List Int} {f : List Int → Option Pt} {g : Int → Option RP} : ∀ (rows : List (List Int)) (ps : List Int), rows.length = ps.length →
  (∀ (j : Nat) row p, rows[j]? = some row → ps[j]? = some p → (∀ x, f row = some x → ∃ r, g p = some r ∧ PR b x r) ∧ (f row = none → g p = none ∨ ∃ r, g p = some r ∧ r.last < r.first)) →
  (∀ xs, mapO f rows = some xs → ∃ rs, mapO g ps = some rs ∧ Rel b xs rs) ∧ (mapO f rows = none → ∀ rs, mapO g ps = some rs → Bad rs)
 | [], [], _, _ => ⟨fun xs h => ⟨[], rfl, by injection h with h; subst h; trivial⟩, fun h => by cases h⟩
 | [], _ :: _, h, _ => by simp at h
 | _ :: _, [], h, _ => by simp at h
 | row :: rows, p :: ps, h, hs => by
  have h0 := hs 0 row p (by simp) (by simp);have ih := mapO_rel rows ps (by simpa using h) fun j r q h1 h2 => hs (j + 1) r q (by simpa using h1) (by simpa using h2);constructor
  ·intro xs hx;simp only [mapO] at hx;obtain ⟨x, e1, hx⟩ := Option.bind_eq_some_iff.1 hx;obtain ⟨xs', e2, rfl⟩ := Option.map_eq_some_iff.1 hx;obtain ⟨r, g1, p1⟩ := h0.1 x e1;obtain ⟨rs, g2, p2⟩ := ih.1 xs' e2;exact ⟨r :: rs, by simp [mapO, g1, g2], p1, p2⟩
  ·intro hn rs hr;simp only [mapO] at hr;obtain ⟨r, e1, hr⟩ := Option.bind_eq_some_iff.1 hr;obtain ⟨rs', e2, rfl⟩ := Option.map_eq_some_iff.1 hr;cases hf : f row with
   | none =>
    rcases h0.2 hf with h1 | ⟨r', h1, h2⟩
    ·rw [h1] at e1; cases e1
    ·rw [h1] at e1; injection e1 with e1; subst e1;exact ⟨r', by simp, h2⟩
   | some x =>
    simp only [mapO, hf, Option.bind_some, Option.map_eq_none_iff] at hn;obtain ⟨q, hq, hlt⟩ := ih.2 hn rs' e2;exact ⟨q, by simp [hq], hlt⟩
theorem mapO_pure {α β : Type} (f : α → β) : ∀ l : List α, mapO (fun x => some (f x)) l = some (l.map f)
 | [] => rfl
 | x :: l => by simp [mapO, mapO_pure f l]
theorem gU_some {b : List Int} {i n x : Int} (h : uS b i n = some x) : gU b i n = x := by unfold gU; rw [h]; rfl
theorem row_two {b row : List Int} {p z : Int} (h : pieceS b p z = some row) {x : Int} (hx : 0 ≤ x) {y : Int} (hy : 0 ≤ y) (hxy : x + y ≤ z) : uS row x y = uS b (p + x) y ∧ ∃ n, uS b (p + x) y = some n := by
 refine ⟨uS_sub h hx hy hxy, ?_⟩;obtain ⟨⟨h1, h2, h3, h4⟩, _⟩ := pieceS_iff.1 h;unfold uS;rw [pieceS_iff.2 ⟨by omega, rfl⟩];exact ⟨_, rfl⟩
theorem list_num {b : List Int} {i f l z : Int} {vs : List Int} (hz : 0 < z) (h : listS b i (l - f + 1) z = some vs) (hlen : (vs.length : Int) = l - f + 1) : PR b ⟨f, l, vs⟩ ⟨f, l, i, z, z⟩ := by
 refine ⟨rfl, rfl, fun id h1 h2 => ?_, .inr ⟨by dsimp only; omega, hlen⟩⟩;dsimp only at h1 h2 ⊢;unfold Pt.num;dsimp only;rw [hlen, show min (id - f) (l - f + 1 - 1) = id - f by omega];have := listS_get hz h (id - f).toNat (by omega);rw [this];congr 2;rw [show (((id - f).toNat : Nat) : Int) = id - f by omega]
theorem seg_rel {b row : List Int} {p z s : Int} {each : Bool} (hb : Byt b) (hz : z = 2 ∨ z = 4) (hrow : pieceS b p s = some row) (hs : (if each then 6 else 4 + z) ≤ s) :
  (∀ x, segP b z each row = some x → ∃ r, segR b z each p = some r ∧ PR b x r) ∧ (segP b z each row = none → segR b z each p = none ∨ ∃ r, segR b z each p = some r ∧ r.last < r.first) := by
 have hs6 : 6 ≤ s := by cases each <;> simp at hs <;> omega
 obtain ⟨e2, f, hf⟩ := row_two hrow (x := 2) (y := 2) (by omega) (by omega) (by omega);obtain ⟨e0, l, hl⟩ := row_two hrow (x := 0) (y := 2) (by omega) (by omega) (by omega);obtain ⟨e4, a, ha⟩ := row_two hrow (x := 4) (y := 2) (by omega) (by omega) (by omega);rw [Int.add_zero] at e0 hl;unfold segP segR;rw [e2, e0, hf, hl, gU_some hf, gU_some hl];simp only [Option.bind_some];cases each with
 | false =>
  simp at hs;obtain ⟨ez, x, hx⟩ := row_two hrow (x := 4) (y := z) (by omega) (by omega) (by omega);simp only [Bool.false_eq_true, if_false];by_cases h : f ≤ l
  ·rw [if_pos h, ez, hx];refine ⟨fun y hy => ?_, fun hn => by cases hn⟩;injection hy with hy;subst hy;refine ⟨_, rfl, rfl, rfl, fun id h1 h2 => ?_, .inl ⟨rfl, rfl⟩⟩;dsimp only at h1 h2 ⊢;rw [Int.mul_zero, Int.add_zero, hx];unfold Pt.num;simp;rw [show (min (id - f) 0).toNat = 0 by omega];rfl
  ·rw [if_neg h];exact ⟨fun y hy => (by cases hy), fun _ => .inr ⟨_, rfl, by dsimp only; omega⟩⟩
 | true =>
  simp only [if_true];rw [e4, ha, gU_some ha];simp only [Option.bind_some];have hbl := listS_isSome (b := b) (i := a) (n := l - f + 1) (z := z) (by omega);by_cases h : f ≤ l
  ·rw [if_pos h];cases hv : listS b a (l - f + 1) z with
   | none =>
    rw [hv] at hbl;rw [if_neg (by rw [← hbl]; simp)];exact ⟨fun y hy => (by cases hy), fun _ => .inl rfl⟩
   | some vs =>
    rw [hv] at hbl;rw [if_pos (by rw [← hbl]; rfl)];refine ⟨fun y hy => ?_, fun hn => by cases hn⟩;injection hy with hy;subst hy;exact ⟨_, rfl, list_num (by omega) hv (listS_spec hb (by omega) hv).2.1⟩
  ·rw [if_neg h];refine ⟨fun y hy => (by cases hy), fun _ => ?_⟩;split
   ·exact .inr ⟨_, rfl, by dsimp only; omega⟩
   ·exact .inl rfl
def Alike (b : List Int) (o : Option (List Pt)) (q : Option (List RP)) : Prop := (∀ xs, o = some xs → ∃ rs, q = some rs ∧ Rel b xs rs) ∧ (o = none → ∀ rs, q = some rs → Bad rs)
theorem Alike.none {b : List Int} : Alike b none none := ⟨fun xs h => (by cases h), fun _ rs h => by cases h⟩
theorem Alike.one {b : List Int} {p : Pt} {r : RP} (h : PR b p r) : Alike b (some [p]) (some [r]) := ⟨fun xs h' => ⟨_, rfl, by injection h' with h'; subst h'; exact ⟨h, trivial⟩⟩, fun h => by cases h⟩
theorem segs_rel {b : List Int} (hb : Byt b) {z : Int} (hz : z = 2 ∨ z = 4) (each : Bool) : Alike b (segS b z each) (refSegS b z each) := by
 unfold segS refSegS;cases h : takeS b 2 (if each then 6 else 4 + z) 2 with
 | none => exact .none
 | some rows =>
  obtain ⟨s, n, h1, h2, h3, h4, h5, h6⟩ := takeS_get h;simp only [Option.bind_some];rw [gU_some h1];refine mapO_rel rows _ (by simp) fun j row p hr hp => ?_;have hlt := (List.getElem?_eq_some_iff.1 hr).1;rw [posS_get _ _ _ _ hlt] at hp;injection hp with hp;subst hp;exact seg_rel hb hz (h6 j row hr) h3
theorem ones_rel {b : List Int} {z : Int} (hz : z = 2 ∨ z = 4) : Alike b (oneS b z) (refOneS b z) := by
 unfold oneS refOneS;cases h : takeS b 2 (2 + z) 1 with
 | none => exact .none
 | some rows =>
  obtain ⟨s, n, h1, h2, h3, h4, h5, h6⟩ := takeS_get h;simp only [Option.bind_some, Option.map_some];rw [gU_some h1, ← mapO_pure];refine mapO_rel rows _ (by simp) fun j row p hr hp => ?_;have hlt := (List.getElem?_eq_some_iff.1 hr).1;rw [posS_get _ _ _ _ hlt] at hp;injection hp with hp;subst hp;have hp := h6 j row hr;obtain ⟨e0, f, hf⟩ := row_two hp (x := 0) (y := 2) (by omega) (by omega) (by omega);obtain ⟨e2, x, hx⟩ := row_two hp (x := 2) (y := z) (by omega) (by omega) (by omega);rw [Int.add_zero] at e0 hf;unfold oneP oneR;rw [e0, e2, hf, hx, gU_some hf];refine ⟨fun y hy => ?_, fun hn => by cases hn⟩;simp at hy;subst hy;refine ⟨_, rfl, rfl, rfl, fun id h1 h2 => ?_, .inl ⟨rfl, rfl⟩⟩;dsimp only at h1 h2 ⊢;rw [Int.mul_zero, Int.add_zero, hx];unfold Pt.num;simp;rw [show (min (id - f) 0).toNat = 0 by omega];rfl
theorem trims_rel {b : List Int} (hb : Byt b) {i z : Int} (hz : z = 1 ∨ z = 2 ∨ z = 4) : Alike b (trimS b i z) (refTrimS b i z) := by
 unfold trimS refTrimS;cases h1 : uS b i 2 with
 | none => exact .none
 | some f =>
  cases h2 : uS b (i + 2) 2 with
  | none => exact .none
  | some n =>
   simp only [Option.bind_some];have hbl := listS_isSome (b := b) (i := i + 4) (n := n) (z := z) (by omega);by_cases h : f + n ≤ 65536
   ·rw [if_pos h];cases hv : listS b (i + 4) n z with
    | none =>
     rw [hv] at hbl;rw [if_neg (by rw [← hbl]; simp)];exact .none
    | some vs =>
     rw [hv] at hbl;rw [if_pos ⟨h, by rw [← hbl]; rfl⟩];simp only [Option.map_some];by_cases h0 : n = 0
     ·rw [if_pos h0, if_pos h0];exact ⟨fun xs hx => ⟨[], rfl, by injection hx with hx; subst hx; trivial⟩, fun h => by cases h⟩
     ·rw [if_neg h0, if_neg h0];have hlen := (listS_spec hb (by omega) hv).2.1;exact .one (list_num (by omega) (by rw [show f + n - 1 - f + 1 = n by omega]; exact hv) (by omega))
   ·rw [if_neg h, if_neg (fun hc => h hc.1)];exact .none
theorem parts_rel {b : List Int} (hb : Byt b) {g z : Int} (fmt : Int) (hz : z = 2 ∨ z = 4) : Alike b (partsS b g z fmt) (refPartsS b g z fmt) := by
 unfold partsS refPartsS;split
 ·have hbl := listS_isSome (b := b) (i := 2) (n := g) (z := z) (by omega);cases hv : listS b 2 g z with
  | none =>
   rw [hv] at hbl;rw [if_neg (by rw [← hbl]; simp)];exact .none
  | some vs =>
   rw [hv] at hbl;rw [if_pos (by rw [← hbl]; rfl)];have hlen := (listS_spec hb (by omega) hv).2.1;exact .one (list_num (by omega) (by rw [show g - 1 - 0 + 1 = g by omega]; exact hv) (by omega))
 split
 ·exact segs_rel hb hz false
 split
 ·exact segs_rel hb hz true
 split
 ·exact ones_rel hz
 split
 ·exact trims_rel hb (by omega)
 split
 ·cases h : uS b 2 2 with
  | none => exact .none
  | some u =>
   simp only [Option.bind_some];by_cases hu : u = 1 ∨ u = 2 ∨ u = 4
   ·rw [if_pos hu, if_pos hu]; exact trims_rel hb hu
   ·rw [if_neg hu, if_neg hu]; exact .none
 ·exact .none
theorem Rel.good {b : List Int} : ∀ {ps : List Pt} {rs : List RP}, Rel b ps rs → (∀ p, p ∈ ps → p.ok) → goodR rs = risesS ps
 | [], [], _, _ => rfl
 | [], _ :: _, h, _ => by cases h
 | _ :: _, [], h, _ => by cases h
 | [p], [r], h, hok => by
  have h1 := (hok p (by simp)).2.1;have h2 := h.1;rw [h2.1, h2.2.1] at h1;simp [goodR, risesS, h1]
 | [p], _ :: _ :: _, h, _ => by cases h.2
 | _ :: _ :: _, [_], h, _ => by cases h.2
 | p :: p' :: ps, r :: r' :: rs, h, hok => by
  have ih := Rel.good (ps := p' :: ps) (rs := r' :: rs) h.2 fun q hq => hok q (by simp at hq ⊢; exact .inr hq);have h1 := (hok p (by simp)).2.1;have h2 := h.1;have h3 := h.2.1;rw [h2.1, h2.2.1] at h1;rw [← h2.2.1] at h1;simp only [goodR, risesS, ih, ← h2.2.1, ← h3.1, decide_eq_true h1, Bool.true_and]
theorem look_ref {b : List Int} (hb : Byt b) {g z : Int} (h1 : 1 ≤ g) (h2 : g ≤ 65535) (hz : z = 2 ∨ z = 4) :
  (∀ x, lookS b g z = some x → ∃ rs, refReadS b g z = some rs ∧ Rel b x.2 rs) ∧ (lookS b g z = none → refReadS b g z = none) := by
 unfold lookS refReadS;cases h : uS b 0 2 with
 | none =>
  have : gU b 0 2 = -1 := by unfold gU; rw [h]; rfl
  rw [this];exact ⟨fun x hx => (by cases hx), fun _ => rfl⟩
 | some fmt =>
  rw [gU_some h];have hr := parts_rel hb (g := g) fmt hz;simp only [Option.bind_some];cases hp : partsS b g z fmt with
  | none =>
   refine ⟨fun x hx => by simp at hx, fun _ => ?_⟩;cases hq : refPartsS b g z fmt with
   | none => rfl
   | some rs =>
    have := (hr.2 hp rs hq).good;simp [this]
  | some ps =>
   obtain ⟨rs, hq, hrel⟩ := hr.1 ps hp;have hg := hrel.good (partsS_ok hb h1 h2 hz hp);rw [hq];simp only [Option.bind_some, hg];cases risesS ps with
   | true => exact ⟨fun x hx => by simp at hx; subst hx; exact ⟨rs, rfl, hrel⟩, fun hn => by simp at hn⟩
   | false => exact ⟨fun x hx => by simp at hx, fun _ => rfl⟩
end Go.Sw
end
section
namespace Go.Sw
open Go.RowKit
def bytesOf (n : Int) : Nat → List Int
 | 0 => []
 | k + 1 => (n / 256 ^ k) % 256 :: bytesOf n k
@[simp] theorem bytesOf_len (n : Int) : ∀ k, (bytesOf n k).length = k
 | 0 => rfl
 | k + 1 => by simp [bytesOf, bytesOf_len n k]
theorem bytesOf_byt (n : Int) : ∀ k, Byt (bytesOf n k)
 | 0 => fun x hx => by simp [bytesOf] at hx
 | k + 1 => fun x hx => by
  simp only [bytesOf, List.mem_cons] at hx;rcases hx with rfl | hx
  ·omega
  ·exact bytesOf_byt n k x hx
theorem num_cons (x : Int) (l : List Int) : num (x :: l) = x * 256 ^ l.length + num l := by
 have h : ∀ (l : List Int) (a : Int), l.foldl (fun x y => 256 * x + y) a = a * 256 ^ l.length + l.foldl (fun x y => 256 * x + y) 0 := by
  intro l
  induction l with
  | nil => intro a; simp
  | cons y l ih =>
   intro a;simp only [List.foldl_cons, List.length_cons];rw [ih, ih (256 * 0 + y), Int.pow_succ];simp only [Int.mul_zero, Int.zero_add, Int.add_mul];rw [Int.mul_comm 256 a, Int.mul_assoc a 256, Int.mul_comm 256 (256 ^ l.length)];omega
 unfold num;rw [List.foldl_cons, h];simp
theorem num_mod (n : Int) : ∀ k, num (bytesOf n k) = n % 256 ^ k
 | 0 => by simp [bytesOf, num, Int.emod_one]
 | k + 1 => by
  rw [bytesOf, num_cons, num_mod n k, bytesOf_len, Int.pow_succ];have h1 := Int.emod_add_mul_ediv n (256 ^ k);have h2 := Int.emod_add_mul_ediv (n / 256 ^ k) 256;have hp : (0 : Int) < 256 ^ k := Int.pow_pos (by decide);have h3 : n % (256 ^ k * 256) = n - 256 ^ k * 256 * (n / (256 ^ k * 256)) := by
   have := Int.emod_add_mul_ediv n (256 ^ k * 256);omega
  rw [h3, ← Int.ediv_ediv_of_nonneg (Int.le_of_lt hp), Int.mul_assoc];generalize n / 256 ^ k / 256 = d at h2 ⊢;generalize n / 256 ^ k = c at h1 h2 ⊢;generalize (256 : Int) ^ k = p at *;have h4 : c % 256 = c - 256 * d := by omega
  rw [h4, Int.sub_mul];have : p * (256 * d) = 256 * d * p := Int.mul_comm _ _;have : p * c = c * p := Int.mul_comm _ _;omega
theorem num_bytesOf {n : Int} {k : Nat} (h0 : 0 ≤ n) (h1 : n < 256 ^ k) : num (bytesOf n k) = n := by
 rw [num_mod, Int.emod_eq_of_lt h0 h1]
theorem pieceS_at (p m q : List Int) (i k : Int) (hi : i = p.length) (hk : k = m.length) : pieceS (p ++ (m ++ q)) i k = some m := by
 subst hi hk;rw [pieceS_iff];refine ⟨⟨by omega, by omega, by simp; omega, by simp; omega⟩, ?_⟩;simp
theorem uS_at (p q : List Int) {n : Int} {k : Nat} (i z : Int) (hi : i = p.length) (hz : z = k) (h0 : 0 ≤ n) (h1 : n < 256 ^ k) : uS (p ++ (bytesOf n k ++ q)) i z = some n := by
 unfold uS;rw [pieceS_at p (bytesOf n k) q i z hi (by simpa using hz), Option.map_some, num_bytesOf h0 h1]
def headS (fmt z n : Int) : List Int := bytesOf fmt 2 ++ (bytesOf z 2 ++ (bytesOf n 2 ++ [0, 0, 0, 0, 0, 0]))
@[simp] theorem headS_len (fmt z n : Int) : (headS fmt z n).length = 12 := by simp [headS]
theorem headS_byt (fmt z n : Int) : Byt (headS fmt z n) := fun x hx => by
 simp only [headS, List.mem_append] at hx;rcases hx with hx | hx | hx | hx
 ·exact bytesOf_byt _ _ x hx
 ·exact bytesOf_byt _ _ x hx
 ·exact bytesOf_byt _ _ x hx
 ·simp at hx; omega
theorem Byt.app {a b : List Int} (ha : Byt a) (hb : Byt b) : Byt (a ++ b) := fun x hx => by
 rcases List.mem_append.1 hx with h | h
 ·exact ha x h
 ·exact hb x h
theorem Byt.flat {l : List (List Int)} (h : ∀ r, r ∈ l → Byt r) : Byt l.flatten := fun x hx => by
 obtain ⟨r, hr, hx⟩ := List.mem_flatten.1 hx;exact h r hr x hx
theorem Byt.nil : Byt [] := fun x hx => by cases hx
theorem flat_len {z : Nat} : ∀ {rs : List (List Int)}, (∀ r, r ∈ rs → r.length = z) → rs.flatten.length = rs.length * z
 | [], _ => by simp
 | r :: rs, h => by
  have h1 := h r (by simp);have h2 := flat_len (rs := rs) fun q hq => h q (by simp [hq]);simp only [List.flatten_cons, List.length_append, List.length_cons, h1, h2, Nat.succ_mul];omega
theorem flat_cut {z : Nat} : ∀ {rs : List (List Int)}, (∀ r, r ∈ rs → r.length = z) → ∀ i, i < rs.length → rs[i]? = some ((rs.flatten.drop (z * i)).take z)
 | [], _, i, hi => by simp at hi
 | r :: rs, h, 0, _ => by
  have h1 := h r (by simp);simp [h1]
 | r :: rs, h, i + 1, hi => by
  have h1 := h r (by simp);have h2 := flat_cut (rs := rs) (fun q hq => h q (by simp [hq])) i (by simpa using hi);rw [List.getElem?_cons_succ, h2, List.flatten_cons, Nat.mul_succ, Nat.add_comm, ← List.drop_drop, List.drop_append_of_le_length (by omega), List.drop_of_length_le (l := r) (by omega), List.nil_append]
theorem cut_flat {z : Nat} {rs : List (List Int)} (h : ∀ r, r ∈ rs → r.length = z) : cutRows rs.flatten z rs.length = rs := by
 apply List.ext_getElem?;intro i;by_cases hi : i < rs.length
 ·rw [cutRows_get _ _ _ _ hi, flat_cut h i hi]
 ·rw [List.getElem?_eq_none (by simp; omega), List.getElem?_eq_none (by omega)]
theorem noneS_first {row : List Int} {x : Int} (h : uS row 0 2 = some x) (hx : x ≠ 65535) {keys : Nat} (hk : 0 < keys) : noneS row keys = false := by
 unfold noneS;rw [List.all_eq_false];refine ⟨0, by simpa using hk, ?_⟩;rw [show (2 * ((0 : Nat) : Int)) = 0 from rfl, h];simpa using hx
theorem head_at (fmt z n : Int) (q : List Int) (hz : 0 ≤ z ∧ z < 65536) (hn : 0 ≤ n ∧ n < 65536) : uS (headS fmt z n ++ q) 2 2 = some z ∧ uS (headS fmt z n ++ q) 4 2 = some n := by
 constructor
 ·have := uS_at (bytesOf fmt 2) (bytesOf n 2 ++ ([0, 0, 0, 0, 0, 0] ++ q)) (n := z) (k := 2) 2 2 (by simp) rfl hz.1 (by simpa using hz.2);simpa [headS, List.append_assoc] using this
 ·have := uS_at (bytesOf fmt 2 ++ bytesOf z 2) ([0, 0, 0, 0, 0, 0] ++ q) (n := n) (k := 2) 4 2 (by simp) rfl hn.1 (by simpa using hn.2);simpa [headS, List.append_assoc] using this
theorem head_fmt (fmt z n : Int) (q : List Int) (hf : 0 ≤ fmt ∧ fmt < 65536) : uS (headS fmt z n ++ q) 0 2 = some fmt := by
 have := uS_at [] (bytesOf z 2 ++ (bytesOf n 2 ++ ([0, 0, 0, 0, 0, 0] ++ q))) (n := fmt) (k := 2) 0 2 rfl rfl hf.1 (by simpa using hf.2);simpa [headS, List.append_assoc] using this
theorem takeS_rows (fmt : Int) (z keys : Nat) (need : Int) (rs : List (List Int)) (rest : List Int) (hr : ∀ r, r ∈ rs → r.length = z) (hz : 0 < z ∧ z < 65536) (hn : rs.length < 65536) (hneed : need ≤ z) (hlast : ∀ r, r ∈ rs → noneS r keys = false) :
  takeS (headS fmt z rs.length ++ (rs.flatten ++ rest)) 2 need keys = some rs := by
 obtain ⟨h1, h2⟩ := head_at fmt z rs.length (rs.flatten ++ rest) ⟨by omega, by omega⟩ ⟨by omega, by omega⟩;have hfl := flat_len hr;unfold takeS;rw [show (2 : Int) + 2 = 4 from rfl, h1, h2];dsimp only;have hp : pieceS (headS fmt z rs.length ++ (rs.flatten ++ rest)) 2 10 = some ((headS fmt z rs.length).drop 2) := by
  have := pieceS_at ((headS fmt z rs.length).take 2) ((headS fmt z rs.length).drop 2) (rs.flatten ++ rest) 2 10 (by simp) (by simp)
  rwa [← List.append_assoc, List.take_append_drop] at this
 rw [hp, if_pos ⟨rfl, hneed⟩];have e2 : ((rs.length * z : Nat) : Int) = (rs.length : Int) * z := by simp
 have hrows : rowsS (headS fmt z rs.length ++ (rs.flatten ++ rest)) (2 + 10) rs.length z = some rs.flatten := by
  rw [rowsS_iff (by omega)];refine ⟨⟨by omega, by omega, by simp; omega, by simp [hfl]; omega⟩, ?_⟩;rw [← e2, Int.toNat_natCast, ← hfl, show ((2 : Int) + 10).toNat = 12 from rfl, List.drop_append_of_le_length (by simp), List.drop_of_length_le (by simp), List.nil_append, List.take_left]
 rw [hrows, Option.map_some, Int.toNat_natCast, Int.toNat_natCast];congr 1;unfold endRows;rw [if_neg, cut_flat hr];rintro ⟨hpos, hno⟩;have := flat_cut hr (rs.length - 1) (by omega);rw [hlast _ (List.mem_of_getElem? this)] at hno;cases hno
structure Pr where
 id : Int
 x : Int
def Pr.ok (p : Pr) : Prop := 0 ≤ p.id ∧ p.id < 65536 ∧ 0 ≤ p.x ∧ p.x < 65536
def RiseTo (l : List Pr) (n : Int) : Prop := (∀ (i j : Nat) p q, i < j → l[i]? = some p → l[j]? = some q → p.id < q.id) ∧ ∀ p, p ∈ l → p.id < n
def Pr.pt (p : Pr) : Pt := ⟨p.id, p.id, [p.x]⟩
theorem rise_tail {p : Pr} {l : List Pr} {n : Int} (h : RiseTo (p :: l) n) : RiseTo l n ∧ ∀ q, q ∈ l → p.id < q.id := by
 refine ⟨⟨fun i j a b hij ha hb => h.1 (i + 1) (j + 1) a b (by omega) (by simpa using ha) (by simpa using hb), fun q hq => h.2 q (by simp [hq])⟩, fun q hq => ?_⟩;obtain ⟨j, hj⟩ := List.getElem?_of_mem hq;exact h.1 0 (j + 1) p q (by omega) (by simp) (by simpa using hj)
theorem rise_pts : ∀ {l : List Pr} {n : Int}, RiseTo l n → risesS (l.map Pr.pt) = true
 | [], _, _ => rfl
 | [_], _, _ => rfl
 | p :: q :: l, n, h => by
  have h1 := rise_tail h;have ih := rise_pts h1.1;simp only [List.map_cons] at ih ⊢;rw [risesS, ih, Bool.and_true, decide_eq_true_eq];exact h1.2 q (by simp)
def wantS (l : List Pr) (id : Int) : Option Int := (l.find? fun p => decide (p.id = id)).map Pr.x
theorem get_pts {id : Int} : ∀ {l : List Pr} {n : Int}, RiseTo l n → getS (l.map Pr.pt) id = wantS l id
 | [], _, _ => rfl
 | p :: l, n, h => by
  have h1 := rise_tail h;have ih := get_pts (id := id) h1.1;unfold getS wantS at ih ⊢;rw [List.map_cons, List.find?_cons, List.find?_cons];by_cases hl : id ≤ p.id
  ·rw [show decide (id ≤ (Pr.pt p).last) = true from decide_eq_true hl];dsimp only;rw [Option.bind_some];by_cases he : p.id = id
   ·rw [decide_eq_true he];dsimp only;rw [if_pos (by unfold Pr.pt; dsimp only; omega)];unfold Pt.num Pr.pt;simp;rw [show (min (id - p.id) 0).toNat = 0 by omega];rfl
   ·rw [decide_eq_false he, if_neg (by unfold Pr.pt; dsimp only; omega)];dsimp only;have : l.find? (fun p => decide (p.id = id)) = none := by
     rw [List.find?_eq_none];intro q hq;have := h1.2 q hq;simp; omega
    rw [this]; rfl
  ·rw [show decide (id ≤ (Pr.pt p).last) = false from decide_eq_false hl, decide_eq_false (by omega)];exact ih
theorem pts_ok {l : List Pr} (h : ∀ p, p ∈ l → p.ok) : ∀ p, p ∈ l.map Pr.pt → p.ok := fun p hp => by
 obtain ⟨q, hq, rfl⟩ := List.mem_map.1 hp;obtain ⟨h1, h2, h3, h4⟩ := h q hq;refine ⟨h1, Int.le_refl _, h2, by simp [Pr.pt], by simp [Pr.pt], fun x hx => ?_⟩;simp [Pr.pt] at hx;subst hx;omega
theorem mapO_some {α β : Type} {f : α → Option β} : ∀ {l : List α} {r : List β}, l.length = r.length → (∀ (i : Nat) x y, l[i]? = some x → r[i]? = some y → f x = some y) → mapO f l = some r
 | [], [], _, _ => rfl
 | [], _ :: _, h, _ => by simp at h
 | _ :: _, [], h, _ => by simp at h
 | x :: l, y :: r, h, hf => by
  have h1 := hf 0 x y (by simp) (by simp);have h2 := mapO_some (f := f) (l := l) (r := r) (by simpa using h) fun i a b ha hb => hf (i + 1) a b (by simpa using ha) (by simpa using hb);simp [mapO, h1, h2]
def twoRow (p : Pr) : List Int := bytesOf p.id 2 ++ (bytesOf p.id 2 ++ (bytesOf p.x 2 ++ []))
def sixRow (z : Nat) (p : Pr) : List Int := bytesOf p.id 2 ++ (bytesOf p.x z ++ [])
def fourRow (p : Pr) (a : Int) : List Int := bytesOf p.id 2 ++ (bytesOf p.id 2 ++ (bytesOf a 2 ++ []))
def fourRows (a : Int) : List Pr → List (List Int)
 | [] => []
 | p :: l => fourRow p a :: fourRows (a + 2) l
theorem fourRows_len : ∀ (l : List Pr) (a : Int), (fourRows a l).length = l.length
 | [], _ => rfl
 | p :: l, a => by simp [fourRows, fourRows_len l]
theorem fourRows_get : ∀ (l : List Pr) (a : Int) (i : Nat) (p : Pr), l[i]? = some p → (fourRows a l)[i]? = some (fourRow p (a + 2 * i))
 | [], _, i, p, h => by simp at h
 | q :: l, a, 0, p, h => by simp at h; subst h; simp [fourRows]
 | q :: l, a, i + 1, p, h => by
  rw [fourRows, List.getElem?_cons_succ, fourRows_get l (a + 2) i p (by simpa using h)];congr 2; omega
def valS (l : List Pr) : List Int := (l.map fun p => bytesOf p.x 2).flatten
def twoS (l : List Pr) : List Int := headS 2 6 l.length ++ ((l.map twoRow).flatten ++ [])
def sixS (z : Nat) (l : List Pr) : List Int := headS 6 (2 + z) l.length ++ ((l.map (sixRow z)).flatten ++ [])
def fourS (l : List Pr) : List Int := headS 4 6 l.length ++ ((fourRows (12 + 6 * l.length) l).flatten ++ valS l)
def eightS (l : List Pr) : List Int := match l with
 | [p] => bytesOf 8 2 ++ (bytesOf p.id 2 ++ (bytesOf 1 2 ++ (bytesOf p.x 2 ++ [])))
 | _ => bytesOf 8 2 ++ (bytesOf 0 2 ++ (bytesOf 0 2 ++ []))
theorem look_of {b : List Int} {g z fmt : Int} {ps : List Pt} (h1 : uS b 0 2 = some fmt) (h2 : partsS b g z fmt = some ps) (h3 : risesS ps = true) : lookS b g z = some (fmt, ps) := by
 unfold lookS;rw [h1, Option.bind_some, h2, Option.bind_some, if_pos h3]
theorem two_look {l : List Pr} (hok : ∀ p, p ∈ l → p.ok) (hr : RiseTo l 65535) (hl : l.length < 65536) (g : Int) : lookS (twoS l) g 2 = some (2, l.map Pr.pt) := by
 refine look_of (head_fmt _ _ _ _ (by omega)) ?_ (rise_pts hr);unfold partsS;rw [if_neg (by decide), if_pos rfl];unfold segS;have := takeS_rows 2 6 2 6 (l.map twoRow) [] (fun r hr => by obtain ⟨p, _, rfl⟩ := List.mem_map.1 hr; simp [twoRow]) (by omega) (by simpa using hl) (by omega) (fun r h => by
  obtain ⟨p, hp, rfl⟩ := List.mem_map.1 h;have hp1 := hok p hp;have hp2 := hr.2 p hp;exact noneS_first (uS_at [] _ 0 2 rfl rfl hp1.1 (by simpa using hp1.2.1)) (by omega) (by omega))
 simp only [List.length_map] at this;have e : (if (false : Bool) = true then (6 : Int) else 4 + 2) = 6 := rfl;rw [e];unfold twoS;rw [show ((6 : Nat) : Int) = 6 from rfl] at this;rw [this, Option.bind_some];refine mapO_some (by simp) fun i x y hx hy => ?_;rw [List.getElem?_map] at hx hy;obtain ⟨p, hp, rfl⟩ := Option.map_eq_some_iff.1 hx;rw [hp] at hy;simp at hy;subst hy;obtain ⟨h1, h2, h3, h4⟩ := hok p (List.mem_of_getElem? hp);have e0 := uS_at [] (bytesOf p.id 2 ++ (bytesOf p.x 2 ++ [])) (n := p.id) (k := 2) 0 2 rfl rfl h1 (by simpa using h2);have e2 := uS_at (bytesOf p.id 2) (bytesOf p.x 2 ++ []) (n := p.id) (k := 2) 2 2 (by simp) rfl h1 (by simpa using h2);have e4 := uS_at (bytesOf p.id 2 ++ bytesOf p.id 2) [] (n := p.x) (k := 2) 4 2 (by simp) rfl h3 (by simpa using h4);rw [List.append_assoc] at e4;rw [List.nil_append] at e0;unfold segP twoRow;rw [e2, e0, e4];simp [Pr.pt]
theorem six_look {l : List Pr} (z : Nat) (hz : z = 2 ∨ z = 4) (hok : ∀ p, p ∈ l → p.ok) (hr : RiseTo l 65535) (hl : l.length < 65536) (g : Int) : lookS (sixS z l) g z = some (6, l.map Pr.pt) := by
 refine look_of (head_fmt _ _ _ _ (by omega)) ?_ (rise_pts hr);unfold partsS;rw [if_neg (by decide), if_neg (by decide), if_neg (by decide), if_pos rfl];unfold oneS;have hpow : (65536 : Int) ≤ 256 ^ z := by rcases hz with rfl | rfl <;> decide
 have := takeS_rows 6 (2 + z) 1 (2 + z) (l.map (sixRow z)) [] (fun r hr => by obtain ⟨p, _, rfl⟩ := List.mem_map.1 hr; simp [sixRow]) (by omega) (by simpa using hl) (by omega) (fun r h => by
  obtain ⟨p, hp, rfl⟩ := List.mem_map.1 h;have hp1 := hok p hp;have hp2 := hr.2 p hp;exact noneS_first (uS_at [] _ 0 2 rfl rfl hp1.1 (by simpa using hp1.2.1)) (by omega) (by omega))
 simp only [List.length_map] at this;unfold sixS;rw [show (((2 + z : Nat)) : Int) = 2 + z by omega] at this;rw [this, Option.bind_some];refine mapO_some (by simp) fun i x y hx hy => ?_;rw [List.getElem?_map] at hx hy;obtain ⟨p, hp, rfl⟩ := Option.map_eq_some_iff.1 hx;rw [hp] at hy;simp at hy;subst hy;obtain ⟨h1, h2, h3, h4⟩ := hok p (List.mem_of_getElem? hp);have e0 := uS_at [] (bytesOf p.x z ++ []) (n := p.id) (k := 2) 0 2 rfl rfl h1 (by simpa using h2);have e2 := uS_at (bytesOf p.id 2) [] (n := p.x) (k := z) 2 z (by simp) rfl h3 (by omega);rw [List.nil_append] at e0;unfold oneP sixRow;rw [e2, e0];simp [Pr.pt]
theorem val_at : ∀ (l : List Pr) (i : Nat) (p : Pr), l[i]? = some p → ∃ u v, valS l = u ++ (bytesOf p.x 2 ++ v) ∧ u.length = 2 * i
 | [], i, p, h => by simp at h
 | q :: l, 0, p, h => by simp at h; subst h; exact ⟨[], valS l, by simp [valS], rfl⟩
 | q :: l, i + 1, p, h => by
  obtain ⟨u, v, h1, h2⟩ := val_at l i p (by simpa using h);refine ⟨bytesOf q.x 2 ++ u, v, ?_, by simp [h2]; omega⟩;rw [List.append_assoc, ← h1]; simp [valS]
theorem listS_one {b : List Int} {i z x : Int} (hz : 0 < z) (h : uS b i z = some x) : listS b i 1 z = some [x] := by
 unfold uS at h;obtain ⟨r, hr, hx⟩ := Option.map_eq_some_iff.1 h;have hp := pieceS_iff.1 hr;have : rowsS b i 1 z = some r := by
  rw [rowsS_iff hz];exact ⟨⟨hp.1.1, by omega, hp.1.2.2.1, by omega⟩, by rw [Int.one_mul]; exact hp.2⟩
 unfold listS;rw [this, Option.map_some];have hrl := pieceS_len hr;congr 1;show (cutRows r z.toNat 1).map num = [x]
 rw [show cutRows r z.toNat 1 = [(r.drop (z.toNat * 0)).take z.toNat] from rfl, Nat.mul_zero, List.drop_zero, List.take_of_length_le (by omega), List.map_cons, List.map_nil, hx]
theorem four_look {l : List Pr} (hok : ∀ p, p ∈ l → p.ok) (hr : RiseTo l 65535) (hl : l.length ≤ 1000) (g : Int) : lookS (fourS l) g 2 = some (4, l.map Pr.pt) := by
 refine look_of (head_fmt _ _ _ _ (by omega)) ?_ (rise_pts hr);unfold partsS;rw [if_neg (by decide), if_neg (by decide), if_pos rfl];unfold segS;have hmem : ∀ r, r ∈ fourRows (12 + 6 * (l.length : Int)) l → ∃ (i : Nat) (p : Pr), l[i]? = some p ∧ r = fourRow p (12 + 6 * (l.length : Int) + 2 * i) := fun r hr => by
  obtain ⟨i, hi⟩ := List.getElem?_of_mem hr;have hlt := (List.getElem?_eq_some_iff.1 hi).1;rw [fourRows_len] at hlt;refine ⟨i, l[i], List.getElem?_eq_getElem hlt, ?_⟩;rw [fourRows_get l _ i _ (List.getElem?_eq_getElem hlt)] at hi;injection hi with hi;exact hi.symm
 have hlen : ∀ r, r ∈ fourRows (12 + 6 * (l.length : Int)) l → r.length = 6 := fun r hr => by
  obtain ⟨i, p, _, rfl⟩ := hmem r hr;simp [fourRow]
 have := takeS_rows 4 6 2 6 (fourRows (12 + 6 * (l.length : Int)) l) (valS l) hlen (by omega) (by rw [fourRows_len]; omega) (by omega) (fun r h => by
  obtain ⟨i, p, hp, rfl⟩ := hmem r h;have hp := List.mem_of_getElem? hp;have hp1 := hok p hp;have hp2 := hr.2 p hp;exact noneS_first (uS_at [] _ 0 2 rfl rfl hp1.1 (by simpa using hp1.2.1)) (by omega) (by omega))
 rw [fourRows_len] at this;rw [show (if (true : Bool) = true then (6 : Int) else 4 + 2) = 6 from rfl];unfold fourS;rw [show ((6 : Nat) : Int) = 6 from rfl] at this;rw [this, Option.bind_some];refine mapO_some (by rw [fourRows_len, List.length_map]) fun i x y hx hy => ?_;rw [List.getElem?_map] at hy;obtain ⟨p, hp, rfl⟩ := Option.map_eq_some_iff.1 hy;rw [fourRows_get l _ i p hp] at hx;injection hx with hx;subst hx;have hil := (List.getElem?_eq_some_iff.1 hp).1;obtain ⟨h1, h2, h3, h4⟩ := hok p (List.mem_of_getElem? hp);have e0 := uS_at [] (bytesOf p.id 2 ++ (bytesOf (12 + 6 * (l.length : Int) + 2 * i) 2 ++ [])) (n := p.id) (k := 2) 0 2 rfl rfl h1 (by simpa using h2);have e2 := uS_at (bytesOf p.id 2) (bytesOf (12 + 6 * (l.length : Int) + 2 * i) 2 ++ []) (n := p.id) (k := 2) 2 2 (by simp) rfl h1 (by simpa using h2);have e4 := uS_at (bytesOf p.id 2 ++ bytesOf p.id 2) [] (n := 12 + 6 * (l.length : Int) + 2 * i) (k := 2) 4 2 (by simp) rfl (by omega) (by simp; omega);rw [List.append_assoc] at e4;rw [List.nil_append] at e0;obtain ⟨u, v, hv, hu⟩ := val_at l i p hp;have hfl := flat_len hlen;rw [fourRows_len] at hfl;have ev : listS (headS 4 6 l.length ++ ((fourRows (12 + 6 * (l.length : Int)) l).flatten ++ valS l)) (12 + 6 * (l.length : Int) + 2 * i) 1 2 = some [p.x] := by
  refine listS_one (by decide) ?_;have := uS_at (headS 4 6 l.length ++ ((fourRows (12 + 6 * (l.length : Int)) l).flatten ++ u)) v (n := p.x) (k := 2) (12 + 6 * (l.length : Int) + 2 * i) 2 (by simp [hfl, hu]; omega) rfl h3 (by simpa using h4);rw [hv];simpa [List.append_assoc] using this
 unfold segP fourRow;rw [e2, e0, e4];simp only [Option.bind_some, Int.le_refl, if_true];rw [show p.id - p.id + 1 = 1 by omega, ev];rfl
theorem eight_look {l : List Pr} (hok : ∀ p, p ∈ l → p.ok) (hl : l.length ≤ 1) (g : Int) : lookS (eightS l) g 2 = some (8, l.map Pr.pt) := by
 match l, hl with
 | [], _ => rfl
 | [p], _ =>
  obtain ⟨h1, h2, h3, h4⟩ := hok p (by simp);have e0 := uS_at [] (bytesOf p.id 2 ++ (bytesOf 1 2 ++ (bytesOf p.x 2 ++ []))) (n := 8) (k := 2) 0 2 rfl rfl (by decide) (by decide);have e2 := uS_at (bytesOf 8 2) (bytesOf 1 2 ++ (bytesOf p.x 2 ++ [])) (n := p.id) (k := 2) 2 2 (by simp) rfl h1 (by simpa using h2);have e4 := uS_at (bytesOf 8 2 ++ bytesOf p.id 2) (bytesOf p.x 2 ++ []) (n := 1) (k := 2) (2 + 2) 2 (by simp) rfl (by decide) (by decide);have e6 := uS_at (bytesOf 8 2 ++ (bytesOf p.id 2 ++ bytesOf 1 2)) [] (n := p.x) (k := 2) (2 + 4) 2 (by simp) rfl h3 (by simpa using h4);simp only [List.append_assoc] at e4 e6;rw [List.nil_append] at e0;refine look_of e0 ?_ rfl;unfold partsS;rw [if_neg (by decide), if_neg (by decide), if_neg (by decide), if_neg (by decide), if_pos rfl];unfold trimS eightS;dsimp only;rw [e2, e4, Option.bind_some, Option.bind_some, if_pos (by omega), listS_one (by decide) e6];simp [Pr.pt]
end Go.Sw
end
section
set_option maxRecDepth 100000
set_option linter.unusedVariables false
namespace Go.Sw
noncomputable section
def swashref02_Put_l1 (k : Nat) (call : Caller) : Env → Heap → Res (AExit × Env) := loopB (C k) call F.swashref02_Put [1, 0, 1, 0, 0]
def swashref02_Put_l1k (k : Nat) (call : Caller) : Kont Value := kBlock 0 (kSeq (pieceK (C k) call F.swashref02_Put [1, 1]) (kDone Prog (resOf Prog F.swashref02_Put)))
def swashref02_Put_l2 (k : Nat) (call : Caller) : Env → Heap → Res (AExit × Env) := loopB (C k) call F.swashref02_Put [1, 0, 1, 0, 0, 1, 0, 0, 1, 0, 1, 0, 0]
def swashref02_Put_l2k (k : Nat) (call : Caller) : Kont (AExit × Env) := kBlock 2 (kSeq (pieceK (C k) call F.swashref02_Put [1, 0, 1, 0, 0, 1, 0, 0, 1, 1]) (kBlock 1 (kSeq (pieceK (C k) call F.swashref02_Put [1, 0, 1, 0, 0, 1, 1]) (kRound (ownOf (C k) F.swashref02_Put [1, 0, 1, 0, 0])))))
def swashref02_Put (k : Nat) (call : Caller) (a0 a1 a2 : Value) (h : Heap) : Res Value :=
 (binR Prog .sub 3 a2 (.int .i64 1) h).bind fun v1 h2 =>
 (loopN (swashref02_Put_l1 k call) loopFuel [(0, a0), (1, a1), (7, v1)] h2).bind fun r3 h4 =>
 swashref02_Put_l1k k call r3.1 r3.2 h4
theorem swashref02_Put_R (k : Nat) (a0 a1 a2 : Value) (h : Heap) : R (T k) F.swashref02_Put [a0, a1, a2] h = nrm .no h (swashref02_Put k (R (T k)) a0 a1 a2 h) :=
 (R_body (t := T k) (T_scott k) (by kernel_rfl) (by kernel_rfl) _ _).trans (by kernel_rfl)
theorem swashref02_Put_l1_eq (k : Nat) (call : Caller) (a0 a1 a7 : Value) (h : Heap) : swashref02_Put_l1 k call [(0, a0), (1, a1), (7, a7)] h =
 (binR Prog .geq 3 a7 (.int .i64 0) h).bind fun v5 h6 =>
 condV (some v5) (
 (loopN (swashref02_Put_l2 k call) loopFuel [(0, a0), (1, a1), (7, a7), (8, a1), (9, (.int .i64 0))] h6).bind fun r7 h8 =>
 swashref02_Put_l2k k call r7.1 r7.2 h8)
 (
 .ok ((.exit 0), [(0, a0), (1, a1), (7, a7), (13, v5)]) h6) :=
 (loopB_eq _ _).trans (by kernel_rfl)
theorem swashref02_Put_l2_eq (k : Nat) (call : Caller) (a0 a1 a7 a8 a9 : Value) (h : Heap) : swashref02_Put_l2 k call [(0, a0), (1, a1), (7, a7), (8, a8), (9, a9)] h =
 (binR Prog .lss 3 a9 a7 h).bind fun v9 h10 =>
 condV (some v9) (
 (binR Prog .quo 3 a8 (.int .i64 256) h10).bind fun v11 h12 =>
 (binR Prog .add 3 a9 (.int .i64 1) h12).bind fun v13 h14 =>
 .ok (.normal, [(0, a0), (1, a1), (7, a7), (8, v11), (9, v13)]) h14)
 (
 .ok ((.exit 2), [(0, a0), (1, a1), (7, a7), (8, a8), (9, a9), (19, v9)]) h10) :=
 (loopB_eq _ _).trans (by kernel_rfl)
theorem swashref02_Put_l1k_x0 (k : Nat) (call : Caller) (a0 a1 a7 a13 : Value) (h : Heap) : swashref02_Put_l1k k call (.exit 0) [(0, a0), (1, a1), (7, a7), (13, a13)] h =
 .ok a0 h := by kernel_rfl
theorem swashref02_Put_l2k_x2 (k : Nat) (call : Caller) (a0 a1 a7 a8 a9 a19 : Value) (h : Heap) : swashref02_Put_l2k k call (.exit 2) [(0, a0), (1, a1), (7, a7), (8, a8), (9, a9), (19, a19)] h =
 (binR Prog .rem 3 a8 (.int .i64 256) h).bind fun v15 h16 =>
 (convR Prog 3 5 v15 h16).bind fun v17 h18 =>
 (buildSliceR Prog 31 1 [(0, v17)] h18).bind fun v19 h20 =>
 (builtinV Prog .append [31, 31] [a0, v19] h20).bind fun v21 h22 =>
 (binR Prog .sub 3 a7 (.int .i64 1) h22).bind fun v23 h24 =>
 .ok (.normal, [(0, v21), (1, a1), (7, v23)]) h24 := by kernel_rfl
end
end Go.Sw
end
section
namespace Go.Sw
open Go.RowKit
theorem Put_in (k : Nat) (s : Value) (n : Int) (i : Nat) (h0 : 0 ≤ n) (hn : n < 2 ^ 62) (hi : i < 2 ^ 62) (H : Heap) :
  loopN (swashref02_Put_l2 k (R (T k))) loopFuel [(0, s), (1, .int .i64 n), (7, .int .i64 i), (8, .int .i64 n), (9, .int .i64 0)] H = .ok (.exit 2, [(0, s), (1, .int .i64 n), (7, .int .i64 i), (8, .int .i64 (n / 256 ^ i)), (9, .int .i64 i), (19, .bool false)]) H := by
 obtain ⟨x, e', H1, hr, rfl, rfl, rfl⟩ := loop_up (body := swashref02_Put_l2 k (R (T k))) i
  (fun j e H' => H' = H ∧ e = [(0, s), (1, .int .i64 n), (7, .int .i64 i), (8, .int .i64 (n / 256 ^ j)), (9, .int .i64 j)])
  (fun x e H' => H' = H ∧ x = .exit 2 ∧ e = [(0, s), (1, .int .i64 n), (7, .int .i64 i), (8, .int .i64 (n / 256 ^ i)), (9, .int .i64 i), (19, .bool false)])
  (e0 := [(0, s), (1, .int .i64 n), (7, .int .i64 i), (8, .int .i64 n), (9, .int .i64 0)]) (H0 := H) ⟨rfl, by simp⟩ (by omega)
  (fun j e H' hj ⟨hH, he⟩ => by
   subst he hH;have hlt : (j : Int) < i := by omega
   have q0 : 0 ≤ n / 256 ^ j := Int.ediv_nonneg h0 (Int.pow_nonneg (by decide));have q1 : n / 256 ^ j ≤ n := Int.ediv_le_self _ h0;have hq : (n / 256 ^ j).tdiv 256 = n / 256 ^ (j + 1) := by
    rw [Int.tdiv_eq_ediv_of_nonneg q0, Int.pow_succ, Int.ediv_ediv_of_nonneg (Int.pow_nonneg (by decide))]
   have q := fun H => bin_quo Prog 3 H .i64 (n / 256 ^ j) 256 (by decide);rw [hq] at q;have q2 : 0 ≤ n / 256 ^ (j + 1) := Int.ediv_nonneg h0 (Int.pow_nonneg (by decide));have q3 : n / 256 ^ (j + 1) ≤ n := Int.ediv_le_self _ h0;generalize n / 256 ^ (j + 1) = m at q q2 q3 ⊢;generalize n / 256 ^ j = m0 at q ⊢;refine .inl ⟨_, H', ?_, rfl, rfl⟩;rw [swashref02_Put_l2_eq];simp -implicitDefEqProofs (disch := omega) [hlt, q])
  (fun e H' ⟨hH, he⟩ => by
   subst he hH;refine ⟨.exit 2, _, H', ?_, by simp, rfl, rfl, rfl⟩;rw [swashref02_Put_l2_eq];simp -implicitDefEqProofs (disch := omega))
 exact hr
theorem Put_star (k : Nat) {H0 H : Heap} {L : List It} (h : Star H0 H L) (i : Nat) {o : Option Nat} {s : Value} {b : List Int} (hi : L[i]? = some (itRow o 1 s encB b)) (n zi : Int) (z : Nat) (hzi : zi = z) (h0 : 0 ≤ n) (hn : n < 2 ^ 62) (hz : z ≤ 8) (hl : b.length < 2 ^ 30) :
  ∃ s' o' H', R (T k) F.swashref02_Put [s, .int .i64 n, .int .i64 zi] H = .ok s' H' ∧ Star H0 H' (L.set i (itRow o' 1 s' encB (b ++ bytesOf n z))) := by
 subst hzi;rw [swashref02_Put_R];have hlt : i < L.length := (List.getElem?_eq_some_iff.1 hi).1;have hself : L.set i (itRow o 1 s encB b) = L := by
  obtain ⟨hlt, hx⟩ := List.getElem?_eq_some_iff.1 hi;rw [← hx, List.set_getElem_self]
 obtain ⟨x, e', H1, hr, s', o', rfl, ⟨a, c, rfl⟩, ho⟩ := loopDec (body := swashref02_Put_l1 k (R (T k)))
  (fun m e H' => ∃ s o acc, e = [(0, s), (1, .int .i64 n), (7, .int .i64 ((m : Int) - 1))] ∧ Star H0 H' (L.set i (itRow o 1 s encB acc)) ∧ acc ++ bytesOf n m = b ++ bytesOf n z ∧ m ≤ z)
  (fun x e H' => ∃ s' o', x = .exit 0 ∧ (∃ a c, e = [(0, s'), (1, .int .i64 n), (7, a), (13, c)]) ∧ Star H0 H' (L.set i (itRow o' 1 s' encB (b ++ bytesOf n z))))
  (e0 := [(0, s), (1, .int .i64 n), (7, .int .i64 ((z : Int) - 1))]) (H0 := H) z ⟨s, o, b, rfl, by rw [hself]; exact h, rfl, Nat.le_refl _⟩ (by omega)
  (fun m e H' ⟨s, o, acc, he, ho, ha, hmz⟩ => by
   subst he;cases m with
   | zero =>
    refine .inr ⟨.exit 0, _, H', ?_, by simp, s, o, rfl, ⟨.int .i64 ((0 : Nat) - 1), .bool false, rfl⟩, by simpa [bytesOf] using (by simpa [bytesOf] using ha) ▸ ho⟩;rw [swashref02_Put_l1_eq];simp -implicitDefEqProofs
   | succ m =>
    have hin := Put_in k s n m h0 hn (by omega) H';have q0 : 0 ≤ n / 256 ^ m := Int.ediv_nonneg h0 (Int.pow_nonneg (by decide));have hacc : acc.length < 2 ^ 31 := by
     have := congrArg List.length ha;simp [bytesOf_len] at this;omega
    obtain ⟨s2, o2, H2, e1, o1⟩ := ho.append1 (bytes := 1) i encB_len (List.getElem?_set_self hlt) ((n / 256 ^ m) % 256) hacc (by decide);rw [List.set_set] at o1;have hrem := fun H => bin_rem Prog 3 H .i64 (n / 256 ^ m) 256 (by decide);rw [Int.tmod_eq_emod_of_nonneg q0] at hrem;have hb : 0 ≤ (n / 256 ^ m) % 256 ∧ (n / 256 ^ m) % 256 < 256 := by omega
    refine .inl ⟨m, _, H2, ?_, by omega, s2, o2, acc ++ [(n / 256 ^ m) % 256], rfl, o1, by rw [List.append_assoc]; exact ha, by omega⟩;rw [swashref02_Put_l1_eq];have hge : (m : Int) ≥ 0 := by omega
    rw [show (((m + 1 : Nat) : Int) - 1) = (m : Int) by omega];generalize (n / 256 ^ m) % 256 = y at e1 hrem hb;simp -implicitDefEqProofs (disch := omega) [hge, hin, swashref02_Put_l2k_x2, hrem, e1])
 refine ⟨s', o', H1, ?_, ho⟩;simp -implicitDefEqProofs (disch := omega) [swashref02_Put, hr, swashref02_Put_l1k_x0, nrm_no]
end Go.Sw
end
section
namespace Go.Sw
open Go.RowKit
structure En where
 next : Int
 flags : Int
 a : Int
 b : Int
structure Mach where
 classes : Int
 tab : Int × List Pt
 rows : List (List Int)
 ents : List En
structure Mach.ok (m : Mach) : Prop where
 cl : 4 ≤ m.classes ∧ m.classes ≤ 65535
 pts : ∀ p, p ∈ m.tab.2 → p.ok
 rise : risesS m.tab.2 = true
 plen : m.tab.2.length < 2 ^ 31
 two : 2 ≤ m.rows.length ∧ m.rows.length ≤ 65536
 row : ∀ r, r ∈ m.rows → (r.length : Int) = m.classes ∧ ∀ x, x ∈ r → 0 ≤ x ∧ x < m.ents.length
 ent : ∀ e, e ∈ m.ents → 0 ≤ e.next ∧ e.next < m.rows.length ∧ 0 ≤ e.flags ∧ e.flags < 65536 ∧ 0 ≤ e.a ∧ e.a < 65536 ∧ 0 ≤ e.b ∧ e.b < 65536
 elen : m.ents.length ≤ 65536
end Go.Sw
end
