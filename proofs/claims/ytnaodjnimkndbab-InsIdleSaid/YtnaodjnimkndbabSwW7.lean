/-
  Functions' forms, and what is proved of them, part 7.
-/
import Derived.Test.YtnaodjnimkndbabSwW5
import Derived.Test.YtnaodjnimkndbabSwW6
import Derived.Test.YtnaodjnimkndbabSwCfg
set_option linter.unusedSimpArgs false
set_option linter.unusedVariables false
set_option linter.unusedSectionVars false
section
namespace Go.Sw
open Go.RowKit
theorem ζ35 {b rv : List Int} {j : Int} : restS b j = some rv ↔ (0 ≤ j ∧ j ≤ b.length) ∧ rv = b.drop j.toNat := by
 unfold restS;split
 ·rename_i h;exact ⟨fun e => by injection e with e; exact ⟨h, e.symm⟩, fun e => by rw [e.2]⟩
 ·rename_i h;exact ⟨fun e => (by cases e), fun e => absurd e.1 h⟩
theorem ζ8q {b rv : List Int} {j : Int} (h : restS b j = some rv) : (rv.length : Int) = b.length - j := by
 obtain ⟨h1, rfl⟩ := ζ35.1 h;simp;omega
theorem uS_rest {b rv : List Int} {j : Int} (h : restS b j = some rv) {x : Int} (hx : 0 ≤ x) (z : Int) : uS rv x z = uS b (j + x) z := by
 have hl := ζ8q h;obtain ⟨h1, rfl⟩ := ζ35.1 h;unfold uS pieceS;by_cases hc : 0 ≤ z ∧ x ≤ b.length - j ∧ z ≤ b.length - j - x
 ·rw [if_pos (by omega), if_pos (by omega), List.drop_drop, show j.toNat + x.toNat = (j + x).toNat by omega]
 ·rw [if_neg (by omega), if_neg (by omega)]
def needsS (b : List Int) (i step : Int) (n : Nat) : Int := needL ((List.range n).map fun j => gU b (i + (j : Nat) * step) 2)
theorem rowK_iff {rv : List Int} {n : Int} (hn : 0 < n) {k : Nat} : (rowK rv n k).isSome = true ↔ 2 * n * (k + 1) ≤ rv.length := by
 unfold rowK;rw [ζ6p (by omega), ζ8r (by omega)];have h0 : 0 ≤ 2 * n * (k : Int) := Int.mul_nonneg (by omega) (by omega);have h1 : 2 * n * ((k : Int) + 1) = 2 * n * k + 2 * n := by rw [Int.mul_add]; omega
 constructor
 ·rintro ⟨_, _, _, h⟩; omega
 ·intro h; exact ⟨h0, by omega, by omega, by omega⟩
theorem row_at {b rv : List Int} {j : Int} (h : restS b j = some rv) {n : Int} {k : Nat} {r : List Int} (hn : 0 < n) (hr : rowK rv n k = some r) : r = (List.range n.toNat).map fun i => gU b (j + (n * k + (i : Nat)) * 2) 2 := by
 have hs := (rowK_iff (rv := rv) (k := k) hn).1 (by rw [hr]; rfl);have hr' := hr;unfold rowK listS at hr';obtain ⟨q, hq, hqr⟩ := Option.map_eq_some_iff.1 hr';have hlen : r.length = n.toNat := by rw [← hqr]; simp
 have hk0 : 0 ≤ n * (k : Int) := Int.mul_nonneg (by omega) (by omega);apply List.ext_getElem?;intro i;by_cases hi : i < n.toNat
 ·rw [ζkq (by omega) hr i (by omega), List.getElem?_map, List.getElem?_range hi, uS_rest h (by rw [Int.mul_assoc]; omega)];have e : j + (2 * n * (k : Int) + (i : Int) * 2) = j + (n * k + (i : Nat)) * 2 := by rw [Int.mul_assoc, Int.add_mul]; omega
  rw [e];have hlen := ζ8q h;have hj := (ζ35.1 h).1;have h1 : 2 * n * ((k : Int) + 1) = 2 * (n * k) + 2 * n := by rw [Int.mul_add, Int.mul_assoc]; omega
  obtain ⟨x, hx⟩ : ∃ x, uS b (j + (n * k + (i : Nat)) * 2) 2 = some x := uS_of_in (by unfold inS; exact decide_eq_true (by rw [Int.add_mul]; omega));rw [hx, Option.map_some, gU_some hx]
 ·rw [List.getElem?_eq_none (by omega), List.getElem?_eq_none (by simp; omega)]
theorem ζfz {b rv : List Int} {j : Int} (h : restS b j = some rv) {n : Int} (hn : 0 < n) : ∀ {s : Nat} {rs : List (List Int)}, rowsTo rv n s = some rs → rs.flatten = (List.range (s * n.toNat)).map fun (i : Nat) => gU b (j + (i : Int) * 2) 2
 | 0, rs, hr => by injection hr with hr; subst hr; simp
 | s + 1, rs, hr => by
  unfold rowsTo at hr;rw [ζ82] at hr;obtain ⟨rs', h1, hr⟩ := Option.bind_eq_some_iff.1 hr;obtain ⟨r, h2, rfl⟩ := Option.map_eq_some_iff.1 hr;rw [List.flatten_append, ζfz h hn h1, Nat.succ_mul, List.range_add, List.map_append];congr 1;simp only [List.flatten_cons, List.flatten_nil, List.append_nil, row_at h hn h2, List.map_map];apply List.map_congr_left;intro i _;simp only [Function.comp];congr 2;have : ((s * n.toNat + i : Nat) : Int) = n * s + i := by
   obtain ⟨m, rfl⟩ := Int.eq_ofNat_of_zero_le (Int.le_of_lt hn);simp [Int.mul_comm]
  rw [this]
theorem ζpj {b rv : List Int} {j : Int} (h : restS b j = some rv) {n : Int} (hn : 0 < n) {s : Nat} {rs : List (List Int)} (hr : rowsTo rv n s = some rs) : needsS b j 2 (s * n.toNat) = needR rs := by
 unfold needsS needR;rw [ζfz h hn hr]
theorem ζpk {b rv : List Int} {j : Int} (h : restS b j = some rv) {n : Int} (hn : 0 < n) {s : Nat} (hs : 0 < s) : (rowsTo rv n s).isSome = rowsB b.length j s (2 * n) := by
 have hl := ζ8q h;have hj := (ζ35.1 h).1;rw [Bool.eq_iff_iff, ζ8r (by omega)];have e : (s : Int) * (2 * n) = 2 * n * s := Int.mul_comm _ _;constructor
 ·intro hsome;obtain ⟨rs, hrs⟩ := Option.isSome_iff_exists.1 hsome;obtain ⟨y, hy, _⟩ := mapO_at hrs (i := s - 1) (by omega);have := (rowK_iff (rv := rv) (k := s - 1) hn).1 (by rw [hy]; rfl);rw [show (((s - 1 : Nat) : Int) + 1) = s by omega] at this;exact ⟨hj.1, by omega, hj.2, by omega⟩
 ·rintro ⟨_, _, _, h4⟩;obtain ⟨r, hr⟩ := ζ9p (f := rowK rv n) (n := s) fun i hi => by
   rw [rowK_iff hn];have : 2 * n * ((i : Int) + 1) ≤ 2 * n * s := Int.mul_le_mul_of_nonneg_left (by omega) (by omega);omega
  exact Option.isSome_iff_exists.2 ⟨r, hr⟩
theorem entK_iff {ev : List Int} {w : Int} (hw : 0 ≤ w) {k : Nat} : (entK ev w k).isSome = true ↔ (4 + 2 * w) * (k + 1) ≤ ev.length := by
 unfold entK;rw [Option.isSome_map, ζd3];unfold inS;rw [decide_eq_true_eq];have h0 : 0 ≤ (4 + 2 * w) * (k : Int) := Int.mul_nonneg (by omega) (by omega);have h1 : (4 + 2 * w) * ((k : Int) + 1) = (4 + 2 * w) * k + (4 + 2 * w) := by rw [Int.mul_add]; omega
 omega
theorem ζop {b ev : List Int} {q : Int} (h : restS b q = some ev) {w : Int} (hw : 0 ≤ w) (s : Nat) : (entsTo ev w s).isSome = rowsB b.length q s (4 + 2 * w) := by
 have hl := ζ8q h;have hj := (ζ35.1 h).1;rw [Bool.eq_iff_iff, ζ8r (by omega)];have e : (s : Int) * (4 + 2 * w) = (4 + 2 * w) * s := Int.mul_comm _ _;constructor
 ·intro hsome;obtain ⟨rs, hrs⟩ := Option.isSome_iff_exists.1 hsome;refine ⟨hj.1, by omega, hj.2, ?_⟩;by_cases h0 : s = 0
  ·subst h0; simp; omega
  ·obtain ⟨y, hy, _⟩ := mapO_at hrs (i := s - 1) (by omega);have := (entK_iff (ev := ev) (k := s - 1) hw).1 (by rw [hy]; rfl);rw [show (((s - 1 : Nat) : Int) + 1) = s by omega] at this;omega
 ·rintro ⟨_, _, _, h4⟩;obtain ⟨r, hr⟩ := ζ9p (f := entK ev w) (n := s) fun i hi => by
   rw [entK_iff hw];have : (4 + 2 * w) * ((i : Int) + 1) ≤ (4 + 2 * w) * s := Int.mul_le_mul_of_nonneg_left (by omega) (by omega);omega
  exact Option.isSome_iff_exists.2 ⟨r, hr⟩
theorem ent_at {b ev : List Int} {q : Int} (h : restS b q = some ev) {w : Int} (hw : 0 ≤ w ∧ w ≤ 2) {k : Nat} {e : En} (he : entK ev w k = some e) :
  e = ⟨gU b (q + (k : Int) * (4 + 2 * w)) 2, gU b (q + (k : Int) * (4 + 2 * w) + 2) 2, if 0 < w then gU b (q + (k : Int) * (4 + 2 * w) + 4) 2 else 0, if 1 < w then gU b (q + (k : Int) * (4 + 2 * w) + 6) 2 else 0⟩ := by
 unfold entK at he;obtain ⟨r, hr, rfl⟩ := Option.map_eq_some_iff.1 he;have h0 : 0 ≤ (4 + 2 * w) * (k : Int) := Int.mul_nonneg (by omega) (by omega);have sub : ∀ x, 0 ≤ x → x + 2 ≤ 4 + 2 * w → gU r x 2 = gU b (q + (k : Int) * (4 + 2 * w) + x) 2 := fun x hx hx2 => by
  unfold gU;rw [uS_sub hr hx (by omega) hx2, uS_rest h (by omega), Int.mul_comm (k : Int), Int.add_assoc]
 have s0 := sub 0 (by omega) (by omega);rw [Int.add_zero] at s0;unfold entOf;rw [s0, sub 2 (by omega) (by omega)];congr 1
 ·by_cases h1 : 0 < w
  ·rw [if_pos h1, if_pos h1, sub 4 (by omega) (by omega)]
  ·rw [if_neg h1, if_neg h1]
 ·by_cases h1 : 1 < w
  ·rw [if_pos h1, if_pos h1, sub 6 (by omega) (by omega)]
  ·rw [if_neg h1, if_neg h1]
theorem ζoo {b ev : List Int} {q : Int} (h : restS b q = some ev) {w : Int} (hw : 0 ≤ w ∧ w ≤ 2) {s : Nat} {es : List En} (hr : entsTo ev w s = some es) : needsS b q (4 + 2 * w) s = needL (es.map En.next) := by
 unfold needsS;congr 1;apply List.ext_getElem?;intro i;have hl := mapO_len hr;rw [List.length_range] at hl;by_cases hi : i < s
 ·obtain ⟨y, h1, h2⟩ := mapO_at hr hi;rw [List.getElem?_map, List.getElem?_map, List.getElem?_range hi, h2, Option.map_some, Option.map_some, ent_at h hw h1]
 ·rw [List.getElem?_eq_none (by simp; omega), List.getElem?_eq_none (by simp; omega)]
theorem ζp9 {rv : List Int} {n : Int} {s t : Nat} (hst : s ≤ t) {rs rt : List (List Int)} (h1 : rowsTo rv n s = some rs) (h2 : rowsTo rv n t = some rt) : needR rs ≤ needR rt := by
 have h3 := ζc6 hst h2;have h4 : mapO (rowK rv n) (List.range s) = some rs := h1;rw [h4] at h3;injection h3 with h3;rw [h3];have := List.take_append_drop s rt;conv => rhs; rw [← this]
 unfold needR;rw [List.flatten_append, ζ57];omega
structure RMach where
 b : List Int
 cl : Int
 rowsAt : Int
 entsAt : Int
 states : Int
 n : Int
 words : Int
 tb : List Int
 parts : List RP
def rmOf (b : List Int) (g w : Int) (m : Mach) : RMach :=
 ⟨b, m.classes, gU b 8 4, gU b 12 4, m.rows.length, m.ents.length, w, b.drop (gU b 4 4).toNat, (refReadS (b.drop (gU b 4 4).toNat) g 2).getD []⟩
def refMachS (b : List Int) (g w : Int) : Option RMach := (machS b g w).map (rmOf b g w)
theorem ζjq {b : List Int} {g w : Int} {m : Mach} (h : machS b g w = some m) : ∃ i j q tb rv ev x, uS b 0 4 = some m.classes ∧ 4 ≤ m.classes ∧ m.classes ≤ 65535 ∧ uS b 4 4 = some i ∧ restS b i = some tb ∧ lookS tb g 2 = some m.tab ∧
  uS b 8 4 = some j ∧ restS b j = some rv ∧ uS b 12 4 = some q ∧ restS b q = some ev ∧ closeA rv ev m.classes w 2 = some x ∧ m.rows = x.1 ∧ m.ents = x.2 := by
 unfold machS at h;obtain ⟨n, h0, h⟩ := Option.bind_eq_some_iff.1 h;split at h;rotate_left
 ·cases h
 rename_i hn;obtain ⟨i, h1, h⟩ := Option.bind_eq_some_iff.1 h;obtain ⟨tb, h2, h⟩ := Option.bind_eq_some_iff.1 h;obtain ⟨tab, h3, h⟩ := Option.bind_eq_some_iff.1 h;obtain ⟨j, h4, h⟩ := Option.bind_eq_some_iff.1 h;obtain ⟨rv, h5, h⟩ := Option.bind_eq_some_iff.1 h;obtain ⟨k, h6, h⟩ := Option.bind_eq_some_iff.1 h;obtain ⟨ev, h7, h⟩ := Option.bind_eq_some_iff.1 h;obtain ⟨x, h8, rfl⟩ := Option.map_eq_some_iff.1 h;exact ⟨i, j, k, tb, rv, ev, x, h0, hn.1, hn.2, h1, h2, h3, h4, h5, h6, h7, h8, rfl, rfl⟩
end Go.Sw
end
section
namespace Go.Sw
open Go.RowKit
theorem twos_get (l : List Int) (pre rest : List Int) (i : Nat) (x : Int) (hx : l[i]? = some x) (hb : 0 ≤ x ∧ x < 65536) (p : Int) (hp : p = pre.length + 2 * i) : uS (pre ++ (twos l ++ rest)) p 2 = some x := by
 obtain ⟨hi, hg⟩ := List.getElem?_eq_some_iff.1 hx;have e : twos l = twos (l.take i) ++ (bytesOf x 2 ++ twos (l.drop (i + 1))) := by
  have : l = l.take i ++ ([x] ++ l.drop (i + 1)) := by
   rw [← hg, List.singleton_append, ← List.drop_eq_getElem_cons hi, List.take_append_drop]
  conv => lhs; rw [this]
  simp [twos]
 rw [e, ← List.append_assoc];have h := uS_at (pre ++ twos (l.take i)) (twos (l.drop (i + 1)) ++ rest) (n := x) (k := 2) p 2 (by rw [List.length_append, twos_len, List.length_take]; omega) rfl hb.1 (by simpa using hb.2);simpa [List.append_assoc] using h
def entM (w : Int) (e : En) : En := ⟨m16 e.next, m16 e.flags, if 0 < w then m16 e.a else 0, if 1 < w then m16 e.b else 0⟩
theorem ζjh {w : Int} (hw : w = 0 ∨ w = 1 ∨ w = 2) (e : En) : (entB w e).length = (4 + 2 * w).toNat := by
 unfold entB;simp only [List.length_append, ζ50];rcases hw with rfl | rfl | rfl <;> simp
theorem ζqc {w : Int} (hw : w = 0 ∨ w = 1 ∨ w = 2) {es : List En} (x : List Int) {i : Nat} {e : En} (he : es[i]? = some e) : entK (entsB w es ++ x) w i = some (entM w e) := by
 obtain ⟨hi, hg⟩ := List.getElem?_eq_some_iff.1 he;have hall : entsB w es = entsB w (es.take i) ++ (entB w e ++ entsB w (es.drop (i + 1))) := by
  have : es = es.take i ++ ([e] ++ es.drop (i + 1)) := by
   rw [← hg, List.singleton_append, ← List.drop_eq_getElem_cons hi, List.take_append_drop]
  conv => lhs; rw [this]
  simp [entsB]
 have hl : (entsB w (es.take i)).length = i * (4 + 2 * w).toNat := by
  unfold entsB;rw [flat_len (z := (4 + 2 * w).toNat) (fun r hr => by obtain ⟨p, _, rfl⟩ := List.mem_map.1 hr; exact ζjh hw p), List.length_map, List.length_take, Nat.min_eq_left (by omega)]
 unfold entK;have hp : pieceS (entsB w es ++ x) ((4 + 2 * w) * i) (4 + 2 * w) = some (entB w e) := by
  rw [hall, List.append_assoc, List.append_assoc];refine ζn2 _ _ _ _ _ ?_ ?_
  ·rw [hl, Int.mul_comm];have : (((4 + 2 * w).toNat : Nat) : Int) = 4 + 2 * w := by omega
   rw [Int.natCast_mul, this]
  ·rw [ζjh hw]; omega
 rw [hp, Option.map_some];congr 1;have b1 := ζ7h e.next;have b2 := ζ7h e.flags;have b3 := ζ7h e.a;have b4 := ζ7h e.b;have at_ : ∀ (p q : List Int) (n i : Int), i = p.length → 0 ≤ n → n < 65536 → gU (p ++ (bytesOf n 2 ++ q)) i 2 = n := fun p q n i hi h0 h1 => gU_some (uS_at p q i 2 hi rfl h0 (by simpa using h1));unfold entOf entM entB;rcases hw with rfl | rfl | rfl
 ·simp;exact ⟨at_ [] _ _ 0 (by simp) b1.1 b1.2, by simpa using at_ (bytesOf (m16 e.next) 2) [] _ 2 (by simp) b2.1 b2.2⟩
 ·simp;exact ⟨at_ [] _ _ 0 (by simp) b1.1 b1.2, at_ (bytesOf (m16 e.next) 2) _ _ 2 (by simp) b2.1 b2.2, by simpa using at_ (bytesOf (m16 e.next) 2 ++ bytesOf (m16 e.flags) 2) [] _ 4 (by simp) b3.1 b3.2⟩
 ·simp
  exact ⟨at_ [] _ _ 0 (by simp) b1.1 b1.2, at_ (bytesOf (m16 e.next) 2) _ _ 2 (by simp) b2.1 b2.2, by simpa [List.append_assoc] using at_ (bytesOf (m16 e.next) 2 ++ bytesOf (m16 e.flags) 2) (bytesOf (m16 e.b) 2) _ 4 (by simp) b3.1 b3.2,
   by simpa [List.append_assoc] using at_ (bytesOf (m16 e.next) 2 ++ (bytesOf (m16 e.flags) 2 ++ bytesOf (m16 e.a) 2)) [] _ 6 (by simp) b4.1 b4.2⟩
def planRoom (p : Plan) (w : Int) (rm : List Int) : List Int :=
 bytesOf (planN p : Int) 4 ++ (bytesOf (16 + rm.length : Int) 4 ++ (bytesOf (16 + rm.length + (ofS p.cls).length : Int) 4 ++ (bytesOf (16 + rm.length + (ofS p.cls).length + (rowsL (planN p) p.rows).length : Int) 4 ++ (rm ++ (ofS p.cls ++ (rowsL (planN p) p.rows ++ entsB w p.ents))))))
theorem ζku (p : Plan) (w : Int) (room : Nat) : planBytes p w room = planRoom p w (List.replicate room 0) := by
 unfold planBytes planRoom;simp [List.append_assoc]
def tabOf (cls : List Int) : Int × List Pt := (8, if cls = [] then [] else [⟨0, (cls.length : Int) - 1, cls⟩])
theorem ζrg (l : List Int) (pre rest : List Int) (hb : ∀ x, x ∈ l → 0 ≤ x ∧ x < 65536) (i : Int) (hi : i = pre.length) : listS (pre ++ (twos l ++ rest)) i l.length 2 = some l := by
 have hs : (listS (pre ++ (twos l ++ rest)) i l.length 2).isSome = true := by
  rw [ζ6p (by omega), ζ8r (by omega)];simp [twos_len];omega
 obtain ⟨vs, hv⟩ := Option.isSome_iff_exists.1 hs;rw [hv];congr 1;have hlen : vs.length = l.length := by
  unfold listS at hv;obtain ⟨r, _, rfl⟩ := Option.map_eq_some_iff.1 hv;simp
 apply List.ext_getElem?;intro j;by_cases hj : j < l.length
 ·obtain ⟨x, hx⟩ : ∃ x, l[j]? = some x := ⟨_, List.getElem?_eq_getElem hj⟩
  rw [ζkq (by omega) hv j (by omega), hx];exact twos_get l pre rest j x hx (hb x (List.mem_of_getElem? hx)) _ (by omega)
 ·rw [List.getElem?_eq_none (by omega), List.getElem?_eq_none (by omega)]
theorem look_ofS (cls : List Int) (hb : ∀ x, x ∈ cls → 0 ≤ x ∧ x < 65536) (hl : cls.length ≤ 65535) (rest : List Int) (g : Int) : lookS (ofS cls ++ rest) g 2 = some (tabOf cls) := by
 have h0 : uS (ofS cls ++ rest) 0 2 = some 8 := by
  have := uS_at [] (bytesOf 0 2 ++ (bytesOf cls.length 2 ++ (twos cls ++ rest))) (n := 8) (k := 2) 0 2 rfl rfl (by omega) (by decide);simpa [ofS, List.append_assoc] using this
 have h2 : uS (ofS cls ++ rest) 2 2 = some 0 := by
  have := uS_at (bytesOf 8 2) (bytesOf cls.length 2 ++ (twos cls ++ rest)) (n := 0) (k := 2) 2 2 (by simp) rfl (by omega) (by decide);simpa [ofS, List.append_assoc] using this
 have h4 : uS (ofS cls ++ rest) (2 + 2) 2 = some (cls.length : Int) := by
  have := uS_at (bytesOf 8 2 ++ bytesOf 0 2) (twos cls ++ rest) (n := cls.length) (k := 2) (2 + 2) 2 (by simp) rfl (by omega) (by simp; omega);simpa [ofS, List.append_assoc] using this
 have h6 : listS (ofS cls ++ rest) (2 + 4) cls.length 2 = some cls := by
  have := ζrg cls (bytesOf 8 2 ++ bytesOf 0 2 ++ bytesOf cls.length 2) rest hb (2 + 4) (by simp);simpa [ofS, List.append_assoc] using this
 unfold lookS partsS;rw [h0, Option.bind_some];simp only [show ¬ ((8 : Int) = 0) by decide, show ¬ ((8 : Int) = 2) by decide, show ¬ ((8 : Int) = 4) by decide, show ¬ ((8 : Int) = 6) by decide, if_false, if_true];unfold trimS;rw [h2, Option.bind_some, h4, Option.bind_some, if_pos (by omega), h6, Option.map_some, Option.bind_some];unfold tabOf;by_cases hc : cls = []
 ·subst hc; rfl
 ·rw [if_neg hc, if_neg (show ¬ ((cls.length : Int) = 0) by have := List.length_pos_iff.2 hc; omega)];simp [risesS]
theorem ζqx (p : Plan) (w : Int) (rm more : List Int) (hrm : rm.length ≤ 1000) (h1 : p.cls.length ≤ 1000) (h2 : p.rows.length ≤ 1000) (hn : planN p ≤ 11) :
  let b := planRoom p w rm ++ more
  uS b 0 4 = some (planN p : Int) ∧ uS b 4 4 = some (16 + rm.length : Int) ∧ restS b (16 + rm.length : Int) = some (ofS p.cls ++ (rowsL (planN p) p.rows ++ (entsB w p.ents ++ more))) ∧
  uS b 8 4 = some (16 + rm.length + (ofS p.cls).length : Int) ∧ restS b (16 + rm.length + (ofS p.cls).length : Int) = some (rowsL (planN p) p.rows ++ (entsB w p.ents ++ more)) ∧
  uS b 12 4 = some (16 + rm.length + (ofS p.cls).length + (rowsL (planN p) p.rows).length : Int) ∧ restS b (16 + rm.length + (ofS p.cls).length + (rowsL (planN p) p.rows).length : Int) = some (entsB w p.ents ++ more) := by
 intro b;have hofl : (ofS p.cls).length = 6 + p.cls.length * 2 := by unfold ofS; simp [twos_len]; omega
 have hrl : (rowsL (planN p) p.rows).length ≤ 1000 * 22 := by rw [ζda]; exact Nat.mul_le_mul h2 (by omega)
 have rest : ∀ (pre q : List Int) (i : Int), i = pre.length → restS (pre ++ q) i = some q := fun pre q i hi => by
  subst hi;unfold restS;rw [if_pos ⟨by omega, by simp; omega⟩];simp
 have hb : b = bytesOf (planN p : Int) 4 ++ (bytesOf (16 + rm.length : Int) 4 ++ (bytesOf (16 + rm.length + (ofS p.cls).length : Int) 4 ++ (bytesOf (16 + rm.length + (ofS p.cls).length + (rowsL (planN p) p.rows).length : Int) 4 ++ (rm ++ (ofS p.cls ++ (rowsL (planN p) p.rows ++ (entsB w p.ents ++ more))))))) := by
  show planRoom p w rm ++ more = _;unfold planRoom;simp only [List.append_assoc]
 rw [hb];refine ⟨?_, ?_, ?_, ?_, ?_, ?_, ?_⟩
 ·exact uS_at [] _ 0 4 rfl rfl (by omega) (by simp; omega)
 ·exact uS_at (bytesOf (planN p : Int) 4) _ 4 4 (by simp) rfl (by omega) (by simp; omega)
 ·have := rest (bytesOf (planN p : Int) 4 ++ (bytesOf (16 + rm.length : Int) 4 ++ (bytesOf (16 + rm.length + (ofS p.cls).length : Int) 4 ++ (bytesOf (16 + rm.length + (ofS p.cls).length + (rowsL (planN p) p.rows).length : Int) 4 ++ rm)))) (ofS p.cls ++ (rowsL (planN p) p.rows ++ (entsB w p.ents ++ more))) (16 + rm.length) (by simp; omega);simpa only [List.append_assoc] using this
 ·have := uS_at (bytesOf (planN p : Int) 4 ++ bytesOf (16 + rm.length : Int) 4) (bytesOf (16 + rm.length + (ofS p.cls).length + (rowsL (planN p) p.rows).length : Int) 4 ++ (rm ++ (ofS p.cls ++ (rowsL (planN p) p.rows ++ (entsB w p.ents ++ more))))) (n := 16 + rm.length + (ofS p.cls).length) (k := 4) 8 4 (by simp) rfl (by omega) (by simp; omega);simpa only [List.append_assoc] using this
 ·have := rest (bytesOf (planN p : Int) 4 ++ (bytesOf (16 + rm.length : Int) 4 ++ (bytesOf (16 + rm.length + (ofS p.cls).length : Int) 4 ++ (bytesOf (16 + rm.length + (ofS p.cls).length + (rowsL (planN p) p.rows).length : Int) 4 ++ (rm ++ ofS p.cls))))) (rowsL (planN p) p.rows ++ (entsB w p.ents ++ more)) (16 + rm.length + (ofS p.cls).length) (by simp; omega);simpa only [List.append_assoc] using this
 ·have := uS_at (bytesOf (planN p : Int) 4 ++ bytesOf (16 + rm.length : Int) 4 ++ bytesOf (16 + rm.length + (ofS p.cls).length : Int) 4) (rm ++ (ofS p.cls ++ (rowsL (planN p) p.rows ++ (entsB w p.ents ++ more)))) (n := 16 + rm.length + (ofS p.cls).length + (rowsL (planN p) p.rows).length) (k := 4) 12 4 (by simp) rfl (by omega) (by simp; omega);simpa only [List.append_assoc] using this
 ·have := rest (bytesOf (planN p : Int) 4 ++ (bytesOf (16 + rm.length : Int) 4 ++ (bytesOf (16 + rm.length + (ofS p.cls).length : Int) 4 ++ (bytesOf (16 + rm.length + (ofS p.cls).length + (rowsL (planN p) p.rows).length : Int) 4 ++ (rm ++ (ofS p.cls ++ rowsL (planN p) p.rows)))))) (entsB w p.ents ++ more) (16 + rm.length + (ofS p.cls).length + (rowsL (planN p) p.rows).length) (by simp; omega);simpa only [List.append_assoc] using this
theorem ζqy (p : Plan) (hp : p.ok) (w : Int) (rm more : List Int) (hrm : rm.length ≤ 1000) (h1 : p.cls.length ≤ 1000) (h2 : p.rows.length ≤ 1000) (g : Int) :
  machS (planRoom p w rm ++ more) g w = (closeA (rowsL (planN p) p.rows ++ (entsB w p.ents ++ more)) (entsB w p.ents ++ more) (planN p) w 2).map fun x => ⟨planN p, tabOf p.cls, x.1, x.2⟩ := by
 have hN := planN_eq p hp.2.2;obtain ⟨e1, e2, e3, e4, e5, e6, e7⟩ := ζqx p w rm more hrm h1 h2 hN.2;have hn4 : 4 ≤ planN p := by unfold planN; omega
 unfold machS;rw [e1, Option.bind_some, if_pos (by omega), e2, Option.bind_some, e3, Option.bind_some, look_ofS p.cls (fun x hx => by have := hp.1 x hx; omega) (by omega) _ g, Option.bind_some, e4, Option.bind_some, e5, Option.bind_some, e6, Option.bind_some, e7, Option.bind_some]
end Go.Sw
end
section
namespace Go.Sw
open Go.RowKit
end Go.Sw
end
section
namespace Go.Sw
open Go.RowKit
end Go.Sw
end
section
set_option maxRecDepth 100000
set_option linter.unusedVariables false
namespace Go.Sw
noncomputable section
def ζaw (k : Nat) (call : Caller) : Env → Heap → Res (AExit × Env) := loopB (C k) call F.ζ4f [1, 1, 1, 0, 0, 0]
def ζ7b (k : Nat) (call : Caller) : Kont Value := kBlock 0 (kSeq (pieceK (C k) call F.ζ4f [1, 1, 1, 1]) (kDone Prog (resOf Prog F.ζ4f)))
def ζ4f (k : Nat) (call : Caller) (a0 a1 a2 : Value) (h : Heap) : Res Value :=
 (buildR Prog 297 [(0, a0), (1, a1)] h).bind fun v1 h2 =>
 (boxR v1 h2).bind fun v3 h4 =>
 (call F.ζv [a1] h4).bind fun v5 h6 =>
 (binR Prog .mul 3 (.int .i64 2) v5 h6).bind fun v7 h8 =>
 (binR Prog .add 3 v7 (.int .i64 128) h8).bind fun v9 h10 =>
 (loopN (ζaw k call) loopFuel [(2, a2), (8, v3), (9, v9)] h10).bind fun r11 h12 =>
 ζ7b k call r11.1 r11.2 h12
theorem ζnj (k : Nat) (a0 a1 a2 : Value) (h : Heap) : R (T k) F.ζ4f [a0, a1, a2] h = nrm .no h (ζ4f k (R (T k)) a0 a1 a2 h) :=
 (R_body (t := T k) (T_scott k) (by kernel_rfl) (by kernel_rfl) _ _).trans (by kernel_rfl)
theorem ζ5f (k : Nat) (call : Caller) (a2 a8 a9 : Value) (h : Heap) : ζaw k call [(2, a2), (8, a8), (9, a9)] h =
 (nilR a8 h).bind fun v13 h14 =>
 (fieldAddrR Prog 297 v13 4 h14).bind fun v15 h16 =>
 (loadR Prog 3 v15 h16).bind fun v17 h18 =>
 (binR Prog .lss 3 v17 a9 h18).bind fun v19 h20 =>
 condV (some v19) (
 (call F.ζ28 [a8, a2] h20).bind fun v21 h22 =>
 condV (some v21) (
 (nilR a8 h22).bind fun v23 h24 =>
 (fieldAddrR Prog 297 v23 4 h24).bind fun v25 h26 =>
 (loadR Prog 3 v25 h26).bind fun v27 h28 =>
 .ok (.ret, [(6, v27), (7, (.int .i64 0))]) h28)
 (
 (nilR a8 h22).bind fun v29 h30 =>
 (fieldAddrR Prog 297 v29 5 h30).bind fun v31 h32 =>
 (loadR Prog 3 v31 h32).bind fun v33 h34 =>
 (binR Prog .gtr 3 v33 (.int .i64 64) h34).bind fun v35 h36 =>
 condV (some v35) (
 .ok ((.exit 0), [(2, a2), (8, a8), (9, a9), (35, v35)]) h36)
 (
 .ok (.normal, [(2, a2), (8, a8), (9, a9)]) h36)))
 (
 .ok ((.exit 0), [(2, a2), (8, a8), (9, a9), (23, v19)]) h20) :=
 (loopB_eq _ _).trans (by kernel_rfl)
theorem ζgf (k : Nat) (call : Caller) (a6 a7 : Value) (h : Heap) : ζ7b k call .ret [(6, a6), (7, a7)] h =
 .ok (.tuple #[a6, a7]) h := by kernel_rfl
theorem ζdi (k : Nat) (call : Caller) (a2 a8 a9 a35 : Value) (h : Heap) : ζ7b k call (.exit 0) [(2, a2), (8, a8), (9, a9), (35, a35)] h =
 (nilR a8 h).bind fun v37 h38 =>
 (fieldAddrR Prog 297 v37 4 h38).bind fun v39 h40 =>
 (loadR Prog 3 v39 h40).bind fun v41 h42 =>
 .ok (.tuple #[v41, (.int .i64 4)]) h42 := by kernel_rfl
theorem ζbv (k : Nat) (call : Caller) (a2 a8 a9 a23 : Value) (h : Heap) : ζ7b k call (.exit 0) [(2, a2), (8, a8), (9, a9), (23, a23)] h =
 (nilR a8 h).bind fun v43 h44 =>
 (fieldAddrR Prog 297 v43 4 h44).bind fun v45 h46 =>
 (loadR Prog 3 v45 h46).bind fun v47 h48 =>
 .ok (.tuple #[v47, (.int .i64 4)]) h48 := by kernel_rfl
def ζ28 (k : Nat) (call : Caller) (a0 a1 : Value) (h : Heap) : Res Value :=
 (call F.ζ1z [a0] h).bind fun v1 h2 =>
 (extractR v1 0 h2).bind fun v3 h4 =>
 (extractR v1 1 h4).bind fun v5 h6 =>
 (nilR a0 h6).bindN fun v7 h8 =>
 (fieldAddrR Prog 297 v7 0 h8).bindN fun v9 h10 =>
 (loadR Prog 180 v9 h10).bindN fun v11 h12 =>
 (nilR a0 h12).bindN fun v13 h14 =>
 (fieldAddrR Prog 297 v13 2 h14).bindN fun v15 h16 =>
 (loadR Prog 3 v15 h16).bindN fun v17 h18 =>
 (call F.ζ1c [v11, v17, v3] h18).bindT (fun p21 h22 => (allocR Prog 31 h18).bindN fun v23 h24 => .panic p21 h22) fun v19 h20 =>
 (extractR v19 0 h20).bindN fun v25 h26 =>
 (extractR v19 1 h26).bindN fun v27 h28 =>
 (allocR Prog 31 h28).bindN fun v29 h30 =>
 (storeR Prog 31 v29 v25 h30).bindN fun _v31 h32 =>
 (nilR a0 h32).bind fun v33 h34 =>
 (fieldAddrR Prog 297 v33 4 h34).bind fun v35 h36 =>
 (loadR Prog 3 v35 h36).bind fun v37 h38 =>
 (binR Prog .add 3 v37 (.int .i64 1) h38).bind fun v39 h40 =>
 (nilR a0 h40).bind fun v41 h42 =>
 (fieldAddrR Prog 297 v41 4 h42).bind fun v43 h44 =>
 (storeR Prog 3 v43 v39 h44).bind fun _v45 h46 =>
 (fieldAddrR Prog 31 v29 0 h46).bind fun v47 h48 =>
 (loadR Prog 3 v47 h48).bind fun v49 h50 =>
 (nilR a0 h50).bind fun v51 h52 =>
 (fieldAddrR Prog 297 v51 2 h52).bind fun v53 h54 =>
 (storeR Prog 3 v53 v49 h54).bind fun _v55 h56 =>
 (nilR a0 h56).bindN fun v57 h58 =>
 (fieldAddrR Prog 297 v57 3 h58).bindN fun v59 h60 =>
 (loadR Prog 3 v59 h60).bindN fun v61 h62 =>
 (loadR Prog 31 v29 h62).bindN fun v63 h64 =>
 (callV call a1 [v61, v63] h64).bindT (fun p67 h68 => .panic p67 h68) fun v65 h66 =>
 (extractR v65 0 h66).bindN fun v69 h70 =>
 (extractR v65 1 h70).bindN fun v71 h72 =>
 (fieldAddrR Prog 31 v29 1 h72).bind fun v73 h74 =>
 (loadR Prog 3 v73 h74).bind fun v75 h76 =>
 (binR Prog .and 3 v75 (.int .i64 16384) h76).bind fun v77 h78 =>
 (binR Prog .neq 3 v77 (.int .i64 0) h78).bind fun v79 h80 =>
 condV (some v79) (
 (builtinV Prog .max [3, 3] [v69, (.int .i64 0)] h80).bind fun v81 h82 =>
 (nilR a0 h82).bind fun v83 h84 =>
 (fieldAddrR Prog 297 v83 3 h84).bind fun v85 h86 =>
 (storeR Prog 3 v85 v81 h86).bind fun _v87 h88 =>
 (nilR a0 h88).bind fun v89 h90 =>
 (fieldAddrR Prog 297 v89 5 h90).bind fun v91 h92 =>
 (loadR Prog 3 v91 h92).bind fun v93 h94 =>
 (binR Prog .add 3 v93 (.int .i64 1) h94).bind fun v95 h96 =>
 (nilR a0 h96).bind fun v97 h98 =>
 (fieldAddrR Prog 297 v97 5 h98).bind fun v99 h100 =>
 (storeR Prog 3 v99 v95 h100).bind fun _v101 h102 =>
 .ok (.bool false) h102)
 (
 (builtinV Prog .max [3, 3] [v71, (.int .i64 0)] h80).bind fun v103 h104 =>
 (nilR a0 h104).bind fun v105 h106 =>
 (fieldAddrR Prog 297 v105 3 h106).bind fun v107 h108 =>
 (storeR Prog 3 v107 v103 h108).bind fun _v109 h110 =>
 (nilR a0 h110).bind fun v111 h112 =>
 (fieldAddrR Prog 297 v111 5 h112).bind fun v113 h114 =>
 (storeR Prog 3 v113 (.int .i64 0) h114).bind fun _v115 h116 =>
 .ok v5 h116)
theorem ζ7c (k : Nat) (a0 a1 : Value) (h : Heap) : R (T k) F.ζ28 [a0, a1] h = nrm .no h (ζ28 k (R (T k)) a0 a1 h) :=
 (R_body (t := T k) (T_scott k) (by kernel_rfl) (by kernel_rfl) _ _).trans (by kernel_rfl)
def ζ1z (k : Nat) (call : Caller) (a0 : Value) (h : Heap) : Res Value :=
 (nilR a0 h).bindN fun v1 h2 =>
 (fieldAddrR Prog 297 v1 1 h2).bindN fun v3 h4 =>
 (loadR Prog 44 v3 h4).bindN fun v5 h6 =>
 (nilR a0 h6).bindN fun v7 h8 =>
 (fieldAddrR Prog 297 v7 3 h8).bindN fun v9 h10 =>
 (loadR Prog 3 v9 h10).bindN fun v11 h12 =>
 (call F.ζ33 [v5, v11] h12).bindT (fun p15 h16 => (allocR Prog 115 h12).bindN fun v17 h18 => .panic p15 h16) fun v13 h14 =>
 (extractR v13 0 h14).bindN fun v19 h20 =>
 (extractR v13 1 h20).bindN fun v21 h22 =>
 (allocR Prog 115 h22).bindN fun v23 h24 =>
 (storeR Prog 115 v23 v19 h24).bindN fun _v25 h26 =>
 (unR .not v21 h26).bind fun v27 h28 =>
 condV (some v27) (
 .ok (.tuple #[(.int .i64 0), (.bool true)]) h28)
 (
 (nilR a0 h28).bindN fun v29 h30 =>
 (fieldAddrR Prog 297 v29 0 h30).bindN fun v31 h32 =>
 (loadR Prog 180 v31 h32).bindN fun v33 h34 =>
 (fieldAddrR Prog 115 v23 0 h34).bindN fun v35 h36 =>
 (loadR Prog 3 v35 h36).bindN fun v37 h38 =>
 (call F.ζ1d [v33, v37] h38).bindT (fun p41 h42 => .panic p41 h42) fun v39 h40 =>
 .ok (.tuple #[v39, (.bool false)]) h40)
theorem ζax (k : Nat) (a0 : Value) (h : Heap) : R (T k) F.ζ1z [a0] h = nrm .gc h (ζ1z k (R (T k)) a0 h) :=
 (R_body (t := T k) (T_scott k) (by kernel_rfl) (by kernel_rfl) _ _).trans (by kernel_rfl)
end
end Go.Sw
end
section
namespace Go.Sw
open Go.RowKit
theorem Star.stEnd {H0 H : Heap} {A B : List It} {c : Nat} {cells : List Value} {e : Nat} (h : Star H0 H (A ++ itBlk c ⟨cells, e, false⟩ :: B)) (off : Nat) {v : Value} (hs : storable v = true) (hc : v.cells = #[v]) (ho : off < cells.length) :
  ∃ H', stR 1 (.pointer (some ⟨c, off, none⟩)) v H = .ok undef H' ∧ Star H0 H' (A ++ itBlk c ⟨cells.set off v, e, false⟩ :: B) := by
 obtain ⟨H', h1, h2, _⟩ := h.stCell A.length (c := c) (cells := cells) (e := e) (by simp) off hs hc ho;exact ⟨H', h1, by simpa using h2⟩
structure Drv where
 st : Int
 pl : Int
 stp : Int
 rest : Int
abbrev drvC (m : Mach) (c : Nat) (d : Drv) : List Value := [machV m, ptrV c, .int .i64 d.st, .int .i64 d.pl, .int .i64 d.stp, .int .i64 d.rest]
def clsS (m : Mach) (l : List Gl) (pl : Int) : Int × Bool := match atG l pl with | some g => (classS m g.id, false) | none => (0, true)
def entS (m : Mach) (l : List Gl) (d : Drv) : En := (stepS m d.st (clsS m l d.pl).1).getD ⟨0, 0, 0, 0⟩
abbrev encE (e : En) : Value := .agg (encEn e).toArray
theorem take_mid {α : Type} (x : α) (B : List α) : ∀ A : List α, (A ++ x :: B).take (A.length + 1) = A ++ [x]
 | [] => rfl
 | a :: A => by simp [take_mid x B A]
theorem ζq1 (n : Nat) : n &&& 2 ^ 14 = if n.testBit 14 then 2 ^ 14 else 0 := by
 apply Nat.eq_of_testBit_eq;intro i;rw [Nat.testBit_and, Nat.testBit_two_pow];by_cases h : 14 = i
 ·subst h;cases hb : n.testBit 14 <;> simp <;> decide
 ·cases hb : n.testBit 14
  ·simp [h]
  ·simp only [h, decide_false, Bool.and_false, if_true, Nat.testBit_two_pow]
theorem and14 (P : Program) (t : TypeId) (H : Heap) {a : Int} (h0 : 0 ≤ a) (h1 : a < 65536) : binR P .and t (.int .i64 a) (.int .i64 16384) H = .ok (.int .i64 (if a / 16384 % 2 = 1 then 16384 else 0)) H := by
 have e : (BitVec.ofInt 64 a &&& BitVec.ofInt 64 16384).toNat = (if a / 16384 % 2 = 1 then 16384 else 0) := by
  rw [BitVec.toNat_and, BitVec.toNat_ofInt, BitVec.toNat_ofInt];rw [show ((16384 : Int) % ((2 ^ 64 : Nat) : Int)).toNat = 2 ^ 14 from by decide, ζq1, Nat.testBit_eq_decide_div_mod_eq];obtain ⟨n, rfl⟩ := Int.eq_ofNat_of_zero_le h0;rw [show (((n : Int)) % ((2 ^ 64 : Nat) : Int)).toNat = n by omega];by_cases h : (n : Int) / 16384 % 2 = 1
  ·rw [if_pos h, decide_eq_true (show n / 2 ^ 14 % 2 = 1 by omega)]; rfl
  ·rw [if_neg h, decide_eq_false (show ¬ n / 2 ^ 14 % 2 = 1 by omega)]; rfl
 have e1 : binV P .and t (.int .i64 a) (.int .i64 16384) = some (.int .i64 (IntKind.i64.wrap (BitVec.ofInt 64 a &&& BitVec.ofInt 64 16384).toNat)) := rfl;unfold binR;rw [e1, e];by_cases h : a / 16384 % 2 = 1
 ·simp [h]
 ·simp [h]
theorem ζgg (k : Nat) (m : Mach) (hm : m.ok) {H0 H : Heap} {L : List It} (h : Star H0 H L) {c q : Nat} {o : Option Nat} {l : List Gl} {d : Drv} (i : Nat) (hi : L[i]? = some (itLine c o l)) (hq : H.get q = some ⟨drvC m c d, 1, false⟩) :
  R (T k) F.ζ1z [ptrV q] H = .ok (.tuple #[.int .i64 (clsS m l d.pl).1, .bool (clsS m l d.pl).2]) H := by
 rw [ζax];have hat := ζfk k h i hi d.pl;have fl : ∀ (a : Int) b, Flat (.tuple #[.int .i64 a, .bool b]) := fun a b => .tupleL (.cons (.int _ _) (.cons (.bool _) .nil));unfold clsS;have hqn : ¬ q = H.n := by have := Heap.get_lt hq; omega
 cases ha : atG l d.pl with
 | none =>
  rw [ha] at hat;refine nrm_gc ⟨H.push ⟨[.int .i64 0, .int .i64 0], 1, false⟩, ?_, (Ext.refl H).push _⟩ (fl _ _).alive;unfold encA at hat;simp at hat;simp -implicitDefEqProofs (disch := omega) [ζ1z, hq, hat]
 | some g =>
  rw [ha] at hat;have hc := fun H' => ζpx k m hm g.id H';refine nrm_gc ⟨H.push ⟨encG g, 1, false⟩, ?_, (Ext.refl H).push _⟩ (fl _ _).alive;unfold encA at hat;simp at hat;simp -implicitDefEqProofs (disch := omega) [ζ1z, hq, hqn, hat, hc]
theorem ζom {m : Mach} (hm : m.ok) (l : List Gl) (d : Drv) : let e := entS m l d; 0 ≤ e.next ∧ e.next < 65536 ∧ 0 ≤ e.flags ∧ e.flags < 65536 ∧ 0 ≤ e.a ∧ e.a < 65536 ∧ 0 ≤ e.b ∧ e.b < 65536 := by
 dsimp only;unfold entS;cases h : stepS m d.st (clsS m l d.pl).1 with
 | none => simp
 | some x =>
  have hx : x ∈ m.ents := by
   unfold stepS at h;split at h
   ·obtain ⟨r, _, h⟩ := Option.bind_eq_some_iff.1 h;obtain ⟨y, _, h⟩ := Option.bind_eq_some_iff.1 h;exact List.mem_of_getElem? h
   ·cases h
  have := hm.ent x hx;have := hm.two;simp only [Option.getD_some];omega
theorem getS_pos {ps : List Pt} (hok : ∀ p, p ∈ ps → p.ok) {id x : Int} (h : getS ps id = some x) : 0 ≤ x := by
 unfold getS at h;obtain ⟨p, hp, h⟩ := Option.bind_eq_some_iff.1 h;split at h
 ·exact ((hok p (List.mem_of_find?_eq_some hp)).2.2.2.2.2 x (List.mem_of_getElem? h)).1
 ·cases h
theorem ζm2 {m : Mach} (hm : m.ok) (id : Int) : 0 ≤ classS m id ∧ classS m id < m.classes := by
 have := hm.cl;unfold classS;split
 ·omega
 ·split
  ·rename_i c hc;have := getS_pos hm.pts hc;split <;> omega
  ·omega
theorem ζoh {m : Mach} (hm : m.ok) (l : List Gl) (p : Int) : 0 ≤ (clsS m l p).1 ∧ (clsS m l p).1 < m.classes := by
 have := hm.cl;unfold clsS;split
 ·exact ζm2 hm _
 ·dsimp only; omega
theorem entS_mem {m : Mach} (hm : m.ok) (l : List Gl) (d : Drv) (h : 0 ≤ d.st ∧ d.st < m.rows.length) : entS m l d ∈ m.ents := by
 have hc := ζoh hm l d.pl;obtain ⟨r, x, e, _, _, _, he, hs⟩ := ζlx hm (s := d.st) (c := (clsS m l d.pl).1) ⟨h.1, h.2, hc.1, hc.2⟩;unfold entS;rw [hs];exact List.mem_of_getElem? he
variable {σ : Type}
def stepD (m : Mach) (ln : σ → List Gl) (f : σ → Int → En → σ × Int × Int) (x : σ × Drv) : (σ × Drv) × Bool :=
 if (entS m (ln x.1) x.2).flags / 16384 % 2 = 1 then (((f x.1 x.2.pl (entS m (ln x.1) x.2)).1, ⟨(entS m (ln x.1) x.2).next, max (f x.1 x.2.pl (entS m (ln x.1) x.2)).2.1 0, x.2.stp + 1, x.2.rest + 1⟩), false)
 else (((f x.1 x.2.pl (entS m (ln x.1) x.2)).1, ⟨(entS m (ln x.1) x.2).next, max (f x.1 x.2.pl (entS m (ln x.1) x.2)).2.2 0, x.2.stp + 1, 0⟩), (clsS m (ln x.1) x.2.pl).2)
end Go.Sw
end
section
namespace Go.Sw
open Go.RowKit
variable {σ : Type}
def runD (m : Mach) (ln : σ → List Gl) (f : σ → Int → En → σ × Int × Int) (most : Int) : Nat → σ × Drv → Int × Int × σ
  | 0, x => (x.2.stp, 4, x.1)
  | n + 1, x => if x.2.stp < most then
      (if (stepD m ln f x).2 then ((stepD m ln f x).1.2.stp, 0, (stepD m ln f x).1.1)
       else if (stepD m ln f x).1.2.rest > 64 then ((stepD m ln f x).1.2.stp, 4, (stepD m ln f x).1.1)
       else runD m ln f most n (stepD m ln f x).1)
    else (x.2.stp, 4, x.1)
theorem ζra (m : Mach) (ln : σ → List Gl) (f : σ → Int → En → σ × Int × Int) (x : σ × Drv) : (stepD m ln f x).1.2.stp = x.2.stp + 1 := by unfold stepD; split <;> rfl
theorem stepD_pl (m : Mach) (ln : σ → List Gl) (f : σ → Int → En → σ × Int × Int) (x : σ × Drv) : 0 ≤ (stepD m ln f x).1.2.pl := by unfold stepD; split <;> (dsimp only; omega)
theorem ζpo (m : Mach) (ln : σ → List Gl) (f : σ → Int → En → σ × Int × Int) (x : σ × Drv) (h : 0 ≤ x.2.rest) : 0 ≤ (stepD m ln f x).1.2.rest ∧ (stepD m ln f x).1.2.rest ≤ x.2.rest + 1 := by unfold stepD; split <;> (dsimp only; omega)
end Go.Sw
end
section
set_option maxRecDepth 100000
set_option linter.unusedVariables false
namespace Go.Sw
noncomputable section
def ζ2f (k : Nat) (call : Caller) : Env → Heap → Res (AExit × Env) := loopB (C k) call F.ζ6 [1, 1, 1, 1, 1, 1, 1, 0, 0, 0]
def ζ4u (k : Nat) (call : Caller) : Kont Value := kBlock 0 (kSeq (pieceK (C k) call F.ζ6 [1, 1, 1, 1, 1, 1, 1, 1]) (kDone Prog (resOf Prog F.ζ6)))
def ζ8h (k : Nat) (call : Caller) (a0 a6 a8 a11 a12 a13 : Value) (h : Heap) : Res (AExit × Env) :=
 kSeq (pieceK (C k) call F.ζ6 [1, 1, 1, 1, 1, 1, 1, 0, 0, 0, 1, 0, 1, 1, 1]) (kBlock 1 (kRound (ownOf (C k) F.ζ6 [1, 1, 1, 1, 1, 1, 1, 0, 0, 0]))) .normal [(0, a0), (6, a6), (8, a8), (11, a11), (12, a12), (13, a13)] h
def ζ8i (k : Nat) (call : Caller) (a0 a6 a8 a11 a12 a13 a93 : Value) (h : Heap) : Res (AExit × Env) :=
 kSeq (pieceK (C k) call F.ζ6 [1, 1, 1, 1, 1, 1, 1, 0, 0, 0, 1, 0, 1, 1, 1]) (kBlock 1 (kRound (ownOf (C k) F.ζ6 [1, 1, 1, 1, 1, 1, 1, 0, 0, 0]))) .normal [(0, a0), (6, a6), (8, a8), (11, a11), (12, a12), (13, a13), (93, a93)] h
def ζ5c (k : Nat) (call : Caller) (a0 a6 a8 a11 a12 a13 : Value) (h : Heap) : Res (AExit × Env) :=
 kSeq (pieceK (C k) call F.ζ6 [1, 1, 1, 1, 1, 1, 1, 0, 0, 0, 1, 0, 1, 1, 1, 1]) (kBlock 1 (kRound (ownOf (C k) F.ζ6 [1, 1, 1, 1, 1, 1, 1, 0, 0, 0]))) .normal [(0, a0), (6, a6), (8, a8), (11, a11), (12, a12), (13, a13)] h
def ζ5d (k : Nat) (call : Caller) (a0 a6 a8 a11 a12 a13 a115 : Value) (h : Heap) : Res (AExit × Env) :=
 kSeq (pieceK (C k) call F.ζ6 [1, 1, 1, 1, 1, 1, 1, 0, 0, 0, 1, 0, 1, 1, 1, 1]) (kBlock 1 (kRound (ownOf (C k) F.ζ6 [1, 1, 1, 1, 1, 1, 1, 0, 0, 0]))) .normal [(0, a0), (6, a6), (8, a8), (11, a11), (12, a12), (13, a13), (115, a115)] h
def ζ6 (k : Nat) (call : Caller) (a0 a1 a2 : Value) (h : Heap) : Res Value :=
 (allocR Prog 41 h).bind fun v1 h2 =>
 (call F.ζ2 [a0, (.int .i64 0), (.int .i64 4)] h2).bind fun v3 h4 =>
 (call F.ζ2 [a0, (.int .i64 8), (.int .i64 4)] h4).bind fun v5 h6 =>
 (call F.ζ2 [a0, (.int .i64 12), (.int .i64 4)] h6).bind fun v7 h8 =>
 (buildR Prog 41 [(0, a0), (1, v3), (2, v5), (3, v7), (4, (.int .i64 2)), (6, a2)] h8).bind fun v9 h10 =>
 (allocR Prog 41 h10).bind fun v11 h12 =>
 (storeR Prog 41 v11 v9 h12).bind fun _v13 h14 =>
 (call F.ζ2 [a0, (.int .i64 4), (.int .i64 4)] h14).bind fun v15 h16 =>
 (fieldAddrR Prog 41 v11 1 h16).bind fun v17 h18 =>
 (loadR Prog 3 v17 h18).bind fun v19 h20 =>
 (binR Prog .lss 3 v19 (.int .i64 4) h20).bind fun v21 h22 =>
 ((bif wantVal v21 false then fieldAddrR Prog 41 v11 1 h22 else Res.ok undef h22)).bind fun v23 h24 =>
 ((bif wantVal v21 false then loadR Prog 3 v23 h24 else Res.ok undef h24)).bind fun v25 h26 =>
 ((bif wantVal v21 false then binR Prog .gtr 3 v25 (.int .i64 65535) h26 else Res.ok undef h26)).bind fun v27 h28 =>
 (condV (some v21) (Res.ok (.bool true) h28) (Res.ok v27 h28)).bind fun v29 h30 =>
 ((bif wantVal v29 false then fieldAddrR Prog 41 v11 2 h30 else Res.ok undef h30)).bind fun v31 h32 =>
 ((bif wantVal v29 false then loadR Prog 3 v31 h32 else Res.ok undef h32)).bind fun v33 h34 =>
 ((bif wantVal v29 false then binR Prog .lss 3 v33 (.int .i64 0) h34 else Res.ok undef h34)).bind fun v35 h36 =>
 (condV (some v29) (Res.ok (.bool true) h36) (Res.ok v35 h36)).bind fun v37 h38 =>
 ((bif wantVal v37 false then fieldAddrR Prog 41 v11 3 h38 else Res.ok undef h38)).bind fun v39 h40 =>
 ((bif wantVal v37 false then loadR Prog 3 v39 h40 else Res.ok undef h40)).bind fun v41 h42 =>
 ((bif wantVal v37 false then binR Prog .lss 3 v41 (.int .i64 0) h42 else Res.ok undef h42)).bind fun v43 h44 =>
 (condV (some v37) (Res.ok (.bool true) h44) (Res.ok v43 h44)).bind fun v45 h46 =>
 ((bif wantVal v45 false then fieldAddrR Prog 41 v11 2 h46 else Res.ok undef h46)).bind fun v47 h48 =>
 ((bif wantVal v45 false then loadR Prog 3 v47 h48 else Res.ok undef h48)).bind fun v49 h50 =>
 ((bif wantVal v45 false then Res.ok a0 h50 else Res.ok undef h50)).bind fun v51 h52 =>
 ((bif wantVal v45 false then builtinV Prog .len [22] [v51] h52 else Res.ok undef h52)).bind fun v53 h54 =>
 ((bif wantVal v45 false then binR Prog .gtr 3 v49 v53 h54 else Res.ok undef h54)).bind fun v55 h56 =>
 (condV (some v45) (Res.ok (.bool true) h56) (Res.ok v55 h56)).bind fun v57 h58 =>
 ((bif wantVal v57 false then fieldAddrR Prog 41 v11 3 h58 else Res.ok undef h58)).bind fun v59 h60 =>
 ((bif wantVal v57 false then loadR Prog 3 v59 h60 else Res.ok undef h60)).bind fun v61 h62 =>
 ((bif wantVal v57 false then Res.ok a0 h62 else Res.ok undef h62)).bind fun v63 h64 =>
 ((bif wantVal v57 false then builtinV Prog .len [22] [v63] h64 else Res.ok undef h64)).bind fun v65 h66 =>
 ((bif wantVal v57 false then binR Prog .gtr 3 v61 v65 h66 else Res.ok undef h66)).bind fun v67 h68 =>
 (condV (some v57) (Res.ok (.bool true) h68) (Res.ok v67 h68)).bind fun v69 h70 =>
 ((bif wantVal v69 false then Res.ok v15 h70 else Res.ok undef h70)).bind fun v71 h72 =>
 ((bif wantVal v69 false then binR Prog .lss 3 v71 (.int .i64 0) h72 else Res.ok undef h72)).bind fun v73 h74 =>
 (condV (some v69) (Res.ok (.bool true) h74) (Res.ok v73 h74)).bind fun v75 h76 =>
 ((bif wantVal v75 false then Res.ok v15 h76 else Res.ok undef h76)).bind fun v77 h78 =>
 ((bif wantVal v75 false then Res.ok a0 h78 else Res.ok undef h78)).bind fun v79 h80 =>
 ((bif wantVal v75 false then builtinV Prog .len [22] [v79] h80 else Res.ok undef h80)).bind fun v81 h82 =>
 ((bif wantVal v75 false then binR Prog .gtr 3 v77 v81 h82 else Res.ok undef h82)).bind fun v83 h84 =>
 (condV (some v75) (Res.ok (.bool true) h84) (Res.ok v83 h84)).bind fun v85 h86 =>
 condV (some v85) (
 (buildR Prog 41 [] h86).bind fun v87 h88 =>
 (storeR Prog 41 v1 v87 h88).bind fun _v89 h90 =>
 (loadR Prog 41 v1 h90).bind fun v91 h92 =>
 .ok (.tuple #[v91, (.bool false)]) h92)
 (
 (sliceR Prog 22 a0 (some v15) none none h86).bind fun v93 h94 =>
 (call F.ζ15 [v93, a1, (.int .i64 2)] h94).bind fun v95 h96 =>
 (extractR v95 0 h96).bind fun v97 h98 =>
 (extractR v95 1 h98).bind fun v99 h100 =>
 (allocR Prog 39 h100).bind fun v101 h102 =>
 (storeR Prog 39 v101 v97 h102).bind fun _v103 h104 =>
 (loadR Prog 39 v101 h104).bind fun v105 h106 =>
 (fieldAddrR Prog 41 v11 7 h106).bind fun v107 h108 =>
 (storeR Prog 39 v107 v105 h108).bind fun _v109 h110 =>
 (binR Prog .mul 3 (.int .i64 2) a2 h110).bind fun v111 h112 =>
 (binR Prog .add 3 (.int .i64 4) v111 h112).bind fun v113 h114 =>
 (loopN (ζ2f k call) loopFuel [(0, a0), (6, v1), (8, v11), (11, v99), (12, v113)] h114).bind fun r115 h116 =>
 ζ4u k call r115.1 r115.2 h116)
theorem ζcv (k : Nat) (a0 a1 a2 : Value) (h : Heap) : R (T k) F.ζ6 [a0, a1, a2] h = nrm .fz h (ζ6 k (R (T k)) a0 a1 a2 h) :=
 (R_body (t := T k) (T_scott k) (by kernel_rfl) (by kernel_rfl) _ _).trans (by kernel_rfl)
theorem ζ1j (k : Nat) (call : Caller) (a0 a6 a8 a11 a12 : Value) (h : Heap) : ζ2f k call [(0, a0), (6, a6), (8, a8), (11, a11), (12, a12)] h =
 condV (some a11) (
 (loadR Prog 41 a8 h).bind fun v117 h118 =>
 (allocR Prog 41 h118).bind fun v119 h120 =>
 (storeR Prog 41 v119 v117 h120).bind fun _v121 h122 =>
 (builtinV Prog .len [22] [a0] h122).bind fun v123 h124 =>
 (fieldAddrR Prog 41 a8 2 h124).bind fun v125 h126 =>
 (loadR Prog 3 v125 h126).bind fun v127 h128 =>
 (fieldAddrR Prog 41 a8 4 h128).bind fun v129 h130 =>
 (loadR Prog 3 v129 h130).bind fun v131 h132 =>
 (fieldAddrR Prog 41 a8 1 h132).bind fun v133 h134 =>
 (loadR Prog 3 v133 h134).bind fun v135 h136 =>
 (binR Prog .mul 3 (.int .i64 2) v135 h136).bind fun v137 h138 =>
 (call F.ζm [v123, v127, v131, v137] h138).bind fun v139 h140 =>
 condV (some v139) (
 (fieldAddrR Prog 41 a8 5 h140).bindN fun v141 h142 =>
 (loadR Prog 3 v141 h142).bindN fun v143 h144 =>
 (fieldAddrR Prog 41 a8 2 h144).bindN fun v145 h146 =>
 (loadR Prog 3 v145 h146).bindN fun v147 h148 =>
 (fieldAddrR Prog 41 a8 4 h148).bindN fun v149 h150 =>
 (loadR Prog 3 v149 h150).bindN fun v151 h152 =>
 (fieldAddrR Prog 41 a8 1 h152).bindN fun v153 h154 =>
 (loadR Prog 3 v153 h154).bindN fun v155 h156 =>
 (binR Prog .mul 3 v151 v155 h156).bindN fun v157 h158 =>
 (call F.ζ1g [a0, v147, v157, (.int .i64 2)] h158).bindT (fun p161 h162 => .panic p161 h162) fun v159 h160 =>
 (builtinV Prog .max [3, 3] [v143, v159] h160).bindN fun v163 h164 =>
 (fieldAddrR Prog 41 a8 5 h164).bindN fun v165 h166 =>
 (storeR Prog 3 v165 v163 h166).bindN fun _v167 h168 =>
 chkR ((okVal (loadR Prog 3 v141 h160) v143 && true) && true) (
 (builtinV Prog .len [22] [a0] h168).bind fun v169 h170 =>
 (fieldAddrR Prog 41 a8 3 h170).bind fun v171 h172 =>
 (loadR Prog 3 v171 h172).bind fun v173 h174 =>
 (fieldAddrR Prog 41 a8 5 h174).bind fun v175 h176 =>
 (loadR Prog 3 v175 h176).bind fun v177 h178 =>
 (call F.ζm [v169, v173, v177, a12] h178).bind fun v179 h180 =>
 ζ8h k call a0 a6 a8 v179 a12 v119 h180))
 (
 ζ8i k call a0 a6 a8 v139 a12 v119 v139 h140))
 (
 .ok ((.exit 0), [(0, a0), (6, a6), (8, a8), (12, a12), (81, a11)]) h) :=
 (loopB_eq _ _).trans (by kernel_rfl)
theorem ζ2w (k : Nat) (call : Caller) (a0 a6 a8 a11 a12 a13 : Value) (h : Heap) : ζ8h k call a0 a6 a8 a11 a12 a13 h =
 condV (some a11) (
 (fieldAddrR Prog 41 a8 4 h).bindN fun v181 h182 =>
 (loadR Prog 3 v181 h182).bindN fun v183 h184 =>
 (fieldAddrR Prog 41 a8 3 h184).bindN fun v185 h186 =>
 (loadR Prog 3 v185 h186).bindN fun v187 h188 =>
 (fieldAddrR Prog 41 a8 5 h188).bindN fun v189 h190 =>
 (loadR Prog 3 v189 h190).bindN fun v191 h192 =>
 (call F.ζ1g [a0, v187, v191, a12] h192).bindT (fun p195 h196 => .panic p195 h196) fun v193 h194 =>
 (builtinV Prog .max [3, 3] [v183, v193] h194).bindN fun v197 h198 =>
 (fieldAddrR Prog 41 a8 4 h198).bindN fun v199 h200 =>
 (storeR Prog 3 v199 v197 h200).bindN fun _v201 h202 =>
 chkR ((okVal (loadR Prog 3 v181 h194) v183 && true) && true) (
 ζ5c k call a0 a6 a8 a11 a12 a13 h202))
 (
 ζ5d k call a0 a6 a8 a11 a12 a13 a11 h) := by kernel_rfl
theorem ζak (k : Nat) (call : Caller) (a0 a6 a8 a11 a12 a13 a93 : Value) (h : Heap) : ζ8i k call a0 a6 a8 a11 a12 a13 a93 h =
 condV (some a11) (
 (fieldAddrR Prog 41 a8 4 h).bindN fun v203 h204 =>
 (loadR Prog 3 v203 h204).bindN fun v205 h206 =>
 (fieldAddrR Prog 41 a8 3 h206).bindN fun v207 h208 =>
 (loadR Prog 3 v207 h208).bindN fun v209 h210 =>
 (fieldAddrR Prog 41 a8 5 h210).bindN fun v211 h212 =>
 (loadR Prog 3 v211 h212).bindN fun v213 h214 =>
 (call F.ζ1g [a0, v209, v213, a12] h214).bindT (fun p217 h218 => .panic p217 h218) fun v215 h216 =>
 (builtinV Prog .max [3, 3] [v205, v215] h216).bindN fun v219 h220 =>
 (fieldAddrR Prog 41 a8 4 h220).bindN fun v221 h222 =>
 (storeR Prog 3 v221 v219 h222).bindN fun _v223 h224 =>
 chkR ((okVal (loadR Prog 3 v203 h216) v205 && true) && true) (
 ζ5c k call a0 a6 a8 a11 a12 a13 h224))
 (
 ζ5d k call a0 a6 a8 a11 a12 a13 a11 h) := by kernel_rfl
theorem ζ3u (k : Nat) (call : Caller) (a0 a6 a8 a11 a12 a13 : Value) (h : Heap) : ζ5c k call a0 a6 a8 a11 a12 a13 h =
 ((bif wantVal a11 true then fieldAddrR Prog 41 a8 4 h else Res.ok undef h)).bind fun v225 h226 =>
 ((bif wantVal a11 true then loadR Prog 3 v225 h226 else Res.ok undef h226)).bind fun v227 h228 =>
 ((bif wantVal a11 true then fieldAddrR Prog 41 a13 4 h228 else Res.ok undef h228)).bind fun v229 h230 =>
 ((bif wantVal a11 true then loadR Prog 3 v229 h230 else Res.ok undef h230)).bind fun v231 h232 =>
 ((bif wantVal a11 true then binR Prog .eql 3 v227 v231 h232 else Res.ok undef h232)).bind fun v233 h234 =>
 (condV (some a11) (Res.ok v233 h234) (Res.ok (.bool false) h234)).bind fun v235 h236 =>
 ((bif wantVal v235 true then fieldAddrR Prog 41 a8 5 h236 else Res.ok undef h236)).bind fun v237 h238 =>
 ((bif wantVal v235 true then loadR Prog 3 v237 h238 else Res.ok undef h238)).bind fun v239 h240 =>
 ((bif wantVal v235 true then fieldAddrR Prog 41 a13 5 h240 else Res.ok undef h240)).bind fun v241 h242 =>
 ((bif wantVal v235 true then loadR Prog 3 v241 h242 else Res.ok undef h242)).bind fun v243 h244 =>
 ((bif wantVal v235 true then binR Prog .eql 3 v239 v243 h244 else Res.ok undef h244)).bind fun v245 h246 =>
 (condV (some v235) (Res.ok v245 h246) (Res.ok (.bool false) h246)).bind fun v247 h248 =>
 condV (some v247) (
 (loadR Prog 41 a8 h248).bind fun v249 h250 =>
 (storeR Prog 41 a6 v249 h250).bind fun _v251 h252 =>
 .ok (.ret, [(6, a6), (7, (.bool true))]) h252)
 (
 .ok (.normal, [(0, a0), (6, a6), (8, a8), (11, a11), (12, a12)]) h248) := by kernel_rfl
theorem ζ6h (k : Nat) (call : Caller) (a0 a6 a8 a11 a12 a13 a115 : Value) (h : Heap) : ζ5d k call a0 a6 a8 a11 a12 a13 a115 h =
 ((bif wantVal a11 true then fieldAddrR Prog 41 a8 4 h else Res.ok undef h)).bind fun v253 h254 =>
 ((bif wantVal a11 true then loadR Prog 3 v253 h254 else Res.ok undef h254)).bind fun v255 h256 =>
 ((bif wantVal a11 true then fieldAddrR Prog 41 a13 4 h256 else Res.ok undef h256)).bind fun v257 h258 =>
 ((bif wantVal a11 true then loadR Prog 3 v257 h258 else Res.ok undef h258)).bind fun v259 h260 =>
 ((bif wantVal a11 true then binR Prog .eql 3 v255 v259 h260 else Res.ok undef h260)).bind fun v261 h262 =>
 (condV (some a11) (Res.ok v261 h262) (Res.ok (.bool false) h262)).bind fun v263 h264 =>
 ((bif wantVal v263 true then fieldAddrR Prog 41 a8 5 h264 else Res.ok undef h264)).bind fun v265 h266 =>
 ((bif wantVal v263 true then loadR Prog 3 v265 h266 else Res.ok undef h266)).bind fun v267 h268 =>
 ((bif wantVal v263 true then fieldAddrR Prog 41 a13 5 h268 else Res.ok undef h268)).bind fun v269 h270 =>
 ((bif wantVal v263 true then loadR Prog 3 v269 h270 else Res.ok undef h270)).bind fun v271 h272 =>
 ((bif wantVal v263 true then binR Prog .eql 3 v267 v271 h272 else Res.ok undef h272)).bind fun v273 h274 =>
 (condV (some v263) (Res.ok v273 h274) (Res.ok (.bool false) h274)).bind fun v275 h276 =>
 condV (some v275) (
 (loadR Prog 41 a8 h276).bind fun v277 h278 =>
 (storeR Prog 41 a6 v277 h278).bind fun _v279 h280 =>
 .ok (.ret, [(6, a6), (7, (.bool true))]) h280)
 (
 .ok (.normal, [(0, a0), (6, a6), (8, a8), (11, a11), (12, a12)]) h276) := by kernel_rfl
theorem ζ61 (k : Nat) (call : Caller) (a0 a6 a8 a12 a81 : Value) (h : Heap) : ζ4u k call (.exit 0) [(0, a0), (6, a6), (8, a8), (12, a12), (81, a81)] h =
 (buildR Prog 41 [] h).bind fun v281 h282 =>
 (storeR Prog 41 a6 v281 h282).bind fun _v283 h284 =>
 (loadR Prog 41 a6 h284).bind fun v285 h286 =>
 .ok (.tuple #[v285, (.bool false)]) h286 := by kernel_rfl
theorem ζal (k : Nat) (call : Caller) (a6 a7 : Value) (h : Heap) : ζ4u k call .ret [(6, a6), (7, a7)] h =
 (loadR Prog 41 a6 h).bind fun v287 h288 =>
 .ok (.tuple #[v287, a7]) h288 := by kernel_rfl
def ζ4v (k : Nat) (call : Caller) : Env → Heap → Res (AExit × Env) := loopB (C k) call F.ζ1g [1, 1, 0, 1, 0, 0]
def ζ78 (k : Nat) (call : Caller) : Kont Value := kBlock 0 (kSeq (pieceK (C k) call F.ζ1g [1, 1, 1]) (kDone Prog (resOf Prog F.ζ1g)))
def ζ1g (k : Nat) (call : Caller) (a0 a1 a2 a3 : Value) (h : Heap) : Res Value :=
 (loopN (ζ4v k call) loopFuel [(0, a0), (1, a1), (2, a2), (3, a3), (9, (.int .i64 0)), (10, (.int .i64 0))] h).bind fun r1 h2 =>
 ζ78 k call r1.1 r1.2 h2
theorem ζcf (k : Nat) (a0 a1 a2 a3 : Value) (h : Heap) : R (T k) F.ζ1g [a0, a1, a2, a3] h = nrm .gc h (ζ1g k (R (T k)) a0 a1 a2 a3 h) :=
 (R_body (t := T k) (T_scott k) (by kernel_rfl) (by kernel_rfl) _ _).trans (by kernel_rfl)
theorem ζ62 (k : Nat) (call : Caller) (a0 a1 a2 a3 a9 a10 : Value) (h : Heap) : ζ4v k call [(0, a0), (1, a1), (2, a2), (3, a3), (9, a9), (10, a10)] h =
 (binR Prog .lss 3 a10 a2 h).bind fun v3 h4 =>
 condV (some v3) (
 (binR Prog .mul 3 a10 a3 h4).bind fun v5 h6 =>
 (binR Prog .add 3 a1 v5 h6).bind fun v7 h8 =>
 (call F.ζ2 [a0, v7, (.int .i64 2)] h8).bind fun v9 h10 =>
 (binR Prog .add 3 v9 (.int .i64 1) h10).bind fun v11 h12 =>
 (builtinV Prog .max [3, 3] [a9, v11] h12).bind fun v13 h14 =>
 (binR Prog .add 3 a10 (.int .i64 1) h14).bind fun v15 h16 =>
 .ok (.normal, [(0, a0), (1, a1), (2, a2), (3, a3), (9, v13), (10, v15)]) h16)
 (
 .ok ((.exit 0), [(0, a0), (1, a1), (2, a2), (3, a3), (9, a9), (10, a10), (13, v3)]) h4) :=
 (loopB_eq _ _).trans (by kernel_rfl)
theorem ζ9c (k : Nat) (call : Caller) (a0 a1 a2 a3 a9 a10 a13 : Value) (h : Heap) : ζ78 k call (.exit 0) [(0, a0), (1, a1), (2, a2), (3, a3), (9, a9), (10, a10), (13, a13)] h =
 .ok a9 h := by kernel_rfl
def ζ7q (k : Nat) (call : Caller) (a2 a4 a5 a6 : Value) (h : Heap) : Res Value :=
 kSeq (pieceK (C k) call F.ζc [1, 1, 1, 1]) (kDone Prog (resOf Prog F.ζc)) .normal [(2, a2), (4, a4), (5, a5), (6, a6)] h
def ζ7r (k : Nat) (call : Caller) (a2 a4 a5 a6 a28 : Value) (h : Heap) : Res Value :=
 kSeq (pieceK (C k) call F.ζc [1, 1, 1, 1]) (kDone Prog (resOf Prog F.ζc)) .normal [(2, a2), (4, a4), (5, a5), (6, a6), (28, a28)] h
def ζ4s (k : Nat) (call : Caller) (a4 a6 : Value) (h : Heap) : Res Value :=
 kSeq (pieceK (C k) call F.ζc [1, 1, 1, 1, 1]) (kDone Prog (resOf Prog F.ζc)) .normal [(4, a4), (6, a6)] h
def ζ4t (k : Nat) (call : Caller) (a2 a4 a5 a6 a37 : Value) (h : Heap) : Res Value :=
 kSeq (pieceK (C k) call F.ζc [1, 1, 1, 1, 1]) (kDone Prog (resOf Prog F.ζc)) .normal [(2, a2), (4, a4), (5, a5), (6, a6), (37, a37)] h
def ζc (k : Nat) (call : Caller) (a0 a1 : Value) (h : Heap) : Res Value :=
 (boxR a0 h).bind fun v1 h2 =>
 (allocR Prog 31 h2).bind fun v3 h4 =>
 (fieldAddrR Prog 41 v1 3 h4).bind fun v5 h6 =>
 (loadR Prog 3 v5 h6).bind fun v7 h8 =>
 (fieldAddrR Prog 41 v1 6 h8).bind fun v9 h10 =>
 (loadR Prog 3 v9 h10).bind fun v11 h12 =>
 (binR Prog .mul 3 (.int .i64 2) v11 h12).bind fun v13 h14 =>
 (binR Prog .add 3 (.int .i64 4) v13 h14).bind fun v15 h16 =>
 (binR Prog .mul 3 a1 v15 h16).bind fun v17 h18 =>
 (binR Prog .add 3 v7 v17 h18).bind fun v19 h20 =>
 (fieldAddrR Prog 41 v1 0 h20).bindN fun v21 h22 =>
 (loadR Prog 22 v21 h22).bindN fun v23 h24 =>
 (call F.ζ2 [v23, v19, (.int .i64 2)] h24).bindT (fun p27 h28 => (fieldAddrR Prog 41 v1 0 h24).bindN fun v29 h30 => (loadR Prog 22 v29 h30).bindN fun v31 h32 => (binR Prog .add 3 v19 (.int .i64 2) h32).bindN fun v33 h34 => (allocR Prog 31 h34).bindN fun v35 h36 => chkR ((okVal (loadR Prog 22 v29 h20) v31 && true) && true) (.panic p27 h28)) fun v25 h26 =>
 (fieldAddrR Prog 41 v1 0 h26).bindN fun v37 h38 =>
 (loadR Prog 22 v37 h38).bindN fun v39 h40 =>
 (binR Prog .add 3 v19 (.int .i64 2) h40).bindN fun v41 h42 =>
 (call F.ζ2 [v39, v41, (.int .i64 2)] h42).bindT (fun p45 h46 => (allocR Prog 31 h42).bindN fun v47 h48 => chkR ((okVal (loadR Prog 22 v37 h20) v39 && true) && true) (.panic p45 h46)) fun v43 h44 =>
 (buildR Prog 31 [(0, v25), (1, v43)] h44).bindN fun v49 h50 =>
 (allocR Prog 31 h50).bindN fun v51 h52 =>
 (storeR Prog 31 v51 v49 h52).bindN fun _v53 h54 =>
 chkR ((okVal (loadR Prog 22 v37 h20) v39 && true) && true) (
 (fieldAddrR Prog 41 v1 6 h54).bind fun v55 h56 =>
 (loadR Prog 3 v55 h56).bind fun v57 h58 =>
 (binR Prog .gtr 3 v57 (.int .i64 0) h58).bind fun v59 h60 =>
 condV (some v59) (
 (fieldAddrR Prog 41 v1 0 h60).bind fun v61 h62 =>
 (loadR Prog 22 v61 h62).bind fun v63 h64 =>
 (binR Prog .add 3 v19 (.int .i64 4) h64).bind fun v65 h66 =>
 (call F.ζ2 [v63, v65, (.int .i64 2)] h66).bind fun v67 h68 =>
 (fieldAddrR Prog 31 v51 2 h68).bind fun v69 h70 =>
 (storeR Prog 3 v69 v67 h70).bind fun _v71 h72 =>
 ζ7q k call v1 v3 v19 v51 h72)
 (
 ζ7r k call v1 v3 v19 v51 v59 h60))
theorem ζce (k : Nat) (a0 a1 : Value) (h : Heap) : R (T k) F.ζc [a0, a1] h = nrm .gc h (ζc k (R (T k)) a0 a1 h) :=
 (R_body (t := T k) (T_scott k) (by kernel_rfl) (by kernel_rfl) _ _).trans (by kernel_rfl)
theorem ζ5z (k : Nat) (call : Caller) (a2 a4 a5 a6 : Value) (h : Heap) : ζ7q k call a2 a4 a5 a6 h =
 (fieldAddrR Prog 41 a2 6 h).bind fun v73 h74 =>
 (loadR Prog 3 v73 h74).bind fun v75 h76 =>
 (binR Prog .gtr 3 v75 (.int .i64 1) h76).bind fun v77 h78 =>
 condV (some v77) (
 (fieldAddrR Prog 41 a2 0 h78).bind fun v79 h80 =>
 (loadR Prog 22 v79 h80).bind fun v81 h82 =>
 (binR Prog .add 3 a5 (.int .i64 6) h82).bind fun v83 h84 =>
 (call F.ζ2 [v81, v83, (.int .i64 2)] h84).bind fun v85 h86 =>
 (fieldAddrR Prog 31 a6 3 h86).bind fun v87 h88 =>
 (storeR Prog 3 v87 v85 h88).bind fun _v89 h90 =>
 ζ4s k call a4 a6 h90)
 (
 ζ4t k call a2 a4 a5 a6 v77 h78) := by kernel_rfl
theorem ζ9z (k : Nat) (call : Caller) (a2 a4 a5 a6 a28 : Value) (h : Heap) : ζ7r k call a2 a4 a5 a6 a28 h =
 (fieldAddrR Prog 41 a2 6 h).bind fun v91 h92 =>
 (loadR Prog 3 v91 h92).bind fun v93 h94 =>
 (binR Prog .gtr 3 v93 (.int .i64 1) h94).bind fun v95 h96 =>
 condV (some v95) (
 (fieldAddrR Prog 41 a2 0 h96).bind fun v97 h98 =>
 (loadR Prog 22 v97 h98).bind fun v99 h100 =>
 (binR Prog .add 3 a5 (.int .i64 6) h100).bind fun v101 h102 =>
 (call F.ζ2 [v99, v101, (.int .i64 2)] h102).bind fun v103 h104 =>
 (fieldAddrR Prog 31 a6 3 h104).bind fun v105 h106 =>
 (storeR Prog 3 v105 v103 h106).bind fun _v107 h108 =>
 ζ4s k call a4 a6 h108)
 (
 ζ4t k call a2 a4 a5 a6 v95 h96) := by kernel_rfl
theorem ζa0 (k : Nat) (call : Caller) (a4 a6 : Value) (h : Heap) : ζ4s k call a4 a6 h =
 (loadR Prog 31 a6 h).bind fun v109 h110 =>
 (storeR Prog 31 a4 v109 h110).bind fun _v111 h112 =>
 (loadR Prog 31 a4 h112).bind fun v113 h114 =>
 .ok v113 h114 := by kernel_rfl
theorem ζ60 (k : Nat) (call : Caller) (a2 a4 a5 a6 a37 : Value) (h : Heap) : ζ4t k call a2 a4 a5 a6 a37 h =
 (loadR Prog 31 a6 h).bind fun v115 h116 =>
 (storeR Prog 31 a4 v115 h116).bind fun _v117 h118 =>
 (loadR Prog 31 a4 h118).bind fun v119 h120 =>
 .ok v119 h120 := by kernel_rfl
end
end Go.Sw
end
section
namespace Go.Sw
open Go.RowKit
theorem Star.stAll {H0 H : Heap} {L : List It} (h : Star H0 H L) (i : Nat) {c : Nat} {cells : List Value} {e : Nat} (hi : L[i]? = some (itBlk c ⟨cells, e, false⟩)) (vs : List Value) (n : Nat) (hn : cells.length = n) (hv : vs.length = n) :
  ∃ H', stR n (.pointer (some ⟨c, 0, none⟩)) (.agg vs.toArray) H = .ok undef H' ∧ Star H0 H' (L.set i (itBlk c ⟨vs, e, false⟩)) ∧ H'.n = H.n := by
 have hg := h.get i hi;refine ⟨H.set c (some ⟨vs, e, false⟩), ?_, h.step i hi (by simp) (fun d _ hd => ?_) _ ?_ fun b hb => .inl hb, by simp⟩
 ·have hd : cells.drop vs.length = [] := by rw [List.drop_eq_nil_iff]; omega
  simp [hg, hv, hd];rw [hv] at hd;rw [if_pos (by omega), hd];simp
 ·rw [ζ3h];exact fun e => hd (show d ∈ [c] by simp [e])
 ·exact ζ7z _ _ _ (by rw [hg]; rfl)
theorem ζmx (k : Nat) (b : List Int) (hb : Byt b) (i step : Int) (n : Nat) (hi : 0 ≤ i ∧ i < 2 ^ 32) (hs : 0 ≤ step ∧ step ≤ 8) (hn : n < 2 ^ 33) (hl : b.length < 2 ^ 31) (H : Heap) :
  R (T k) F.ζ1g [lv encB b, .int .i64 i, .int .i64 n, .int .i64 step] H = .ok (.int .i64 (needsS b i step n)) H := by
 have hU := fun j H' => refU_run k (H := H') (Sl.lv H' 1 b) hb j 2 (by omega) (by omega);rw [ζcf]
 obtain ⟨x, e', H1, hr, rfl, rfl, a, rfl⟩ := loop_up (body := ζ4v k (R (T k))) n
  (fun j e H' => H' = H ∧ e = [(0, lv encB b), (1, .int .i64 i), (2, .int .i64 n), (3, .int .i64 step), (9, .int .i64 (needsS b i step j)), (10, .int .i64 j)])
  (fun x e H' => H' = H ∧ x = .exit 0 ∧ ∃ a, e = [(0, lv encB b), (1, .int .i64 i), (2, .int .i64 n), (3, .int .i64 step), (9, .int .i64 (needsS b i step n)), (10, a), (13, .bool false)])
  (e0 := [(0, lv encB b), (1, .int .i64 i), (2, .int .i64 n), (3, .int .i64 step), (9, .int .i64 0), (10, .int .i64 0)]) (H0 := H) ⟨rfl, rfl⟩ (by omega)
  (fun j e H' hj ⟨hH, he⟩ => by
   subst he hH;have hlt : (j : Int) < n := by omega
   have hm0 : 0 ≤ (j : Int) * step := Int.mul_nonneg (by omega) hs.1;have hm1 : (j : Int) * step ≤ 8589934592 * 8 := Int.mul_le_mul (by omega) (by omega) (by omega) (by omega);have hu : ∀ H', R (T k) F.ζ2 [lv encB b, .int .i64 (i + (j : Int) * step), .int .i64 2] H' = .ok (.int .i64 (gU b (i + (j : Int) * step) 2)) H' := fun H' => hU _ H';have hg := gU_two hb (i + (j : Int) * step);have hN : needsS b i step (j + 1) = (if gU b (i + (j : Int) * step) 2 + 1 > needsS b i step j then gU b (i + (j : Int) * step) 2 + 1 else needsS b i step j) := by
    unfold needsS;rw [List.range_succ, List.map_append, List.map_singleton, ζfp];split <;> omega
   refine .inl ⟨_, H', ?_, rfl, rfl⟩;rw [ζ62, hN];generalize gU b (i + (j : Int) * step) 2 = y at *;simp -implicitDefEqProofs (disch := omega) [hlt, hu])
  (fun e H' ⟨hH, he⟩ => by
   subst he hH;refine ⟨.exit 0, _, H', ?_, by simp, rfl, rfl, .int .i64 n, rfl⟩;rw [ζ62];simp -implicitDefEqProofs)
 refine nrm_gc (Pure.of ?_) (.int _ _);simp -implicitDefEqProofs [ζ1g, hr, ζ9c]
abbrev rmCells (b : List Int) (n j q S N w : Int) (tb : List Int) (ps : List RP) : List Value :=
 [lv encB b, .int .i64 n, .int .i64 j, .int .i64 q, .int .i64 S, .int .i64 N, .int .i64 w, lv encB tb, lv encRP ps]
abbrev rmV (r : RMach) : Value := .agg (rmCells r.b r.cl r.rowsAt r.entsAt r.states r.n r.words r.tb r.parts).toArray
theorem Flat.rm (r : RMach) : Flat (rmV r) := .aggL (.cons (Flat.B _) (.cons (.int _ _) (.cons (.int _ _) (.cons (.int _ _) (.cons (.int _ _) (.cons (.int _ _) (.cons (.int _ _) (.cons (Flat.B _) (.cons (Flat.RPs _) .nil)))))))))
abbrev rmZ : RMach := ⟨[], 0, 0, 0, 0, 0, 0, [], []⟩
def rmO (o : Option RMach) : Value := rmV (o.getD rmZ)
abbrev zCells : List Value := [.slice none 0 0, .int .i64 0, .int .i64 0, .int .i64 0, .int .i64 0, .int .i64 0, .int .i64 0, .slice none 0 0, .slice none 0 0]
set_option maxHeartbeats 1000000 in
theorem ζr2 (k : Nat) (b : List Int) (hb : Byt b) (hl : b.length < 2 ^ 31) {n w j q : Int} (hn : 4 ≤ n ∧ n ≤ 65535) (hw : 0 ≤ w ∧ w ≤ 2) {rv ev : List Int} (hrv : restS b j = some rv) (hev : restS b q = some ev) (tb : List Int) (ps : List RP) {H0 H : Heap} {z c : Nat}
  (g : Star H0 H [itBlk z ⟨zCells, 1, false⟩, itBlk c ⟨rmCells b n j q 2 0 w tb ps, 1, false⟩]) :
  match closeA rv ev n w 2 with
  | some x => ∃ H' S N, loopN (ζ2f k (R (T k))) loopFuel [(0, lv encB b), (6, ptrV z), (8, ptrV c), (11, .bool true), (12, .int .i64 (4 + 2 * w))] H = .ok (.ret, [(6, ptrV z), (7, .bool true)]) H' ∧ Ext H0 H' ∧ H'.get z = some ⟨rmCells b n j q S N w tb ps, 1, false⟩ ∧ S = x.1.length ∧ N = x.2.length
  | none => ∃ H', loopN (ζ2f k (R (T k))) loopFuel [(0, lv encB b), (6, ptrV z), (8, ptrV c), (11, .bool true), (12, .int .i64 (4 + 2 * w))] H = .ok (.exit 0, [(0, lv encB b), (6, ptrV z), (8, ptrV c), (12, .int .i64 (4 + 2 * w)), (81, .bool false)]) H' ∧ Ext H0 H' ∧ H'.get z = some ⟨zCells, 1, false⟩ := by
 have hj := (ζ35.1 hrv).1;have hq := (ζ35.1 hev).1;have hbE := hb.rest hev;have hbR := hb.rest hrv;obtain ⟨n, rfl⟩ := Int.eq_ofNat_of_zero_le (show 0 ≤ n by omega);have hRows := fun i n z H' => ζ83 k b.length i n z (by omega) (by omega) H'
 obtain ⟨x, e', H1, hr, hQ⟩ := loopDec (body := ζ2f k (R (T k)))
  (fun m e H' => ∃ (S N : Nat) (fl : Bool), e = [(0, lv encB b), (6, ptrV z), (8, ptrV c), (11, .bool fl), (12, .int .i64 (4 + 2 * w))] ∧ 2 ≤ S ∧ S ≤ 65536 ∧ N ≤ 65536 ∧ Star H0 H' [itBlk z ⟨zCells, 1, false⟩, itBlk c ⟨rmCells b n j q S N w tb ps, 1, false⟩] ∧
   (fl = true → m = (65537 - S) * 65538 + (65537 - N) + 1 ∧ closeA rv ev n w 2 = closeA rv ev n w S ∧ ∀ rs, rowsTo rv n S = some rs → (N : Int) ≤ needR rs) ∧ (fl = false → m = 0 ∧ closeA rv ev n w 2 = none))
  (fun x e H' => (∃ (y : List (List Int) × List En) (S N : Int), closeA rv ev n w 2 = some y ∧ x = .ret ∧ e = [(6, ptrV z), (7, .bool true)] ∧ Ext H0 H' ∧ H'.get z = some ⟨rmCells b n j q S N w tb ps, 1, false⟩ ∧ S = y.1.length ∧ N = y.2.length) ∨
   (closeA rv ev n w 2 = none ∧ x = .exit 0 ∧ e = [(0, lv encB b), (6, ptrV z), (8, ptrV c), (12, .int .i64 (4 + 2 * w)), (81, .bool false)] ∧ Ext H0 H' ∧ H'.get z = some ⟨zCells, 1, false⟩))
  ((65537 - 2) * 65538 + 65537 + 1) (e0 := [(0, lv encB b), (6, ptrV z), (8, ptrV c), (11, .bool true), (12, .int .i64 (4 + 2 * w))]) (H0 := H) ⟨2, 0, true, rfl, by omega, by omega, by omega, g, fun _ => ⟨rfl, rfl, fun rs _ => ζ6t rs⟩, fun h => by cases h⟩ (by omega)
  (fun m e H' ⟨S, N, fl, he, hS2, hS6, hN6, g, ht, hf⟩ => by
   subst he;cases fl with
   | false =>
    obtain ⟨hm, hc⟩ := hf rfl;refine .inr ⟨.exit 0, _, H', ?_, by simp, .inr ⟨hc, rfl, rfl, g.ext, g.get 0 rfl⟩⟩;rw [ζ1j];simp -implicitDefEqProofs
   | true =>
    obtain ⟨hm, hc, hNle⟩ := ht rfl;clear hf ht;have hcA := ζme (rv := rv) hbE (n := (n : Int)) (w := w) hS6;have hM := g.get 1 rfl;have hcn : ¬ c = H'.n := by have := Heap.get_lt hM; omega
    have e0 : stR 9 (.pointer (some ⟨H'.n, 0, none⟩)) (.agg (rmCells b n j q S N w tb ps).toArray) (H'.push ⟨zCells, 1, false⟩) = .ok undef (H'.push ⟨rmCells b n j q S N w tb ps, 1, false⟩) := by simp
    have g1 := g.push ⟨rmCells b n j q S N w tb ps, 1, false⟩;obtain ⟨P, hP⟩ : ∃ P, P = H'.push ⟨rmCells b n j q S N w tb ps, 1, false⟩ := ⟨_, rfl⟩
    rw [← hP] at g1 e0;simp only [List.cons_append, List.nil_append] at g1;have hMP := g1.get 1 rfl;have hWP := g1.get 2 rfl;have hre := ζpk hrv (show (0 : Int) < n by omega) (s := S) (by omega);have hR1 := fun H' => hRows j S (2 * n) H';cases hrt : rowsTo rv n S with
    | none =>
     rw [hrt] at hre;simp at hre;rw [hre] at hR1;rw [hrt] at hcA;refine .inl ⟨0, _, P, ?_, by omega, S, N, false, rfl, hS2, hS6, hN6, g1.take 2, (fun h => by cases h), fun _ => ⟨rfl, by rw [hc, hcA]; rfl⟩⟩;rw [ζ1j];simp -implicitDefEqProofs (disch := omega) [-stR_ptr, hM, e0, hMP, hR1, ζak, ζ6h]
    | some rs =>
     rw [hrt] at hre;simp at hre;rw [hre] at hR1;rw [hrt, Option.bind_some] at hcA;have hrl : rs.length = S := by have := mapO_len hrt; simpa using this
     have hneed := ζpj hrv (show (0 : Int) < n by omega) hrt;have hNle := hNle rs hrt;have hn6 := ζc8 hbR hrt;have hn0 := ζ6t rs;have hSn : (S : Int) * (n : Int) = ((S * n : Nat) : Int) := by simp
     have hSnb : S * n ≤ 65536 * 65535 := Nat.mul_le_mul (by omega) (by omega);rw [Int.toNat_natCast] at hneed;have hnr := fun H' => ζmx k b hb j 2 (S * n) (by omega) (by omega) (by omega) hl H';rw [hneed, ← hSn] at hnr;obtain ⟨N', hN'⟩ : ∃ N' : Nat, (N' : Int) = needR rs := ⟨(needR rs).toNat, by omega⟩
     have hmx : (if needR rs > N then needR rs else (N : Int)) = (N' : Int) := by rw [hN']; split <;> omega
     obtain ⟨P2, e2, g2, _⟩ := g1.stCell 1 rfl 5 (v := .int .i64 N') rfl rfl (by simp);simp only [List.set_cons_zero, List.set_cons_succ] at g2;have hMP2 := g2.get 1 rfl;have hWP2 := g2.get 2 rfl;have hR2 := fun H' => hRows q N' (4 + 2 * w) H';have hee := ζop hev hw.1 N';have hb1 : (S : Int) * (n : Int) ≤ 65536 * 65535 := by omega
     have hb0 : 0 ≤ (S : Int) * (n : Int) := by omega
     rw [show (needR rs).toNat = N' by omega] at hcA;cases het : entsTo ev w N' with
     | none =>
      rw [het] at hee;simp at hee;rw [hee] at hR2;rw [het] at hcA;refine .inl ⟨0, _, P2, ?_, by omega, S, N', false, rfl, hS2, hS6, by omega, g2.take 2, (fun h => by cases h), fun _ => ⟨rfl, by rw [hc, hcA]; rfl⟩⟩;rw [ζ1j];simp -implicitDefEqProofs (disch := omega) [-stR_ptr, hM, e0, hMP, hR1, hnr, hmx, e2, hMP2, hR2, ζ2w, ζ6h]
     | some es =>
      rw [het] at hee;simp at hee;rw [hee] at hR2;rw [het, Option.bind_some] at hcA;have hel : es.length = N' := by have := mapO_len het; simpa using this
      have hE := needE_le hbE het;have hneed2 := ζoo hev hw het;have hnr2 := fun H' => ζmx k b hb q (4 + 2 * w) N' (by omega) (by omega) (by omega) hl H';rw [hneed2] at hnr2;obtain ⟨S', hS'⟩ : ∃ S' : Nat, (S' : Int) = max (S : Int) (needE es) := ⟨(max (S : Int) (needE es)).toNat, by omega⟩
      have hEe : needE es = max 2 (needL (es.map En.next)) := rfl;have hmx2 : (if needL (es.map En.next) > S then needL (es.map En.next) else (S : Int)) = (S' : Int) := by rw [hS', hEe]; split <;> omega
      have hL6 : needL (es.map En.next) ≤ 65536 := by omega
      obtain ⟨P3, e3, g3, _⟩ := g2.stCell 1 rfl 4 (v := .int .i64 S') rfl rfl (by simp);simp only [List.set_cons_zero, List.set_cons_succ] at g3;have hMP3 := g3.get 1 rfl;have hWP3 := g3.get 2 rfl;by_cases hsame : S' = S ∧ N' = N
      ·obtain ⟨rfl, rfl⟩ := hsame;rw [if_pos (by omega)] at hcA;obtain ⟨P4, e4, g4, _⟩ := g3.stAll 0 rfl (rmCells b n j q S' N' w tb ps) 9 rfl rfl;simp only [List.set_cons_zero, List.set_cons_succ] at g4;refine .inr ⟨.ret, _, P4, ?_, by simp, .inl ⟨_, S', N', by rw [hc, hcA], rfl, rfl, g4.ext, g4.get 0 rfl, by rw [hrl], by rw [hel]⟩⟩;rw [ζ1j];simp -implicitDefEqProofs (disch := omega) [-stR_ptr, hM, e0, hMP, hR1, hnr, hmx, e2, hMP2, hR2, ζ2w, hnr2, hmx2, e3, hMP3, hWP3, ζ3u, e4]
      ·refine .inl ⟨(65537 - S') * 65538 + (65537 - N') + 1, _, P3, ?_, ?_, S', N', true, rfl, by omega, by omega, by omega, g3.take 2, fun _ => ⟨rfl, ?_, ?_⟩, fun h => by cases h⟩
       ·by_cases hs1 : S' = S
        ·have hs2 : ((N' : Int) == (N : Int)) = false := by simp; omega
         subst hs1;rw [ζ1j];simp -implicitDefEqProofs (disch := omega) [-stR_ptr, hM, e0, hMP, hR1, hnr, hmx, e2, hMP2, hR2, ζ2w, hnr2, hmx2, e3, hMP3, hWP3, ζ3u, hs2]
        ·have hs2 : ((S' : Int) == (S : Int)) = false := by simp; omega
         rw [ζ1j];simp -implicitDefEqProofs (disch := omega) [-stR_ptr, hM, e0, hMP, hR1, hnr, hmx, e2, hMP2, hR2, ζ2w, hnr2, hmx2, e3, hMP3, hWP3, ζ3u, hs2]
       ·omega
       ·rw [hc];by_cases hcl : (needE es).toNat ≤ S
        ·rw [show S' = S by omega]
        ·rw [hcA, if_neg hcl, show S' = (needE es).toNat by omega]
       ·intro rt hrt2;have := ζp9 (s := S) (t := S') (by omega) hrt hrt2;omega)
 rcases hQ with ⟨y, S, N, h1, rfl, rfl, h2, h3, h4⟩ | ⟨h1, rfl, rfl, h2, h3⟩
 ·rw [h1]; exact ⟨H1, S, N, hr, h2, h3, h4⟩
 ·rw [h1]; exact ⟨H1, hr, h2, h3⟩
end Go.Sw
end
