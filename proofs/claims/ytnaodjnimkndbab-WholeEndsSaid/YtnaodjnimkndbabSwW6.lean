/-
  Functions' forms, and what is proved of them, part 6.
-/
import Derived.Test.YtnaodjnimkndbabSwW4
import Derived.Test.YtnaodjnimkndbabSwW5
import Derived.Test.YtnaodjnimkndbabSwCfg
import Derived.Test.YtnaodjnimkndbabSwW1
import Derived.Test.YtnaodjnimkndbabSwLib8
import Derived.Test.YtnaodjnimkndbabSwW3
import Derived.Tactics
import Derived.Tactics2
import Derived.Defers
import Derived.Recover
import Derived.Laws.Pointers
set_option linter.unusedSimpArgs false
set_option linter.unusedVariables false
set_option linter.unusedSectionVars false
section
namespace Go.Sw
open Go.RowKit
theorem restS_iff {b rv : List Int} {j : Int} : restS b j = some rv ↔ (0 ≤ j ∧ j ≤ b.length) ∧ rv = b.drop j.toNat := by
 unfold restS
 split
 ·rename_i h
  exact ⟨fun e => by injection e with e; exact ⟨h, e.symm⟩, fun e => by rw [e.2]⟩
 ·rename_i h
  exact ⟨fun e => (by cases e), fun e => absurd e.1 h⟩
theorem restS_length {b rv : List Int} {j : Int} (h : restS b j = some rv) : (rv.length : Int) = b.length - j := by
 obtain ⟨h1, rfl⟩ := restS_iff.1 h
 simp
 omega
theorem uS_rest {b rv : List Int} {j : Int} (h : restS b j = some rv) {x : Int} (hx : 0 ≤ x) (z : Int) : uS rv x z = uS b (j + x) z := by
 have hl := restS_length h
 obtain ⟨h1, rfl⟩ := restS_iff.1 h
 unfold uS pieceS
 by_cases hc : 0 ≤ z ∧ x ≤ b.length - j ∧ z ≤ b.length - j - x
 ·rw [if_pos (by omega), if_pos (by omega), List.drop_drop, show j.toNat + x.toNat = (j + x).toNat by omega]
 ·rw [if_neg (by omega), if_neg (by omega)]
theorem rowK_iff {rv : List Int} {n : Int} (hn : 0 < n) {k : Nat} : (rowK rv n k).isSome = true ↔ 2 * n * (k + 1) ≤ rv.length := by
 unfold rowK
 rw [listS_isSome (by omega), rowsB_iff (by omega)]
 have h0 : 0 ≤ 2 * n * (k : Int) := Int.mul_nonneg (by omega) (by omega)
 have h1 : 2 * n * ((k : Int) + 1) = 2 * n * k + 2 * n := by rw [Int.mul_add]; omega
 constructor
 ·rintro ⟨_, _, _, h⟩; omega
 ·intro h; exact ⟨h0, by omega, by omega, by omega⟩
theorem row_at {b rv : List Int} {j : Int} (h : restS b j = some rv) {n : Int} {k : Nat} {r : List Int} (hn : 0 < n) (hr : rowK rv n k = some r) : r = (List.range n.toNat).map fun i => gU b (j + (n * k + (i : Nat)) * 2) 2 := by
 have hs := (rowK_iff (rv := rv) (k := k) hn).1 (by rw [hr]; rfl)
 have hr' := hr
 unfold rowK listS at hr'
 obtain ⟨q, hq, hqr⟩ := Option.map_eq_some_iff.1 hr'
 have hlen : r.length = n.toNat := by rw [← hqr]; simp
 have hk0 : 0 ≤ n * (k : Int) := Int.mul_nonneg (by omega) (by omega)
 apply List.ext_getElem?
 intro i
 by_cases hi : i < n.toNat
 ·rw [listS_get (by omega) hr i (by omega), List.getElem?_map, List.getElem?_range hi, uS_rest h (by rw [Int.mul_assoc]; omega)]
  have e : j + (2 * n * (k : Int) + (i : Int) * 2) = j + (n * k + (i : Nat)) * 2 := by rw [Int.mul_assoc, Int.add_mul]; omega
  rw [e]
  have hlen := restS_length h
  have hj := (restS_iff.1 h).1
  have h1 : 2 * n * ((k : Int) + 1) = 2 * (n * k) + 2 * n := by rw [Int.mul_add, Int.mul_assoc]; omega
  obtain ⟨x, hx⟩ : ∃ x, uS b (j + (n * k + (i : Nat)) * 2) 2 = some x := uS_of_in (by unfold inS; exact decide_eq_true (by rw [Int.add_mul]; omega))
  rw [hx, Option.map_some, gU_some hx]
 ·rw [List.getElem?_eq_none (by omega), List.getElem?_eq_none (by simp; omega)]
end Go.Sw
end
section
namespace Go.Sw
open Go.RowKit
theorem twos_get (l : List Int) (pre rest : List Int) (i : Nat) (x : Int) (hx : l[i]? = some x) (hb : 0 ≤ x ∧ x < 65536) (p : Int) (hp : p = pre.length + 2 * i) : uS (pre ++ (twos l ++ rest)) p 2 = some x := by
 obtain ⟨hi, hg⟩ := List.getElem?_eq_some_iff.1 hx
 have e : twos l = twos (l.take i) ++ (bytesOf x 2 ++ twos (l.drop (i + 1))) := by
  have : l = l.take i ++ ([x] ++ l.drop (i + 1)) := by
   rw [← hg, List.singleton_append, ← List.drop_eq_getElem_cons hi, List.take_append_drop]
  conv => lhs; rw [this]
  simp [twos]
 rw [e, ← List.append_assoc]
 have h := uS_at (pre ++ twos (l.take i)) (twos (l.drop (i + 1)) ++ rest) (n := x) (k := 2) p 2 (by rw [List.length_append, twos_len, List.length_take]; omega) rfl hb.1 (by simpa using hb.2)
 simpa [List.append_assoc] using h
theorem twos_flat (n : Nat) : ∀ rs : List (List Int), rowsL n rs = twos (rs.map (rowL n)).flatten
 | [] => rfl
 | r :: rs => by
  have ih := twos_flat n rs
  unfold rowsL at ih ⊢
  rw [List.map_cons, List.flatten_cons, ih]
  simp [twos]
theorem flat_get {n : Nat} : ∀ {rs : List (List Int)} {s i : Nat} {r : List Int}, (∀ r, r ∈ rs → r.length = n) → rs[s]? = some r → i < n → rs.flatten[n * s + i]? = r[i]?
 | [], s, i, r, _, h, _ => by simp at h
 | q :: rs, 0, i, r, hl, h, hi => by
  simp at h
  subst h
  have := hl q (by simp)
  rw [List.flatten_cons, Nat.mul_zero, Nat.zero_add, List.getElem?_append_left (by omega)]
 | q :: rs, s + 1, i, r, hl, h, hi => by
  have h1 := hl q (by simp)
  have := flat_get (s := s) (i := i) (fun r hr => hl r (List.mem_cons_of_mem _ hr)) (by simpa using h) hi
  rw [List.flatten_cons, List.getElem?_append_right (by rw [h1, Nat.mul_succ]; omega), h1, ← this]
  congr 1
  rw [Nat.mul_succ]; omega
theorem restS_all (b : List Int) : restS b 0 = some b := by
 unfold restS
 rw [if_pos ⟨Int.le_refl _, by omega⟩]
 rfl
theorem rowK_plan {n : Nat} (hn : 0 < n) {rs : List (List Int)} (hb : ∀ r, r ∈ rs → Byt r) (x : List Int) {s : Nat} {r : List Int} (hr : rs[s]? = some r) : rowK (rowsL n rs ++ x) n s = some (rowL n r) := by
 have hs := (List.getElem?_eq_some_iff.1 hr).1
 have hlen : (n * 2) * (s + 1) ≤ rs.length * (n * 2) := by rw [Nat.mul_comm]; exact Nat.mul_le_mul_right _ hs
 have hsome : (rowK (rowsL n rs ++ x) n s).isSome = true := by
  rw [rowK_iff (by omega), List.length_append, rowsL_len]
  have h2 : (2 * (n : Int) * ((s : Int) + 1)) = (((n * 2) * (s + 1) : Nat) : Int) := by simp [Int.mul_comm]
  rw [h2]
  omega
 obtain ⟨q, hq⟩ := Option.isSome_iff_exists.1 hsome
 have hat := row_at (restS_all _) (show (0 : Int) < n by omega) hq
 rw [hq, hat]
 congr 1
 rw [Int.toNat_natCast]
 unfold rowL
 apply List.map_congr_left
 intro i hi
 have hi := List.mem_range.1 hi
 have hg : (rs.map (rowL n)).flatten[n * s + i]? = some (r[i]?.getD 0) := by
  rw [flat_get (r := rowL n r) (fun q hq => by obtain ⟨p, _, rfl⟩ := List.mem_map.1 hq; exact rowL_len _ _) (by rw [List.getElem?_map, hr]; rfl) hi]
  unfold rowL
  rw [List.getElem?_map, List.getElem?_range hi]
  rfl
 have hbd : 0 ≤ r[i]?.getD 0 ∧ r[i]?.getD 0 < 256 := by
  cases h : r[i]? with
  | none => simp
  | some y => exact hb r (List.mem_of_getElem? hr) y (List.mem_of_getElem? h)
 rw [twos_flat]
 have := twos_get _ [] x (n * s + i) _ hg ⟨hbd.1, by omega⟩ (0 + ((n : Int) * s + i) * 2) (by simp; omega)
 rw [List.nil_append] at this
 rw [gU_some this]
def entM (w : Int) (e : En) : En := ⟨m16 e.next, m16 e.flags, if 0 < w then m16 e.a else 0, if 1 < w then m16 e.b else 0⟩
theorem entB_length {w : Int} (hw : w = 0 ∨ w = 1 ∨ w = 2) (e : En) : (entB w e).length = (4 + 2 * w).toNat := by
 unfold entB
 simp only [List.length_append, bytesOf_len]
 rcases hw with rfl | rfl | rfl <;> simp
theorem entK_plan {w : Int} (hw : w = 0 ∨ w = 1 ∨ w = 2) {es : List En} (x : List Int) {i : Nat} {e : En} (he : es[i]? = some e) : entK (entsB w es ++ x) w i = some (entM w e) := by
 obtain ⟨hi, hg⟩ := List.getElem?_eq_some_iff.1 he
 have hall : entsB w es = entsB w (es.take i) ++ (entB w e ++ entsB w (es.drop (i + 1))) := by
  have : es = es.take i ++ ([e] ++ es.drop (i + 1)) := by
   rw [← hg, List.singleton_append, ← List.drop_eq_getElem_cons hi, List.take_append_drop]
  conv => lhs; rw [this]
  simp [entsB]
 have hl : (entsB w (es.take i)).length = i * (4 + 2 * w).toNat := by
  unfold entsB
  rw [flat_len (z := (4 + 2 * w).toNat) (fun r hr => by obtain ⟨p, _, rfl⟩ := List.mem_map.1 hr; exact entB_length hw p), List.length_map, List.length_take, Nat.min_eq_left (by omega)]
 unfold entK
 have hp : pieceS (entsB w es ++ x) ((4 + 2 * w) * i) (4 + 2 * w) = some (entB w e) := by
  rw [hall, List.append_assoc, List.append_assoc]
  refine pieceS_at _ _ _ _ _ ?_ ?_
  ·rw [hl, Int.mul_comm]
   have : (((4 + 2 * w).toNat : Nat) : Int) = 4 + 2 * w := by omega
   rw [Int.natCast_mul, this]
  ·rw [entB_length hw]; omega
 rw [hp, Option.map_some]
 congr 1
 have b1 := m16_bound e.next
 have b2 := m16_bound e.flags
 have b3 := m16_bound e.a
 have b4 := m16_bound e.b
 have at_ : ∀ (p q : List Int) (n i : Int), i = p.length → 0 ≤ n → n < 65536 → gU (p ++ (bytesOf n 2 ++ q)) i 2 = n := fun p q n i hi h0 h1 => gU_some (uS_at p q i 2 hi rfl h0 (by simpa using h1))
 unfold entOf entM entB
 rcases hw with rfl | rfl | rfl
 ·simp
  exact ⟨at_ [] _ _ 0 (by simp) b1.1 b1.2, by simpa using at_ (bytesOf (m16 e.next) 2) [] _ 2 (by simp) b2.1 b2.2⟩
 ·simp
  exact ⟨at_ [] _ _ 0 (by simp) b1.1 b1.2, at_ (bytesOf (m16 e.next) 2) _ _ 2 (by simp) b2.1 b2.2, by simpa using at_ (bytesOf (m16 e.next) 2 ++ bytesOf (m16 e.flags) 2) [] _ 4 (by simp) b3.1 b3.2⟩
 ·simp
  exact ⟨at_ [] _ _ 0 (by simp) b1.1 b1.2, at_ (bytesOf (m16 e.next) 2) _ _ 2 (by simp) b2.1 b2.2, by simpa [List.append_assoc] using at_ (bytesOf (m16 e.next) 2 ++ bytesOf (m16 e.flags) 2) (bytesOf (m16 e.b) 2) _ 4 (by simp) b3.1 b3.2,
   by simpa [List.append_assoc] using at_ (bytesOf (m16 e.next) 2 ++ (bytesOf (m16 e.flags) 2 ++ bytesOf (m16 e.a) 2)) [] _ 6 (by simp) b4.1 b4.2⟩
def planRoom (p : Plan) (w : Int) (rm : List Int) : List Int :=
 bytesOf (planN p : Int) 4 ++ (bytesOf (16 + rm.length : Int) 4 ++ (bytesOf (16 + rm.length + (ofS p.cls).length : Int) 4 ++ (bytesOf (16 + rm.length + (ofS p.cls).length + (rowsL (planN p) p.rows).length : Int) 4 ++ (rm ++ (ofS p.cls ++ (rowsL (planN p) p.rows ++ entsB w p.ents))))))
theorem planBytes_room (p : Plan) (w : Int) (room : Nat) : planBytes p w room = planRoom p w (List.replicate room 0) := by
 unfold planBytes planRoom
 simp [List.append_assoc]
def tabOf (cls : List Int) : Int × List Pt := (8, if cls = [] then [] else [⟨0, (cls.length : Int) - 1, cls⟩])
theorem twos_list (l : List Int) (pre rest : List Int) (hb : ∀ x, x ∈ l → 0 ≤ x ∧ x < 65536) (i : Int) (hi : i = pre.length) : listS (pre ++ (twos l ++ rest)) i l.length 2 = some l := by
 have hs : (listS (pre ++ (twos l ++ rest)) i l.length 2).isSome = true := by
  rw [listS_isSome (by omega), rowsB_iff (by omega)]
  simp [twos_len]
  omega
 obtain ⟨vs, hv⟩ := Option.isSome_iff_exists.1 hs
 rw [hv]
 congr 1
 have hlen : vs.length = l.length := by
  unfold listS at hv
  obtain ⟨r, _, rfl⟩ := Option.map_eq_some_iff.1 hv
  simp
 apply List.ext_getElem?
 intro j
 by_cases hj : j < l.length
 ·obtain ⟨x, hx⟩ : ∃ x, l[j]? = some x := ⟨_, List.getElem?_eq_getElem hj⟩
  rw [listS_get (by omega) hv j (by omega), hx]
  exact twos_get l pre rest j x hx (hb x (List.mem_of_getElem? hx)) _ (by omega)
 ·rw [List.getElem?_eq_none (by omega), List.getElem?_eq_none (by omega)]
theorem look_ofS (cls : List Int) (hb : ∀ x, x ∈ cls → 0 ≤ x ∧ x < 65536) (hl : cls.length ≤ 65535) (rest : List Int) (g : Int) : lookS (ofS cls ++ rest) g 2 = some (tabOf cls) := by
 have h0 : uS (ofS cls ++ rest) 0 2 = some 8 := by
  have := uS_at [] (bytesOf 0 2 ++ (bytesOf cls.length 2 ++ (twos cls ++ rest))) (n := 8) (k := 2) 0 2 rfl rfl (by omega) (by decide)
  simpa [ofS, List.append_assoc] using this
 have h2 : uS (ofS cls ++ rest) 2 2 = some 0 := by
  have := uS_at (bytesOf 8 2) (bytesOf cls.length 2 ++ (twos cls ++ rest)) (n := 0) (k := 2) 2 2 (by simp) rfl (by omega) (by decide)
  simpa [ofS, List.append_assoc] using this
 have h4 : uS (ofS cls ++ rest) (2 + 2) 2 = some (cls.length : Int) := by
  have := uS_at (bytesOf 8 2 ++ bytesOf 0 2) (twos cls ++ rest) (n := cls.length) (k := 2) (2 + 2) 2 (by simp) rfl (by omega) (by simp; omega)
  simpa [ofS, List.append_assoc] using this
 have h6 : listS (ofS cls ++ rest) (2 + 4) cls.length 2 = some cls := by
  have := twos_list cls (bytesOf 8 2 ++ bytesOf 0 2 ++ bytesOf cls.length 2) rest hb (2 + 4) (by simp)
  simpa [ofS, List.append_assoc] using this
 unfold lookS partsS
 rw [h0, Option.bind_some]
 simp only [show ¬ ((8 : Int) = 0) by decide, show ¬ ((8 : Int) = 2) by decide, show ¬ ((8 : Int) = 4) by decide, show ¬ ((8 : Int) = 6) by decide, if_false, if_true]
 unfold trimS
 rw [h2, Option.bind_some, h4, Option.bind_some, if_pos (by omega), h6, Option.map_some, Option.bind_some]
 unfold tabOf
 by_cases hc : cls = []
 ·subst hc; rfl
 ·rw [if_neg hc, if_neg (show ¬ ((cls.length : Int) = 0) by have := List.length_pos_iff.2 hc; omega)]
  simp [risesS]
theorem pieces_of (p : Plan) (w : Int) (rm more : List Int) (hrm : rm.length ≤ 1000) (h1 : p.cls.length ≤ 1000) (h2 : p.rows.length ≤ 1000) (hn : planN p ≤ 11) :
  let b := planRoom p w rm ++ more
  uS b 0 4 = some (planN p : Int) ∧ uS b 4 4 = some (16 + rm.length : Int) ∧ restS b (16 + rm.length : Int) = some (ofS p.cls ++ (rowsL (planN p) p.rows ++ (entsB w p.ents ++ more))) ∧
  uS b 8 4 = some (16 + rm.length + (ofS p.cls).length : Int) ∧ restS b (16 + rm.length + (ofS p.cls).length : Int) = some (rowsL (planN p) p.rows ++ (entsB w p.ents ++ more)) ∧
  uS b 12 4 = some (16 + rm.length + (ofS p.cls).length + (rowsL (planN p) p.rows).length : Int) ∧ restS b (16 + rm.length + (ofS p.cls).length + (rowsL (planN p) p.rows).length : Int) = some (entsB w p.ents ++ more) := by
 intro b
 have hofl : (ofS p.cls).length = 6 + p.cls.length * 2 := by unfold ofS; simp [twos_len]; omega
 have hrl : (rowsL (planN p) p.rows).length ≤ 1000 * 22 := by rw [rowsL_len]; exact Nat.mul_le_mul h2 (by omega)
 have rest : ∀ (pre q : List Int) (i : Int), i = pre.length → restS (pre ++ q) i = some q := fun pre q i hi => by
  subst hi
  unfold restS
  rw [if_pos ⟨by omega, by simp; omega⟩]
  simp
 have hb : b = bytesOf (planN p : Int) 4 ++ (bytesOf (16 + rm.length : Int) 4 ++ (bytesOf (16 + rm.length + (ofS p.cls).length : Int) 4 ++ (bytesOf (16 + rm.length + (ofS p.cls).length + (rowsL (planN p) p.rows).length : Int) 4 ++ (rm ++ (ofS p.cls ++ (rowsL (planN p) p.rows ++ (entsB w p.ents ++ more))))))) := by
  show planRoom p w rm ++ more = _
  unfold planRoom
  simp only [List.append_assoc]
 rw [hb]
 refine ⟨?_, ?_, ?_, ?_, ?_, ?_, ?_⟩
 ·exact uS_at [] _ 0 4 rfl rfl (by omega) (by simp; omega)
 ·exact uS_at (bytesOf (planN p : Int) 4) _ 4 4 (by simp) rfl (by omega) (by simp; omega)
 ·have := rest (bytesOf (planN p : Int) 4 ++ (bytesOf (16 + rm.length : Int) 4 ++ (bytesOf (16 + rm.length + (ofS p.cls).length : Int) 4 ++ (bytesOf (16 + rm.length + (ofS p.cls).length + (rowsL (planN p) p.rows).length : Int) 4 ++ rm)))) (ofS p.cls ++ (rowsL (planN p) p.rows ++ (entsB w p.ents ++ more))) (16 + rm.length) (by simp; omega)
  simpa only [List.append_assoc] using this
 ·have := uS_at (bytesOf (planN p : Int) 4 ++ bytesOf (16 + rm.length : Int) 4) (bytesOf (16 + rm.length + (ofS p.cls).length + (rowsL (planN p) p.rows).length : Int) 4 ++ (rm ++ (ofS p.cls ++ (rowsL (planN p) p.rows ++ (entsB w p.ents ++ more))))) (n := 16 + rm.length + (ofS p.cls).length) (k := 4) 8 4 (by simp) rfl (by omega) (by simp; omega)
  simpa only [List.append_assoc] using this
 ·have := rest (bytesOf (planN p : Int) 4 ++ (bytesOf (16 + rm.length : Int) 4 ++ (bytesOf (16 + rm.length + (ofS p.cls).length : Int) 4 ++ (bytesOf (16 + rm.length + (ofS p.cls).length + (rowsL (planN p) p.rows).length : Int) 4 ++ (rm ++ ofS p.cls))))) (rowsL (planN p) p.rows ++ (entsB w p.ents ++ more)) (16 + rm.length + (ofS p.cls).length) (by simp; omega)
  simpa only [List.append_assoc] using this
 ·have := uS_at (bytesOf (planN p : Int) 4 ++ bytesOf (16 + rm.length : Int) 4 ++ bytesOf (16 + rm.length + (ofS p.cls).length : Int) 4) (rm ++ (ofS p.cls ++ (rowsL (planN p) p.rows ++ (entsB w p.ents ++ more)))) (n := 16 + rm.length + (ofS p.cls).length + (rowsL (planN p) p.rows).length) (k := 4) 12 4 (by simp) rfl (by omega) (by simp; omega)
  simpa only [List.append_assoc] using this
 ·have := rest (bytesOf (planN p : Int) 4 ++ (bytesOf (16 + rm.length : Int) 4 ++ (bytesOf (16 + rm.length + (ofS p.cls).length : Int) 4 ++ (bytesOf (16 + rm.length + (ofS p.cls).length + (rowsL (planN p) p.rows).length : Int) 4 ++ (rm ++ (ofS p.cls ++ rowsL (planN p) p.rows)))))) (entsB w p.ents ++ more) (16 + rm.length + (ofS p.cls).length + (rowsL (planN p) p.rows).length) (by simp; omega)
  simpa only [List.append_assoc] using this
theorem plan_mach (p : Plan) (hp : p.ok) (w : Int) (rm more : List Int) (hrm : rm.length ≤ 1000) (h1 : p.cls.length ≤ 1000) (h2 : p.rows.length ≤ 1000) (g : Int) :
  machS (planRoom p w rm ++ more) g w = (closeA (rowsL (planN p) p.rows ++ (entsB w p.ents ++ more)) (entsB w p.ents ++ more) (planN p) w 2).map fun x => ⟨planN p, tabOf p.cls, x.1, x.2⟩ := by
 have hN := planN_eq p hp.2.2
 obtain ⟨e1, e2, e3, e4, e5, e6, e7⟩ := pieces_of p w rm more hrm h1 h2 hN.2
 have hn4 : 4 ≤ planN p := by unfold planN; omega
 unfold machS
 rw [e1, Option.bind_some, if_pos (by omega), e2, Option.bind_some, e3, Option.bind_some, look_ofS p.cls (fun x hx => by have := hp.1 x hx; omega) (by omega) _ g, Option.bind_some, e4, Option.bind_some, e5, Option.bind_some, e6, Option.bind_some, e7, Option.bind_some]
end Go.Sw
end
section
set_option maxRecDepth 100000
set_option linter.unusedVariables false
namespace Go.Sw
noncomputable section
end
end Go.Sw
end
section
namespace Go.Sw
open Go.RowKit
end Go.Sw
end
section
namespace Go.Sw
open Go.RowKit
end Go.Sw
end
section
namespace Go.Sw
theorem row_I {r : List Da} {cs : List Value} (h : LayRow [.int .i64] r cs) : ∃ n : Int, cs = encI n ∧ (Lit.int .i64 n).wf = true := by
 obtain ⟨d, v, ds, vs, rfl, h1, h2⟩ := h.head
 obtain rfl := h2.done
 obtain ⟨n, rfl, w⟩ := h1.intv
 exact ⟨n, rfl, w⟩
theorem wf_u8 {n : Int} (h : (Lit.int .u8 n).wf = true) : 0 ≤ n ∧ n < 256 := by
 simp [Lit.wf, IntKind.min, IntKind.max, IntKind.signed, IntKind.bits] at h
 omega
theorem arg_i {k : IntKind} {v : Value} (h : ArgLay (.one (.int k)) v) : ∃ n, v = .int k n ∧ (Lit.int k n).wf = true := by
 obtain ⟨d, h1⟩ := h.cell
 exact h1.intv
end Go.Sw
end
section
namespace Go.Sw
open Go.RowKit
end Go.Sw
end
section
namespace Go.Sw
open Go.RowKit
theorem planRoom_byt {p : Plan} (hp : p.ok) (w : Int) {rm : List Int} (hrm : Byt rm) : Byt (planRoom p w rm) := by
 have tw : ∀ l, Byt (twos l) := fun l => Byt.flat fun r hr => by obtain ⟨c, _, rfl⟩ := List.mem_map.1 hr; exact bytesOf_byt _ _
 unfold planRoom
 refine (bytesOf_byt _ _).app ((bytesOf_byt _ _).app ((bytesOf_byt _ _).app ((bytesOf_byt _ _).app (hrm.app (Byt.app ?_ (Byt.app ?_ ?_))))))
 ·unfold ofS
  exact (((bytesOf_byt _ _).app (bytesOf_byt _ _)).app (bytesOf_byt _ _)).app (tw _)
 ·exact Byt.flat fun r hr => by obtain ⟨c, _, rfl⟩ := List.mem_map.1 hr; exact tw _
 ·refine Byt.flat fun r hr => ?_
  obtain ⟨e, _, rfl⟩ := List.mem_map.1 hr
  unfold entB
  refine (((bytesOf_byt _ _).app (bytesOf_byt _ _)).app ?_).app ?_
  ·split
   ·exact bytesOf_byt _ _
   ·exact Byt.nil
  ·split
   ·exact bytesOf_byt _ _
   ·exact Byt.nil
theorem rep_byt (n : Nat) : Byt (List.replicate n 0) := fun x hx => by
 have := List.eq_of_mem_replicate hx
 omega
theorem planRoom_len {p : Plan} (hp : p.ok) (w : Int) {rm : List Int} (hrm : rm.length ≤ 1000) (h1 : p.cls.length ≤ 1000) (h2 : p.rows.length ≤ 1000) (h3 : p.ents.length ≤ 1000) : (planRoom p w rm).length ≤ 100000 := by
 have hN := planN_eq p hp.2.2
 have hofl : (ofS p.cls).length = 6 + p.cls.length * 2 := by unfold ofS; simp [twos_len]; omega
 have hrl : (rowsL (planN p) p.rows).length ≤ 1000 * 22 := by rw [rowsL_len]; exact Nat.mul_le_mul h2 (by omega)
 have hel := entsB_len w p.ents
 unfold planRoom
 simp
 omega
end Go.Sw
end
section
namespace Go.Sw
open Go.RowKit
variable {σ : Type}
def DoOk (k : Nat) (m : Mach) (H0 : Heap) (W : σ → List It) (Inv : σ → Prop) (a : Value) (g : σ → Int → En → σ) : Prop :=
 ∀ s i e H X, Inv s → Star H0 H (W s ++ X) → 0 ≤ i → i < 2 ^ 50 → e ∈ m.ents →
  ∃ v H', callV (R (T k)) a [.int .i64 i, encE e] H = .ok v H' ∧ Star H0 H' (W (g s i e) ++ X) ∧ Inv (g s i e)
theorem plain_ok (k : Nat) {m : Mach} {H0 : Heap} {W : σ → List It} {Inv : σ → Prop} {a : Value} {g : σ → Int → En → σ} (h : DoOk k m H0 W Inv a g) (p : Nat) :
  ActOk k m H0 (fun s => W s ++ [itBlk p ⟨[a], 1, false⟩]) Inv (.func (.func F.drive_Plain_in1) #[] #[ptrV p]) (fun s i e => (g s i e, i, i + 1)) := by
 intro s i e H X hI st h0 h1 he
 have st2 := st.push ⟨encEn e, 1, false⟩
 have hp := st2.memBlk (c := p) (k := ⟨[a], 1, false⟩) (by simp)
 have hpn : ¬ p = H.n := by have := Heap.get_lt (st.memBlk (c := p) (k := ⟨[a], 1, false⟩) (by simp)); omega
 obtain ⟨v, H', e1, st3, hI2⟩ := h s i e (H.push ⟨encEn e, 1, false⟩) ([itBlk p ⟨[a], 1, false⟩] ++ X ++ [itBlk H.n ⟨encEn e, 1, false⟩]) hI (by simpa [List.append_assoc] using st2) h0 h1 he
 have st4 : Star H0 H' (W (g s i e) ++ [itBlk p ⟨[a], 1, false⟩] ++ X) := by
  have : W (g s i e) ++ ([itBlk p ⟨[a], 1, false⟩] ++ X ++ [itBlk H.n ⟨encEn e, 1, false⟩]) = (W (g s i e) ++ [itBlk p ⟨[a], 1, false⟩] ++ X) ++ [itBlk H.n ⟨encEn e, 1, false⟩] := by simp
  rw [this] at st3
  exact st3.drop_last
 refine ⟨H', ?_, st4, hI2, by dsimp only; omega, by dsimp only; omega⟩
 simp only [callV, List.nil_append, List.cons_append]
 rw [drive_Plain_in1_R, nrm_of]
 simp -implicitDefEqProofs (disch := omega) [drive_Plain_in1, hp, hpn, e1]
end Go.Sw
end
section
namespace Go.Sw
open Go.RowKit
end Go.Sw
end
section
namespace Go.Sw
open Go.RowKit
variable {σ : Type}
theorem runD_inv (m : Mach) (hm : m.ok) (ln : σ → List Gl) (f : σ → Int → En → σ × Int × Int) (P : σ → Prop) (hf : ∀ s i e, P s → 0 ≤ i → e ∈ m.ents → P (f s i e).1) (most : Int) :
  ∀ (n : Nat) (x : σ × Drv), P x.1 → 0 ≤ x.2.pl → 0 ≤ x.2.st → x.2.st < m.rows.length → P (runD m ln f most n x).2.2
 | 0, x, h, _, _, _ => h
 | n + 1, x, h, hp, h0, h1 => by
  have hmem := entS_mem hm (ln x.1) x.2 ⟨h0, h1⟩
  have hent := hm.ent _ hmem
  have hP : P (stepD m ln f x).1.1 := by unfold stepD; split <;> exact hf _ _ _ h hp hmem
  have hst : 0 ≤ (stepD m ln f x).1.2.st ∧ (stepD m ln f x).1.2.st < m.rows.length := by unfold stepD; split <;> exact ⟨hent.1, hent.2.1⟩
  have hpl := stepD_pl m ln f x
  unfold runD
  split
  ·split
   ·exact hP
   ·split
    ·exact hP
    ·exact runD_inv m hm ln f P hf most n _ hP hpl hst.1 hst.2
  ·exact h
theorem clsS_over (m : Mach) (l : List Gl) (j : Nat) : (clsS m l j).2 = decide (l.length ≤ j) := by
 unfold clsS atG
 by_cases h2 : (j : Int) < l.length
 ·obtain ⟨g, hg⟩ : ∃ g, l[j]? = some g := ⟨_, List.getElem?_eq_getElem (by omega)⟩
  rw [if_pos ⟨by omega, h2⟩, Int.toNat_natCast, hg, decide_eq_false (by omega)]
 ·rw [if_neg (fun hc => h2 hc.2), decide_eq_true (by omega)]
theorem runD_go (m : Mach) (ln : σ → List Gl) (f : σ → Int → En → σ × Int × Int) (most : Int) (len : Nat) (hmost : (len : Int) < most) (P : Nat → σ → Int → Prop) (hlen : ∀ j s st, P j s st → (ln s).length = len)
  (hgo : ∀ (j : Nat) s st, j ≤ len → P j s st → ¬ (entS m (ln s) ⟨st, j, j, 0⟩).flags / 16384 % 2 = 1 ∧ (f s j (entS m (ln s) ⟨st, j, j, 0⟩)).2.2 = (j : Int) + 1 ∧ (j < len → P (j + 1) (f s j (entS m (ln s) ⟨st, j, j, 0⟩)).1 (entS m (ln s) ⟨st, j, j, 0⟩).next)) :
  ∀ (c j n : Nat) (z : Int) (s : σ) (st : Int), z = j → len = j + c → c < n → P j s st → ∃ s' st', P len s' st' ∧ runD m ln f most n (s, ⟨st, z, z, 0⟩) = ((len : Int) + 1, 0, (f s' len (entS m (ln s') ⟨st', len, len, 0⟩)).1)
 | c, j, 0, z, s, st, _, _, h, _ => by omega
 | 0, j, n + 1, z, s, st, hz, hj, hn, hP => by
  subst hz
  obtain ⟨g1, g2, _⟩ := hgo j s st (by omega) hP
  have hl := hlen j s st hP
  have hjl : j = len := by omega
  subst hjl
  refine ⟨s, st, hP, ?_⟩
  unfold runD
  rw [if_pos (by dsimp only; omega)]
  unfold stepD
  dsimp only
  rw [if_neg g1, clsS_over, hl, decide_eq_true (Nat.le_refl _)]
  rfl
 | c + 1, j, n + 1, z, s, st, hz, hj, hn, hP => by
  subst hz
  obtain ⟨g1, g2, g3⟩ := hgo j s st (by omega) hP
  have hl := hlen j s st hP
  have ih := runD_go m ln f most len hmost P hlen hgo c (j + 1) n _ _ _ rfl (by omega) (by omega) (g3 (by omega))
  unfold runD
  rw [if_pos (by dsimp only; omega)]
  unfold stepD
  dsimp only
  rw [if_neg g1, clsS_over, hl, decide_eq_false (by omega), g2]
  simp only [Bool.false_eq_true, if_false]
  rw [if_neg (by decide), show max ((j : Int) + 1) 0 = ((j + 1 : Nat) : Int) by omega, show (j : Int) + 1 = ((j + 1 : Nat) : Int) by omega]
  exact ih
end Go.Sw
end
section
namespace Go.Sw
open Go.RowKit
theorem mapO_takeL {β : Type} {f : Nat → Option β} {l : List β} (h : ∀ (i : Nat) y, l[i]? = some y → f i = some y) {n : Nat} (hn : n ≤ l.length) : mapO f (List.range n) = some (l.take n) := by
 refine mapO_some (by simp; omega) fun i x y hx hy => ?_
 rw [List.getElem?_take] at hy
 split at hy
 ·rename_i hi
  rw [List.getElem?_range hi] at hx
  injection hx with hx
  subst hx
  exact h i y hy
 ·cases hy
theorem needE_of {es : List En} {S : Int} (h2 : 2 ≤ S) (h : ∀ e, e ∈ es → e.next < S) : needE es ≤ S := by
 have := needL_lt (l := es.map En.next) (n := S) (by omega) fun x hx => by
  obtain ⟨e, he, rfl⟩ := List.mem_map.1 hx
  exact h e he
 unfold needE
 omega
theorem close_plan {n : Nat} (hn : 0 < n) {w : Int} (hw : w = 0 ∨ w = 1 ∨ w = 2) {rs : List (List Int)} {es : List En} (hb : ∀ r, r ∈ rs → Byt r) (hcell : ∀ r, r ∈ rs → ∀ x, x ∈ rowL n r → x < (es.length : Int)) (hnx : ∀ e, e ∈ es → m16 e.next < (rs.length : Int)) (x y : List Int) :
  ∀ (f s : Nat), 2 ≤ s → s ≤ rs.length → 65537 - s ≤ f → s ≤ 65536 → ∃ r, closeS (rowsL n rs ++ x) (entsB w es ++ y) n w f s = some r ∧ r.1.length ≤ rs.length ∧ (∃ s', r.1 = (rs.map (rowL n)).take s') ∧ (∃ N, r.2 = (es.map (entM w)).take N)
 | 0, s, _, _, h1, h2 => by omega
 | f + 1, s, h2, hs, hf, h6 => by
  have e1 : rowsTo (rowsL n rs ++ x) n s = some ((rs.map (rowL n)).take s) := mapO_takeL (fun i r hr => by
   rw [List.getElem?_map] at hr
   obtain ⟨q, hq, rfl⟩ := Option.map_eq_some_iff.1 hr
   exact rowK_plan hn hb x hq) (by simpa using hs)
  have hneed : needR ((rs.map (rowL n)).take s) ≤ (es.length : Int) := by
   refine needL_lt (by omega) fun y hy => ?_
   obtain ⟨r, hr, hyr⟩ := List.mem_flatten.1 hy
   obtain ⟨q, hq, rfl⟩ := List.mem_map.1 (List.mem_of_mem_take hr)
   exact hcell q hq y hyr
  have h0 := needR_nonneg ((rs.map (rowL n)).take s)
  have e2 : entsTo (entsB w es ++ y) w (needR ((rs.map (rowL n)).take s)).toNat = some ((es.map (entM w)).take (needR ((rs.map (rowL n)).take s)).toNat) := mapO_takeL (fun i r hr => by
   rw [List.getElem?_map] at hr
   obtain ⟨q, hq, rfl⟩ := Option.map_eq_some_iff.1 hr
   exact entK_plan hw y hq) (by simp; omega)
  have h3 : needE ((es.map (entM w)).take (needR ((rs.map (rowL n)).take s)).toNat) ≤ (rs.length : Int) := needE_of (by omega) fun e he => by
   obtain ⟨q, hq, rfl⟩ := List.mem_map.1 (List.mem_of_mem_take he)
   exact hnx q hq
  simp only [closeS]
  rw [e1, Option.bind_some, e2, Option.bind_some]
  split
  ·exact ⟨_, rfl, by simp; omega, ⟨s, rfl⟩, ⟨_, rfl⟩⟩
  ·rename_i hgt
   exact close_plan hn hw hb hcell hnx x y f _ (by omega) (by omega) (by omega) (by
    have : 2 ≤ needE ((es.map (entM w)).take (needR ((rs.map (rowL n)).take s)).toNat) := by unfold needE; omega
    by_cases hle : (rs.length : Nat) ≤ 65536
    ·omega
    ·have hlt : needE ((es.map (entM w)).take (needR ((rs.map (rowL n)).take s)).toNat) ≤ 65536 := needE_of (by omega) fun e he => by
      obtain ⟨q, hq, rfl⟩ := List.mem_map.1 (List.mem_of_mem_take he)
      exact (m16_bound q.next).2
     omega)
structure Reads (p : Plan) (w : Int) (m : Mach) : Prop where
 classes : m.classes = planN p
 tab : m.tab = tabOf p.cls
 few : m.rows.length ≤ p.rows.length
 row : ∀ (s : Nat) r, m.rows[s]? = some r → ∃ q, p.rows[s]? = some q ∧ r = rowL (planN p) q
 ent : ∀ (i : Nat) e, m.ents[i]? = some e → ∃ q, p.ents[i]? = some q ∧ e = entM w q
theorem plan_closed {p : Plan} (hp : p.ok) {w : Int} (hw : w = 0 ∨ w = 1 ∨ w = 2) {rm more : List Int} (hrm : rm.length ≤ 1000) (h1 : p.cls.length ≤ 1000) (h2 : p.rows.length ≤ 1000) (hS : 2 ≤ p.rows.length)
  (hcell : ∀ r, r ∈ p.rows → ∀ x, x ∈ rowL (planN p) r → x < (p.ents.length : Int)) (hnx : ∀ e, e ∈ p.ents → m16 e.next < (p.rows.length : Int)) (g : Int) : ∃ m, machS (planRoom p w rm ++ more) g w = some m ∧ Reads p w m := by
 have e1 := plan_mach p hp w rm more hrm h1 h2 g
 obtain ⟨r, hr, h3, ⟨s', h4⟩, ⟨N, h5⟩⟩ := close_plan (n := planN p) (by unfold planN; omega) hw hp.2.1 hcell hnx (entsB w p.ents ++ more) more (65538 - 2) 2 (Nat.le_refl _) hS (by omega) (by omega)
 unfold closeA at e1
 rw [hr, Option.map_some] at e1
 refine ⟨_, e1, rfl, rfl, h3, fun s q hq => ?_, fun i e he => ?_⟩
 ·dsimp only at hq
  rw [h4, List.getElem?_take] at hq
  split at hq
  ·rw [List.getElem?_map] at hq
   obtain ⟨q', hq', rfl⟩ := Option.map_eq_some_iff.1 hq
   exact ⟨q', hq', rfl⟩
  ·cases hq
 ·dsimp only at he
  rw [h5, List.getElem?_take] at he
  split at he
  ·rw [List.getElem?_map] at he
   obtain ⟨q', hq', rfl⟩ := Option.map_eq_some_iff.1 he
   exact ⟨q', hq', rfl⟩
  ·cases he
theorem Reads.step {p : Plan} {w : Int} {m : Mach} (h : Reads p w m) (hm : m.ok) {s c : Nat} (hs : s < m.rows.length) (hc : c < planN p) {q : List Int} (hq : p.rows[s]? = some q) :
  ∃ e, p.ents[(q[c]?.getD 0).toNat]? = some e ∧ stepS m s c = some (entM w e) := by
 obtain ⟨r, hr⟩ : ∃ r, m.rows[s]? = some r := ⟨_, List.getElem?_eq_getElem hs⟩
 obtain ⟨q', hq', rfl⟩ := h.row s r hr
 rw [hq] at hq'
 injection hq' with hq'
 subst hq'
 obtain ⟨r', x, e, h1, h2, h3, h4, h5⟩ := stepS_some hm (s := (s : Int)) (c := (c : Int)) ⟨by omega, by omega, by omega, by rw [h.classes]; omega⟩
 rw [Int.toNat_natCast, hr] at h1
 injection h1 with h1
 subst h1
 rw [Int.toNat_natCast] at h2
 have hx : (rowL (planN p) q)[c]? = some (q[c]?.getD 0) := by
  unfold rowL
  rw [List.getElem?_map, List.getElem?_range hc]
  rfl
 rw [hx] at h2
 injection h2 with h2
 subst h2
 obtain ⟨e', he', rfl⟩ := h.ent _ e h4
 exact ⟨e', he', h5⟩
theorem Reads.entS {p : Plan} {w : Int} {m : Mach} (h : Reads p w m) (hm : m.ok) (l : List Gl) {st : Nat} (j x y : Int) (hst : st < m.rows.length) :
  ∃ q e, p.rows[st]? = some q ∧ p.ents[(q[(clsS m l j).1.toNat]?.getD 0).toNat]? = some e ∧ entS m l ⟨st, j, x, y⟩ = entM w e := by
 have hb := clsS_bound hm l j
 rw [h.classes] at hb
 obtain ⟨r, hr⟩ : ∃ r, m.rows[st]? = some r := ⟨_, List.getElem?_eq_getElem hst⟩
 obtain ⟨q, hq, _⟩ := h.row st r hr
 obtain ⟨e, he, hs⟩ := h.step hm (c := (clsS m l j).1.toNat) hst (by omega) hq
 refine ⟨q, e, hq, he, ?_⟩
 unfold Go.Sw.entS
 dsimp only
 rw [show (((clsS m l j).1.toNat : Nat) : Int) = (clsS m l j).1 by omega] at hs
 rw [hs]
 rfl
end Go.Sw
end
section
namespace Go.Sw
open Go.RowKit
def doR (s : List Gl × Int × Int) (i : Int) (e : En) : List Gl × Int × Int :=
 let a := if e.flags ≥ 32768 then min i (s.1.length : Int) else s.2.1
 let b := if e.flags / 8192 % 2 = 1 then min (i + 1) (s.1.length : Int) else s.2.2
 (match orderS (e.flags % 16) (b - a) with | some o => (orderG s.1 a o).getD s.1 | none => s.1, a, b)
def RearOk (n : Int) (s : List Gl × Int × Int) : Prop := (s.1.length : Int) = n ∧ 0 ≤ s.2.1 ∧ s.2.1 ≤ n ∧ 0 ≤ s.2.2 ∧ s.2.2 ≤ n
theorem order_fits {v : Int} {l : List Gl} {a b : Int} (h0 : 0 ≤ a) (h1 : b ≤ l.length) {o : List Int} (h : orderS v (b - a) = some o) : orderG l a o = some (putO l a.toNat o) ∧ a.toNat + o.length ≤ l.length := by
 obtain ⟨k1, k2, k3⟩ := order_ok h
 unfold orderG
 rw [if_pos ⟨h0, by omega, by omega, k1⟩]
 exact ⟨rfl, by omega⟩
theorem doR_ok {n : Int} {s : List Gl × Int × Int} (h : RearOk n s) {i : Int} (hi : 0 ≤ i) (e : En) : RearOk n (doR s i e) ∧ (doR s i e).1.Perm s.1 := by
 obtain ⟨h1, h2, h3, h4, h5⟩ := h
 have ha : 0 ≤ (if e.flags ≥ 32768 then min i (s.1.length : Int) else s.2.1) ∧ (if e.flags ≥ 32768 then min i (s.1.length : Int) else s.2.1) ≤ n := by split <;> omega
 have hb : 0 ≤ (if e.flags / 8192 % 2 = 1 then min (i + 1) (s.1.length : Int) else s.2.2) ∧ (if e.flags / 8192 % 2 = 1 then min (i + 1) (s.1.length : Int) else s.2.2) ≤ n := by split <;> omega
 unfold doR RearOk
 dsimp only
 generalize (if e.flags ≥ 32768 then min i (s.1.length : Int) else s.2.1) = a at ha ⊢
 generalize (if e.flags / 8192 % 2 = 1 then min (i + 1) (s.1.length : Int) else s.2.2) = b at hb ⊢
 cases ho : orderS (e.flags % 16) (b - a) with
 | none => exact ⟨⟨h1, ha.1, ha.2, hb.1, hb.2⟩, List.Perm.refl _⟩
 | some o =>
  obtain ⟨k1, k2⟩ := order_fits (l := s.1) ha.1 (by omega) ho
  have p := putO_perm k2 (by
   have := order_perm ho
   have hl := (order_ok ho).2.1
   rw [hl]
   exact this)
  dsimp only
  rw [k1, Option.getD_some]
  exact ⟨⟨by rw [p.length_eq]; exact h1, ha.1, ha.2, hb.1, hb.2⟩, p⟩
theorem orderS_zero (n : Int) : orderS 0 n = none := rfl
def runRr (m : Mach) (l : List Gl) : Int × Int × (List Gl × Int × Int) :=
 runD m (fun s : List Gl × Int × Int => s.1) (fun s i e => (doR s i e, i, i + 1)) (2 * (l.length : Int) + 128) (2 * l.length + 128) ((l, 0, 0), ⟨0, 0, 0, 0⟩)
def runR (m : Mach) (l : List Gl) : List Gl × Int := ((runRr m l).2.2.1, (runRr m l).2.1)
theorem runR_perm {m : Mach} (hm : m.ok) (l : List Gl) : (runR m l).1.Perm l := by
 unfold runR runRr
 have := runD_inv m hm (fun s : List Gl × Int × Int => s.1) (fun s i e => (doR s i e, i, i + 1)) (fun s => RearOk (l.length : Int) s ∧ s.1.Perm l) (fun s i e hs hi _ => by
  obtain ⟨k1, k2⟩ := doR_ok hs.1 hi e
  exact ⟨k1, k2.trans hs.2⟩) (2 * (l.length : Int) + 128) (2 * l.length + 128) ((l, 0, 0), ⟨0, 0, 0, 0⟩) ⟨⟨rfl, by dsimp only; omega⟩, List.Perm.refl _⟩ (Int.le_refl _) (Int.le_refl _) (by have := hm.two; dsimp only; omega)
 dsimp only at this ⊢
 exact this.2
end Go.Sw
end
section
set_option maxRecDepth 100000
set_option linter.unusedVariables false
namespace Go.Sw
noncomputable section
end
end Go.Sw
end
section
namespace Go.Sw
open Go.RowKit
theorem veq_Pt (l : List Pt) : veq (lv encPt l) (lv encPt l) = true := veq_lv fun p _ v hv => by
 simp [encPt] at hv
 rcases hv with rfl | rfl | rfl <;> simp
theorem veq_tab (x : Int × List Pt) : veq (boxV #[.int .i64 x.1, lv encPt x.2]) (boxV #[.int .i64 x.1, lv encPt x.2]) = true := veq_boxV (l := [.int .i64 x.1, lv encPt x.2]) fun v hv => by
 simp at hv
 rcases hv with rfl | rfl
 ·simp
 ·exact veq_Pt _
end Go.Sw
end
section
namespace Go.Sw
open Go.RowKit
structure CTab where
 m : Mach
 subs : List (Int × List Pt)
end Go.Sw
end
section
namespace Go.Sw
open Go.RowKit
end Go.Sw
end
section
namespace Go.Sw
open Go.RowKit
end Go.Sw
end
section
namespace Go.Sw
open Go.RowKit Go.Proofs
set_option maxRecDepth 20000 in
theorem catch_short (p : Addr) (b : Bool) (w : World) (hc : (w.alloc (.cells #[] 200)).cell? p = some (.bool b)) (hz : (w.alloc (.cells #[] 200)).frozen? p = false) :
  CallsD Prog 105 #[.pointer (some p)] (.panicking [{ v := .iface 200 (.agg #[]), recovered := false }]) w fun e u' w' =>
   e = .returned (.tuple #[]) ∧ u' = .panicking [{ v := .iface 200 (.agg #[]), recovered := true }] ∧ w' = (w.alloc (.cells #[] 200)).setCell p (.bool false) := by
 refine callsD_of_wpS Try.func105 rfl fun c₀ cs hu => ?_
 apply wpS_seq
 apply wpS_region
 simp [wpOpsS, go_sem, recoverD, hu, Try.ntmps105, Exit.thenS]
 have hta : ∀ w, (Instr.typeAssert (.iface 200 (.agg #[])) 20 200 true).run Prog w = .ok (.tuple #[.agg #[], .bool true]) w := fun w => by kernel_rfl
 refine wpS_of_wp ?_
 go_wp2
 cases c₀
 simp_all [bodyPostS, results, Try.results105]
theorem catch_idle (p : Addr) (w : World) :
  CallsD Prog 105 #[.pointer (some p)] .returning w fun e u' w' => e = .returned (.tuple #[]) ∧ u' = .returning ∧ w' = w := by
 refine callsD_of_wpS Try.func105 rfl fun c₀ cs hu => ?_
 apply wpS_seq
 apply wpS_region
 simp [wpOpsS, go_sem, recoverD, hu, Try.ntmps105, Exit.thenS]
 refine wpS_of_wp ?_
 go_wp2
 cases c₀
 simp_all [bodyPostS, results, Try.results105]
set_option maxRecDepth 20000 in
theorem try_walk (g : FuncId) (first cap : Array Value) (w : World) (R : Ending → World → Prop)
  (hcf : (callFunc g (first ++ cap)).run Prog (w.alloc (.cells #[.bool false] 4)) = .ok (.enter g (first ++ cap)) (w.alloc (.cells #[.bool false] 4)))
  (hcall : Calls Prog g (first ++ cap) (w.alloc (.cells #[.bool false] 4)) fun e w' => match e with
   | .returned _ => w'.heap[w.heap.size]? = some (.cells #[.bool false] 4 (0, 0)) ∧ R (.returned (.bool true)) (w'.setCell ⟨w.heap.size, 0, none⟩ (.bool true))
   | .panicked chain => chain = [{ v := .iface 200 (.agg #[]), recovered := false }] ∧ w'.heap[w.heap.size]? = some (.cells #[.bool false] 4 (0, 0)) ∧ R (.returned (.bool false)) ((w'.alloc (.cells #[] 200)).setCell ⟨w.heap.size, 0, none⟩ (.bool false))
   | .outgrown => False) :
  Calls Prog 35 #[.func (.func g) first cap] w R := by
 have hmf : ∀ (fn : Fn) (first cap : Array Value) (w : World), (Instr.makeFunc fn first cap).run Prog w = .ok (.func fn first cap) w := fun _ _ _ _ => rfl
 go_enter_defers Try.func35, Try.ntmps35
 go_wp2
 rename_i K2 hK2 K1 hK1
 refine hcall.mono fun e w' he => ?_
 cases e with
 | returned v =>
  obtain ⟨h1, h2⟩ := he
  have hc : w'.cell? ⟨w.heap.size, 0, none⟩ = some (.bool false) := by simp [World.cell?, h1]
  have hz : w'.frozen? ⟨w.heap.size, 0, none⟩ = false := by simp [World.frozen?, h1]
  apply hK1
  apply hK2
  go_wp2
  have hc2 : (w'.setCell ⟨w.heap.size, 0, none⟩ (.bool true)).cell? ⟨w.heap.size, 0, none⟩ = some (.bool true) := World.cell?_setCell_same _ _ _ hc
  refine leaves_cons (f := 105) (args := #[.pointer (some ⟨w.heap.size, 0, none⟩)]) (by simp) (by simp [go_sem]) ?_
  refine (catch_idle ⟨w.heap.size, 0, none⟩ _).mono ?_
  rintro e u' w'' ⟨rfl, rfl, rfl⟩
  simp [Leaves, settle, results, Try.results35, go_sem, hc2]
  exact h2
 | panicked chain =>
  obtain ⟨h0, h1, h2⟩ := he
  subst h0
  have hlt : w.heap.size < w'.heap.size := by
   rcases Nat.lt_or_ge w.heap.size w'.heap.size with h | h
   ·exact h
   ·rw [Array.getElem?_eq_none h] at h1; cases h1
  have h3 : (w'.alloc (.cells #[] 200)).heap[w.heap.size]? = some (.cells #[.bool false] 4 (0, 0)) := by
   rw [heap_alloc_lt _ _ _ hlt]; exact h1
  have hc : (w'.alloc (.cells #[] 200)).cell? ⟨w.heap.size, 0, none⟩ = some (.bool false) := by simp only [World.cell?, h3]; rfl
  have hz : (w'.alloc (.cells #[] 200)).frozen? ⟨w.heap.size, 0, none⟩ = false := by simp [World.frozen?, h3]
  have hc2 : ((w'.alloc (.cells #[] 200)).setCell ⟨w.heap.size, 0, none⟩ (.bool false)).cell? ⟨w.heap.size, 0, none⟩ = some (.bool false) := World.cell?_setCell_same _ _ _ hc
  show Leaves _ _ _ _ _ _ _
  refine leaves_cons (f := 105) (args := #[.pointer (some ⟨w.heap.size, 0, none⟩)]) (by simp) (by simp [go_sem]) ?_
  refine (catch_short ⟨w.heap.size, 0, none⟩ false _ hc hz).mono ?_
  rintro e u' w'' ⟨rfl, rfl, rfl⟩
  simp [Leaves, settle, results, Try.results35, go_sem, hc2]
  exact h2
 | outgrown => exact he.elim
theorem try_is : SpIs Prog 35 (tryV 200) := try_of (bt := 4) Try.func35 rfl (by kernel_rfl) try_walk
end Go.Sw
end
section
namespace Go.Sw
open Go.RowKit
structure CTab.ok (t : CTab) : Prop where
 m : t.m.ok
 subs : ∀ x, x ∈ t.subs → (∀ p, p ∈ x.2 → p.ok) ∧ risesS x.2 = true ∧ x.2.length < 2 ^ 31
 has : ∀ e, e ∈ t.m.ents → (e.a = 65535 ∨ e.a < t.subs.length) ∧ (e.b = 65535 ∨ e.b < t.subs.length)
end Go.Sw
end
section
namespace Go.Sw
open Go.RowKit
end Go.Sw
end
section
namespace Go.Sw
open Go.RowKit
def endsPlan (v : Int) : Plan := ⟨[], [[2, 1, 1, 1], [2, 0, 0, 0]], [⟨1, 8192, 0, 0⟩, ⟨1, 40960, 0, 0⟩, ⟨1, v, 0, 0⟩], 0⟩
theorem endsPlan_ok (v : Int) : (endsPlan v).ok := by
 refine ⟨fun _ h => (by cases h), fun r hr x hx => ?_, Int.le_refl 0, (by decide : (0 : Int) < 256)⟩
 have hr : r = [2, 1, 1, 1] ∨ r = [2, 0, 0, 0] := by simpa [endsPlan] using hr
 rcases hr with rfl | rfl
 ·have hx : x = 2 ∨ x = 1 := by simpa using hx
  omega
 ·have hx : x = 2 ∨ x = 0 := by simpa using hx
  omega
theorem ends_mach {v : Int} (hv : 0 ≤ v ∧ v < 16) (rm more : List Int) (hrm : rm.length ≤ 1000) (g : Int) : ∃ m, machS (planRoom (endsPlan v) 0 rm ++ more) g 0 = some m ∧ Reads (endsPlan v) 0 m :=
 plan_closed (p := endsPlan v) (endsPlan_ok v) (w := 0) (.inl rfl) (rm := rm) (more := more) hrm (by simp [endsPlan]) (by simp [endsPlan]) (by simp [endsPlan])
  (fun r hr x hx => by
   obtain ⟨i, hi, rfl⟩ := List.mem_map.1 hx
   have hi := List.mem_range.1 hi
   have hn : planN (endsPlan v) = 4 := rfl
   rw [hn] at hi
   have hr : r = [2, 1, 1, 1] ∨ r = [2, 0, 0, 0] := by simpa [endsPlan] using hr
   have : i = 0 ∨ i = 1 ∨ i = 2 ∨ i = 3 := by omega
   have hl : ((endsPlan v).ents.length : Int) = 3 := rfl
   rw [hl]
   rcases hr with rfl | rfl <;> rcases this with rfl | rfl | rfl | rfl <;> decide)
  (fun e he => by
   have he : e = ⟨1, 8192, 0, 0⟩ ∨ e = ⟨1, 40960, 0, 0⟩ ∨ e = ⟨1, v, 0, 0⟩ := by simpa [endsPlan] using he
   have hl : ((endsPlan v).rows.length : Int) = 2 := rfl
   rw [hl]
   rcases he with rfl | rfl | rfl <;> exact (show m16 1 < 2 by decide)) g
theorem ends_ent {v : Int} (hv : 0 ≤ v ∧ v < 16) {m : Mach} (hr : Reads (endsPlan v) 0 m) (hm : m.ok) (l : List Gl) (st : Nat) (hst : st = 0 ∨ st = 1) (j : Nat) :
  entS m l ⟨(st : Int), (j : Int), (j : Int), 0⟩ = if j < l.length then (if st = 0 then ⟨1, 40960, 0, 0⟩ else ⟨1, 8192, 0, 0⟩) else ⟨1, v, 0, 0⟩ := by
 have h2 := hm.two
 obtain ⟨q, e, hq, he, hs⟩ := hr.entS hm l (st := st) (j : Int) (j : Int) 0 (by omega)
 rw [hs]
 have hcl : (clsS m l (j : Int)).1 = if j < l.length then (clsS m l (j : Int)).1 else 0 := by
  split
  ·rfl
  ·rename_i h
   unfold clsS atG
   rw [if_neg (fun hc => h (by omega))]
 have hc1 : j < l.length → (clsS m l (j : Int)).1 = 1 ∨ (clsS m l (j : Int)).1 = 2 := fun h => by
  unfold clsS
  obtain ⟨g, hg⟩ : ∃ g, l[j]? = some g := ⟨_, List.getElem?_eq_getElem h⟩
  have : atG l (j : Int) = some g := by unfold atG; rw [if_pos ⟨by omega, by omega⟩, Int.toNat_natCast, hg]
  rw [this]
  dsimp only
  unfold classS
  have ht : getS m.tab.2 g.id = none := by rw [hr.tab]; rfl
  rw [ht]
  split
  ·exact .inr rfl
  ·exact .inl rfl
 by_cases hj : j < l.length
 ·rw [if_pos hj]
  rcases hst with rfl | rfl
  ·rw [if_pos rfl]
   have hq : q = [2, 1, 1, 1] := by have := Option.some.inj hq; exact this.symm
   subst hq
   rcases hc1 hj with h | h <;> rw [h] at he <;> (have he := Option.some.inj he; subst he; rfl)
  ·rw [if_neg (by decide)]
   have hq : q = [2, 0, 0, 0] := by have := Option.some.inj hq; exact this.symm
   subst hq
   rcases hc1 hj with h | h <;> rw [h] at he <;> (have he := Option.some.inj he; subst he; rfl)
 ·rw [if_neg hj] at hcl ⊢
  rw [hcl] at he
  have hen : entM 0 ⟨1, v, 0, 0⟩ = ⟨1, v, 0, 0⟩ := by
   unfold entM m16
   dsimp only
   rw [if_neg (by decide), if_neg (by decide)]
   congr 1
   omega
  rcases hst with rfl | rfl
  ·have hq : q = [2, 1, 1, 1] := by have := Option.some.inj hq; exact this.symm
   subst hq
   have he := Option.some.inj he
   subst he
   exact hen
  ·have hq : q = [2, 0, 0, 0] := by have := Option.some.inj hq; exact this.symm
   subst hq
   have he := Option.some.inj he
   subst he
   exact hen
theorem ends_run {v : Int} (hv : 0 ≤ v ∧ v < 16) {m : Mach} (hr : Reads (endsPlan v) 0 m) (hm : m.ok) (l : List Gl) :
  runR m l = ((match orderS v (l.length : Int) with | some o => (orderG l 0 o).getD l | none => l), 0) := by
 obtain ⟨s', st', ⟨h1, h2, h3, k, hk, hk2⟩, hrun⟩ := runD_go m (fun s : List Gl × Int × Int => s.1) (fun s i e => (doR s i e, i, i + 1)) (2 * (l.length : Int) + 128) l.length (by omega)
  (fun j s st => s.1 = l ∧ s.2.1 = 0 ∧ s.2.2 = (j : Int) ∧ ∃ k : Nat, ((k = 0 ∧ j = 0) ∨ (k = 1 ∧ 0 < j)) ∧ st = (k : Int)) (fun j s st h => by rw [h.1])
  (fun j s st hj ⟨h1, h2, h3, k, hk, hk2⟩ => by
   subst hk2
   have he := ends_ent hv hr hm l k (hk.imp And.left And.left) j
   rw [h1, he]
   obtain ⟨l', a, b⟩ := s
   dsimp only at h1 h2 h3
   subst h1 h2 h3
   by_cases hjl : j < l'.length
   ·rw [if_pos hjl]
    rcases hk with ⟨rfl, rfl⟩ | ⟨rfl, hj0⟩
    ·rw [if_pos rfl]
     refine ⟨by decide, rfl, fun _ => ?_⟩
     have hd : doR (l', 0, ((0 : Nat) : Int)) ((0 : Nat) : Int) ⟨1, 40960, 0, 0⟩ = (l', min ((0 : Nat) : Int) l'.length, min (((0 : Nat) : Int) + 1) l'.length) := by
      unfold doR
      dsimp only
      rw [if_pos (by decide), if_pos (by decide), show (40960 : Int) % 16 = 0 by decide, orderS_zero]
     rw [hd]
     exact ⟨rfl, by dsimp only; omega, by dsimp only; omega, 1, .inr ⟨rfl, by omega⟩, rfl⟩
    ·rw [if_neg (by decide)]
     refine ⟨by decide, rfl, fun _ => ?_⟩
     have hd : doR (l', 0, (j : Int)) j ⟨1, 8192, 0, 0⟩ = (l', 0, min ((j : Int) + 1) l'.length) := by
      unfold doR
      dsimp only
      rw [if_neg (show ¬ (8192 : Int) ≥ 32768 by decide), if_pos (show (8192 : Int) / 8192 % 2 = 1 by decide), show (8192 : Int) % 16 = 0 by decide, orderS_zero]
     rw [hd]
     exact ⟨rfl, rfl, by dsimp only; omega, 1, .inr ⟨rfl, by omega⟩, rfl⟩
   ·rw [if_neg hjl]
    refine ⟨?_, rfl, fun h => absurd h hjl⟩
    dsimp only
    omega) l.length 0 (2 * l.length + 128) 0 (l, 0, 0) 0 rfl (by omega) (by omega) ⟨rfl, rfl, rfl, 0, .inl ⟨rfl, rfl⟩, rfl⟩
 unfold runR runRr
 rw [hrun]
 dsimp only
 subst hk2
 have he := ends_ent hv hr hm l k (hk.imp And.left And.left) l.length
 rw [h1, he, if_neg (by omega)]
 obtain ⟨l', a, b⟩ := s'
 dsimp only at h1 h2 h3
 subst h1 h2 h3
 unfold doR
 dsimp only
 rw [if_neg (by omega), if_neg (by omega), Int.sub_zero, show v % 16 = v by omega] <;> rfl
theorem ends_get {v : Int} (ids : List Int) {o : List Int} (ho : orderS v (ids.length : Int) = some o) {i : Nat} {w : Int} (hw : o[i]? = some w) : ∃ x, 0 ≤ w ∧ w < ids.length ∧ ids[w.toNat]? = some x ∧ ((orderG (newG ids) 0 o).getD (newG ids))[i]? = some ⟨x, w⟩ := by
 obtain ⟨k1, k2, k3⟩ := order_ok ho
 have hwb := k1.1 w (List.mem_of_getElem? hw)
 have hf := order_fits (l := newG ids) (a := 0) (b := (ids.length : Int)) (v := v) (Int.le_refl 0) (by rw [newG_len]; exact Int.le_refl _) (by rw [Int.sub_zero]; exact ho)
 obtain ⟨x, hx⟩ : ∃ x, ids[w.toNat]? = some x := ⟨_, List.getElem?_eq_getElem (by omega)⟩
 refine ⟨x, hwb.1, by omega, hx, ?_⟩
 rw [hf.1, Option.getD_some]
 unfold putO
 have hi := (List.getElem?_eq_some_iff.1 hw).1
 rw [show (0 : Int).toNat = 0 from rfl, List.take_zero, List.nil_append, List.drop_zero, List.getElem?_append_left (by simpa using hi), List.getElem?_map, hw]
 have : (newG ids)[w.toNat]? = some ⟨x, w⟩ := by
  unfold newG
  rw [List.getElem?_map, List.getElem?_zipIdx, hx]
  simp
  omega
 rw [Option.map_some, this]
 rfl
end Go.Sw
end
section
set_option maxRecDepth 100000
set_option linter.unusedVariables false
namespace Go.Sw
noncomputable section
def verb_Order (k : Nat) (call : Caller) (a0 a1 : Value) (h : Heap) : Res Value :=
 (binR Prog .leq 3 a0 (.int .i64 0) h).bind fun v1 h2 =>
 ((bif wantVal v1 false then Res.ok a0 h2 else Res.ok undef h2)).bind fun v3 h4 =>
 ((bif wantVal v1 false then binR Prog .geq 3 v3 (.int .i64 16) h4 else Res.ok undef h4)).bind fun v5 h6 =>
 (condV (some v1) (Res.ok (.bool true) h6) (Res.ok v5 h6)).bind fun v7 h8 =>
 condV (some v7) (
 .ok (.tuple #[(.slice none 0 0), (.bool false)]) h8)
 (
 (call F.verb_of [a0] h8).bind fun v9 h10 =>
 (allocR Prog 274 h10).bind fun v11 h12 =>
 (storeR Prog 274 v11 v9 h12).bind fun _v13 h14 =>
 (fieldAddrR Prog 274 v11 0 h14).bind fun v15 h16 =>
 (loadR Prog 3 v15 h16).bind fun v17 h18 =>
 (fieldAddrR Prog 274 v11 1 h18).bind fun v19 h20 =>
 (loadR Prog 3 v19 h20).bind fun v21 h22 =>
 (binR Prog .add 3 v17 v21 h22).bind fun v23 h24 =>
 (binR Prog .lss 3 a1 v23 h24).bind fun v25 h26 =>
 condV (some v25) (
 .ok (.tuple #[(.slice none 0 0), (.bool false)]) h26)
 (
 (fieldAddrR Prog 274 v11 1 h26).bind fun v27 h28 =>
 (loadR Prog 3 v27 h28).bind fun v29 h30 =>
 (binR Prog .sub 3 a1 v29 h30).bind fun v31 h32 =>
 (fieldAddrR Prog 274 v11 3 h32).bind fun v33 h34 =>
 (loadR Prog 4 v33 h34).bind fun v35 h36 =>
 (call F.verb_span [v31, a1, v35] h36).bind fun v37 h38 =>
 (fieldAddrR Prog 274 v11 0 h38).bind fun v39 h40 =>
 (loadR Prog 3 v39 h40).bind fun v41 h42 =>
 (fieldAddrR Prog 274 v11 1 h42).bind fun v43 h44 =>
 (loadR Prog 3 v43 h44).bind fun v45 h46 =>
 (binR Prog .sub 3 a1 v45 h46).bind fun v47 h48 =>
 (call F.verb_span [v41, v47, (.bool false)] h48).bind fun v49 h50 =>
 (builtinV Prog .append [27, 27] [v37, v49] h50).bind fun v51 h52 =>
 (fieldAddrR Prog 274 v11 0 h52).bind fun v53 h54 =>
 (loadR Prog 3 v53 h54).bind fun v55 h56 =>
 (fieldAddrR Prog 274 v11 2 h56).bind fun v57 h58 =>
 (loadR Prog 4 v57 h58).bind fun v59 h60 =>
 (call F.verb_span [(.int .i64 0), v55, v59] h60).bind fun v61 h62 =>
 (builtinV Prog .append [27, 27] [v51, v61] h62).bind fun v63 h64 =>
 .ok (.tuple #[v63, (.bool true)]) h64))
theorem verb_Order_R (k : Nat) (a0 a1 : Value) (h : Heap) : R (T k) F.verb_Order [a0, a1] h = nrm .fz h (verb_Order k (R (T k)) a0 a1 h) :=
 (R_body (t := T k) (T_scott k) (by kernel_rfl) (by kernel_rfl) _ _).trans (by kernel_rfl)
def verb_of (k : Nat) (call : Caller) (a0 : Value) (h : Heap) : Res Value :=
 (allocR Prog 274 h).bind fun v1 h2 =>
 (buildR Prog 274 [(0, (.int .i64 1))] h2).bind fun v3 h4 =>
 (buildR Prog 274 [(1, (.int .i64 1))] h4).bind fun v5 h6 =>
 (buildR Prog 274 [(0, (.int .i64 1)), (1, (.int .i64 1))] h6).bind fun v7 h8 =>
 (buildR Prog 274 [(0, (.int .i64 2))] h8).bind fun v9 h10 =>
 (buildR Prog 274 [(0, (.int .i64 2)), (2, (.bool true))] h10).bind fun v11 h12 =>
 (buildR Prog 274 [(1, (.int .i64 2))] h12).bind fun v13 h14 =>
 (buildR Prog 274 [(1, (.int .i64 2)), (3, (.bool true))] h14).bind fun v15 h16 =>
 (buildR Prog 274 [(0, (.int .i64 1)), (1, (.int .i64 2))] h16).bind fun v17 h18 =>
 (buildR Prog 274 [(0, (.int .i64 1)), (1, (.int .i64 2)), (3, (.bool true))] h18).bind fun v19 h20 =>
 (buildR Prog 274 [(0, (.int .i64 2)), (1, (.int .i64 1))] h20).bind fun v21 h22 =>
 (buildR Prog 274 [(0, (.int .i64 2)), (1, (.int .i64 1)), (2, (.bool true))] h22).bind fun v23 h24 =>
 (buildR Prog 274 [(0, (.int .i64 2)), (1, (.int .i64 2))] h24).bind fun v25 h26 =>
 (buildR Prog 274 [(0, (.int .i64 2)), (1, (.int .i64 2)), (2, (.bool true))] h26).bind fun v27 h28 =>
 (buildR Prog 274 [(0, (.int .i64 2)), (1, (.int .i64 2)), (3, (.bool true))] h28).bind fun v29 h30 =>
 (buildR Prog 274 [(0, (.int .i64 2)), (1, (.int .i64 2)), (2, (.bool true)), (3, (.bool true))] h30).bind fun v31 h32 =>
 (buildR Prog 332 [(1, v3), (2, v5), (3, v7), (4, v9), (5, v11), (6, v13), (7, v15), (8, v17), (9, v19), (10, v21), (11, v23), (12, v25), (13, v27), (14, v29), (15, v31)] h32).bind fun v33 h34 =>
 (indexR Prog 332 v33 a0 h34).bind fun v35 h36 =>
 (storeR Prog 274 v1 v35 h36).bind fun _v37 h38 =>
 (loadR Prog 274 v1 h38).bind fun v39 h40 =>
 .ok v39 h40
theorem verb_of_R (k : Nat) (a0 : Value) (h : Heap) : R (T k) F.verb_of [a0] h = nrm .gc h (verb_of k (R (T k)) a0 h) :=
 (R_body (t := T k) (T_scott k) (by kernel_rfl) (by kernel_rfl) _ _).trans (by kernel_rfl)
def verb_span_l1 (k : Nat) (call : Caller) : Env → Heap → Res (AExit × Env) := loopB (C k) call F.verb_span [1, 1, 0, 1, 0, 0]
def verb_span_l1k (k : Nat) (call : Caller) : Kont Value := kBlock 0 (kSeq (pieceK (C k) call F.verb_span [1, 1, 1]) (kDone Prog (resOf Prog F.verb_span)))
def verb_span_j1 (k : Nat) (call : Caller) (a0 a1 a2 a7 a11 a12 : Value) (h : Heap) : Res (AExit × Env) :=
 kSeq (pieceK (C k) call F.verb_span [1, 1, 0, 1, 0, 0, 1, 1, 1]) (kRound (ownOf (C k) F.verb_span [1, 1, 0, 1, 0, 0])) .normal [(0, a0), (1, a1), (2, a2), (7, a7), (11, a11), (12, a12)] h
def verb_span (k : Nat) (call : Caller) (a0 a1 a2 : Value) (h : Heap) : Res Value :=
 (binR Prog .sub 3 a1 a0 h).bind fun v1 h2 =>
 (loopN (verb_span_l1 k call) loopFuel [(0, a0), (1, a1), (2, a2), (7, (.slice none 0 0)), (11, v1), (12, (.int .i64 0))] h2).bind fun r3 h4 =>
 verb_span_l1k k call r3.1 r3.2 h4
theorem verb_span_R (k : Nat) (a0 a1 a2 : Value) (h : Heap) : R (T k) F.verb_span [a0, a1, a2] h = nrm .no h (verb_span k (R (T k)) a0 a1 a2 h) :=
 (R_body (t := T k) (T_scott k) (by kernel_rfl) (by kernel_rfl) _ _).trans (by kernel_rfl)
theorem verb_span_l1_eq (k : Nat) (call : Caller) (a0 a1 a2 a7 a11 a12 : Value) (h : Heap) : verb_span_l1 k call [(0, a0), (1, a1), (2, a2), (7, a7), (11, a11), (12, a12)] h =
 (binR Prog .lss 3 a12 a11 h).bind fun v5 h6 =>
 condV (some v5) (
 condV (some a2) (
 (binR Prog .sub 3 a1 (.int .i64 1) h6).bind fun v7 h8 =>
 (binR Prog .sub 3 v7 a12 h8).bind fun v9 h10 =>
 (buildSliceR Prog 27 1 [(0, v9)] h10).bind fun v11 h12 =>
 (builtinV Prog .append [27, 27] [a7, v11] h12).bind fun v13 h14 =>
 verb_span_j1 k call a0 a1 a2 v13 a11 a12 h14)
 (
 (binR Prog .add 3 a0 a12 h6).bind fun v15 h16 =>
 (buildSliceR Prog 27 1 [(0, v15)] h16).bind fun v17 h18 =>
 (builtinV Prog .append [27, 27] [a7, v17] h18).bind fun v19 h20 =>
 verb_span_j1 k call a0 a1 a2 v19 a11 a12 h20))
 (
 .ok ((.exit 0), [(0, a0), (1, a1), (2, a2), (7, a7), (11, a11), (12, a12), (13, v5)]) h6) :=
 (loopB_eq _ _).trans (by kernel_rfl)
theorem verb_span_j1_eq (k : Nat) (call : Caller) (a0 a1 a2 a7 a11 a12 : Value) (h : Heap) : verb_span_j1 k call a0 a1 a2 a7 a11 a12 h =
 (binR Prog .add 3 a12 (.int .i64 1) h).bind fun v21 h22 =>
 .ok (.normal, [(0, a0), (1, a1), (2, a2), (7, a7), (11, a11), (12, v21)]) h22 := by kernel_rfl
theorem verb_span_l1k_x0 (k : Nat) (call : Caller) (a0 a1 a2 a7 a11 a12 a13 : Value) (h : Heap) : verb_span_l1k k call (.exit 0) [(0, a0), (1, a1), (2, a2), (7, a7), (11, a11), (12, a12), (13, a13)] h =
 .ok a7 h := by kernel_rfl
end
end Go.Sw
end
section
namespace Go.Sw
open Go.RowKit
def ofV : Value := .agg (endsT.flatMap fun e => [.int .i64 e.1, .int .i64 e.2.1, .bool e.2.2.1, .bool e.2.2.2]).toArray
set_option maxRecDepth 10000 in
theorem bd_of (h : Heap) : buildR Prog 332 [(1, (.agg #[.int .i64 1, .int .i64 0, .bool false, .bool false])), (2, (.agg #[.int .i64 0, .int .i64 1, .bool false, .bool false])), (3, (.agg #[.int .i64 1, .int .i64 1, .bool false, .bool false])), (4, (.agg #[.int .i64 2, .int .i64 0, .bool false, .bool false])), (5, (.agg #[.int .i64 2, .int .i64 0, .bool true, .bool false])), (6, (.agg #[.int .i64 0, .int .i64 2, .bool false, .bool false])), (7, (.agg #[.int .i64 0, .int .i64 2, .bool false, .bool true])), (8, (.agg #[.int .i64 1, .int .i64 2, .bool false, .bool false])), (9, (.agg #[.int .i64 1, .int .i64 2, .bool false, .bool true])), (10, (.agg #[.int .i64 2, .int .i64 1, .bool false, .bool false])), (11, (.agg #[.int .i64 2, .int .i64 1, .bool true, .bool false])), (12, (.agg #[.int .i64 2, .int .i64 2, .bool false, .bool false])), (13, (.agg #[.int .i64 2, .int .i64 2, .bool true, .bool false])), (14, (.agg #[.int .i64 2, .int .i64 2, .bool false, .bool true])), (15, (.agg #[.int .i64 2, .int .i64 2, .bool true, .bool true]))] h = .ok ofV h :=
 (bd_332 _ h).trans rfl
abbrev endV (e : Int × Int × Bool × Bool) : Value := .agg #[.int .i64 e.1, .int .i64 e.2.1, .bool e.2.2.1, .bool e.2.2.2]
theorem iv_of {v : Int} (hv : ¬ (v ≤ 0 ∨ v ≥ 16)) (h : Heap) : ivA 16 4 ofV (.int .i64 v) h = .ok (endV (endsS v)) h := by
 rcases verb_cases hv with rfl | rfl | rfl | rfl | rfl | rfl | rfl | rfl | rfl | rfl | rfl | rfl | rfl | rfl | rfl <;> rfl
theorem verbOf_run (k : Nat) {v : Int} (hv : ¬ (v ≤ 0 ∨ v ≥ 16)) (H : Heap) : R (T k) F.verb_of [.int .i64 v] H = .ok (endV (endsS v)) H := by
 rw [verb_of_R]
 have iv := fun h => iv_of hv h
 generalize endsS v = e at iv ⊢
 refine nrm_gc ⟨H.push ⟨[.int .i64 e.1, .int .i64 e.2.1, .bool e.2.2.1, .bool e.2.2.2], 1, false⟩, ?_, (Ext.refl H).push _⟩ (Flat.aggL (l := [.int .i64 e.1, .int .i64 e.2.1, .bool e.2.2.1, .bool e.2.2.2]) (.cons (.int _ _) (.cons (.int _ _) (.cons (.bool _) (.cons (.bool _) .nil))))).alive
 simp -implicitDefEqProofs (disch := omega) [-bd_332, bd_of, verb_of, iv]
theorem span_own (k : Nat) (a b : Int) (t : Bool) (ha : -2 ^ 40 < a ∧ a < 2 ^ 40) (hb : -2 ^ 40 < b ∧ b < 2 ^ 40) (hl : b - a < 2 ^ 30) (H : Heap) :
  ∃ s H', R (T k) F.verb_span [.int .i64 a, .int .i64 b, .bool t] H = .ok s H' ∧ Own H H' 1 s encI (spanS a b t) ∧ Ext H H' := by
 have g := (Star.nil H).more_row (Ext.refl _) (OwnO.nil encI _ 1) (fun b hb => by cases hb)
 simp only [List.nil_append] at g
 obtain ⟨x, e', H1, hr1, rfl, s, o, z, rfl, g⟩ := loop_up (body := verb_span_l1 k (R (T k))) (b - a).toNat
  (fun j e H' => ∃ s o, e = [(0, .int .i64 a), (1, .int .i64 b), (2, .bool t), (7, s), (11, .int .i64 (b - a)), (12, .int .i64 j)] ∧ Star H H' [itRow o 1 s encI ((spanS a b t).take j)])
  (fun x e H' => x = .exit 0 ∧ ∃ s o z, e = [(0, .int .i64 a), (1, .int .i64 b), (2, .bool t), (7, s), (11, .int .i64 (b - a)), (12, z), (13, .bool false)] ∧ Star H H' [itRow o 1 s encI (spanS a b t)])
  (e0 := [(0, .int .i64 a), (1, .int .i64 b), (2, .bool t), (7, .slice none 0 0), (11, .int .i64 (b - a)), (12, .int .i64 0)]) (H0 := H) ⟨_, none, rfl, by simpa using g⟩ (by omega)
  (fun j e H' hj ⟨s, o, he, g⟩ => by
   subst he
   have hjl : (j : Int) < b - a := by omega
   have hx : (spanS a b t)[j]? = some (if t then b - 1 - j else a + j) := by
    unfold spanS
    rw [List.getElem?_map, List.getElem?_range hj]
    rfl
   obtain ⟨s', o', H2, e2, g2⟩ := g.append1 (bytes := 8) 0 encI_len rfl (if t then b - 1 - j else a + j) (by rw [List.length_take, spanS_len]; omega) (by decide)
   simp only [List.set_cons_zero] at g2
   rw [← take_snoc hx] at g2
   refine .inl ⟨_, H2, ?_, s', o', rfl, g2⟩
   rw [verb_span_l1_eq]
   cases t with
   | true =>
    simp only [if_true] at e2
    simp -implicitDefEqProofs (disch := omega) [hjl, e2, verb_span_j1_eq]
   | false =>
    simp only [Bool.false_eq_true, if_false] at e2
    simp -implicitDefEqProofs (disch := omega) [hjl, e2, verb_span_j1_eq])
  (fun e H' ⟨s, o, he, g⟩ => by
   subst he
   rw [List.take_of_length_le (by rw [spanS_len]; exact Nat.le_refl _)] at g
   have hns : ¬ (((b - a).toNat : Nat) : Int) < b - a := by omega
   refine ⟨.exit 0, _, H', ?_, by simp, rfl, s, o, .int .i64 ((b - a).toNat : Nat), rfl, g⟩
   rw [verb_span_l1_eq]
   simp -implicitDefEqProofs only [bin_lss, Res.bind_ok, hns, decide_false, condV_bool, Bool.false_eq_true, if_false])
 refine ⟨s, H1, ?_, g.own 0 rfl, g.ext⟩
 rw [verb_span_R]
 refine nrm_of ?_
 simp -implicitDefEqProofs (disch := omega) [verb_span, hr1, verb_span_l1k_x0]
theorem verbOrder_run (k : Nat) (v n : Int) (hv : -2 ^ 62 < v ∧ v < 2 ^ 62) (hn : -2 ^ 26 < n ∧ n < 2 ^ 26) (H : Heap) :
  R (T k) F.verb_Order [.int .i64 v, .int .i64 n] H = .ok (.tuple #[lv encI ((orderS v n).getD []), .bool (orderS v n).isSome]) H := by
 rw [verb_Order_R]
 have fl : ∀ (l : List Int) b, Flat (.tuple #[lv encI l, .bool b]) := fun l b => Flat.tupleL (l := [lv encI l, .bool b]) (.cons (Flat.lv fun p _ => .cons (.int _ _) .nil) (.cons (.bool _) .nil))
 unfold orderS
 by_cases c0 : v ≤ 0
 ·rw [if_pos (.inl c0)]
  refine nrm_fz (v := .tuple #[.slice none 0 0, .bool false]) (u := .tuple #[lv encI [], .bool false]) (L := []) (H' := H) ?_ rfl (Ext.refl H) (fl [] false).alive
  simp -implicitDefEqProofs (disch := omega) [verb_Order, c0]
 by_cases c1 : v ≥ 16
 ·rw [if_pos (.inr (.inl c1))]
  refine nrm_fz (v := .tuple #[.slice none 0 0, .bool false]) (u := .tuple #[lv encI [], .bool false]) (L := []) (H' := H) ?_ rfl (Ext.refl H) (fl [] false).alive
  simp -implicitDefEqProofs (disch := omega) [verb_Order, c0, c1]
 have hvv : ¬ (v ≤ 0 ∨ v ≥ 16) := by omega
 have hof := fun H' => verbOf_run k hvv H'
 obtain ⟨q1, q2, q3, q4, q5⟩ := ends_bound hvv
 generalize endsS v = e at hof q1 q2 q3 q4 q5 ⊢
 obtain ⟨l, r, tl, tr⟩ := e
 dsimp only at hof q1 q2 q3 q4 q5 ⊢
 have hx1 : Ext H (H.push ⟨[.int .i64 l, .int .i64 r, .bool tl, .bool tr], 1, false⟩) := (Ext.refl H).push _
 by_cases c2 : n < l + r
 ·rw [if_pos (.inr (.inr c2))]
  refine nrm_fz (v := .tuple #[.slice none 0 0, .bool false]) (u := .tuple #[lv encI [], .bool false]) (L := []) (H' := H.push ⟨[.int .i64 l, .int .i64 r, .bool tl, .bool tr], 1, false⟩) ?_ rfl hx1 (fl [] false).alive
  simp -implicitDefEqProofs (disch := omega) [verb_Order, c0, c1, hof, c2]
 rw [if_neg (by omega), Option.getD_some, Option.isSome_some]
 have g := (Star.nil H).push ⟨[.int .i64 l, .int .i64 r, .bool tl, .bool tr], 1, false⟩
 simp only [List.nil_append] at g
 obtain ⟨s1, H1, e1, o1, x1⟩ := span_own k (n - r) n tr (by omega) (by omega) (by omega) (H.push ⟨[.int .i64 l, .int .i64 r, .bool tl, .bool tr], 1, false⟩)
 obtain ⟨u1, g⟩ := g.more_own o1 x1
 have b1 := g.get 0 rfl
 obtain ⟨s2, H2, e2, o2, x2⟩ := span_own k l (n - r) false (by omega) (by omega) (by omega) H1
 obtain ⟨u2, g⟩ := g.more_own o2 x2
 simp only [List.cons_append, List.nil_append] at g
 have b2 := g.get 0 rfl
 obtain ⟨s3, u3, H3, e3, g⟩ := g.appendRow (bytes := 8) 1 2 encI_len rfl rfl (by rw [spanS_len, spanS_len]; omega) (by decide)
 simp only [List.set_cons_zero, List.set_cons_succ] at g
 have b3 := g.get 0 rfl
 obtain ⟨s4, H4, e4, o4, x4⟩ := span_own k 0 l tl (by omega) (by omega) (by omega) H3
 obtain ⟨u4, g⟩ := g.more_own o4 x4
 simp only [List.cons_append, List.nil_append] at g
 obtain ⟨s5, u5, H5, e5, g⟩ := g.appendRow (bytes := 8) 1 3 encI_len rfl rfl (by rw [List.length_append, spanS_len, spanS_len, spanS_len]; omega) (by decide)
 simp only [List.set_cons_zero, List.set_cons_succ] at g
 obtain ⟨L, hf⟩ := (g.own 1 rfl).freeze encI_len (fun p _ v hv => by simp at hv; subst hv; trivial) 5
 have hft : fzV H.n H5 fzDepth (.tuple #[s5, .bool true]) = some (.tuple #[lv encI (spanS (n - r) n tr ++ spanS l (n - r) false ++ spanS 0 l tl), .bool true], L ++ []) :=
  fz_tuple (l := [s5, .bool true]) (r := [_, .bool true]) (mapF_cons hf (mapF_still fun v hv => by simp at hv; subst hv; trivial))
 refine nrm_fz (v := .tuple #[s5, .bool true]) (H' := H5) ?_ hft g.ext (fl _ _).alive
 simp -implicitDefEqProofs (disch := omega) [verb_Order, c0, c1, hof, c2, e1, b1, e2, b2, e3, b3, e4, e5]
end Go.Sw
end
section
namespace Go.Sw
open Go.RowKit
section
variable {α : Type} {enc : α → List Value}
theorem OwnO.cut {H : Heap} {o : Option Nat} {m : Nat} {s : Value} {l : List α} (he : ∀ x, (enc x).length = m) (h : OwnO H o m s enc l) (k1 k2 : IntKind) (a n : Nat) (hn : a + n ≤ l.length) :
  ∃ v, slS m s (some (.int k1 a)) (some (.int k2 ((a + n : Nat) : Int))) none H = .ok v H ∧ Sl H m v enc ((l.drop a).take n) := by
 have b1 : ∀ d, boundOf (some (.int k1 (a : Int))) d = some a := fun d => by simp [boundOf]
 have b2 : ∀ d, boundOf (some (.int k2 ((a + n : Nat) : Int))) d = some (a + n) := fun d => by
  unfold boundOf; dsimp only; rw [if_pos (by omega), Int.toNat_natCast]
 have hl : ((l.drop a).take n).length = n := by simp; omega
 rcases h with ⟨h0, rfl, hs⟩ | ⟨b, rfl, rfl, hb⟩
 ·have ha : a = 0 := by simp at hn; omega
  have hn0 : n = 0 := by simp at hn; omega
  subst ha hn0
  rcases hs with rfl | rfl | rfl
  ·refine ⟨.slice none 0 0, ?_, .inr (.inl ⟨by simp, .inl rfl⟩)⟩
   unfold slS; dsimp only; rw [b1, b2]; rfl
  ·refine ⟨emptyV, ?_, .inr (.inl ⟨by simp, .inr (.inr rfl)⟩)⟩
   unfold slS bareV; dsimp only; rw [b1, b2]; rfl
  ·refine ⟨emptyV, ?_, .inr (.inl ⟨by simp, .inr (.inr rfl)⟩)⟩
   unfold slS emptyV; dsimp only; rw [b1, b2]; rfl
 ·refine ⟨.slice (some ⟨b, 0 + a * m, none⟩) n (l.length - a), ?_, .inr (.inr ⟨b, 0 + a * m, l.length - a, _, by rw [hl], by omega, hb, ?_⟩)⟩
  ·unfold slS
   dsimp only
   rw [b1, b2]
   dsimp only [boundOf]
   rw [if_pos ⟨Nat.le_refl _, by omega, by omega, by simp⟩]
   have : openOk H b m none = true := by unfold openOk; rw [hb]; simp
   rw [if_pos this, Nat.add_sub_cancel_left]
  ·rw [hl, ← rows_take he, ← rows_drop he, Nat.zero_add]
end
abbrev encBo (b : Bool) : List Value := [.bool b]
theorem encBo_len (b : Bool) : (encBo b).length = 1 := rfl
def marksO (n : Nat) (o : List Int) : List Bool := (List.range n).map fun (x : Nat) => decide ((x : Int) ∈ o)
theorem marksO_len (n : Nat) (o : List Int) : (marksO n o).length = n := by simp [marksO]
theorem marksO_nil (n : Nat) : marksO n [] = List.replicate n false := by
 unfold marksO
 apply List.ext_getElem?
 intro i
 rw [List.getElem?_map]
 by_cases h : i < n
 ·rw [List.getElem?_range h, List.getElem?_replicate, if_pos h]; rfl
 ·rw [List.getElem?_eq_none (by simpa using h), List.getElem?_replicate, if_neg h]; rfl
theorem marksO_get {n : Nat} (o : List Int) {x : Nat} (h : x < n) : (marksO n o)[x]? = some (decide ((x : Int) ∈ o)) := by
 unfold marksO
 rw [List.getElem?_map, List.getElem?_range h]
 rfl
theorem marksO_set {n : Nat} (o : List Int) {x : Nat} (h : x < n) : (marksO n o).set x true = marksO n (o ++ [(x : Int)]) := by
 apply List.ext_getElem?
 intro i
 by_cases hi : i < n
 ·rw [marksO_get _ hi, List.getElem?_set]
  by_cases hx : x = i
  ·subst hx
   rw [if_pos rfl, if_pos (by rw [marksO_len]; exact h)]
   simp
  ·rw [if_neg hx, marksO_get _ hi]
   have : ¬ (i : Int) = x := by omega
   simp [this]
 ·rw [List.getElem?_eq_none (by rw [List.length_set, marksO_len]; omega), List.getElem?_eq_none (by rw [marksO_len]; omega)]
theorem bools_rep (n : Nat) : repeatCells [.bool false] n = rows encBo (List.replicate n false) := by
 induction n with
 | zero => rfl
 | succ n ih =>
  rw [List.replicate_succ]
  show _ = encBo false ++ rows encBo (List.replicate n false)
  rw [← ih]
  rfl
def toO (o : List Int) (n j : Nat) : Prop := (∀ k, k ∈ o.take j → 0 ≤ k ∧ k < n) ∧ (o.take j).Nodup
theorem toO_step {o : List Int} {n j : Nat} {x : Int} (h : toO o n j) (hx : o[j]? = some x) (h0 : 0 ≤ x) (h1 : x < n) (h2 : x ∉ o.take j) : toO o n (j + 1) := by
 unfold toO
 rw [take_snoc hx]
 refine ⟨fun k hk => ?_, ?_⟩
 ·rcases List.mem_append.1 hk with h' | h'
  ·exact h.1 k h'
  ·have := List.mem_singleton.1 h'
   subst this
   exact ⟨h0, h1⟩
 ·rw [List.nodup_append]
  refine ⟨h.2, by simp, fun a ha b hb => ?_⟩
  have := List.mem_singleton.1 hb
  subst this
  exact fun e => h2 (e ▸ ha)
theorem notO_mem {o : List Int} {j : Nat} {x : Int} (hx : o[j]? = some x) (h : x ∈ o.take j) : ¬ okO o := fun hk => by
 obtain ⟨i, hi⟩ := List.getElem?_of_mem h
 rw [List.getElem?_take] at hi
 split at hi
 ·rename_i hij
  have hn := hk.2
  obtain ⟨h1, e1⟩ := List.getElem?_eq_some_iff.1 hi
  obtain ⟨h2, e2⟩ := List.getElem?_eq_some_iff.1 hx
  exact List.pairwise_iff_getElem.1 hn i j h1 h2 hij (e1.trans e2.symm)
 ·cases hi
theorem notO_out {o : List Int} {j : Nat} {x : Int} (hx : o[j]? = some x) (h : x < 0 ∨ x ≥ o.length) : ¬ okO o := fun hk => by
 have := hk.1 x (List.mem_of_getElem? hx)
 omega
def putTo (l : List Gl) (a : Nat) (o : List Int) (j : Nat) : List Gl := l.take a ++ (((o.take j).map fun k => ((l.drop a)[k.toNat]?).getD ⟨0, 0⟩) ++ l.drop (a + j))
theorem putTo_zero (l : List Gl) (a : Nat) (o : List Int) : putTo l a o 0 = l := by unfold putTo; simp
theorem putTo_all (l : List Gl) (a : Nat) (o : List Int) : putTo l a o o.length = putO l a o := by unfold putTo putO; rw [List.take_length]
theorem putTo_len {l : List Gl} {a : Nat} {o : List Int} {j : Nat} (h : a + o.length ≤ l.length) (hj : j ≤ o.length) : (putTo l a o j).length = l.length := by
 unfold putTo
 simp
 omega
theorem putTo_step {l : List Gl} {a : Nat} {o : List Int} {j : Nat} {x : Int} {g : Gl} (h : a + o.length ≤ l.length) (hx : o[j]? = some x) (hg : (l.drop a)[x.toNat]? = some g) : (putTo l a o j).set (a + j) g = putTo l a o (j + 1) := by
 have hj := (List.getElem?_eq_some_iff.1 hx).1
 unfold putTo
 rw [take_snoc hx, List.map_append, List.set_append_right _ _ (by simp; omega)]
 congr 1
 have e1 : a + j - (l.take a).length = j := by simp; omega
 have e2 : ((o.take j).map fun k => ((l.drop a)[k.toNat]?).getD (⟨0, 0⟩ : Gl)).length = j := by simp; omega
 rw [e1, List.set_append_right _ _ (by omega), e2, Nat.sub_self, List.append_assoc]
 congr 1
 rw [List.drop_eq_getElem_cons (show a + j < l.length by omega), List.set_cons_zero, ← Nat.add_assoc]
 rw [List.getElem?_drop] at hg
 simp [hg]
set_option maxHeartbeats 2000000 in
theorem lineOrder_star (k : Nat) {H0 H : Heap} {L : List It} (h : Star H0 H L) (i : Nat) {c : Nat} {ob : Option Nat} {l : List Gl} (hi : L[i]? = some (itLine c ob l)) (hl : l.length ≤ 2 ^ 31) (a : Int) (o : List Int) (ho : o.length < 2 ^ 62) (ha : -2 ^ 62 < a ∧ a < 2 ^ 62) :
  ∃ H', R (T k) F.line_Line_Order [ptrV c, .int .i64 a, lv encI o] H = .ok (.bool (orderG l a o).isSome) H' ∧ Star H0 H' (L.set i (itLine c ob ((orderG l a o).getD l))) := by
 have hlt := (List.getElem?_eq_some_iff.1 hi).1
 have same : L.set i (itLine c ob l) = L := by
  obtain ⟨hlt, hx⟩ := List.getElem?_eq_some_iff.1 hi
  rw [← hx, List.set_getElem_self]
 obtain ⟨hne, s, h1, h2⟩ := h.box i hi
 simp only [List.nil_append] at h1
 have hln : ∀ H', lnS s H' = .ok (.int .i64 l.length) H' := h2.len
 rw [line_Line_Order_R]
 unfold orderG
 by_cases c1 : 0 ≤ a ∧ a ≤ l.length ∧ (o.length : Int) ≤ l.length - a
 rotate_left
 ·rw [if_neg (fun hc => c1 ⟨hc.1, hc.2.1, hc.2.2.1⟩)]
  refine ⟨H, nrm_of ?_, by rw [Option.getD_none, same]; exact h⟩
  by_cases d1 : a < 0
  ·simp -implicitDefEqProofs (disch := omega) [line_Line_Order, d1]
  ·by_cases d2 : a > l.length
   ·simp -implicitDefEqProofs (disch := omega) [line_Line_Order, d1, h1, hln, d2]
   ·have d3 : (o.length : Int) > l.length - a := by omega
    simp -implicitDefEqProofs (disch := omega) [line_Line_Order, d1, h1, hln, d2, d3]
 obtain ⟨q1, q2, q3⟩ := c1
 obtain ⟨n, rfl⟩ := Int.eq_ofNat_of_zero_le q1
 have d1 : ¬ (n : Int) < 0 := by omega
 have d2 : ¬ (n : Int) > l.length := by omega
 have d3 : ¬ (o.length : Int) > l.length - n := by omega
 obtain ⟨w, hw1, hw2⟩ := h2.cut encG_len .i64 .i64 n o.length (by omega)
 rw [Int.natCast_add] at hw1
 obtain ⟨s7, H1, e1, o1, x1⟩ := clone_sl (bytes := 16) encG_len hw2 (by simp; omega) (by decide)
 obtain ⟨o7, g⟩ := h.more_own o1 x1
 have hmk := fun H' => mkR_nat 1 1 [.bool false] .i64 .i64 o.length H' (by omega) (by omega)
 obtain ⟨Q, hQ⟩ : ∃ Q, Q = L ++ [itRow o7 2 s7 encG ((l.drop n).take o.length)] := ⟨_, rfl⟩
 rw [← hQ] at g
 have hQl : Q.length = L.length + 1 := by rw [hQ]; simp
 obtain ⟨sM, hsM⟩ : ∃ sM, sM = Value.slice (some ⟨H1.n, 0, none⟩) o.length o.length := ⟨_, rfl⟩
 have g := g.more_row (o := some H1.n) (m := 1) (s := sM) (enc := encBo) (l := List.replicate o.length false) ((Ext.refl H1).push ⟨repeatCells [.bool false] o.length, 1, false⟩) (.inr ⟨H1.n, rfl, by rw [hsM, List.length_replicate], by rw [get_push_eq _ _ _ rfl, bools_rep]⟩) (fun b hb => by injection hb with hb; subst hb; simp)
 rw [← marksO_nil] at g
 have hend : ∀ x : It, (Q ++ [x])[Q.length]? = some x := fun x => by simp
 obtain ⟨xx, e', H2, hr1, hX⟩ := loop_up (body := line_Line_Order_l1 k (R (T k))) o.length
  (fun j e H' => e = [(0, ptrV c), (1, .int .i64 n), (2, lv encI o), (7, s7), (8, sM), (50, lv encI o), (51, .int .i64 o.length), (52, .int .i64 j)] ∧ toO o o.length j ∧ Star H0 H' (Q ++ [itRow (some H1.n) 1 sM encBo (marksO o.length (o.take j))]))
  (fun xx e H' => (xx = .exit 0 ∧ e = [(0, ptrV c), (1, .int .i64 n), (2, lv encI o), (7, s7), (8, sM), (50, lv encI o), (51, .int .i64 o.length), (52, .int .i64 o.length), (53, .bool false)] ∧ okO o ∧ Star H0 H' Q) ∨ (xx = .ret ∧ e = [(6, .bool false)] ∧ ¬ okO o ∧ Star H0 H' Q))
  (e0 := [(0, ptrV c), (1, .int .i64 n), (2, lv encI o), (7, s7), (8, sM), (50, lv encI o), (51, .int .i64 o.length), (52, .int .i64 0)]) (H0 := H1.push ⟨repeatCells [.bool false] o.length, 1, false⟩) ⟨rfl, ⟨fun k hk => by simp at hk, by simp⟩, g⟩ (by omega)
  (fun j e H' hj ⟨he, ht, g⟩ => by
   subst he
   have hjl : (j : Int) < o.length := by omega
   obtain ⟨x, hx⟩ : ∃ x, o[j]? = some x := ⟨_, List.getElem?_eq_getElem hj⟩
   have i1 := fun H' => ixS_lvN encI_len o .i64 j x hx H'
   by_cases b1 : x < 0
   ·refine .inr ⟨.ret, _, H', ?_, by simp, .inr ⟨rfl, rfl, notO_out hx (.inl b1), g.drop_last⟩⟩
    rw [line_Line_Order_l1_eq]
    simp -implicitDefEqProofs (disch := omega) [hjl, i1, b1]
   by_cases b2 : x ≥ o.length
   ·refine .inr ⟨.ret, _, H', ?_, by simp, .inr ⟨rfl, rfl, notO_out hx (.inr b2), g.drop_last⟩⟩
    rw [line_Line_Order_l1_eq]
    simp -implicitDefEqProofs (disch := omega) [hjl, i1, b1, b2]
   obtain ⟨y, rfl⟩ := Int.eq_ofNat_of_zero_le (Int.not_lt.1 b1)
   have hy : y < o.length := by omega
   have hm := marksO_get (n := o.length) (o.take j) hy
   obtain ⟨b, hb, hgb, i2⟩ := g.ix Q.length (hend _) .i64 y (by rw [marksO_len]; exact hy)
   injection hb with hb
   subst hb
   have l1 := ld1_row encBo_len hgb (i := y) (c := 0) hm (by decide) rfl
   rw [Nat.add_zero, Nat.mul_one] at l1
   by_cases b3 : (y : Int) ∈ o.take j
   ·rw [decide_eq_true b3] at l1
    refine .inr ⟨.ret, _, H', ?_, by simp, .inr ⟨rfl, rfl, notO_mem hx b3, g.drop_last⟩⟩
    rw [line_Line_Order_l1_eq]
    simp -implicitDefEqProofs (disch := omega) [-ld1_ptr, hjl, i1, b1, b2, i2, l1]
   ·rw [decide_eq_false b3] at l1
    obtain ⟨H3, e3, g3, _⟩ := g.stRow Q.length (hend _) encBo_len (j := y) (c := 0) (n := 1) true (v := .bool true) hm rfl rfl (by decide) rfl
    rw [marksO_set _ hy, ← take_snoc hx, set_at_end] at g3
    rw [Nat.add_zero, Nat.mul_one] at e3
    refine .inl ⟨_, H3, ?_, rfl, toO_step ht hx (by omega) (by omega) b3, g3⟩
    rw [line_Line_Order_l1_eq]
    simp -implicitDefEqProofs (disch := omega) [-ld1_ptr, -stR_ptr, hjl, i1, b1, b2, i2, l1, e3])
  (fun e H' ⟨he, ht, g⟩ => by
   subst he
   refine ⟨.exit 0, _, H', ?_, by simp, .inl ⟨rfl, rfl, ?_, g.drop_last⟩⟩
   ·rw [line_Line_Order_l1_eq]
    simp -implicitDefEqProofs
   ·unfold toO at ht
    rw [List.take_length] at ht
    exact ht)
 rcases hX with ⟨rfl, rfl, hok, g⟩ | ⟨rfl, rfl, hno, g⟩
 rotate_left
 ·rw [if_neg (fun hc => hno hc.2.2.2)]
  rw [hQ] at g
  refine ⟨H2, nrm_of ?_, by rw [Option.getD_none, same]; exact g.drop_last⟩
  rw [hsM] at hr1
  simp -implicitDefEqProofs (disch := omega) [line_Line_Order, d1, h1, hln, d2, d3, hw1, cloneG_R k e1, hmk, hr1, line_Line_Order_l1k_r]
 rw [if_pos ⟨q1, q2, q3, hok⟩, Int.toNat_natCast, Option.getD_some]
 have hiQ : Q[i]? = some (itLine c ob l) := by rw [hQ, List.getElem?_append_left hlt]; exact hi
 have h7 : Q[L.length]? = some (itRow o7 2 s7 encG ((l.drop n).take o.length)) := by rw [hQ]; simp
 have hQs : ∀ l', Q.set i (itLine c ob l') = L.set i (itLine c ob l') ++ [itRow o7 2 s7 encG ((l.drop n).take o.length)] := fun l' => by rw [hQ, List.set_append_left _ _ hlt]
 obtain ⟨xx, e', H4, hr4, rfl, ⟨z, rfl⟩, g⟩ := loop_up (body := line_Line_Order_l2 k (R (T k))) o.length
  (fun j e H' => e = [(0, ptrV c), (1, .int .i64 n), (7, s7), (74, lv encI o), (75, .int .i64 o.length), (76, .int .i64 j)] ∧ Star H0 H' (Q.set i (itLine c ob (putTo l n o j))))
  (fun xx e H' => xx = .exit 2 ∧ (∃ z, e = [(0, ptrV c), (1, .int .i64 n), (7, s7), (74, lv encI o), (75, .int .i64 o.length), (76, z), (77, .bool false)]) ∧ Star H0 H' (Q.set i (itLine c ob (putTo l n o o.length))))
  (e0 := [(0, ptrV c), (1, .int .i64 n), (7, s7), (74, lv encI o), (75, .int .i64 o.length), (76, .int .i64 0)]) (H0 := H2) ⟨rfl, by
   rw [putTo_zero]
   have : Q.set i (itLine c ob l) = Q := by
    obtain ⟨hlt, hx⟩ := List.getElem?_eq_some_iff.1 hiQ
    rw [← hx, List.set_getElem_self]
   rw [this]
   exact g⟩ (by omega)
  (fun j e H' hj ⟨he, g⟩ => by
   subst he
   have hjl : (j : Int) < o.length := by omega
   obtain ⟨x, hx⟩ : ∃ x, o[j]? = some x := ⟨_, List.getElem?_eq_getElem hj⟩
   have i1 := fun H' => ixS_lvN encI_len o .i64 j x hx H'
   have hxb := hok.1 x (List.mem_of_getElem? hx)
   obtain ⟨y, rfl⟩ := Int.eq_ofNat_of_zero_le hxb.1
   have hne : i ≠ L.length := by omega
   have h7' : (Q.set i (itLine c ob (putTo l n o j)))[L.length]? = some (itRow o7 2 s7 encG ((l.drop n).take o.length)) := by rw [List.getElem?_set_ne hne]; exact h7
   have hiQ' : (Q.set i (itLine c ob (putTo l n o j)))[i]? = some (itLine c ob (putTo l n o j)) := List.getElem?_set_self (by rw [hQ, List.length_append]; omega)
   obtain ⟨b7, hb7, hg7, i2⟩ := g.ix L.length h7' .i64 y (by simp; omega)
   obtain ⟨gl, hgl⟩ : ∃ gl, (l.drop n)[y]? = some gl := ⟨_, List.getElem?_eq_getElem (by simp; omega)⟩
   have hgl2 : ((l.drop n).take o.length)[y]? = some gl := by rw [List.getElem?_take, if_pos (by omega)]; exact hgl
   have l1 := ldA_row encG_len hg7 hgl2
   obtain ⟨hne2, s2, k1, k2⟩ := g.box i hiQ'
   simp only [List.nil_append] at k1
   have hpl := putTo_len (l := l) (a := n) (o := o) (j := j) (by omega) (by omega)
   obtain ⟨bL, rfl, hsL, hgL, i3⟩ := k2.ix .i64 (n + j) (by omega)
   obtain ⟨gj, hgj⟩ : ∃ gj, (putTo l n o j)[n + j]? = some gj := ⟨_, List.getElem?_eq_getElem (by omega)⟩
   obtain ⟨H5, e5, g5, _⟩ := g.stBox i hiQ' encG_len (c := 0) (n := 2) gl (v := .agg (encG gl).toArray) hgj rfl rfl (by decide) rfl
   rw [List.set_set, putTo_step (by omega) hx (by rw [Int.toNat_natCast]; exact hgl)] at g5
   rw [Nat.add_zero] at e5
   rw [Int.natCast_add] at i3
   refine .inl ⟨_, H5, ?_, rfl, g5⟩
   rw [line_Line_Order_l2_eq]
   simp -implicitDefEqProofs (disch := omega) [-ldA_ptr, -stR_ptr, hjl, i1, k1, i2, l1, i3, e5])
  (fun e H' ⟨he, g⟩ => by
   subst he
   refine ⟨.exit 2, _, H', ?_, by simp, rfl, ⟨.int .i64 o.length, rfl⟩, g⟩
   rw [line_Line_Order_l2_eq]
   simp -implicitDefEqProofs)
 rw [putTo_all, hQs] at g
 refine ⟨H4, nrm_of ?_, g.drop_last⟩
 rw [hsM] at hr1
 simp -implicitDefEqProofs (disch := omega) [line_Line_Order, d1, h1, hln, d2, d3, hw1, cloneG_R k e1, hmk, hr1, line_Line_Order_l1k_x0, hr4, line_Line_Order_l2k_x2]
end Go.Sw
end
