/-
  Functions' forms, and what is proved of them, part 7.
-/
import Derived.Test.YtnaodjnimkndbaaSwW5
import Derived.Test.YtnaodjnimkndbaaSwW6
import Derived.Test.YtnaodjnimkndbaaSwCfg
import Derived.Test.YtnaodjnimkndbaaSwW1
import Derived.Test.YtnaodjnimkndbaaSwLib8
import Derived.Tactics
import Derived.Tactics2
import Derived.Defers
import Derived.Recover
import Derived.Laws.Pointers
set_option linter.unusedSimpArgs false
set_option linter.unusedVariables false
set_option linter.unusedSectionVars false
section
namespace Go.Sw
open Go.RowKit
theorem twos_get (l : List Int) (pre rest : List Int) (i : Nat) (x : Int) (hx : l[i]? = some x) (hb : 0 ≤ x ∧ x < 65536) (p : Int) (hp : p = pre.length + 2 * i) : uS (pre ++ (twos l ++ rest)) p 2 = some x := by
 obtain ⟨hi, hg⟩ := List.getElem?_eq_some_iff.1 hx
 have e : twos l = twos (l.take i) ++ (bytesOf x 2 ++ twos (l.drop (i + 1))) := by
  have : l = l.take i ++ ([x] ++ l.drop (i + 1)) := by
   rw [← hg, List.singleton_append, ← List.drop_eq_getElem_cons hi, List.take_append_drop]
  conv => lhs; rw [this]
  simp [twos]
 rw [e, ← List.append_assoc]
 have h := uS_at (pre ++ twos (l.take i)) (twos (l.drop (i + 1)) ++ rest) (n := x) (k := 2) p 2 (by rw [List.length_append, twos_len, List.length_take]; omega) rfl hb.1 (by simpa using hb.2)
 simpa [List.append_assoc] using h
theorem twos_flat (n : Nat) : ∀ rs : List (List Int), rowsL n rs = twos (rs.map (rowL n)).flatten
 | [] => rfl
 | r :: rs => by
  have ih := twos_flat n rs
  unfold rowsL at ih ⊢
  rw [List.map_cons, List.flatten_cons, ih]
  simp [twos]
theorem flat_get {n : Nat} : ∀ {rs : List (List Int)} {s i : Nat} {r : List Int}, (∀ r, r ∈ rs → r.length = n) → rs[s]? = some r → i < n → rs.flatten[n * s + i]? = r[i]?
 | [], s, i, r, _, h, _ => by simp at h
 | q :: rs, 0, i, r, hl, h, hi => by
  simp at h
  subst h
  have := hl q (by simp)
  rw [List.flatten_cons, Nat.mul_zero, Nat.zero_add, List.getElem?_append_left (by omega)]
 | q :: rs, s + 1, i, r, hl, h, hi => by
  have h1 := hl q (by simp)
  have := flat_get (s := s) (i := i) (fun r hr => hl r (List.mem_cons_of_mem _ hr)) (by simpa using h) hi
  rw [List.flatten_cons, List.getElem?_append_right (by rw [h1, Nat.mul_succ]; omega), h1, ← this]
  congr 1
  rw [Nat.mul_succ]; omega
theorem restS_all (b : List Int) : restS b 0 = some b := by
 unfold restS
 rw [if_pos ⟨Int.le_refl _, by omega⟩]
 rfl
theorem rowK_plan {n : Nat} (hn : 0 < n) {rs : List (List Int)} (hb : ∀ r, r ∈ rs → Byt r) (x : List Int) {s : Nat} {r : List Int} (hr : rs[s]? = some r) : rowK (rowsL n rs ++ x) n s = some (rowL n r) := by
 have hs := (List.getElem?_eq_some_iff.1 hr).1
 have hlen : (n * 2) * (s + 1) ≤ rs.length * (n * 2) := by rw [Nat.mul_comm]; exact Nat.mul_le_mul_right _ hs
 have hsome : (rowK (rowsL n rs ++ x) n s).isSome = true := by
  rw [rowK_iff (by omega), List.length_append, rowsL_len]
  have h2 : (2 * (n : Int) * ((s : Int) + 1)) = (((n * 2) * (s + 1) : Nat) : Int) := by simp [Int.mul_comm]
  rw [h2]
  omega
 obtain ⟨q, hq⟩ := Option.isSome_iff_exists.1 hsome
 have hat := row_at (restS_all _) (show (0 : Int) < n by omega) hq
 rw [hq, hat]
 congr 1
 rw [Int.toNat_natCast]
 unfold rowL
 apply List.map_congr_left
 intro i hi
 have hi := List.mem_range.1 hi
 have hg : (rs.map (rowL n)).flatten[n * s + i]? = some (r[i]?.getD 0) := by
  rw [flat_get (r := rowL n r) (fun q hq => by obtain ⟨p, _, rfl⟩ := List.mem_map.1 hq; exact rowL_len _ _) (by rw [List.getElem?_map, hr]; rfl) hi]
  unfold rowL
  rw [List.getElem?_map, List.getElem?_range hi]
  rfl
 have hbd : 0 ≤ r[i]?.getD 0 ∧ r[i]?.getD 0 < 256 := by
  cases h : r[i]? with
  | none => simp
  | some y => exact hb r (List.mem_of_getElem? hr) y (List.mem_of_getElem? h)
 rw [twos_flat]
 have := twos_get _ [] x (n * s + i) _ hg ⟨hbd.1, by omega⟩ (0 + ((n : Int) * s + i) * 2) (by simp; omega)
 rw [List.nil_append] at this
 rw [gU_some this]
def entM (w : Int) (e : En) : En := ⟨m16 e.next, m16 e.flags, if 0 < w then m16 e.a else 0, if 1 < w then m16 e.b else 0⟩
theorem entB_length {w : Int} (hw : w = 0 ∨ w = 1 ∨ w = 2) (e : En) : (entB w e).length = (4 + 2 * w).toNat := by
 unfold entB
 simp only [List.length_append, bytesOf_len]
 rcases hw with rfl | rfl | rfl <;> simp
theorem entK_plan {w : Int} (hw : w = 0 ∨ w = 1 ∨ w = 2) {es : List En} (x : List Int) {i : Nat} {e : En} (he : es[i]? = some e) : entK (entsB w es ++ x) w i = some (entM w e) := by
 obtain ⟨hi, hg⟩ := List.getElem?_eq_some_iff.1 he
 have hall : entsB w es = entsB w (es.take i) ++ (entB w e ++ entsB w (es.drop (i + 1))) := by
  have : es = es.take i ++ ([e] ++ es.drop (i + 1)) := by
   rw [← hg, List.singleton_append, ← List.drop_eq_getElem_cons hi, List.take_append_drop]
  conv => lhs; rw [this]
  simp [entsB]
 have hl : (entsB w (es.take i)).length = i * (4 + 2 * w).toNat := by
  unfold entsB
  rw [flat_len (z := (4 + 2 * w).toNat) (fun r hr => by obtain ⟨p, _, rfl⟩ := List.mem_map.1 hr; exact entB_length hw p), List.length_map, List.length_take, Nat.min_eq_left (by omega)]
 unfold entK
 have hp : pieceS (entsB w es ++ x) ((4 + 2 * w) * i) (4 + 2 * w) = some (entB w e) := by
  rw [hall, List.append_assoc, List.append_assoc]
  refine pieceS_at _ _ _ _ _ ?_ ?_
  ·rw [hl, Int.mul_comm]
   have : (((4 + 2 * w).toNat : Nat) : Int) = 4 + 2 * w := by omega
   rw [Int.natCast_mul, this]
  ·rw [entB_length hw]; omega
 rw [hp, Option.map_some]
 congr 1
 have b1 := m16_bound e.next
 have b2 := m16_bound e.flags
 have b3 := m16_bound e.a
 have b4 := m16_bound e.b
 have at_ : ∀ (p q : List Int) (n i : Int), i = p.length → 0 ≤ n → n < 65536 → gU (p ++ (bytesOf n 2 ++ q)) i 2 = n := fun p q n i hi h0 h1 => gU_some (uS_at p q i 2 hi rfl h0 (by simpa using h1))
 unfold entOf entM entB
 rcases hw with rfl | rfl | rfl
 ·simp
  exact ⟨at_ [] _ _ 0 (by simp) b1.1 b1.2, by simpa using at_ (bytesOf (m16 e.next) 2) [] _ 2 (by simp) b2.1 b2.2⟩
 ·simp
  exact ⟨at_ [] _ _ 0 (by simp) b1.1 b1.2, at_ (bytesOf (m16 e.next) 2) _ _ 2 (by simp) b2.1 b2.2, by simpa using at_ (bytesOf (m16 e.next) 2 ++ bytesOf (m16 e.flags) 2) [] _ 4 (by simp) b3.1 b3.2⟩
 ·simp
  exact ⟨at_ [] _ _ 0 (by simp) b1.1 b1.2, at_ (bytesOf (m16 e.next) 2) _ _ 2 (by simp) b2.1 b2.2, by simpa [List.append_assoc] using at_ (bytesOf (m16 e.next) 2 ++ bytesOf (m16 e.flags) 2) (bytesOf (m16 e.b) 2) _ 4 (by simp) b3.1 b3.2,
   by simpa [List.append_assoc] using at_ (bytesOf (m16 e.next) 2 ++ (bytesOf (m16 e.flags) 2 ++ bytesOf (m16 e.a) 2)) [] _ 6 (by simp) b4.1 b4.2⟩
def planRoom (p : Plan) (w : Int) (rm : List Int) : List Int :=
 bytesOf (planN p : Int) 4 ++ (bytesOf (16 + rm.length : Int) 4 ++ (bytesOf (16 + rm.length + (ofS p.cls).length : Int) 4 ++ (bytesOf (16 + rm.length + (ofS p.cls).length + (rowsL (planN p) p.rows).length : Int) 4 ++ (rm ++ (ofS p.cls ++ (rowsL (planN p) p.rows ++ entsB w p.ents))))))
theorem planBytes_room (p : Plan) (w : Int) (room : Nat) : planBytes p w room = planRoom p w (List.replicate room 0) := by
 unfold planBytes planRoom
 simp [List.append_assoc]
def tabOf (cls : List Int) : Int × List Pt := (8, if cls = [] then [] else [⟨0, (cls.length : Int) - 1, cls⟩])
theorem twos_list (l : List Int) (pre rest : List Int) (hb : ∀ x, x ∈ l → 0 ≤ x ∧ x < 65536) (i : Int) (hi : i = pre.length) : listS (pre ++ (twos l ++ rest)) i l.length 2 = some l := by
 have hs : (listS (pre ++ (twos l ++ rest)) i l.length 2).isSome = true := by
  rw [listS_isSome (by omega), rowsB_iff (by omega)]
  simp [twos_len]
  omega
 obtain ⟨vs, hv⟩ := Option.isSome_iff_exists.1 hs
 rw [hv]
 congr 1
 have hlen : vs.length = l.length := by
  unfold listS at hv
  obtain ⟨r, _, rfl⟩ := Option.map_eq_some_iff.1 hv
  simp
 apply List.ext_getElem?
 intro j
 by_cases hj : j < l.length
 ·obtain ⟨x, hx⟩ : ∃ x, l[j]? = some x := ⟨_, List.getElem?_eq_getElem hj⟩
  rw [listS_get (by omega) hv j (by omega), hx]
  exact twos_get l pre rest j x hx (hb x (List.mem_of_getElem? hx)) _ (by omega)
 ·rw [List.getElem?_eq_none (by omega), List.getElem?_eq_none (by omega)]
theorem look_ofS (cls : List Int) (hb : ∀ x, x ∈ cls → 0 ≤ x ∧ x < 65536) (hl : cls.length ≤ 65535) (rest : List Int) (g : Int) : lookS (ofS cls ++ rest) g 2 = some (tabOf cls) := by
 have h0 : uS (ofS cls ++ rest) 0 2 = some 8 := by
  have := uS_at [] (bytesOf 0 2 ++ (bytesOf cls.length 2 ++ (twos cls ++ rest))) (n := 8) (k := 2) 0 2 rfl rfl (by omega) (by decide)
  simpa [ofS, List.append_assoc] using this
 have h2 : uS (ofS cls ++ rest) 2 2 = some 0 := by
  have := uS_at (bytesOf 8 2) (bytesOf cls.length 2 ++ (twos cls ++ rest)) (n := 0) (k := 2) 2 2 (by simp) rfl (by omega) (by decide)
  simpa [ofS, List.append_assoc] using this
 have h4 : uS (ofS cls ++ rest) (2 + 2) 2 = some (cls.length : Int) := by
  have := uS_at (bytesOf 8 2 ++ bytesOf 0 2) (twos cls ++ rest) (n := cls.length) (k := 2) (2 + 2) 2 (by simp) rfl (by omega) (by simp; omega)
  simpa [ofS, List.append_assoc] using this
 have h6 : listS (ofS cls ++ rest) (2 + 4) cls.length 2 = some cls := by
  have := twos_list cls (bytesOf 8 2 ++ bytesOf 0 2 ++ bytesOf cls.length 2) rest hb (2 + 4) (by simp)
  simpa [ofS, List.append_assoc] using this
 unfold lookS partsS
 rw [h0, Option.bind_some]
 simp only [show ¬ ((8 : Int) = 0) by decide, show ¬ ((8 : Int) = 2) by decide, show ¬ ((8 : Int) = 4) by decide, show ¬ ((8 : Int) = 6) by decide, if_false, if_true]
 unfold trimS
 rw [h2, Option.bind_some, h4, Option.bind_some, if_pos (by omega), h6, Option.map_some, Option.bind_some]
 unfold tabOf
 by_cases hc : cls = []
 ·subst hc; rfl
 ·rw [if_neg hc, if_neg (show ¬ ((cls.length : Int) = 0) by have := List.length_pos_iff.2 hc; omega)]
  simp [risesS]
theorem pieces_of (p : Plan) (w : Int) (rm more : List Int) (hrm : rm.length ≤ 1000) (h1 : p.cls.length ≤ 1000) (h2 : p.rows.length ≤ 1000) (hn : planN p ≤ 11) :
  let b := planRoom p w rm ++ more
  uS b 0 4 = some (planN p : Int) ∧ uS b 4 4 = some (16 + rm.length : Int) ∧ restS b (16 + rm.length : Int) = some (ofS p.cls ++ (rowsL (planN p) p.rows ++ (entsB w p.ents ++ more))) ∧
  uS b 8 4 = some (16 + rm.length + (ofS p.cls).length : Int) ∧ restS b (16 + rm.length + (ofS p.cls).length : Int) = some (rowsL (planN p) p.rows ++ (entsB w p.ents ++ more)) ∧
  uS b 12 4 = some (16 + rm.length + (ofS p.cls).length + (rowsL (planN p) p.rows).length : Int) ∧ restS b (16 + rm.length + (ofS p.cls).length + (rowsL (planN p) p.rows).length : Int) = some (entsB w p.ents ++ more) := by
 intro b
 have hofl : (ofS p.cls).length = 6 + p.cls.length * 2 := by unfold ofS; simp [twos_len]; omega
 have hrl : (rowsL (planN p) p.rows).length ≤ 1000 * 22 := by rw [rowsL_len]; exact Nat.mul_le_mul h2 (by omega)
 have rest : ∀ (pre q : List Int) (i : Int), i = pre.length → restS (pre ++ q) i = some q := fun pre q i hi => by
  subst hi
  unfold restS
  rw [if_pos ⟨by omega, by simp; omega⟩]
  simp
 have hb : b = bytesOf (planN p : Int) 4 ++ (bytesOf (16 + rm.length : Int) 4 ++ (bytesOf (16 + rm.length + (ofS p.cls).length : Int) 4 ++ (bytesOf (16 + rm.length + (ofS p.cls).length + (rowsL (planN p) p.rows).length : Int) 4 ++ (rm ++ (ofS p.cls ++ (rowsL (planN p) p.rows ++ (entsB w p.ents ++ more))))))) := by
  show planRoom p w rm ++ more = _
  unfold planRoom
  simp only [List.append_assoc]
 rw [hb]
 refine ⟨?_, ?_, ?_, ?_, ?_, ?_, ?_⟩
 ·exact uS_at [] _ 0 4 rfl rfl (by omega) (by simp; omega)
 ·exact uS_at (bytesOf (planN p : Int) 4) _ 4 4 (by simp) rfl (by omega) (by simp; omega)
 ·have := rest (bytesOf (planN p : Int) 4 ++ (bytesOf (16 + rm.length : Int) 4 ++ (bytesOf (16 + rm.length + (ofS p.cls).length : Int) 4 ++ (bytesOf (16 + rm.length + (ofS p.cls).length + (rowsL (planN p) p.rows).length : Int) 4 ++ rm)))) (ofS p.cls ++ (rowsL (planN p) p.rows ++ (entsB w p.ents ++ more))) (16 + rm.length) (by simp; omega)
  simpa only [List.append_assoc] using this
 ·have := uS_at (bytesOf (planN p : Int) 4 ++ bytesOf (16 + rm.length : Int) 4) (bytesOf (16 + rm.length + (ofS p.cls).length + (rowsL (planN p) p.rows).length : Int) 4 ++ (rm ++ (ofS p.cls ++ (rowsL (planN p) p.rows ++ (entsB w p.ents ++ more))))) (n := 16 + rm.length + (ofS p.cls).length) (k := 4) 8 4 (by simp) rfl (by omega) (by simp; omega)
  simpa only [List.append_assoc] using this
 ·have := rest (bytesOf (planN p : Int) 4 ++ (bytesOf (16 + rm.length : Int) 4 ++ (bytesOf (16 + rm.length + (ofS p.cls).length : Int) 4 ++ (bytesOf (16 + rm.length + (ofS p.cls).length + (rowsL (planN p) p.rows).length : Int) 4 ++ (rm ++ ofS p.cls))))) (rowsL (planN p) p.rows ++ (entsB w p.ents ++ more)) (16 + rm.length + (ofS p.cls).length) (by simp; omega)
  simpa only [List.append_assoc] using this
 ·have := uS_at (bytesOf (planN p : Int) 4 ++ bytesOf (16 + rm.length : Int) 4 ++ bytesOf (16 + rm.length + (ofS p.cls).length : Int) 4) (rm ++ (ofS p.cls ++ (rowsL (planN p) p.rows ++ (entsB w p.ents ++ more)))) (n := 16 + rm.length + (ofS p.cls).length + (rowsL (planN p) p.rows).length) (k := 4) 12 4 (by simp) rfl (by omega) (by simp; omega)
  simpa only [List.append_assoc] using this
 ·have := rest (bytesOf (planN p : Int) 4 ++ (bytesOf (16 + rm.length : Int) 4 ++ (bytesOf (16 + rm.length + (ofS p.cls).length : Int) 4 ++ (bytesOf (16 + rm.length + (ofS p.cls).length + (rowsL (planN p) p.rows).length : Int) 4 ++ (rm ++ (ofS p.cls ++ rowsL (planN p) p.rows)))))) (entsB w p.ents ++ more) (16 + rm.length + (ofS p.cls).length + (rowsL (planN p) p.rows).length) (by simp; omega)
  simpa only [List.append_assoc] using this
theorem plan_mach (p : Plan) (hp : p.ok) (w : Int) (rm more : List Int) (hrm : rm.length ≤ 1000) (h1 : p.cls.length ≤ 1000) (h2 : p.rows.length ≤ 1000) (g : Int) :
  machS (planRoom p w rm ++ more) g w = (closeA (rowsL (planN p) p.rows ++ (entsB w p.ents ++ more)) (entsB w p.ents ++ more) (planN p) w 2).map fun x => ⟨planN p, tabOf p.cls, x.1, x.2⟩ := by
 have hN := planN_eq p hp.2.2
 obtain ⟨e1, e2, e3, e4, e5, e6, e7⟩ := pieces_of p w rm more hrm h1 h2 hN.2
 have hn4 : 4 ≤ planN p := by unfold planN; omega
 unfold machS
 rw [e1, Option.bind_some, if_pos (by omega), e2, Option.bind_some, e3, Option.bind_some, look_ofS p.cls (fun x hx => by have := hp.1 x hx; omega) (by omega) _ g, Option.bind_some, e4, Option.bind_some, e5, Option.bind_some, e6, Option.bind_some, e7, Option.bind_some]
end Go.Sw
end
section
namespace Go.Sw
open Go.RowKit
theorem subsS_succ (sb : List Int) (g : Int) (n : Nat) : subsS sb g (n + 1) = (subsS sb g n).bind fun l => (subS sb g n).map fun x => l ++ [x] := by
 unfold subsS
 rw [List.range_succ, mapO_append]
 cases mapO (subS sb g) (List.range n) with
 | none => rfl
 | some l =>
  simp only [Option.bind_some]
  cases h : subS sb g n with
  | none => simp [mapO, h]
  | some x => simp [mapO, h]
theorem subsS_len {sb : List Int} {g : Int} {n : Nat} {l} (h : subsS sb g n = some l) : l.length = n := by
 have := mapO_len h
 simpa using this
set_option maxHeartbeats 1000000 in
theorem ctx_l3 (k : Nat) (sb : List Int) (hb : Byt sb) (hl : sb.length < 2 ^ 31) (g : Int) (hg : 1 ≤ g ∧ g ≤ 65535) (m : Mach) (N : Nat) (hN : N ≤ 65536) {H0 H : Heap} (q p6 : Nat)
  (st : Star H0 H [itBlk q ⟨[machV m, .slice none 0 0], 1, false⟩, itBlk p6 ⟨[lv encB sb], 1, false⟩, itRow none 1 (.slice none 0 0) encT []]) :
  (∃ subs z s o H', subsS sb g N = some subs ∧ loopN (ctx_Take_l3 k (R (T k))) loopFuel [(1, .int .i64 g), (5, ptrV q), (6, ptrV p6), (50, .int .i64 N), (51, .int .i64 0)] H = .ok (.exit 4, [(1, .int .i64 g), (5, ptrV q), (6, ptrV p6), (50, .int .i64 N), (51, z), (52, .bool false)]) H' ∧
   Star H0 H' [itBlk q ⟨[machV m, s], 1, false⟩, itBlk p6 ⟨[lv encB sb], 1, false⟩, itRow o 1 s encT subs]) ∨
  (∃ H', subsS sb g N = none ∧ loopN (ctx_Take_l3 k (R (T k))) loopFuel [(1, .int .i64 g), (5, ptrV q), (6, ptrV p6), (50, .int .i64 N), (51, .int .i64 0)] H = .panic failV H' ∧ Ext H0 H') := by
 have hU := fun (j : Int) H' => U32_run k (Sl.lv H' 1 sb) hb j (by omega)
 have hR := fun j hj H' => Rest_lv k sb j (by omega) hj H'
 have hT := fun tb htb hl H' => lookTake_run k (Sl.lv H' 1 tb) htb g 2 hg.1 hg.2 (.inl rfl) hl
 have hvb := veq_B sb
 have prefixNone : ∀ j, j < N → subsS sb g (j + 1) = none → subsS sb g N = none := fun j hj h => by
  cases hn : subsS sb g N with
  | none => rfl
  | some l =>
   have := mapO_prefix (show j + 1 ≤ N by omega) hn
   unfold subsS at h
   rw [this] at h
   cases h
 rcases loop_upP (body := ctx_Take_l3 k (R (T k))) N
  (fun j e H' => e = [(1, .int .i64 g), (5, ptrV q), (6, ptrV p6), (50, .int .i64 N), (51, .int .i64 j)] ∧ ∃ l s o, subsS sb g j = some l ∧ Star H0 H' [itBlk q ⟨[machV m, s], 1, false⟩, itBlk p6 ⟨[lv encB sb], 1, false⟩, itRow o 1 s encT l])
  (fun x e H' => x = .exit 4 ∧ e = [(1, .int .i64 g), (5, ptrV q), (6, ptrV p6), (50, .int .i64 N), (51, .int .i64 N), (52, .bool false)] ∧ ∃ l s o, subsS sb g N = some l ∧ Star H0 H' [itBlk q ⟨[machV m, s], 1, false⟩, itBlk p6 ⟨[lv encB sb], 1, false⟩, itRow o 1 s encT l])
  (fun v H' => v = failV ∧ Ext H0 H' ∧ subsS sb g N = none)
  (fun j e H' hj ⟨he, l, s, o, hls, st⟩ => by
   subst he
   have hlt : (j : Int) < N := by omega
   have hq := st.get 0 rfl
   have h6 := st.get 1 rfl
   have hvs := (st.row 2 rfl).veq
   have hlen := subsS_len hls
   have hsucc := subsS_succ sb g j
   rw [hls, Option.bind_some] at hsucc
   have hu := fun H' => hU (4 * (j : Int)) H'
   cases e1 : uS sb (4 * (j : Int)) 4 with
   | none =>
    have hno : subsS sb g (j + 1) = none := by rw [hsucc]; unfold subS; rw [e1]; rfl
    simp only [e1] at hu
    refine .inr (.inr ⟨failV, H', ?_, rfl, st.ext, prefixNone j hj hno⟩)
    rw [ctx_Take_l3_eq]
    simp -implicitDefEqProofs (disch := omega) [hlt, hq, h6, hu, orF]
   | some p =>
    simp only [e1, orF_some'] at hu
    have hp := uS_four hb e1
    have hr := fun H' => hR p (by omega) H'
    cases e2 : restS sb p with
    | none =>
     have hno : subsS sb g (j + 1) = none := by rw [hsucc]; unfold subS; rw [e1, Option.bind_some, e2]; rfl
     simp only [e2] at hr
     refine .inr (.inr ⟨failV, H', ?_, rfl, st.ext, prefixNone j hj hno⟩)
     rw [ctx_Take_l3_eq]
     simp -implicitDefEqProofs (disch := omega) [hlt, hq, h6, hu, hr, hvs, hvb, orF]
    | some tb =>
     simp only [e2, orF_some'] at hr
     have htl := restS_len e2
     have ht := fun H' => hT tb (hb.rest e2) (by omega) H'
     cases e3 : lookS tb g 2 with
     | none =>
      have hno : subsS sb g (j + 1) = none := by rw [hsucc]; unfold subS; rw [e1, Option.bind_some, e2, Option.bind_some, e3]; rfl
      simp only [e3] at ht
      refine .inr (.inr ⟨failV, H', ?_, rfl, st.ext, prefixNone j hj hno⟩)
      rw [ctx_Take_l3_eq]
      simp -implicitDefEqProofs (disch := omega) [hlt, hq, h6, hu, hr, ht, hvs, hvb, orF]
     | some x =>
      simp only [e3, orF_some'] at ht
      have hyes : subsS sb g (j + 1) = some (l ++ [x]) := by rw [hsucc]; unfold subS; rw [e1, Option.bind_some, e2, Option.bind_some, e3]; rfl
      obtain ⟨s', o', H2, f2, st3⟩ := st.append1 (bytes := 8) 2 encT_len rfl x (by omega) (by decide)
      have hqn : ¬ q = H'.n := by have := Heap.get_lt hq; omega
      simp only [List.set_cons_zero, List.set_cons_succ] at st3
      obtain ⟨H3, f3, st4, _⟩ := st3.stCell 0 rfl 1 (st3.row 2 rfl).storable (st3.row 2 rfl).cells (by simp)
      simp only [List.set_cons_zero, List.set_cons_succ] at st4
      refine .inl ⟨_, H3, ?_, rfl, l ++ [x], s', o', hyes, st4⟩
      rw [ctx_Take_l3_eq]
      simp only [encT] at f2
      simp -implicitDefEqProofs (disch := omega) [-stR_ptr, hlt, hq, h6, hu, hr, ht, hvs, hvb, hqn, f2, f3])
  (fun e H' ⟨he, l, s, o, hls, st⟩ => by
   subst he
   refine .inl ⟨.exit 4, _, H', ?_, by simp, rfl, rfl, l, s, o, hls, st⟩
   rw [ctx_Take_l3_eq]
   simp -implicitDefEqProofs) loopFuel 0 [(1, .int .i64 g), (5, ptrV q), (6, ptrV p6), (50, .int .i64 N), (51, .int .i64 0)] H (by omega) (by unfold loopFuel; omega) ⟨rfl, [], .slice none 0 0, none, rfl, st⟩ with ⟨x, e', H1, hr1, rfl, rfl, l, s, o, hls, st⟩ | ⟨v, H1, hr1, rfl, hx, hno⟩
 ·exact .inl ⟨l, _, s, o, H1, hls, hr1, st⟩
 ·exact .inr ⟨H1, hno, hr1, hx⟩
end Go.Sw
end
section
namespace Go.Sw
open Go.RowKit
set_option maxHeartbeats 1000000 in
theorem ctxTake_run (k : Nat) (hk : k < 1000000) (b : List Int) (hb : Byt b) (g : Int) (hg : 1 ≤ g ∧ g ≤ 65535) (hl : b.length < 2 ^ 31) (H : Heap) : R (T k) F.ctx_Take [vwB b, .int .i64 g] H = orF (ctxS b g) ctxV H := by
 rw [ctx_Take_R]
 have hx : Ext H (H.push ⟨[lv encB b], 1, false⟩) := (Ext.refl H).push _
 have hvb : veq (vwB b) (vwB b) = true := veq_agg (l := [lv encB b]) fun u hu => by simp at hu; subst hu; exact veq_B b
 refine fz_orF ?_ fun _ _ => (Flat.ctx _).alive
 unfold ctxS
 simp -implicitDefEqProofs (disch := omega) [ctx_Take]
 refine Cp.call (stateTake_run k (Sl.lv _ 1 b) hb g 2 hg.1 hg.2 (.inr (.inr rfl)) hl) hx fun m hm => ?_
 have hok := machS_ok hb hg.1 hg.2 (by omega) hm
 have hx2 : Ext H ((H.push ⟨[lv encB b], 1, false⟩).push ⟨[machV m, .slice none 0 0], 1, false⟩) := hx.push _
 simp -implicitDefEqProofs (disch := omega)
 refine Cp.callT (U32_run k (Sl.lv _ 1 b) hb 16 (by omega)) (fun _ => ⟨_, by simp -implicitDefEqProofs (disch := omega), hx2⟩) fun p hp => ?_
 have hp := uS_four hb hp
 simp -implicitDefEqProofs (disch := omega)
 refine Cp.callT (Rest_lv k b p (by omega) (by omega) _) (fun _ => ⟨_, by simp -implicitDefEqProofs (disch := omega) [hvb], hx2⟩) fun sb hsb => ?_
 have lsb := restS_len hsb
 have hent := fun H' => Entries_run k hk m hok.elen H'
 have hx3 : Ext H (((H.push ⟨[lv encB b], 1, false⟩).push ⟨[machV m, .slice none 0 0], 1, false⟩).push ⟨[lv encB sb], 1, false⟩) := hx2.push _
 have hes : ∀ e, e ∈ m.ents → 0 ≤ e.a ∧ e.a < 65536 ∧ 0 ≤ e.b ∧ e.b < 65536 := fun e he => by have := hok.ent e he; omega
 obtain ⟨z, H1, l1, hx1⟩ := ctx_l1 k m.ents hes hok.elen (.int .i64 g) (ptrV (H.n + 1)) (ptrV (H.n + 2)) (((H.push ⟨[lv encB b], 1, false⟩).push ⟨[machV m, .slice none 0 0], 1, false⟩).push ⟨[lv encB sb], 1, false⟩)
 have mb := manyS_bound hes
 obtain ⟨N, hN⟩ : ∃ N, N = (manyS m.ents).toNat := ⟨_, rfl⟩
 have hNi : manyS m.ents = (N : Int) := by omega
 rw [hNi] at l1
 rw [← hN]
 have st := (((Star.nil H).rest hx).push ⟨[machV m, .slice none 0 0], 1, false⟩).push ⟨[lv encB sb], 1, false⟩
 have st := (st.rest hx1).more_row (Ext.refl _) (OwnO.nil encT _ 1) (fun b hb => by cases hb)
 simp only [List.nil_append, List.cons_append, hn_push] at st
 simp -implicitDefEqProofs (disch := omega) [hvb, hent, l1, ctx_Take_l1k_x0]
 rcases ctx_l3 k sb (hb.rest hsb) (by omega) g hg m N (by omega) _ _ st with ⟨subs, z3, s, o, H2, hsub, l3, st3⟩ | ⟨H2, hsub, l3, hx4⟩
 ·rw [hsub]
  have hlast := st3.get 0 rfl
  simp -implicitDefEqProofs (disch := omega) [l3, ctx_Take_l3k_x4]
  refine .ok st3.ext ?_
  obtain ⟨L, hf⟩ := (st3.own 2 rfl).freeze encT_len (fun n _ v hv => by simp at hv; subst hv; exact trivial) 5
  exact ⟨_, fz_box (by omega) hlast (mapF_cons (v := machV m) (u := machV m) (L1 := []) rfl (mapF_cons hf rfl))⟩
 ·rw [hsub]
  simp -implicitDefEqProofs (disch := omega) [l3]
  exact ⟨H2, rfl, hx4⟩
end Go.Sw
end
section
set_option maxRecDepth 100000
set_option linter.unusedVariables false
namespace Go.Sw
noncomputable section
def drive_Run_l1 (k : Nat) (call : Caller) : Env → Heap → Res (AExit × Env) := loopB (C k) call F.drive_Run [1, 1, 1, 0, 0, 0]
def drive_Run_l1k (k : Nat) (call : Caller) : Kont Value := kBlock 0 (kSeq (pieceK (C k) call F.drive_Run [1, 1, 1, 1]) (kDone Prog (resOf Prog F.drive_Run)))
def drive_Run (k : Nat) (call : Caller) (a0 a1 a2 : Value) (h : Heap) : Res Value :=
 (buildR Prog 281 [(0, a0), (1, a1)] h).bind fun v1 h2 =>
 (boxR v1 h2).bind fun v3 h4 =>
 (call F.line_Line_Len [a1] h4).bind fun v5 h6 =>
 (binR Prog .mul 3 (.int .i64 2) v5 h6).bind fun v7 h8 =>
 (binR Prog .add 3 v7 (.int .i64 128) h8).bind fun v9 h10 =>
 (loopN (drive_Run_l1 k call) loopFuel [(2, a2), (8, v3), (9, v9)] h10).bind fun r11 h12 =>
 drive_Run_l1k k call r11.1 r11.2 h12
theorem drive_Run_R (k : Nat) (a0 a1 a2 : Value) (h : Heap) : R (T k) F.drive_Run [a0, a1, a2] h = nrm .no h (drive_Run k (R (T k)) a0 a1 a2 h) :=
 (R_body (t := T k) (T_scott k) (by kernel_rfl) (by kernel_rfl) _ _).trans (by kernel_rfl)
theorem drive_Run_l1_eq (k : Nat) (call : Caller) (a2 a8 a9 : Value) (h : Heap) : drive_Run_l1 k call [(2, a2), (8, a8), (9, a9)] h =
 (nilR a8 h).bind fun v13 h14 =>
 (fieldAddrR Prog 281 v13 4 h14).bind fun v15 h16 =>
 (loadR Prog 3 v15 h16).bind fun v17 h18 =>
 (binR Prog .lss 3 v17 a9 h18).bind fun v19 h20 =>
 condV (some v19) (
 (call F.drive_driver_step [a8, a2] h20).bind fun v21 h22 =>
 condV (some v21) (
 (nilR a8 h22).bind fun v23 h24 =>
 (fieldAddrR Prog 281 v23 4 h24).bind fun v25 h26 =>
 (loadR Prog 3 v25 h26).bind fun v27 h28 =>
 .ok (.ret, [(6, v27), (7, (.int .i64 0))]) h28)
 (
 (nilR a8 h22).bind fun v29 h30 =>
 (fieldAddrR Prog 281 v29 5 h30).bind fun v31 h32 =>
 (loadR Prog 3 v31 h32).bind fun v33 h34 =>
 (binR Prog .gtr 3 v33 (.int .i64 64) h34).bind fun v35 h36 =>
 condV (some v35) (
 .ok ((.exit 0), [(2, a2), (8, a8), (9, a9), (35, v35)]) h36)
 (
 .ok (.normal, [(2, a2), (8, a8), (9, a9)]) h36)))
 (
 .ok ((.exit 0), [(2, a2), (8, a8), (9, a9), (23, v19)]) h20) :=
 (loopB_eq _ _).trans (by kernel_rfl)
theorem drive_Run_l1k_r (k : Nat) (call : Caller) (a6 a7 : Value) (h : Heap) : drive_Run_l1k k call .ret [(6, a6), (7, a7)] h =
 .ok (.tuple #[a6, a7]) h := by kernel_rfl
theorem drive_Run_l1k_x0 (k : Nat) (call : Caller) (a2 a8 a9 a35 : Value) (h : Heap) : drive_Run_l1k k call (.exit 0) [(2, a2), (8, a8), (9, a9), (35, a35)] h =
 (nilR a8 h).bind fun v37 h38 =>
 (fieldAddrR Prog 281 v37 4 h38).bind fun v39 h40 =>
 (loadR Prog 3 v39 h40).bind fun v41 h42 =>
 .ok (.tuple #[v41, (.int .i64 4)]) h42 := by kernel_rfl
theorem drive_Run_l1k_x0_1 (k : Nat) (call : Caller) (a2 a8 a9 a23 : Value) (h : Heap) : drive_Run_l1k k call (.exit 0) [(2, a2), (8, a8), (9, a9), (23, a23)] h =
 (nilR a8 h).bind fun v43 h44 =>
 (fieldAddrR Prog 281 v43 4 h44).bind fun v45 h46 =>
 (loadR Prog 3 v45 h46).bind fun v47 h48 =>
 .ok (.tuple #[v47, (.int .i64 4)]) h48 := by kernel_rfl
def drive_Plain (k : Nat) (call : Caller) (a0 : Value) (h : Heap) : Res Value :=
 (boxR a0 h).bind fun v1 h2 =>
 .ok (.func (.func F.drive_Plain_in1) #[] #[v1]) h2
theorem drive_Plain_R (k : Nat) (a0 : Value) (h : Heap) : R (T k) F.drive_Plain [a0] h = nrm .gc h (drive_Plain k (R (T k)) a0 h) :=
 (R_body (t := T k) (T_scott k) (by kernel_rfl) (by kernel_rfl) _ _).trans (by kernel_rfl)
def drive_driver_step (k : Nat) (call : Caller) (a0 a1 : Value) (h : Heap) : Res Value :=
 (call F.drive_driver_class [a0] h).bind fun v1 h2 =>
 (extractR v1 0 h2).bind fun v3 h4 =>
 (extractR v1 1 h4).bind fun v5 h6 =>
 (nilR a0 h6).bindN fun v7 h8 =>
 (fieldAddrR Prog 281 v7 0 h8).bindN fun v9 h10 =>
 (loadR Prog 133 v9 h10).bindN fun v11 h12 =>
 (nilR a0 h12).bindN fun v13 h14 =>
 (fieldAddrR Prog 281 v13 2 h14).bindN fun v15 h16 =>
 (loadR Prog 3 v15 h16).bindN fun v17 h18 =>
 (call F.state_Machine_Step [v11, v17, v3] h18).bindT (fun p21 h22 => (allocR Prog 150 h18).bindN fun v23 h24 => .panic p21 h22) fun v19 h20 =>
 (extractR v19 0 h20).bindN fun v25 h26 =>
 (extractR v19 1 h26).bindN fun v27 h28 =>
 (allocR Prog 150 h28).bindN fun v29 h30 =>
 (storeR Prog 150 v29 v25 h30).bindN fun _v31 h32 =>
 (nilR a0 h32).bind fun v33 h34 =>
 (fieldAddrR Prog 281 v33 4 h34).bind fun v35 h36 =>
 (loadR Prog 3 v35 h36).bind fun v37 h38 =>
 (binR Prog .add 3 v37 (.int .i64 1) h38).bind fun v39 h40 =>
 (nilR a0 h40).bind fun v41 h42 =>
 (fieldAddrR Prog 281 v41 4 h42).bind fun v43 h44 =>
 (storeR Prog 3 v43 v39 h44).bind fun _v45 h46 =>
 (fieldAddrR Prog 150 v29 0 h46).bind fun v47 h48 =>
 (loadR Prog 3 v47 h48).bind fun v49 h50 =>
 (nilR a0 h50).bind fun v51 h52 =>
 (fieldAddrR Prog 281 v51 2 h52).bind fun v53 h54 =>
 (storeR Prog 3 v53 v49 h54).bind fun _v55 h56 =>
 (nilR a0 h56).bindN fun v57 h58 =>
 (fieldAddrR Prog 281 v57 3 h58).bindN fun v59 h60 =>
 (loadR Prog 3 v59 h60).bindN fun v61 h62 =>
 (loadR Prog 150 v29 h62).bindN fun v63 h64 =>
 (callV call a1 [v61, v63] h64).bindT (fun p67 h68 => .panic p67 h68) fun v65 h66 =>
 (extractR v65 0 h66).bindN fun v69 h70 =>
 (extractR v65 1 h70).bindN fun v71 h72 =>
 (fieldAddrR Prog 150 v29 1 h72).bind fun v73 h74 =>
 (loadR Prog 3 v73 h74).bind fun v75 h76 =>
 (binR Prog .and 3 v75 (.int .i64 16384) h76).bind fun v77 h78 =>
 (binR Prog .neq 3 v77 (.int .i64 0) h78).bind fun v79 h80 =>
 condV (some v79) (
 (builtinV Prog .max [3, 3] [v69, (.int .i64 0)] h80).bind fun v81 h82 =>
 (nilR a0 h82).bind fun v83 h84 =>
 (fieldAddrR Prog 281 v83 3 h84).bind fun v85 h86 =>
 (storeR Prog 3 v85 v81 h86).bind fun _v87 h88 =>
 (nilR a0 h88).bind fun v89 h90 =>
 (fieldAddrR Prog 281 v89 5 h90).bind fun v91 h92 =>
 (loadR Prog 3 v91 h92).bind fun v93 h94 =>
 (binR Prog .add 3 v93 (.int .i64 1) h94).bind fun v95 h96 =>
 (nilR a0 h96).bind fun v97 h98 =>
 (fieldAddrR Prog 281 v97 5 h98).bind fun v99 h100 =>
 (storeR Prog 3 v99 v95 h100).bind fun _v101 h102 =>
 .ok (.bool false) h102)
 (
 (builtinV Prog .max [3, 3] [v71, (.int .i64 0)] h80).bind fun v103 h104 =>
 (nilR a0 h104).bind fun v105 h106 =>
 (fieldAddrR Prog 281 v105 3 h106).bind fun v107 h108 =>
 (storeR Prog 3 v107 v103 h108).bind fun _v109 h110 =>
 (nilR a0 h110).bind fun v111 h112 =>
 (fieldAddrR Prog 281 v111 5 h112).bind fun v113 h114 =>
 (storeR Prog 3 v113 (.int .i64 0) h114).bind fun _v115 h116 =>
 .ok v5 h116)
theorem drive_driver_step_R (k : Nat) (a0 a1 : Value) (h : Heap) : R (T k) F.drive_driver_step [a0, a1] h = nrm .no h (drive_driver_step k (R (T k)) a0 a1 h) :=
 (R_body (t := T k) (T_scott k) (by kernel_rfl) (by kernel_rfl) _ _).trans (by kernel_rfl)
def drive_Plain_in1 (k : Nat) (call : Caller) (a0 a1 a2 : Value) (h : Heap) : Res Value :=
 (boxR a1 h).bind fun v1 h2 =>
 (loadR Prog 187 a2 h2).bind fun v3 h4 =>
 (loadR Prog 150 v1 h4).bind fun v5 h6 =>
 (callV call v3 [a0, v5] h6).bind fun v7 h8 =>
 (binR Prog .add 3 a0 (.int .i64 1) h8).bind fun v9 h10 =>
 .ok (.tuple #[a0, v9]) h10
theorem drive_Plain_in1_R (k : Nat) (a0 a1 a2 : Value) (h : Heap) : R (T k) F.drive_Plain_in1 [a0, a1, a2] h = nrm .no h (drive_Plain_in1 k (R (T k)) a0 a1 a2 h) :=
 (R_body (t := T k) (T_scott k) (by kernel_rfl) (by kernel_rfl) _ _).trans (by kernel_rfl)
def drive_driver_class (k : Nat) (call : Caller) (a0 : Value) (h : Heap) : Res Value :=
 (nilR a0 h).bindN fun v1 h2 =>
 (fieldAddrR Prog 281 v1 1 h2).bindN fun v3 h4 =>
 (loadR Prog 51 v3 h4).bindN fun v5 h6 =>
 (nilR a0 h6).bindN fun v7 h8 =>
 (fieldAddrR Prog 281 v7 3 h8).bindN fun v9 h10 =>
 (loadR Prog 3 v9 h10).bindN fun v11 h12 =>
 (call F.line_Line_At [v5, v11] h12).bindT (fun p15 h16 => (allocR Prog 55 h12).bindN fun v17 h18 => .panic p15 h16) fun v13 h14 =>
 (extractR v13 0 h14).bindN fun v19 h20 =>
 (extractR v13 1 h20).bindN fun v21 h22 =>
 (allocR Prog 55 h22).bindN fun v23 h24 =>
 (storeR Prog 55 v23 v19 h24).bindN fun _v25 h26 =>
 (unR .not v21 h26).bind fun v27 h28 =>
 condV (some v27) (
 .ok (.tuple #[(.int .i64 0), (.bool true)]) h28)
 (
 (nilR a0 h28).bindN fun v29 h30 =>
 (fieldAddrR Prog 281 v29 0 h30).bindN fun v31 h32 =>
 (loadR Prog 133 v31 h32).bindN fun v33 h34 =>
 (fieldAddrR Prog 55 v23 0 h34).bindN fun v35 h36 =>
 (loadR Prog 3 v35 h36).bindN fun v37 h38 =>
 (call F.state_Machine_Class [v33, v37] h38).bindT (fun p41 h42 => .panic p41 h42) fun v39 h40 =>
 .ok (.tuple #[v39, (.bool false)]) h40)
theorem drive_driver_class_R (k : Nat) (a0 : Value) (h : Heap) : R (T k) F.drive_driver_class [a0] h = nrm .gc h (drive_driver_class k (R (T k)) a0 h) :=
 (R_body (t := T k) (T_scott k) (by kernel_rfl) (by kernel_rfl) _ _).trans (by kernel_rfl)
end
end Go.Sw
end
section
namespace Go.Sw
open Go.RowKit
theorem Star.stEnd {H0 H : Heap} {A B : List It} {c : Nat} {cells : List Value} {e : Nat} (h : Star H0 H (A ++ itBlk c ⟨cells, e, false⟩ :: B)) (off : Nat) {v : Value} (hs : storable v = true) (hc : v.cells = #[v]) (ho : off < cells.length) :
  ∃ H', stR 1 (.pointer (some ⟨c, off, none⟩)) v H = .ok undef H' ∧ Star H0 H' (A ++ itBlk c ⟨cells.set off v, e, false⟩ :: B) := by
 obtain ⟨H', h1, h2, _⟩ := h.stCell A.length (c := c) (cells := cells) (e := e) (by simp) off hs hc ho
 exact ⟨H', h1, by simpa using h2⟩
structure Drv where
 st : Int
 pl : Int
 stp : Int
 rest : Int
abbrev drvC (m : Mach) (c : Nat) (d : Drv) : List Value := [machV m, ptrV c, .int .i64 d.st, .int .i64 d.pl, .int .i64 d.stp, .int .i64 d.rest]
def clsS (m : Mach) (l : List Gl) (pl : Int) : Int × Bool := match atG l pl with | some g => (classS m g.id, false) | none => (0, true)
def entS (m : Mach) (l : List Gl) (d : Drv) : En := (stepS m d.st (clsS m l d.pl).1).getD ⟨0, 0, 0, 0⟩
abbrev encE (e : En) : Value := .agg (encEn e).toArray
theorem take_mid {α : Type} (x : α) (B : List α) : ∀ A : List α, (A ++ x :: B).take (A.length + 1) = A ++ [x]
 | [] => rfl
 | a :: A => by simp [take_mid x B A]
theorem and_two14 (n : Nat) : n &&& 2 ^ 14 = if n.testBit 14 then 2 ^ 14 else 0 := by
 apply Nat.eq_of_testBit_eq
 intro i
 rw [Nat.testBit_and, Nat.testBit_two_pow]
 by_cases h : 14 = i
 ·subst h
  cases hb : n.testBit 14 <;> simp <;> decide
 ·cases hb : n.testBit 14
  ·simp [h]
  ·simp only [h, decide_false, Bool.and_false, if_true, Nat.testBit_two_pow]
theorem and14 (P : Program) (t : TypeId) (H : Heap) {a : Int} (h0 : 0 ≤ a) (h1 : a < 65536) : binR P .and t (.int .i64 a) (.int .i64 16384) H = .ok (.int .i64 (if a / 16384 % 2 = 1 then 16384 else 0)) H := by
 have e : (BitVec.ofInt 64 a &&& BitVec.ofInt 64 16384).toNat = (if a / 16384 % 2 = 1 then 16384 else 0) := by
  rw [BitVec.toNat_and, BitVec.toNat_ofInt, BitVec.toNat_ofInt]
  rw [show ((16384 : Int) % ((2 ^ 64 : Nat) : Int)).toNat = 2 ^ 14 from by decide, and_two14, Nat.testBit_eq_decide_div_mod_eq]
  obtain ⟨n, rfl⟩ := Int.eq_ofNat_of_zero_le h0
  rw [show (((n : Int)) % ((2 ^ 64 : Nat) : Int)).toNat = n by omega]
  by_cases h : (n : Int) / 16384 % 2 = 1
  ·rw [if_pos h, decide_eq_true (show n / 2 ^ 14 % 2 = 1 by omega)]; rfl
  ·rw [if_neg h, decide_eq_false (show ¬ n / 2 ^ 14 % 2 = 1 by omega)]; rfl
 have e1 : binV P .and t (.int .i64 a) (.int .i64 16384) = some (.int .i64 (IntKind.i64.wrap (BitVec.ofInt 64 a &&& BitVec.ofInt 64 16384).toNat)) := rfl
 unfold binR
 rw [e1, e]
 by_cases h : a / 16384 % 2 = 1
 ·simp [h]
 ·simp [h]
theorem driverClass_run (k : Nat) (m : Mach) (hm : m.ok) {H0 H : Heap} {L : List It} (h : Star H0 H L) {c q : Nat} {o : Option Nat} {l : List Gl} {d : Drv} (i : Nat) (hi : L[i]? = some (itLine c o l)) (hq : H.get q = some ⟨drvC m c d, 1, false⟩) :
  R (T k) F.drive_driver_class [ptrV q] H = .ok (.tuple #[.int .i64 (clsS m l d.pl).1, .bool (clsS m l d.pl).2]) H := by
 rw [drive_driver_class_R]
 have hat := lineAt_run k h i hi d.pl
 have fl : ∀ (a : Int) b, Flat (.tuple #[.int .i64 a, .bool b]) := fun a b => .tupleL (.cons (.int _ _) (.cons (.bool _) .nil))
 unfold clsS
 have hqn : ¬ q = H.n := by have := Heap.get_lt hq; omega
 cases ha : atG l d.pl with
 | none =>
  rw [ha] at hat
  refine nrm_gc ⟨H.push ⟨[.int .i64 0, .int .i64 0], 1, false⟩, ?_, (Ext.refl H).push _⟩ (fl _ _).alive
  unfold encA at hat
  simp at hat
  simp -implicitDefEqProofs (disch := omega) [drive_driver_class, hq, hat]
 | some g =>
  rw [ha] at hat
  have hc := fun H' => Class_run k m hm g.id H'
  refine nrm_gc ⟨H.push ⟨encG g, 1, false⟩, ?_, (Ext.refl H).push _⟩ (fl _ _).alive
  unfold encA at hat
  simp at hat
  simp -implicitDefEqProofs (disch := omega) [drive_driver_class, hq, hqn, hat, hc]
theorem entS_bound {m : Mach} (hm : m.ok) (l : List Gl) (d : Drv) : let e := entS m l d; 0 ≤ e.next ∧ e.next < 65536 ∧ 0 ≤ e.flags ∧ e.flags < 65536 ∧ 0 ≤ e.a ∧ e.a < 65536 ∧ 0 ≤ e.b ∧ e.b < 65536 := by
 dsimp only
 unfold entS
 cases h : stepS m d.st (clsS m l d.pl).1 with
 | none => simp
 | some x =>
  have hx : x ∈ m.ents := by
   unfold stepS at h
   split at h
   ·obtain ⟨r, _, h⟩ := Option.bind_eq_some_iff.1 h
    obtain ⟨y, _, h⟩ := Option.bind_eq_some_iff.1 h
    exact List.mem_of_getElem? h
   ·cases h
  have := hm.ent x hx
  have := hm.two
  simp only [Option.getD_some]
  omega
theorem getS_pos {ps : List Pt} (hok : ∀ p, p ∈ ps → p.ok) {id x : Int} (h : getS ps id = some x) : 0 ≤ x := by
 unfold getS at h
 obtain ⟨p, hp, h⟩ := Option.bind_eq_some_iff.1 h
 split at h
 ·exact ((hok p (List.mem_of_find?_eq_some hp)).2.2.2.2.2 x (List.mem_of_getElem? h)).1
 ·cases h
theorem classS_bound {m : Mach} (hm : m.ok) (id : Int) : 0 ≤ classS m id ∧ classS m id < m.classes := by
 have := hm.cl
 unfold classS
 split
 ·omega
 ·split
  ·rename_i c hc
   have := getS_pos hm.pts hc
   split <;> omega
  ·omega
theorem clsS_bound {m : Mach} (hm : m.ok) (l : List Gl) (p : Int) : 0 ≤ (clsS m l p).1 ∧ (clsS m l p).1 < m.classes := by
 have := hm.cl
 unfold clsS
 split
 ·exact classS_bound hm _
 ·dsimp only; omega
theorem entS_mem {m : Mach} (hm : m.ok) (l : List Gl) (d : Drv) (h : 0 ≤ d.st ∧ d.st < m.rows.length) : entS m l d ∈ m.ents := by
 have hc := clsS_bound hm l d.pl
 obtain ⟨r, x, e, _, _, _, he, hs⟩ := stepS_some hm (s := d.st) (c := (clsS m l d.pl).1) ⟨h.1, h.2, hc.1, hc.2⟩
 unfold entS
 rw [hs]
 exact List.mem_of_getElem? he
variable {σ : Type}
def ActOk (k : Nat) (m : Mach) (H0 : Heap) (W : σ → List It) (Inv : σ → Prop) (a : Value) (f : σ → Int → En → σ × Int × Int) : Prop :=
 ∀ s i e H X, Inv s → Star H0 H (W s ++ X) → 0 ≤ i → i < 2 ^ 50 → e ∈ m.ents →
  ∃ H', callV (R (T k)) a [.int .i64 i, encE e] H = .ok (.tuple #[.int .i64 (f s i e).2.1, .int .i64 (f s i e).2.2]) H' ∧ Star H0 H' (W (f s i e).1 ++ X) ∧ Inv (f s i e).1 ∧ (f s i e).2.1 ≤ i + 128 ∧ (f s i e).2.2 ≤ i + 128
def stepD (m : Mach) (ln : σ → List Gl) (f : σ → Int → En → σ × Int × Int) (x : σ × Drv) : (σ × Drv) × Bool :=
 if (entS m (ln x.1) x.2).flags / 16384 % 2 = 1 then (((f x.1 x.2.pl (entS m (ln x.1) x.2)).1, ⟨(entS m (ln x.1) x.2).next, max (f x.1 x.2.pl (entS m (ln x.1) x.2)).2.1 0, x.2.stp + 1, x.2.rest + 1⟩), false)
 else (((f x.1 x.2.pl (entS m (ln x.1) x.2)).1, ⟨(entS m (ln x.1) x.2).next, max (f x.1 x.2.pl (entS m (ln x.1) x.2)).2.2 0, x.2.stp + 1, 0⟩), (clsS m (ln x.1) x.2.pl).2)
set_option maxHeartbeats 2000000 in
theorem driverStep_run (k : Nat) (m : Mach) (hm : m.ok) {H0 H : Heap} (W : σ → List It) (Inv : σ → Prop) (ln : σ → List Gl) (c : Nat) (hW : ∀ s, ∃ (i : Nat) (o : Option Nat), (W s)[i]? = some (itLine c o (ln s))) (a : Value) (f : σ → Int → En → σ × Int × Int) (ha : ActOk k m H0 W Inv a f)
  (X : List It) (q : Nat) (s : σ) (d : Drv) (hI : Inv s) (h : Star H0 H (W s ++ X ++ [itBlk q ⟨drvC m c d, 1, false⟩])) (hp : 0 ≤ d.pl ∧ d.pl < 2 ^ 50) (hst : 0 ≤ d.stp ∧ d.stp < 2 ^ 50) (hr : 0 ≤ d.rest ∧ d.rest < 2 ^ 50) (hse : 0 ≤ d.st ∧ d.st < m.rows.length) :
  ∃ H', R (T k) F.drive_driver_step [ptrV q, a] H = .ok (.bool (stepD m ln f (s, d)).2) H' ∧ Star H0 H' (W (stepD m ln f (s, d)).1.1 ++ X ++ [itBlk q ⟨drvC m c (stepD m ln f (s, d)).1.2, 1, false⟩]) ∧ Inv (stepD m ln f (s, d)).1.1 ∧ (stepD m ln f (s, d)).1.2.pl ≤ d.pl + 128 ∧ 0 ≤ (stepD m ln f (s, d)).1.2.st ∧ (stepD m ln f (s, d)).1.2.st < m.rows.length := by
 obtain ⟨i, o, ho⟩ := hW s
 have hq := h.memBlk (c := q) (k := ⟨drvC m c d, 1, false⟩) (by simp)
 have hline : (W s ++ X ++ [itBlk q ⟨drvC m c d, 1, false⟩])[i]? = some (itLine c o (ln s)) := by
  have h0 : i < (W s).length := (List.getElem?_eq_some_iff.1 ho).1
  rw [List.append_assoc, List.getElem?_append_left h0]
  exact ho
 have hcls := driverClass_run k m hm h i hline hq
 have hstep := fun H' => Step_run k m hm d.st (clsS m (ln s) d.pl).1 H'
 have heb := entS_bound hm (ln s) d
 have hmem := entS_mem hm (ln s) d hse
 have hnx := hm.ent _ hmem
 have hee : encEA (stepS m d.st (clsS m (ln s) d.pl).1) = encE (entS m (ln s) d) := rfl
 rw [hee] at hstep
 have hx := ha s d.pl (entS m (ln s) d)
 unfold stepD
 dsimp only
 generalize (stepS m d.st (clsS m (ln s) d.pl).1).isSome = z at hstep
 generalize (clsS m (ln s) d.pl) = cl at hcls hstep
 generalize entS m (ln s) d = e at hstep heb hx hmem hnx ⊢
 dsimp only at heb
 generalize f s d.pl e = r at hx ⊢
 have g := h.push ⟨encEn e, 1, false⟩
 rw [List.append_assoc, List.singleton_append] at g
 have hqn : ¬ q = H.n := by have := Heap.get_lt hq; omega
 obtain ⟨H2, e2, g⟩ := g.stEnd 4 (v := .int .i64 (d.stp + 1)) rfl rfl (by simp)
 simp only [List.set_cons_zero, List.set_cons_succ] at g
 have he2 := g.memBlk (c := H.n) (k := ⟨encEn e, 1, false⟩) (by simp)
 have hq2 := g.memBlk (c := q) (k := ⟨[machV m, ptrV c, .int .i64 d.st, .int .i64 d.pl, .int .i64 (d.stp + 1), .int .i64 d.rest], 1, false⟩) (by simp)
 obtain ⟨H3, e3, g⟩ := g.stEnd 2 (v := .int .i64 e.next) rfl rfl (by simp)
 simp only [List.set_cons_zero, List.set_cons_succ] at g
 have hq3 := g.memBlk (c := q) (k := ⟨[machV m, ptrV c, .int .i64 e.next, .int .i64 d.pl, .int .i64 (d.stp + 1), .int .i64 d.rest], 1, false⟩) (by simp)
 have he3 := g.memBlk (c := H.n) (k := ⟨encEn e, 1, false⟩) (by simp)
 rw [List.append_assoc] at g
 obtain ⟨H4, e4, g4, hI4, hs4, ho4⟩ := hx H3 _ hI g hp.1 hp.2 hmem
 rw [← List.append_assoc] at g4
 have hq4 := g4.memBlk (c := q) (k := ⟨[machV m, ptrV c, .int .i64 e.next, .int .i64 d.pl, .int .i64 (d.stp + 1), .int .i64 d.rest], 1, false⟩) (by simp)
 have he4 := g4.memBlk (c := H.n) (k := ⟨encEn e, 1, false⟩) (by simp)
 have han := fun H => and14 Prog 3 H heb.2.2.1 heb.2.2.2.1
 rw [List.append_assoc] at g4
 by_cases hfl : e.flags / 16384 % 2 = 1
 ·rw [if_pos hfl]
  rw [if_pos hfl] at han
  have hmx : (if 0 > r.2.1 then 0 else r.2.1) = max r.2.1 0 := by split <;> omega
  obtain ⟨H5, e5, g5⟩ := Star.stEnd (A := W r.1 ++ X) (by simpa using g4) 3 (v := .int .i64 (max r.2.1 0)) rfl rfl (by simp)
  simp only [List.set_cons_zero, List.set_cons_succ] at g5
  have hq5 := g5.memBlk (c := q) (k := ⟨[machV m, ptrV c, .int .i64 e.next, .int .i64 (max r.2.1 0), .int .i64 (d.stp + 1), .int .i64 d.rest], 1, false⟩) (by simp)
  obtain ⟨H6, e6, g6⟩ := g5.stEnd 5 (v := .int .i64 (d.rest + 1)) rfl rfl (by simp)
  simp only [List.set_cons_zero, List.set_cons_succ] at g6
  refine ⟨H6, ?_, ?_, hI4, by dsimp only; omega, hnx.1, hnx.2.1⟩
  ·rw [drive_driver_step_R]
   simp -implicitDefEqProofs (disch := omega) [-stR_ptr, drive_driver_step, hcls, hq, hqn, hstep, stR_ptr 4 H.n 0, e2, hq2, he2, e3, hq3, he3, e4, hq4, he4, han, hmx, e5, hq5, e6]
  ·have := g6.take ((W r.1 ++ X).length + 1)
   rw [take_mid] at this
   exact this
 ·rw [if_neg hfl]
  rw [if_neg hfl] at han
  have hmx : (if 0 > r.2.2 then 0 else r.2.2) = max r.2.2 0 := by split <;> omega
  obtain ⟨H5, e5, g5⟩ := Star.stEnd (A := W r.1 ++ X) (by simpa using g4) 3 (v := .int .i64 (max r.2.2 0)) rfl rfl (by simp)
  simp only [List.set_cons_zero, List.set_cons_succ] at g5
  have hq5 := g5.memBlk (c := q) (k := ⟨[machV m, ptrV c, .int .i64 e.next, .int .i64 (max r.2.2 0), .int .i64 (d.stp + 1), .int .i64 d.rest], 1, false⟩) (by simp)
  obtain ⟨H6, e6, g6⟩ := g5.stEnd 5 (v := .int .i64 0) rfl rfl (by simp)
  simp only [List.set_cons_zero, List.set_cons_succ] at g6
  refine ⟨H6, ?_, ?_, hI4, by dsimp only; omega, hnx.1, hnx.2.1⟩
  ·rw [drive_driver_step_R]
   simp -implicitDefEqProofs (disch := omega) [-stR_ptr, drive_driver_step, hcls, hq, hqn, hstep, stR_ptr 4 H.n 0, e2, hq2, he2, e3, hq3, he3, e4, hq4, he4, han, hmx, bne, e5, hq5, e6]
  ·have := g6.take ((W r.1 ++ X).length + 1)
   rw [take_mid] at this
   exact this
end Go.Sw
end
section
namespace Go.Sw
open Go.RowKit
variable {σ : Type}
def runD (m : Mach) (ln : σ → List Gl) (f : σ → Int → En → σ × Int × Int) (most : Int) : Nat → σ × Drv → Int × Int × σ
  | 0, x => (x.2.stp, 4, x.1)
  | n + 1, x => if x.2.stp < most then
      (if (stepD m ln f x).2 then ((stepD m ln f x).1.2.stp, 0, (stepD m ln f x).1.1)
       else if (stepD m ln f x).1.2.rest > 64 then ((stepD m ln f x).1.2.stp, 4, (stepD m ln f x).1.1)
       else runD m ln f most n (stepD m ln f x).1)
    else (x.2.stp, 4, x.1)
theorem stepD_stp (m : Mach) (ln : σ → List Gl) (f : σ → Int → En → σ × Int × Int) (x : σ × Drv) : (stepD m ln f x).1.2.stp = x.2.stp + 1 := by unfold stepD; split <;> rfl
theorem stepD_pl (m : Mach) (ln : σ → List Gl) (f : σ → Int → En → σ × Int × Int) (x : σ × Drv) : 0 ≤ (stepD m ln f x).1.2.pl := by unfold stepD; split <;> (dsimp only; omega)
theorem stepD_rest (m : Mach) (ln : σ → List Gl) (f : σ → Int → En → σ × Int × Int) (x : σ × Drv) (h : 0 ≤ x.2.rest) : 0 ≤ (stepD m ln f x).1.2.rest ∧ (stepD m ln f x).1.2.rest ≤ x.2.rest + 1 := by unfold stepD; split <;> (dsimp only; omega)
set_option maxHeartbeats 1000000 in
theorem driveRun_star (k : Nat) (m : Mach) (hm : m.ok) {H0 H : Heap} (W : σ → List It) (Inv : σ → Prop) (ln : σ → List Gl) (c : Nat) (hW : ∀ s, ∃ (i : Nat) (o : Option Nat), (W s)[i]? = some (itLine c o (ln s))) (a : Value) (f : σ → Int → En → σ × Int × Int) (ha : ActOk k m H0 W Inv a f)
  (X : List It) (s : σ) (hI : Inv s) (h : Star H0 H (W s ++ X)) (hl : (ln s).length < 2 ^ 40) :
  ∃ H', R (T k) F.drive_Run [machV m, ptrV c, a] H = .ok (.tuple #[.int .i64 (runD m ln f (2 * (ln s).length + 128) (2 * (ln s).length + 128) (s, ⟨0, 0, 0, 0⟩)).1, .int .i64 (runD m ln f (2 * (ln s).length + 128) (2 * (ln s).length + 128) (s, ⟨0, 0, 0, 0⟩)).2.1]) H' ∧
   Star H0 H' (W (runD m ln f (2 * (ln s).length + 128) (2 * (ln s).length + 128) (s, ⟨0, 0, 0, 0⟩)).2.2 ++ X) ∧ Inv (runD m ln f (2 * (ln s).length + 128) (2 * (ln s).length + 128) (s, ⟨0, 0, 0, 0⟩)).2.2 := by
 rw [drive_Run_R]
 obtain ⟨N, hN⟩ : ∃ N, N = 2 * (ln s).length + 128 := ⟨_, rfl⟩
 have hNi : (2 * ((ln s).length : Int) + 128) = (N : Int) := by omega
 obtain ⟨x0, hx0⟩ : ∃ x0 : σ × Drv, x0 = (s, ⟨0, 0, 0, 0⟩) := ⟨_, rfl⟩
 rw [← hN, hNi, ← hx0]
 generalize hR0 : runD m ln f (N : Int) N x0 = R0
 have g := h.push ⟨drvC m c ⟨0, 0, 0, 0⟩, 1, false⟩
 obtain ⟨i, o, ho⟩ := hW s
 have hline : (W s ++ X ++ [itBlk H.n ⟨drvC m c ⟨0, 0, 0, 0⟩, 1, false⟩])[i]? = some (itLine c o (ln s)) := by
  have h0 : i < (W s).length := (List.getElem?_eq_some_iff.1 ho).1
  rw [List.append_assoc, List.getElem?_append_left h0]
  exact ho
 have hlen := lineLen_run k g i hline
 obtain ⟨e, eE, H1, hr1, hQ⟩ := loop_up (body := drive_Run_l1 k (R (T k))) N
  (fun j e H' => e = [(2, a), (8, ptrV H.n), (9, .int .i64 N)] ∧ ∃ x : σ × Drv, Star H0 H' (W x.1 ++ X ++ [itBlk H.n ⟨drvC m c x.2, 1, false⟩]) ∧ Inv x.1 ∧ x.2.stp = j ∧ 0 ≤ x.2.pl ∧ x.2.pl ≤ 128 * j ∧ 0 ≤ x.2.rest ∧ x.2.rest ≤ j ∧ (0 ≤ x.2.st ∧ x.2.st < m.rows.length) ∧ runD m ln f N (N - j) x = R0)
  (fun x' e H' => ∃ r : Int × Int × σ, r = R0 ∧ ∃ d : Drv, Star H0 H' (W r.2.2 ++ X ++ [itBlk H.n ⟨drvC m c d, 1, false⟩]) ∧ Inv r.2.2 ∧
   ((x' = .ret ∧ e = [(6, .int .i64 r.1), (7, .int .i64 0)] ∧ r.2.1 = 0) ∨ (x' = .exit 0 ∧ d.stp = r.1 ∧ r.2.1 = 4 ∧ (e = [(2, a), (8, ptrV H.n), (9, .int .i64 N), (35, .bool true)] ∨ e = [(2, a), (8, ptrV H.n), (9, .int .i64 N), (23, .bool false)]))))
  (e0 := [(2, a), (8, ptrV H.n), (9, .int .i64 N)]) (H0 := H.push ⟨drvC m c ⟨0, 0, 0, 0⟩, 1, false⟩)
  ⟨rfl, x0, by rw [hx0]; exact g, by rw [hx0]; exact hI, by rw [hx0]; rfl, by rw [hx0]; exact Int.le_refl _, by rw [hx0]; exact Int.le_refl _, by rw [hx0]; exact Int.le_refl _, by rw [hx0]; exact Int.le_refl _, by rw [hx0]; have := hm.two; dsimp only; omega, by rw [Nat.sub_zero]; exact hR0⟩ (by omega)
  (fun j e H' hj ⟨he, x, g, hI, h1, h2, h3, h4, h5, hse, hrun⟩ => by
   subst he
   obtain ⟨H2, e2, g2, hI2, h6, h7⟩ := driverStep_run k m hm W Inv ln c hW a f ha X H.n x.1 x.2 hI g (by omega) (by omega) (by omega) hse
   have hq := g.memBlk (c := H.n) (k := ⟨drvC m c x.2, 1, false⟩) (by simp)
   have p1 := stepD_stp m ln f x
   have p2 := stepD_pl m ln f x
   have p3 := stepD_rest m ln f x h4
   have hlt : x.2.stp < (N : Int) := by omega
   have hNj : N - j = (N - (j + 1)) + 1 := by omega
   rw [hNj] at hrun
   unfold runD at hrun
   rw [if_pos hlt] at hrun
   have hxx : (x.1, x.2) = x := rfl
   rw [hxx] at e2 g2 hI2 h6 h7
   generalize stepD m ln f x = y at *
   have hq2 := g2.memBlk (c := H.n) (k := ⟨drvC m c y.1.2, 1, false⟩) (by simp)
   cases hy : y.2 with
   | true =>
    rw [hy] at hrun e2
    simp only [if_true] at hrun
    refine .inr ⟨.ret, _, H2, ?_, by simp, _, hrun, y.1.2, g2, hI2, .inl ⟨rfl, rfl, rfl⟩⟩
    rw [drive_Run_l1_eq]
    simp -implicitDefEqProofs (disch := omega) [hq, hlt, e2, hq2]
   | false =>
    rw [hy] at hrun e2
    simp only [Bool.false_eq_true, if_false] at hrun
    by_cases hr : y.1.2.rest > 64
    ·rw [if_pos hr] at hrun
     refine .inr ⟨.exit 0, _, H2, ?_, by simp, _, hrun, y.1.2, g2, hI2, .inr ⟨rfl, rfl, rfl, .inl rfl⟩⟩
     rw [drive_Run_l1_eq]
     simp -implicitDefEqProofs (disch := omega) [hq, hlt, e2, hq2, hr]
    ·rw [if_neg hr] at hrun
     refine .inl ⟨_, H2, ?_, rfl, y.1, g2, hI2, by omega, p2, by omega, p3.1, by omega, h7, hrun⟩
     rw [drive_Run_l1_eq]
     simp -implicitDefEqProofs (disch := omega) [hq, hlt, e2, hq2, hr])
  (fun e H' ⟨he, x, g, hI, h1, h2, h3, h4, h5, hse, hrun⟩ => by
   subst he
   rw [Nat.sub_self] at hrun
   have hq := g.memBlk (c := H.n) (k := ⟨drvC m c x.2, 1, false⟩) (by simp)
   refine ⟨.exit 0, _, H', ?_, by simp, _, hrun, x.2, g, hI, .inr ⟨rfl, rfl, rfl, .inr rfl⟩⟩
   have hnl : ¬ x.2.stp < (N : Int) := by omega
   rw [drive_Run_l1_eq]
   simp -implicitDefEqProofs (disch := omega) [hq, hnl])
 obtain ⟨r, hr, d, g, hIr, hcase⟩ := hQ
 subst hr
 have hq := g.memBlk (c := H.n) (k := ⟨drvC m c d, 1, false⟩) (by simp)
 have gX : Star H0 H1 (W r.2.2 ++ X) := g.drop_last
 refine ⟨H1, ?_, gX, hIr⟩
 rcases hcase with ⟨rfl, rfl, hc⟩ | ⟨rfl, hd, hc, rfl | rfl⟩
 ·rw [hc]
  simp -implicitDefEqProofs (disch := omega) [drive_Run, hlen, hNi, hr1, drive_Run_l1k_r]
 ·rw [hc]
  simp -implicitDefEqProofs (disch := omega) [drive_Run, hlen, hNi, hr1, drive_Run_l1k_x0, hq, hd]
 ·rw [hc]
  simp -implicitDefEqProofs (disch := omega) [drive_Run, hlen, hNi, hr1, drive_Run_l1k_x0_1, hq, hd]
end Go.Sw
end
section
set_option maxRecDepth 100000
set_option linter.unusedVariables false
namespace Go.Sw
noncomputable section
def swashref07_Read_l1 (k : Nat) (call : Caller) : Env → Heap → Res (AExit × Env) := loopB (C k) call F.swashref07_Read [1, 1, 1, 1, 1, 1, 1, 0, 0, 0]
def swashref07_Read_l1k (k : Nat) (call : Caller) : Kont Value := kBlock 0 (kSeq (pieceK (C k) call F.swashref07_Read [1, 1, 1, 1, 1, 1, 1, 1]) (kDone Prog (resOf Prog F.swashref07_Read)))
def swashref07_Read (k : Nat) (call : Caller) (a0 a1 a2 : Value) (h : Heap) : Res Value :=
 (allocR Prog 137 h).bind fun v1 h2 =>
 (call F.swashref01_U [a0, (.int .i64 0), (.int .i64 4)] h2).bind fun v3 h4 =>
 (call F.swashref01_U [a0, (.int .i64 8), (.int .i64 4)] h4).bind fun v5 h6 =>
 (call F.swashref01_U [a0, (.int .i64 12), (.int .i64 4)] h6).bind fun v7 h8 =>
 (buildR Prog 137 [(0, a0), (1, v3), (2, v5), (3, v7), (4, (.int .i64 2)), (6, a2)] h8).bind fun v9 h10 =>
 (allocR Prog 137 h10).bind fun v11 h12 =>
 (storeR Prog 137 v11 v9 h12).bind fun _v13 h14 =>
 (call F.swashref01_U [a0, (.int .i64 4), (.int .i64 4)] h14).bind fun v15 h16 =>
 (fieldAddrR Prog 137 v11 1 h16).bind fun v17 h18 =>
 (loadR Prog 3 v17 h18).bind fun v19 h20 =>
 (binR Prog .lss 3 v19 (.int .i64 4) h20).bind fun v21 h22 =>
 ((bif wantVal v21 false then fieldAddrR Prog 137 v11 1 h22 else Res.ok undef h22)).bind fun v23 h24 =>
 ((bif wantVal v21 false then loadR Prog 3 v23 h24 else Res.ok undef h24)).bind fun v25 h26 =>
 ((bif wantVal v21 false then binR Prog .gtr 3 v25 (.int .i64 65535) h26 else Res.ok undef h26)).bind fun v27 h28 =>
 (condV (some v21) (Res.ok (.bool true) h28) (Res.ok v27 h28)).bind fun v29 h30 =>
 ((bif wantVal v29 false then fieldAddrR Prog 137 v11 2 h30 else Res.ok undef h30)).bind fun v31 h32 =>
 ((bif wantVal v29 false then loadR Prog 3 v31 h32 else Res.ok undef h32)).bind fun v33 h34 =>
 ((bif wantVal v29 false then binR Prog .lss 3 v33 (.int .i64 0) h34 else Res.ok undef h34)).bind fun v35 h36 =>
 (condV (some v29) (Res.ok (.bool true) h36) (Res.ok v35 h36)).bind fun v37 h38 =>
 ((bif wantVal v37 false then fieldAddrR Prog 137 v11 3 h38 else Res.ok undef h38)).bind fun v39 h40 =>
 ((bif wantVal v37 false then loadR Prog 3 v39 h40 else Res.ok undef h40)).bind fun v41 h42 =>
 ((bif wantVal v37 false then binR Prog .lss 3 v41 (.int .i64 0) h42 else Res.ok undef h42)).bind fun v43 h44 =>
 (condV (some v37) (Res.ok (.bool true) h44) (Res.ok v43 h44)).bind fun v45 h46 =>
 ((bif wantVal v45 false then fieldAddrR Prog 137 v11 2 h46 else Res.ok undef h46)).bind fun v47 h48 =>
 ((bif wantVal v45 false then loadR Prog 3 v47 h48 else Res.ok undef h48)).bind fun v49 h50 =>
 ((bif wantVal v45 false then Res.ok a0 h50 else Res.ok undef h50)).bind fun v51 h52 =>
 ((bif wantVal v45 false then builtinV Prog .len [65] [v51] h52 else Res.ok undef h52)).bind fun v53 h54 =>
 ((bif wantVal v45 false then binR Prog .gtr 3 v49 v53 h54 else Res.ok undef h54)).bind fun v55 h56 =>
 (condV (some v45) (Res.ok (.bool true) h56) (Res.ok v55 h56)).bind fun v57 h58 =>
 ((bif wantVal v57 false then fieldAddrR Prog 137 v11 3 h58 else Res.ok undef h58)).bind fun v59 h60 =>
 ((bif wantVal v57 false then loadR Prog 3 v59 h60 else Res.ok undef h60)).bind fun v61 h62 =>
 ((bif wantVal v57 false then Res.ok a0 h62 else Res.ok undef h62)).bind fun v63 h64 =>
 ((bif wantVal v57 false then builtinV Prog .len [65] [v63] h64 else Res.ok undef h64)).bind fun v65 h66 =>
 ((bif wantVal v57 false then binR Prog .gtr 3 v61 v65 h66 else Res.ok undef h66)).bind fun v67 h68 =>
 (condV (some v57) (Res.ok (.bool true) h68) (Res.ok v67 h68)).bind fun v69 h70 =>
 ((bif wantVal v69 false then Res.ok v15 h70 else Res.ok undef h70)).bind fun v71 h72 =>
 ((bif wantVal v69 false then binR Prog .lss 3 v71 (.int .i64 0) h72 else Res.ok undef h72)).bind fun v73 h74 =>
 (condV (some v69) (Res.ok (.bool true) h74) (Res.ok v73 h74)).bind fun v75 h76 =>
 ((bif wantVal v75 false then Res.ok v15 h76 else Res.ok undef h76)).bind fun v77 h78 =>
 ((bif wantVal v75 false then Res.ok a0 h78 else Res.ok undef h78)).bind fun v79 h80 =>
 ((bif wantVal v75 false then builtinV Prog .len [65] [v79] h80 else Res.ok undef h80)).bind fun v81 h82 =>
 ((bif wantVal v75 false then binR Prog .gtr 3 v77 v81 h82 else Res.ok undef h82)).bind fun v83 h84 =>
 (condV (some v75) (Res.ok (.bool true) h84) (Res.ok v83 h84)).bind fun v85 h86 =>
 condV (some v85) (
 (buildR Prog 137 [] h86).bind fun v87 h88 =>
 (storeR Prog 137 v1 v87 h88).bind fun _v89 h90 =>
 (loadR Prog 137 v1 h90).bind fun v91 h92 =>
 .ok (.tuple #[v91, (.bool false)]) h92)
 (
 (sliceR Prog 65 a0 (some v15) none none h86).bind fun v93 h94 =>
 (call F.swashref06_Read [v93, a1, (.int .i64 2)] h94).bind fun v95 h96 =>
 (extractR v95 0 h96).bind fun v97 h98 =>
 (extractR v95 1 h98).bind fun v99 h100 =>
 (allocR Prog 88 h100).bind fun v101 h102 =>
 (storeR Prog 88 v101 v97 h102).bind fun _v103 h104 =>
 (loadR Prog 88 v101 h104).bind fun v105 h106 =>
 (fieldAddrR Prog 137 v11 7 h106).bind fun v107 h108 =>
 (storeR Prog 88 v107 v105 h108).bind fun _v109 h110 =>
 (binR Prog .mul 3 (.int .i64 2) a2 h110).bind fun v111 h112 =>
 (binR Prog .add 3 (.int .i64 4) v111 h112).bind fun v113 h114 =>
 (loopN (swashref07_Read_l1 k call) loopFuel [(0, a0), (6, v1), (8, v11), (11, v99), (12, v113)] h114).bind fun r115 h116 =>
 swashref07_Read_l1k k call r115.1 r115.2 h116)
end
end Go.Sw
end
section
namespace Go.Sw
open Go.RowKit
abbrev rmCells (b : List Int) (n j q S N w : Int) (tb : List Int) (ps : List RP) : List Value :=
 [lv encB b, .int .i64 n, .int .i64 j, .int .i64 q, .int .i64 S, .int .i64 N, .int .i64 w, lv encB tb, lv encRP ps]
end Go.Sw
end
section
namespace Go.Sw
open Go.RowKit
end Go.Sw
end
section
namespace Go.Sw
theorem row_I {r : List Da} {cs : List Value} (h : LayRow [.int .i64] r cs) : ∃ n : Int, cs = encI n ∧ (Lit.int .i64 n).wf = true := by
 obtain ⟨d, v, ds, vs, rfl, h1, h2⟩ := h.head
 obtain rfl := h2.done
 obtain ⟨n, rfl, w⟩ := h1.intv
 exact ⟨n, rfl, w⟩
theorem wf_u16 {n : Int} (h : (Lit.int .u16 n).wf = true) : 0 ≤ n ∧ n < 65536 := by
 simp [Lit.wf, IntKind.min, IntKind.max, IntKind.signed, IntKind.bits] at h
 omega
theorem arg_I {v : Value} (h : ArgLay (.one (.slice [.int .i64])) v) : ∃ l, v = lv encI l ∧ ∀ n, n ∈ l → (Lit.int .i64 n).wf = true := by
 obtain ⟨d, h1⟩ := h.cell
 exact Lay.list (enc := encI) (ok := fun n => (Lit.int .i64 n).wf = true) (fun r cs h => row_I h) h1
end Go.Sw
end
section
namespace Go.Sw
open Go.RowKit
end Go.Sw
end
section
namespace Go.Sw
open Go.RowKit
theorem planRoom_byt {p : Plan} (hp : p.ok) (w : Int) {rm : List Int} (hrm : Byt rm) : Byt (planRoom p w rm) := by
 have tw : ∀ l, Byt (twos l) := fun l => Byt.flat fun r hr => by obtain ⟨c, _, rfl⟩ := List.mem_map.1 hr; exact bytesOf_byt _ _
 unfold planRoom
 refine (bytesOf_byt _ _).app ((bytesOf_byt _ _).app ((bytesOf_byt _ _).app ((bytesOf_byt _ _).app (hrm.app (Byt.app ?_ (Byt.app ?_ ?_))))))
 ·unfold ofS
  exact (((bytesOf_byt _ _).app (bytesOf_byt _ _)).app (bytesOf_byt _ _)).app (tw _)
 ·exact Byt.flat fun r hr => by obtain ⟨c, _, rfl⟩ := List.mem_map.1 hr; exact tw _
 ·refine Byt.flat fun r hr => ?_
  obtain ⟨e, _, rfl⟩ := List.mem_map.1 hr
  unfold entB
  refine (((bytesOf_byt _ _).app (bytesOf_byt _ _)).app ?_).app ?_
  ·split
   ·exact bytesOf_byt _ _
   ·exact Byt.nil
  ·split
   ·exact bytesOf_byt _ _
   ·exact Byt.nil
theorem planRoom_len {p : Plan} (hp : p.ok) (w : Int) {rm : List Int} (hrm : rm.length ≤ 1000) (h1 : p.cls.length ≤ 1000) (h2 : p.rows.length ≤ 1000) (h3 : p.ents.length ≤ 1000) : (planRoom p w rm).length ≤ 100000 := by
 have hN := planN_eq p hp.2.2
 have hofl : (ofS p.cls).length = 6 + p.cls.length * 2 := by unfold ofS; simp [twos_len]; omega
 have hrl : (rowsL (planN p) p.rows).length ≤ 1000 * 22 := by rw [rowsL_len]; exact Nat.mul_le_mul h2 (by omega)
 have hel := entsB_len w p.ents
 unfold planRoom
 simp
 omega
end Go.Sw
end
section
set_option maxRecDepth 100000
set_option linter.unusedVariables false
namespace Go.Sw
noncomputable section
end
end Go.Sw
end
section
namespace Go.Sw
open Go.RowKit
variable {σ : Type}
def DoOk (k : Nat) (m : Mach) (H0 : Heap) (W : σ → List It) (Inv : σ → Prop) (a : Value) (g : σ → Int → En → σ) : Prop :=
 ∀ s i e H X, Inv s → Star H0 H (W s ++ X) → 0 ≤ i → i < 2 ^ 50 → e ∈ m.ents →
  ∃ v H', callV (R (T k)) a [.int .i64 i, encE e] H = .ok v H' ∧ Star H0 H' (W (g s i e) ++ X) ∧ Inv (g s i e)
theorem plain_ok (k : Nat) {m : Mach} {H0 : Heap} {W : σ → List It} {Inv : σ → Prop} {a : Value} {g : σ → Int → En → σ} (h : DoOk k m H0 W Inv a g) (p : Nat) :
  ActOk k m H0 (fun s => W s ++ [itBlk p ⟨[a], 1, false⟩]) Inv (.func (.func F.drive_Plain_in1) #[] #[ptrV p]) (fun s i e => (g s i e, i, i + 1)) := by
 intro s i e H X hI st h0 h1 he
 have st2 := st.push ⟨encEn e, 1, false⟩
 have hp := st2.memBlk (c := p) (k := ⟨[a], 1, false⟩) (by simp)
 have hpn : ¬ p = H.n := by have := Heap.get_lt (st.memBlk (c := p) (k := ⟨[a], 1, false⟩) (by simp)); omega
 obtain ⟨v, H', e1, st3, hI2⟩ := h s i e (H.push ⟨encEn e, 1, false⟩) ([itBlk p ⟨[a], 1, false⟩] ++ X ++ [itBlk H.n ⟨encEn e, 1, false⟩]) hI (by simpa [List.append_assoc] using st2) h0 h1 he
 have st4 : Star H0 H' (W (g s i e) ++ [itBlk p ⟨[a], 1, false⟩] ++ X) := by
  have : W (g s i e) ++ ([itBlk p ⟨[a], 1, false⟩] ++ X ++ [itBlk H.n ⟨encEn e, 1, false⟩]) = (W (g s i e) ++ [itBlk p ⟨[a], 1, false⟩] ++ X) ++ [itBlk H.n ⟨encEn e, 1, false⟩] := by simp
  rw [this] at st3
  exact st3.drop_last
 refine ⟨H', ?_, st4, hI2, by dsimp only; omega, by dsimp only; omega⟩
 simp only [callV, List.nil_append, List.cons_append]
 rw [drive_Plain_in1_R, nrm_of]
 simp -implicitDefEqProofs (disch := omega) [drive_Plain_in1, hp, hpn, e1]
end Go.Sw
end
section
namespace Go.Sw
open Go.RowKit Go.Proofs
set_option maxRecDepth 20000 in
theorem catch_short (p : Addr) (b : Bool) (w : World) (hc : (w.alloc (.cells #[] 233)).cell? p = some (.bool b)) (hz : (w.alloc (.cells #[] 233)).frozen? p = false) :
  CallsD Prog 160 #[.pointer (some p)] (.panicking [{ v := .iface 233 (.agg #[]), recovered := false }]) w fun e u' w' =>
   e = .returned (.tuple #[]) ∧ u' = .panicking [{ v := .iface 233 (.agg #[]), recovered := true }] ∧ w' = (w.alloc (.cells #[] 233)).setCell p (.bool false) := by
 refine callsD_of_wpS Try.func160 rfl fun c₀ cs hu => ?_
 apply wpS_seq
 apply wpS_region
 simp [wpOpsS, go_sem, recoverD, hu, Try.ntmps160, Exit.thenS]
 have hta : ∀ w, (Instr.typeAssert (.iface 233 (.agg #[])) 20 233 true).run Prog w = .ok (.tuple #[.agg #[], .bool true]) w := fun w => by kernel_rfl
 refine wpS_of_wp ?_
 go_wp2
 cases c₀
 simp_all [bodyPostS, results, Try.results160]
theorem catch_idle (p : Addr) (w : World) :
  CallsD Prog 160 #[.pointer (some p)] .returning w fun e u' w' => e = .returned (.tuple #[]) ∧ u' = .returning ∧ w' = w := by
 refine callsD_of_wpS Try.func160 rfl fun c₀ cs hu => ?_
 apply wpS_seq
 apply wpS_region
 simp [wpOpsS, go_sem, recoverD, hu, Try.ntmps160, Exit.thenS]
 refine wpS_of_wp ?_
 go_wp2
 cases c₀
 simp_all [bodyPostS, results, Try.results160]
set_option maxRecDepth 20000 in
theorem try_walk (g : FuncId) (first cap : Array Value) (w : World) (R : Ending → World → Prop)
  (hcf : (callFunc g (first ++ cap)).run Prog (w.alloc (.cells #[.bool false] 4)) = .ok (.enter g (first ++ cap)) (w.alloc (.cells #[.bool false] 4)))
  (hcall : Calls Prog g (first ++ cap) (w.alloc (.cells #[.bool false] 4)) fun e w' => match e with
   | .returned _ => w'.heap[w.heap.size]? = some (.cells #[.bool false] 4 (0, 0)) ∧ R (.returned (.bool true)) (w'.setCell ⟨w.heap.size, 0, none⟩ (.bool true))
   | .panicked chain => chain = [{ v := .iface 233 (.agg #[]), recovered := false }] ∧ w'.heap[w.heap.size]? = some (.cells #[.bool false] 4 (0, 0)) ∧ R (.returned (.bool false)) ((w'.alloc (.cells #[] 233)).setCell ⟨w.heap.size, 0, none⟩ (.bool false))
   | .outgrown => False) :
  Calls Prog 77 #[.func (.func g) first cap] w R := by
 have hmf : ∀ (fn : Fn) (first cap : Array Value) (w : World), (Instr.makeFunc fn first cap).run Prog w = .ok (.func fn first cap) w := fun _ _ _ _ => rfl
 go_enter_defers Try.func77, Try.ntmps77
 go_wp2
 rename_i K2 hK2 K1 hK1
 refine hcall.mono fun e w' he => ?_
 cases e with
 | returned v =>
  obtain ⟨h1, h2⟩ := he
  have hc : w'.cell? ⟨w.heap.size, 0, none⟩ = some (.bool false) := by simp [World.cell?, h1]
  have hz : w'.frozen? ⟨w.heap.size, 0, none⟩ = false := by simp [World.frozen?, h1]
  apply hK1
  apply hK2
  go_wp2
  have hc2 : (w'.setCell ⟨w.heap.size, 0, none⟩ (.bool true)).cell? ⟨w.heap.size, 0, none⟩ = some (.bool true) := World.cell?_setCell_same _ _ _ hc
  refine leaves_cons (f := 160) (args := #[.pointer (some ⟨w.heap.size, 0, none⟩)]) (by simp) (by simp [go_sem]) ?_
  refine (catch_idle ⟨w.heap.size, 0, none⟩ _).mono ?_
  rintro e u' w'' ⟨rfl, rfl, rfl⟩
  simp [Leaves, settle, results, Try.results77, go_sem, hc2]
  exact h2
 | panicked chain =>
  obtain ⟨h0, h1, h2⟩ := he
  subst h0
  have hlt : w.heap.size < w'.heap.size := by
   rcases Nat.lt_or_ge w.heap.size w'.heap.size with h | h
   ·exact h
   ·rw [Array.getElem?_eq_none h] at h1; cases h1
  have h3 : (w'.alloc (.cells #[] 233)).heap[w.heap.size]? = some (.cells #[.bool false] 4 (0, 0)) := by
   rw [heap_alloc_lt _ _ _ hlt]; exact h1
  have hc : (w'.alloc (.cells #[] 233)).cell? ⟨w.heap.size, 0, none⟩ = some (.bool false) := by simp only [World.cell?, h3]; rfl
  have hz : (w'.alloc (.cells #[] 233)).frozen? ⟨w.heap.size, 0, none⟩ = false := by simp [World.frozen?, h3]
  have hc2 : ((w'.alloc (.cells #[] 233)).setCell ⟨w.heap.size, 0, none⟩ (.bool false)).cell? ⟨w.heap.size, 0, none⟩ = some (.bool false) := World.cell?_setCell_same _ _ _ hc
  show Leaves _ _ _ _ _ _ _
  refine leaves_cons (f := 160) (args := #[.pointer (some ⟨w.heap.size, 0, none⟩)]) (by simp) (by simp [go_sem]) ?_
  refine (catch_short ⟨w.heap.size, 0, none⟩ false _ hc hz).mono ?_
  rintro e u' w'' ⟨rfl, rfl, rfl⟩
  simp [Leaves, settle, results, Try.results77, go_sem, hc2]
  exact h2
 | outgrown => exact he.elim
theorem try_is : SpIs Prog 77 (tryV 233) := try_of (bt := 4) Try.func77 rfl (by kernel_rfl) try_walk
end Go.Sw
end
section
namespace Go.Sw
open Go.RowKit
def cV (o : Option CTab) : Value := match o with | some t => ctxV t | none => .pointer none
theorem cV_flat (o : Option CTab) : Flat (cV o) := by
 cases o with
 | none => exact .nilPtr
 | some t => exact Flat.ctx t
theorem ctx_in1_run (k : Nat) (hk : k < 1000000) {H : Heap} (b : List Int) (hb : Byt b) (g : Int) (hg : 1 ≤ g ∧ g ≤ 65535) (hl : b.length < 2 ^ 31) (p2 p3 p4 : Nat) (old : Value)
  (h2 : H.get p2 = some ⟨[lv encB b], 1, false⟩) (h3 : H.get p3 = some ⟨[.int .i64 g], 1, false⟩) (h4 : H.get p4 = some ⟨[old], 1, false⟩) :
  R (T k) F.ctx_Read_in1 [ptrV p2, ptrV p3, ptrV p4] H = match ctxS b g with
   | some t => .ok (.tuple #[]) (H.set p4 (some ⟨[ctxV t], 1, false⟩))
   | none => .panic failV H := by
 rw [ctx_Read_in1_R]
 have ht := ctxTake_run k hk b hb g hg hl H
 have ho := fun H => Of_lv k b H
 cases h : ctxS b g with
 | none =>
  rw [h] at ht
  refine nrm_throw ⟨H, ?_, Ext.refl H⟩ Flat.fail.alive
  simp -implicitDefEqProofs (disch := omega) [ctx_Read_in1, h2, h3, ho, ht]
 | some x =>
  rw [h] at ht
  simp -implicitDefEqProofs (disch := omega) [ctx_Read_in1, h2, h3, h4, ho, ht]
theorem ctxRead_run (k : Nat) (hk : k < 1000000) (b : List Int) (hb : Byt b) (g : Int) (hg : 1 ≤ g ∧ g ≤ 65535) (hl : b.length < 2 ^ 31) (H : Heap) :
  R (T k) F.ctx_Read [lv encB b, .int .i64 g] H = .ok (.tuple #[cV (ctxS b g), .int .i64 (if (ctxS b g).isSome then 0 else 2)]) H := by
 rw [ctx_Read_R]
 have c1 : ¬ g < 1 := by omega
 have c2 : ¬ g > 65535 := by omega
 have hx2 := ((Ext.refl H).push ⟨[lv encB b], 1, false⟩).push ⟨[.int .i64 g], 1, false⟩
 have al : ∀ o n, Alive H (.tuple #[cV o, .int .i64 n]) := fun o n => (Flat.tupleL (l := [cV o, .int .i64 n]) (.cons (cV_flat o) (.cons (.int _ _) .nil))).alive
 have fz : ∀ H' o n, fzV H.n H' fzDepth (.tuple #[cV o, .int .i64 n]) = some (.tuple #[cV o, .int .i64 n], []) := fun H' o n => by
  cases o <;> rfl
 have hin := ctx_in1_run k hk (H := ((H.push ⟨[lv encB b], 1, false⟩).push ⟨[.int .i64 g], 1, false⟩).push ⟨[.pointer none], 1, false⟩) b hb g hg hl H.n (H.n + 1) (H.n + 2) (.pointer none) (by simp) (by simp) (by simp)
 cases hc : ctxS b g with
 | none =>
  rw [hc] at hin
  have ht := Try_no k F.ctx_Read_in1 #[ptrV H.n, ptrV (H.n + 1), ptrV (H.n + 2)] hin
  refine nrm_fz (H' := ((H.push ⟨[lv encB b], 1, false⟩).push ⟨[.int .i64 g], 1, false⟩).push ⟨[.pointer none], 1, false⟩) (v := .tuple #[cV none, .int .i64 2]) ?_ (fz _ _ _) (hx2.push _) (al _ _)
  simp -implicitDefEqProofs (disch := omega) [ctx_Read, c1, c2, ht, cV]
 | some x =>
  rw [hc] at hin
  have ht := Try_ok k F.ctx_Read_in1 #[ptrV H.n, ptrV (H.n + 1), ptrV (H.n + 2)] hin
  refine nrm_fz (H' := ((H.push ⟨[lv encB b], 1, false⟩).push ⟨[.int .i64 g], 1, false⟩).push ⟨[ctxV x], 1, false⟩) (v := .tuple #[cV (some x), .int .i64 0]) ?_ (fz _ _ _) (hx2.push _) (al _ _)
  simp at ht
  simp -implicitDefEqProofs (disch := omega) [ctx_Read, c1, c2, ht, cV]
structure CTab.ok (t : CTab) : Prop where
 m : t.m.ok
 subs : ∀ x, x ∈ t.subs → (∀ p, p ∈ x.2 → p.ok) ∧ risesS x.2 = true ∧ x.2.length < 2 ^ 31
 has : ∀ e, e ∈ t.m.ents → (e.a = 65535 ∨ e.a < t.subs.length) ∧ (e.b = 65535 ∨ e.b < t.subs.length)
theorem many_has : ∀ (es : List En) (c : Int), c ≤ es.foldl manyE c ∧ ∀ e, e ∈ es → (e.a = 65535 ∨ e.a < es.foldl manyE c) ∧ (e.b = 65535 ∨ e.b < es.foldl manyE c)
 | [], c => ⟨Int.le_refl _, fun e he => by cases he⟩
 | x :: es, c => by
  have ih := many_has es (manyE c x)
  have hx : c ≤ manyE c x ∧ (x.a = 65535 ∨ x.a < manyE c x) ∧ (x.b = 65535 ∨ x.b < manyE c x) := by
   unfold manyE
   dsimp only
   split <;> split <;> omega
  simp only [List.foldl_cons]
  refine ⟨by omega, fun e he => ?_⟩
  rcases List.mem_cons.1 he with rfl | he
  ·omega
  ·exact ih.2 e he
theorem ctxS_ok {b : List Int} (hb : Byt b) (hl : b.length < 2 ^ 31) {g : Int} (hg : 1 ≤ g ∧ g ≤ 65535) {t : CTab} (h : ctxS b g = some t) : t.ok := by
 unfold ctxS at h
 obtain ⟨m, hm, h⟩ := Option.bind_eq_some_iff.1 h
 obtain ⟨p, hp, h⟩ := Option.bind_eq_some_iff.1 h
 obtain ⟨sb, hsb, h⟩ := Option.bind_eq_some_iff.1 h
 obtain ⟨subs, hs, rfl⟩ := Option.map_eq_some_iff.1 h
 have hok := machS_ok hb hg.1 hg.2 (by omega) hm
 have lsb := restS_len hsb
 refine ⟨hok, fun x hx => ?_, fun e he => ?_⟩
 ·obtain ⟨i, hi⟩ := List.getElem?_of_mem hx
  obtain ⟨j, _, hj⟩ := mapO_get hs hi
  unfold subS at hj
  obtain ⟨p, _, hj⟩ := Option.bind_eq_some_iff.1 hj
  obtain ⟨tb, htb, hj⟩ := Option.bind_eq_some_iff.1 hj
  have ltb := restS_len htb
  have ok1 := lookS_ok ((hb.rest hsb).rest htb) hg.1 hg.2 (.inl rfl) hj
  exact ⟨ok1.2.1, ok1.2.2, lookS_len ((hb.rest hsb).rest htb) hj⟩
 ·have hes : ∀ e, e ∈ m.ents → 0 ≤ e.a ∧ e.a < 65536 ∧ 0 ≤ e.b ∧ e.b < 65536 := fun e he => by have := hok.ent e he; omega
  have h1 := (many_has m.ents 0).2 e he
  have h2 := manyS_bound hes
  have h3 := subsS_len hs
  have h4 : manyS m.ents = m.ents.foldl manyE 0 := rfl
  dsimp only
  omega
def swapC (t : CTab) (l : List Gl) (i w : Int) : List Gl :=
 if w = 65535 then l else match atG l i with
 | some g => match (t.subs[w.toNat]?).bind fun x => getS x.2 g.id with
  | some id => setG l i id
  | none => l
 | none => l
@[simp] theorem swapC_len (t : CTab) (l : List Gl) (i w : Int) : (swapC t l i w).length = l.length := by
 unfold swapC
 split
 ·rfl
 ·split
  ·split <;> simp
  ·rfl
theorem ctxSwap_star (k : Nat) (t : CTab) (ht : t.ok) {H0 H : Heap} {L : List It} (h : Star H0 H L) (i : Nat) {c : Nat} {o : Option Nat} {l : List Gl} (hi : L[i]? = some (itLine c o l)) (j w : Int) (hw : w = 65535 ∨ 0 ≤ w ∧ w < t.subs.length) :
  ∃ v H', R (T k) F.ctx_Table_swap [ctxV t, ptrV c, .int .i64 j, .int .i64 w] H = .ok v H' ∧ Star H0 H' (L.set i (itLine c o (swapC t l j w))) := by
 have hat := lineAt_run k h i hi j
 have same : L.set i (itLine c o l) = L := by
  obtain ⟨hlt, hx⟩ := List.getElem?_eq_some_iff.1 hi
  rw [← hx, List.set_getElem_self]
 suffices hs : ∃ v H', ctx_Table_swap k (R (T k)) (ctxV t) (ptrV c) (.int .i64 j) (.int .i64 w) H = .ok v H' ∧ Star H0 H' (L.set i (itLine c o (swapC t l j w))) by
  obtain ⟨v, H', e, g⟩ := hs
  exact ⟨v, H', by rw [ctx_Table_swap_R]; exact nrm_of e, g⟩
 unfold swapC
 cases ha : atG l j with
 | none =>
  rw [ha] at hat
  unfold encA at hat
  simp at hat
  refine ⟨.tuple #[], _, ?_, by simp only [ite_self]; rw [same]; exact h.rest ((Ext.refl _).push ⟨[.int .i64 0, .int .i64 0], 1, false⟩)⟩
  by_cases hw0 : w = 65535
  ·simp -implicitDefEqProofs (disch := omega) [ctx_Table_swap, hat, hw0]
  ·have hw1 : (w == 65535) = false := by simpa using hw0
   simp -implicitDefEqProofs (disch := omega) [ctx_Table_swap, hat, hw0, hw1]
 | some g =>
  rw [ha] at hat
  unfold encA at hat
  simp at hat
  by_cases hw0 : w = 65535
  ·rw [if_pos hw0, same]
   refine ⟨.tuple #[], _, ?_, h.rest ((Ext.refl _).push ⟨encG g, 1, false⟩)⟩
   simp -implicitDefEqProofs (disch := omega) [ctx_Table_swap, hat, hw0]
  rw [if_neg hw0]
  have hw1 : (w == 65535) = false := by simpa using hw0
  obtain ⟨n, rfl⟩ := Int.eq_ofNat_of_zero_le (show 0 ≤ w by omega)
  obtain ⟨x, hx⟩ : ∃ x, t.subs[n]? = some x := ⟨_, List.getElem?_eq_getElem (by omega)⟩
  have i1 := fun H' => ixS_lvN encT_len t.subs .i64 n x hx H'
  have xo := ht.subs x (List.mem_of_getElem? hx)
  have hget := fun H' => Get_run k x xo.1 xo.2.1 g.id xo.2.2 H'
  dsimp only
  rw [Int.toNat_natCast, hx, Option.bind_some]
  have h2 := h.rest ((Ext.refl _).push ⟨encG g, 1, false⟩)
  cases hg : getS x.2 g.id with
  | none =>
   rw [hg] at hget
   simp at hget
   rw [same]
   refine ⟨.tuple #[], _, ?_, h2⟩
   simp -implicitDefEqProofs (disch := omega) [ctx_Table_swap, hat, hw1, i1, hget]
  | some id =>
   rw [hg] at hget
   simp at hget
   obtain ⟨H2, e2, h3⟩ := lineSet_star k h2 i hi j id
   refine ⟨.tuple #[], H2, ?_, h3⟩
   simp -implicitDefEqProofs (disch := omega) [ctx_Table_swap, hat, hw1, i1, hget, e2]
end Go.Sw
end
section
namespace Go.Sw
open Go.RowKit
end Go.Sw
end
section
namespace Go.Sw
open Go.RowKit
variable {σ : Type}
theorem clsS_over (m : Mach) (l : List Gl) (j : Nat) : (clsS m l j).2 = decide (l.length ≤ j) := by
 unfold clsS atG
 by_cases h2 : (j : Int) < l.length
 ·obtain ⟨g, hg⟩ : ∃ g, l[j]? = some g := ⟨_, List.getElem?_eq_getElem (by omega)⟩
  rw [if_pos ⟨by omega, h2⟩, Int.toNat_natCast, hg, decide_eq_false (by omega)]
 ·rw [if_neg (fun hc => h2 hc.2), decide_eq_true (by omega)]
theorem runD_go (m : Mach) (ln : σ → List Gl) (f : σ → Int → En → σ × Int × Int) (most : Int) (len : Nat) (hmost : (len : Int) < most) (P : Nat → σ → Int → Prop) (hlen : ∀ j s st, P j s st → (ln s).length = len)
  (hgo : ∀ (j : Nat) s st, j ≤ len → P j s st → ¬ (entS m (ln s) ⟨st, j, j, 0⟩).flags / 16384 % 2 = 1 ∧ (f s j (entS m (ln s) ⟨st, j, j, 0⟩)).2.2 = (j : Int) + 1 ∧ (j < len → P (j + 1) (f s j (entS m (ln s) ⟨st, j, j, 0⟩)).1 (entS m (ln s) ⟨st, j, j, 0⟩).next)) :
  ∀ (c j n : Nat) (z : Int) (s : σ) (st : Int), z = j → len = j + c → c < n → P j s st → ∃ s' st', P len s' st' ∧ runD m ln f most n (s, ⟨st, z, z, 0⟩) = ((len : Int) + 1, 0, (f s' len (entS m (ln s') ⟨st', len, len, 0⟩)).1)
 | c, j, 0, z, s, st, _, _, h, _ => by omega
 | 0, j, n + 1, z, s, st, hz, hj, hn, hP => by
  subst hz
  obtain ⟨g1, g2, _⟩ := hgo j s st (by omega) hP
  have hl := hlen j s st hP
  have hjl : j = len := by omega
  subst hjl
  refine ⟨s, st, hP, ?_⟩
  unfold runD
  rw [if_pos (by dsimp only; omega)]
  unfold stepD
  dsimp only
  rw [if_neg g1, clsS_over, hl, decide_eq_true (Nat.le_refl _)]
  rfl
 | c + 1, j, n + 1, z, s, st, hz, hj, hn, hP => by
  subst hz
  obtain ⟨g1, g2, g3⟩ := hgo j s st (by omega) hP
  have hl := hlen j s st hP
  have ih := runD_go m ln f most len hmost P hlen hgo c (j + 1) n _ _ _ rfl (by omega) (by omega) (g3 (by omega))
  unfold runD
  rw [if_pos (by dsimp only; omega)]
  unfold stepD
  dsimp only
  rw [if_neg g1, clsS_over, hl, decide_eq_false (by omega), g2]
  simp only [Bool.false_eq_true, if_false]
  rw [if_neg (by decide), show max ((j : Int) + 1) 0 = ((j + 1 : Nat) : Int) by omega, show (j : Int) + 1 = ((j + 1 : Nat) : Int) by omega]
  exact ih
end Go.Sw
end
