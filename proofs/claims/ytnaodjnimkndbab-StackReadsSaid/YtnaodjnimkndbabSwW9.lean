/-
  Functions' forms, and what is proved of them, part 9.
-/
import Derived.Test.YtnaodjnimkndbabSwW8
import Derived.Test.YtnaodjnimkndbabSwW1
import Derived.Test.YtnaodjnimkndbabSwW7
import Derived.Test.YtnaodjnimkndbabSwW5
import Derived.Test.YtnaodjnimkndbabSwW2
import Derived.Test.YtnaodjnimkndbabSwW4
import Derived.Test.YtnaodjnimkndbabSwCfg
import Derived.Test.YtnaodjnimkndbabSwW6
set_option linter.unusedSimpArgs false
set_option linter.unusedVariables false
set_option linter.unusedSectionVars false
section
namespace Go.Sw
open Go.RowKit
theorem ofInt64 (v : Int) : ((BitVec.ofInt 64 v).toNat : Int) = v % 18446744073709551616 := by
 rw [BitVec.toNat_ofInt]
 omega
theorem bin_and1 (P : Program) (t : TypeId) (H : Heap) (v : Int) : binR P .and t (.int .i64 v) (.int .i64 1) H = .ok (.int .i64 (v % 2)) H := by
 have e1 : binV P .and t (.int .i64 v) (.int .i64 1) = some (.int .i64 (IntKind.i64.wrap (BitVec.ofInt 64 v &&& BitVec.ofInt 64 1).toNat)) := rfl
 have e : ((BitVec.ofInt 64 v &&& BitVec.ofInt 64 1).toNat : Int) = v % 2 := by
  rw [BitVec.toNat_and, show (BitVec.ofInt 64 1).toNat = 1 from rfl, Nat.and_one_is_mod]
  have := ofInt64 v
  omega
 unfold binR
 rw [e1, e, wrap_i64 (by omega) (by omega)]
 rfl
theorem and_not1 (n : Nat) (h : n < 18446744073709551616) : n &&& 18446744073709551614 = n - n % 2 := by
 have e : n - n % 2 = 2 * (n / 2) := by omega
 rw [e]
 apply Nat.eq_of_testBit_eq
 intro i
 rw [Nat.testBit_and]
 cases i with
 | zero =>
  have h0 : (18446744073709551614 : Nat).testBit 0 = false := by decide
  rw [h0, Bool.and_false, Nat.testBit_zero]
  have : ¬ 2 * (n / 2) % 2 = 1 := by omega
  rw [decide_eq_false this]
 | succ i =>
  have h1 : (18446744073709551614 : Nat) = 2 * (2 ^ 63 - 1) := by decide
  rw [h1]
  rw [Nat.testBit_succ, Nat.testBit_succ, Nat.testBit_succ, Nat.mul_div_cancel_left _ (by decide : 0 < 2), Nat.mul_div_cancel_left _ (by decide : 0 < 2), Nat.testBit_two_pow_sub_one]
  by_cases hi : i < 63
  ·rw [decide_eq_true hi, Bool.and_true]
  ·rw [decide_eq_false hi, Bool.and_false]
   symm
   refine Nat.testBit_lt_two_pow ?_
   have : 2 ^ 63 ≤ 2 ^ i := Nat.pow_le_pow_right (by decide) (by omega)
   omega
theorem ζmy (P : Program) (t : TypeId) (H : Heap) (v : Int) (h0 : -2 ^ 62 < v) (h1 : v < 2 ^ 62) : binR P .andNot t (.int .i64 v) (.int .i64 1) H = .ok (.int .i64 (v - v % 2)) H := by
 have e1 : binV P .andNot t (.int .i64 v) (.int .i64 1) = some (.int .i64 (IntKind.i64.wrap (BitVec.ofInt 64 v &&& ~~~(BitVec.ofInt 64 1)).toNat)) := rfl
 have e : (BitVec.ofInt 64 v &&& ~~~(BitVec.ofInt 64 1)).toNat = (BitVec.ofInt 64 v).toNat - (BitVec.ofInt 64 v).toNat % 2 := by
  rw [BitVec.toNat_and, show (~~~(BitVec.ofInt 64 1) : BitVec 64).toNat = 18446744073709551614 from rfl]
  exact and_not1 _ (BitVec.ofInt 64 v).isLt
 have hv := ofInt64 v
 have hw : IntKind.i64.wrap ((BitVec.ofInt 64 v &&& ~~~(BitVec.ofInt 64 1)).toNat : Int) = v - v % 2 := by
  rw [e]
  generalize (BitVec.ofInt 64 v).toNat = N at hv
  unfold IntKind.wrap
  simp [IntKind.signed, IntKind.bits]
  split <;> omega
 unfold binR
 rw [e1, hw]
 rfl
abbrev stackC (t : STab) : List Value := [machV t.m, lv encB t.vals]
abbrev stackV (t : STab) : Value := boxV (stackC t).toArray
theorem Flat.stack (t : STab) : Flat (stackV t) := .boxV (.cons (Flat.mach t.m) (.cons (Flat.B _) .nil))
theorem odd_next {vs : List Int} {a : Int} (hb : Byt vs) (ha : 0 ≤ a) (h : oddB vs a = true) : 2 * a + 2 ≤ vs.length ∧ uS vs (2 * a) 2 = some (gU vs (2 * a) 2) ∧ (-32768 ≤ s16 (gU vs (2 * a) 2) ∧ s16 (gU vs (2 * a) 2) < 32768) ∧ (lastS vs a = false → oddB vs (a + 1) = true) := by
 obtain ⟨i, h1, h2, h3⟩ := oddB_iff.1 h
 have hl : 2 * a + 2 ≤ vs.length := by omega
 obtain ⟨x, hx⟩ : ∃ x, uS vs (2 * a) 2 = some x := by
  cases hu : uS vs (2 * a) 2 with
  | some x => exact ⟨x, rfl⟩
  | none =>
   exfalso
   unfold uS pieceS at hu
   rw [if_pos ⟨by omega, by omega, by omega, by omega⟩] at hu
   simp at hu
 have hg := gU_some hx
 rw [hg]
 have hxb := uS_two hb hx
 refine ⟨hl, hx, ?_, fun hlast => ?_⟩
 ·unfold s16
  split <;> omega
 ·refine oddB_iff.2 ⟨i, ?_, h2, h3⟩
  unfold lastS at hlast
  have hlast := of_decide_eq_false hlast
  rw [hg] at hlast
  by_cases hia : (i : Int) = a
  ·exfalso
   rw [hia, hg] at h3
   apply hlast
   unfold s16
   split <;> omega
  ·omega
set_option maxHeartbeats 1000000 in
theorem ζk2 (k : Nat) (t : STab) (hbt : Byt t.vals) (hlt : t.vals.length < 2 ^ 31) {H0 H : Heap} {L : List It} (g : Star H0 H L) (ik ip : Nat) (hne : ik ≠ ip) {ck p : Nat} {op : Option Nat} {down : Bool} {ks : List Int} {l : List Pl} (hik : L[ik]? = some (itKept ck ks)) (hip : L[ip]? = some (itPl p op down l)) (hok : ∀ q, q ∈ l → q.ok)
  (cross : Bool) (a : Int) (ha : 0 ≤ a) (hodd : oddB t.vals a = true) :
  ∃ H', R (T k) F.ζ15 [stackV t, ptrV ck, ptrV p, .int .i64 a, .bool cross] H = .ok (.tuple #[]) H' ∧ Star H0 H' ((L.set ip (itPl p op down (moveS t.vals down cross ks a l).1)).set ik (itKept ck (moveS t.vals down cross ks a l).2)) := by
 have hkl := (List.getElem?_eq_some_iff.1 hik).1
 have hpl := (List.getElem?_eq_some_iff.1 hip).1
 have hks8 : ks.length ≤ 8 := by
  obtain ⟨_, _, h, _⟩ := g.at ik hik
  exact h
 have set0 : (L.set ip (itPl p op down l)).set ik (itKept ck ks) = L := by
  have e1 : L.set ip (itPl p op down l) = L := by
   obtain ⟨hlt, hx⟩ := List.getElem?_eq_some_iff.1 hip
   rw [← hx, List.set_getElem_self]
  rw [e1]
  obtain ⟨hlt, hx⟩ := List.getElem?_eq_some_iff.1 hik
  rw [← hx, List.set_getElem_self]
 have atK : ∀ l' ks', ((L.set ip (itPl p op down l')).set ik (itKept ck ks'))[ik]? = some (itKept ck ks') := fun l' ks' => List.getElem?_set_self (by simpa using hkl)
 have atP : ∀ l' ks', ((L.set ip (itPl p op down l')).set ik (itKept ck ks'))[ip]? = some (itPl p op down l') := fun l' ks' => by
  rw [List.getElem?_set_ne hne]
  exact List.getElem?_set_self hpl
 have setK : ∀ l' ks' ks'', ((L.set ip (itPl p op down l')).set ik (itKept ck ks')).set ik (itKept ck ks'') = (L.set ip (itPl p op down l')).set ik (itKept ck ks'') := fun l' ks' ks'' => List.set_set _
 have setP : ∀ l' l'' ks', ((L.set ip (itPl p op down l')).set ik (itKept ck ks')).set ip (itPl p op down l'') = (L.set ip (itPl p op down l'')).set ik (itKept ck ks') := fun l' l'' ks' => by
  rw [List.set_comm _ _ hne, List.set_set]
 have one : ∀ {H' : Heap} {l' : List Pl} {ks' : List Int} (j v : Int), (∀ q, q ∈ l' → q.ok) → Star H0 H' ((L.set ip (itPl p op down l')).set ik (itKept ck ks')) →
   ∃ H2, (if cross = false then R (T k) F.ζ1s [ptrV p, .int .i64 j, .int .i64 v] H' else if v = -32768 then R (T k) F.ζ1l [ptrV p, .int .i64 j] H' else R (T k) F.ζ1c [ptrV p, .int .i64 j, .int .i64 v] H') = .ok (.tuple #[]) H2 ∧
    Star H0 H2 ((L.set ip (itPl p op down (onePl down cross l' j v))).set ik (itKept ck ks')) := fun {H' l' ks'} j v hq st => by
  unfold onePl
  by_cases c : cross = false
  ·rw [if_pos c, if_pos c]
   obtain ⟨H2, e, st2⟩ := ζnu k st ip (atP _ _) hq j v
   rw [setP] at st2
   exact ⟨H2, e, st2⟩
  ·rw [if_neg c, if_neg c]
   by_cases c2 : v = -32768
   ·rw [if_pos c2, if_pos c2]
    obtain ⟨H2, e, st2⟩ := ζog k st ip (atP _ _) hq j
    rw [setP] at st2
    exact ⟨H2, e, st2⟩
   ·rw [if_neg c2, if_neg c2]
    obtain ⟨H2, e, st2⟩ := ζmw k st ip (atP _ _) hq j v
    rw [setP] at st2
    exact ⟨H2, e, st2⟩
 rw [ζd7]
 obtain ⟨xx, e', H1, hr1, rfl, hE, st⟩ := loop_up (body := ζ5a k (R (T k))) ks.length
  (fun j e H' => e = [(0, stackV t), (1, ptrV ck), (2, ptrV p), (3, .int .i64 (a + j)), (4, .bool cross)] ∧ ∃ l' : List Pl, (∀ q, q ∈ l' → q.ok) ∧ oddB t.vals (a + j) = true ∧ moveS t.vals down cross (ks.drop j) (a + j) l' = moveS t.vals down cross ks a l ∧ Star H0 H' ((L.set ip (itPl p op down l')).set ik (itKept ck (ks.drop j))))
  (fun xx e H' => xx = .ret ∧ ((∃ z v, e = [(0, stackV t), (1, ptrV ck), (2, ptrV p), (3, z), (4, .bool cross), (10, v), (22, .bool true)]) ∨ (∃ z, e = [(0, stackV t), (1, ptrV ck), (2, ptrV p), (3, z), (4, .bool cross), (51, .bool true)])) ∧ Star H0 H' ((L.set ip (itPl p op down (moveS t.vals down cross ks a l).1)).set ik (itKept ck (moveS t.vals down cross ks a l).2)))
  (e0 := [(0, stackV t), (1, ptrV ck), (2, ptrV p), (3, .int .i64 a), (4, .bool cross)]) (H0 := H) ⟨by simp, l, hok, by simpa using hodd, by simp, by rw [List.drop_zero, set0]; exact g⟩ (by omega)
  (fun j e H' hj ⟨he, l', hq, ho, hm, st⟩ => by
   subst he
   obtain ⟨x, hx⟩ : ∃ x, ks[j]? = some x := ⟨_, List.getElem?_eq_getElem hj⟩
   have hd : ks.drop j = x :: ks.drop (j + 1) := by rw [List.drop_eq_getElem_cons hj, (List.getElem?_eq_some_iff.1 hx).2]
   rw [hd] at st hm
   obtain ⟨H2, e2, st2⟩ := ζhj k st ik (atK _ _)
   rw [setK] at st2
   simp only [List.head?_cons, Option.getD_some, List.isEmpty_cons, Bool.not_false, List.tail_cons] at e2 st2
   obtain ⟨o1, o2, o3, o4⟩ := odd_next hbt (by omega) ho
   have hi16 := fun H' => I16_run k (Sl.lv H' 1 t.vals) hbt (2 * (a + j)) (by omega)
   rw [o2] at hi16
   have hi16 : ∀ H', R (T k) F.ζ3k [.agg #[lv encB t.vals], .int .i64 (2 * (a + j))] H' = .ok (.int .i64 (s16 (gU t.vals (2 * (a + j)) 2))) H' := hi16
   have hv : valV t.vals (a + j) = s16 (gU t.vals (2 * (a + j)) 2) - s16 (gU t.vals (2 * (a + j)) 2) % 2 := rfl
   have hlv : lastS t.vals (a + j) = decide (s16 (gU t.vals (2 * (a + j)) 2) % 2 = 1) := rfl
   have an1 := fun H => bin_and1 Prog 3 H (s16 (gU t.vals (2 * (a + j)) 2))
   have an2 := fun H => ζmy Prog 3 H (s16 (gU t.vals (2 * (a + j)) 2)) (by omega) (by omega)
   rw [← hv] at an2
   have hm : (if lastS t.vals (a + j) then (onePl down cross l' x (valV t.vals (a + j)), ks.drop (j + 1)) else moveS t.vals down cross (ks.drop (j + 1)) (a + j + 1) (onePl down cross l' x (valV t.vals (a + j)))) = moveS t.vals down cross ks a l := hm
   obtain ⟨H3, e3, st3⟩ := one x (valV t.vals (a + j)) hq st2
   have hq3 := onePl_ok hq down cross x (valV t.vals (a + j))
   have hvb : -32770 ≤ valV t.vals (a + j) ∧ valV t.vals (a + j) < 32768 := by rw [hv]; omega
   generalize valV t.vals (a + j) = vv at an2 hm e3 st3 hq3 hvb hv
   generalize s16 (gU t.vals (2 * (a + j)) 2) = sv at hi16 hlv an1 an2 o3 hv
   by_cases d : sv % 2 = 1
   ·rw [hlv, decide_eq_true d, if_pos rfl] at hm
    refine .inr ⟨.ret, _, H3, ?_, by simp, rfl, .inr ⟨.int .i64 (a + j), rfl⟩, by rw [← hm]; exact st3⟩
    rw [ζ45]
    cases cross with
    | false =>
     rw [if_pos rfl] at e3
     simp -implicitDefEqProofs (disch := omega) [e2, hi16, an2, e3, ζ1t, an1, d]
    | true =>
     rw [if_neg (by decide)] at e3
     by_cases d2 : vv = -32768
     ·rw [if_pos d2] at e3
      have d2' : (vv == -32768) = true := by rw [beq_iff_eq]; exact d2
      simp -implicitDefEqProofs (disch := omega) [e2, hi16, an2, d2', e3, ζ1t, an1, d]
     ·rw [if_neg d2] at e3
      have d2' : (vv == -32768) = false := by rw [beq_eq_false_iff_ne]; exact d2
      simp -implicitDefEqProofs (disch := omega) [e2, hi16, an2, d2', e3, ζ1t, an1, d]
   ·rw [hlv, decide_eq_false d, if_neg (by simp)] at hm
    have d' : (sv % 2 == 1) = false := by rw [beq_eq_false_iff_ne]; exact d
    have hj1 : a + ((j + 1 : Nat) : Int) = a + j + 1 := by omega
    refine .inl ⟨_, H3, ?_, rfl, onePl down cross l' x vv, hq3, by rw [hj1]; exact o4 (by rw [hlv, decide_eq_false d]), by rw [hj1]; exact hm, st3⟩
    rw [ζ45, hj1]
    cases cross with
    | false =>
     rw [if_pos rfl] at e3
     simp -implicitDefEqProofs (disch := omega) [e2, hi16, an2, e3, ζ1t, an1, d']
    | true =>
     rw [if_neg (by decide)] at e3
     by_cases d2 : vv = -32768
     ·rw [if_pos d2] at e3
      have d2' : (vv == -32768) = true := by rw [beq_iff_eq]; exact d2
      simp -implicitDefEqProofs (disch := omega) [e2, hi16, an2, d2', e3, ζ1t, an1, d']
     ·rw [if_neg d2] at e3
      have d2' : (vv == -32768) = false := by rw [beq_eq_false_iff_ne]; exact d2
      simp -implicitDefEqProofs (disch := omega) [e2, hi16, an2, d2', e3, ζ1t, an1, d'])
  (fun e H' ⟨he, l', hq, ho, hm, st⟩ => by
   subst he
   rw [List.drop_length] at st hm
   obtain ⟨H2, e2, st2⟩ := ζhj k st ik (atK _ _)
   rw [setK] at st2
   have hm : (l', ([] : List Int)) = moveS t.vals down cross ks a l := hm
   refine ⟨.ret, _, H2, ?_, by simp, rfl, .inl ⟨.int .i64 (a + ks.length), .int .i64 0, rfl⟩, by rw [← hm]; exact st2⟩
   rw [ζ45]
   simp -implicitDefEqProofs (disch := omega) [e2])
 refine ⟨H1, nrm_of ?_, st⟩
 rcases hE with ⟨z, v, rfl⟩ | ⟨z, rfl⟩
 ·simp -implicitDefEqProofs [ζ15, hr1, ζ9t]
 ·simp -implicitDefEqProofs [ζ15, hr1, ζ95]
end Go.Sw
end
section
namespace Go.Sw
open Go.RowKit
theorem ζpg (n : Nat) : n &&& 2 ^ 15 = if n.testBit 15 then 2 ^ 15 else 0 := by
 apply Nat.eq_of_testBit_eq
 intro i
 rw [Nat.testBit_and, Nat.testBit_two_pow]
 by_cases h : 15 = i
 ·subst h
  cases hb : n.testBit 15 <;> simp <;> decide
 ·cases hb : n.testBit 15
  ·simp [h]
  ·simp only [h, decide_false, Bool.and_false, if_true, Nat.testBit_two_pow]
theorem and15 (P : Program) (t : TypeId) (H : Heap) {a : Int} (h0 : 0 ≤ a) (h1 : a < 65536) : binR P .and t (.int .i64 a) (.int .i64 32768) H = .ok (.int .i64 (if a ≥ 32768 then 32768 else 0)) H := by
 have e : (BitVec.ofInt 64 a &&& BitVec.ofInt 64 32768).toNat = (if a ≥ 32768 then 32768 else 0) := by
  rw [BitVec.toNat_and, BitVec.toNat_ofInt, BitVec.toNat_ofInt]
  rw [show ((32768 : Int) % ((2 ^ 64 : Nat) : Int)).toNat = 2 ^ 15 from by decide, ζpg, Nat.testBit_eq_decide_div_mod_eq]
  obtain ⟨n, rfl⟩ := Int.eq_ofNat_of_zero_le h0
  rw [show (((n : Int)) % ((2 ^ 64 : Nat) : Int)).toNat = n by omega]
  by_cases h : (n : Int) ≥ 32768
  ·rw [if_pos h, decide_eq_true (show n / 2 ^ 15 % 2 = 1 by omega)]; rfl
  ·rw [if_neg h, decide_eq_false (show ¬ n / 2 ^ 15 % 2 = 1 by omega)]; rfl
 have e1 : binV P .and t (.int .i64 a) (.int .i64 32768) = some (.int .i64 (IntKind.i64.wrap (BitVec.ofInt 64 a &&& BitVec.ofInt 64 32768).toNat)) := rfl
 unfold binR
 rw [e1, e]
 by_cases h : a ≥ 32768
 ·simp [h]
 ·simp [h]
end Go.Sw
end
section
namespace Go.Sw
open Go.RowKit
theorem plainNew (k : Nat) (f : Fn) (a b : Array Value) (H : Heap) : R (T k) F.ζ5o [.func f a b] H = .ok (.func (.func F.ζ24) #[] #[ptrV H.n]) (H.push ⟨[.func f a b], 1, false⟩) := by
 rw [ζka]
 have e : ζ5o k (R (T k)) (.func f a b) H = .ok (.func (.func F.ζ24) #[] #[ptrV H.n]) (H.push ⟨[.func f a b], 1, false⟩) := by
  simp -implicitDefEqProofs [ζ5o]
 rw [e]
 have dead : ¬ Alive H (.func (.func F.ζ24) #[] #[ptrV H.n]) := fun h => by
  cases h with
  | func fn xs ys h1 h2 =>
   have := h2 0 (ptrV H.n) rfl
   cases this with
   | ptr b off k hg => have := Heap.get_lt hg; omega
 unfold nrm
 exact if_neg fun hc => dead hc.2
end Go.Sw
end
section
namespace Go.Sw
open Go.RowKit
theorem veq_Ens (l : List En) : veq (lv encEn l) (lv encEn l) = true := veq_lv fun p _ v hv => by
 simp [encEn] at hv
 rcases hv with rfl | rfl | rfl | rfl <;> simp
theorem veq_Is (l : List Int) : veq (lv encI l) (lv encI l) = true := veq_lv fun p _ v hv => by
 simp [encI] at hv
 subst hv; simp
theorem veq_Rows (l : List (List Int)) : veq (lv encRow l) (lv encRow l) = true := veq_lv fun p _ v hv => by
 simp [encRow] at hv
 subst hv; exact veq_Is p
theorem veq_mach (m : Mach) : veq (machV m) (machV m) = true := veq_boxV (l := [.int .i64 m.classes, tabV m.tab, lv encRow m.rows, lv encEn m.ents]) fun v hv => by
 simp at hv
 rcases hv with rfl | rfl | rfl | rfl
 ·simp
 ·exact veq_tab _
 ·exact veq_Rows _
 ·exact veq_Ens _
end Go.Sw
end
section
namespace Go.Sw
open Go.RowKit
theorem ζqx (t : STab) : veq (stackV t) (stackV t) = true := veq_boxV (l := stackC t) fun v hv => by
 simp [stackC] at hv
 rcases hv with rfl | rfl
 ·exact veq_mach _
 ·exact veq_B _
def stackW (t : STab) (L : List It) (ip p : Nat) (op : Option Nat) (down : Bool) (c ck p3 p4 p5 p6 : Nat) (cross : Bool) (s : List Pl × List Int) : List It :=
 L.set ip (itPl p op down s.1) ++ [itKept ck s.2, itBlk p3 ⟨[ptrV c], 1, false⟩, itBlk p4 ⟨[stackV t], 1, false⟩, itBlk p5 ⟨[ptrV p], 1, false⟩, itBlk p6 ⟨[.bool cross], 1, false⟩]
set_option maxHeartbeats 1000000 in
/-- What is asked of what is kept, and the move. -/
theorem stack_tail (k : Nat) (t : STab) (ht : t.ok) {H0 H : Heap} {Q : List It} (ik ip : Nat) (hne : ik ≠ ip) {ck p p4 p5 p6 q : Nat} {op : Option Nat} {down cross : Bool} {ks : List Int} {l : List Pl} {e : En} (he : e ∈ t.m.ents)
  (st : Star H0 H Q) (hik : Q[ik]? = some (itKept ck ks)) (hip : Q[ip]? = some (itPl p op down l)) (hok : ∀ q, q ∈ l → q.ok)
  (h4 : H.get p4 = some ⟨[stackV t], 1, false⟩) (h5 : H.get p5 = some ⟨[ptrV p], 1, false⟩) (h6 : H.get p6 = some ⟨[.bool cross], 1, false⟩) (hq : H.get q = some ⟨encEn e, 1, false⟩) :
  ∃ H', ζ2a k (R (T k)) (ptrV ck) (ptrV p4) (ptrV p5) (ptrV p6) (ptrV q) H = .ok (.tuple #[]) H' ∧ (∀ a0 a23, ζ2b k (R (T k)) a0 (ptrV ck) (ptrV p4) (ptrV p5) (ptrV p6) (ptrV q) a23 H = .ok (.tuple #[]) H') ∧
   Star H0 H' ((Q.set ip (itPl p op down (if e.a = 65535 then (l, ks) else moveS t.vals down cross ks e.a l).1)).set ik (itKept ck (if e.a = 65535 then (l, ks) else moveS t.vals down cross ks e.a l).2)) := by
 have hent := ht.m.ent e he
 by_cases ha : e.a = 65535
 ·have ha' : (e.a != 65535) = false := by rw [ha]; rfl
  rw [if_pos ha]
  refine ⟨H, ?_, fun a0 a23 => ?_, ?_⟩
  ·rw [ζ4w]
   simp -implicitDefEqProofs (disch := omega) [hq, ha']
  ·rw [ζ4x]
   simp -implicitDefEqProofs (disch := omega) [hq, ha']
  ·have e1 : Q.set ip (itPl p op down l) = Q := by
    obtain ⟨hlt, hx⟩ := List.getElem?_eq_some_iff.1 hip
    rw [← hx, List.set_getElem_self]
   dsimp only
   rw [e1]
   obtain ⟨hlt, hx⟩ := List.getElem?_eq_some_iff.1 hik
   rw [← hx, List.set_getElem_self]
   exact st
 ·have ha' : (e.a != 65535) = true := by rw [bne_iff_ne]; exact ha
  rw [if_neg ha]
  obtain ⟨H', e1, st2⟩ := ζk2 k t ht.byt ht.len st ik ip hne hik hip hok cross e.a (by omega) ((ht.has e he).resolve_left ha)
  refine ⟨H', ?_, fun a0 a23 => ?_, st2⟩
  ·rw [ζ4w]
   simp -implicitDefEqProofs (disch := omega) [hq, ha', h4, h5, h6, e1]
  ·rw [ζ4x]
   simp -implicitDefEqProofs (disch := omega) [hq, ha', h4, h5, h6, e1]
abbrev zeroK : Value := .agg #[.int .i64 0, .int .i64 0, .int .i64 0, .int .i64 0, .int .i64 0, .int .i64 0, .int .i64 0, .int .i64 0, .int .i64 0]
theorem ζjt {H0 H : Heap} {L : List It} (g : Star H0 H L) (i : Nat) {c : Nat} {ks : List Int} (hi : L[i]? = some (itKept c ks)) :
  ∃ H', stR 9 (ptrV c) zeroK H = .ok undef H' ∧ Star H0 H' (L.set i (itKept c [])) := by
 have hlt := (List.getElem?_eq_some_iff.1 hi).1
 obtain ⟨xs, h1, h2, h3, h4⟩ := g.at i hi
 have g1 := g.same i hi (itBlk c ⟨keptC xs ks.length, 1, false⟩) h4 fun b hb => hb
 have self : ∀ kk : Blk, (L.set i (itBlk c kk))[i]? = some (itBlk c kk) := fun kk => List.getElem?_set_self hlt
 have g2 := g1.setBlk i (self _) ⟨keptC [0, 0, 0, 0, 0, 0, 0, 0] 0, 1, false⟩
 rw [List.set_set] at g2
 have g3 := g2.same i (self _) (itKept c []) ⟨[0, 0, 0, 0, 0, 0, 0, 0], rfl, by simp, rfl, g2.get i (self _)⟩ fun b hb => hb
 rw [List.set_set] at g3
 refine ⟨_, ?_, g3⟩
 have hl : (keptC xs ks.length).length = 9 := by simp [h1]
 obtain ⟨x0, x1, x2, x3, x4, x5, x6, x7, hxs⟩ : ∃ x0 x1 x2 x3 x4 x5 x6 x7 : Int, xs = [x0, x1, x2, x3, x4, x5, x6, x7] := by
  match xs, h1 with
  | [x0, x1, x2, x3, x4, x5, x6, x7], _ => exact ⟨x0, x1, x2, x3, x4, x5, x6, x7, rfl⟩
 rw [hxs] at h4
 rw [stR_ptr, if_pos ⟨rfl, rfl⟩]
 unfold putCells
 rw [h4]
 rfl
set_option maxHeartbeats 1000000 in
theorem stack_do (k : Nat) (t : STab) (ht : t.ok) (L : List It) (il ip c p ck p3 p4 p5 p6 : Nat) (o op : Option Nat) (down cross : Bool) (hip : ip < L.length) (gl : List Gl) (hil : L[il]? = some (itLine c o gl)) (hne : il ≠ ip) {H0 : Heap} :
  DoOk k t.m H0 (stackW t L ip p op down c ck p3 p4 p5 p6 cross) (fun s => ∀ q, q ∈ s.1 → q.ok) (.func (.func F.ζ6) #[] #[ptrV ck, ptrV p3, ptrV p4, ptrV p5, ptrV p6]) (doSt t (gl.length : Int) down cross) := by
 intro s j e H X hI st h0 h1 he
 have hok' := doSt_ok t (gl.length : Int) down cross hI j e
 obtain ⟨l, ks⟩ := s
 dsimp only at hI
 have heb := ht.m.ent e he
 have hill := (List.getElem?_eq_some_iff.1 hil).1
 unfold stackW at st
 dsimp only at st
 obtain ⟨B, hB⟩ : ∃ B : List It, B = [itBlk p3 ⟨[ptrV c], 1, false⟩, itBlk p4 ⟨[stackV t], 1, false⟩, itBlk p5 ⟨[ptrV p], 1, false⟩, itBlk p6 ⟨[.bool cross], 1, false⟩] ++ (X ++ [itBlk H.n ⟨encEn e, 1, false⟩]) := ⟨_, rfl⟩
 obtain ⟨S, hS⟩ : ∃ S : List Pl → List Int → List It, S = fun l' k' => L.set ip (itPl p op down l') ++ itKept ck k' :: B := ⟨_, rfl⟩
 have hSv : ∀ l' k', S l' k' = L.set ip (itPl p op down l') ++ itKept ck k' :: B := fun _ _ => by rw [hS]
 have hkx : ∀ l' k', (S l' k')[L.length]? = some (itKept ck k') := fun l' k' => by
  rw [hSv, List.getElem?_append_right (by simp)]
  simp
 have hpx : ∀ l' k', (S l' k')[ip]? = some (itPl p op down l') := fun l' k' => by
  rw [hSv, List.getElem?_append_left (by simpa using hip), List.getElem?_set_self hip]
 have hlx : ∀ l' k', (S l' k')[il]? = some (itLine c o gl) := fun l' k' => by
  rw [hSv, List.getElem?_append_left (by simpa using hill), List.getElem?_set_ne (fun h => hne h.symm)]
  exact hil
 have setK : ∀ l' k' k'', (S l' k').set L.length (itKept ck k'') = S l' k'' := fun l' k' k'' => by
  rw [hSv, hSv, List.set_append_right _ _ (by simp)]
  simp
 have setP : ∀ l' l'' k', (S l' k').set ip (itPl p op down l'') = S l'' k' := fun l' l'' k' => by
  rw [hSv, hSv, List.set_append_left _ _ (by simpa using hip), List.set_set]
 have look : ∀ {H' : Heap} {l' k'}, Star H0 H' (S l' k') → H'.get p3 = some ⟨[ptrV c], 1, false⟩ ∧ H'.get p4 = some ⟨[stackV t], 1, false⟩ ∧ H'.get p5 = some ⟨[ptrV p], 1, false⟩ ∧ H'.get p6 = some ⟨[.bool cross], 1, false⟩ ∧ H'.get H.n = some ⟨encEn e, 1, false⟩ ∧ R (T k) F.ζ2z [ptrV c] H' = .ok (.int .i64 gl.length) H' := fun {H' l' k'} h => by
  have hl := ζj5 k h il (hlx _ _)
  rw [hSv, hB] at h
  exact ⟨h.memBlk (by simp), h.memBlk (by simp), h.memBlk (by simp), h.memBlk (by simp), h.memBlk (by simp), hl⟩
 have st2 : Star H0 (H.push ⟨encEn e, 1, false⟩) (S l ks) := by
  have := st.push ⟨encEn e, 1, false⟩
  rw [hSv, hB]
  simpa using this
 have fin : ∀ {H' : Heap} {l' k'}, Star H0 H' (S l' k') → Star H0 H' (stackW t L ip p op down c ck p3 p4 p5 p6 cross (l', k') ++ X) := fun {H' l' k'} h => by
  rw [hSv, hB] at h
  have e1 : L.set ip (itPl p op down l') ++ itKept ck k' :: ([itBlk p3 ⟨[ptrV c], 1, false⟩, itBlk p4 ⟨[stackV t], 1, false⟩, itBlk p5 ⟨[ptrV p], 1, false⟩, itBlk p6 ⟨[.bool cross], 1, false⟩] ++ (X ++ [itBlk H.n ⟨encEn e, 1, false⟩])) = (stackW t L ip p op down c ck p3 p4 p5 p6 cross (l', k') ++ X) ++ [itBlk H.n ⟨encEn e, 1, false⟩] := by
   unfold stackW
   simp
  rw [e1] at h
  exact h.ζjo
 have ha15 := fun H => and15 Prog 3 H heb.2.2.1 heb.2.2.2.1
 have ha13 := fun H => and13 Prog 3 H heb.2.2.1 heb.2.2.2.1
 obtain ⟨v3, v4, v5, v6, v7, v8⟩ := look st2
 clear st
 -- all is forgotten
 obtain ⟨k1, hk1⟩ : ∃ k1, k1 = if e.flags / 8192 % 2 = 1 then [] else ks := ⟨_, rfl⟩
 obtain ⟨k2, hk2⟩ : ∃ k2, k2 = if e.flags ≥ 32768 ∧ j < (gl.length : Int) then (j :: k1).take 8 else k1 := ⟨_, rfl⟩
 have hdo : doSt t (gl.length : Int) down cross (l, ks) j e = if e.a = 65535 then (l, k2) else moveS t.vals down cross k2 e.a l := by
  unfold doSt
  rw [hk2, hk1]
 -- the last part
 have tail : ∀ {H' : Heap}, Star H0 H' (S l k2) → ∃ H'', ζ2a k (R (T k)) (ptrV ck) (ptrV p4) (ptrV p5) (ptrV p6) (ptrV H.n) H' = .ok (.tuple #[]) H'' ∧ (∀ a0 a23, ζ2b k (R (T k)) a0 (ptrV ck) (ptrV p4) (ptrV p5) (ptrV p6) (ptrV H.n) a23 H' = .ok (.tuple #[]) H'') ∧ Star H0 H'' (stackW t L ip p op down c ck p3 p4 p5 p6 cross (doSt t (gl.length : Int) down cross (l, ks) j e) ++ X) := fun {H'} h => by
  obtain ⟨_, w4, w5, w6, w7, _⟩ := look h
  obtain ⟨H'', t1, t2, t3⟩ := stack_tail k t ht L.length ip (by omega) he h (hkx _ _) (hpx _ _) hI w4 w5 w6 w7
  rw [setP, setK, ← hdo] at t3
  exact ⟨H'', t1, t2, fin t3⟩
 -- a place is kept
 have mid : ∀ {H' : Heap}, Star H0 H' (S l k1) → ∃ H'', ζ43 k (R (T k)) (.int .i64 j) (ptrV ck) (ptrV p3) (ptrV p4) (ptrV p5) (ptrV p6) (ptrV H.n) H' = .ok (.tuple #[]) H'' ∧ (∀ a12, ζ44 k (R (T k)) (.int .i64 j) (ptrV ck) (ptrV p3) (ptrV p4) (ptrV p5) (ptrV p6) (ptrV H.n) a12 H' = .ok (.tuple #[]) H'') ∧ Star H0 H'' (stackW t L ip p op down c ck p3 p4 p5 p6 cross (doSt t (gl.length : Int) down cross (l, ks) j e) ++ X) := fun {H'} h => by
  obtain ⟨w3, w4, w5, w6, w7, w8⟩ := look h
  by_cases d2 : e.flags ≥ 32768
  ·rw [if_pos d2] at ha15
   by_cases d3 : j < (gl.length : Int)
   ·rw [if_pos ⟨d2, d3⟩] at hk2
    obtain ⟨H2, e2, h2⟩ := ζkh k h L.length (hkx _ _) j
    rw [setK, ← hk2] at h2
    obtain ⟨H3, t1, _, t3⟩ := tail h2
    refine ⟨H3, ?_, fun a12 => ?_, t3⟩
    ·rw [ζ3g]
     simp -implicitDefEqProofs (disch := omega) [w7, ha15, bne, w3, w8, d3, e2, t1]
    ·rw [ζ3h]
     simp -implicitDefEqProofs (disch := omega) [w7, ha15, bne, w3, w8, d3, e2, t1]
   ·rw [if_neg fun h => d3 h.2] at hk2
    rw [← hk2] at h
    obtain ⟨H3, _, t1, t3⟩ := tail h
    refine ⟨H3, ?_, fun a12 => ?_, t3⟩
    ·rw [ζ3g]
     simp -implicitDefEqProofs (disch := omega) [w7, ha15, bne, w3, w8, d3, t1]
    ·rw [ζ3h]
     simp -implicitDefEqProofs (disch := omega) [w7, ha15, bne, w3, w8, d3, t1]
  ·rw [if_neg d2] at ha15
   rw [if_neg fun h => d2 h.1] at hk2
   rw [← hk2] at h
   obtain ⟨H3, _, t1, t3⟩ := tail h
   refine ⟨H3, ?_, fun a12 => ?_, t3⟩
   ·rw [ζ3g]
    simp -implicitDefEqProofs (disch := omega) [w7, ha15, bne, t1]
   ·rw [ζ3h]
    simp -implicitDefEqProofs (disch := omega) [w7, ha15, bne, t1]
 by_cases d1 : e.flags / 8192 % 2 = 1
 ·rw [if_pos d1] at hk1 ha13
  obtain ⟨H1, e1, h1⟩ := ζjt st2 L.length (hkx _ _)
  rw [setK, ← hk1] at h1
  obtain ⟨H2, m1, _, m3⟩ := mid h1
  refine ⟨.tuple #[], H2, ?_, m3, hok'⟩
  simp only [callV, List.nil_append, List.cons_append]
  rw [ζ6m, nrm_of]
  simp -implicitDefEqProofs (disch := omega) [-stR_ptr, ζ6, v7, ha13, bne, e1, m1]
 ·rw [if_neg d1] at hk1 ha13
  rw [← hk1] at st2
  obtain ⟨H2, _, m1, m3⟩ := mid st2
  refine ⟨.tuple #[], H2, ?_, m3, hok'⟩
  simp only [callV, List.nil_append, List.cons_append]
  rw [ζ6m, nrm_of]
  simp -implicitDefEqProofs (disch := omega) [-stR_ptr, ζ6, v7, ha13, bne, m1]
theorem Star.perm {H0 H : Heap} {L L' : List It} (h : Star H0 H L) (hp : L.Perm L') : Star H0 H L' := by
 have hpw : L.Pairwise fun x y => ∀ b, b ∈ x.o → b ∉ y.o := List.pairwise_iff_getElem.2 fun i j hi hj hij b hb => h.2.2 i j _ _ (by omega) (List.getElem?_eq_getElem hi) (List.getElem?_eq_getElem hj) b hb
 have hpw' := (hp.pairwise_iff (fun {x y} hxy b hb hb2 => hxy b hb2 hb)).1 hpw
 refine ⟨h.1, fun i x hx => ?_, fun i j x y hij hx hy b hb => ?_⟩
 ·obtain ⟨j, hj⟩ := List.getElem?_of_mem (hp.mem_iff.2 (List.mem_of_getElem? hx))
  exact h.2.1 j x hj
 ·obtain ⟨hi, rfl⟩ := List.getElem?_eq_some_iff.1 hx
  obtain ⟨hj, rfl⟩ := List.getElem?_eq_some_iff.1 hy
  rcases Nat.lt_or_gt_of_ne hij with hlt | hgt
  ·exact List.pairwise_iff_getElem.1 hpw' i j hi hj hlt b hb
  ·exact fun hb2 => List.pairwise_iff_getElem.1 hpw' j i hj hi hgt b hb2 hb
def runStr (t : STab) (gl : List Gl) (down cross : Bool) (l : List Pl) : Int × Int × (List Pl × List Int) :=
 runD t.m (fun _ : List Pl × List Int => gl) (fun s i e => (doSt t (gl.length : Int) down cross s i e, i, i + 1)) (2 * (gl.length : Int) + 128) (2 * gl.length + 128) ((l, []), ⟨0, 0, 0, 0⟩)
def runSt (t : STab) (gl : List Gl) (down cross : Bool) (l : List Pl) : List Pl × Int := ((runStr t gl down cross l).2.2.1, (runStr t gl down cross l).2.1)
set_option maxHeartbeats 1000000 in
theorem ζl7 (k : Nat) (t : STab) (ht : t.ok) {H0 H : Heap} {L : List It} (h : Star H0 H L) (il ip : Nat) (hne : il ≠ ip) {c p : Nat} {o op : Option Nat} {down : Bool} (cross : Bool) {gl : List Gl} {l : List Pl} (hil : L[il]? = some (itLine c o gl)) (hip : L[ip]? = some (itPl p op down l)) (hl : gl.length < 2 ^ 40) (hok : ∀ q, q ∈ l → q.ok) :
  ∃ H', R (T k) F.ζ3s [stackV t, ptrV c, ptrV p, .bool cross] H = .ok (.int .i64 (runSt t gl down cross l).2) H' ∧ Star H0 H' (L.set ip (itPl p op down (runSt t gl down cross l).1)) := by
 have hlt := (List.getElem?_eq_some_iff.1 hip).1
 have hll := (List.getElem?_eq_some_iff.1 hil).1
 have same : L.set ip (itPl p op down l) = L := by
  obtain ⟨hlt, hx⟩ := List.getElem?_eq_some_iff.1 hip
  rw [← hx, List.set_getElem_self]
 have st := (((h.push ⟨[stackV t], 1, false⟩).push ⟨[ptrV c], 1, false⟩).push ⟨[ptrV p], 1, false⟩).push ⟨[.bool cross], 1, false⟩
 have st := st.push ⟨keptC [0, 0, 0, 0, 0, 0, 0, 0] 0, 1, false⟩
 simp only [hn_push] at st
 obtain ⟨H5, hH5⟩ : ∃ H5, H5 = ((((H.push ⟨[stackV t], 1, false⟩).push ⟨[ptrV c], 1, false⟩).push ⟨[ptrV p], 1, false⟩).push ⟨[.bool cross], 1, false⟩).push ⟨keptC [0, 0, 0, 0, 0, 0, 0, 0] 0, 1, false⟩ := ⟨_, rfl⟩
 rw [← hH5] at st
 have hn5 : H5.n = H.n + 5 := by rw [hH5]; simp
 have ik : (L ++ [itBlk H.n ⟨[stackV t], 1, false⟩] ++ [itBlk (H.n + 1) ⟨[ptrV c], 1, false⟩] ++ [itBlk (H.n + 2) ⟨[ptrV p], 1, false⟩] ++ [itBlk (H.n + 3) ⟨[.bool cross], 1, false⟩] ++ [itBlk (H.n + 4) ⟨keptC [0, 0, 0, 0, 0, 0, 0, 0] 0, 1, false⟩])[L.length + 4]? = some (itBlk (H.n + 4) ⟨keptC [0, 0, 0, 0, 0, 0, 0, 0] 0, 1, false⟩) := by
  rw [List.getElem?_append_right (by simp)]
  simp
 have st := st.same (L.length + 4) ik (itKept (H.n + 4) []) ⟨[0, 0, 0, 0, 0, 0, 0, 0], rfl, by simp, rfl, st.get _ ik⟩ fun b hb => hb
 have eset : ∀ (x1 x2 x3 x4 x5 y : It), (L ++ [x1] ++ [x2] ++ [x3] ++ [x4] ++ [x5]).set (L.length + 4) y = L ++ ([x1, x2, x3, x4] ++ [y]) := fun x1 x2 x3 x4 x5 y => by
  rw [List.set_append_right _ _ (by simp)]
  simp
 rw [eset] at st
 have st : Star H0 H5 (stackW t L ip p op down c (H.n + 4) (H.n + 1) H.n (H.n + 2) (H.n + 3) cross (l, [])) := by
  refine st.perm ?_
  unfold stackW
  dsimp only
  rw [same]
  refine List.Perm.append_left L ?_
  exact List.perm_append_comm.trans (List.Perm.cons _ (List.Perm.swap _ _ _))
 have ePl := plainNew k (.func F.ζ6) #[] #[ptrV (H.n + 4), ptrV (H.n + 1), ptrV H.n, ptrV (H.n + 2), ptrV (H.n + 3)] H5
 have st4 := st.push ⟨[.func (.func F.ζ6) #[] #[ptrV (H.n + 4), ptrV (H.n + 1), ptrV H.n, ptrV (H.n + 2), ptrV (H.n + 3)]], 1, false⟩
 have hact := plain_ok k (stack_do k t ht L il ip c p (H.n + 4) (H.n + 1) H.n (H.n + 2) (H.n + 3) o op down cross hlt gl hil hne (H0 := H0)) H5.n
 obtain ⟨H7, eR, st5, _⟩ := ζk9 k t.m ht.m (fun s : List Pl × List Int => stackW t L ip p op down c (H.n + 4) (H.n + 1) H.n (H.n + 2) (H.n + 3) cross s ++ [itBlk H5.n ⟨[.func (.func F.ζ6) #[] #[ptrV (H.n + 4), ptrV (H.n + 1), ptrV H.n, ptrV (H.n + 2), ptrV (H.n + 3)]], 1, false⟩]) (fun s => ∀ q, q ∈ s.1 → q.ok) (fun _ => gl) c
  (fun s => ⟨il, o, by
   unfold stackW
   rw [List.append_assoc, List.getElem?_append_left (by simpa using hll), List.getElem?_set_ne (fun h => hne h.symm)]
   exact hil⟩) _ _ hact [] (l, []) hok (by simpa [List.append_assoc] using st4) hl
 have hr : runD t.m (fun _ : List Pl × List Int => gl) (fun s i e => (doSt t (gl.length : Int) down cross s i e, i, i + 1)) (2 * (gl.length : Int) + 128) (2 * gl.length + 128) ((l, []), ⟨0, 0, 0, 0⟩) = runStr t gl down cross l := by unfold runStr; rfl
 rw [hr] at eR st5
 have b0 := st4.memBlk (c := H.n) (k := ⟨[stackV t], 1, false⟩) (by unfold stackW; simp)
 have b1 := st4.memBlk (c := H.n + 1) (k := ⟨[ptrV c], 1, false⟩) (by unfold stackW; simp)
 refine ⟨H7, ?_, ?_⟩
 ·rw [ζg8, nrm_of]
  have v1 := ζqx t
  have v2 := veq_mach t.m
  unfold runSt
  generalize runStr t gl down cross l = r at eR ⊢
  rw [hH5] at ePl eR b0 b1
  have hz : keptC [0, 0, 0, 0, 0, 0, 0, 0] 0 = [.int .i64 0, .int .i64 0, .int .i64 0, .int .i64 0, .int .i64 0, .int .i64 0, .int .i64 0, .int .i64 0, .int .i64 0] := rfl
  rw [hz] at ePl eR b0 b1
  simp only [hn_push] at ePl eR
  have n2 : H.n + 1 + 1 = H.n + 2 := rfl
  have n3 : H.n + 2 + 1 = H.n + 3 := rfl
  have n4 : H.n + 3 + 1 = H.n + 4 := rfl
  simp -implicitDefEqProofs (disch := omega) [ζ3s, n2, n3, n4, ePl, eR, v1, v2]
 ·unfold runSt
  generalize runStr t gl down cross l = r at st5 ⊢
  unfold stackW at st5
  have := st5.take L.length
  rw [List.append_assoc, List.append_assoc, List.take_append_of_le_length (by simp), List.take_of_length_le (by simp)] at this
  exact this
end Go.Sw
end
section
namespace Go.Sw
open Go.RowKit
theorem uS_fits {b : List Int} {i n x : Int} (h : uS b i n = some x) : 0 ≤ i ∧ i + n ≤ b.length := by
 unfold uS pieceS at h
 split at h
 ·omega
 ·simp at h
theorem ζlq (k : Nat) {vs : List Int} (hb : Byt vs) (hl : vs.length < 2 ^ 31) {p q : Nat} {e : En} (he : 0 ≤ e.a ∧ e.a < 65536) {m : Value} (a22 a23 a24 : Value) {H : Heap} (hp : H.get p = some ⟨[m, lv encB vs], 1, false⟩) (hq : H.get q = some ⟨encEn e, 1, false⟩) :
  (∃ z, loopN (ζ4y k (R (T k))) loopFuel [(5, ptrV p), (7, ptrV q), (8, .int .i64 e.a), (22, a22), (23, a23), (24, a24)] H = .ok (.exit 2, [(5, ptrV p), (7, ptrV q), (8, z), (22, a22), (23, a23), (24, a24), (43, .bool false)]) H ∧ entOdd vs e = true) ∨
  (loopN (ζ4y k (R (T k))) loopFuel [(5, ptrV p), (7, ptrV q), (8, .int .i64 e.a), (22, a22), (23, a23), (24, a24)] H = .panic failV H ∧ entOdd vs e = false) := by
 by_cases c : e.a = 65535
 ·left
  have hE : entOdd vs e = true := by unfold entOdd; rw [decide_eq_true c]; rfl
  have c' : (e.a != 65535) = false := by rw [c]; rfl
  obtain ⟨xx, e', H1, hr1, rfl, rfl, rfl⟩ := loop_up (body := ζ4y k (R (T k))) 0
   (fun j e' H' => e' = [(5, ptrV p), (7, ptrV q), (8, .int .i64 e.a), (22, a22), (23, a23), (24, a24)] ∧ H' = H)
   (fun xx e' H' => xx = .exit 2 ∧ e' = [(5, ptrV p), (7, ptrV q), (8, .int .i64 e.a), (22, a22), (23, a23), (24, a24), (43, .bool false)] ∧ H' = H)
   (e0 := [(5, ptrV p), (7, ptrV q), (8, .int .i64 e.a), (22, a22), (23, a23), (24, a24)]) (H0 := H) ⟨rfl, rfl⟩ (by omega) (fun j e' H' hj _ => by omega)
   (fun e' H' ⟨he', hH⟩ => by
    subst he' hH
    refine ⟨.exit 2, _, _, ?_, by simp, rfl, rfl, rfl⟩
    rw [ζ46]
    simp -implicitDefEqProofs (disch := omega) [hq, c'])
  exact ⟨_, hr1, hE⟩
 ·have c' : (e.a != 65535) = true := by rw [bne_iff_ne]; exact c
  have hU := fun i H' => U16_run k (H := H') (Sl.lv H' 1 vs) hb i (by omega)
  have hEv : entOdd vs e = oddB vs e.a := by unfold entOdd; rw [decide_eq_false c]; rfl
  have and1 := fun H x => bin_and1 Prog 3 H x
  rcases loop_upP (body := ζ4y k (R (T k))) vs.length
   (fun j e' H' => e' = [(5, ptrV p), (7, ptrV q), (8, .int .i64 (e.a + j)), (22, a22), (23, a23), (24, a24)] ∧ H' = H ∧ ∀ i : Nat, e.a ≤ i → (i : Int) < e.a + j → ¬ gU vs (2 * (i : Int)) 2 % 2 = 1)
   (fun xx e' H' => xx = .exit 2 ∧ (∃ z, e' = [(5, ptrV p), (7, ptrV q), (8, z), (22, a22), (23, a23), (24, a24), (43, .bool false)]) ∧ H' = H ∧ entOdd vs e = true)
   (fun v H' => v = failV ∧ H' = H ∧ entOdd vs e = false)
   (fun j e' H' hj ⟨he', hH, hno⟩ => by
    subst he' hH
    cases hu : uS vs (2 * (e.a + j)) 2 with
    | none =>
     have h16 := hU (2 * (e.a + j)) H'
     rw [hu] at h16
     refine .inr (.inr ⟨failV, H', ?_, rfl, rfl, ?_⟩)
     ·rw [ζ46]
      simp -implicitDefEqProofs (disch := omega) [hq, c', hp, h16, orF]
     ·rw [hEv, Bool.eq_false_iff]
      intro ho
      obtain ⟨i, i1, i2, i3⟩ := oddB_iff.1 ho
      by_cases hij : (i : Int) < e.a + j
      ·exact hno i i1 hij i3
      ·unfold uS pieceS at hu
       rw [if_pos ⟨by omega, by omega, by omega, by omega⟩] at hu
       simp at hu
    | some x =>
     have h16 := hU (2 * (e.a + j)) H'
     rw [hu] at h16
     have hg := gU_some hu
     have hxb := uS_two hb hu
     by_cases d : x % 2 = 1
     ·have d' : (x % 2 == 0) = false := by rw [beq_eq_false_iff_ne]; omega
      refine .inr (.inl ⟨.exit 2, _, H', ?_, by simp, rfl, ⟨.int .i64 (e.a + j), rfl⟩, rfl, ?_⟩)
      ·rw [ζ46]
       simp -implicitDefEqProofs (disch := omega) [hq, c', hp, h16, orF, and1, d']
      ·rw [hEv]
       refine oddB_iff.2 ⟨(e.a + j).toNat, by omega, ?_, ?_⟩
       ·have := uS_fits hu
        omega
       ·rw [show (((e.a + j).toNat : Nat) : Int) = e.a + j by omega, hg]
        exact d
     ·have d' : (x % 2 == 0) = true := by rw [beq_iff_eq]; omega
      have hj1 : e.a + ((j + 1 : Nat) : Int) = e.a + j + 1 := by omega
      refine .inl ⟨_, H', ?_, rfl, rfl, fun i i1 i2 => ?_⟩
      ·rw [ζ46, hj1]
       simp -implicitDefEqProofs (disch := omega) [hq, c', hp, h16, orF, and1, d']
      ·by_cases hij : (i : Int) < e.a + j
       ·exact hno i i1 hij
       ·rw [show (i : Int) = e.a + j by omega, hg]
        omega)
   (fun e' H' ⟨he', hH, hno⟩ => by
    subst he' hH
    have hu : uS vs (2 * (e.a + vs.length)) 2 = none := by
     cases h : uS vs (2 * (e.a + vs.length)) 2 with
     | none => rfl
     | some x =>
      have := uS_fits h
      omega
    have h16 := hU (2 * (e.a + vs.length)) H'
    rw [hu] at h16
    refine .inr ⟨failV, H', ?_, rfl, rfl, ?_⟩
    ·rw [ζ46]
     simp -implicitDefEqProofs (disch := omega) [hq, c', hp, h16, orF]
    ·rw [hEv, Bool.eq_false_iff]
     intro ho
     obtain ⟨i, i1, i2, i3⟩ := oddB_iff.1 ho
     exact hno i i1 (by omega) i3) loopFuel 0 [(5, ptrV p), (7, ptrV q), (8, .int .i64 e.a), (22, a22), (23, a23), (24, a24)] H (Nat.zero_le _) (by unfold loopFuel; omega) ⟨by simp, rfl, fun i i1 i2 => by omega⟩ with ⟨xx, e', H1, hr, rfl, ⟨z, rfl⟩, rfl, hE⟩ | ⟨v, H1, hr, rfl, rfl, hE⟩
  ·exact .inl ⟨z, hr, hE⟩
  ·exact .inr ⟨hr, hE⟩
theorem ζlp (k : Nat) {vs : List Int} (hb : Byt vs) (hl : vs.length < 2 ^ 31) {p : Nat} {es : List En} (hes : ∀ e, e ∈ es → 0 ≤ e.a ∧ e.a < 65536) (hel : es.length < 2 ^ 40) {m : Value} {H : Heap} (hp : H.get p = some ⟨[m, lv encB vs], 1, false⟩) :
  (∃ z H', loopN (ζ64 k (R (T k))) loopFuel [(5, ptrV p), (22, lv encEn es), (23, .int .i64 es.length), (24, .int .i64 0)] H = .ok (.exit 0, [(5, ptrV p), (22, lv encEn es), (23, .int .i64 es.length), (24, z), (25, .bool false)]) H' ∧ Ext H H' ∧ es.all (entOdd vs) = true) ∨
  (∃ H', loopN (ζ64 k (R (T k))) loopFuel [(5, ptrV p), (22, lv encEn es), (23, .int .i64 es.length), (24, .int .i64 0)] H = .panic failV H' ∧ Ext H H' ∧ es.all (entOdd vs) = false) := by
 rcases loop_upP (body := ζ64 k (R (T k))) es.length
  (fun j e' H' => e' = [(5, ptrV p), (22, lv encEn es), (23, .int .i64 es.length), (24, .int .i64 j)] ∧ Ext H H' ∧ (es.take j).all (entOdd vs) = true)
  (fun xx e' H' => xx = .exit 0 ∧ (∃ z, e' = [(5, ptrV p), (22, lv encEn es), (23, .int .i64 es.length), (24, z), (25, .bool false)]) ∧ Ext H H' ∧ es.all (entOdd vs) = true)
  (fun v H' => v = failV ∧ Ext H H' ∧ es.all (entOdd vs) = false)
  (fun j e' H' hj ⟨he', hx, hall⟩ => by
   subst he'
   have hjl : (j : Int) < es.length := by omega
   obtain ⟨en, hen⟩ : ∃ en, es[j]? = some en := ⟨_, List.getElem?_eq_getElem hj⟩
   have hmem := List.mem_of_getElem? hen
   have i1 := fun H' => ixS_lvN ζ8u es .i64 j en hen H'
   have hx2 : Ext H (H'.push ⟨encEn en, 1, false⟩) := hx.push _
   rcases ζlq k hb hl (hes en hmem) (p := p) (q := H'.n) (m := m) (lv encEn es) (.int .i64 es.length) (.int .i64 j) (hx2.get hp) (ζg _ _ _ rfl) with ⟨z, e2, hE⟩ | ⟨e2, hE⟩
   ·refine .inl ⟨_, _, ?_, rfl, hx2, ?_⟩
    ·rw [ζ7c]
     simp -implicitDefEqProofs (disch := omega) [hjl, i1, e2, ζga]
    ·rw [ζ71 hen, List.all_append, hall]
     simp [hE]
   ·refine .inr (.inr ⟨failV, _, ?_, rfl, hx2, ?_⟩)
    ·rw [ζ7c]
     simp -implicitDefEqProofs (disch := omega) [hjl, i1, e2]
    ·rw [Bool.eq_false_iff]
     intro h
     have := List.all_eq_true.1 h en hmem
     rw [hE] at this
     cases this)
  (fun e' H' ⟨he', hx, hall⟩ => by
   subst he'
   rw [List.take_length] at hall
   refine .inl ⟨.exit 0, _, H', ?_, by simp, rfl, ⟨.int .i64 es.length, rfl⟩, hx, hall⟩
   rw [ζ7c]
   simp -implicitDefEqProofs) loopFuel 0 [(5, ptrV p), (22, lv encEn es), (23, .int .i64 es.length), (24, .int .i64 0)] H (Nat.zero_le _) (by unfold loopFuel; omega) ⟨rfl, Ext.refl _, rfl⟩ with ⟨xx, e', H1, hr, rfl, ⟨z, rfl⟩, hx, hE⟩ | ⟨v, H1, hr, rfl, hx, hE⟩
 ·exact .inl ⟨z, H1, hr, hx, hE⟩
 ·exact .inr ⟨H1, hr, hx, hE⟩
theorem ζl8 (k : Nat) (hk : k < 1000000) (b : List Int) (hb : Byt b) (g : Int) (hg : 1 ≤ g ∧ g ≤ 65535) (hl : b.length < 2 ^ 31) (H : Heap) : R (T k) F.ζ30 [vwB b, .int .i64 g] H = orF (stackS b g) stackV H := by
 rw [ζls]
 have hx : Ext H (H.push ⟨[lv encB b], 1, false⟩) := (Ext.refl H).push _
 have hvb : veq (vwB b) (vwB b) = true := veq_agg (l := [lv encB b]) fun u hu => by simp at hu; subst hu; exact veq_B b
 refine fz_orF ?_ fun _ _ => (Flat.stack _).alive
 unfold stackS
 simp -implicitDefEqProofs (disch := omega) [ζ30]
 refine Cp.callT (ζla k (Sl.lv _ 1 b) hb g 1 hg.1 hg.2 (.inr (.inl rfl)) hl) (fun _ => ⟨_, by simp -implicitDefEqProofs (disch := omega) [hvb], hx⟩) fun m hm => ?_
 have hok := machS_ok hb hg.1 hg.2 (by omega) hm
 simp -implicitDefEqProofs (disch := omega) [hvb]
 refine Cp.callT (U32_run k (Sl.lv _ 1 b) hb 16 (by omega)) (fun _ => ⟨_, by simp -implicitDefEqProofs (disch := omega) [hvb], hx⟩) fun p hp => ?_
 have hp := uS_four hb hp
 simp -implicitDefEqProofs (disch := omega) [hvb]
 refine Cp.callT (Rest_lv k b p (by omega) (by omega) _) (fun _ => ⟨_, by simp -implicitDefEqProofs (disch := omega) [hvb], hx⟩) fun sb hsb => ?_
 have lsb := ζ91 hsb
 have hent := fun H' => ζmu k hk m hok.elen H'
 have hes : ∀ e, e ∈ m.ents → 0 ≤ e.a ∧ e.a < 65536 := fun e he => by have := hok.ent e he; omega
 have hx2 : Ext H ((H.push ⟨[lv encB b], 1, false⟩).push ⟨[machV m, lv encB sb], 1, false⟩) := hx.push _
 have hpg : ((H.push ⟨[lv encB b], 1, false⟩).push ⟨[machV m, lv encB sb], 1, false⟩).get (H.n + 1) = some ⟨[machV m, lv encB sb], 1, false⟩ := ζg _ _ _ (by simp)
 simp -implicitDefEqProofs (disch := omega) [hvb, hent]
 rcases ζlp k (hb.rest hsb) (by omega) hes (by have := hok.elen; omega) hpg with ⟨z, H2, e2, hx3, hall⟩ | ⟨H2, e2, hx3, hall⟩
 ·rw [if_pos (List.all_eq_true.1 hall)]
  simp -implicitDefEqProofs (disch := omega) [e2, ζg9]
  refine .ok (hx2.trans hx3) ?_
  exact ⟨_, fz_box (by omega) (hx3.get hpg) (ζ2e (v := machV m) (u := machV m) (L1 := []) rfl (mapF_one (v := lv encB sb) (u := lv encB sb) (L := []) rfl))⟩
 ·rw [if_neg (fun hc => by rw [List.all_eq_true.2 hc] at hall; cases hall)]
  simp -implicitDefEqProofs (disch := omega) [e2]
  exact ⟨H2, rfl, hx2.trans hx3⟩
end Go.Sw
end
section
namespace Go.Sw
open Go.RowKit
def stackP (o : Option STab) : Value := match o with | some t => stackV t | none => .pointer none
theorem ζnn (o : Option STab) : Flat (stackP o) := by
 cases o with
 | none => exact .nilPtr
 | some t => exact Flat.stack t
theorem ζl9 (k : Nat) {H : Heap} (b : List Int) (hb : Byt b) (g : Int) (hg : 1 ≤ g ∧ g ≤ 65535) (hl : b.length < 2 ^ 31) (p2 p3 p4 : Nat) (old : Value)
  (h2 : H.get p2 = some ⟨[lv encB b], 1, false⟩) (h3 : H.get p3 = some ⟨[.int .i64 g], 1, false⟩) (h4 : H.get p4 = some ⟨[old], 1, false⟩) (ht : ∀ H', R (T k) F.ζ30 [vwB b, .int .i64 g] H' = orF (stackS b g) stackV H') :
  R (T k) F.ζ2l [ptrV p2, ptrV p3, ptrV p4] H = match stackS b g with
   | some t => .ok (.tuple #[]) (H.set p4 (some ⟨[stackV t], 1, false⟩))
   | none => .panic failV H := by
 rw [ζi3]
 have ht := ht H
 cases h : stackS b g with
 | none =>
  rw [h] at ht
  refine ζ1k ⟨H, ?_, Ext.refl H⟩ Flat.fail.alive
  simp -implicitDefEqProofs (disch := omega) [ζ2l, h2, h3, ht]
 | some x =>
  rw [h] at ht
  simp -implicitDefEqProofs (disch := omega) [ζ2l, h2, h3, h4, ht]
def stackO (b : List Int) (g : Int) : Option STab := if 1 ≤ g ∧ g ≤ 65535 then stackS b g else none
def stackN (b : List Int) (g : Int) : Int := if 1 ≤ g ∧ g ≤ 65535 then (if (stackS b g).isSome then 0 else 2) else 1
theorem ζl6 (k : Nat) {H : Heap} {v : Value} {b : List Int} (hv : Sl H 1 v encB b) (hb : Byt b) (g : Int) (hl : b.length ≤ 2 ^ 30) (ht : (1 ≤ g ∧ g ≤ 65535) → ∀ H', R (T k) F.ζ30 [vwB b, .int .i64 g] H' = orF (stackS b g) stackV H') :
  R (T k) F.ζ59 [v, .int .i64 g] H = .ok (.tuple #[stackP (stackO b g), .int .i64 (stackN b g)]) H := by
 rw [ζlr]
 have hx2 := (Ext.refl H).push ⟨[.int .i64 g], 1, false⟩
 have al : ∀ o n, Alive H (.tuple #[stackP o, .int .i64 n]) := fun o n => (Flat.tupleL (l := [stackP o, .int .i64 n]) (.cons (ζnn o) (.cons (.int _ _) .nil))).alive
 have fz : ∀ H' o n, fzV H.n H' fzDepth (.tuple #[stackP o, .int .i64 n]) = some (.tuple #[stackP o, .int .i64 n], []) := fun H' o n => by
  cases o <;> rfl
 by_cases hgg : 1 ≤ g ∧ g ≤ 65535
 ·have c1 : ¬ g < 1 := by omega
  have c2 : ¬ g > 65535 := by omega
  have hx3 := hx2.push ⟨[.pointer none], 1, false⟩
  have o3 := Of_run k (hv.up hx3)
  have by3 := ζp8 k (hv.up hx3) hl
  have o4 := fun H => Of_lv k b H
  have hin := ζl9 k (H := ((H.push ⟨[.int .i64 g], 1, false⟩).push ⟨[.pointer none], 1, false⟩).push ⟨[lv encB b], 1, false⟩) b hb g hgg (by omega) (H.n + 2) H.n (H.n + 1) (.pointer none) (by simp) (by simp) (by simp) (ht hgg)
  cases hlk : stackS b g with
  | none =>
   rw [hlk] at hin
   have ht := Try_no k F.ζ2l #[ptrV (H.n + 2), ptrV H.n, ptrV (H.n + 1)] hin
   refine nrm_fz (H' := ((H.push ⟨[.int .i64 g], 1, false⟩).push ⟨[.pointer none], 1, false⟩).push ⟨[lv encB b], 1, false⟩) (v := .tuple #[stackP none, .int .i64 2]) ?_ (by unfold stackO stackN; rw [if_pos hgg, if_pos hgg, hlk]; exact fz _ _ _) (hx3.push _) (al _ _)
   simp -implicitDefEqProofs (disch := omega) [ζ59, c1, c2, o3, by3, o4, ht, stackP]
  | some x =>
   rw [hlk] at hin
   have ht := Try_ok k F.ζ2l #[ptrV (H.n + 2), ptrV H.n, ptrV (H.n + 1)] hin
   refine nrm_fz (H' := ((H.push ⟨[.int .i64 g], 1, false⟩).push ⟨[stackV x], 1, false⟩).push ⟨[lv encB b], 1, false⟩) (v := .tuple #[stackP (some x), .int .i64 0]) ?_ (by unfold stackO stackN; rw [if_pos hgg, if_pos hgg, hlk]; exact fz _ _ _) ((hx2.push _).push _) (al _ _)
   simp at ht
   simp -implicitDefEqProofs (disch := omega) [ζ59, c1, c2, o3, by3, o4, ht, stackP]
 ·refine nrm_fz (H' := (H.push ⟨[.int .i64 g], 1, false⟩).push ⟨[.pointer none], 1, false⟩) (v := .tuple #[stackP none, .int .i64 1]) ?_ (by unfold stackO stackN; rw [if_neg hgg, if_neg hgg]; exact fz _ _ _) (hx2.push _) (al _ _)
  by_cases c1 : g < 1
  ·simp -implicitDefEqProofs (disch := omega) [ζ59, c1, stackP]
  ·have c2 : g > 65535 := by omega
   simp -implicitDefEqProofs (disch := omega) [ζ59, c1, c2, stackP]
end Go.Sw
end
section
namespace Go.Sw
open Go.RowKit
end Go.Sw
end
section
namespace Go.Sw
open Go.RowKit
variable {σ : Type}
end Go.Sw
end
section
namespace Go.Sw
open Go.RowKit
def sv (k i : Nat) : Int := if i + 1 = k then 2 * ((i : Int) + 1) + 1 else 2 * ((i : Int) + 1)
set_option maxRecDepth 10000 in
theorem ζql (t : STab) (ht : t.m.ok) (gl : List Gl) (down cross : Bool) (l : List Pl) : (runSt t gl down cross l).1.length = l.length := by
 unfold runSt runStr
 exact runD_inv t.m ht (fun _ : List Pl × List Int => gl) (fun s i e => (doSt t (gl.length : Int) down cross s i e, i, i + 1)) (fun s : List Pl × List Int => s.1.length = l.length) (fun s i e hs _ _ => by
  dsimp only
  rw [doSt_len]
  exact hs) (2 * (gl.length : Int) + 128) (2 * gl.length + 128) ((l, []), ⟨0, 0, 0, 0⟩) rfl (Int.le_refl _) (Int.le_refl _) (by have := ht.two; dsimp only; omega)
end Go.Sw
end
section
namespace Go.Sw
open Go.RowKit
end Go.Sw
end
section
namespace Go.Sw
open Go.RowKit
end Go.Sw
end
section
namespace Go.Sw
open Go.RowKit
theorem ζor (k : Nat) (ids : List Int) (hl : ids.length < 2 ^ 30) (H : Heap) : R (T k) F.ζ2m [lv encI ids] H = .ok (lv encG (newG ids)) H := by
 rw [ζi9]
 have g := (Star.nil H).more_row (Ext.refl _) (OwnO.bare encG _ 2) (fun b hb => by cases hb)
 simp only [List.nil_append] at g
 obtain ⟨x, e', H1, hr1, rfl, z, s, o, rfl, g⟩ := loop_up (body := ζ6k k (R (T k))) ids.length
  (fun j e H' => ∃ s o, e = [(0, lv encI ids), (3, s), (4, .int .i64 j)] ∧ Star H H' [itRow o 2 s encG (newG (ids.take j))])
  (fun x e H' => x = .exit 0 ∧ ∃ z s o, e = [(0, lv encI ids), (3, s), (4, z), (9, .bool false)] ∧ Star H H' [itRow o 2 s encG (newG ids)])
  (e0 := [(0, lv encI ids), (3, bareV), (4, .int .i64 0)]) (H0 := H) ⟨bareV, none, rfl, g⟩ (by omega)
  (fun j e H' hj ⟨s, o, he, g⟩ => by
   subst he
   have hlt : (j : Int) < ids.length := by omega
   obtain ⟨x, hx⟩ : ∃ x, ids[j]? = some x := ⟨_, List.getElem?_eq_getElem hj⟩
   have i1 := fun H' => ixS_lvN encI_len ids .i64 j x hx H'
   have hlen : (ids.take j).length = j := by rw [List.length_take]; omega
   obtain ⟨s', o', H2, e2, g2⟩ := g.append1 (bytes := 16) 0 encG_len rfl (⟨x, j⟩ : Gl) (by rw [newG_len]; omega) (by decide)
   simp only [List.set_cons_zero] at g2
   simp only [encG] at e2
   refine .inl ⟨_, H2, ?_, s', o', rfl, by rw [ζ71 hx, ζmh, hlen]; exact g2⟩
   rw [ζ7i]
   simp -implicitDefEqProofs (disch := omega) [hlt, i1, e2])
  (fun e H' ⟨s, o, he, g⟩ => by
   subst he
   rw [List.take_length] at g
   refine ⟨.exit 0, _, H', ?_, by simp, rfl, .int .i64 ids.length, s, o, rfl, g⟩
   rw [ζ7i]
   simp -implicitDefEqProofs)
 obtain ⟨L, hf⟩ := (g.own 0 rfl).freeze encG_len (ζo5 _) 6
 refine nrm_fz (v := s) (H' := H1) ?_ hf g.ext (Flat.Gls _).alive
 simp -implicitDefEqProofs (disch := omega) [ζ2m, hr1, ζau]
end Go.Sw
end
section
set_option maxRecDepth 100000
set_option linter.unusedVariables false
namespace Go.Sw
noncomputable section
def ζ2v (k : Nat) (call : Caller) (a0 : Value) (h : Heap) : Res Value :=
 (allocR Prog 232 h).bind fun v1 h2 =>
 (binR Prog .mul 3 (.int .i64 2) a0 h2).bind fun v3 h4 =>
 (binR Prog .add 3 v3 (.int .i64 128) h4).bind fun v5 h6 =>
 (buildR Prog 232 [(4, v5)] h6).bind fun v7 h8 =>
 (storeR Prog 232 v1 v7 h8).bind fun _v9 h10 =>
 (loadR Prog 232 v1 h10).bind fun v11 h12 =>
 .ok v11 h12
theorem ζdd (k : Nat) (a0 : Value) (h : Heap) : R (T k) F.ζ2v [a0] h = nrm .gc h (ζ2v k (R (T k)) a0 h) :=
 (R_body (t := T k) (T_scott k) (by kernel_rfl) (by kernel_rfl) _ _).trans (by kernel_rfl)
def ζ8p (k : Nat) (call : Caller) (a3 a4 a6 a8 : Value) (h : Heap) : Res Value :=
 kSeq (pieceK (C k) call F.ζ1i [1, 1, 1, 1]) (kDone Prog (resOf Prog F.ζ1i)) .normal [(3, a3), (4, a4), (6, a6), (8, a8)] h
def ζ8q (k : Nat) (call : Caller) (a2 a3 a4 a6 a8 a18 : Value) (h : Heap) : Res Value :=
 kSeq (pieceK (C k) call F.ζ1i [1, 1, 1, 1]) (kDone Prog (resOf Prog F.ζ1i)) .normal [(2, a2), (3, a3), (4, a4), (6, a6), (8, a8), (18, a18)] h
def ζ1i (k : Nat) (call : Caller) (a0 a1 a2 : Value) (h : Heap) : Res Value :=
 (boxR a0 h).bind fun v1 h2 =>
 (boxR a1 h2).bind fun v3 h4 =>
 (allocR Prog 31 h4).bind fun v5 h6 =>
 (fieldAddrR Prog 232 v3 5 h6).bind fun v7 h8 =>
 (loadR Prog 4 v7 h8).bind fun v9 h10 =>
 condV (some v9) (
 (buildR Prog 31 [] h10).bind fun v11 h12 =>
 (storeR Prog 31 v5 v11 h12).bind fun _v13 h14 =>
 (loadR Prog 31 v5 h14).bind fun v15 h16 =>
 .ok (.tuple #[v15, (.bool false)]) h16)
 (
 (fieldAddrR Prog 232 v3 1 h10).bind fun v17 h18 =>
 (loadR Prog 3 v17 h18).bind fun v19 h20 =>
 (builtinV Prog .len [48] [a2] h20).bind fun v21 h22 =>
 (binR Prog .lss 3 v19 v21 h22).bind fun v23 h24 =>
 condV (some v23) (
 (loadR Prog 41 v1 h24).bindN fun v25 h26 =>
 (fieldAddrR Prog 232 v3 1 h26).bindN fun v27 h28 =>
 (loadR Prog 3 v27 h28).bindN fun v29 h30 =>
 (indexAddrR Prog 48 a2 v29 h30).bindN fun v31 h32 =>
 (fieldAddrR Prog 115 v31 0 h32).bindN fun v33 h34 =>
 (loadR Prog 3 v33 h34).bindN fun v35 h36 =>
 (call F.ζ1v [v25, v35] h36).bindT (fun p39 h40 => .panic p39 h40) fun v37 h38 =>
 ζ8p k call v1 v3 v5 v37 h38)
 (
 ζ8q k call a2 v1 v3 v5 (.int .i64 0) v23 h24))
theorem ζgl (k : Nat) (a0 a1 a2 : Value) (h : Heap) : R (T k) F.ζ1i [a0, a1, a2] h = nrm .gc h (ζ1i k (R (T k)) a0 a1 a2 h) :=
 (R_body (t := T k) (T_scott k) (by kernel_rfl) (by kernel_rfl) _ _).trans (by kernel_rfl)
theorem ζav (k : Nat) (call : Caller) (a3 a4 a6 a8 : Value) (h : Heap) : ζ8p k call a3 a4 a6 a8 h =
 (loadR Prog 41 a3 h).bind fun v41 h42 =>
 (fieldAddrR Prog 232 a4 0 h42).bind fun v43 h44 =>
 (loadR Prog 3 v43 h44).bind fun v45 h46 =>
 (call F.ζ1p [v41, v45, a8] h46).bind fun v47 h48 =>
 (extractR v47 0 h48).bind fun v49 h50 =>
 (extractR v47 1 h50).bind fun v51 h52 =>
 (allocR Prog 31 h52).bind fun v53 h54 =>
 (storeR Prog 31 v53 v49 h54).bind fun _v55 h56 =>
 (loadR Prog 31 v53 h56).bind fun v57 h58 =>
 (storeR Prog 31 a6 v57 h58).bind fun _v59 h60 =>
 (loadR Prog 31 a6 h60).bind fun v61 h62 =>
 .ok (.tuple #[v61, v51]) h62 := by kernel_rfl
theorem ζaw (k : Nat) (call : Caller) (a2 a3 a4 a6 a8 a18 : Value) (h : Heap) : ζ8q k call a2 a3 a4 a6 a8 a18 h =
 (loadR Prog 41 a3 h).bind fun v63 h64 =>
 (fieldAddrR Prog 232 a4 0 h64).bind fun v65 h66 =>
 (loadR Prog 3 v65 h66).bind fun v67 h68 =>
 (call F.ζ1p [v63, v67, a8] h68).bind fun v69 h70 =>
 (extractR v69 0 h70).bind fun v71 h72 =>
 (extractR v69 1 h72).bind fun v73 h74 =>
 (allocR Prog 31 h74).bind fun v75 h76 =>
 (storeR Prog 31 v75 v71 h76).bind fun _v77 h78 =>
 (loadR Prog 31 v75 h78).bind fun v79 h80 =>
 (storeR Prog 31 a6 v79 h80).bind fun _v81 h82 =>
 (loadR Prog 31 a6 h82).bind fun v83 h84 =>
 .ok (.tuple #[v83, v73]) h84 := by kernel_rfl
def ζ7j (k : Nat) (call : Caller) (a5 a10 a11 : Value) (h : Heap) : Res Value :=
 kSeq (pieceK (C k) call F.ζ8 [1, 1, 1, 1, 1]) (kDone Prog (resOf Prog F.ζ8)) .normal [(5, a5), (10, a10), (11, a11)] h
def ζ9y (k : Nat) (call : Caller) (a5 a10 a11 : Value) (h : Heap) : Res Value :=
 kSeq (pieceK (C k) call F.ζ8 [1, 1, 1, 1, 1, 1]) (kDone Prog (resOf Prog F.ζ8)) .normal [(5, a5), (10, a10), (11, a11)] h
def ζ9z (k : Nat) (call : Caller) (a5 a10 a11 a39 : Value) (h : Heap) : Res Value :=
 kSeq (pieceK (C k) call F.ζ8 [1, 1, 1, 1, 1, 1]) (kDone Prog (resOf Prog F.ζ8)) .normal [(5, a5), (10, a10), (11, a11), (39, a39)] h
def ζ49 (k : Nat) (call : Caller) (a5 a10 : Value) (h : Heap) : Res Value :=
 kSeq (pieceK (C k) call F.ζ8 [1, 1, 1, 1, 1, 1, 1]) (kDone Prog (resOf Prog F.ζ8)) .normal [(5, a5), (10, a10)] h
def ζ7k (k : Nat) (call : Caller) (a5 a10 a52 : Value) (h : Heap) : Res Value :=
 kSeq (pieceK (C k) call F.ζ8 [1, 1, 1, 1, 1, 1, 1]) (kDone Prog (resOf Prog F.ζ8)) .normal [(5, a5), (10, a10), (52, a52)] h
def ζ8 (k : Nat) (call : Caller) (a0 a1 a2 a3 a4 : Value) (h : Heap) : Res Value :=
 (boxR a0 h).bind fun v1 h2 =>
 (boxR a1 h2).bind fun v3 h4 =>
 (allocR Prog 232 h4).bind fun v5 h6 =>
 (fieldAddrR Prog 232 v1 1 h6).bind fun v7 h8 =>
 (loadR Prog 3 v7 h8).bind fun v9 h10 =>
 (binR Prog .geq 3 v9 a2 h10).bind fun v11 h12 =>
 (fieldAddrR Prog 232 v1 2 h12).bind fun v13 h14 =>
 (loadR Prog 3 v13 h14).bind fun v15 h16 =>
 (binR Prog .add 3 v15 (.int .i64 1) h16).bind fun v17 h18 =>
 (fieldAddrR Prog 232 v1 2 h18).bind fun v19 h20 =>
 (storeR Prog 3 v19 v17 h20).bind fun _v21 h22 =>
 (fieldAddrR Prog 31 v3 0 h22).bind fun v23 h24 =>
 (loadR Prog 3 v23 h24).bind fun v25 h26 =>
 (fieldAddrR Prog 232 v1 0 h26).bind fun v27 h28 =>
 (storeR Prog 3 v27 v25 h28).bind fun _v29 h30 =>
 (fieldAddrR Prog 31 v3 1 h30).bind fun v31 h32 =>
 (loadR Prog 3 v31 h32).bind fun v33 h34 =>
 (binR Prog .quo 3 v33 (.int .i64 16384) h34).bind fun v35 h36 =>
 (binR Prog .rem 3 v35 (.int .i64 2) h36).bind fun v37 h38 =>
 (binR Prog .eql 3 v37 (.int .i64 1) h38).bind fun v39 h40 =>
 condV (some v39) (
 (fieldAddrR Prog 232 v1 3 h40).bind fun v41 h42 =>
 (loadR Prog 3 v41 h42).bind fun v43 h44 =>
 (binR Prog .add 3 v43 (.int .i64 1) h44).bind fun v45 h46 =>
 (fieldAddrR Prog 232 v1 3 h46).bind fun v47 h48 =>
 (storeR Prog 3 v47 v45 h48).bind fun _v49 h50 =>
 (fieldAddrR Prog 232 v1 1 h50).bind fun v51 h52 =>
 (storeR Prog 3 v51 a3 h52).bind fun _v53 h54 =>
 ζ7j k call v1 v5 (.bool false) h54)
 (
 (fieldAddrR Prog 232 v1 3 h40).bind fun v55 h56 =>
 (storeR Prog 3 v55 (.int .i64 0) h56).bind fun _v57 h58 =>
 (fieldAddrR Prog 232 v1 1 h58).bind fun v59 h60 =>
 (storeR Prog 3 v59 a4 h60).bind fun _v61 h62 =>
 ζ7j k call v1 v5 v11 h62)
theorem ζir (k : Nat) (a0 a1 a2 a3 a4 : Value) (h : Heap) : R (T k) F.ζ8 [a0, a1, a2, a3, a4] h = nrm .gc h (ζ8 k (R (T k)) a0 a1 a2 a3 a4 h) :=
 (R_body (t := T k) (T_scott k) (by kernel_rfl) (by kernel_rfl) _ _).trans (by kernel_rfl)
theorem ζv (k : Nat) (call : Caller) (a5 a10 a11 : Value) (h : Heap) : ζ7j k call a5 a10 a11 h =
 (fieldAddrR Prog 232 a5 1 h).bind fun v63 h64 =>
 (loadR Prog 3 v63 h64).bind fun v65 h66 =>
 (binR Prog .lss 3 v65 (.int .i64 0) h66).bind fun v67 h68 =>
 condV (some v67) (
 (fieldAddrR Prog 232 a5 1 h68).bind fun v69 h70 =>
 (storeR Prog 3 v69 (.int .i64 0) h70).bind fun _v71 h72 =>
 ζ9y k call a5 a10 a11 h72)
 (
 ζ9z k call a5 a10 a11 v67 h68) := by kernel_rfl
theorem ζ2f (k : Nat) (call : Caller) (a5 a10 a11 : Value) (h : Heap) : ζ9y k call a5 a10 a11 h =
 condV (some a11) (
 (fieldAddrR Prog 232 a5 5 h).bind fun v73 h74 =>
 (storeR Prog 4 v73 (.bool true) h74).bind fun _v75 h76 =>
 ζ49 k call a5 a10 h76)
 (
 (fieldAddrR Prog 232 a5 2 h).bind fun v77 h78 =>
 (loadR Prog 3 v77 h78).bind fun v79 h80 =>
 (fieldAddrR Prog 232 a5 4 h80).bind fun v81 h82 =>
 (loadR Prog 3 v81 h82).bind fun v83 h84 =>
 (binR Prog .geq 3 v79 v83 h84).bind fun v85 h86 =>
 ((bif wantVal v85 false then fieldAddrR Prog 232 a5 3 h86 else Res.ok undef h86)).bind fun v87 h88 =>
 ((bif wantVal v85 false then loadR Prog 3 v87 h88 else Res.ok undef h88)).bind fun v89 h90 =>
 ((bif wantVal v85 false then binR Prog .gtr 3 v89 (.int .i64 64) h90 else Res.ok undef h90)).bind fun v91 h92 =>
 (condV (some v85) (Res.ok (.bool true) h92) (Res.ok v91 h92)).bind fun v93 h94 =>
 condV (some v93) (
 (fieldAddrR Prog 232 a5 5 h94).bind fun v95 h96 =>
 (storeR Prog 4 v95 (.bool true) h96).bind fun _v97 h98 =>
 (fieldAddrR Prog 232 a5 6 h98).bind fun v99 h100 =>
 (storeR Prog 3 v99 (.int .i64 4) h100).bind fun _v101 h102 =>
 ζ49 k call a5 a10 h102)
 (
 ζ7k k call a5 a10 v93 h94)) := by kernel_rfl
theorem ζ2g (k : Nat) (call : Caller) (a5 a10 a11 a39 : Value) (h : Heap) : ζ9z k call a5 a10 a11 a39 h =
 condV (some a11) (
 (fieldAddrR Prog 232 a5 5 h).bind fun v103 h104 =>
 (storeR Prog 4 v103 (.bool true) h104).bind fun _v105 h106 =>
 ζ49 k call a5 a10 h106)
 (
 (fieldAddrR Prog 232 a5 2 h).bind fun v107 h108 =>
 (loadR Prog 3 v107 h108).bind fun v109 h110 =>
 (fieldAddrR Prog 232 a5 4 h110).bind fun v111 h112 =>
 (loadR Prog 3 v111 h112).bind fun v113 h114 =>
 (binR Prog .geq 3 v109 v113 h114).bind fun v115 h116 =>
 ((bif wantVal v115 false then fieldAddrR Prog 232 a5 3 h116 else Res.ok undef h116)).bind fun v117 h118 =>
 ((bif wantVal v115 false then loadR Prog 3 v117 h118 else Res.ok undef h118)).bind fun v119 h120 =>
 ((bif wantVal v115 false then binR Prog .gtr 3 v119 (.int .i64 64) h120 else Res.ok undef h120)).bind fun v121 h122 =>
 (condV (some v115) (Res.ok (.bool true) h122) (Res.ok v121 h122)).bind fun v123 h124 =>
 condV (some v123) (
 (fieldAddrR Prog 232 a5 5 h124).bind fun v125 h126 =>
 (storeR Prog 4 v125 (.bool true) h126).bind fun _v127 h128 =>
 (fieldAddrR Prog 232 a5 6 h128).bind fun v129 h130 =>
 (storeR Prog 3 v129 (.int .i64 4) h130).bind fun _v131 h132 =>
 ζ49 k call a5 a10 h132)
 (
 ζ7k k call a5 a10 v123 h124)) := by kernel_rfl
theorem ζ1o (k : Nat) (call : Caller) (a5 a10 : Value) (h : Heap) : ζ49 k call a5 a10 h =
 (loadR Prog 232 a5 h).bind fun v133 h134 =>
 (storeR Prog 232 a10 v133 h134).bind fun _v135 h136 =>
 (loadR Prog 232 a10 h136).bind fun v137 h138 =>
 .ok v137 h138 := by kernel_rfl
theorem ζ3w (k : Nat) (call : Caller) (a5 a10 a52 : Value) (h : Heap) : ζ7k k call a5 a10 a52 h =
 (loadR Prog 232 a5 h).bind fun v139 h140 =>
 (storeR Prog 232 a10 v139 h140).bind fun _v141 h142 =>
 (loadR Prog 232 a10 h142).bind fun v143 h144 =>
 .ok v143 h144 := by kernel_rfl
end
end Go.Sw
end
section
namespace Go.Sw
open Go.RowKit
structure Way where
 st : Int
 pl : Int
 stp : Int
 rest : Int
 most : Int
 over : Bool
 code : Int
abbrev wayC (w : Way) : List Value := [.int .i64 w.st, .int .i64 w.pl, .int .i64 w.stp, .int .i64 w.rest, .int .i64 w.most, .bool w.over, .int .i64 w.code]
abbrev wayV (w : Way) : Value := .agg (wayC w).toArray
theorem Flat.way (w : Way) : Flat (wayV w) := .aggL (.cons (.int _ _) (.cons (.int _ _) (.cons (.int _ _) (.cons (.int _ _) (.cons (.int _ _) (.cons (.bool _) (.cons (.int _ _) .nil)))))))
theorem ζp7 (k : Nat) (n : Int) (h0 : 0 ≤ n) (h1 : n < 2 ^ 40) (H : Heap) : R (T k) F.ζ2v [.int .i64 n] H = .ok (wayV ⟨0, 0, 0, 0, 2 * n + 128, false, 0⟩) H := by
 rw [ζdd]
 refine nrm_gc ⟨H.push ⟨wayC ⟨0, 0, 0, 0, 2 * n + 128, false, 0⟩, 1, false⟩, ?_, (Ext.refl H).push _⟩ (Flat.way _).alive
 simp -implicitDefEqProofs (disch := omega) [ζ2v]
def goS (w : Way) (e : En) (n stay on : Int) : Way :=
 let s : Bool := decide (e.flags / 16384 % 2 = 1)
 let rest := if s then w.rest + 1 else 0
 let pl := max (if s then stay else on) 0
 let fin : Bool := !s && decide (w.pl ≥ n)
 if fin then ⟨e.next, pl, w.stp + 1, rest, w.most, true, w.code⟩
 else if w.stp + 1 ≥ w.most ∨ rest > 64 then ⟨e.next, pl, w.stp + 1, rest, w.most, true, 4⟩
 else ⟨e.next, pl, w.stp + 1, rest, w.most, w.over, w.code⟩
set_option maxHeartbeats 1000000 in
theorem Go_run (k : Nat) (w : Way) (e : En) (n stay on : Int) (hw : 0 ≤ w.stp ∧ w.stp < 2 ^ 50 ∧ 0 ≤ w.rest ∧ w.rest < 2 ^ 50) (he : 0 ≤ e.flags ∧ e.flags < 65536) (H : Heap) :
  R (T k) F.ζ8 [wayV w, encE e, .int .i64 n, .int .i64 stay, .int .i64 on] H = .ok (wayV (goS w e n stay on)) H := by
 rw [ζir]
 have q1 := fun H => bin_quo Prog 3 H .i64 e.flags 16384 (by decide)
 rw [Int.tdiv_eq_ediv_of_nonneg he.1] at q1
 have hq : 0 ≤ e.flags / 16384 := Int.ediv_nonneg he.1 (by decide)
 have q2 := fun H => bin_rem Prog 3 H .i64 (e.flags / 16384) 2 (by decide)
 rw [Int.tmod_eq_emod_of_nonneg hq] at q2
 refine nrm_gc ⟨((H.push ⟨wayC (goS w e n stay on), 1, false⟩).push ⟨encEn e, 1, false⟩).push ⟨wayC (goS w e n stay on), 1, false⟩, ?_, (((Ext.refl H).push _).push _).push _⟩ (Flat.way _).alive
 unfold goS
 by_cases c1 : e.flags / 16384 % 2 = 1
 ·have m1 : max stay 0 = if stay < 0 then 0 else stay := by split <;> omega
  by_cases c2 : stay < 0
  ·by_cases c3 : w.stp + 1 ≥ w.most
   ·simp -implicitDefEqProofs (disch := omega) [ζ8, q1, q2, c1, m1, c2, c3, ζv, ζ2f, ζ1o]
   ·by_cases c4 : w.rest + 1 > 64
    ·simp -implicitDefEqProofs (disch := omega) [ζ8, q1, q2, c1, m1, c2, c3, c4, ζv, ζ2f, ζ1o]
    ·simp -implicitDefEqProofs (disch := omega) [ζ8, q1, q2, c1, m1, c2, c3, c4, ζv, ζ2f, ζ3w]
  ·by_cases c3 : w.stp + 1 ≥ w.most
   ·simp -implicitDefEqProofs (disch := omega) [ζ8, q1, q2, c1, m1, c2, c3, ζv, ζ2g, ζ1o]
   ·by_cases c4 : w.rest + 1 > 64
    ·simp -implicitDefEqProofs (disch := omega) [ζ8, q1, q2, c1, m1, c2, c3, c4, ζv, ζ2g, ζ1o]
    ·simp -implicitDefEqProofs (disch := omega) [ζ8, q1, q2, c1, m1, c2, c3, c4, ζv, ζ2g, ζ3w]
 ·have c1' : (e.flags / 16384 % 2 == 1) = false := by simpa using c1
  have m1 : max on 0 = if on < 0 then 0 else on := by split <;> omega
  by_cases c5 : w.pl ≥ n
  ·by_cases c2 : on < 0
   ·simp -implicitDefEqProofs (disch := omega) [ζ8, q1, q2, c1, c1', m1, c2, c5, ζv, ζ2f, ζ1o]
   ·simp -implicitDefEqProofs (disch := omega) [ζ8, q1, q2, c1, c1', m1, c2, c5, ζv, ζ2g, ζ1o]
  ·by_cases c3 : w.stp + 1 ≥ w.most
   ·by_cases c2 : on < 0
    ·simp -implicitDefEqProofs (disch := omega) [ζ8, q1, q2, c1, c1', m1, c2, c3, c5, ζv, ζ2f, ζ1o]
    ·simp -implicitDefEqProofs (disch := omega) [ζ8, q1, q2, c1, c1', m1, c2, c3, c5, ζv, ζ2g, ζ1o]
   ·by_cases c2 : on < 0
    ·simp -implicitDefEqProofs (disch := omega) [ζ8, q1, q2, c1, c1', m1, c2, c3, c5, ζv, ζ2f, ζ3w]
    ·simp -implicitDefEqProofs (disch := omega) [ζ8, q1, q2, c1, c1', m1, c2, c3, c5, ζv, ζ2g, ζ3w]
end Go.Sw
end
section
namespace Go.Sw
open Go.RowKit
theorem ζpk (m : Mach) (l : List Gl) (pl : Int) (h : 0 ≤ pl) : (clsS m l pl).1 = if pl < l.length then (match l[pl.toNat]? with | some g => classS m g.id | none => 0) else 0 := by
 unfold clsS atG
 by_cases h2 : pl < l.length
 ·rw [if_pos ⟨h, h2⟩, if_pos h2]
  obtain ⟨g, hg⟩ : ∃ g, l[pl.toNat]? = some g := ⟨_, List.getElem?_eq_getElem (by omega)⟩
  rw [hg]
 ·rw [if_neg (fun hc => h2 hc.2), if_neg h2]
set_option maxHeartbeats 1000000 in
theorem Next_run (k : Nat) {b : List Int} (hb : Byt b) {g w : Int} (hg : 1 ≤ g ∧ g ≤ 65535) (hw : w = 0 ∨ w = 1 ∨ w = 2) (hl : b.length < 2 ^ 31) {m : Mach} (hm : m.ok) (h : machS b g w = some m) (y : Way) (hy : y.over = false) (hp : 0 ≤ y.pl) (l : List Gl) (hll : l.length < 2 ^ 40) (H : Heap) :
  R (T k) F.ζ1i [rmV (rmOf b g w m), wayV y, lv encG l] H = .ok (.tuple #[encEA (stepS m y.st (clsS m l y.pl).1), .bool (stepS m y.st (clsS m l y.pl).1).isSome]) H := by
 rw [ζgl]
 have hstep := fun c H' => ζqo k hb hw hl hm h y.st c H'
 have hcls := fun id H' => ζnz k hb hg hl hm h id H'
 have hc := ζpk m l y.pl hp
 obtain ⟨st, pl, stp, rest, most, over, code⟩ := y
 dsimp only at hy hp hstep hc ⊢
 subst hy
 generalize rmOf b g w m = r at hstep hcls ⊢
 have fl : ∀ o : Option En, Flat (.tuple #[encEA o, .bool o.isSome]) := fun o => .tupleL (.cons (ζhe _) (.cons (.bool _) .nil))
 by_cases h2 : pl < l.length
 ·rw [if_pos h2] at hc
  obtain ⟨gl, hgl⟩ : ∃ gl, l[pl.toNat]? = some gl := ⟨_, List.getElem?_eq_getElem (by omega)⟩
  rw [hgl] at hc
  dsimp only at hc
  have i1 := fun H' => ixS_lv encG_len l .i64 pl gl hp hgl H'
  rw [hc]
  generalize hs : stepS m st (classS m gl.id) = o
  have hst := fun H' => hstep (classS m gl.id) H'
  rw [hs] at hst
  have fo := fl o
  unfold encEA at hst fo ⊢
  generalize o.isSome = z at hst fo ⊢
  generalize o.getD ⟨0, 0, 0, 0⟩ = e at hst fo ⊢
  refine nrm_gc ⟨((((H.push ⟨rmCells r.b r.cl r.rowsAt r.entsAt r.states r.n r.words r.tb r.parts, 1, false⟩).push ⟨[.int .i64 st, .int .i64 pl, .int .i64 stp, .int .i64 rest, .int .i64 most, .bool false, .int .i64 code], 1, false⟩).push ⟨encEn e, 1, false⟩).push ⟨encEn e, 1, false⟩), ?_, ((((Ext.refl H).push _).push _).push _).push _⟩ fo.alive
  simp -implicitDefEqProofs (disch := omega) [ζ1i, h2, i1, hcls, ζav, hst]
 ·rw [if_neg h2] at hc
  rw [hc]
  generalize hs : stepS m st 0 = o
  have hst := fun H' => hstep 0 H'
  rw [hs] at hst
  have fo := fl o
  unfold encEA at hst fo ⊢
  generalize o.isSome = z at hst fo ⊢
  generalize o.getD ⟨0, 0, 0, 0⟩ = e at hst fo ⊢
  refine nrm_gc ⟨((((H.push ⟨rmCells r.b r.cl r.rowsAt r.entsAt r.states r.n r.words r.tb r.parts, 1, false⟩).push ⟨[.int .i64 st, .int .i64 pl, .int .i64 stp, .int .i64 rest, .int .i64 most, .bool false, .int .i64 code], 1, false⟩).push ⟨encEn e, 1, false⟩).push ⟨encEn e, 1, false⟩), ?_, ((((Ext.refl H).push _).push _).push _).push _⟩ fo.alive
  simp -implicitDefEqProofs (disch := omega) [ζ1i, h2, ζaw, hst]
end Go.Sw
end
section
namespace Go.Sw
open Go.RowKit
end Go.Sw
end
section
namespace Go.Sw
open Go.RowKit
variable {σ : Type}
abbrev drvW (y : Way) : Drv := ⟨y.st, y.pl, y.stp, y.rest⟩
def docStepG (m : Mach) (ln : σ → List Gl) (f : σ → Int → En → σ × Int × Int) (x : σ × Way) : σ × Way :=
 ((f x.1 x.2.pl (entS m (ln x.1) (drvW x.2))).1, goS x.2 (entS m (ln x.1) (drvW x.2)) ((ln x.1).length : Int) (f x.1 x.2.pl (entS m (ln x.1) (drvW x.2))).2.1 (f x.1 x.2.pl (entS m (ln x.1) (drvW x.2))).2.2)
def docRG (m : Mach) (ln : σ → List Gl) (f : σ → Int → En → σ × Int × Int) : Nat → σ × Way → σ × Way
 | 0, x => x
 | n + 1, x => if x.2.over = true then x else docRG m ln f n (docStepG m ln f x)
theorem ζ9l (m : Mach) (ln : σ → List Gl) (f : σ → Int → En → σ × Int × Int) (n : Nat) (x : σ × Way) (h : x.2.over = true) : docRG m ln f n x = x := by
 cases n with
 | zero => rfl
 | succ n => unfold docRG; rw [if_pos h]
theorem clsS_end (m : Mach) (l : List Gl) (p : Int) (h : 0 ≤ p) : (clsS m l p).2 = decide (p ≥ l.length) := by
 unfold clsS atG
 by_cases h2 : p < l.length
 ·obtain ⟨g, hg⟩ : ∃ g, l[p.toNat]? = some g := ⟨_, List.getElem?_eq_getElem (by omega)⟩
  rw [if_pos ⟨h, h2⟩, hg, decide_eq_false (by omega)]
 ·rw [if_neg (fun hc => h2 hc.2), decide_eq_true (by omega)]
theorem doc_runG (m : Mach) (ln : σ → List Gl) (f : σ → Int → En → σ × Int × Int) (N : Int) : ∀ (n : Nat) (s : σ) (y : Way), y.over = false → y.code = 0 → 0 ≤ y.pl → y.most = N → y.stp < N → N - y.stp ≤ n →
  runD m ln f N n (s, drvW y) = ((docRG m ln f n (s, y)).2.stp, (docRG m ln f n (s, y)).2.code, (docRG m ln f n (s, y)).1)
 | 0, s, y, _, _, _, _, h1, h2 => by omega
 | n + 1, s, y, hov, hc0, hp, hN, hlt, hn => by
  have hend := clsS_end m (ln s) y.pl hp
  have hd : docRG m ln f (n + 1) (s, y) = docRG m ln f n (docStepG m ln f (s, y)) := by
   show (if y.over = true then (s, y) else docRG m ln f n (docStepG m ln f (s, y))) = _
   rw [if_neg (by rw [hov]; simp)]
  rw [hd]
  unfold runD
  rw [if_pos hlt]
  unfold docStepG stepD
  dsimp only
  generalize entS m (ln s) (drvW y) = e
  generalize f s y.pl e = r
  rw [hend]
  unfold goS
  dsimp only
  by_cases c1 : e.flags / 16384 % 2 = 1
  ·rw [if_pos c1, decide_eq_true c1]
   simp only [Bool.not_true, Bool.false_and, Bool.false_eq_true, if_false, if_true]
   by_cases c2 : y.rest + 1 > 64
   ·rw [if_pos c2, if_pos (Or.inr c2)]
    rw [ζ9l _ _ _ _ _ rfl]
   ·rw [if_neg c2]
    by_cases c3 : y.stp + 1 ≥ y.most
    ·rw [if_pos (Or.inl c3), ζ9l _ _ _ _ _ rfl]
     cases n with
     | zero => rfl
     | succ n => unfold runD; dsimp only; rw [if_neg (by omega)]
    ·rw [if_neg (by omega)]
     exact doc_runG m ln f N n _ ⟨e.next, max r.2.1 0, y.stp + 1, y.rest + 1, y.most, y.over, y.code⟩ hov hc0 (by dsimp only; omega) hN (by dsimp only; omega) (by dsimp only; omega)
  ·rw [if_neg c1, decide_eq_false c1]
   simp only [Bool.not_false, Bool.true_and, Bool.false_eq_true, if_false]
   by_cases c4 : y.pl ≥ (ln s).length
   ·rw [decide_eq_true c4]
    simp only [if_true]
    rw [ζ9l _ _ _ _ _ rfl, hc0]
   ·rw [decide_eq_false c4]
    simp only [Bool.false_eq_true, if_false]
    rw [if_neg (show ¬ (0 : Int) > 64 by decide)]
    by_cases c3 : y.stp + 1 ≥ y.most
    ·rw [if_pos (Or.inl c3), ζ9l _ _ _ _ _ rfl]
     cases n with
     | zero => rfl
     | succ n => unfold runD; dsimp only; rw [if_neg (by omega)]
    ·rw [if_neg (by omega)]
     exact doc_runG m ln f N n _ ⟨e.next, max r.2.2 0, y.stp + 1, 0, y.most, y.over, y.code⟩ hov hc0 (by dsimp only; omega) hN (by dsimp only; omega) (by dsimp only; omega)
theorem goS_all (y : Way) (e : En) (n stay on : Int) (hr : 0 ≤ y.rest) : let z := goS y e n stay on
  z.most = y.most ∧ z.stp = y.stp + 1 ∧ z.st = e.next ∧ 0 ≤ z.pl ∧ z.pl ≤ max (max stay on) 0 ∧ 0 ≤ z.rest ∧ z.rest ≤ y.rest + 1 ∧ (z.over = false → z.stp < z.most ∧ z.rest ≤ 64) := by
 intro z
 have hz : z = goS y e n stay on := rfl
 clear_value z
 unfold goS at hz
 dsimp only at hz
 by_cases c1 : e.flags / 16384 % 2 = 1
 ·rw [decide_eq_true c1] at hz
  simp only [Bool.not_true, Bool.false_and, Bool.false_eq_true, if_false, if_true] at hz
  split at hz <;> subst hz <;> dsimp only <;> refine ⟨rfl, rfl, rfl, by omega, by omega, by omega, by omega, fun h => ?_⟩
  ·cases h
  ·omega
 ·rw [decide_eq_false c1] at hz
  simp only [Bool.not_false, Bool.true_and, Bool.false_eq_true, if_false] at hz
  split at hz
  ·subst hz; dsimp only; exact ⟨rfl, rfl, rfl, by omega, by omega, by omega, by omega, fun h => by cases h⟩
  ·split at hz <;> subst hz <;> dsimp only <;> refine ⟨rfl, rfl, rfl, by omega, by omega, by omega, by omega, fun h => ?_⟩
   ·cases h
   ·omega
def WayOk (m : Mach) (N j : Nat) (y : Way) : Prop := y.over = false → y.stp = j ∧ y.stp < N ∧ y.most = N ∧ 0 ≤ y.pl ∧ y.pl ≤ 128 * j ∧ 0 ≤ y.rest ∧ y.rest ≤ j ∧ 0 ≤ y.st ∧ y.st < m.rows.length
theorem doc_loop {body : Env → Heap → Res (AExit × Env)} (m : Mach) (hm : m.ok) (ln : σ → List Gl) (f : σ → Int → En → σ × Int × Int) (N : Nat) (h0N : 0 < N) (hN : N < 2 ^ 42)
  (At : σ × Way → Env → Heap → Prop) (Inv : σ → Prop) (Q : σ × Way → AExit → Env → Heap → Prop)
  (hover : ∀ x e H, At x e H → Inv x.1 → x.2.over = true → ∃ xx e' H', body e H = .ok (xx, e') H' ∧ xx ≠ .normal ∧ Q x xx e' H')
  (hstep : ∀ s y en e H, At (s, y) e H → Inv s → y.over = false → 0 ≤ y.pl → y.pl < 2 ^ 50 → 0 ≤ y.stp → y.stp < 2 ^ 50 → 0 ≤ y.rest → y.rest < 2 ^ 50 → en ∈ m.ents → en = entS m (ln s) (drvW y) →
   ∃ e' H', body e H = .ok (.normal, e') H' ∧ At ((f s y.pl en).1, goS y en ((ln s).length : Int) (f s y.pl en).2.1 (f s y.pl en).2.2) e' H' ∧ Inv (f s y.pl en).1 ∧ (f s y.pl en).2.1 ≤ y.pl + 128 ∧ (f s y.pl en).2.2 ≤ y.pl + 128)
  (s0 : σ) {e0 : Env} {H0 : Heap} (hA : At (s0, ⟨0, 0, 0, 0, N, false, 0⟩) e0 H0) (hI : Inv s0) :
  ∃ xx e' H', loopN body loopFuel e0 H0 = .ok (xx, e') H' ∧ Q (docRG m ln f N (s0, ⟨0, 0, 0, 0, N, false, 0⟩)) xx e' H' := by
 generalize hr0 : docRG m ln f N (s0, ⟨0, 0, 0, 0, N, false, 0⟩) = r
 exact loop_up (body := body) N
  (fun j e H' => ∃ x : σ × Way, At x e H' ∧ Inv x.1 ∧ docRG m ln f (N - j) x = r ∧ WayOk m N j x.2)
  (fun xx e H' => Q r xx e H')
  ⟨_, hA, hI, by rw [Nat.sub_zero]; exact hr0, fun _ => by have := hm.two; dsimp only; omega⟩ (by omega)
  (fun j e H' hj ⟨x, hA, hI, hd, hnot⟩ => by
   obtain ⟨s, y⟩ := x
   dsimp only at hI hnot
   cases hov : y.over with
   | true =>
    rw [ζ9l _ _ _ _ _ hov] at hd
    subst hd
    obtain ⟨xx, e', H2, h1, h2, h3⟩ := hover (s, y) e H' hA hI hov
    exact .inr ⟨xx, e', H2, h1, h2, h3⟩
   | false =>
    obtain ⟨n1, n2, n3, n4, n5, n6, n7, n8, n9⟩ := hnot hov
    have hNj : N - j = (N - (j + 1)) + 1 := by omega
    rw [hNj] at hd
    have hd2 : docRG m ln f (N - (j + 1)) (docStepG m ln f (s, y)) = r := by
     rw [← hd]
     show _ = (if y.over = true then _ else docRG m ln f (N - (j + 1)) (docStepG m ln f (s, y)))
     rw [if_neg (by rw [hov]; simp)]
    unfold docStepG at hd2
    dsimp only at hd2
    have hmem := entS_mem hm (ln s) (drvW y) ⟨n8, n9⟩
    have hent := hm.ent _ hmem
    obtain ⟨e', H2, h1, h2, h3, h4, h5⟩ := hstep s y _ e H' hA hI hov n4 (by omega) (by omega) (by omega) n6 (by omega) hmem rfl
    refine .inl ⟨e', H2, h1, _, h2, h3, hd2, fun hz => ?_⟩
    have g := goS_all y (entS m (ln s) (drvW y)) ((ln s).length : Int) (f s y.pl (entS m (ln s) (drvW y))).2.1 (f s y.pl (entS m (ln s) (drvW y))).2.2 n6
    dsimp only at g hz ⊢
    obtain ⟨g1, g2, g3, g4, g5, g6, g7, g8⟩ := g
    have := g8 hz
    refine ⟨by omega, by omega, by omega, g4, by omega, g6, by omega, by omega, by omega⟩)
  (fun e H' ⟨x, hA, hI, hd, hnot⟩ => by
   rw [Nat.sub_self] at hd
   have hd : x = r := hd
   subst hd
   have hov : x.2.over = true := by
    cases h : x.2.over with
    | true => rfl
    | false => have := hnot h; omega
   exact hover x e H' hA hI hov)
end Go.Sw
end
section
namespace Go.Sw
open Go.RowKit
end Go.Sw
end
section
namespace Go.Sw
open Go.RowKit
end Go.Sw
end
section
namespace Go.Sw
open Go.RowKit
abbrev zC10 : List Value := [.slice none 0 0, .int .i64 0, .int .i64 0, .int .i64 0, .int .i64 0, .int .i64 0, .int .i64 0, .slice none 0 0, .slice none 0 0, .slice none 0 0]
abbrev rmC (r : RMach) : List Value := rmCells r.b r.cl r.rowsAt r.entsAt r.states r.n r.words r.tb r.parts
end Go.Sw
end
section
namespace Go.Sw
open Go.RowKit
end Go.Sw
end
section
namespace Go.Sw
open Go.RowKit
end Go.Sw
end
