/-
  Functions' forms, and what is proved of them, part 8.
-/
import Derived.Test.YtnaodjnimkndbabSwW7
import Derived.Test.YtnaodjnimkndbabSwW1
import Derived.Test.YtnaodjnimkndbabSwW5
import Derived.Test.YtnaodjnimkndbabSwW4
import Derived.Test.YtnaodjnimkndbabSwW6
import Derived.Test.YtnaodjnimkndbabSwW2
import Derived.Test.YtnaodjnimkndbabSwW3
import Derived.Test.YtnaodjnimkndbabSwCfg
set_option linter.unusedSimpArgs false
set_option linter.unusedVariables false
set_option linter.unusedSectionVars false
section
namespace Go.Sw
open Go.RowKit
theorem ofInt64 (v : Int) : ((BitVec.ofInt 64 v).toNat : Int) = v % 18446744073709551616 := by
 rw [BitVec.toNat_ofInt]
 omega
theorem bin_and1 (P : Program) (t : TypeId) (H : Heap) (v : Int) : binR P .and t (.int .i64 v) (.int .i64 1) H = .ok (.int .i64 (v % 2)) H := by
 have e1 : binV P .and t (.int .i64 v) (.int .i64 1) = some (.int .i64 (IntKind.i64.wrap (BitVec.ofInt 64 v &&& BitVec.ofInt 64 1).toNat)) := rfl
 have e : ((BitVec.ofInt 64 v &&& BitVec.ofInt 64 1).toNat : Int) = v % 2 := by
  rw [BitVec.toNat_and, show (BitVec.ofInt 64 1).toNat = 1 from rfl, Nat.and_one_is_mod]
  have := ofInt64 v
  omega
 unfold binR
 rw [e1, e, wrap_i64 (by omega) (by omega)]
 rfl
theorem and_not1 (n : Nat) (h : n < 18446744073709551616) : n &&& 18446744073709551614 = n - n % 2 := by
 have e : n - n % 2 = 2 * (n / 2) := by omega
 rw [e]
 apply Nat.eq_of_testBit_eq
 intro i
 rw [Nat.testBit_and]
 cases i with
 | zero =>
  have h0 : (18446744073709551614 : Nat).testBit 0 = false := by decide
  rw [h0, Bool.and_false, Nat.testBit_zero]
  have : ¬ 2 * (n / 2) % 2 = 1 := by omega
  rw [decide_eq_false this]
 | succ i =>
  have h1 : (18446744073709551614 : Nat) = 2 * (2 ^ 63 - 1) := by decide
  rw [h1]
  rw [Nat.testBit_succ, Nat.testBit_succ, Nat.testBit_succ, Nat.mul_div_cancel_left _ (by decide : 0 < 2), Nat.mul_div_cancel_left _ (by decide : 0 < 2), Nat.testBit_two_pow_sub_one]
  by_cases hi : i < 63
  ·rw [decide_eq_true hi, Bool.and_true]
  ·rw [decide_eq_false hi, Bool.and_false]
   symm
   refine Nat.testBit_lt_two_pow ?_
   have : 2 ^ 63 ≤ 2 ^ i := Nat.pow_le_pow_right (by decide) (by omega)
   omega
theorem bin_andNot1 (P : Program) (t : TypeId) (H : Heap) (v : Int) (h0 : -2 ^ 62 < v) (h1 : v < 2 ^ 62) : binR P .andNot t (.int .i64 v) (.int .i64 1) H = .ok (.int .i64 (v - v % 2)) H := by
 have e1 : binV P .andNot t (.int .i64 v) (.int .i64 1) = some (.int .i64 (IntKind.i64.wrap (BitVec.ofInt 64 v &&& ~~~(BitVec.ofInt 64 1)).toNat)) := rfl
 have e : (BitVec.ofInt 64 v &&& ~~~(BitVec.ofInt 64 1)).toNat = (BitVec.ofInt 64 v).toNat - (BitVec.ofInt 64 v).toNat % 2 := by
  rw [BitVec.toNat_and, show (~~~(BitVec.ofInt 64 1) : BitVec 64).toNat = 18446744073709551614 from rfl]
  exact and_not1 _ (BitVec.ofInt 64 v).isLt
 have hv := ofInt64 v
 have hw : IntKind.i64.wrap ((BitVec.ofInt 64 v &&& ~~~(BitVec.ofInt 64 1)).toNat : Int) = v - v % 2 := by
  rw [e]
  generalize (BitVec.ofInt 64 v).toNat = N at hv
  unfold IntKind.wrap
  simp [IntKind.signed, IntKind.bits]
  split <;> omega
 unfold binR
 rw [e1, hw]
 rfl
abbrev stackC (t : STab) : List Value := [machV t.m, lv encB t.vals]
abbrev stackV (t : STab) : Value := boxV (stackC t).toArray
theorem Flat.stack (t : STab) : Flat (stackV t) := .boxV (.cons (Flat.mach t.m) (.cons (Flat.B _) .nil))
theorem odd_next {vs : List Int} {a : Int} (hb : Byt vs) (ha : 0 ≤ a) (h : oddB vs a = true) : 2 * a + 2 ≤ vs.length ∧ uS vs (2 * a) 2 = some (gU vs (2 * a) 2) ∧ (-32768 ≤ s16 (gU vs (2 * a) 2) ∧ s16 (gU vs (2 * a) 2) < 32768) ∧ (lastS vs a = false → oddB vs (a + 1) = true) := by
 obtain ⟨i, h1, h2, h3⟩ := oddB_iff.1 h
 have hl : 2 * a + 2 ≤ vs.length := by omega
 obtain ⟨x, hx⟩ : ∃ x, uS vs (2 * a) 2 = some x := by
  cases hu : uS vs (2 * a) 2 with
  | some x => exact ⟨x, rfl⟩
  | none =>
   exfalso
   unfold uS pieceS at hu
   rw [if_pos ⟨by omega, by omega, by omega, by omega⟩] at hu
   simp at hu
 have hg := gU_some hx
 rw [hg]
 have hxb := uS_two hb hx
 refine ⟨hl, hx, ?_, fun hlast => ?_⟩
 ·unfold s16
  split <;> omega
 ·refine oddB_iff.2 ⟨i, ?_, h2, h3⟩
  unfold lastS at hlast
  have hlast := of_decide_eq_false hlast
  rw [hg] at hlast
  by_cases hia : (i : Int) = a
  ·exfalso
   rw [hia, hg] at h3
   apply hlast
   unfold s16
   split <;> omega
  ·omega
set_option maxHeartbeats 1000000 in
theorem stackMove_star (k : Nat) (t : STab) (hbt : Byt t.vals) (hlt : t.vals.length < 2 ^ 31) {H0 H : Heap} {L : List It} (g : Star H0 H L) (ik ip : Nat) (hne : ik ≠ ip) {ck p : Nat} {op : Option Nat} {down : Bool} {ks : List Int} {l : List Pl} (hik : L[ik]? = some (itKept ck ks)) (hip : L[ip]? = some (itPl p op down l)) (hok : ∀ q, q ∈ l → q.ok)
  (cross : Bool) (a : Int) (ha : 0 ≤ a) (hodd : oddB t.vals a = true) :
  ∃ H', R (T k) F.stack_Table_move [stackV t, ptrV ck, ptrV p, .int .i64 a, .bool cross] H = .ok (.tuple #[]) H' ∧ Star H0 H' ((L.set ip (itPl p op down (moveS t.vals down cross ks a l).1)).set ik (itKept ck (moveS t.vals down cross ks a l).2)) := by
 have hkl := (List.getElem?_eq_some_iff.1 hik).1
 have hpl := (List.getElem?_eq_some_iff.1 hip).1
 have hks8 : ks.length ≤ 8 := by
  obtain ⟨_, _, h, _⟩ := g.at ik hik
  exact h
 have set0 : (L.set ip (itPl p op down l)).set ik (itKept ck ks) = L := by
  have e1 : L.set ip (itPl p op down l) = L := by
   obtain ⟨hlt, hx⟩ := List.getElem?_eq_some_iff.1 hip
   rw [← hx, List.set_getElem_self]
  rw [e1]
  obtain ⟨hlt, hx⟩ := List.getElem?_eq_some_iff.1 hik
  rw [← hx, List.set_getElem_self]
 have atK : ∀ l' ks', ((L.set ip (itPl p op down l')).set ik (itKept ck ks'))[ik]? = some (itKept ck ks') := fun l' ks' => List.getElem?_set_self (by simpa using hkl)
 have atP : ∀ l' ks', ((L.set ip (itPl p op down l')).set ik (itKept ck ks'))[ip]? = some (itPl p op down l') := fun l' ks' => by
  rw [List.getElem?_set_ne hne]
  exact List.getElem?_set_self hpl
 have setK : ∀ l' ks' ks'', ((L.set ip (itPl p op down l')).set ik (itKept ck ks')).set ik (itKept ck ks'') = (L.set ip (itPl p op down l')).set ik (itKept ck ks'') := fun l' ks' ks'' => List.set_set _
 have setP : ∀ l' l'' ks', ((L.set ip (itPl p op down l')).set ik (itKept ck ks')).set ip (itPl p op down l'') = (L.set ip (itPl p op down l'')).set ik (itKept ck ks') := fun l' l'' ks' => by
  rw [List.set_comm _ _ hne, List.set_set]
 have one : ∀ {H' : Heap} {l' : List Pl} {ks' : List Int} (j v : Int), (∀ q, q ∈ l' → q.ok) → Star H0 H' ((L.set ip (itPl p op down l')).set ik (itKept ck ks')) →
   ∃ H2, (if cross = false then R (T k) F.place_Places_Along [ptrV p, .int .i64 j, .int .i64 v] H' else if v = -32768 then R (T k) F.place_Places_Level [ptrV p, .int .i64 j] H' else R (T k) F.place_Places_Across [ptrV p, .int .i64 j, .int .i64 v] H') = .ok (.tuple #[]) H2 ∧
    Star H0 H2 ((L.set ip (itPl p op down (onePl down cross l' j v))).set ik (itKept ck ks')) := fun {H' l' ks'} j v hq st => by
  unfold onePl
  by_cases c : cross = false
  ·rw [if_pos c, if_pos c]
   obtain ⟨H2, e, st2⟩ := along_star k st ip (atP _ _) hq j v
   rw [setP] at st2
   exact ⟨H2, e, st2⟩
  ·rw [if_neg c, if_neg c]
   by_cases c2 : v = -32768
   ·rw [if_pos c2, if_pos c2]
    obtain ⟨H2, e, st2⟩ := level_star k st ip (atP _ _) hq j
    rw [setP] at st2
    exact ⟨H2, e, st2⟩
   ·rw [if_neg c2, if_neg c2]
    obtain ⟨H2, e, st2⟩ := across_star k st ip (atP _ _) hq j v
    rw [setP] at st2
    exact ⟨H2, e, st2⟩
 rw [stack_Table_move_R]
 obtain ⟨xx, e', H1, hr1, rfl, hE, st⟩ := loop_up (body := stack_Table_move_l1 k (R (T k))) ks.length
  (fun j e H' => e = [(0, stackV t), (1, ptrV ck), (2, ptrV p), (3, .int .i64 (a + j)), (4, .bool cross)] ∧ ∃ l' : List Pl, (∀ q, q ∈ l' → q.ok) ∧ oddB t.vals (a + j) = true ∧ moveS t.vals down cross (ks.drop j) (a + j) l' = moveS t.vals down cross ks a l ∧ Star H0 H' ((L.set ip (itPl p op down l')).set ik (itKept ck (ks.drop j))))
  (fun xx e H' => xx = .ret ∧ ((∃ z v, e = [(0, stackV t), (1, ptrV ck), (2, ptrV p), (3, z), (4, .bool cross), (10, v), (22, .bool true)]) ∨ (∃ z, e = [(0, stackV t), (1, ptrV ck), (2, ptrV p), (3, z), (4, .bool cross), (51, .bool true)])) ∧ Star H0 H' ((L.set ip (itPl p op down (moveS t.vals down cross ks a l).1)).set ik (itKept ck (moveS t.vals down cross ks a l).2)))
  (e0 := [(0, stackV t), (1, ptrV ck), (2, ptrV p), (3, .int .i64 a), (4, .bool cross)]) (H0 := H) ⟨by simp, l, hok, by simpa using hodd, by simp, by rw [List.drop_zero, set0]; exact g⟩ (by omega)
  (fun j e H' hj ⟨he, l', hq, ho, hm, st⟩ => by
   subst he
   obtain ⟨x, hx⟩ : ∃ x, ks[j]? = some x := ⟨_, List.getElem?_eq_getElem hj⟩
   have hd : ks.drop j = x :: ks.drop (j + 1) := by rw [List.drop_eq_getElem_cons hj, (List.getElem?_eq_some_iff.1 hx).2]
   rw [hd] at st hm
   obtain ⟨H2, e2, st2⟩ := keptPop_star k st ik (atK _ _)
   rw [setK] at st2
   simp only [List.head?_cons, Option.getD_some, List.isEmpty_cons, Bool.not_false, List.tail_cons] at e2 st2
   obtain ⟨o1, o2, o3, o4⟩ := odd_next hbt (by omega) ho
   have hi16 := fun H' => I16_run k (Sl.lv H' 1 t.vals) hbt (2 * (a + j)) (by omega)
   rw [o2] at hi16
   have hi16 : ∀ H', R (T k) F.view_View_I16 [.agg #[lv encB t.vals], .int .i64 (2 * (a + j))] H' = .ok (.int .i64 (s16 (gU t.vals (2 * (a + j)) 2))) H' := hi16
   have hv : valV t.vals (a + j) = s16 (gU t.vals (2 * (a + j)) 2) - s16 (gU t.vals (2 * (a + j)) 2) % 2 := rfl
   have hlv : lastS t.vals (a + j) = decide (s16 (gU t.vals (2 * (a + j)) 2) % 2 = 1) := rfl
   have an1 := fun H => bin_and1 Prog 3 H (s16 (gU t.vals (2 * (a + j)) 2))
   have an2 := fun H => bin_andNot1 Prog 3 H (s16 (gU t.vals (2 * (a + j)) 2)) (by omega) (by omega)
   rw [← hv] at an2
   have hm : (if lastS t.vals (a + j) then (onePl down cross l' x (valV t.vals (a + j)), ks.drop (j + 1)) else moveS t.vals down cross (ks.drop (j + 1)) (a + j + 1) (onePl down cross l' x (valV t.vals (a + j)))) = moveS t.vals down cross ks a l := hm
   obtain ⟨H3, e3, st3⟩ := one x (valV t.vals (a + j)) hq st2
   have hq3 := onePl_ok hq down cross x (valV t.vals (a + j))
   have hvb : -32770 ≤ valV t.vals (a + j) ∧ valV t.vals (a + j) < 32768 := by rw [hv]; omega
   generalize valV t.vals (a + j) = vv at an2 hm e3 st3 hq3 hvb hv
   generalize s16 (gU t.vals (2 * (a + j)) 2) = sv at hi16 hlv an1 an2 o3 hv
   by_cases d : sv % 2 = 1
   ·rw [hlv, decide_eq_true d, if_pos rfl] at hm
    refine .inr ⟨.ret, _, H3, ?_, by simp, rfl, .inr ⟨.int .i64 (a + j), rfl⟩, by rw [← hm]; exact st3⟩
    rw [stack_Table_move_l1_eq]
    cases cross with
    | false =>
     rw [if_pos rfl] at e3
     simp -implicitDefEqProofs (disch := omega) [e2, hi16, an2, e3, stack_Table_move_j1_eq, an1, d]
    | true =>
     rw [if_neg (by decide)] at e3
     by_cases d2 : vv = -32768
     ·rw [if_pos d2] at e3
      have d2' : (vv == -32768) = true := by rw [beq_iff_eq]; exact d2
      simp -implicitDefEqProofs (disch := omega) [e2, hi16, an2, d2', e3, stack_Table_move_j1_eq, an1, d]
     ·rw [if_neg d2] at e3
      have d2' : (vv == -32768) = false := by rw [beq_eq_false_iff_ne]; exact d2
      simp -implicitDefEqProofs (disch := omega) [e2, hi16, an2, d2', e3, stack_Table_move_j1_eq, an1, d]
   ·rw [hlv, decide_eq_false d, if_neg (by simp)] at hm
    have d' : (sv % 2 == 1) = false := by rw [beq_eq_false_iff_ne]; exact d
    have hj1 : a + ((j + 1 : Nat) : Int) = a + j + 1 := by omega
    refine .inl ⟨_, H3, ?_, rfl, onePl down cross l' x vv, hq3, by rw [hj1]; exact o4 (by rw [hlv, decide_eq_false d]), by rw [hj1]; exact hm, st3⟩
    rw [stack_Table_move_l1_eq, hj1]
    cases cross with
    | false =>
     rw [if_pos rfl] at e3
     simp -implicitDefEqProofs (disch := omega) [e2, hi16, an2, e3, stack_Table_move_j1_eq, an1, d']
    | true =>
     rw [if_neg (by decide)] at e3
     by_cases d2 : vv = -32768
     ·rw [if_pos d2] at e3
      have d2' : (vv == -32768) = true := by rw [beq_iff_eq]; exact d2
      simp -implicitDefEqProofs (disch := omega) [e2, hi16, an2, d2', e3, stack_Table_move_j1_eq, an1, d']
     ·rw [if_neg d2] at e3
      have d2' : (vv == -32768) = false := by rw [beq_eq_false_iff_ne]; exact d2
      simp -implicitDefEqProofs (disch := omega) [e2, hi16, an2, d2', e3, stack_Table_move_j1_eq, an1, d'])
  (fun e H' ⟨he, l', hq, ho, hm, st⟩ => by
   subst he
   rw [List.drop_length] at st hm
   obtain ⟨H2, e2, st2⟩ := keptPop_star k st ik (atK _ _)
   rw [setK] at st2
   have hm : (l', ([] : List Int)) = moveS t.vals down cross ks a l := hm
   refine ⟨.ret, _, H2, ?_, by simp, rfl, .inl ⟨.int .i64 (a + ks.length), .int .i64 0, rfl⟩, by rw [← hm]; exact st2⟩
   rw [stack_Table_move_l1_eq]
   simp -implicitDefEqProofs (disch := omega) [e2])
 refine ⟨H1, nrm_of ?_, st⟩
 rcases hE with ⟨z, v, rfl⟩ | ⟨z, rfl⟩
 ·simp -implicitDefEqProofs [stack_Table_move, hr1, stack_Table_move_l1k_r]
 ·simp -implicitDefEqProofs [stack_Table_move, hr1, stack_Table_move_l1k_r_1]
end Go.Sw
end
section
namespace Go.Sw
open Go.RowKit
theorem and_two15 (n : Nat) : n &&& 2 ^ 15 = if n.testBit 15 then 2 ^ 15 else 0 := by
 apply Nat.eq_of_testBit_eq
 intro i
 rw [Nat.testBit_and, Nat.testBit_two_pow]
 by_cases h : 15 = i
 ·subst h
  cases hb : n.testBit 15 <;> simp <;> decide
 ·cases hb : n.testBit 15
  ·simp [h]
  ·simp only [h, decide_false, Bool.and_false, if_true, Nat.testBit_two_pow]
theorem and15 (P : Program) (t : TypeId) (H : Heap) {a : Int} (h0 : 0 ≤ a) (h1 : a < 65536) : binR P .and t (.int .i64 a) (.int .i64 32768) H = .ok (.int .i64 (if a ≥ 32768 then 32768 else 0)) H := by
 have e : (BitVec.ofInt 64 a &&& BitVec.ofInt 64 32768).toNat = (if a ≥ 32768 then 32768 else 0) := by
  rw [BitVec.toNat_and, BitVec.toNat_ofInt, BitVec.toNat_ofInt]
  rw [show ((32768 : Int) % ((2 ^ 64 : Nat) : Int)).toNat = 2 ^ 15 from by decide, and_two15, Nat.testBit_eq_decide_div_mod_eq]
  obtain ⟨n, rfl⟩ := Int.eq_ofNat_of_zero_le h0
  rw [show (((n : Int)) % ((2 ^ 64 : Nat) : Int)).toNat = n by omega]
  by_cases h : (n : Int) ≥ 32768
  ·rw [if_pos h, decide_eq_true (show n / 2 ^ 15 % 2 = 1 by omega)]; rfl
  ·rw [if_neg h, decide_eq_false (show ¬ n / 2 ^ 15 % 2 = 1 by omega)]; rfl
 have e1 : binV P .and t (.int .i64 a) (.int .i64 32768) = some (.int .i64 (IntKind.i64.wrap (BitVec.ofInt 64 a &&& BitVec.ofInt 64 32768).toNat)) := rfl
 unfold binR
 rw [e1, e]
 by_cases h : a ≥ 32768
 ·simp [h]
 ·simp [h]
end Go.Sw
end
section
namespace Go.Sw
open Go.RowKit
theorem plainNew (k : Nat) (f : Fn) (a b : Array Value) (H : Heap) : R (T k) F.drive_Plain [.func f a b] H = .ok (.func (.func F.drive_Plain_in1) #[] #[ptrV H.n]) (H.push ⟨[.func f a b], 1, false⟩) := by
 rw [drive_Plain_R]
 have e : drive_Plain k (R (T k)) (.func f a b) H = .ok (.func (.func F.drive_Plain_in1) #[] #[ptrV H.n]) (H.push ⟨[.func f a b], 1, false⟩) := by
  simp -implicitDefEqProofs [drive_Plain]
 rw [e]
 have dead : ¬ Alive H (.func (.func F.drive_Plain_in1) #[] #[ptrV H.n]) := fun h => by
  cases h with
  | func fn xs ys h1 h2 =>
   have := h2 0 (ptrV H.n) rfl
   cases this with
   | ptr b off k hg => have := Heap.get_lt hg; omega
 unfold nrm
 exact if_neg fun hc => dead hc.2
end Go.Sw
end
section
namespace Go.Sw
open Go.RowKit
theorem veq_Ens (l : List En) : veq (lv encEn l) (lv encEn l) = true := veq_lv fun p _ v hv => by
 simp [encEn] at hv
 rcases hv with rfl | rfl | rfl | rfl <;> simp
theorem veq_Is (l : List Int) : veq (lv encI l) (lv encI l) = true := veq_lv fun p _ v hv => by
 simp [encI] at hv
 subst hv; simp
theorem veq_Rows (l : List (List Int)) : veq (lv encRow l) (lv encRow l) = true := veq_lv fun p _ v hv => by
 simp [encRow] at hv
 subst hv; exact veq_Is p
theorem veq_mach (m : Mach) : veq (machV m) (machV m) = true := veq_boxV (l := [.int .i64 m.classes, tabV m.tab, lv encRow m.rows, lv encEn m.ents]) fun v hv => by
 simp at hv
 rcases hv with rfl | rfl | rfl | rfl
 ·simp
 ·exact veq_tab _
 ·exact veq_Rows _
 ·exact veq_Ens _
end Go.Sw
end
section
namespace Go.Sw
open Go.RowKit
theorem veq_stack (t : STab) : veq (stackV t) (stackV t) = true := veq_boxV (l := stackC t) fun v hv => by
 simp [stackC] at hv
 rcases hv with rfl | rfl
 ·exact veq_mach _
 ·exact veq_B _
def stackW (t : STab) (L : List It) (ip p : Nat) (op : Option Nat) (down : Bool) (c ck p3 p4 p5 p6 : Nat) (cross : Bool) (s : List Pl × List Int) : List It :=
 L.set ip (itPl p op down s.1) ++ [itKept ck s.2, itBlk p3 ⟨[ptrV c], 1, false⟩, itBlk p4 ⟨[stackV t], 1, false⟩, itBlk p5 ⟨[ptrV p], 1, false⟩, itBlk p6 ⟨[.bool cross], 1, false⟩]
set_option maxHeartbeats 1000000 in
/-- What is asked of what is kept, and the move. -/
theorem stack_tail (k : Nat) (t : STab) (ht : t.ok) {H0 H : Heap} {Q : List It} (ik ip : Nat) (hne : ik ≠ ip) {ck p p4 p5 p6 q : Nat} {op : Option Nat} {down cross : Bool} {ks : List Int} {l : List Pl} {e : En} (he : e ∈ t.m.ents)
  (st : Star H0 H Q) (hik : Q[ik]? = some (itKept ck ks)) (hip : Q[ip]? = some (itPl p op down l)) (hok : ∀ q, q ∈ l → q.ok)
  (h4 : H.get p4 = some ⟨[stackV t], 1, false⟩) (h5 : H.get p5 = some ⟨[ptrV p], 1, false⟩) (h6 : H.get p6 = some ⟨[.bool cross], 1, false⟩) (hq : H.get q = some ⟨encEn e, 1, false⟩) :
  ∃ H', stack_Table_Run_in1_j3 k (R (T k)) (ptrV ck) (ptrV p4) (ptrV p5) (ptrV p6) (ptrV q) H = .ok (.tuple #[]) H' ∧ (∀ a0 a23, stack_Table_Run_in1_j4 k (R (T k)) a0 (ptrV ck) (ptrV p4) (ptrV p5) (ptrV p6) (ptrV q) a23 H = .ok (.tuple #[]) H') ∧
   Star H0 H' ((Q.set ip (itPl p op down (if e.a = 65535 then (l, ks) else moveS t.vals down cross ks e.a l).1)).set ik (itKept ck (if e.a = 65535 then (l, ks) else moveS t.vals down cross ks e.a l).2)) := by
 have hent := ht.m.ent e he
 by_cases ha : e.a = 65535
 ·have ha' : (e.a != 65535) = false := by rw [ha]; rfl
  rw [if_pos ha]
  refine ⟨H, ?_, fun a0 a23 => ?_, ?_⟩
  ·rw [stack_Table_Run_in1_j3_eq]
   simp -implicitDefEqProofs (disch := omega) [hq, ha']
  ·rw [stack_Table_Run_in1_j4_eq]
   simp -implicitDefEqProofs (disch := omega) [hq, ha']
  ·have e1 : Q.set ip (itPl p op down l) = Q := by
    obtain ⟨hlt, hx⟩ := List.getElem?_eq_some_iff.1 hip
    rw [← hx, List.set_getElem_self]
   dsimp only
   rw [e1]
   obtain ⟨hlt, hx⟩ := List.getElem?_eq_some_iff.1 hik
   rw [← hx, List.set_getElem_self]
   exact st
 ·have ha' : (e.a != 65535) = true := by rw [bne_iff_ne]; exact ha
  rw [if_neg ha]
  obtain ⟨H', e1, st2⟩ := stackMove_star k t ht.byt ht.len st ik ip hne hik hip hok cross e.a (by omega) ((ht.has e he).resolve_left ha)
  refine ⟨H', ?_, fun a0 a23 => ?_, st2⟩
  ·rw [stack_Table_Run_in1_j3_eq]
   simp -implicitDefEqProofs (disch := omega) [hq, ha', h4, h5, h6, e1]
  ·rw [stack_Table_Run_in1_j4_eq]
   simp -implicitDefEqProofs (disch := omega) [hq, ha', h4, h5, h6, e1]
abbrev zeroK : Value := .agg #[.int .i64 0, .int .i64 0, .int .i64 0, .int .i64 0, .int .i64 0, .int .i64 0, .int .i64 0, .int .i64 0, .int .i64 0]
theorem keptClear_star {H0 H : Heap} {L : List It} (g : Star H0 H L) (i : Nat) {c : Nat} {ks : List Int} (hi : L[i]? = some (itKept c ks)) :
  ∃ H', stR 9 (ptrV c) zeroK H = .ok undef H' ∧ Star H0 H' (L.set i (itKept c [])) := by
 have hlt := (List.getElem?_eq_some_iff.1 hi).1
 obtain ⟨xs, h1, h2, h3, h4⟩ := g.at i hi
 have g1 := g.same i hi (itBlk c ⟨keptC xs ks.length, 1, false⟩) h4 fun b hb => hb
 have self : ∀ kk : Blk, (L.set i (itBlk c kk))[i]? = some (itBlk c kk) := fun kk => List.getElem?_set_self hlt
 have g2 := g1.setBlk i (self _) ⟨keptC [0, 0, 0, 0, 0, 0, 0, 0] 0, 1, false⟩
 rw [List.set_set] at g2
 have g3 := g2.same i (self _) (itKept c []) ⟨[0, 0, 0, 0, 0, 0, 0, 0], rfl, by simp, rfl, g2.get i (self _)⟩ fun b hb => hb
 rw [List.set_set] at g3
 refine ⟨_, ?_, g3⟩
 have hl : (keptC xs ks.length).length = 9 := by simp [h1]
 obtain ⟨x0, x1, x2, x3, x4, x5, x6, x7, hxs⟩ : ∃ x0 x1 x2 x3 x4 x5 x6 x7 : Int, xs = [x0, x1, x2, x3, x4, x5, x6, x7] := by
  match xs, h1 with
  | [x0, x1, x2, x3, x4, x5, x6, x7], _ => exact ⟨x0, x1, x2, x3, x4, x5, x6, x7, rfl⟩
 rw [hxs] at h4
 rw [stR_ptr, if_pos ⟨rfl, rfl⟩]
 unfold putCells
 rw [h4]
 rfl
set_option maxHeartbeats 1000000 in
theorem stack_do (k : Nat) (t : STab) (ht : t.ok) (L : List It) (il ip c p ck p3 p4 p5 p6 : Nat) (o op : Option Nat) (down cross : Bool) (hip : ip < L.length) (gl : List Gl) (hil : L[il]? = some (itLine c o gl)) (hne : il ≠ ip) {H0 : Heap} :
  DoOk k t.m H0 (stackW t L ip p op down c ck p3 p4 p5 p6 cross) (fun s => ∀ q, q ∈ s.1 → q.ok) (.func (.func F.stack_Table_Run_in1) #[] #[ptrV ck, ptrV p3, ptrV p4, ptrV p5, ptrV p6]) (doSt t (gl.length : Int) down cross) := by
 intro s j e H X hI st h0 h1 he
 have hok' := doSt_ok t (gl.length : Int) down cross hI j e
 obtain ⟨l, ks⟩ := s
 dsimp only at hI
 have heb := ht.m.ent e he
 have hill := (List.getElem?_eq_some_iff.1 hil).1
 unfold stackW at st
 dsimp only at st
 obtain ⟨B, hB⟩ : ∃ B : List It, B = [itBlk p3 ⟨[ptrV c], 1, false⟩, itBlk p4 ⟨[stackV t], 1, false⟩, itBlk p5 ⟨[ptrV p], 1, false⟩, itBlk p6 ⟨[.bool cross], 1, false⟩] ++ (X ++ [itBlk H.n ⟨encEn e, 1, false⟩]) := ⟨_, rfl⟩
 obtain ⟨S, hS⟩ : ∃ S : List Pl → List Int → List It, S = fun l' k' => L.set ip (itPl p op down l') ++ itKept ck k' :: B := ⟨_, rfl⟩
 have hSv : ∀ l' k', S l' k' = L.set ip (itPl p op down l') ++ itKept ck k' :: B := fun _ _ => by rw [hS]
 have hkx : ∀ l' k', (S l' k')[L.length]? = some (itKept ck k') := fun l' k' => by
  rw [hSv, List.getElem?_append_right (by simp)]
  simp
 have hpx : ∀ l' k', (S l' k')[ip]? = some (itPl p op down l') := fun l' k' => by
  rw [hSv, List.getElem?_append_left (by simpa using hip), List.getElem?_set_self hip]
 have hlx : ∀ l' k', (S l' k')[il]? = some (itLine c o gl) := fun l' k' => by
  rw [hSv, List.getElem?_append_left (by simpa using hill), List.getElem?_set_ne (fun h => hne h.symm)]
  exact hil
 have setK : ∀ l' k' k'', (S l' k').set L.length (itKept ck k'') = S l' k'' := fun l' k' k'' => by
  rw [hSv, hSv, List.set_append_right _ _ (by simp)]
  simp
 have setP : ∀ l' l'' k', (S l' k').set ip (itPl p op down l'') = S l'' k' := fun l' l'' k' => by
  rw [hSv, hSv, List.set_append_left _ _ (by simpa using hip), List.set_set]
 have look : ∀ {H' : Heap} {l' k'}, Star H0 H' (S l' k') → H'.get p3 = some ⟨[ptrV c], 1, false⟩ ∧ H'.get p4 = some ⟨[stackV t], 1, false⟩ ∧ H'.get p5 = some ⟨[ptrV p], 1, false⟩ ∧ H'.get p6 = some ⟨[.bool cross], 1, false⟩ ∧ H'.get H.n = some ⟨encEn e, 1, false⟩ ∧ R (T k) F.line_Line_Len [ptrV c] H' = .ok (.int .i64 gl.length) H' := fun {H' l' k'} h => by
  have hl := lineLen_run k h il (hlx _ _)
  rw [hSv, hB] at h
  exact ⟨h.memBlk (by simp), h.memBlk (by simp), h.memBlk (by simp), h.memBlk (by simp), h.memBlk (by simp), hl⟩
 have st2 : Star H0 (H.push ⟨encEn e, 1, false⟩) (S l ks) := by
  have := st.push ⟨encEn e, 1, false⟩
  rw [hSv, hB]
  simpa using this
 have fin : ∀ {H' : Heap} {l' k'}, Star H0 H' (S l' k') → Star H0 H' (stackW t L ip p op down c ck p3 p4 p5 p6 cross (l', k') ++ X) := fun {H' l' k'} h => by
  rw [hSv, hB] at h
  have e1 : L.set ip (itPl p op down l') ++ itKept ck k' :: ([itBlk p3 ⟨[ptrV c], 1, false⟩, itBlk p4 ⟨[stackV t], 1, false⟩, itBlk p5 ⟨[ptrV p], 1, false⟩, itBlk p6 ⟨[.bool cross], 1, false⟩] ++ (X ++ [itBlk H.n ⟨encEn e, 1, false⟩])) = (stackW t L ip p op down c ck p3 p4 p5 p6 cross (l', k') ++ X) ++ [itBlk H.n ⟨encEn e, 1, false⟩] := by
   unfold stackW
   simp
  rw [e1] at h
  exact h.drop_last
 have ha15 := fun H => and15 Prog 3 H heb.2.2.1 heb.2.2.2.1
 have ha13 := fun H => and13 Prog 3 H heb.2.2.1 heb.2.2.2.1
 obtain ⟨v3, v4, v5, v6, v7, v8⟩ := look st2
 clear st
 -- all is forgotten
 obtain ⟨k1, hk1⟩ : ∃ k1, k1 = if e.flags / 8192 % 2 = 1 then [] else ks := ⟨_, rfl⟩
 obtain ⟨k2, hk2⟩ : ∃ k2, k2 = if e.flags ≥ 32768 ∧ j < (gl.length : Int) then (j :: k1).take 8 else k1 := ⟨_, rfl⟩
 have hdo : doSt t (gl.length : Int) down cross (l, ks) j e = if e.a = 65535 then (l, k2) else moveS t.vals down cross k2 e.a l := by
  unfold doSt
  rw [hk2, hk1]
 -- the last part
 have tail : ∀ {H' : Heap}, Star H0 H' (S l k2) → ∃ H'', stack_Table_Run_in1_j3 k (R (T k)) (ptrV ck) (ptrV p4) (ptrV p5) (ptrV p6) (ptrV H.n) H' = .ok (.tuple #[]) H'' ∧ (∀ a0 a23, stack_Table_Run_in1_j4 k (R (T k)) a0 (ptrV ck) (ptrV p4) (ptrV p5) (ptrV p6) (ptrV H.n) a23 H' = .ok (.tuple #[]) H'') ∧ Star H0 H'' (stackW t L ip p op down c ck p3 p4 p5 p6 cross (doSt t (gl.length : Int) down cross (l, ks) j e) ++ X) := fun {H'} h => by
  obtain ⟨_, w4, w5, w6, w7, _⟩ := look h
  obtain ⟨H'', t1, t2, t3⟩ := stack_tail k t ht L.length ip (by omega) he h (hkx _ _) (hpx _ _) hI w4 w5 w6 w7
  rw [setP, setK, ← hdo] at t3
  exact ⟨H'', t1, t2, fin t3⟩
 -- a place is kept
 have mid : ∀ {H' : Heap}, Star H0 H' (S l k1) → ∃ H'', stack_Table_Run_in1_j1 k (R (T k)) (.int .i64 j) (ptrV ck) (ptrV p3) (ptrV p4) (ptrV p5) (ptrV p6) (ptrV H.n) H' = .ok (.tuple #[]) H'' ∧ (∀ a12, stack_Table_Run_in1_j2 k (R (T k)) (.int .i64 j) (ptrV ck) (ptrV p3) (ptrV p4) (ptrV p5) (ptrV p6) (ptrV H.n) a12 H' = .ok (.tuple #[]) H'') ∧ Star H0 H'' (stackW t L ip p op down c ck p3 p4 p5 p6 cross (doSt t (gl.length : Int) down cross (l, ks) j e) ++ X) := fun {H'} h => by
  obtain ⟨w3, w4, w5, w6, w7, w8⟩ := look h
  by_cases d2 : e.flags ≥ 32768
  ·rw [if_pos d2] at ha15
   by_cases d3 : j < (gl.length : Int)
   ·rw [if_pos ⟨d2, d3⟩] at hk2
    obtain ⟨H2, e2, h2⟩ := keptPush_star k h L.length (hkx _ _) j
    rw [setK, ← hk2] at h2
    obtain ⟨H3, t1, _, t3⟩ := tail h2
    refine ⟨H3, ?_, fun a12 => ?_, t3⟩
    ·rw [stack_Table_Run_in1_j1_eq]
     simp -implicitDefEqProofs (disch := omega) [w7, ha15, bne, w3, w8, d3, e2, t1]
    ·rw [stack_Table_Run_in1_j2_eq]
     simp -implicitDefEqProofs (disch := omega) [w7, ha15, bne, w3, w8, d3, e2, t1]
   ·rw [if_neg fun h => d3 h.2] at hk2
    rw [← hk2] at h
    obtain ⟨H3, _, t1, t3⟩ := tail h
    refine ⟨H3, ?_, fun a12 => ?_, t3⟩
    ·rw [stack_Table_Run_in1_j1_eq]
     simp -implicitDefEqProofs (disch := omega) [w7, ha15, bne, w3, w8, d3, t1]
    ·rw [stack_Table_Run_in1_j2_eq]
     simp -implicitDefEqProofs (disch := omega) [w7, ha15, bne, w3, w8, d3, t1]
  ·rw [if_neg d2] at ha15
   rw [if_neg fun h => d2 h.1] at hk2
   rw [← hk2] at h
   obtain ⟨H3, _, t1, t3⟩ := tail h
   refine ⟨H3, ?_, fun a12 => ?_, t3⟩
   ·rw [stack_Table_Run_in1_j1_eq]
    simp -implicitDefEqProofs (disch := omega) [w7, ha15, bne, t1]
   ·rw [stack_Table_Run_in1_j2_eq]
    simp -implicitDefEqProofs (disch := omega) [w7, ha15, bne, t1]
 by_cases d1 : e.flags / 8192 % 2 = 1
 ·rw [if_pos d1] at hk1 ha13
  obtain ⟨H1, e1, h1⟩ := keptClear_star st2 L.length (hkx _ _)
  rw [setK, ← hk1] at h1
  obtain ⟨H2, m1, _, m3⟩ := mid h1
  refine ⟨.tuple #[], H2, ?_, m3, hok'⟩
  simp only [callV, List.nil_append, List.cons_append]
  rw [stack_Table_Run_in1_R, nrm_of]
  simp -implicitDefEqProofs (disch := omega) [-stR_ptr, stack_Table_Run_in1, v7, ha13, bne, e1, m1]
 ·rw [if_neg d1] at hk1 ha13
  rw [← hk1] at st2
  obtain ⟨H2, _, m1, m3⟩ := mid st2
  refine ⟨.tuple #[], H2, ?_, m3, hok'⟩
  simp only [callV, List.nil_append, List.cons_append]
  rw [stack_Table_Run_in1_R, nrm_of]
  simp -implicitDefEqProofs (disch := omega) [-stR_ptr, stack_Table_Run_in1, v7, ha13, bne, m1]
theorem Star.perm {H0 H : Heap} {L L' : List It} (h : Star H0 H L) (hp : L.Perm L') : Star H0 H L' := by
 have hpw : L.Pairwise fun x y => ∀ b, b ∈ x.o → b ∉ y.o := List.pairwise_iff_getElem.2 fun i j hi hj hij b hb => h.2.2 i j _ _ (by omega) (List.getElem?_eq_getElem hi) (List.getElem?_eq_getElem hj) b hb
 have hpw' := (hp.pairwise_iff (fun {x y} hxy b hb hb2 => hxy b hb2 hb)).1 hpw
 refine ⟨h.1, fun i x hx => ?_, fun i j x y hij hx hy b hb => ?_⟩
 ·obtain ⟨j, hj⟩ := List.getElem?_of_mem (hp.mem_iff.2 (List.mem_of_getElem? hx))
  exact h.2.1 j x hj
 ·obtain ⟨hi, rfl⟩ := List.getElem?_eq_some_iff.1 hx
  obtain ⟨hj, rfl⟩ := List.getElem?_eq_some_iff.1 hy
  rcases Nat.lt_or_gt_of_ne hij with hlt | hgt
  ·exact List.pairwise_iff_getElem.1 hpw' i j hi hj hlt b hb
  ·exact fun hb2 => List.pairwise_iff_getElem.1 hpw' j i hj hi hgt b hb2 hb
def runStr (t : STab) (gl : List Gl) (down cross : Bool) (l : List Pl) : Int × Int × (List Pl × List Int) :=
 runD t.m (fun _ : List Pl × List Int => gl) (fun s i e => (doSt t (gl.length : Int) down cross s i e, i, i + 1)) (2 * (gl.length : Int) + 128) (2 * gl.length + 128) ((l, []), ⟨0, 0, 0, 0⟩)
def runSt (t : STab) (gl : List Gl) (down cross : Bool) (l : List Pl) : List Pl × Int := ((runStr t gl down cross l).2.2.1, (runStr t gl down cross l).2.1)
set_option maxHeartbeats 1000000 in
theorem stackRun_star (k : Nat) (t : STab) (ht : t.ok) {H0 H : Heap} {L : List It} (h : Star H0 H L) (il ip : Nat) (hne : il ≠ ip) {c p : Nat} {o op : Option Nat} {down : Bool} (cross : Bool) {gl : List Gl} {l : List Pl} (hil : L[il]? = some (itLine c o gl)) (hip : L[ip]? = some (itPl p op down l)) (hl : gl.length < 2 ^ 40) (hok : ∀ q, q ∈ l → q.ok) :
  ∃ H', R (T k) F.stack_Table_Run [stackV t, ptrV c, ptrV p, .bool cross] H = .ok (.int .i64 (runSt t gl down cross l).2) H' ∧ Star H0 H' (L.set ip (itPl p op down (runSt t gl down cross l).1)) := by
 have hlt := (List.getElem?_eq_some_iff.1 hip).1
 have hll := (List.getElem?_eq_some_iff.1 hil).1
 have same : L.set ip (itPl p op down l) = L := by
  obtain ⟨hlt, hx⟩ := List.getElem?_eq_some_iff.1 hip
  rw [← hx, List.set_getElem_self]
 have st := (((h.push ⟨[stackV t], 1, false⟩).push ⟨[ptrV c], 1, false⟩).push ⟨[ptrV p], 1, false⟩).push ⟨[.bool cross], 1, false⟩
 have st := st.push ⟨keptC [0, 0, 0, 0, 0, 0, 0, 0] 0, 1, false⟩
 simp only [hn_push] at st
 obtain ⟨H5, hH5⟩ : ∃ H5, H5 = ((((H.push ⟨[stackV t], 1, false⟩).push ⟨[ptrV c], 1, false⟩).push ⟨[ptrV p], 1, false⟩).push ⟨[.bool cross], 1, false⟩).push ⟨keptC [0, 0, 0, 0, 0, 0, 0, 0] 0, 1, false⟩ := ⟨_, rfl⟩
 rw [← hH5] at st
 have hn5 : H5.n = H.n + 5 := by rw [hH5]; simp
 have ik : (L ++ [itBlk H.n ⟨[stackV t], 1, false⟩] ++ [itBlk (H.n + 1) ⟨[ptrV c], 1, false⟩] ++ [itBlk (H.n + 2) ⟨[ptrV p], 1, false⟩] ++ [itBlk (H.n + 3) ⟨[.bool cross], 1, false⟩] ++ [itBlk (H.n + 4) ⟨keptC [0, 0, 0, 0, 0, 0, 0, 0] 0, 1, false⟩])[L.length + 4]? = some (itBlk (H.n + 4) ⟨keptC [0, 0, 0, 0, 0, 0, 0, 0] 0, 1, false⟩) := by
  rw [List.getElem?_append_right (by simp)]
  simp
 have st := st.same (L.length + 4) ik (itKept (H.n + 4) []) ⟨[0, 0, 0, 0, 0, 0, 0, 0], rfl, by simp, rfl, st.get _ ik⟩ fun b hb => hb
 have eset : ∀ (x1 x2 x3 x4 x5 y : It), (L ++ [x1] ++ [x2] ++ [x3] ++ [x4] ++ [x5]).set (L.length + 4) y = L ++ ([x1, x2, x3, x4] ++ [y]) := fun x1 x2 x3 x4 x5 y => by
  rw [List.set_append_right _ _ (by simp)]
  simp
 rw [eset] at st
 have st : Star H0 H5 (stackW t L ip p op down c (H.n + 4) (H.n + 1) H.n (H.n + 2) (H.n + 3) cross (l, [])) := by
  refine st.perm ?_
  unfold stackW
  dsimp only
  rw [same]
  refine List.Perm.append_left L ?_
  exact List.perm_append_comm.trans (List.Perm.cons _ (List.Perm.swap _ _ _))
 have ePl := plainNew k (.func F.stack_Table_Run_in1) #[] #[ptrV (H.n + 4), ptrV (H.n + 1), ptrV H.n, ptrV (H.n + 2), ptrV (H.n + 3)] H5
 have st4 := st.push ⟨[.func (.func F.stack_Table_Run_in1) #[] #[ptrV (H.n + 4), ptrV (H.n + 1), ptrV H.n, ptrV (H.n + 2), ptrV (H.n + 3)]], 1, false⟩
 have hact := plain_ok k (stack_do k t ht L il ip c p (H.n + 4) (H.n + 1) H.n (H.n + 2) (H.n + 3) o op down cross hlt gl hil hne (H0 := H0)) H5.n
 obtain ⟨H7, eR, st5, _⟩ := driveRun_star k t.m ht.m (fun s : List Pl × List Int => stackW t L ip p op down c (H.n + 4) (H.n + 1) H.n (H.n + 2) (H.n + 3) cross s ++ [itBlk H5.n ⟨[.func (.func F.stack_Table_Run_in1) #[] #[ptrV (H.n + 4), ptrV (H.n + 1), ptrV H.n, ptrV (H.n + 2), ptrV (H.n + 3)]], 1, false⟩]) (fun s => ∀ q, q ∈ s.1 → q.ok) (fun _ => gl) c
  (fun s => ⟨il, o, by
   unfold stackW
   rw [List.append_assoc, List.getElem?_append_left (by simpa using hll), List.getElem?_set_ne (fun h => hne h.symm)]
   exact hil⟩) _ _ hact [] (l, []) hok (by simpa [List.append_assoc] using st4) hl
 have hr : runD t.m (fun _ : List Pl × List Int => gl) (fun s i e => (doSt t (gl.length : Int) down cross s i e, i, i + 1)) (2 * (gl.length : Int) + 128) (2 * gl.length + 128) ((l, []), ⟨0, 0, 0, 0⟩) = runStr t gl down cross l := by unfold runStr; rfl
 rw [hr] at eR st5
 have b0 := st4.memBlk (c := H.n) (k := ⟨[stackV t], 1, false⟩) (by unfold stackW; simp)
 have b1 := st4.memBlk (c := H.n + 1) (k := ⟨[ptrV c], 1, false⟩) (by unfold stackW; simp)
 refine ⟨H7, ?_, ?_⟩
 ·rw [stack_Table_Run_R, nrm_of]
  have v1 := veq_stack t
  have v2 := veq_mach t.m
  unfold runSt
  generalize runStr t gl down cross l = r at eR ⊢
  rw [hH5] at ePl eR b0 b1
  have hz : keptC [0, 0, 0, 0, 0, 0, 0, 0] 0 = [.int .i64 0, .int .i64 0, .int .i64 0, .int .i64 0, .int .i64 0, .int .i64 0, .int .i64 0, .int .i64 0, .int .i64 0] := rfl
  rw [hz] at ePl eR b0 b1
  simp only [hn_push] at ePl eR
  have n2 : H.n + 1 + 1 = H.n + 2 := rfl
  have n3 : H.n + 2 + 1 = H.n + 3 := rfl
  have n4 : H.n + 3 + 1 = H.n + 4 := rfl
  simp -implicitDefEqProofs (disch := omega) [stack_Table_Run, n2, n3, n4, ePl, eR, v1, v2]
 ·unfold runSt
  generalize runStr t gl down cross l = r at st5 ⊢
  unfold stackW at st5
  have := st5.take L.length
  rw [List.append_assoc, List.append_assoc, List.take_append_of_le_length (by simp), List.take_of_length_le (by simp)] at this
  exact this
end Go.Sw
end
section
namespace Go.Sw
open Go.RowKit
theorem uS_fits {b : List Int} {i n x : Int} (h : uS b i n = some x) : 0 ≤ i ∧ i + n ≤ b.length := by
 unfold uS pieceS at h
 split at h
 ·omega
 ·simp at h
theorem stackTake_l2 (k : Nat) {vs : List Int} (hb : Byt vs) (hl : vs.length < 2 ^ 31) {p q : Nat} {e : En} (he : 0 ≤ e.a ∧ e.a < 65536) {m : Value} (a22 a23 a24 : Value) {H : Heap} (hp : H.get p = some ⟨[m, lv encB vs], 1, false⟩) (hq : H.get q = some ⟨encEn e, 1, false⟩) :
  (∃ z, loopN (stack_Take_l2 k (R (T k))) loopFuel [(5, ptrV p), (7, ptrV q), (8, .int .i64 e.a), (22, a22), (23, a23), (24, a24)] H = .ok (.exit 2, [(5, ptrV p), (7, ptrV q), (8, z), (22, a22), (23, a23), (24, a24), (43, .bool false)]) H ∧ entOdd vs e = true) ∨
  (loopN (stack_Take_l2 k (R (T k))) loopFuel [(5, ptrV p), (7, ptrV q), (8, .int .i64 e.a), (22, a22), (23, a23), (24, a24)] H = .panic failV H ∧ entOdd vs e = false) := by
 by_cases c : e.a = 65535
 ·left
  have hE : entOdd vs e = true := by unfold entOdd; rw [decide_eq_true c]; rfl
  have c' : (e.a != 65535) = false := by rw [c]; rfl
  obtain ⟨xx, e', H1, hr1, rfl, rfl, rfl⟩ := loop_up (body := stack_Take_l2 k (R (T k))) 0
   (fun j e' H' => e' = [(5, ptrV p), (7, ptrV q), (8, .int .i64 e.a), (22, a22), (23, a23), (24, a24)] ∧ H' = H)
   (fun xx e' H' => xx = .exit 2 ∧ e' = [(5, ptrV p), (7, ptrV q), (8, .int .i64 e.a), (22, a22), (23, a23), (24, a24), (43, .bool false)] ∧ H' = H)
   (e0 := [(5, ptrV p), (7, ptrV q), (8, .int .i64 e.a), (22, a22), (23, a23), (24, a24)]) (H0 := H) ⟨rfl, rfl⟩ (by omega) (fun j e' H' hj _ => by omega)
   (fun e' H' ⟨he', hH⟩ => by
    subst he' hH
    refine ⟨.exit 2, _, _, ?_, by simp, rfl, rfl, rfl⟩
    rw [stack_Take_l2_eq]
    simp -implicitDefEqProofs (disch := omega) [hq, c'])
  exact ⟨_, hr1, hE⟩
 ·have c' : (e.a != 65535) = true := by rw [bne_iff_ne]; exact c
  have hU := fun i H' => U16_run k (H := H') (Sl.lv H' 1 vs) hb i (by omega)
  have hEv : entOdd vs e = oddB vs e.a := by unfold entOdd; rw [decide_eq_false c]; rfl
  have and1 := fun H x => bin_and1 Prog 3 H x
  rcases loop_upP (body := stack_Take_l2 k (R (T k))) vs.length
   (fun j e' H' => e' = [(5, ptrV p), (7, ptrV q), (8, .int .i64 (e.a + j)), (22, a22), (23, a23), (24, a24)] ∧ H' = H ∧ ∀ i : Nat, e.a ≤ i → (i : Int) < e.a + j → ¬ gU vs (2 * (i : Int)) 2 % 2 = 1)
   (fun xx e' H' => xx = .exit 2 ∧ (∃ z, e' = [(5, ptrV p), (7, ptrV q), (8, z), (22, a22), (23, a23), (24, a24), (43, .bool false)]) ∧ H' = H ∧ entOdd vs e = true)
   (fun v H' => v = failV ∧ H' = H ∧ entOdd vs e = false)
   (fun j e' H' hj ⟨he', hH, hno⟩ => by
    subst he' hH
    cases hu : uS vs (2 * (e.a + j)) 2 with
    | none =>
     have h16 := hU (2 * (e.a + j)) H'
     rw [hu] at h16
     refine .inr (.inr ⟨failV, H', ?_, rfl, rfl, ?_⟩)
     ·rw [stack_Take_l2_eq]
      simp -implicitDefEqProofs (disch := omega) [hq, c', hp, h16, orF]
     ·rw [hEv, Bool.eq_false_iff]
      intro ho
      obtain ⟨i, i1, i2, i3⟩ := oddB_iff.1 ho
      by_cases hij : (i : Int) < e.a + j
      ·exact hno i i1 hij i3
      ·unfold uS pieceS at hu
       rw [if_pos ⟨by omega, by omega, by omega, by omega⟩] at hu
       simp at hu
    | some x =>
     have h16 := hU (2 * (e.a + j)) H'
     rw [hu] at h16
     have hg := gU_some hu
     have hxb := uS_two hb hu
     by_cases d : x % 2 = 1
     ·have d' : (x % 2 == 0) = false := by rw [beq_eq_false_iff_ne]; omega
      refine .inr (.inl ⟨.exit 2, _, H', ?_, by simp, rfl, ⟨.int .i64 (e.a + j), rfl⟩, rfl, ?_⟩)
      ·rw [stack_Take_l2_eq]
       simp -implicitDefEqProofs (disch := omega) [hq, c', hp, h16, orF, and1, d']
      ·rw [hEv]
       refine oddB_iff.2 ⟨(e.a + j).toNat, by omega, ?_, ?_⟩
       ·have := uS_fits hu
        omega
       ·rw [show (((e.a + j).toNat : Nat) : Int) = e.a + j by omega, hg]
        exact d
     ·have d' : (x % 2 == 0) = true := by rw [beq_iff_eq]; omega
      have hj1 : e.a + ((j + 1 : Nat) : Int) = e.a + j + 1 := by omega
      refine .inl ⟨_, H', ?_, rfl, rfl, fun i i1 i2 => ?_⟩
      ·rw [stack_Take_l2_eq, hj1]
       simp -implicitDefEqProofs (disch := omega) [hq, c', hp, h16, orF, and1, d']
      ·by_cases hij : (i : Int) < e.a + j
       ·exact hno i i1 hij
       ·rw [show (i : Int) = e.a + j by omega, hg]
        omega)
   (fun e' H' ⟨he', hH, hno⟩ => by
    subst he' hH
    have hu : uS vs (2 * (e.a + vs.length)) 2 = none := by
     cases h : uS vs (2 * (e.a + vs.length)) 2 with
     | none => rfl
     | some x =>
      have := uS_fits h
      omega
    have h16 := hU (2 * (e.a + vs.length)) H'
    rw [hu] at h16
    refine .inr ⟨failV, H', ?_, rfl, rfl, ?_⟩
    ·rw [stack_Take_l2_eq]
     simp -implicitDefEqProofs (disch := omega) [hq, c', hp, h16, orF]
    ·rw [hEv, Bool.eq_false_iff]
     intro ho
     obtain ⟨i, i1, i2, i3⟩ := oddB_iff.1 ho
     exact hno i i1 (by omega) i3) loopFuel 0 [(5, ptrV p), (7, ptrV q), (8, .int .i64 e.a), (22, a22), (23, a23), (24, a24)] H (Nat.zero_le _) (by unfold loopFuel; omega) ⟨by simp, rfl, fun i i1 i2 => by omega⟩ with ⟨xx, e', H1, hr, rfl, ⟨z, rfl⟩, rfl, hE⟩ | ⟨v, H1, hr, rfl, rfl, hE⟩
  ·exact .inl ⟨z, hr, hE⟩
  ·exact .inr ⟨hr, hE⟩
theorem stackTake_l1 (k : Nat) {vs : List Int} (hb : Byt vs) (hl : vs.length < 2 ^ 31) {p : Nat} {es : List En} (hes : ∀ e, e ∈ es → 0 ≤ e.a ∧ e.a < 65536) (hel : es.length < 2 ^ 40) {m : Value} {H : Heap} (hp : H.get p = some ⟨[m, lv encB vs], 1, false⟩) :
  (∃ z H', loopN (stack_Take_l1 k (R (T k))) loopFuel [(5, ptrV p), (22, lv encEn es), (23, .int .i64 es.length), (24, .int .i64 0)] H = .ok (.exit 0, [(5, ptrV p), (22, lv encEn es), (23, .int .i64 es.length), (24, z), (25, .bool false)]) H' ∧ Ext H H' ∧ es.all (entOdd vs) = true) ∨
  (∃ H', loopN (stack_Take_l1 k (R (T k))) loopFuel [(5, ptrV p), (22, lv encEn es), (23, .int .i64 es.length), (24, .int .i64 0)] H = .panic failV H' ∧ Ext H H' ∧ es.all (entOdd vs) = false) := by
 rcases loop_upP (body := stack_Take_l1 k (R (T k))) es.length
  (fun j e' H' => e' = [(5, ptrV p), (22, lv encEn es), (23, .int .i64 es.length), (24, .int .i64 j)] ∧ Ext H H' ∧ (es.take j).all (entOdd vs) = true)
  (fun xx e' H' => xx = .exit 0 ∧ (∃ z, e' = [(5, ptrV p), (22, lv encEn es), (23, .int .i64 es.length), (24, z), (25, .bool false)]) ∧ Ext H H' ∧ es.all (entOdd vs) = true)
  (fun v H' => v = failV ∧ Ext H H' ∧ es.all (entOdd vs) = false)
  (fun j e' H' hj ⟨he', hx, hall⟩ => by
   subst he'
   have hjl : (j : Int) < es.length := by omega
   obtain ⟨en, hen⟩ : ∃ en, es[j]? = some en := ⟨_, List.getElem?_eq_getElem hj⟩
   have hmem := List.mem_of_getElem? hen
   have i1 := fun H' => ixS_lvN encEn_len es .i64 j en hen H'
   have hx2 : Ext H (H'.push ⟨encEn en, 1, false⟩) := hx.push _
   rcases stackTake_l2 k hb hl (hes en hmem) (p := p) (q := H'.n) (m := m) (lv encEn es) (.int .i64 es.length) (.int .i64 j) (hx2.get hp) (get_push_eq _ _ _ rfl) with ⟨z, e2, hE⟩ | ⟨e2, hE⟩
   ·refine .inl ⟨_, _, ?_, rfl, hx2, ?_⟩
    ·rw [stack_Take_l1_eq]
     simp -implicitDefEqProofs (disch := omega) [hjl, i1, e2, stack_Take_l2k_x2]
    ·rw [take_snoc hen, List.all_append, hall]
     simp [hE]
   ·refine .inr (.inr ⟨failV, _, ?_, rfl, hx2, ?_⟩)
    ·rw [stack_Take_l1_eq]
     simp -implicitDefEqProofs (disch := omega) [hjl, i1, e2]
    ·rw [Bool.eq_false_iff]
     intro h
     have := List.all_eq_true.1 h en hmem
     rw [hE] at this
     cases this)
  (fun e' H' ⟨he', hx, hall⟩ => by
   subst he'
   rw [List.take_length] at hall
   refine .inl ⟨.exit 0, _, H', ?_, by simp, rfl, ⟨.int .i64 es.length, rfl⟩, hx, hall⟩
   rw [stack_Take_l1_eq]
   simp -implicitDefEqProofs) loopFuel 0 [(5, ptrV p), (22, lv encEn es), (23, .int .i64 es.length), (24, .int .i64 0)] H (Nat.zero_le _) (by unfold loopFuel; omega) ⟨rfl, Ext.refl _, rfl⟩ with ⟨xx, e', H1, hr, rfl, ⟨z, rfl⟩, hx, hE⟩ | ⟨v, H1, hr, rfl, hx, hE⟩
 ·exact .inl ⟨z, H1, hr, hx, hE⟩
 ·exact .inr ⟨H1, hr, hx, hE⟩
theorem stackTake_run (k : Nat) (hk : k < 1000000) (b : List Int) (hb : Byt b) (g : Int) (hg : 1 ≤ g ∧ g ≤ 65535) (hl : b.length < 2 ^ 31) (H : Heap) : R (T k) F.stack_Take [vwB b, .int .i64 g] H = orF (stackS b g) stackV H := by
 rw [stack_Take_R]
 have hx : Ext H (H.push ⟨[lv encB b], 1, false⟩) := (Ext.refl H).push _
 have hvb : veq (vwB b) (vwB b) = true := veq_agg (l := [lv encB b]) fun u hu => by simp at hu; subst hu; exact veq_B b
 refine fz_orF ?_ fun _ _ => (Flat.stack _).alive
 unfold stackS
 simp -implicitDefEqProofs (disch := omega) [stack_Take]
 refine Cp.callT (stateTake_run k (Sl.lv _ 1 b) hb g 1 hg.1 hg.2 (.inr (.inl rfl)) hl) (fun _ => ⟨_, by simp -implicitDefEqProofs (disch := omega) [hvb], hx⟩) fun m hm => ?_
 have hok := machS_ok hb hg.1 hg.2 (by omega) hm
 simp -implicitDefEqProofs (disch := omega) [hvb]
 refine Cp.callT (U32_run k (Sl.lv _ 1 b) hb 16 (by omega)) (fun _ => ⟨_, by simp -implicitDefEqProofs (disch := omega) [hvb], hx⟩) fun p hp => ?_
 have hp := uS_four hb hp
 simp -implicitDefEqProofs (disch := omega) [hvb]
 refine Cp.callT (Rest_lv k b p (by omega) (by omega) _) (fun _ => ⟨_, by simp -implicitDefEqProofs (disch := omega) [hvb], hx⟩) fun sb hsb => ?_
 have lsb := restS_len hsb
 have hent := fun H' => Entries_run k hk m hok.elen H'
 have hes : ∀ e, e ∈ m.ents → 0 ≤ e.a ∧ e.a < 65536 := fun e he => by have := hok.ent e he; omega
 have hx2 : Ext H ((H.push ⟨[lv encB b], 1, false⟩).push ⟨[machV m, lv encB sb], 1, false⟩) := hx.push _
 have hpg : ((H.push ⟨[lv encB b], 1, false⟩).push ⟨[machV m, lv encB sb], 1, false⟩).get (H.n + 1) = some ⟨[machV m, lv encB sb], 1, false⟩ := get_push_eq _ _ _ (by simp)
 simp -implicitDefEqProofs (disch := omega) [hvb, hent]
 rcases stackTake_l1 k (hb.rest hsb) (by omega) hes (by have := hok.elen; omega) hpg with ⟨z, H2, e2, hx3, hall⟩ | ⟨H2, e2, hx3, hall⟩
 ·rw [if_pos (List.all_eq_true.1 hall)]
  simp -implicitDefEqProofs (disch := omega) [e2, stack_Take_l1k_x0]
  refine .ok (hx2.trans hx3) ?_
  exact ⟨_, fz_box (by omega) (hx3.get hpg) (mapF_cons (v := machV m) (u := machV m) (L1 := []) rfl (mapF_one (v := lv encB sb) (u := lv encB sb) (L := []) rfl))⟩
 ·rw [if_neg (fun hc => by rw [List.all_eq_true.2 hc] at hall; cases hall)]
  simp -implicitDefEqProofs (disch := omega) [e2]
  exact ⟨H2, rfl, hx2.trans hx3⟩
end Go.Sw
end
section
namespace Go.Sw
open Go.RowKit
def stackP (o : Option STab) : Value := match o with | some t => stackV t | none => .pointer none
theorem stackP_flat (o : Option STab) : Flat (stackP o) := by
 cases o with
 | none => exact .nilPtr
 | some t => exact Flat.stack t
theorem stack_in1_run (k : Nat) {H : Heap} (b : List Int) (hb : Byt b) (g : Int) (hg : 1 ≤ g ∧ g ≤ 65535) (hl : b.length < 2 ^ 31) (p2 p3 p4 : Nat) (old : Value)
  (h2 : H.get p2 = some ⟨[lv encB b], 1, false⟩) (h3 : H.get p3 = some ⟨[.int .i64 g], 1, false⟩) (h4 : H.get p4 = some ⟨[old], 1, false⟩) (ht : ∀ H', R (T k) F.stack_Take [vwB b, .int .i64 g] H' = orF (stackS b g) stackV H') :
  R (T k) F.stack_Read_in1 [ptrV p2, ptrV p3, ptrV p4] H = match stackS b g with
   | some t => .ok (.tuple #[]) (H.set p4 (some ⟨[stackV t], 1, false⟩))
   | none => .panic failV H := by
 rw [stack_Read_in1_R]
 have ht := ht H
 cases h : stackS b g with
 | none =>
  rw [h] at ht
  refine nrm_throw ⟨H, ?_, Ext.refl H⟩ Flat.fail.alive
  simp -implicitDefEqProofs (disch := omega) [stack_Read_in1, h2, h3, ht]
 | some x =>
  rw [h] at ht
  simp -implicitDefEqProofs (disch := omega) [stack_Read_in1, h2, h3, h4, ht]
def stackO (b : List Int) (g : Int) : Option STab := if 1 ≤ g ∧ g ≤ 65535 then stackS b g else none
def stackN (b : List Int) (g : Int) : Int := if 1 ≤ g ∧ g ≤ 65535 then (if (stackS b g).isSome then 0 else 2) else 1
theorem stackRead_run (k : Nat) {H : Heap} {v : Value} {b : List Int} (hv : Sl H 1 v encB b) (hb : Byt b) (g : Int) (hl : b.length ≤ 2 ^ 30) (ht : (1 ≤ g ∧ g ≤ 65535) → ∀ H', R (T k) F.stack_Take [vwB b, .int .i64 g] H' = orF (stackS b g) stackV H') :
  R (T k) F.stack_Read [v, .int .i64 g] H = .ok (.tuple #[stackP (stackO b g), .int .i64 (stackN b g)]) H := by
 rw [stack_Read_R]
 have hx2 := (Ext.refl H).push ⟨[.int .i64 g], 1, false⟩
 have al : ∀ o n, Alive H (.tuple #[stackP o, .int .i64 n]) := fun o n => (Flat.tupleL (l := [stackP o, .int .i64 n]) (.cons (stackP_flat o) (.cons (.int _ _) .nil))).alive
 have fz : ∀ H' o n, fzV H.n H' fzDepth (.tuple #[stackP o, .int .i64 n]) = some (.tuple #[stackP o, .int .i64 n], []) := fun H' o n => by
  cases o <;> rfl
 by_cases hgg : 1 ≤ g ∧ g ≤ 65535
 ·have c1 : ¬ g < 1 := by omega
  have c2 : ¬ g > 65535 := by omega
  have hx3 := hx2.push ⟨[.pointer none], 1, false⟩
  have o3 := Of_run k (hv.up hx3)
  have by3 := Bytes_run k (hv.up hx3) hl
  have o4 := fun H => Of_lv k b H
  have hin := stack_in1_run k (H := ((H.push ⟨[.int .i64 g], 1, false⟩).push ⟨[.pointer none], 1, false⟩).push ⟨[lv encB b], 1, false⟩) b hb g hgg (by omega) (H.n + 2) H.n (H.n + 1) (.pointer none) (by simp) (by simp) (by simp) (ht hgg)
  cases hlk : stackS b g with
  | none =>
   rw [hlk] at hin
   have ht := Try_no k F.stack_Read_in1 #[ptrV (H.n + 2), ptrV H.n, ptrV (H.n + 1)] hin
   refine nrm_fz (H' := ((H.push ⟨[.int .i64 g], 1, false⟩).push ⟨[.pointer none], 1, false⟩).push ⟨[lv encB b], 1, false⟩) (v := .tuple #[stackP none, .int .i64 2]) ?_ (by unfold stackO stackN; rw [if_pos hgg, if_pos hgg, hlk]; exact fz _ _ _) (hx3.push _) (al _ _)
   simp -implicitDefEqProofs (disch := omega) [stack_Read, c1, c2, o3, by3, o4, ht, stackP]
  | some x =>
   rw [hlk] at hin
   have ht := Try_ok k F.stack_Read_in1 #[ptrV (H.n + 2), ptrV H.n, ptrV (H.n + 1)] hin
   refine nrm_fz (H' := ((H.push ⟨[.int .i64 g], 1, false⟩).push ⟨[stackV x], 1, false⟩).push ⟨[lv encB b], 1, false⟩) (v := .tuple #[stackP (some x), .int .i64 0]) ?_ (by unfold stackO stackN; rw [if_pos hgg, if_pos hgg, hlk]; exact fz _ _ _) ((hx2.push _).push _) (al _ _)
   simp at ht
   simp -implicitDefEqProofs (disch := omega) [stack_Read, c1, c2, o3, by3, o4, ht, stackP]
 ·refine nrm_fz (H' := (H.push ⟨[.int .i64 g], 1, false⟩).push ⟨[.pointer none], 1, false⟩) (v := .tuple #[stackP none, .int .i64 1]) ?_ (by unfold stackO stackN; rw [if_neg hgg, if_neg hgg]; exact fz _ _ _) (hx2.push _) (al _ _)
  by_cases c1 : g < 1
  ·simp -implicitDefEqProofs (disch := omega) [stack_Read, c1, stackP]
  ·have c2 : g > 65535 := by omega
   simp -implicitDefEqProofs (disch := omega) [stack_Read, c1, c2, stackP]
end Go.Sw
end
section
namespace Go.Sw
open Go.RowKit
theorem mapO_takeL {β : Type} {f : Nat → Option β} {l : List β} (h : ∀ (i : Nat) y, l[i]? = some y → f i = some y) {n : Nat} (hn : n ≤ l.length) : mapO f (List.range n) = some (l.take n) := by
 refine mapO_some (by simp; omega) fun i x y hx hy => ?_
 rw [List.getElem?_take] at hy
 split at hy
 ·rename_i hi
  rw [List.getElem?_range hi] at hx
  injection hx with hx
  subst hx
  exact h i y hy
 ·cases hy
theorem needE_of {es : List En} {S : Int} (h2 : 2 ≤ S) (h : ∀ e, e ∈ es → e.next < S) : needE es ≤ S := by
 have := needL_lt (l := es.map En.next) (n := S) (by omega) fun x hx => by
  obtain ⟨e, he, rfl⟩ := List.mem_map.1 hx
  exact h e he
 unfold needE
 omega
theorem close_plan {n : Nat} (hn : 0 < n) {w : Int} (hw : w = 0 ∨ w = 1 ∨ w = 2) {rs : List (List Int)} {es : List En} (hb : ∀ r, r ∈ rs → Byt r) (hcell : ∀ r, r ∈ rs → ∀ x, x ∈ rowL n r → x < (es.length : Int)) (hnx : ∀ e, e ∈ es → m16 e.next < (rs.length : Int)) (x y : List Int) :
  ∀ (f s : Nat), 2 ≤ s → s ≤ rs.length → 65537 - s ≤ f → s ≤ 65536 → ∃ r, closeS (rowsL n rs ++ x) (entsB w es ++ y) n w f s = some r ∧ r.1.length ≤ rs.length ∧ (∃ s', r.1 = (rs.map (rowL n)).take s') ∧ (∃ N, r.2 = (es.map (entM w)).take N)
 | 0, s, _, _, h1, h2 => by omega
 | f + 1, s, h2, hs, hf, h6 => by
  have e1 : rowsTo (rowsL n rs ++ x) n s = some ((rs.map (rowL n)).take s) := mapO_takeL (fun i r hr => by
   rw [List.getElem?_map] at hr
   obtain ⟨q, hq, rfl⟩ := Option.map_eq_some_iff.1 hr
   exact rowK_plan hn hb x hq) (by simpa using hs)
  have hneed : needR ((rs.map (rowL n)).take s) ≤ (es.length : Int) := by
   refine needL_lt (by omega) fun y hy => ?_
   obtain ⟨r, hr, hyr⟩ := List.mem_flatten.1 hy
   obtain ⟨q, hq, rfl⟩ := List.mem_map.1 (List.mem_of_mem_take hr)
   exact hcell q hq y hyr
  have h0 := needR_nonneg ((rs.map (rowL n)).take s)
  have e2 : entsTo (entsB w es ++ y) w (needR ((rs.map (rowL n)).take s)).toNat = some ((es.map (entM w)).take (needR ((rs.map (rowL n)).take s)).toNat) := mapO_takeL (fun i r hr => by
   rw [List.getElem?_map] at hr
   obtain ⟨q, hq, rfl⟩ := Option.map_eq_some_iff.1 hr
   exact entK_plan hw y hq) (by simp; omega)
  have h3 : needE ((es.map (entM w)).take (needR ((rs.map (rowL n)).take s)).toNat) ≤ (rs.length : Int) := needE_of (by omega) fun e he => by
   obtain ⟨q, hq, rfl⟩ := List.mem_map.1 (List.mem_of_mem_take he)
   exact hnx q hq
  simp only [closeS]
  rw [e1, Option.bind_some, e2, Option.bind_some]
  split
  ·exact ⟨_, rfl, by simp; omega, ⟨s, rfl⟩, ⟨_, rfl⟩⟩
  ·rename_i hgt
   exact close_plan hn hw hb hcell hnx x y f _ (by omega) (by omega) (by omega) (by
    have : 2 ≤ needE ((es.map (entM w)).take (needR ((rs.map (rowL n)).take s)).toNat) := by unfold needE; omega
    by_cases hle : (rs.length : Nat) ≤ 65536
    ·omega
    ·have hlt : needE ((es.map (entM w)).take (needR ((rs.map (rowL n)).take s)).toNat) ≤ 65536 := needE_of (by omega) fun e he => by
      obtain ⟨q, hq, rfl⟩ := List.mem_map.1 (List.mem_of_mem_take he)
      exact (m16_bound q.next).2
     omega)
structure Reads (p : Plan) (w : Int) (m : Mach) : Prop where
 classes : m.classes = planN p
 tab : m.tab = tabOf p.cls
 few : m.rows.length ≤ p.rows.length
 row : ∀ (s : Nat) r, m.rows[s]? = some r → ∃ q, p.rows[s]? = some q ∧ r = rowL (planN p) q
 ent : ∀ (i : Nat) e, m.ents[i]? = some e → ∃ q, p.ents[i]? = some q ∧ e = entM w q
theorem plan_closed {p : Plan} (hp : p.ok) {w : Int} (hw : w = 0 ∨ w = 1 ∨ w = 2) {rm more : List Int} (hrm : rm.length ≤ 1000) (h1 : p.cls.length ≤ 1000) (h2 : p.rows.length ≤ 1000) (hS : 2 ≤ p.rows.length)
  (hcell : ∀ r, r ∈ p.rows → ∀ x, x ∈ rowL (planN p) r → x < (p.ents.length : Int)) (hnx : ∀ e, e ∈ p.ents → m16 e.next < (p.rows.length : Int)) (g : Int) : ∃ m, machS (planRoom p w rm ++ more) g w = some m ∧ Reads p w m := by
 have e1 := plan_mach p hp w rm more hrm h1 h2 g
 obtain ⟨r, hr, h3, ⟨s', h4⟩, ⟨N, h5⟩⟩ := close_plan (n := planN p) (by unfold planN; omega) hw hp.2.1 hcell hnx (entsB w p.ents ++ more) more (65538 - 2) 2 (Nat.le_refl _) hS (by omega) (by omega)
 unfold closeA at e1
 rw [hr, Option.map_some] at e1
 refine ⟨_, e1, rfl, rfl, h3, fun s q hq => ?_, fun i e he => ?_⟩
 ·dsimp only at hq
  rw [h4, List.getElem?_take] at hq
  split at hq
  ·rw [List.getElem?_map] at hq
   obtain ⟨q', hq', rfl⟩ := Option.map_eq_some_iff.1 hq
   exact ⟨q', hq', rfl⟩
  ·cases hq
 ·dsimp only at he
  rw [h5, List.getElem?_take] at he
  split at he
  ·rw [List.getElem?_map] at he
   obtain ⟨q', hq', rfl⟩ := Option.map_eq_some_iff.1 he
   exact ⟨q', hq', rfl⟩
  ·cases he
theorem Reads.step {p : Plan} {w : Int} {m : Mach} (h : Reads p w m) (hm : m.ok) {s c : Nat} (hs : s < m.rows.length) (hc : c < planN p) {q : List Int} (hq : p.rows[s]? = some q) :
  ∃ e, p.ents[(q[c]?.getD 0).toNat]? = some e ∧ stepS m s c = some (entM w e) := by
 obtain ⟨r, hr⟩ : ∃ r, m.rows[s]? = some r := ⟨_, List.getElem?_eq_getElem hs⟩
 obtain ⟨q', hq', rfl⟩ := h.row s r hr
 rw [hq] at hq'
 injection hq' with hq'
 subst hq'
 obtain ⟨r', x, e, h1, h2, h3, h4, h5⟩ := stepS_some hm (s := (s : Int)) (c := (c : Int)) ⟨by omega, by omega, by omega, by rw [h.classes]; omega⟩
 rw [Int.toNat_natCast, hr] at h1
 injection h1 with h1
 subst h1
 rw [Int.toNat_natCast] at h2
 have hx : (rowL (planN p) q)[c]? = some (q[c]?.getD 0) := by
  unfold rowL
  rw [List.getElem?_map, List.getElem?_range hc]
  rfl
 rw [hx] at h2
 injection h2 with h2
 subst h2
 obtain ⟨e', he', rfl⟩ := h.ent _ e h4
 exact ⟨e', he', h5⟩
theorem Reads.entS {p : Plan} {w : Int} {m : Mach} (h : Reads p w m) (hm : m.ok) (l : List Gl) {st : Nat} (j x y : Int) (hst : st < m.rows.length) :
  ∃ q e, p.rows[st]? = some q ∧ p.ents[(q[(clsS m l j).1.toNat]?.getD 0).toNat]? = some e ∧ entS m l ⟨st, j, x, y⟩ = entM w e := by
 have hb := clsS_bound hm l j
 rw [h.classes] at hb
 obtain ⟨r, hr⟩ : ∃ r, m.rows[st]? = some r := ⟨_, List.getElem?_eq_getElem hst⟩
 obtain ⟨q, hq, _⟩ := h.row st r hr
 obtain ⟨e, he, hs⟩ := h.step hm (c := (clsS m l j).1.toNat) hst (by omega) hq
 refine ⟨q, e, hq, he, ?_⟩
 unfold Go.Sw.entS
 dsimp only
 rw [show (((clsS m l j).1.toNat : Nat) : Int) = (clsS m l j).1 by omega] at hs
 rw [hs]
 rfl
end Go.Sw
end
section
namespace Go.Sw
open Go.RowKit
variable {σ : Type}
def twoPlan (cls : List Int) (e0 e1 e2 : En) : Plan := ⟨cls, [[0, 0, 0, 0, 1, 2], [0, 0, 0, 0, 1, 2]], [e0, e1, e2], 2⟩
theorem twoPlan_ok {cls : List Int} (hc : Byt cls) (e0 e1 e2 : En) : (twoPlan cls e0 e1 e2).ok := by
 refine ⟨hc, fun r hr x hx => ?_, (by decide : (0 : Int) ≤ 2), (by decide : (2 : Int) < 256)⟩
 have hr : r = [0, 0, 0, 0, 1, 2] := by simpa [twoPlan] using hr
 subst hr
 have hx : x = 0 ∨ x = 1 ∨ x = 2 := by simpa using hx
 omega
theorem two_mach {cls : List Int} (hc : Byt cls) (hl : cls.length ≤ 1000) {e0 e1 e2 : En} (h0 : m16 e0.next < 2) (h1 : m16 e1.next < 2) (h2 : m16 e2.next < 2) {w : Int} (hw : w = 0 ∨ w = 1 ∨ w = 2) (rm more : List Int) (hrm : rm.length ≤ 1000) (g : Int) :
  ∃ m, machS (planRoom (twoPlan cls e0 e1 e2) w rm ++ more) g w = some m ∧ Reads (twoPlan cls e0 e1 e2) w m :=
 plan_closed (p := twoPlan cls e0 e1 e2) (twoPlan_ok hc e0 e1 e2) (w := w) hw (rm := rm) (more := more) hrm hl (by simp [twoPlan]) (by simp [twoPlan])
  (fun r hr x hx => by
   obtain ⟨i, hi, rfl⟩ := List.mem_map.1 hx
   have hi := List.mem_range.1 hi
   have hn : planN (twoPlan cls e0 e1 e2) = 6 := rfl
   rw [hn] at hi
   have hr : r = [0, 0, 0, 0, 1, 2] := by simpa [twoPlan] using hr
   have : i = 0 ∨ i = 1 ∨ i = 2 ∨ i = 3 ∨ i = 4 ∨ i = 5 := by omega
   have hl : ((twoPlan cls e0 e1 e2).ents.length : Int) = 3 := rfl
   rw [hl]
   subst hr
   rcases this with rfl | rfl | rfl | rfl | rfl | rfl <;> decide)
  (fun e he => by
   have he : e = e0 ∨ e = e1 ∨ e = e2 := by simpa [twoPlan] using he
   have hl : ((twoPlan cls e0 e1 e2).rows.length : Int) = 2 := rfl
   rw [hl]
   rcases he with rfl | rfl | rfl <;> assumption) g
def twoCls (cls : List Int) (id : Int) : Int := if id = 65535 then 2 else if 0 ≤ id then (match cls[id.toNat]? with | some c => if c < 6 then c else 1 | none => 1) else 1
theorem two_class {cls : List Int} {e0 e1 e2 : En} {w : Int} {m : Mach} (hr : Reads (twoPlan cls e0 e1 e2) w m) (id : Int) : classS m id = twoCls cls id := by
 have hn : m.classes = 6 := hr.classes.trans (by rfl)
 have ht : getS m.tab.2 id = if 0 ≤ id then cls[id.toNat]? else none := by rw [hr.tab]; exact tab_get cls id
 unfold classS twoCls
 rw [ht, hn]
 by_cases c1 : id = 65535
 ·rw [if_pos c1, if_pos c1]
 ·rw [if_neg c1, if_neg c1]
  by_cases c2 : 0 ≤ id
  ·rw [if_pos c2, if_pos c2] <;> rfl
  ·rw [if_neg c2, if_neg c2]
def twoEnt (e0 e1 e2 : En) (c : Int) : En := if c = 4 then e1 else if c = 5 then e2 else e0
def twoAt (cls : List Int) (e0 e1 e2 : En) (l : List Gl) (j : Nat) : En := match l[j]? with | some g => twoEnt e0 e1 e2 (twoCls cls g.id) | none => e0
theorem two_ent {cls : List Int} {e0 e1 e2 : En} {w : Int} {m : Mach} (hr : Reads (twoPlan cls e0 e1 e2) w m) (hm : m.ok) (l : List Gl) {st : Nat} (hst : st = 0 ∨ st = 1) (j : Nat) (x y : Int) :
  entS m l ⟨(st : Int), (j : Int), x, y⟩ = entM w (twoAt cls e0 e1 e2 l j) := by
 have h2 := hm.two
 obtain ⟨q, e, hq, he, hs⟩ := hr.entS hm l (st := st) (j : Int) x y (by omega)
 rw [hs]
 congr 1
 have hq : q = [0, 0, 0, 0, 1, 2] := by
  rcases hst with rfl | rfl <;> (have := Option.some.inj hq; exact this.symm)
 subst hq
 have hcb := clsS_bound hm l (j : Int)
 rw [hr.classes.trans (by rfl : (planN (twoPlan cls e0 e1 e2) : Int) = 6)] at hcb
 have hat : twoAt cls e0 e1 e2 l j = twoEnt e0 e1 e2 (clsS m l (j : Int)).1 := by
  unfold twoAt clsS atG
  by_cases hj : j < l.length
  ·obtain ⟨g, hg⟩ : ∃ g, l[j]? = some g := ⟨_, List.getElem?_eq_getElem hj⟩
   rw [if_pos ⟨by omega, by omega⟩, Int.toNat_natCast, hg]
   dsimp only
   rw [two_class hr]
  ·rw [if_neg (fun hc => hj (by omega)), List.getElem?_eq_none (by omega)]
   rfl
 rw [hat]
 generalize (clsS m l (j : Int)).1 = c at he hcb
 have : c = 0 ∨ c = 1 ∨ c = 2 ∨ c = 3 ∨ c = 4 ∨ c = 5 := by omega
 rcases this with rfl | rfl | rfl | rfl | rfl | rfl <;> (have he := Option.some.inj he; subst he; rfl)
theorem two_go {cls : List Int} {e0 e1 e2 : En} {w : Int} {m : Mach} (hr : Reads (twoPlan cls e0 e1 e2) w m) (hm : m.ok) (hnx : ∀ e, e = e0 ∨ e = e1 ∨ e = e2 → (m16 e.next = 0 ∨ m16 e.next = 1) ∧ ¬ m16 e.flags / 16384 % 2 = 1)
  (ln : σ → List Gl) (f : σ → Int → En → σ) (len : Nat) (Inv : Nat → σ → Prop) (hlen : ∀ j s, Inv j s → (ln s).length = len) (hstep : ∀ j s, j < len → Inv j s → Inv (j + 1) (f s j (entM w (twoAt cls e0 e1 e2 (ln s) j)))) (s0 : σ) (h0 : Inv 0 s0) :
  ∃ s', Inv len s' ∧ runD m ln (fun s i e => (f s i e, i, i + 1)) (2 * (len : Int) + 128) (2 * len + 128) (s0, ⟨0, 0, 0, 0⟩) = ((len : Int) + 1, 0, f s' len (entM w e0)) := by
 have hat : ∀ l j, twoAt cls e0 e1 e2 l j = e0 ∨ twoAt cls e0 e1 e2 l j = e1 ∨ twoAt cls e0 e1 e2 l j = e2 := fun l j => by
  unfold twoAt
  split
  ·unfold twoEnt
   split
   ·exact .inr (.inl rfl)
   ·split
    ·exact .inr (.inr rfl)
    ·exact .inl rfl
  ·exact .inl rfl
 obtain ⟨s', st', ⟨h1, k, hk, hk2⟩, hrun⟩ := runD_go m ln (fun s i e => (f s i e, i, i + 1)) (2 * (len : Int) + 128) len (by omega)
  (fun j s st => Inv j s ∧ ∃ k : Nat, (k = 0 ∨ k = 1) ∧ st = (k : Int)) (fun j s st h => hlen j s h.1)
  (fun j s st hj ⟨hI, k, hk, hst⟩ => by
   subst hst
   have he := two_ent hr hm (ln s) hk j j 0
   rw [he]
   have hx := hnx _ (hat (ln s) j)
   refine ⟨hx.2, rfl, fun hjl => ⟨hstep j s hjl hI, (m16 (twoAt cls e0 e1 e2 (ln s) j).next).toNat, ?_, ?_⟩⟩
   ·have := hx.1; omega
   ·show m16 _ = _
    have := hx.1; omega) len 0 (2 * len + 128) 0 s0 0 rfl (by omega) (by omega) ⟨h0, 0, .inl rfl, rfl⟩
 subst hk2
 refine ⟨s', h1, ?_⟩
 rw [hrun]
 have he := two_ent hr hm (ln s') hk len len 0
 have hn : twoAt cls e0 e1 e2 (ln s') len = e0 := by
  unfold twoAt
  rw [List.getElem?_eq_none (by rw [hlen _ _ h1]; exact Nat.le_refl _)]
 rw [he, hn]
end Go.Sw
end
section
namespace Go.Sw
open Go.RowKit
def sv (k i : Nat) : Int := if i + 1 = k then 2 * ((i : Int) + 1) + 1 else 2 * ((i : Int) + 1)
def svs (k : Nat) : List Int := (List.range k).map (sv k)
def svPlan : Plan := twoPlan [4, 5] ⟨0, 0, 65535, 0⟩ ⟨0, 32768, 65535, 0⟩ ⟨0, 32768, 0, 0⟩
theorem svs_len (k : Nat) : (svs k).length = k := by simp [svs]
theorem svs_at {k i : Nat} (h : i < k) : (svs k)[i]? = some (sv k i) := by
 unfold svs
 rw [List.getElem?_map, List.getElem?_range h]
 rfl
theorem sv_num {k i : Nat} (h : i < k) (hk : k ≤ 1000) : gU (twos (svs k)) (2 * (i : Int)) 2 = sv k i := twos_gU _ (svs_at h) (by unfold sv; split <;> omega)
theorem sv_val {k i : Nat} (h : i < k) (hk : k ≤ 1000) : valV (twos (svs k)) i = 2 * ((i : Int) + 1) := by
 unfold valV
 rw [sv_num h hk]
 have : s16 (sv k i) = sv k i := by unfold s16 sv; split <;> (split <;> omega)
 rw [this]
 unfold sv
 split <;> omega
theorem sv_last {k i : Nat} (h : i < k) (hk : k ≤ 1000) : lastS (twos (svs k)) i = decide (i + 1 = k) := by
 unfold lastS
 rw [sv_num h hk]
 have : s16 (sv k i) = sv k i := by unfold s16 sv; split <;> (split <;> omega)
 rw [this]
 unfold sv
 split
 ·rename_i hc; rw [decide_eq_true hc, decide_eq_true (by omega)]
 ·rename_i hc; rw [decide_eq_false hc, decide_eq_false (by omega)]
def downL (hi c : Nat) : List Int := (List.range c).map fun t => ((hi - 1 - t : Nat) : Int)
theorem downL_succ (hi c : Nat) (h : c < hi) : downL hi (c + 1) = ((hi - 1 : Nat) : Int) :: downL (hi - 1) c := by
 unfold downL
 rw [List.range_succ_eq_map, List.map_cons, List.map_map]
 congr 1
 apply List.map_congr_left
 intro t _
 show ((hi - 1 - (t + 1) : Nat) : Int) = ((hi - 1 - 1 - t : Nat) : Int)
 omega
theorem updPl_at {l : List Pl} {j i : Nat} (f : Pl → Pl) : (updPl l (j : Int) f)[i]? = if i = j then l[i]?.map f else l[i]? := by
 unfold updPl
 rw [if_pos (by omega), Int.toNat_natCast, List.getElem?_modify]
 by_cases hij : i = j
 ·subst hij; simp
 ·rw [if_neg hij]
  simp [show ¬ j = i from fun h => hij h.symm]
theorem moveS_down {k : Nat} (hk : k ≤ 1000) : ∀ (c hi a : Nat) (l : List Pl), c ≤ hi → a < k → (∀ i, i < hi → l[i]? = some ⟨0, 0, 0⟩) → ∀ i : Nat,
  (moveS (twos (svs k)) false false (downL hi c) (a : Int) l).1[i]? = if hi - c ≤ i ∧ i < hi ∧ a + (hi - 1 - i) < k then some ⟨2 * (((a + (hi - 1 - i) : Nat) : Int) + 1), 0, 0⟩ else l[i]?
 | 0, hi, a, l, _, _, _, i => by
  rw [if_neg (by omega)]
  rfl
 | c + 1, hi, a, l, hc, ha, hl, i => by
  rw [downL_succ hi c (by omega)]
  unfold moveS
  rw [sv_last ha hk, sv_val ha hk]
  have hone : ∀ i : Nat, (onePl false false l ((hi - 1 : Nat) : Int) (2 * ((a : Int) + 1)))[i]? = if i = hi - 1 then some ⟨2 * ((a : Int) + 1), 0, 0⟩ else l[i]? := fun i => by
   unfold onePl
   rw [if_pos rfl, updPl_at]
   split
   ·rename_i hi1
    subst hi1
    rw [hl _ (by omega), Option.map_some]
    dsimp only
    congr 2
    unfold addI clampI
    omega
   ·rfl
  by_cases hlast : a + 1 = k
  ·rw [decide_eq_true hlast, if_pos rfl]
   dsimp only
   rw [hone]
   by_cases h1 : i = hi - 1
   ·rw [if_pos h1, if_pos ⟨by omega, by omega, by omega⟩]
    exact congrArg some (by rw [Pl.mk.injEq]; exact ⟨by omega, rfl, rfl⟩)
   ·rw [if_neg h1, if_neg (by omega)]
  ·rw [decide_eq_false hlast, if_neg (by decide)]
   rw [show (a : Int) + 1 = ((a + 1 : Nat) : Int) by omega] at hone ⊢
   rw [moveS_down hk c (hi - 1) (a + 1) _ (by omega) (by omega) (fun j hj => by rw [hone, if_neg (by omega)]; exact hl j (by omega)) i, hone]
   by_cases h1 : i = hi - 1
   ·rw [if_pos h1, if_neg (by omega), if_pos ⟨by omega, by omega, by omega⟩]
    exact congrArg some (by rw [Pl.mk.injEq]; exact ⟨by omega, rfl, rfl⟩)
   ·rw [if_neg h1]
    by_cases h2 : hi - (c + 1) ≤ i ∧ i < hi ∧ a + (hi - 1 - i) < k
    ·rw [if_pos h2, if_pos ⟨by omega, by omega, by omega⟩]
     exact congrArg some (by rw [Pl.mk.injEq]; exact ⟨by omega, rfl, rfl⟩)
    ·rw [if_neg h2, if_neg (by omega)]
theorem downL_push (j : Nat) : (((j : Int)) :: downL j (min j 8)).take 8 = downL (j + 1) (min (j + 1) 8) := by
 rw [show ((j : Int)) :: downL j (min j 8) = downL (j + 1) (min j 8 + 1) from by rw [downL_succ _ _ (by omega)]; rfl]
 unfold downL
 rw [← List.map_take, List.take_range]
 congr 2
 omega
def longIds (n : Nat) : List Int := (List.replicate n (0 : Int)).set (n - 1) 1
theorem longIds_len (n : Nat) : (longIds n).length = n := by simp [longIds]
theorem longIds_at {n i : Nat} (h : i < n) : (longIds n)[i]? = some (if i + 1 = n then 1 else 0) := by
 unfold longIds
 by_cases hi : n - 1 = i
 ·rw [hi, List.getElem?_set_self (by simpa using h), if_pos (by omega)]
 ·rw [List.getElem?_set_ne hi, List.getElem?_replicate, if_pos h, if_neg (by omega)]
theorem newG_at {ids : List Int} {i : Nat} {x : Int} (h : ids[i]? = some x) : (newG ids)[i]? = some ⟨x, i⟩ := by
 unfold newG
 rw [List.getElem?_map, List.getElem?_zipIdx, h]
 simp
theorem doSt_e (t : STab) (n : Int) (down cross : Bool) (s : List Pl × List Int) (i : Int) (e : En) (hr : ¬ e.flags / 8192 % 2 = 1) : doSt t n down cross s i e = if e.a = 65535 then (s.1, if e.flags ≥ 32768 ∧ i < n then (i :: s.2).take 8 else s.2) else moveS t.vals down cross (if e.flags ≥ 32768 ∧ i < n then (i :: s.2).take 8 else s.2) e.a s.1 := by
 unfold doSt
 dsimp only
 rw [if_neg hr]
def svTab (m : Mach) (k : Nat) : STab := ⟨m, twos (svs k)⟩
set_option maxRecDepth 10000 in
theorem stackLong {m : Mach} (hm : m.ok) (hr : Reads svPlan 1 m) {n k : Nat} (hn : 0 < n) (h0 : 0 < k) (hk : k ≤ 1000) :
  (runSt (svTab m k) (newG (longIds n)) false false (newPl (List.replicate n 0))).2 = 0 ∧ ∀ i : Nat, i < n → (runSt (svTab m k) (newG (longIds n)) false false (newPl (List.replicate n 0))).1[i]? = some ⟨if n - 1 - i < min k 8 then 2 * (((n - 1 - i : Nat) : Int) + 1) else 0, 0, 0⟩ := by
 obtain ⟨l0, hl0⟩ : ∃ l0, l0 = newPl (List.replicate n 0) := ⟨_, rfl⟩
 have hl0a : ∀ i, i < n → l0[i]? = some ⟨0, 0, 0⟩ := fun i hi => by
  rw [hl0]
  unfold newPl
  rw [List.getElem?_map, List.getElem?_replicate, if_pos hi]
  rfl
 have hlen : (newG (longIds n)).length = n := by rw [newG_len, longIds_len]
 rw [← hl0]
 have hE0 : entM 1 ⟨0, 0, 65535, 0⟩ = ⟨0, 0, 65535, 0⟩ := rfl
 have hE1 : entM 1 ⟨0, 32768, 65535, 0⟩ = ⟨0, 32768, 65535, 0⟩ := rfl
 have hE2 : entM 1 ⟨0, 32768, 0, 0⟩ = ⟨0, 32768, 0, 0⟩ := rfl
 obtain ⟨s', hI, hrun⟩ := two_go (σ := List Pl × List Int) hr hm (fun e he => by rcases he with rfl | rfl | rfl <;> decide) (fun _ => newG (longIds n)) (doSt (svTab m k) (n : Int) false false) n
  (fun j s => (j < n → s = (l0, downL j (min j 8))) ∧ (j = n → s.1 = (moveS (twos (svs k)) false false (downL n (min n 8)) 0 l0).1)) (fun _ _ _ => hlen)
  (fun j s hj ⟨h1, _⟩ => by
   have h1 := h1 hj
   subst h1
   have hat : twoAt [4, 5] ⟨0, 0, 65535, 0⟩ ⟨0, 32768, 65535, 0⟩ ⟨0, 32768, 0, 0⟩ (newG (longIds n)) j = if j + 1 = n then ⟨0, 32768, 0, 0⟩ else ⟨0, 32768, 65535, 0⟩ := by
    unfold twoAt
    rw [newG_at (longIds_at hj)]
    dsimp only
    split <;> rfl
   rw [hat]
   by_cases hjn : j + 1 = n
   ·rw [if_pos hjn, hE2]
    refine ⟨fun h => by omega, fun _ => ?_⟩
    rw [doSt_e _ _ _ _ _ _ _ (by decide)]
    dsimp only
    rw [if_neg (by decide), if_pos ⟨by decide, by omega⟩, downL_push, hjn] <;> rfl
   ·rw [if_neg hjn, hE1]
    refine ⟨fun _ => ?_, fun h => by omega⟩
    rw [doSt_e _ _ _ _ _ _ _ (by decide)]
    dsimp only
    rw [if_pos rfl, if_pos ⟨by decide, by omega⟩, downL_push])
  (l0, []) ⟨fun _ => rfl, fun h => by omega⟩
 have hd0 : doSt (svTab m k) (n : Int) false false s' (n : Int) (entM 1 ⟨0, 0, 65535, 0⟩) = s' := by
  rw [hE0, doSt_e _ _ _ _ _ _ _ (by decide)]
  dsimp only
  rw [if_pos rfl, if_neg (by omega)]
 rw [hd0] at hrun
 have h2 := hI.2 rfl
 have hres : runStr (svTab m k) (newG (longIds n)) false false l0 = ((n : Int) + 1, 0, s') := by
  unfold runStr
  rw [hlen]
  exact hrun
 unfold runSt
 rw [hres]
 refine ⟨rfl, fun i hi => ?_⟩
 dsimp only
 rw [h2]
 have := moveS_down hk (min n 8) n 0 l0 (by omega) h0 (fun i hi => hl0a i hi) i
 rw [show ((0 : Nat) : Int) = 0 from rfl] at this
 rw [this]
 by_cases hc : n - 1 - i < min k 8
 ·rw [if_pos ⟨by omega, by omega, by omega⟩, if_pos hc]
  congr 4
  omega
 ·rw [if_neg (by omega), if_neg hc]
  exact hl0a i hi
set_option maxRecDepth 10000 in
theorem runSt_len (t : STab) (ht : t.m.ok) (gl : List Gl) (down cross : Bool) (l : List Pl) : (runSt t gl down cross l).1.length = l.length := by
 unfold runSt runStr
 exact runD_inv t.m ht (fun _ : List Pl × List Int => gl) (fun s i e => (doSt t (gl.length : Int) down cross s i e, i, i + 1)) (fun s : List Pl × List Int => s.1.length = l.length) (fun s i e hs _ _ => by
  dsimp only
  rw [doSt_len]
  exact hs) (2 * (gl.length : Int) + 128) (2 * gl.length + 128) ((l, []), ⟨0, 0, 0, 0⟩) rfl (Int.le_refl _) (Int.le_refl _) (by have := ht.two; dsimp only; omega)
end Go.Sw
end
section
namespace Go.Sw
open Go.RowKit
end Go.Sw
end
section
namespace Go.Sw
open Go.RowKit
end Go.Sw
end
section
namespace Go.Sw
open Go.RowKit
end Go.Sw
end
section
set_option maxRecDepth 100000
set_option linter.unusedVariables false
namespace Go.Sw
noncomputable section
end
end Go.Sw
end
section
namespace Go.Sw
open Go.RowKit
end Go.Sw
end
section
namespace Go.Sw
open Go.RowKit
end Go.Sw
end
section
namespace Go.Sw
open Go.RowKit
end Go.Sw
end
section
namespace Go.Sw
open Go.RowKit
variable {σ : Type}
end Go.Sw
end
section
namespace Go.Sw
open Go.RowKit
end Go.Sw
end
section
namespace Go.Sw
open Go.RowKit
end Go.Sw
end
section
namespace Go.Sw
open Go.RowKit
end Go.Sw
end
section
namespace Go.Sw
open Go.RowKit
end Go.Sw
end
section
namespace Go.Sw
open Go.RowKit
end Go.Sw
end
section
namespace Go.Sw
open Go.RowKit
structure CPlan where
 m : Plan
 subs : List (List Int)
def CPlan.ok (p : CPlan) : Prop := (p.m.ok ∧ p.subs.length < 2 ^ 63) ∧ ∀ s, s ∈ p.subs → ∀ n, n ∈ s → 0 ≤ n ∧ n < 65536
def CSmall (p : CPlan) (n : Nat) : Prop := (∀ s, s ∈ p.subs → s.length ≤ 60) ∧ p.m.cls.length ≤ 40 ∧ p.m.rows.length ≤ 20 ∧ p.m.ents.length ≤ 40 ∧ p.subs.length ≤ 20 ∧ n ≤ 60
instance (p : CPlan) (n : Nat) : Decidable (CSmall p n) := by unfold CSmall; infer_instance
end Go.Sw
end
section
namespace Go.Sw
open Go.RowKit
end Go.Sw
end
section
namespace Go.Sw
open Go.RowKit
theorem Sl.blk {α : Type} {enc : α → List Value} {H : Heap} {m b : Nat} {k : Blk} (l : List α) (hg : H.get b = some k) (hk : k.cells = rows enc l) (he : ∀ x, (enc x).length = m) : Sl H m (.slice (some ⟨b, 0, none⟩) l.length l.length) enc l :=
 .inr (.inr ⟨b, 0, _, _, rfl, Nat.le_refl _, hg, by rw [List.drop_zero, hk, List.take_of_length_le (by rw [rows_length he]; exact Nat.le_refl _)]⟩)
end Go.Sw
end
section
namespace Go.Sw
open Go.RowKit
theorem zeros_rows : ∀ n : Nat, repeatCells [Value.int .i64 0] n = rows encI (List.replicate n 0)
 | 0 => rfl
 | n + 1 => by
  have ih := zeros_rows n
  show [Value.int .i64 0] ++ repeatCells [Value.int .i64 0] n = _
  rw [ih, List.replicate_succ]
  rfl
theorem zeros_sl {H : Heap} {b n : Nat} (hg : H.get b = some ⟨repeatCells [Value.int .i64 0] n, 1, false⟩) : Sl H 1 (.slice (some ⟨b, 0, none⟩) n n) encI (List.replicate n 0) := by
 have := Sl.blk (enc := encI) (m := 1) (List.replicate n (0 : Int)) hg (zeros_rows n) encI_len
 rw [List.length_replicate] at this
 exact this
end Go.Sw
end
section
namespace Go.Sw
open Go.RowKit
theorem lineNew_runG (k : Nat) {H : Heap} {v : Value} {ids : List Int} (hv : Sl H 1 v encI ids) (hl : ids.length < 2 ^ 31) :
  ∃ c o H', R (T k) F.line_New [v] H = .ok (ptrV c) H' ∧ Star H H' [itLine c o (newG ids)] := by
 have g := ((Star.nil H).more_row (Ext.refl _) (OwnO.nil encG _ 2) (fun b hb => by cases hb)).push ⟨[.slice none 0 0], 1, false⟩
 rw [List.append_assoc] at g
 obtain ⟨x, e', H1, hr, rfl, ⟨a, rfl⟩, s, o, g⟩ := loop_up (body := line_New_l1 k (R (T k))) ids.length
  (fun j e H' => e = [(3, ptrV H.n), (8, v), (9, .int .i64 ids.length), (10, .int .i64 j)] ∧ ∃ s o, Star H H' ([] ++ [itRow o 2 s encG (newG (ids.take j)), itBlk H.n ⟨[s], 1, false⟩]))
  (fun x e H' => x = .exit 0 ∧ (∃ a, e = [(3, ptrV H.n), (8, v), (9, .int .i64 ids.length), (10, .int .i64 ids.length), (11, a)]) ∧ ∃ s o, Star H H' ([] ++ [itRow o 2 s encG (newG ids), itBlk H.n ⟨[s], 1, false⟩]))
  (e0 := [(3, ptrV H.n), (8, v), (9, .int .i64 ids.length), (10, .int .i64 0)]) (H0 := H.push ⟨[.slice none 0 0], 1, false⟩) ⟨rfl, _, _, g⟩ (by omega)
  (fun j e H' hj ⟨he, s, o, g⟩ => by
   subst he
   have hlt : (j : Int) < ids.length := by omega
   obtain ⟨x, hx⟩ : ∃ x, ids[j]? = some x := ⟨_, List.getElem?_eq_getElem hj⟩
   obtain ⟨p, i1, i2⟩ := hv.ix1 encI_len j x hx _ rfl
   have i2 := i2 H' g.ext
   have hc := g.get (List.length ([] : List It) + 1) (at2_1 _ _ _)
   have hcn : ¬ H.n = H'.n := by have := Heap.get_lt hc; omega
   obtain ⟨s', o', H2, e1, g⟩ := g.append1 (bytes := 16) (List.length ([] : List It)) encG_len (at2_0 _ _ _) (⟨x, (j : Nat)⟩ : Gl) (by simp; omega) (by decide)
   rw [set2_0] at g
   have hc2 := g.get (List.length ([] : List It) + 1) (at2_1 _ _ _)
   have st := (g.row (List.length ([] : List It)) (at2_0 _ _ _)).storable
   have ce := (g.row (List.length ([] : List It)) (at2_0 _ _ _)).cells
   have g := g.setBlk (List.length ([] : List It) + 1) (at2_1 _ _ _) ⟨[s'], 1, false⟩
   rw [set2_1] at g
   refine .inl ⟨_, _, ?_, rfl, s', o', by rw [take_snoc hx, newG_snoc, List.length_take, Nat.min_eq_left (by omega)]; exact g⟩
   rw [line_New_l1_eq]
   have e1 : apR 2 16 s (.slice (some ⟨H'.n, 0, none⟩) 1 1) (H'.push ⟨[.int .i64 x, .int .i64 (j : Nat)], 2, false⟩) = .ok s' H2 := e1
   simp -implicitDefEqProofs (disch := omega) [hlt, i1, i2, hc, hcn, e1, hc2, st, ce])
  (fun e H' ⟨he, s, o, g⟩ => by
   subst he
   refine ⟨.exit 0, _, H', ?_, by simp, rfl, ⟨.bool false, rfl⟩, s, o, by simpa using g⟩
   rw [line_New_l1_eq]
   simp -implicitDefEqProofs)
 have g := Star.join2 [] g
 refine ⟨H.n, o, H1, ?_, g⟩
 rw [line_New_R]
 refine nrm_of ?_
 have hlv := fun H' => hv.len H'
 simp -implicitDefEqProofs [line_New, hr, line_New_l1k_x0, hlv]
theorem lineNew_starG (k : Nat) {H0 H : Heap} {L : List It} (h : Star H0 H L) {v : Value} {ids : List Int} (hv : Sl H 1 v encI ids) (hl : ids.length < 2 ^ 31) :
  ∃ c o H', R (T k) F.line_New [v] H = .ok (ptrV c) H' ∧ Star H0 H' (L ++ [itLine c o (newG ids)]) := by
 obtain ⟨c, o, H', e, g⟩ := lineNew_runG k hv hl
 exact ⟨c, o, H', e, h.more g.ext _ (g.at 0 rfl) fun b hb => g.lt 0 rfl b hb⟩
theorem set_same {L : List It} {i : Nat} {a : It} (h : L[i]? = some a) : L.set i a = L := by
 apply List.ext_getElem?
 intro j
 by_cases hj : i = j
 ·subst hj
  rw [List.getElem?_set_self (List.getElem?_eq_some_iff.1 h).1, h]
 ·rw [List.getElem?_set_ne hj]
end Go.Sw
end
