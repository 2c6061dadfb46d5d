/-
  Functions' forms, and what is proved of them, part 5.
-/
import Derived.Test.YtnaodjnimkndbabSwW4
import Derived.Test.YtnaodjnimkndbabSwW1
import Derived.Test.YtnaodjnimkndbabSwW3
import Derived.Test.YtnaodjnimkndbabSwCfg
import Derived.Test.YtnaodjnimkndbabSwLib8
import Derived.Eval
set_option linter.unusedSimpArgs false
set_option linter.unusedVariables false
set_option linter.unusedSectionVars false
section
namespace Go.Sw
open Go.RowKit
theorem ofInt64 (v : Int) : ((BitVec.ofInt 64 v).toNat : Int) = v % 18446744073709551616 := by
 rw [BitVec.toNat_ofInt]
 omega
theorem bin_and1 (P : Program) (t : TypeId) (H : Heap) (v : Int) : binR P .and t (.int .i64 v) (.int .i64 1) H = .ok (.int .i64 (v % 2)) H := by
 have e1 : binV P .and t (.int .i64 v) (.int .i64 1) = some (.int .i64 (IntKind.i64.wrap (BitVec.ofInt 64 v &&& BitVec.ofInt 64 1).toNat)) := rfl
 have e : ((BitVec.ofInt 64 v &&& BitVec.ofInt 64 1).toNat : Int) = v % 2 := by
  rw [BitVec.toNat_and, show (BitVec.ofInt 64 1).toNat = 1 from rfl, Nat.and_one_is_mod]
  have := ofInt64 v
  omega
 unfold binR
 rw [e1, e, wrap_i64 (by omega) (by omega)]
 rfl
theorem and_not1 (n : Nat) (h : n < 18446744073709551616) : n &&& 18446744073709551614 = n - n % 2 := by
 have e : n - n % 2 = 2 * (n / 2) := by omega
 rw [e]
 apply Nat.eq_of_testBit_eq
 intro i
 rw [Nat.testBit_and]
 cases i with
 | zero =>
  have h0 : (18446744073709551614 : Nat).testBit 0 = false := by decide
  rw [h0, Bool.and_false, Nat.testBit_zero]
  have : ¬ 2 * (n / 2) % 2 = 1 := by omega
  rw [decide_eq_false this]
 | succ i =>
  have h1 : (18446744073709551614 : Nat) = 2 * (2 ^ 63 - 1) := by decide
  rw [h1]
  rw [Nat.testBit_succ, Nat.testBit_succ, Nat.testBit_succ, Nat.mul_div_cancel_left _ (by decide : 0 < 2), Nat.mul_div_cancel_left _ (by decide : 0 < 2), Nat.testBit_two_pow_sub_one]
  by_cases hi : i < 63
  ·rw [decide_eq_true hi, Bool.and_true]
  ·rw [decide_eq_false hi, Bool.and_false]
   symm
   refine Nat.testBit_lt_two_pow ?_
   have : 2 ^ 63 ≤ 2 ^ i := Nat.pow_le_pow_right (by decide) (by omega)
   omega
theorem bin_andNot1 (P : Program) (t : TypeId) (H : Heap) (v : Int) (h0 : -2 ^ 62 < v) (h1 : v < 2 ^ 62) : binR P .andNot t (.int .i64 v) (.int .i64 1) H = .ok (.int .i64 (v - v % 2)) H := by
 have e1 : binV P .andNot t (.int .i64 v) (.int .i64 1) = some (.int .i64 (IntKind.i64.wrap (BitVec.ofInt 64 v &&& ~~~(BitVec.ofInt 64 1)).toNat)) := rfl
 have e : (BitVec.ofInt 64 v &&& ~~~(BitVec.ofInt 64 1)).toNat = (BitVec.ofInt 64 v).toNat - (BitVec.ofInt 64 v).toNat % 2 := by
  rw [BitVec.toNat_and, show (~~~(BitVec.ofInt 64 1) : BitVec 64).toNat = 18446744073709551614 from rfl]
  exact and_not1 _ (BitVec.ofInt 64 v).isLt
 have hv := ofInt64 v
 have hw : IntKind.i64.wrap ((BitVec.ofInt 64 v &&& ~~~(BitVec.ofInt 64 1)).toNat : Int) = v - v % 2 := by
  rw [e]
  generalize (BitVec.ofInt 64 v).toNat = N at hv
  unfold IntKind.wrap
  simp [IntKind.signed, IntKind.bits]
  split <;> omega
 unfold binR
 rw [e1, hw]
 rfl
abbrev stackC (t : STab) : List Value := [machV t.m, lv encB t.vals]
abbrev stackV (t : STab) : Value := boxV (stackC t).toArray
theorem odd_next {vs : List Int} {a : Int} (hb : Byt vs) (ha : 0 ≤ a) (h : oddB vs a = true) : 2 * a + 2 ≤ vs.length ∧ uS vs (2 * a) 2 = some (gU vs (2 * a) 2) ∧ (-32768 ≤ s16 (gU vs (2 * a) 2) ∧ s16 (gU vs (2 * a) 2) < 32768) ∧ (lastS vs a = false → oddB vs (a + 1) = true) := by
 obtain ⟨i, h1, h2, h3⟩ := oddB_iff.1 h
 have hl : 2 * a + 2 ≤ vs.length := by omega
 obtain ⟨x, hx⟩ : ∃ x, uS vs (2 * a) 2 = some x := by
  cases hu : uS vs (2 * a) 2 with
  | some x => exact ⟨x, rfl⟩
  | none =>
   exfalso
   unfold uS pieceS at hu
   rw [if_pos ⟨by omega, by omega, by omega, by omega⟩] at hu
   simp at hu
 have hg := gU_some hx
 rw [hg]
 have hxb := uS_two hb hx
 refine ⟨hl, hx, ?_, fun hlast => ?_⟩
 ·unfold s16
  split <;> omega
 ·refine oddB_iff.2 ⟨i, ?_, h2, h3⟩
  unfold lastS at hlast
  have hlast := of_decide_eq_false hlast
  rw [hg] at hlast
  by_cases hia : (i : Int) = a
  ·exfalso
   rw [hia, hg] at h3
   apply hlast
   unfold s16
   split <;> omega
  ·omega
set_option maxHeartbeats 1000000 in
theorem stackMove_star (k : Nat) (t : STab) (hbt : Byt t.vals) (hlt : t.vals.length < 2 ^ 31) {H0 H : Heap} {L : List It} (g : Star H0 H L) (ik ip : Nat) (hne : ik ≠ ip) {ck p : Nat} {op : Option Nat} {down : Bool} {ks : List Int} {l : List Pl} (hik : L[ik]? = some (itKept ck ks)) (hip : L[ip]? = some (itPl p op down l)) (hok : ∀ q, q ∈ l → q.ok)
  (cross : Bool) (a : Int) (ha : 0 ≤ a) (hodd : oddB t.vals a = true) :
  ∃ H', R (T k) F.stack_Table_move [stackV t, ptrV ck, ptrV p, .int .i64 a, .bool cross] H = .ok (.tuple #[]) H' ∧ Star H0 H' ((L.set ip (itPl p op down (moveS t.vals down cross ks a l).1)).set ik (itKept ck (moveS t.vals down cross ks a l).2)) := by
 have hkl := (List.getElem?_eq_some_iff.1 hik).1
 have hpl := (List.getElem?_eq_some_iff.1 hip).1
 have hks8 : ks.length ≤ 8 := by
  obtain ⟨_, _, h, _⟩ := g.at ik hik
  exact h
 have set0 : (L.set ip (itPl p op down l)).set ik (itKept ck ks) = L := by
  have e1 : L.set ip (itPl p op down l) = L := by
   obtain ⟨hlt, hx⟩ := List.getElem?_eq_some_iff.1 hip
   rw [← hx, List.set_getElem_self]
  rw [e1]
  obtain ⟨hlt, hx⟩ := List.getElem?_eq_some_iff.1 hik
  rw [← hx, List.set_getElem_self]
 have atK : ∀ l' ks', ((L.set ip (itPl p op down l')).set ik (itKept ck ks'))[ik]? = some (itKept ck ks') := fun l' ks' => List.getElem?_set_self (by simpa using hkl)
 have atP : ∀ l' ks', ((L.set ip (itPl p op down l')).set ik (itKept ck ks'))[ip]? = some (itPl p op down l') := fun l' ks' => by
  rw [List.getElem?_set_ne hne]
  exact List.getElem?_set_self hpl
 have setK : ∀ l' ks' ks'', ((L.set ip (itPl p op down l')).set ik (itKept ck ks')).set ik (itKept ck ks'') = (L.set ip (itPl p op down l')).set ik (itKept ck ks'') := fun l' ks' ks'' => List.set_set _
 have setP : ∀ l' l'' ks', ((L.set ip (itPl p op down l')).set ik (itKept ck ks')).set ip (itPl p op down l'') = (L.set ip (itPl p op down l'')).set ik (itKept ck ks') := fun l' l'' ks' => by
  rw [List.set_comm _ _ hne, List.set_set]
 have one : ∀ {H' : Heap} {l' : List Pl} {ks' : List Int} (j v : Int), (∀ q, q ∈ l' → q.ok) → Star H0 H' ((L.set ip (itPl p op down l')).set ik (itKept ck ks')) →
   ∃ H2, (if cross = false then R (T k) F.place_Places_Along [ptrV p, .int .i64 j, .int .i64 v] H' else if v = -32768 then R (T k) F.place_Places_Level [ptrV p, .int .i64 j] H' else R (T k) F.place_Places_Across [ptrV p, .int .i64 j, .int .i64 v] H') = .ok (.tuple #[]) H2 ∧
    Star H0 H2 ((L.set ip (itPl p op down (onePl down cross l' j v))).set ik (itKept ck ks')) := fun {H' l' ks'} j v hq st => by
  unfold onePl
  by_cases c : cross = false
  ·rw [if_pos c, if_pos c]
   obtain ⟨H2, e, st2⟩ := along_star k st ip (atP _ _) hq j v
   rw [setP] at st2
   exact ⟨H2, e, st2⟩
  ·rw [if_neg c, if_neg c]
   by_cases c2 : v = -32768
   ·rw [if_pos c2, if_pos c2]
    obtain ⟨H2, e, st2⟩ := level_star k st ip (atP _ _) hq j
    rw [setP] at st2
    exact ⟨H2, e, st2⟩
   ·rw [if_neg c2, if_neg c2]
    obtain ⟨H2, e, st2⟩ := across_star k st ip (atP _ _) hq j v
    rw [setP] at st2
    exact ⟨H2, e, st2⟩
 rw [stack_Table_move_R]
 obtain ⟨xx, e', H1, hr1, rfl, hE, st⟩ := loop_up (body := stack_Table_move_l1 k (R (T k))) ks.length
  (fun j e H' => e = [(0, stackV t), (1, ptrV ck), (2, ptrV p), (3, .int .i64 (a + j)), (4, .bool cross)] ∧ ∃ l' : List Pl, (∀ q, q ∈ l' → q.ok) ∧ oddB t.vals (a + j) = true ∧ moveS t.vals down cross (ks.drop j) (a + j) l' = moveS t.vals down cross ks a l ∧ Star H0 H' ((L.set ip (itPl p op down l')).set ik (itKept ck (ks.drop j))))
  (fun xx e H' => xx = .ret ∧ ((∃ z v, e = [(0, stackV t), (1, ptrV ck), (2, ptrV p), (3, z), (4, .bool cross), (10, v), (22, .bool true)]) ∨ (∃ z, e = [(0, stackV t), (1, ptrV ck), (2, ptrV p), (3, z), (4, .bool cross), (51, .bool true)])) ∧ Star H0 H' ((L.set ip (itPl p op down (moveS t.vals down cross ks a l).1)).set ik (itKept ck (moveS t.vals down cross ks a l).2)))
  (e0 := [(0, stackV t), (1, ptrV ck), (2, ptrV p), (3, .int .i64 a), (4, .bool cross)]) (H0 := H) ⟨by simp, l, hok, by simpa using hodd, by simp, by rw [List.drop_zero, set0]; exact g⟩ (by omega)
  (fun j e H' hj ⟨he, l', hq, ho, hm, st⟩ => by
   subst he
   obtain ⟨x, hx⟩ : ∃ x, ks[j]? = some x := ⟨_, List.getElem?_eq_getElem hj⟩
   have hd : ks.drop j = x :: ks.drop (j + 1) := by rw [List.drop_eq_getElem_cons hj, (List.getElem?_eq_some_iff.1 hx).2]
   rw [hd] at st hm
   obtain ⟨H2, e2, st2⟩ := keptPop_star k st ik (atK _ _)
   rw [setK] at st2
   simp only [List.head?_cons, Option.getD_some, List.isEmpty_cons, Bool.not_false, List.tail_cons] at e2 st2
   obtain ⟨o1, o2, o3, o4⟩ := odd_next hbt (by omega) ho
   have hi16 := fun H' => I16_run k (Sl.lv H' 1 t.vals) hbt (2 * (a + j)) (by omega)
   rw [o2] at hi16
   have hi16 : ∀ H', R (T k) F.view_View_I16 [.agg #[lv encB t.vals], .int .i64 (2 * (a + j))] H' = .ok (.int .i64 (s16 (gU t.vals (2 * (a + j)) 2))) H' := hi16
   have hv : valV t.vals (a + j) = s16 (gU t.vals (2 * (a + j)) 2) - s16 (gU t.vals (2 * (a + j)) 2) % 2 := rfl
   have hlv : lastS t.vals (a + j) = decide (s16 (gU t.vals (2 * (a + j)) 2) % 2 = 1) := rfl
   have an1 := fun H => bin_and1 Prog 3 H (s16 (gU t.vals (2 * (a + j)) 2))
   have an2 := fun H => bin_andNot1 Prog 3 H (s16 (gU t.vals (2 * (a + j)) 2)) (by omega) (by omega)
   rw [← hv] at an2
   have hm : (if lastS t.vals (a + j) then (onePl down cross l' x (valV t.vals (a + j)), ks.drop (j + 1)) else moveS t.vals down cross (ks.drop (j + 1)) (a + j + 1) (onePl down cross l' x (valV t.vals (a + j)))) = moveS t.vals down cross ks a l := hm
   obtain ⟨H3, e3, st3⟩ := one x (valV t.vals (a + j)) hq st2
   have hq3 := onePl_ok hq down cross x (valV t.vals (a + j))
   have hvb : -32770 ≤ valV t.vals (a + j) ∧ valV t.vals (a + j) < 32768 := by rw [hv]; omega
   generalize valV t.vals (a + j) = vv at an2 hm e3 st3 hq3 hvb hv
   generalize s16 (gU t.vals (2 * (a + j)) 2) = sv at hi16 hlv an1 an2 o3 hv
   by_cases d : sv % 2 = 1
   ·rw [hlv, decide_eq_true d, if_pos rfl] at hm
    refine .inr ⟨.ret, _, H3, ?_, by simp, rfl, .inr ⟨.int .i64 (a + j), rfl⟩, by rw [← hm]; exact st3⟩
    rw [stack_Table_move_l1_eq]
    cases cross with
    | false =>
     rw [if_pos rfl] at e3
     simp -implicitDefEqProofs (disch := omega) [e2, hi16, an2, e3, stack_Table_move_j1_eq, an1, d]
    | true =>
     rw [if_neg (by decide)] at e3
     by_cases d2 : vv = -32768
     ·rw [if_pos d2] at e3
      have d2' : (vv == -32768) = true := by rw [beq_iff_eq]; exact d2
      simp -implicitDefEqProofs (disch := omega) [e2, hi16, an2, d2', e3, stack_Table_move_j1_eq, an1, d]
     ·rw [if_neg d2] at e3
      have d2' : (vv == -32768) = false := by rw [beq_eq_false_iff_ne]; exact d2
      simp -implicitDefEqProofs (disch := omega) [e2, hi16, an2, d2', e3, stack_Table_move_j1_eq, an1, d]
   ·rw [hlv, decide_eq_false d, if_neg (by simp)] at hm
    have d' : (sv % 2 == 1) = false := by rw [beq_eq_false_iff_ne]; exact d
    have hj1 : a + ((j + 1 : Nat) : Int) = a + j + 1 := by omega
    refine .inl ⟨_, H3, ?_, rfl, onePl down cross l' x vv, hq3, by rw [hj1]; exact o4 (by rw [hlv, decide_eq_false d]), by rw [hj1]; exact hm, st3⟩
    rw [stack_Table_move_l1_eq, hj1]
    cases cross with
    | false =>
     rw [if_pos rfl] at e3
     simp -implicitDefEqProofs (disch := omega) [e2, hi16, an2, e3, stack_Table_move_j1_eq, an1, d']
    | true =>
     rw [if_neg (by decide)] at e3
     by_cases d2 : vv = -32768
     ·rw [if_pos d2] at e3
      have d2' : (vv == -32768) = true := by rw [beq_iff_eq]; exact d2
      simp -implicitDefEqProofs (disch := omega) [e2, hi16, an2, d2', e3, stack_Table_move_j1_eq, an1, d']
     ·rw [if_neg d2] at e3
      have d2' : (vv == -32768) = false := by rw [beq_eq_false_iff_ne]; exact d2
      simp -implicitDefEqProofs (disch := omega) [e2, hi16, an2, d2', e3, stack_Table_move_j1_eq, an1, d'])
  (fun e H' ⟨he, l', hq, ho, hm, st⟩ => by
   subst he
   rw [List.drop_length] at st hm
   obtain ⟨H2, e2, st2⟩ := keptPop_star k st ik (atK _ _)
   rw [setK] at st2
   have hm : (l', ([] : List Int)) = moveS t.vals down cross ks a l := hm
   refine ⟨.ret, _, H2, ?_, by simp, rfl, .inl ⟨.int .i64 (a + ks.length), .int .i64 0, rfl⟩, by rw [← hm]; exact st2⟩
   rw [stack_Table_move_l1_eq]
   simp -implicitDefEqProofs (disch := omega) [e2])
 refine ⟨H1, nrm_of ?_, st⟩
 rcases hE with ⟨z, v, rfl⟩ | ⟨z, rfl⟩
 ·simp -implicitDefEqProofs [stack_Table_move, hr1, stack_Table_move_l1k_r]
 ·simp -implicitDefEqProofs [stack_Table_move, hr1, stack_Table_move_l1k_r_1]
end Go.Sw
end
section
namespace Go.Sw
open Go.RowKit
set_option maxHeartbeats 1000000 in
/-- What is asked of what is kept, and the move. -/
theorem stack_tail (k : Nat) (t : STab) (ht : t.ok) {H0 H : Heap} {Q : List It} (ik ip : Nat) (hne : ik ≠ ip) {ck p p4 p5 p6 q : Nat} {op : Option Nat} {down cross : Bool} {ks : List Int} {l : List Pl} {e : En} (he : e ∈ t.m.ents)
  (st : Star H0 H Q) (hik : Q[ik]? = some (itKept ck ks)) (hip : Q[ip]? = some (itPl p op down l)) (hok : ∀ q, q ∈ l → q.ok)
  (h4 : H.get p4 = some ⟨[stackV t], 1, false⟩) (h5 : H.get p5 = some ⟨[ptrV p], 1, false⟩) (h6 : H.get p6 = some ⟨[.bool cross], 1, false⟩) (hq : H.get q = some ⟨encEn e, 1, false⟩) :
  ∃ H', stack_Table_Run_in1_j3 k (R (T k)) (ptrV ck) (ptrV p4) (ptrV p5) (ptrV p6) (ptrV q) H = .ok (.tuple #[]) H' ∧ (∀ a0 a23, stack_Table_Run_in1_j4 k (R (T k)) a0 (ptrV ck) (ptrV p4) (ptrV p5) (ptrV p6) (ptrV q) a23 H = .ok (.tuple #[]) H') ∧
   Star H0 H' ((Q.set ip (itPl p op down (if e.a = 65535 then (l, ks) else moveS t.vals down cross ks e.a l).1)).set ik (itKept ck (if e.a = 65535 then (l, ks) else moveS t.vals down cross ks e.a l).2)) := by
 have hent := ht.m.ent e he
 by_cases ha : e.a = 65535
 ·have ha' : (e.a != 65535) = false := by rw [ha]; rfl
  rw [if_pos ha]
  refine ⟨H, ?_, fun a0 a23 => ?_, ?_⟩
  ·rw [stack_Table_Run_in1_j3_eq]
   simp -implicitDefEqProofs (disch := omega) [hq, ha']
  ·rw [stack_Table_Run_in1_j4_eq]
   simp -implicitDefEqProofs (disch := omega) [hq, ha']
  ·have e1 : Q.set ip (itPl p op down l) = Q := by
    obtain ⟨hlt, hx⟩ := List.getElem?_eq_some_iff.1 hip
    rw [← hx, List.set_getElem_self]
   dsimp only
   rw [e1]
   obtain ⟨hlt, hx⟩ := List.getElem?_eq_some_iff.1 hik
   rw [← hx, List.set_getElem_self]
   exact st
 ·have ha' : (e.a != 65535) = true := by rw [bne_iff_ne]; exact ha
  rw [if_neg ha]
  obtain ⟨H', e1, st2⟩ := stackMove_star k t ht.byt ht.len st ik ip hne hik hip hok cross e.a (by omega) ((ht.has e he).resolve_left ha)
  refine ⟨H', ?_, fun a0 a23 => ?_, st2⟩
  ·rw [stack_Table_Run_in1_j3_eq]
   simp -implicitDefEqProofs (disch := omega) [hq, ha', h4, h5, h6, e1]
  ·rw [stack_Table_Run_in1_j4_eq]
   simp -implicitDefEqProofs (disch := omega) [hq, ha', h4, h5, h6, e1]
end Go.Sw
end
section
namespace Go.Sw
open Go.RowKit
end Go.Sw
end
section
namespace Go.Sw
open Go.RowKit
end Go.Sw
end
section
namespace Go.Sw
open Go.RowKit
variable {σ : Type}
end Go.Sw
end
section
namespace Go.Sw
open Go.RowKit
def sv (k i : Nat) : Int := if i + 1 = k then 2 * ((i : Int) + 1) + 1 else 2 * ((i : Int) + 1)
end Go.Sw
end
section
namespace Go.Sw
open Go.RowKit
end Go.Sw
end
section
namespace Go.Sw
open Go.RowKit
end Go.Sw
end
section
namespace Go.Sw
open Go.RowKit
theorem placeLen_run (k : Nat) {H0 H : Heap} {L : List It} (h : Star H0 H L) (i : Nat) {p : Nat} {o : Option Nat} {down : Bool} {l : List Pl} (hi : L[i]? = some (itPl p o down l)) : R (T k) F.place_Places_Len [ptrV p] H = .ok (.int .i64 l.length) H := Len_run k (h.pl i hi)
end Go.Sw
end
section
namespace Go.Sw
open Go.RowKit
end Go.Sw
end
section
namespace Go.Sw
open Go.RowKit
theorem slOf {α : Type} {enc : α → List Value} {H : Heap} {m b : Nat} {k : Blk} (l : List α) (hg : H.get b = some k) (hk : k.cells = rows enc l) (he : ∀ x, (enc x).length = m) : Sl H m (.slice (some ⟨b, 0, none⟩) l.length l.length) enc l :=
 .inr (.inr ⟨b, 0, _, _, rfl, Nat.le_refl _, hg, by rw [List.drop_zero, hk, List.take_of_length_le (by rw [rows_length he]; exact Nat.le_refl _)]⟩)
end Go.Sw
end
section
set_option maxRecDepth 100000
set_option linter.unusedVariables false
namespace Go.Sw
noncomputable section
def swashtop_WholeTotals_l1 (k : Nat) (call : Caller) : Env → Heap → Res (AExit × Env) := loopB (C k) call F.swashtop_WholeTotals [1, 1, 1, 1, 1, 1, 1, 0, 1, 0, 0]
def swashtop_WholeTotals_l1k (k : Nat) (call : Caller) : Kont Value := kBlock 0 (kSeq (pieceK (C k) call F.swashtop_WholeTotals [1, 1, 1, 1, 1, 1, 1, 1]) (kDone Prog (resOf Prog F.swashtop_WholeTotals)))
def swashtop_WholeTotals_j1 (k : Nat) (call : Caller) (a1 a2 a7 a9 a10 a12 a60 a61 : Value) (h : Heap) : Res (AExit × Env) :=
 kSeq (pieceK (C k) call F.swashtop_WholeTotals [1, 1, 1, 1, 1, 1, 1, 0, 1, 0, 0, 1, 1, 0, 0, 1, 1, 1]) (kBlock 1 (kSeq (pieceK (C k) call F.swashtop_WholeTotals [1, 1, 1, 1, 1, 1, 1, 0, 1, 0, 0, 1, 1, 1]) (kRound (ownOf (C k) F.swashtop_WholeTotals [1, 1, 1, 1, 1, 1, 1, 0, 1, 0, 0])))) .normal [(1, a1), (2, a2), (7, a7), (9, a9), (10, a10), (12, a12), (60, a60), (61, a61)] h
def swashtop_WholeTotals_j2 (k : Nat) (call : Caller) (a1 a2 a7 a9 a10 a11 a12 a60 a61 a67 : Value) (h : Heap) : Res (AExit × Env) :=
 kSeq (pieceK (C k) call F.swashtop_WholeTotals [1, 1, 1, 1, 1, 1, 1, 0, 1, 0, 0, 1, 1, 0, 0, 1, 1, 1]) (kBlock 1 (kSeq (pieceK (C k) call F.swashtop_WholeTotals [1, 1, 1, 1, 1, 1, 1, 0, 1, 0, 0, 1, 1, 1]) (kRound (ownOf (C k) F.swashtop_WholeTotals [1, 1, 1, 1, 1, 1, 1, 0, 1, 0, 0])))) .normal [(1, a1), (2, a2), (7, a7), (9, a9), (10, a10), (11, a11), (12, a12), (60, a60), (61, a61), (67, a67)] h
def swashtop_WholeTotals_l2 (k : Nat) (call : Caller) : Env → Heap → Res (AExit × Env) := loopB (C k) call F.swashtop_WholeTotals [1, 1, 1, 1, 1, 1, 1, 1, 1, 0, 1, 0, 0]
def swashtop_WholeTotals_l2k (k : Nat) (call : Caller) : Kont Value := kBlock 2 (kSeq (pieceK (C k) call F.swashtop_WholeTotals [1, 1, 1, 1, 1, 1, 1, 1, 1, 1]) (kDone Prog (resOf Prog F.swashtop_WholeTotals)))
def swashtop_WholeTotals_l3 (k : Nat) (call : Caller) : Env → Heap → Res (AExit × Env) := loopB (C k) call F.swashtop_WholeTotals [1, 1, 1, 1, 1, 1, 1, 1, 1, 1, 1, 0, 1, 0, 0]
def swashtop_WholeTotals_l3k (k : Nat) (call : Caller) : Kont Value := kBlock 4 (kSeq (pieceK (C k) call F.swashtop_WholeTotals [1, 1, 1, 1, 1, 1, 1, 1, 1, 1, 1, 1]) (kDone Prog (resOf Prog F.swashtop_WholeTotals)))
def swashtop_WholeTotals (k : Nat) (call : Caller) (a0 a1 a2 : Value) (h : Heap) : Res Value :=
 (buildR Prog 156 [(0, (.int .u16 1)), (1, (.int .u16 2)), (2, (.int .i16 3))] h).bind fun v1 h2 =>
 (buildSliceR Prog 149 1 [(0, v1)] h2).bind fun v3 h4 =>
 (call F.swashlaw22_Write [v3] h4).bind fun v5 h6 =>
 (call F.pair_Read [(.int .i64 0), v5, (.int .i64 9)] h6).bind fun v7 h8 =>
 (extractR v7 0 h8).bind fun v9 h10 =>
 (extractR v7 1 h10).bind fun v11 h12 =>
 (binR Prog .neq 34 v11 (.int .i64 0) h12).bind fun v13 h14 =>
 ((bif wantVal v13 false then Res.ok v9 h14 else Res.ok undef h14)).bind fun v15 h16 =>
 ((bif wantVal v13 false then binR Prog .eql 150 v15 (.pointer none) h16 else Res.ok undef h16)).bind fun v17 h18 =>
 (condV (some v13) (Res.ok (.bool true) h18) (Res.ok v17 h18)).bind fun v19 h20 =>
 ((bif wantVal v19 false then Res.ok v9 h20 else Res.ok undef h20)).bind fun v21 h22 =>
 ((bif wantVal v19 false then call F.pair_Table_Get [v21, (.int .i64 1), (.int .i64 2)] h22 else Res.ok undef h22)).bind fun v23 h24 =>
 ((bif wantVal v19 false then binR Prog .neq 3 v23 (.int .i64 3) h24 else Res.ok undef h24)).bind fun v25 h26 =>
 (condV (some v19) (Res.ok (.bool true) h26) (Res.ok v25 h26)).bind fun v27 h28 =>
 condV (some v27) (
 .ok (.bool false) h28)
 (
 (builtinV Prog .len [149] [a0] h28).bind fun v29 h30 =>
 (binR Prog .gtr 3 v29 (.int .i64 60) h30).bind fun v31 h32 =>
 ((bif wantVal v31 false then Res.ok a1 h32 else Res.ok undef h32)).bind fun v33 h34 =>
 ((bif wantVal v31 false then builtinV Prog .len [22] [v33] h34 else Res.ok undef h34)).bind fun v35 h36 =>
 ((bif wantVal v31 false then binR Prog .gtr 3 v35 (.int .i64 60) h36 else Res.ok undef h36)).bind fun v37 h38 =>
 (condV (some v31) (Res.ok (.bool true) h38) (Res.ok v37 h38)).bind fun v39 h40 =>
 condV (some v39) (
 .ok (.bool true) h40)
 (
 (call F.swashlaw22_Write [a0] h40).bind fun v41 h42 =>
 (call F.pair_Read [(.int .i64 0), v41, (.int .i64 300)] h42).bind fun v43 h44 =>
 (extractR v43 0 h44).bind fun v45 h46 =>
 (extractR v43 1 h46).bind fun v47 h48 =>
 (binR Prog .neq 34 v47 (.int .i64 0) h48).bind fun v49 h50 =>
 ((bif wantVal v49 false then Res.ok v45 h50 else Res.ok undef h50)).bind fun v51 h52 =>
 ((bif wantVal v49 false then binR Prog .eql 150 v51 (.pointer none) h52 else Res.ok undef h52)).bind fun v53 h54 =>
 (condV (some v49) (Res.ok (.bool true) h54) (Res.ok v53 h54)).bind fun v55 h56 =>
 condV (some v55) (
 (binR Prog .eql 34 v47 (.int .i64 2) h56).bind fun v57 h58 =>
 .ok v57 h58)
 (
 (builtinV Prog .len [22] [a1] h56).bind fun v59 h60 =>
 (loopN (swashtop_WholeTotals_l1 k call) loopFuel [(1, a1), (2, a2), (7, v45), (9, (.slice none 0 0)), (10, (.int .i64 0)), (60, v59), (61, (.int .i64 0))] h60).bind fun r61 h62 =>
 swashtop_WholeTotals_l1k k call r61.1 r61.2 h62)))
theorem swashtop_WholeTotals_R (k : Nat) (a0 a1 a2 : Value) (h : Heap) : R (T k) F.swashtop_WholeTotals [a0, a1, a2] h = nrm .gc h (swashtop_WholeTotals k (R (T k)) a0 a1 a2 h) :=
 (R_body (t := T k) (T_scott k) (by kernel_rfl) (by kernel_rfl) _ _).trans (by kernel_rfl)
theorem swashtop_WholeTotals_l1_eq (k : Nat) (call : Caller) (a1 a2 a7 a9 a10 a60 a61 : Value) (h : Heap) : swashtop_WholeTotals_l1 k call [(1, a1), (2, a2), (7, a7), (9, a9), (10, a10), (60, a60), (61, a61)] h =
 (binR Prog .lss 3 a61 a60 h).bind fun v63 h64 =>
 condV (some v63) (
 (builtinV Prog .len [109] [a2] h64).bind fun v65 h66 =>
 (binR Prog .lss 3 a61 v65 h66).bind fun v67 h68 =>
 condV (some v67) (
 (indexAddrR Prog 109 a2 a61 h68).bind fun v69 h70 =>
 (loadR Prog 154 v69 h70).bind fun v71 h72 =>
 (convR Prog 154 3 v71 h72).bind fun v73 h74 =>
 swashtop_WholeTotals_j1 k call a1 a2 a7 a9 a10 v73 a60 a61 h74)
 (
 swashtop_WholeTotals_j2 k call a1 a2 a7 a9 a10 a61 (.int .i64 0) a60 a61 v67 h68))
 (
 .ok ((.exit 0), [(1, a1), (2, a2), (7, a7), (9, a9), (10, a10), (60, a60), (61, a61), (62, v63)]) h64) :=
 (loopB_eq _ _).trans (by kernel_rfl)
theorem swashtop_WholeTotals_j1_eq (k : Nat) (call : Caller) (a1 a2 a7 a9 a10 a12 a60 a61 : Value) (h : Heap) : swashtop_WholeTotals_j1 k call a1 a2 a7 a9 a10 a12 a60 a61 h =
 (buildSliceR Prog 27 1 [(0, a12)] h).bind fun v75 h76 =>
 (builtinV Prog .append [27, 27] [a9, v75] h76).bind fun v77 h78 =>
 (binR Prog .add 3 a10 a12 h78).bind fun v79 h80 =>
 (binR Prog .add 3 a61 (.int .i64 1) h80).bind fun v81 h82 =>
 .ok (.normal, [(1, a1), (2, a2), (7, a7), (9, v77), (10, v79), (60, a60), (61, v81)]) h82 := by kernel_rfl
theorem swashtop_WholeTotals_j2_eq (k : Nat) (call : Caller) (a1 a2 a7 a9 a10 a11 a12 a60 a61 a67 : Value) (h : Heap) : swashtop_WholeTotals_j2 k call a1 a2 a7 a9 a10 a11 a12 a60 a61 a67 h =
 (buildSliceR Prog 27 1 [(0, a12)] h).bind fun v83 h84 =>
 (builtinV Prog .append [27, 27] [a9, v83] h84).bind fun v85 h86 =>
 (binR Prog .add 3 a10 a12 h86).bind fun v87 h88 =>
 (binR Prog .add 3 a61 (.int .i64 1) h88).bind fun v89 h90 =>
 .ok (.normal, [(1, a1), (2, a2), (7, a7), (9, v85), (10, v87), (60, a60), (61, v89)]) h90 := by kernel_rfl
theorem swashtop_WholeTotals_l1k_x0 (k : Nat) (call : Caller) (a1 a2 a7 a9 a10 a60 a61 a62 : Value) (h : Heap) : swashtop_WholeTotals_l1k k call (.exit 0) [(1, a1), (2, a2), (7, a7), (9, a9), (10, a10), (60, a60), (61, a61), (62, a62)] h =
 (call F.place_New [(.int .i64 0), a9] h).bind fun v91 h92 =>
 (loopN (swashtop_WholeTotals_l2 k call) loopFuel [(1, a1), (7, a7), (10, a10), (13, v91), (14, (.int .i64 1))] h92).bind fun r93 h94 =>
 swashtop_WholeTotals_l2k k call r93.1 r93.2 h94 := by kernel_rfl
theorem swashtop_WholeTotals_l2_eq (k : Nat) (call : Caller) (a1 a7 a10 a13 a14 : Value) (h : Heap) : swashtop_WholeTotals_l2 k call [(1, a1), (7, a7), (10, a10), (13, a13), (14, a14)] h =
 (builtinV Prog .len [22] [a1] h).bind fun v95 h96 =>
 (binR Prog .lss 3 a14 v95 h96).bind fun v97 h98 =>
 condV (some v97) (
 (binR Prog .sub 3 a14 (.int .i64 1) h98).bindN fun v99 h100 =>
 (indexAddrR Prog 22 a1 v99 h100).bindN fun v101 h102 =>
 (loadR Prog 5 v101 h102).bindN fun v103 h104 =>
 (convR Prog 5 3 v103 h104).bindN fun v105 h106 =>
 (indexAddrR Prog 22 a1 a14 h106).bindN fun v107 h108 =>
 (loadR Prog 5 v107 h108).bindN fun v109 h110 =>
 (convR Prog 5 3 v109 h110).bindN fun v111 h112 =>
 (call F.pair_Table_Get [a7, v105, v111] h112).bindT (fun p115 h116 => .panic p115 h116) fun v113 h114 =>
 (binR Prog .sub 3 a14 (.int .i64 1) h114).bind fun v117 h118 =>
 (call F.place_Places_Along [a13, v117, v113] h118).bind fun v119 h120 =>
 (binR Prog .add 3 a10 v113 h120).bind fun v121 h122 =>
 (binR Prog .add 3 a14 (.int .i64 1) h122).bind fun v123 h124 =>
 .ok (.normal, [(1, a1), (7, a7), (10, v121), (13, a13), (14, v123)]) h124)
 (
 .ok ((.exit 2), [(1, a1), (7, a7), (10, a10), (13, a13), (14, a14), (86, v97)]) h98) :=
 (loopB_eq _ _).trans (by kernel_rfl)
theorem swashtop_WholeTotals_l2k_x2 (k : Nat) (call : Caller) (a1 a7 a10 a13 a14 a86 : Value) (h : Heap) : swashtop_WholeTotals_l2k k call (.exit 2) [(1, a1), (7, a7), (10, a10), (13, a13), (14, a14), (86, a86)] h =
 (call F.place_Places_All [a13] h).bind fun v125 h126 =>
 (builtinV Prog .len [70] [v125] h126).bind fun v127 h128 =>
 (loopN (swashtop_WholeTotals_l3 k call) loopFuel [(1, a1), (10, a10), (13, a13), (16, (.int .i64 0)), (111, v125), (112, v127), (113, (.int .i64 0))] h128).bind fun r129 h130 =>
 swashtop_WholeTotals_l3k k call r129.1 r129.2 h130 := by kernel_rfl
theorem swashtop_WholeTotals_l3_eq (k : Nat) (call : Caller) (a1 a10 a13 a16 a111 a112 a113 : Value) (h : Heap) : swashtop_WholeTotals_l3 k call [(1, a1), (10, a10), (13, a13), (16, a16), (111, a111), (112, a112), (113, a113)] h =
 (binR Prog .lss 3 a113 a112 h).bind fun v131 h132 =>
 condV (some v131) (
 (indexAddrR Prog 70 a111 a113 h132).bind fun v133 h134 =>
 (loadR Prog 91 v133 h134).bind fun v135 h136 =>
 (allocR Prog 91 h136).bind fun v137 h138 =>
 (storeR Prog 91 v137 v135 h138).bind fun _v139 h140 =>
 (fieldAddrR Prog 91 v137 1 h140).bind fun v141 h142 =>
 (loadR Prog 21 v141 h142).bind fun v143 h144 =>
 (binR Prog .neq 21 v143 (.int .i32 0) h144).bind fun v145 h146 =>
 ((bif wantVal v145 false then fieldAddrR Prog 91 v137 2 h146 else Res.ok undef h146)).bind fun v147 h148 =>
 ((bif wantVal v145 false then loadR Prog 21 v147 h148 else Res.ok undef h148)).bind fun v149 h150 =>
 ((bif wantVal v145 false then binR Prog .neq 21 v149 (.int .i32 0) h150 else Res.ok undef h150)).bind fun v151 h152 =>
 (condV (some v145) (Res.ok (.bool true) h152) (Res.ok v151 h152)).bind fun v153 h154 =>
 condV (some v153) (
 .ok (.ret, [(6, (.bool false))]) h154)
 (
 (fieldAddrR Prog 91 v137 0 h154).bind fun v155 h156 =>
 (loadR Prog 21 v155 h156).bind fun v157 h158 =>
 (convR Prog 21 3 v157 h158).bind fun v159 h160 =>
 (binR Prog .add 3 a16 v159 h160).bind fun v161 h162 =>
 (binR Prog .add 3 a113 (.int .i64 1) h162).bind fun v163 h164 =>
 .ok (.normal, [(1, a1), (10, a10), (13, a13), (16, v161), (111, a111), (112, a112), (113, v163)]) h164))
 (
 .ok ((.exit 4), [(1, a1), (10, a10), (13, a13), (16, a16), (111, a111), (112, a112), (113, a113), (114, v131)]) h132) :=
 (loopB_eq _ _).trans (by kernel_rfl)
theorem swashtop_WholeTotals_l3k_x4 (k : Nat) (call : Caller) (a1 a10 a13 a16 a111 a112 a113 a114 : Value) (h : Heap) : swashtop_WholeTotals_l3k k call (.exit 4) [(1, a1), (10, a10), (13, a13), (16, a16), (111, a111), (112, a112), (113, a113), (114, a114)] h =
 (binR Prog .eql 3 a16 a10 h).bind fun v165 h166 =>
 ((bif wantVal v165 true then Res.ok a13 h166 else Res.ok undef h166)).bind fun v167 h168 =>
 ((bif wantVal v165 true then call F.place_Places_Len [v167] h168 else Res.ok undef h168)).bind fun v169 h170 =>
 ((bif wantVal v165 true then Res.ok a1 h170 else Res.ok undef h170)).bind fun v171 h172 =>
 ((bif wantVal v165 true then builtinV Prog .len [22] [v171] h172 else Res.ok undef h172)).bind fun v173 h174 =>
 ((bif wantVal v165 true then binR Prog .eql 3 v169 v173 h174 else Res.ok undef h174)).bind fun v175 h176 =>
 (condV (some v165) (Res.ok v175 h176) (Res.ok (.bool false) h176)).bind fun v177 h178 =>
 .ok v177 h178 := by kernel_rfl
end
end Go.Sw
end
section
namespace Go.Sw
open Go.RowKit
def ownT (n : Nat) (adv : List Int) : List Int := (List.range n).map fun i => (adv[i]?).getD 0
theorem ownT_len (n : Nat) (adv : List Int) : (ownT n adv).length = n := by simp [ownT]
theorem ownT_at {n i : Nat} (adv : List Int) (h : i < n) : (ownT n adv)[i]? = some ((adv[i]?).getD 0) := by
 unfold ownT
 rw [List.getElem?_map, List.getElem?_range h]
 rfl
theorem getD_b {adv : List Int} (ha : ∀ x, x ∈ adv → 0 ≤ x ∧ x < 65536) (i : Nat) : 0 ≤ (adv[i]?).getD 0 ∧ (adv[i]?).getD 0 < 65536 := by
 cases h : adv[i]? with
 | none => decide
 | some x => exact ha x (List.mem_of_getElem? h)
theorem ownT_b {n : Nat} {adv : List Int} (ha : ∀ x, x ∈ adv → 0 ≤ x ∧ x < 65536) : ∀ x, x ∈ ownT n adv → 0 ≤ x ∧ x < 65536 := by
 intro x hx
 unfold ownT at hx
 obtain ⟨i, _, rfl⟩ := List.mem_map.1 hx
 exact getD_b ha i
theorem newPl_own {l : List Int} (h : ∀ x, x ∈ l → 0 ≤ x ∧ x < 65536) : newPl l = l.map fun x => ⟨x, 0, 0⟩ := by
 unfold newPl
 refine List.map_congr_left fun x hx => ?_
 have := h x hx
 unfold clampI
 rw [if_neg (by omega), if_neg (by omega)]
theorem sumA_new {l : List Int} (h : ∀ x, x ∈ l → 0 ≤ x ∧ x < 65536) : sumA (newPl l) = l.sum := by
 rw [newPl_own h]
 unfold sumA
 rw [List.map_map]
 congr 1
 exact List.map_id' l
theorem tot_l1 (k : Nat) {H0 H : Heap} {A : It} (n : Nat) (hn : n ≤ 60) (adv : List Int) (ha : ∀ x, x ∈ adv → 0 ≤ x ∧ x < 65536) (hal : adv.length < 2 ^ 63) (a1 a7 : Value) (g : Star H0 H [A, itRow none 1 (.slice none 0 0) encI []]) :
  ∃ s o zz H', loopN (swashtop_WholeTotals_l1 k (R (T k))) loopFuel [(1, a1), (2, lv encU2 adv), (7, a7), (9, .slice none 0 0), (10, .int .i64 0), (60, .int .i64 n), (61, .int .i64 0)] H =
   .ok (.exit 0, [(1, a1), (2, lv encU2 adv), (7, a7), (9, s), (10, .int .i64 (ownT n adv).sum), (60, .int .i64 n), (61, zz), (62, .bool false)]) H' ∧ Star H0 H' [A, itRow o 1 s encI (ownT n adv)] ∧ 0 ≤ (ownT n adv).sum ∧ (ownT n adv).sum ≤ 65536 * n := by
 obtain ⟨xx, e', H1, hr1, rfl, s', o', rfl, g1, hb⟩ := loop_up (body := swashtop_WholeTotals_l1 k (R (T k))) n
  (fun j e H' => ∃ s o w, e = [(1, a1), (2, lv encU2 adv), (7, a7), (9, s), (10, .int .i64 w), (60, .int .i64 n), (61, .int .i64 j)] ∧ Star H0 H' [A, itRow o 1 s encI ((ownT n adv).take j)] ∧ w = ((ownT n adv).take j).sum ∧ 0 ≤ w ∧ w ≤ 65536 * j)
  (fun xx e H' => xx = .exit 0 ∧ ∃ s o, e = [(1, a1), (2, lv encU2 adv), (7, a7), (9, s), (10, .int .i64 (ownT n adv).sum), (60, .int .i64 n), (61, .int .i64 n), (62, .bool false)] ∧ Star H0 H' [A, itRow o 1 s encI (ownT n adv)] ∧ 0 ≤ (ownT n adv).sum ∧ (ownT n adv).sum ≤ 65536 * n)
  (e0 := [(1, a1), (2, lv encU2 adv), (7, a7), (9, .slice none 0 0), (10, .int .i64 0), (60, .int .i64 n), (61, .int .i64 0)]) (H0 := H) ⟨_, none, 0, rfl, by simpa using g, by simp, by omega, by omega⟩ (by omega)
  (fun j e H' hj ⟨s, o, w, he, g, hw, hw0, hw1⟩ => by
   subst he
   have hjl : (j : Int) < n := by omega
   have hx := ownT_at adv hj
   have hxb := getD_b ha j
   obtain ⟨s2, o2, H2, e2, g2⟩ := g.append1 1 (bytes := 8) encI_len rfl ((adv[j]?).getD 0) (by rw [List.length_take]; omega) (by decide)
   rw [← take_snoc hx] at g2
   simp only [List.set_cons_zero, List.set_cons_succ] at g2
   have hsum : w + (adv[j]?).getD 0 = ((ownT n adv).take (j + 1)).sum := by rw [take_snoc hx, List.sum_append, hw]; simp
   by_cases hja : j < adv.length
   ·have hja' : (j : Int) < adv.length := by omega
    obtain ⟨x, hxa⟩ : ∃ x, adv[j]? = some x := ⟨_, List.getElem?_eq_getElem hja⟩
    rw [hxa] at e2 hxb hsum
    simp only [Option.getD_some] at e2 hxb hsum
    have i1 := fun H' => ixS_lvN encU2_len adv .i64 j x hxa H'
    have w1 : IntKind.i64.wrap x = x := wrap_i64 (by omega) (by omega)
    have w2 : IntKind.i64.wrap (w + x) = w + x := wrap_i64 (by omega) (by omega)
    refine .inl ⟨_, H2, ?_, s2, o2, w + x, rfl, g2, hsum, by omega, by omega⟩
    rw [swashtop_WholeTotals_l1_eq]
    simp -implicitDefEqProofs (disch := omega) [hjl, hja', i1, w1, w2, swashtop_WholeTotals_j1_eq, e2]
   ·have hja' : ¬ (j : Int) < adv.length := by omega
    have hxa : adv[j]? = none := List.getElem?_eq_none (by omega)
    rw [hxa] at e2 hxb hsum
    simp only [Option.getD_none] at e2 hxb hsum
    have w2 : IntKind.i64.wrap w = w := wrap_i64 (by omega) (by omega)
    refine .inl ⟨_, H2, ?_, s2, o2, w, rfl, g2, by simpa using hsum, by omega, by omega⟩
    rw [swashtop_WholeTotals_l1_eq]
    simp -implicitDefEqProofs (disch := omega) [hjl, hja', w2, swashtop_WholeTotals_j2_eq, e2])
  (fun e H' ⟨s, o, w, he, g, hw, hw0, hw1⟩ => by
   subst he
   rw [List.take_of_length_le (by rw [ownT_len]; omega)] at g hw
   subst hw
   refine ⟨.exit 0, _, H', ?_, by simp, rfl, s, o, rfl, g, hw0, hw1⟩
   rw [swashtop_WholeTotals_l1_eq]
   simp -implicitDefEqProofs)
 exact ⟨s', o', _, H1, hr1, g1, hb⟩
structure TotI (own : List Int) (n j : Nat) (l : List Pl) (w : Int) : Prop where
 len : l.length = n
 sum : sumA l = w
 ok : ∀ q, q ∈ l → q.ok
 flat : ∀ (m : Nat) q, l[m]? = some q → q.x = 0 ∧ q.y = 0
 rest : ∀ m : Nat, j ≤ m → m < n → ∃ a, l[m]? = some ⟨a, 0, 0⟩ ∧ 0 ≤ a ∧ a < 65536
 lo : -(65536 * (j : Int)) ≤ w
 hi : w ≤ 65536 * (60 + (j : Int))
theorem tot_l2 (k : Nat) {H0 H : Heap} {A B : It} (ids : List Int) (hids : ids.length ≤ 60) (hb : Byt ids) (t : PTab) (ht : t.ok) (hlim : ∀ x y, -65536 ≤ pgetS t x y ∧ pgetS t x y < 65536) {p : Nat} {o : Option Nat} (l0 : List Pl) (w0 : Int) (hI : TotI [] ids.length 0 l0 w0) (g : Star H0 H [A, B, itPl p o false l0]) :
  ∃ l w zz H', loopN (swashtop_WholeTotals_l2 k (R (T k))) loopFuel [(1, lv encB ids), (7, ptabV t), (10, .int .i64 w0), (13, ptrV p), (14, .int .i64 1)] H =
   .ok (.exit 2, [(1, lv encB ids), (7, ptabV t), (10, .int .i64 w), (13, ptrV p), (14, zz), (86, .bool false)]) H' ∧ Star H0 H' [A, B, itPl p o false l] ∧ ∃ j, j ≤ 60 ∧ TotI [] ids.length j l w := by
 obtain ⟨xx, e', H1, hr1, rfl, l, w, zz, rfl, g1, hj⟩ := loop_up (body := swashtop_WholeTotals_l2 k (R (T k))) (ids.length - 1)
  (fun j e H' => ∃ l w, e = [(1, lv encB ids), (7, ptabV t), (10, .int .i64 w), (13, ptrV p), (14, .int .i64 ((j : Int) + 1))] ∧ Star H0 H' [A, B, itPl p o false l] ∧ TotI [] ids.length j l w)
  (fun xx e H' => xx = .exit 2 ∧ ∃ l w zz, e = [(1, lv encB ids), (7, ptabV t), (10, .int .i64 w), (13, ptrV p), (14, zz), (86, .bool false)] ∧ Star H0 H' [A, B, itPl p o false l] ∧ ∃ j, j ≤ 60 ∧ TotI [] ids.length j l w)
  (e0 := [(1, lv encB ids), (7, ptabV t), (10, .int .i64 w0), (13, ptrV p), (14, .int .i64 1)]) (H0 := H) ⟨l0, w0, rfl, g, hI⟩ (by omega)
  (fun j e H' hj ⟨l, w, he, g, hI⟩ => by
   subst he
   have hjl : (j : Int) + 1 < ids.length := by omega
   obtain ⟨x, hx⟩ : ∃ x, ids[j]? = some x := ⟨_, List.getElem?_eq_getElem (by omega)⟩
   obtain ⟨y, hy⟩ : ∃ y, ids[j + 1]? = some y := ⟨_, List.getElem?_eq_getElem (by omega)⟩
   have hxb := hb x (List.mem_of_getElem? hx)
   have hyb := hb y (List.mem_of_getElem? hy)
   have i1 := fun H' => ixS_lvN encB_len ids .i64 j x hx H'
   have i2 := fun H' => ixS_lvN encB_len ids .i64 (j + 1) y hy H'
   have i2 : ∀ H', _ = Res.ok _ H' := i2
   simp only [Int.natCast_add, Int.cast_ofNat_Int] at i2
   have w1 : IntKind.i64.wrap x = x := wrap_i64 (by omega) (by omega)
   have w2 : IntKind.i64.wrap y = y := wrap_i64 (by omega) (by omega)
   have hget := fun H' => pGet_run k t ht x y H'
   have hv := hlim x y
   generalize pgetS t x y = v at hget hv
   obtain ⟨a, ha, ha0, ha1⟩ := hI.rest j (Nat.le_refl _) (by omega)
   obtain ⟨H2, e2, g2⟩ := along_star k g 2 rfl hI.ok (j : Int) v
   simp only [List.set_cons_zero, List.set_cons_succ] at g2
   have hadd : addI a v = a + v := by unfold addI clampI; omega
   have hs := sumA_upd l j ⟨a, 0, 0⟩ ha (fun q => ⟨addI q.adv v, q.x, q.y⟩)
   dsimp only at hs
   rw [hadd, hI.sum] at hs
   have hok2 := updPl_ok hI.ok (j : Int) (f := fun q => ⟨addI q.adv v, q.x, q.y⟩) fun q hq => ⟨addI_ok _ _, hq.2⟩
   have hat : ∀ m : Nat, (updPl l (j : Int) fun q => ⟨addI q.adv v, q.x, q.y⟩)[m]? = (l[m]?).map fun q => if j = m then ⟨addI q.adv v, q.x, q.y⟩ else q := by
    intro m
    unfold updPl
    rw [if_pos (by omega), Int.toNat_natCast, List.getElem?_modify]
    rfl
   have hlen2 : (updPl l (j : Int) fun q => ⟨addI q.adv v, q.x, q.y⟩).length = ids.length := by
    unfold updPl
    split <;> simp [hI.len]
   have hlo := hI.lo
   have hhi := hI.hi
   have w3 : IntKind.i64.wrap (w + v) = w + v := wrap_i64 (by omega) (by omega)
   refine .inl ⟨_, H2, ?_, _, w + v, rfl, g2, hlen2, by omega, hok2, ?_, ?_, by omega, by omega⟩
   ·rw [swashtop_WholeTotals_l2_eq]
    simp -implicitDefEqProofs (disch := omega) [hjl, i1, i2, w1, w2, hget, e2, w3]
   ·intro m q hq
    rw [hat m] at hq
    obtain ⟨q0, hq0, rfl⟩ := Option.map_eq_some_iff.1 hq
    have := hI.flat m q0 hq0
    split <;> exact this
   ·intro m h1 h2
    obtain ⟨a', ha', hb'⟩ := hI.rest m (by omega) h2
    refine ⟨a', ?_, hb'⟩
    rw [hat m, ha', Option.map_some, if_neg (by omega)])
  (fun e H' ⟨l, w, he, g, hI⟩ => by
   subst he
   have hjl : ¬ ((ids.length - 1 : Nat) : Int) + 1 < ids.length := by omega
   refine ⟨.exit 2, _, H', ?_, by simp, rfl, l, w, .int .i64 (((ids.length - 1 : Nat) : Int) + 1), rfl, g, _, by omega, hI⟩
   rw [swashtop_WholeTotals_l2_eq]
   simp -implicitDefEqProofs [hjl])
 exact ⟨l, w, zz, H1, hr1, g1, hj⟩
theorem tot_l3 (k : Nat) {H : Heap} (l : List Pl) (hl : l.length ≤ 60) (hok : ∀ q, q ∈ l → q.ok) (hflat : ∀ (m : Nat) q, l[m]? = some q → q.x = 0 ∧ q.y = 0) (a1 a10 a13 : Value) :
  ∃ zz H', loopN (swashtop_WholeTotals_l3 k (R (T k))) loopFuel [(1, a1), (10, a10), (13, a13), (16, .int .i64 0), (111, lv encP l), (112, .int .i64 l.length), (113, .int .i64 0)] H =
   .ok (.exit 4, [(1, a1), (10, a10), (13, a13), (16, .int .i64 (sumA l)), (111, lv encP l), (112, .int .i64 l.length), (113, zz), (114, .bool false)]) H' ∧ Ext H H' := by
 obtain ⟨xx, e', H1, hr1, rfl, zz, rfl, hx⟩ := loop_up (body := swashtop_WholeTotals_l3 k (R (T k))) l.length
  (fun j e H' => ∃ w, e = [(1, a1), (10, a10), (13, a13), (16, .int .i64 w), (111, lv encP l), (112, .int .i64 l.length), (113, .int .i64 j)] ∧ Ext H H' ∧ w = sumA (l.take j) ∧ -(2147483648 * (j : Int)) ≤ w ∧ w ≤ 2147483648 * (j : Int))
  (fun xx e H' => xx = .exit 4 ∧ ∃ zz, e = [(1, a1), (10, a10), (13, a13), (16, .int .i64 (sumA l)), (111, lv encP l), (112, .int .i64 l.length), (113, zz), (114, .bool false)] ∧ Ext H H')
  (e0 := [(1, a1), (10, a10), (13, a13), (16, .int .i64 0), (111, lv encP l), (112, .int .i64 l.length), (113, .int .i64 0)]) (H0 := H) ⟨0, rfl, Ext.refl _, by simp [sumA], by omega, by omega⟩ (by omega)
  (fun j e H' hj ⟨w, he, hx, hw, h0, h1⟩ => by
   subst he
   have hjl : (j : Int) < l.length := by omega
   obtain ⟨q, hq⟩ : ∃ q, l[j]? = some q := ⟨_, List.getElem?_eq_getElem hj⟩
   have hqo := hok q (List.mem_of_getElem? hq)
   have hqf := hflat j q hq
   obtain ⟨qa, qx, qy⟩ := q
   obtain ⟨rfl, rfl⟩ : qx = 0 ∧ qy = 0 := hqf
   have i1 := fun H' => ixS_lvN encP_len l .i64 j _ hq H'
   have hqa := hqo.1
   dsimp only at hqa
   have w1 : IntKind.i64.wrap qa = qa := wrap_i64 (by omega) (by omega)
   have w2 : IntKind.i64.wrap (w + qa) = w + qa := wrap_i64 (by omega) (by omega)
   refine .inl ⟨_, H'.push ⟨encP ⟨qa, 0, 0⟩, 1, false⟩, ?_, w + qa, rfl, hx.push _, ?_, by omega, by omega⟩
   ·rw [swashtop_WholeTotals_l3_eq]
    simp -implicitDefEqProofs (disch := omega) [hjl, i1, w1, w2]
   ·rw [take_snoc hq, hw]
    simp [sumA])
  (fun e H' ⟨w, he, hx, hw, h0, h1⟩ => by
   subst he
   rw [List.take_length] at hw
   subst hw
   refine ⟨.exit 4, _, H', ?_, by simp, rfl, .int .i64 l.length, rfl, hx⟩
   rw [swashtop_WholeTotals_l3_eq]
   simp -implicitDefEqProofs)
 exact ⟨zz, H1, hr1, hx⟩
set_option maxHeartbeats 2000000 in
theorem WholeTotals_run (l : List PW) (hl : ∀ p, p ∈ l → p.ok) (ids : List Int) (hb : Byt ids) (adv : List Int) (ha : ∀ x, x ∈ adv → 0 ≤ x ∧ x < 65536) (hal : adv.length < 2 ^ 63) : R (T 0) F.swashtop_WholeTotals [lv encPW l, lv encB ids, lv encU2 adv] Heap.empty = .ok (.bool true) Heap.empty := by
 generalize hk : (0 : Nat) = k
 have hk6 : k < 1000000 := by subst hk; decide
 clear hk
 rw [swashtop_WholeTotals_R]
 generalize Heap.empty = H
 have g := (Star.nil H).push ⟨[.int .u16 1, .int .u16 2, .int .i16 3], 3, false⟩
 simp only [List.nil_append] at g
 have h0 : ∀ p, p ∈ [(⟨1, 2, 3⟩ : PW)] → p.ok := fun p hp => by
  rw [List.mem_singleton] at hp
  subst hp
  exact ⟨by decide, by decide, by decide⟩
 have hs0 := slOf (enc := encPW) (m := 3) [(⟨1, 2, 3⟩ : PW)] (g.get 0 rfl) rfl encPW_len
 have hw0 := pWrite_runG k [(⟨1, 2, 3⟩ : PW)] h0 (by decide) hs0
 have hrd0 := fun H' => pRead_run k 0 (Sl.lv H' 1 (listW [(⟨1, 2, 3⟩ : PW)])) (listW_byt _) 9 (by rw [listW_len]; decide)
 have hP0 := pList_W [(⟨1, 2, 3⟩ : PW)] h0 (by decide)
 have hN0 : pairN 0 (listW [(⟨1, 2, 3⟩ : PW)]) 9 = if (pListS (listW [(⟨1, 2, 3⟩ : PW)])).isSome then 0 else 2 := rfl
 have hO0 : pairO 0 (listW [(⟨1, 2, 3⟩ : PW)]) 9 = pListS (listW [(⟨1, 2, 3⟩ : PW)]) := rfl
 have hup0 : upS (keysW [(⟨1, 2, 3⟩ : PW)]) = true := by decide
 have hup0' : upS ([(⟨1, 2, 3⟩ : PW)].map PW.key) = true := hup0
 rw [hO0, hN0, hP0, if_pos hup0'] at hrd0
 simp only [Option.isSome_some, if_true] at hrd0
 have hok0 := pListS_ok (listW_byt [(⟨1, 2, 3⟩ : PW)]) (by rw [listW_len]; decide) (t := ⟨keysW [(⟨1, 2, 3⟩ : PW)], prsB [(⟨1, 2, 3⟩ : PW)], none, none, 0, 2⟩) (by rw [hP0, if_pos hup0']; rfl)
 have hg0 := fun H' => pGet_run k _ hok0 1 2 H'
 have hwant0 : pgetS ⟨keysW [(⟨1, 2, 3⟩ : PW)], prsB [(⟨1, 2, 3⟩ : PW)], none, none, 0, 2⟩ 1 2 = 3 := want_of [(⟨1, 2, 3⟩ : PW)] h0 hup0 (i := 0) rfl
 rw [hwant0] at hg0
 have hrd0 : ∀ H', R (T k) F.pair_Read [.int .i64 0, lv encB (listW [(⟨1, 2, 3⟩ : PW)]), .int .i64 9] H' = .ok (.tuple #[ptabV ⟨keysW [(⟨1, 2, 3⟩ : PW)], prsB [(⟨1, 2, 3⟩ : PW)], none, none, 0, 2⟩, .int .i64 0]) H' := hrd0
 have hw0 : R (T k) F.swashlaw22_Write [.slice (some ⟨H.n, 0, none⟩) 1 1] (H.push ⟨[.int .u16 1, .int .u16 2, .int .i16 3], 3, false⟩) = .ok (lv encB (listW [(⟨1, 2, 3⟩ : PW)])) (H.push ⟨[.int .u16 1, .int .u16 2, .int .i16 3], 3, false⟩) := hw0
 generalize (⟨keysW [(⟨1, 2, 3⟩ : PW)], prsB [(⟨1, 2, 3⟩ : PW)], none, none, 0, 2⟩ : PTab) = t0 at hrd0 hg0
 generalize listW [(⟨1, 2, 3⟩ : PW)] = b0 at hrd0 hw0
 by_cases c1 : l.length > 60
 ·have c1' : (l.length : Int) > 60 := by omega
  refine nrm_gc ⟨_, ?_, g.ext⟩ (.bool _)
  simp -implicitDefEqProofs (disch := omega) [swashtop_WholeTotals, hw0, hrd0, hg0, c1']
 have c1' : ¬ (l.length : Int) > 60 := by omega
 by_cases c2 : ids.length > 60
 ·have c2' : (ids.length : Int) > 60 := by omega
  refine nrm_gc ⟨_, ?_, g.ext⟩ (.bool _)
  simp -implicitDefEqProofs (disch := omega) [swashtop_WholeTotals, hw0, hrd0, hg0, c1', c2']
 have c2' : ¬ (ids.length : Int) > 60 := by omega
 have hw := fun H' => pWrite_run k l hl (by omega) H'
 have hrd := fun H' => pRead_run k 0 (Sl.lv H' 1 (listW l)) (listW_byt _) 300 (by rw [listW_len]; omega)
 have hP := pList_W l hl (by omega)
 have hN : pairN 0 (listW l) 300 = if (pListS (listW l)).isSome then 0 else 2 := rfl
 have hO : pairO 0 (listW l) 300 = pListS (listW l) := rfl
 rw [hO, hN] at hrd
 by_cases hup : upS (l.map PW.key) = true
 rotate_left
 ·rw [if_neg hup] at hP
  rw [hP] at hrd
  simp only [Option.isSome_none, Bool.false_eq_true, if_false] at hrd
  have hrd : ∀ H', R (T k) F.pair_Read [.int .i64 0, lv encB (listW l), .int .i64 300] H' = .ok (.tuple #[.pointer none, .int .i64 2]) H' := hrd
  refine nrm_gc ⟨_, ?_, g.ext⟩ (.bool _)
  simp -implicitDefEqProofs (disch := omega) [swashtop_WholeTotals, hw0, hrd0, hg0, c1', c2', hw, hrd]
 rw [if_pos hup] at hP
 have hok := pListS_ok (listW_byt l) (by rw [listW_len]; omega) hP
 rw [hP] at hrd
 simp only [Option.isSome_some, if_true] at hrd
 have hlim : ∀ x y, -65536 ≤ pgetS ⟨l.map PW.key, prsB l, none, none, 0, 2⟩ x y ∧ pgetS ⟨l.map PW.key, prsB l, none, none, 0, 2⟩ x y < 65536 := pget_lim l
 have hrd : ∀ H', R (T k) F.pair_Read [.int .i64 0, lv encB (listW l), .int .i64 300] H' = .ok (.tuple #[ptabV ⟨l.map PW.key, prsB l, none, none, 0, 2⟩, .int .i64 0]) H' := hrd
 generalize (⟨l.map PW.key, prsB l, none, none, 0, 2⟩ : PTab) = t at hrd hok hlim
 have g := g.more_row (Ext.refl _) (OwnO.nil encI _ 1) (fun b hb => by cases hb)
 simp only [List.cons_append, List.nil_append] at g
 obtain ⟨s1, o1, z1, H1, e1, g, hs0', hs1⟩ := tot_l1 k ids.length (by omega) adv ha hal (lv encB ids) (ptabV t) g
 obtain ⟨o2, H2, e2, g⟩ := placeNew_starG k g 0 (ownT ids.length adv) (by rw [ownT_len]; omega) ((g.row 1 rfl).sl encI_len)
 simp only [List.cons_append, List.nil_append] at g
 have hob := ownT_b (n := ids.length) ha
 have hI : TotI [] ids.length 0 (newPl (ownT ids.length adv)) (ownT ids.length adv).sum := by
  refine ⟨by rw [newPl_len, ownT_len], sumA_new hob, newPl_ok _, fun m q hq => ?_, fun m _ hm => ?_, by omega, by omega⟩
  ·rw [newPl_own hob, List.getElem?_map] at hq
   obtain ⟨a, _, rfl⟩ := Option.map_eq_some_iff.1 hq
   exact ⟨rfl, rfl⟩
  ·have hx := ownT_at adv hm
   exact ⟨_, by rw [newPl_own hob, List.getElem?_map, hx]; rfl, getD_b ha m⟩
 obtain ⟨lq, w, z2, H3, e3, g, j, hj, hIq⟩ := tot_l2 k ids (by omega) hb t hok hlim (newPl (ownT ids.length adv)) (ownT ids.length adv).sum hI g
 have a1 := placeAll_run k hk6 g 2 rfl (by have := hIq.len; omega)
 obtain ⟨z3, H4, e4, hx4⟩ := tot_l3 k (H := H3) lq (by have := hIq.len; omega) hIq.ok hIq.flat (lv encB ids) (.int .i64 w) (ptrV H1.n)
 have g4 := g.rest hx4
 have hpl := placeLen_run k g4 2 rfl
 rw [hIq.len] at hpl e4
 rw [hIq.sum] at e4
 have hql := hIq.len
 refine nrm_gc ⟨H4, ?_, g4.ext⟩ (.bool _)
 simp -implicitDefEqProofs (disch := omega) [swashtop_WholeTotals, hw0, hrd0, hg0, c1', c2', hw, hrd, e1, swashtop_WholeTotals_l1k_x0, e2, e3, swashtop_WholeTotals_l2k_x2, a1, hql, e4, swashtop_WholeTotals_l3k_x4, hpl]
theorem row_u16 {r : List Da} {cs : List Value} (h : LayRow [.int .u16] r cs) : ∃ n : Int, cs = encU2 n ∧ (0 ≤ n ∧ n < 65536) := by
 obtain ⟨_, v1, _, _, rfl, h1, h⟩ := h.head
 obtain rfl := h.done
 obtain ⟨n, rfl, w⟩ := h1.intv
 exact ⟨n, rfl, wf_u16 w⟩
theorem WholeTotals_args (vs : List Value) (h : ArgsLay [.one (.slice [.int .u16, .int .u16, .int .i16]), .one (.slice [.int .u8]), .one (.slice [.int .u16])] vs) : ∃ H', R (T 0) F.swashtop_WholeTotals vs Heap.empty = .ok (.bool true) H' := by
 obtain ⟨v1, _, rfl, h1, h⟩ := h.head
 obtain ⟨v2, _, rfl, h2, h⟩ := h.head
 obtain ⟨v3, _, rfl, h3, h⟩ := h.head
 obtain rfl := h.done
 obtain ⟨d, h1⟩ := h1.cell
 obtain ⟨l, rfl, hl⟩ := Lay.list (enc := encPW) (ok := PW.ok) (fun r cs h => row_PW h) h1
 obtain ⟨ids, rfl, hb⟩ := arg_B h2
 obtain ⟨d3, h3⟩ := h3.cell
 obtain ⟨adv, rfl, hn, ha⟩ := Lay.listN (enc := encU2) (ok := fun n => 0 ≤ n ∧ n < 65536) (fun r cs h => row_u16 h) h3
 exact ⟨_, WholeTotals_run l hl ids hb adv ha hn⟩
end Go.Sw
end
section
namespace Go.Sw
open Go.RowKit
theorem names_ok : NamesOk Prog := NamesOk.of (by kernel_rfl)
theorem mixed_ok : Prog.follows .mixedOrders = true := Checked.mixed Go.Proofs.Try.checked
theorem laid_ok : laidOutB Prog = true := by kernel_rfl
theorem cloneP_is : SpIs Prog F.slices_Clone_of_api_Place_api_Place fun _ args H => cloneV 3 12 args H :=
 clone_is (c := { P := Prog, kp := kpS, sp := fun _ => none }) names_ok mixed_ok (t := 70) (e := 91) (by kernel_rfl) fun call a H => (slices_Clone_of_api_Place_api_Place_body 0 _ call a H).trans (by
  unfold slices_Clone_of_api_Place_api_Place cloneF
  simp only [be_70_0, ap_70, beR_bare])
theorem cloneG_is : SpIs Prog F.slices_Clone_of_api_Glyph_api_Glyph fun _ args H => cloneV 2 16 args H :=
 clone_is (c := { P := Prog, kp := kpS, sp := fun _ => none }) names_ok mixed_ok (t := 48) (e := 115) (by kernel_rfl) fun call a H => (slices_Clone_of_api_Glyph_api_Glyph_body 0 _ call a H).trans (by
  unfold slices_Clone_of_api_Glyph_api_Glyph cloneF
  simp only [be_48_0, ap_48, beR_bare])
theorem cloneR_is : SpIs Prog F.slices_Clone_of_sfnt_Part_sfnt_Part fun _ args H => cloneV 2 40 args H :=
 clone_is (c := { P := Prog, kp := kpS, sp := fun _ => none }) names_ok mixed_ok (t := 167) (e := 165) (by kernel_rfl) fun call a H => (slices_Clone_of_sfnt_Part_sfnt_Part_body 0 _ call a H).trans (by
  unfold slices_Clone_of_sfnt_Part_sfnt_Part cloneF
  simp only [be_167_0, ap_167, beR_bare])
theorem more_is (f : FuncId) (s : Sp) (h : moreS f = some s) : SpIs Prog f s := by
 unfold moreS at h
 cases h0 : Nat.beq f 35 with
 | true => have := Nat.eq_of_beq_eq_true h0; subst this; rw [h0, cond_true] at h; injection h with h; subst h; exact try_is
 | false =>
 rw [h0, cond_false] at h
 cases h1 : Nat.beq f 104 with
 | true => have := Nat.eq_of_beq_eq_true h1; subst this; rw [h1, cond_true] at h; injection h with h; subst h; exact cloneG_is
 | false =>
 rw [h1, cond_false] at h
 cases h2 : Nat.beq f 118 with
 | true => have := Nat.eq_of_beq_eq_true h2; subst this; rw [h2, cond_true] at h; injection h with h; subst h; exact cloneP_is
 | false =>
 rw [h2, cond_false] at h
 cases h3 : Nat.beq f 159 with
 | true => have := Nat.eq_of_beq_eq_true h3; subst this; rw [h3, cond_true] at h; injection h with h; subst h; exact cloneR_is
 | false =>
 rw [h3, cond_false] at h
 cases h4 : Nat.beq f 244 with
 | true => rw [h4, cond_true] at h; injection h with h; subst h; exact SpIs.stuck _ _
 | false =>
 rw [h4, cond_false] at h
 cases h
theorem T_prog (k : Nat) : (T k).c.P = Prog := by unfold T C; rfl
theorem told0 {k : Nat} (hk : oneOf (k % 1000000) speaksT = false) : SpOk (T k).c := by
 have h1 : SpOk (C k) := by
  unfold C
  exact SpOk.none (P := Prog) (kp := kpS) (speaks := speaksT) (more := moreS) (k := k % 1000000) hk more_is
 exact h1
end Go.Sw
end
