/-
  Functions' forms, and what is proved of them, part 9.
-/
import Derived.Test.YtnaodjnimkndbabSwW6
import Derived.Test.YtnaodjnimkndbabSwCfg
import Derived.Test.YtnaodjnimkndbabSwW5
import Derived.Test.YtnaodjnimkndbabSwW4
import Derived.Test.YtnaodjnimkndbabSwW1
import Derived.Test.YtnaodjnimkndbabSwW8
import Derived.Test.YtnaodjnimkndbabSwLib8
import Derived.Tactics
import Derived.Tactics2
import Derived.Defers
import Derived.Recover
import Derived.Laws.Pointers
import Derived.Test.YtnaodjnimkndbabSwW2
import Derived.Eval
set_option linter.unusedSimpArgs false
set_option linter.unusedVariables false
set_option linter.unusedSectionVars false
section
namespace Go.Sw
open Go.RowKit
theorem and_pow (n k : Nat) : n &&& 2 ^ k = if n.testBit k then 2 ^ k else 0 := by
 apply Nat.eq_of_testBit_eq
 intro i
 rw [Nat.testBit_and, Nat.testBit_two_pow]
 by_cases h : k = i
 ·subst h
  cases hb : n.testBit k
  ·simp
  ·simp
 ·cases hb : n.testBit k
  ·simp [h]
  ·simp only [h, decide_false, Bool.and_false, if_true, Nat.testBit_two_pow]
theorem bin_andP (P : Program) (t : TypeId) (H : Heap) (k : Nat) (hk : k < 62) {a : Int} (h0 : 0 ≤ a) (h1 : a < 2 ^ 62) (m : Int) (hm : m = ((2 ^ k : Nat) : Int)) :
  binR P .and t (.int .i64 a) (.int .i64 m) H = .ok (.int .i64 (if a / m % 2 = 1 then m else 0)) H := by
 obtain ⟨n, rfl⟩ := Int.eq_ofNat_of_zero_le h0
 have hp : 2 ^ k ≤ 2 ^ 61 := Nat.pow_le_pow_right (by decide) (by omega)
 have hp0 : 0 < 2 ^ k := Nat.two_pow_pos k
 have e : (BitVec.ofInt 64 (n : Int) &&& BitVec.ofInt 64 m).toNat = if n.testBit k then 2 ^ k else 0 := by
  rw [BitVec.toNat_and, BitVec.toNat_ofInt, BitVec.toNat_ofInt, hm]
  rw [show (((n : Int)) % ((2 ^ 64 : Nat) : Int)).toNat = n by omega, show ((((2 ^ k : Nat) : Int)) % ((2 ^ 64 : Nat) : Int)).toNat = 2 ^ k by omega, and_pow]
 have e1 : binV P .and t (.int .i64 (n : Int)) (.int .i64 m) = some (.int .i64 (IntKind.i64.wrap (BitVec.ofInt 64 (n : Int) &&& BitVec.ofInt 64 m).toNat)) := rfl
 unfold binR
 rw [e1, e, Nat.testBit_eq_decide_div_mod_eq]
 have hd : (n : Int) / m = ((n / 2 ^ k : Nat) : Int) := by rw [hm, Int.natCast_ediv]
 rw [hd]
 by_cases h : n / 2 ^ k % 2 = 1
 ·rw [decide_eq_true h, if_pos rfl, if_pos (by omega), wrap_i64 (by omega) (by omega), hm]; rfl
 ·rw [decide_eq_false h, if_neg (by simp), if_neg (by omega)]; rfl
theorem and13 (P : Program) (t : TypeId) (H : Heap) {a : Int} (h0 : 0 ≤ a) (h1 : a < 65536) : binR P .and t (.int .i64 a) (.int .i64 8192) H = .ok (.int .i64 (if a / 8192 % 2 = 1 then 8192 else 0)) H := bin_andP P t H 13 (by decide) h0 (by omega) 8192 rfl
theorem bin_andL (P : Program) (t : TypeId) (H : Heap) (k : Nat) (hk : k < 62) {a : Int} (h0 : 0 ≤ a) (h1 : a < 2 ^ 62) (m : Int) (hm : m = ((2 ^ k : Nat) : Int) - 1) : binR P .and t (.int .i64 a) (.int .i64 m) H = .ok (.int .i64 (a % ((2 ^ k : Nat) : Int))) H := by
 obtain ⟨n, rfl⟩ := Int.eq_ofNat_of_zero_le h0
 have hp : 2 ^ k ≤ 2 ^ 61 := Nat.pow_le_pow_right (by decide) (by omega)
 have hp0 : 0 < 2 ^ k := Nat.two_pow_pos k
 have e : (BitVec.ofInt 64 (n : Int) &&& BitVec.ofInt 64 m).toNat = n % 2 ^ k := by
  rw [BitVec.toNat_and, BitVec.toNat_ofInt, BitVec.toNat_ofInt, hm]
  rw [show (((n : Int)) % ((2 ^ 64 : Nat) : Int)).toNat = n by omega, show ((((2 ^ k : Nat) : Int) - 1) % ((2 ^ 64 : Nat) : Int)).toNat = 2 ^ k - 1 by omega, Nat.and_two_pow_sub_one_eq_mod]
 have e1 : binV P .and t (.int .i64 (n : Int)) (.int .i64 m) = some (.int .i64 (IntKind.i64.wrap (BitVec.ofInt 64 (n : Int) &&& BitVec.ofInt 64 m).toNat)) := rfl
 have hlt : n % 2 ^ k < 2 ^ k := Nat.mod_lt _ hp0
 unfold binR
 rw [e1, e, wrap_i64 (by omega) (by omega), Int.natCast_emod]
 rfl
theorem and4 (P : Program) (t : TypeId) (H : Heap) {a : Int} (h0 : 0 ≤ a) (h1 : a < 65536) : binR P .and t (.int .i64 a) (.int .i64 15) H = .ok (.int .i64 (a % 16)) H := bin_andL P t H 4 (by decide) h0 (by omega) 15 rfl
def andN (a m : Int) : Int := IntKind.i64.wrap (BitVec.ofInt 64 a &&& ~~~(BitVec.ofInt 64 m)).toNat
def andI (a m : Int) : Int := IntKind.i64.wrap (BitVec.ofInt 64 a &&& BitVec.ofInt 64 m).toNat
theorem bin_andN (P : Program) (t : TypeId) (H : Heap) (a m : Int) : binR P .andNot t (.int .i64 a) (.int .i64 m) H = .ok (.int .i64 (andN a m)) H := rfl
theorem bin_andI (P : Program) (t : TypeId) (H : Heap) (a m : Int) : binR P .and t (.int .i64 a) (.int .i64 m) H = .ok (.int .i64 (andI a m)) H := rfl
theorem m16_wrap (N : Nat) (h : N < 2 ^ 64) : m16 (IntKind.i64.wrap (N : Int)) = (N : Int) % 65536 := by
 unfold m16 IntKind.wrap
 simp [IntKind.signed, IntKind.bits]
 split <;> omega
theorem andN_bit (a : Int) (k : Nat) (hk : k < 16) (m : Int) (hm : m = ((2 ^ k : Nat) : Int)) : m16 (andN a m) / m % 2 = 0 := by
 have hp : 2 ^ k ≤ 2 ^ 15 := Nat.pow_le_pow_right (by decide) (by omega)
 have hb : (BitVec.ofInt 64 a &&& ~~~(BitVec.ofInt 64 m)).toNat.testBit k = false := by
  rw [← BitVec.getLsbD, BitVec.getLsbD_and, BitVec.getLsbD_not]
  have : (BitVec.ofInt 64 m).getLsbD k = true := by
   unfold BitVec.getLsbD
   rw [BitVec.toNat_ofInt, hm]
   have : ((((2 ^ k : Nat) : Int)) % ((2 ^ 64 : Nat) : Int)).toNat = 2 ^ k := by
    generalize 2 ^ k = M at hp ⊢
    omega
   rw [this, Nat.testBit_two_pow_self]
  rw [this]
  simp
 have hlt := (BitVec.ofInt 64 a &&& ~~~(BitVec.ofInt 64 m)).isLt
 unfold andN
 generalize (BitVec.ofInt 64 a &&& ~~~(BitVec.ofInt 64 m)).toNat = N at hb hlt ⊢
 rw [m16_wrap N hlt]
 rw [Nat.testBit_eq_decide_div_mod_eq, decide_eq_false_iff_not] at hb
 have e1 : ((N : Int) % 65536) = ((N % 65536 : Nat) : Int) := by omega
 have e2 : ((N % 65536 : Nat) : Int) / m = ((N % 65536 / 2 ^ k : Nat) : Int) := by rw [hm, Int.natCast_ediv]
 rw [e1, e2]
 have e3 : N % 65536 / 2 ^ k % 2 = N / 2 ^ k % 2 := by
  have hk2 : 65536 = 2 ^ k * (2 * 2 ^ (15 - k)) := by
   rw [← Nat.pow_succ', ← Nat.pow_add, show k + (15 - k + 1) = 16 by omega]
  rw [hk2, Nat.mod_mul_right_div_self, Nat.mod_mul_right_mod]
 omega
theorem andI_low (a : Int) : m16 (andI a 65520) % 16 = 0 := by
 have hb : ∀ i, i < 4 → (BitVec.ofInt 64 a &&& BitVec.ofInt 64 65520).toNat.testBit i = false := fun i hi => by
  rw [BitVec.toNat_and, Nat.testBit_and]
  have : (BitVec.ofInt 64 65520).toNat.testBit i = false := by
   have : i = 0 ∨ i = 1 ∨ i = 2 ∨ i = 3 := by omega
   rcases this with rfl | rfl | rfl | rfl <;> decide
  rw [this, Bool.and_false]
 have hlt := (BitVec.ofInt 64 a &&& BitVec.ofInt 64 65520).isLt
 unfold andI
 generalize (BitVec.ofInt 64 a &&& BitVec.ofInt 64 65520).toNat = N at hb hlt ⊢
 rw [m16_wrap N hlt]
 have h0 := hb 0 (by decide); have h1 := hb 1 (by decide); have h2 := hb 2 (by decide); have h3 := hb 3 (by decide)
 simp only [Nat.testBit_eq_decide_div_mod_eq, decide_eq_false_iff_not] at h0 h1 h2 h3
 omega
end Go.Sw
end
section
set_option maxRecDepth 100000
set_option linter.unusedVariables false
namespace Go.Sw
noncomputable section
end
end Go.Sw
end
section
namespace Go.Sw
open Go.RowKit
abbrev vwB (b : List Int) : Value := .agg #[lv encB b]
theorem Of_lv (k : Nat) (b : List Int) (H : Heap) : R (T k) F.view_Of [lv encB b] H = .ok (vwB b) H := Of_run k (Sl.lv H 1 b)
theorem veq_Pt (l : List Pt) : veq (lv encPt l) (lv encPt l) = true := veq_lv fun p _ v hv => by
 simp [encPt] at hv
 rcases hv with rfl | rfl | rfl <;> simp
theorem veq_tab (x : Int × List Pt) : veq (boxV #[.int .i64 x.1, lv encPt x.2]) (boxV #[.int .i64 x.1, lv encPt x.2]) = true := veq_boxV (l := [.int .i64 x.1, lv encPt x.2]) fun v hv => by
 simp at hv
 rcases hv with rfl | rfl
 ·simp
 ·exact veq_Pt _
end Go.Sw
end
section
namespace Go.Sw
open Go.RowKit
structure CTab where
 m : Mach
 subs : List (Int × List Pt)
end Go.Sw
end
section
namespace Go.Sw
open Go.RowKit
end Go.Sw
end
section
namespace Go.Sw
open Go.RowKit
end Go.Sw
end
section
namespace Go.Sw
open Go.RowKit Go.Proofs
set_option maxRecDepth 20000 in
theorem catch_short (p : Addr) (b : Bool) (w : World) (hc : (w.alloc (.cells #[] 200)).cell? p = some (.bool b)) (hz : (w.alloc (.cells #[] 200)).frozen? p = false) :
  CallsD Prog 105 #[.pointer (some p)] (.panicking [{ v := .iface 200 (.agg #[]), recovered := false }]) w fun e u' w' =>
   e = .returned (.tuple #[]) ∧ u' = .panicking [{ v := .iface 200 (.agg #[]), recovered := true }] ∧ w' = (w.alloc (.cells #[] 200)).setCell p (.bool false) := by
 refine callsD_of_wpS Try.func105 rfl fun c₀ cs hu => ?_
 apply wpS_seq
 apply wpS_region
 simp [wpOpsS, go_sem, recoverD, hu, Try.ntmps105, Exit.thenS]
 have hta : ∀ w, (Instr.typeAssert (.iface 200 (.agg #[])) 20 200 true).run Prog w = .ok (.tuple #[.agg #[], .bool true]) w := fun w => by kernel_rfl
 refine wpS_of_wp ?_
 go_wp2
 cases c₀
 simp_all [bodyPostS, results, Try.results105]
theorem catch_idle (p : Addr) (w : World) :
  CallsD Prog 105 #[.pointer (some p)] .returning w fun e u' w' => e = .returned (.tuple #[]) ∧ u' = .returning ∧ w' = w := by
 refine callsD_of_wpS Try.func105 rfl fun c₀ cs hu => ?_
 apply wpS_seq
 apply wpS_region
 simp [wpOpsS, go_sem, recoverD, hu, Try.ntmps105, Exit.thenS]
 refine wpS_of_wp ?_
 go_wp2
 cases c₀
 simp_all [bodyPostS, results, Try.results105]
set_option maxRecDepth 20000 in
theorem try_walk (g : FuncId) (first cap : Array Value) (w : World) (R : Ending → World → Prop)
  (hcf : (callFunc g (first ++ cap)).run Prog (w.alloc (.cells #[.bool false] 4)) = .ok (.enter g (first ++ cap)) (w.alloc (.cells #[.bool false] 4)))
  (hcall : Calls Prog g (first ++ cap) (w.alloc (.cells #[.bool false] 4)) fun e w' => match e with
   | .returned _ => w'.heap[w.heap.size]? = some (.cells #[.bool false] 4 (0, 0)) ∧ R (.returned (.bool true)) (w'.setCell ⟨w.heap.size, 0, none⟩ (.bool true))
   | .panicked chain => chain = [{ v := .iface 200 (.agg #[]), recovered := false }] ∧ w'.heap[w.heap.size]? = some (.cells #[.bool false] 4 (0, 0)) ∧ R (.returned (.bool false)) ((w'.alloc (.cells #[] 200)).setCell ⟨w.heap.size, 0, none⟩ (.bool false))
   | .outgrown => False) :
  Calls Prog 35 #[.func (.func g) first cap] w R := by
 have hmf : ∀ (fn : Fn) (first cap : Array Value) (w : World), (Instr.makeFunc fn first cap).run Prog w = .ok (.func fn first cap) w := fun _ _ _ _ => rfl
 go_enter_defers Try.func35, Try.ntmps35
 go_wp2
 rename_i K2 hK2 K1 hK1
 refine hcall.mono fun e w' he => ?_
 cases e with
 | returned v =>
  obtain ⟨h1, h2⟩ := he
  have hc : w'.cell? ⟨w.heap.size, 0, none⟩ = some (.bool false) := by simp [World.cell?, h1]
  have hz : w'.frozen? ⟨w.heap.size, 0, none⟩ = false := by simp [World.frozen?, h1]
  apply hK1
  apply hK2
  go_wp2
  have hc2 : (w'.setCell ⟨w.heap.size, 0, none⟩ (.bool true)).cell? ⟨w.heap.size, 0, none⟩ = some (.bool true) := World.cell?_setCell_same _ _ _ hc
  refine leaves_cons (f := 105) (args := #[.pointer (some ⟨w.heap.size, 0, none⟩)]) (by simp) (by simp [go_sem]) ?_
  refine (catch_idle ⟨w.heap.size, 0, none⟩ _).mono ?_
  rintro e u' w'' ⟨rfl, rfl, rfl⟩
  simp [Leaves, settle, results, Try.results35, go_sem, hc2]
  exact h2
 | panicked chain =>
  obtain ⟨h0, h1, h2⟩ := he
  subst h0
  have hlt : w.heap.size < w'.heap.size := by
   rcases Nat.lt_or_ge w.heap.size w'.heap.size with h | h
   ·exact h
   ·rw [Array.getElem?_eq_none h] at h1; cases h1
  have h3 : (w'.alloc (.cells #[] 200)).heap[w.heap.size]? = some (.cells #[.bool false] 4 (0, 0)) := by
   rw [heap_alloc_lt _ _ _ hlt]; exact h1
  have hc : (w'.alloc (.cells #[] 200)).cell? ⟨w.heap.size, 0, none⟩ = some (.bool false) := by simp only [World.cell?, h3]; rfl
  have hz : (w'.alloc (.cells #[] 200)).frozen? ⟨w.heap.size, 0, none⟩ = false := by simp [World.frozen?, h3]
  have hc2 : ((w'.alloc (.cells #[] 200)).setCell ⟨w.heap.size, 0, none⟩ (.bool false)).cell? ⟨w.heap.size, 0, none⟩ = some (.bool false) := World.cell?_setCell_same _ _ _ hc
  show Leaves _ _ _ _ _ _ _
  refine leaves_cons (f := 105) (args := #[.pointer (some ⟨w.heap.size, 0, none⟩)]) (by simp) (by simp [go_sem]) ?_
  refine (catch_short ⟨w.heap.size, 0, none⟩ false _ hc hz).mono ?_
  rintro e u' w'' ⟨rfl, rfl, rfl⟩
  simp [Leaves, settle, results, Try.results35, go_sem, hc2]
  exact h2
 | outgrown => exact he.elim
theorem try_is : SpIs Prog 35 (tryV 200) := try_of (bt := 4) Try.func35 rfl (by kernel_rfl) try_walk
end Go.Sw
end
section
namespace Go.Sw
open Go.RowKit
structure CTab.ok (t : CTab) : Prop where
 m : t.m.ok
 subs : ∀ x, x ∈ t.subs → (∀ p, p ∈ x.2 → p.ok) ∧ risesS x.2 = true ∧ x.2.length < 2 ^ 31
 has : ∀ e, e ∈ t.m.ents → (e.a = 65535 ∨ e.a < t.subs.length) ∧ (e.b = 65535 ∨ e.b < t.subs.length)
end Go.Sw
end
section
namespace Go.Sw
open Go.RowKit
theorem and_two15 (n : Nat) : n &&& 2 ^ 15 = if n.testBit 15 then 2 ^ 15 else 0 := by
 apply Nat.eq_of_testBit_eq
 intro i
 rw [Nat.testBit_and, Nat.testBit_two_pow]
 by_cases h : 15 = i
 ·subst h
  cases hb : n.testBit 15 <;> simp <;> decide
 ·cases hb : n.testBit 15
  ·simp [h]
  ·simp only [h, decide_false, Bool.and_false, if_true, Nat.testBit_two_pow]
theorem and15 (P : Program) (t : TypeId) (H : Heap) {a : Int} (h0 : 0 ≤ a) (h1 : a < 65536) : binR P .and t (.int .i64 a) (.int .i64 32768) H = .ok (.int .i64 (if a ≥ 32768 then 32768 else 0)) H := by
 have e : (BitVec.ofInt 64 a &&& BitVec.ofInt 64 32768).toNat = (if a ≥ 32768 then 32768 else 0) := by
  rw [BitVec.toNat_and, BitVec.toNat_ofInt, BitVec.toNat_ofInt]
  rw [show ((32768 : Int) % ((2 ^ 64 : Nat) : Int)).toNat = 2 ^ 15 from by decide, and_two15, Nat.testBit_eq_decide_div_mod_eq]
  obtain ⟨n, rfl⟩ := Int.eq_ofNat_of_zero_le h0
  rw [show (((n : Int)) % ((2 ^ 64 : Nat) : Int)).toNat = n by omega]
  by_cases h : (n : Int) ≥ 32768
  ·rw [if_pos h, decide_eq_true (show n / 2 ^ 15 % 2 = 1 by omega)]; rfl
  ·rw [if_neg h, decide_eq_false (show ¬ n / 2 ^ 15 % 2 = 1 by omega)]; rfl
 have e1 : binV P .and t (.int .i64 a) (.int .i64 32768) = some (.int .i64 (IntKind.i64.wrap (BitVec.ofInt 64 a &&& BitVec.ofInt 64 32768).toNat)) := rfl
 unfold binR
 rw [e1, e]
 by_cases h : a ≥ 32768
 ·simp [h]
 ·simp [h]
end Go.Sw
end
section
namespace Go.Sw
open Go.RowKit
theorem plainNew (k : Nat) (f : Fn) (a b : Array Value) (H : Heap) : R (T k) F.drive_Plain [.func f a b] H = .ok (.func (.func F.drive_Plain_in1) #[] #[ptrV H.n]) (H.push ⟨[.func f a b], 1, false⟩) := by
 rw [drive_Plain_R]
 have e : drive_Plain k (R (T k)) (.func f a b) H = .ok (.func (.func F.drive_Plain_in1) #[] #[ptrV H.n]) (H.push ⟨[.func f a b], 1, false⟩) := by
  simp -implicitDefEqProofs [drive_Plain]
 rw [e]
 have dead : ¬ Alive H (.func (.func F.drive_Plain_in1) #[] #[ptrV H.n]) := fun h => by
  cases h with
  | func fn xs ys h1 h2 =>
   have := h2 0 (ptrV H.n) rfl
   cases this with
   | ptr b off k hg => have := Heap.get_lt hg; omega
 unfold nrm
 exact if_neg fun hc => dead hc.2
end Go.Sw
end
section
namespace Go.Sw
open Go.RowKit
theorem veq_Ens (l : List En) : veq (lv encEn l) (lv encEn l) = true := veq_lv fun p _ v hv => by
 simp [encEn] at hv
 rcases hv with rfl | rfl | rfl | rfl <;> simp
theorem veq_Is (l : List Int) : veq (lv encI l) (lv encI l) = true := veq_lv fun p _ v hv => by
 simp [encI] at hv
 subst hv; simp
theorem veq_Rows (l : List (List Int)) : veq (lv encRow l) (lv encRow l) = true := veq_lv fun p _ v hv => by
 simp [encRow] at hv
 subst hv; exact veq_Is p
theorem veq_mach (m : Mach) : veq (machV m) (machV m) = true := veq_boxV (l := [.int .i64 m.classes, tabV m.tab, lv encRow m.rows, lv encEn m.ents]) fun v hv => by
 simp at hv
 rcases hv with rfl | rfl | rfl | rfl
 ·simp
 ·exact veq_tab _
 ·exact veq_Rows _
 ·exact veq_Ens _
end Go.Sw
end
section
set_option maxRecDepth 100000
set_option linter.unusedVariables false
namespace Go.Sw
noncomputable section
def rear_Read (k : Nat) (call : Caller) (a0 a1 : Value) (h : Heap) : Res Value :=
 (call F.state_Read [a0, a1, (.int .i64 0)] h).bind fun v1 h2 =>
 (extractR v1 0 h2).bind fun v3 h4 =>
 (extractR v1 1 h4).bind fun v5 h6 =>
 (binR Prog .neq 34 v5 (.int .i64 0) h6).bind fun v7 h8 =>
 condV (some v7) (
 .ok (.tuple #[(.pointer none), v5]) h8)
 (
 (buildR Prog 184 [(0, v3)] h8).bind fun v9 h10 =>
 (boxR v9 h10).bind fun v11 h12 =>
 .ok (.tuple #[v11, (.int .i64 0)]) h12)
theorem rear_Read_R (k : Nat) (a0 a1 : Value) (h : Heap) : R (T k) F.rear_Read [a0, a1] h = nrm .fz h (rear_Read k (R (T k)) a0 a1 h) :=
 (R_body (t := T k) (T_scott k) (by kernel_rfl) (by kernel_rfl) _ _).trans (by kernel_rfl)
def rear_Table_Run (k : Nat) (call : Caller) (a0 a1 : Value) (h : Heap) : Res Value :=
 (boxR a1 h).bind fun v1 h2 =>
 (allocR Prog 3 h2).bind fun v3 h4 =>
 (allocR Prog 3 h4).bind fun v5 h6 =>
 (storeR Prog 3 v3 (.int .i64 0) h6).bind fun _v7 h8 =>
 (storeR Prog 3 v5 (.int .i64 0) h8).bind fun _v9 h10 =>
 (nilR a0 h10).bindN fun v11 h12 =>
 (fieldAddrR Prog 184 v11 0 h12).bindN fun v13 h14 =>
 (loadR Prog 180 v13 h14).bindN fun v15 h16 =>
 (loadR Prog 44 v1 h16).bindN fun v17 h18 =>
 (call F.drive_Plain [(.func (.func F.rear_Table_Run_in1) #[] #[v1, v3, v5])] h18).bindT (fun p21 h22 => .panic p21 h22) fun v19 h20 =>
 (call F.drive_Run [v15, v17, v19] h20).bindT (fun p25 h26 => chkR ((okVal (loadR Prog 180 v13 h20) v15 && true) && ((okVal (loadR Prog 44 v1 h20) v17 && true) && true)) (.panic p25 h26)) fun v23 h24 =>
 (extractR v23 0 h24).bindN fun v27 h28 =>
 (extractR v23 1 h28).bindN fun v29 h30 =>
 chkR ((okVal (loadR Prog 180 v13 h20) v15 && true) && ((okVal (loadR Prog 44 v1 h20) v17 && true) && true)) (
 .ok v29 h30)
theorem rear_Table_Run_R (k : Nat) (a0 a1 : Value) (h : Heap) : R (T k) F.rear_Table_Run [a0, a1] h = nrm .no h (rear_Table_Run k (R (T k)) a0 a1 h) :=
 (R_body (t := T k) (T_scott k) (by kernel_rfl) (by kernel_rfl) _ _).trans (by kernel_rfl)
def rear_Take (k : Nat) (call : Caller) (a0 a1 : Value) (h : Heap) : Res Value :=
 (boxR a0 h).bind fun v1 h2 =>
 (loadR Prog 55 v1 h2).bind fun v3 h4 =>
 (call F.state_Take [v3, a1, (.int .i64 0)] h4).bind fun v5 h6 =>
 (buildR Prog 184 [(0, v5)] h6).bind fun v7 h8 =>
 (boxR v7 h8).bind fun v9 h10 =>
 .ok v9 h10
theorem rear_Take_R (k : Nat) (a0 a1 : Value) (h : Heap) : R (T k) F.rear_Take [a0, a1] h = nrm .fz h (rear_Take k (R (T k)) a0 a1 h) :=
 (R_body (t := T k) (T_scott k) (by kernel_rfl) (by kernel_rfl) _ _).trans (by kernel_rfl)
def rear_Table_Run_in1_j1 (k : Nat) (call : Caller) (a0 a2 a3 a4 a6 : Value) (h : Heap) : Res Value :=
 kSeq (pieceK (C k) call F.rear_Table_Run_in1 [1, 1]) (kDone Prog (resOf Prog F.rear_Table_Run_in1)) .normal [(0, a0), (2, a2), (3, a3), (4, a4), (6, a6)] h
def rear_Table_Run_in1_j2 (k : Nat) (call : Caller) (a0 a2 a3 a4 a6 a12 : Value) (h : Heap) : Res Value :=
 kSeq (pieceK (C k) call F.rear_Table_Run_in1 [1, 1]) (kDone Prog (resOf Prog F.rear_Table_Run_in1)) .normal [(0, a0), (2, a2), (3, a3), (4, a4), (6, a6), (12, a12)] h
def rear_Table_Run_in1_j3 (k : Nat) (call : Caller) (a2 a3 a4 a6 : Value) (h : Heap) : Res Value :=
 kSeq (pieceK (C k) call F.rear_Table_Run_in1 [1, 1, 1]) (kDone Prog (resOf Prog F.rear_Table_Run_in1)) .normal [(2, a2), (3, a3), (4, a4), (6, a6)] h
def rear_Table_Run_in1_j4 (k : Nat) (call : Caller) (a0 a2 a3 a4 a6 a20 : Value) (h : Heap) : Res Value :=
 kSeq (pieceK (C k) call F.rear_Table_Run_in1 [1, 1, 1]) (kDone Prog (resOf Prog F.rear_Table_Run_in1)) .normal [(0, a0), (2, a2), (3, a3), (4, a4), (6, a6), (20, a20)] h
def rear_Table_Run_in1 (k : Nat) (call : Caller) (a0 a1 a2 a3 a4 : Value) (h : Heap) : Res Value :=
 (boxR a1 h).bind fun v1 h2 =>
 (fieldAddrR Prog 31 v1 1 h2).bind fun v3 h4 =>
 (loadR Prog 3 v3 h4).bind fun v5 h6 =>
 (binR Prog .and 3 v5 (.int .i64 32768) h6).bind fun v7 h8 =>
 (binR Prog .neq 3 v7 (.int .i64 0) h8).bind fun v9 h10 =>
 condV (some v9) (
 (loadR Prog 44 a2 h10).bind fun v11 h12 =>
 (call F.line_Line_Len [v11] h12).bind fun v13 h14 =>
 (builtinV Prog .min [3, 3] [a0, v13] h14).bind fun v15 h16 =>
 (storeR Prog 3 a3 v15 h16).bind fun _v17 h18 =>
 rear_Table_Run_in1_j1 k call a0 a2 a3 a4 v1 h18)
 (
 rear_Table_Run_in1_j2 k call a0 a2 a3 a4 v1 v9 h10)
theorem rear_Table_Run_in1_R (k : Nat) (a0 a1 a2 a3 a4 : Value) (h : Heap) : R (T k) F.rear_Table_Run_in1 [a0, a1, a2, a3, a4] h = nrm .no h (rear_Table_Run_in1 k (R (T k)) a0 a1 a2 a3 a4 h) :=
 (R_body (t := T k) (T_scott k) (by kernel_rfl) (by kernel_rfl) _ _).trans (by kernel_rfl)
theorem rear_Table_Run_in1_j1_eq (k : Nat) (call : Caller) (a0 a2 a3 a4 a6 : Value) (h : Heap) : rear_Table_Run_in1_j1 k call a0 a2 a3 a4 a6 h =
 (fieldAddrR Prog 31 a6 1 h).bind fun v19 h20 =>
 (loadR Prog 3 v19 h20).bind fun v21 h22 =>
 (binR Prog .and 3 v21 (.int .i64 8192) h22).bind fun v23 h24 =>
 (binR Prog .neq 3 v23 (.int .i64 0) h24).bind fun v25 h26 =>
 condV (some v25) (
 (binR Prog .add 3 a0 (.int .i64 1) h26).bind fun v27 h28 =>
 (loadR Prog 44 a2 h28).bind fun v29 h30 =>
 (call F.line_Line_Len [v29] h30).bind fun v31 h32 =>
 (builtinV Prog .min [3, 3] [v27, v31] h32).bind fun v33 h34 =>
 (storeR Prog 3 a4 v33 h34).bind fun _v35 h36 =>
 rear_Table_Run_in1_j3 k call a2 a3 a4 a6 h36)
 (
 rear_Table_Run_in1_j4 k call a0 a2 a3 a4 a6 v25 h26) := by kernel_rfl
theorem rear_Table_Run_in1_j2_eq (k : Nat) (call : Caller) (a0 a2 a3 a4 a6 a12 : Value) (h : Heap) : rear_Table_Run_in1_j2 k call a0 a2 a3 a4 a6 a12 h =
 (fieldAddrR Prog 31 a6 1 h).bind fun v37 h38 =>
 (loadR Prog 3 v37 h38).bind fun v39 h40 =>
 (binR Prog .and 3 v39 (.int .i64 8192) h40).bind fun v41 h42 =>
 (binR Prog .neq 3 v41 (.int .i64 0) h42).bind fun v43 h44 =>
 condV (some v43) (
 (binR Prog .add 3 a0 (.int .i64 1) h44).bind fun v45 h46 =>
 (loadR Prog 44 a2 h46).bind fun v47 h48 =>
 (call F.line_Line_Len [v47] h48).bind fun v49 h50 =>
 (builtinV Prog .min [3, 3] [v45, v49] h50).bind fun v51 h52 =>
 (storeR Prog 3 a4 v51 h52).bind fun _v53 h54 =>
 rear_Table_Run_in1_j3 k call a2 a3 a4 a6 h54)
 (
 rear_Table_Run_in1_j4 k call a0 a2 a3 a4 a6 v43 h44) := by kernel_rfl
theorem rear_Table_Run_in1_j3_eq (k : Nat) (call : Caller) (a2 a3 a4 a6 : Value) (h : Heap) : rear_Table_Run_in1_j3 k call a2 a3 a4 a6 h =
 (fieldAddrR Prog 31 a6 1 h).bind fun v55 h56 =>
 (loadR Prog 3 v55 h56).bind fun v57 h58 =>
 (binR Prog .and 3 v57 (.int .i64 15) h58).bind fun v59 h60 =>
 (loadR Prog 3 a4 h60).bind fun v61 h62 =>
 (loadR Prog 3 a3 h62).bind fun v63 h64 =>
 (binR Prog .sub 3 v61 v63 h64).bind fun v65 h66 =>
 (call F.verb_Order [v59, v65] h66).bind fun v67 h68 =>
 (extractR v67 0 h68).bind fun v69 h70 =>
 (extractR v67 1 h70).bind fun v71 h72 =>
 condV (some v71) (
 (loadR Prog 44 a2 h72).bind fun v73 h74 =>
 (loadR Prog 3 a3 h74).bind fun v75 h76 =>
 (call F.line_Line_Order [v73, v75, v69] h76).bind fun v77 h78 =>
 .ok (.tuple #[]) h78)
 (
 .ok (.tuple #[]) h72) := by kernel_rfl
theorem rear_Table_Run_in1_j4_eq (k : Nat) (call : Caller) (a0 a2 a3 a4 a6 a20 : Value) (h : Heap) : rear_Table_Run_in1_j4 k call a0 a2 a3 a4 a6 a20 h =
 (fieldAddrR Prog 31 a6 1 h).bind fun v79 h80 =>
 (loadR Prog 3 v79 h80).bind fun v81 h82 =>
 (binR Prog .and 3 v81 (.int .i64 15) h82).bind fun v83 h84 =>
 (loadR Prog 3 a4 h84).bind fun v85 h86 =>
 (loadR Prog 3 a3 h86).bind fun v87 h88 =>
 (binR Prog .sub 3 v85 v87 h88).bind fun v89 h90 =>
 (call F.verb_Order [v83, v89] h90).bind fun v91 h92 =>
 (extractR v91 0 h92).bind fun v93 h94 =>
 (extractR v91 1 h94).bind fun v95 h96 =>
 condV (some v95) (
 (loadR Prog 44 a2 h96).bind fun v97 h98 =>
 (loadR Prog 3 a3 h98).bind fun v99 h100 =>
 (call F.line_Line_Order [v97, v99, v93] h100).bind fun v101 h102 =>
 .ok (.tuple #[]) h102)
 (
 .ok (.tuple #[]) h96) := by kernel_rfl
end
end Go.Sw
end
section
namespace Go.Sw
open Go.RowKit
abbrev rearV (m : Mach) : Value := boxV #[machV m]
def rearP (o : Option Mach) : Value := match o with | some m => rearV m | none => .pointer none
theorem rearP_flat (o : Option Mach) : Flat (rearP o) := by
 cases o with
 | none => exact .nilPtr
 | some m => exact .boxV (l := [machV m]) (.cons (Flat.mach m) .nil)
theorem veq_rear (m : Mach) : veq (rearV m) (rearV m) = true := veq_boxV (l := [machV m]) fun v hv => by
 simp at hv
 subst hv
 exact veq_mach m
theorem rearRead_run (k : Nat) (b : List Int) (hb : Byt b) (g : Int) (hg : 1 ≤ g ∧ g ≤ 65535) (hl : b.length < 2 ^ 31) (H : Heap) :
  R (T k) F.rear_Read [lv encB b, .int .i64 g] H = .ok (.tuple #[rearP (machS b g 0), .int .i64 (if (machS b g 0).isSome then 0 else 2)]) H := by
 rw [rear_Read_R]
 have hrd := fun H' => stateRead_run k (H := H') (Sl.lv H' 1 b) hb g 0 hl
 have hbad : badM g 0 = false := by unfold badM; simp; omega
 unfold machO machN at hrd
 rw [hbad] at hrd
 have al : ∀ o n, Alive H (.tuple #[rearP o, .int .i64 n]) := fun o n => (Flat.tupleL (l := [rearP o, .int .i64 n]) (.cons (rearP_flat o) (.cons (.int _ _) .nil))).alive
 cases h : machS b g 0 with
 | none =>
  rw [h] at hrd
  simp [machP] at hrd
  refine nrm_fz (v := .tuple #[.pointer none, .int .i64 2]) (L := []) (H' := H) ?_ rfl (Ext.refl _) (al none 2)
  simp -implicitDefEqProofs (disch := omega) [rear_Read, hrd]
 | some m =>
  rw [h] at hrd
  simp [machP] at hrd
  have hx : Ext H (H.push ⟨[machV m], 1, false⟩) := (Ext.refl H).push _
  have hft : fzV H.n (H.push ⟨[machV m], 1, false⟩) fzDepth (.tuple #[ptrV H.n, .int .i64 0]) = some (.tuple #[rearV m, .int .i64 0], [H.n]) := by
   have hp : fzV H.n (H.push ⟨[machV m], 1, false⟩) 7 (ptrV H.n) = some (rearV m, [H.n]) := by
    unfold ptrV fzV
    dsimp only
    rw [show Nat.blt H.n H.n = false from by
     cases hb : Nat.blt H.n H.n with
     | false => rfl
     | true => exact absurd (Nat.le_of_ble_eq_true hb) (by omega), get_push_eq _ _ _ rfl]
    rfl
   exact fz_tuple (l := [ptrV H.n, .int .i64 0]) (r := [rearV m, .int .i64 0]) (mapF_cons (L1 := [H.n]) hp (mapF_one (L := []) rfl))
  refine nrm_fz (v := .tuple #[ptrV H.n, .int .i64 0]) (H' := H.push ⟨[machV m], 1, false⟩) ?_ hft hx (al (some m) 0)
  simp -implicitDefEqProofs (disch := omega) [rear_Read, hrd]
def rearW (L : List It) (i c : Nat) (o : Option Nat) (p1 p3 p4 : Nat) (s : List Gl × Int × Int) : List It :=
 L.set i (itLine c o s.1) ++ [itBlk p1 ⟨[ptrV c], 1, false⟩, itBlk p3 ⟨[.int .i64 s.2.1], 1, false⟩, itBlk p4 ⟨[.int .i64 s.2.2], 1, false⟩]
theorem rear_tail (k : Nat) {H0 H : Heap} {L : List It} {i c : Nat} {o : Option Nat} (hi : i < L.length) {p1 p3 p4 q : Nat} {l : List Gl} {A B : Int} {e : En} {X : List It} (hf : 0 ≤ e.flags ∧ e.flags < 65536) (hA : 0 ≤ A ∧ A ≤ l.length) (hB : 0 ≤ B ∧ B ≤ l.length) (hl : l.length < 2 ^ 25)
  (st : Star H0 H (L.set i (itLine c o l) ++ ([itBlk p1 ⟨[ptrV c], 1, false⟩, itBlk p3 ⟨[.int .i64 A], 1, false⟩, itBlk p4 ⟨[.int .i64 B], 1, false⟩] ++ (X ++ [itBlk q ⟨encEn e, 1, false⟩])))) :
  ∃ H', rear_Table_Run_in1_j3 k (R (T k)) (ptrV p1) (ptrV p3) (ptrV p4) (ptrV q) H = .ok (.tuple #[]) H' ∧ (∀ a0 a20, rear_Table_Run_in1_j4 k (R (T k)) a0 (ptrV p1) (ptrV p3) (ptrV p4) (ptrV q) a20 H = .ok (.tuple #[]) H') ∧
   Star H0 H' (L.set i (itLine c o (match orderS (e.flags % 16) (B - A) with | some r => (orderG l A r).getD l | none => l)) ++ ([itBlk p1 ⟨[ptrV c], 1, false⟩, itBlk p3 ⟨[.int .i64 A], 1, false⟩, itBlk p4 ⟨[.int .i64 B], 1, false⟩] ++ (X ++ [itBlk q ⟨encEn e, 1, false⟩]))) := by
 have g1 := st.memBlk (c := p1) (k := ⟨[ptrV c], 1, false⟩) (by simp)
 have g3 := st.memBlk (c := p3) (k := ⟨[.int .i64 A], 1, false⟩) (by simp)
 have g4 := st.memBlk (c := p4) (k := ⟨[.int .i64 B], 1, false⟩) (by simp)
 have ge := st.memBlk (c := q) (k := ⟨encEn e, 1, false⟩) (by simp)
 have han := fun H => and4 Prog 3 H hf.1 hf.2
 have hord := fun H => verbOrder_run k (e.flags % 16) (B - A) (by omega) (by omega) H
 cases ho : orderS (e.flags % 16) (B - A) with
 | none =>
  rw [ho] at hord
  simp only [Option.isSome_none, Option.getD_none] at hord
  refine ⟨H, ?_, fun a0 a20 => ?_, st⟩
  ·rw [rear_Table_Run_in1_j3_eq]
   simp -implicitDefEqProofs (disch := omega) [g1, g3, g4, ge, han, hord]
  ·rw [rear_Table_Run_in1_j4_eq]
   simp -implicitDefEqProofs (disch := omega) [g1, g3, g4, ge, han, hord]
 | some r =>
  rw [ho] at hord
  simp only [Option.isSome_some, Option.getD_some] at hord
  have hrl := (order_ok ho).2.1
  have hline : (L.set i (itLine c o l) ++ ([itBlk p1 ⟨[ptrV c], 1, false⟩, itBlk p3 ⟨[.int .i64 A], 1, false⟩, itBlk p4 ⟨[.int .i64 B], 1, false⟩] ++ (X ++ [itBlk q ⟨encEn e, 1, false⟩])))[i]? = some (itLine c o l) := by
   rw [List.getElem?_append_left (by simpa using hi), List.getElem?_set_self hi]
  obtain ⟨H', e1, st2⟩ := lineOrder_star k st i hline (by omega) A r (by omega) (by omega)
  rw [List.set_append_left _ _ (by simpa using hi), List.set_set] at st2
  refine ⟨H', ?_, fun a0 a20 => ?_, st2⟩
  ·rw [rear_Table_Run_in1_j3_eq]
   simp -implicitDefEqProofs (disch := omega) [g1, g3, g4, ge, han, hord, e1]
  ·rw [rear_Table_Run_in1_j4_eq]
   simp -implicitDefEqProofs (disch := omega) [g1, g3, g4, ge, han, hord, e1]
set_option maxHeartbeats 1000000 in
theorem rear_do (k : Nat) (m : Mach) (hm : m.ok) (L : List It) (i c : Nat) (o : Option Nat) (hi : i < L.length) (p1 p3 p4 n : Nat) (hn : n < 2 ^ 25) {H0 : Heap} :
  DoOk k m H0 (rearW L i c o p1 p3 p4) (RearOk (n : Int)) (.func (.func F.rear_Table_Run_in1) #[] #[ptrV p1, ptrV p3, ptrV p4]) doR := by
 intro s j e H X hI st h0 h1 he
 have hok := (doR_ok hI h0 e).1
 obtain ⟨l, a, b⟩ := s
 obtain ⟨k1, k2, k3, k4, k5⟩ := hI
 dsimp only at k1 k2 k3 k4 k5
 have heb := hm.ent e he
 unfold rearW at st
 dsimp only at st
 obtain ⟨S, hS⟩ : ∃ S : List Gl → Int → Int → List It, S = fun l' a' b' => L.set i (itLine c o l') ++ ([itBlk p1 ⟨[ptrV c], 1, false⟩, itBlk p3 ⟨[.int .i64 a'], 1, false⟩, itBlk p4 ⟨[.int .i64 b'], 1, false⟩] ++ (X ++ [itBlk H.n ⟨encEn e, 1, false⟩])) := ⟨_, rfl⟩
 have hSv : ∀ l' a' b', S l' a' b' = L.set i (itLine c o l') ++ ([itBlk p1 ⟨[ptrV c], 1, false⟩, itBlk p3 ⟨[.int .i64 a'], 1, false⟩, itBlk p4 ⟨[.int .i64 b'], 1, false⟩] ++ (X ++ [itBlk H.n ⟨encEn e, 1, false⟩])) := fun _ _ _ => by rw [hS]
 have hline : ∀ l' a' b', (S l' a' b')[i]? = some (itLine c o l') := fun l' a' b' => by
  rw [hSv, List.getElem?_append_left (by simpa using hi), List.getElem?_set_self hi]
 have storeA : ∀ {H' : Heap} {a' b' : Int} (v : Int), Star H0 H' (S l a' b') → ∃ H'', stR 1 (ptrV p3) (.int .i64 v) H' = .ok undef H'' ∧ Star H0 H'' (S l v b') := fun {H' a' b'} v h => by
  rw [hSv] at h
  rw [show L.set i (itLine c o l) ++ ([itBlk p1 ⟨[ptrV c], 1, false⟩, itBlk p3 ⟨[.int .i64 a'], 1, false⟩, itBlk p4 ⟨[.int .i64 b'], 1, false⟩] ++ (X ++ [itBlk H.n ⟨encEn e, 1, false⟩])) =
   (L.set i (itLine c o l) ++ [itBlk p1 ⟨[ptrV c], 1, false⟩]) ++ itBlk p3 ⟨[.int .i64 a'], 1, false⟩ :: (itBlk p4 ⟨[.int .i64 b'], 1, false⟩ :: (X ++ [itBlk H.n ⟨encEn e, 1, false⟩])) by simp] at h
  obtain ⟨H'', e1, h2⟩ := h.stEnd 0 (v := .int .i64 v) rfl rfl (by simp)
  refine ⟨H'', e1, ?_⟩
  rw [hSv]
  simpa using h2
 have storeB : ∀ {H' : Heap} {a' b' : Int} (v : Int), Star H0 H' (S l a' b') → ∃ H'', stR 1 (ptrV p4) (.int .i64 v) H' = .ok undef H'' ∧ Star H0 H'' (S l a' v) := fun {H' a' b'} v h => by
  rw [hSv] at h
  rw [show L.set i (itLine c o l) ++ ([itBlk p1 ⟨[ptrV c], 1, false⟩, itBlk p3 ⟨[.int .i64 a'], 1, false⟩, itBlk p4 ⟨[.int .i64 b'], 1, false⟩] ++ (X ++ [itBlk H.n ⟨encEn e, 1, false⟩])) =
   (L.set i (itLine c o l) ++ [itBlk p1 ⟨[ptrV c], 1, false⟩, itBlk p3 ⟨[.int .i64 a'], 1, false⟩]) ++ itBlk p4 ⟨[.int .i64 b'], 1, false⟩ :: (X ++ [itBlk H.n ⟨encEn e, 1, false⟩]) by simp] at h
  obtain ⟨H'', e1, h2⟩ := h.stEnd 0 (v := .int .i64 v) rfl rfl (by simp)
  refine ⟨H'', e1, ?_⟩
  rw [hSv]
  simpa using h2
 have look : ∀ {H' : Heap} {a' b' : Int}, Star H0 H' (S l a' b') → H'.get p1 = some ⟨[ptrV c], 1, false⟩ ∧ H'.get H.n = some ⟨encEn e, 1, false⟩ ∧ R (T k) F.line_Line_Len [ptrV c] H' = .ok (.int .i64 l.length) H' := fun {H' a' b'} h => by
  refine ⟨?_, ?_, lineLen_run k h i (hline _ _ _)⟩
  ·rw [hSv] at h; exact h.memBlk (c := p1) (k := ⟨[ptrV c], 1, false⟩) (by simp)
  ·rw [hSv] at h; exact h.memBlk (c := H.n) (k := ⟨encEn e, 1, false⟩) (by simp)
 have fin : ∀ {H' : Heap} {l' : List Gl} {a' b' : Int}, Star H0 H' (S l' a' b') → Star H0 H' (L.set i (itLine c o l') ++ [itBlk p1 ⟨[ptrV c], 1, false⟩, itBlk p3 ⟨[.int .i64 a'], 1, false⟩, itBlk p4 ⟨[.int .i64 b'], 1, false⟩] ++ X) := fun {H' l' a' b'} h => by
  rw [hSv, ← List.append_assoc, ← List.append_assoc] at h
  exact h.drop_last
 have st2 : Star H0 (H.push ⟨encEn e, 1, false⟩) (S l a b) := by
  have := st.push ⟨encEn e, 1, false⟩
  rw [List.append_assoc, List.append_assoc] at this
  rw [hSv]
  exact this
 have ha15 := fun H => and15 Prog 3 H heb.2.2.1 heb.2.2.2.1
 have ha13 := fun H => and13 Prog 3 H heb.2.2.1 heb.2.2.2.1
 have m1 : (if (l.length : Int) < j then (l.length : Int) else j) = min j (l.length : Int) := by split <;> omega
 have m2 : (if (l.length : Int) < j + 1 then (l.length : Int) else j + 1) = min (j + 1) (l.length : Int) := by split <;> omega
 obtain ⟨A, hA⟩ : ∃ A, A = if e.flags ≥ 32768 then min j (l.length : Int) else a := ⟨_, rfl⟩
 obtain ⟨B, hB⟩ : ∃ B, B = if e.flags / 8192 % 2 = 1 then min (j + 1) (l.length : Int) else b := ⟨_, rfl⟩
 have hAb : 0 ≤ A ∧ A ≤ (l.length : Int) := by rw [hA]; split <;> omega
 have hBb : 0 ≤ B ∧ B ≤ (l.length : Int) := by rw [hB]; split <;> omega
 have hdo : doR (l, a, b) j e = (match orderS (e.flags % 16) (B - A) with | some o => (orderG l A o).getD l | none => l, A, B) := by unfold doR; rw [hA, hB] <;> rfl
 have tail : ∀ {H' : Heap}, Star H0 H' (S l A B) → ∃ H'', rear_Table_Run_in1_j3 k (R (T k)) (ptrV p1) (ptrV p3) (ptrV p4) (ptrV H.n) H' = .ok (.tuple #[]) H'' ∧ (∀ a0 a20, rear_Table_Run_in1_j4 k (R (T k)) a0 (ptrV p1) (ptrV p3) (ptrV p4) (ptrV H.n) a20 H' = .ok (.tuple #[]) H'') ∧
   Star H0 H'' (rearW L i c o p1 p3 p4 (doR (l, a, b) j e) ++ X) := fun {H'} h => by
  rw [hSv] at h
  obtain ⟨H'', e1, e2, h3⟩ := rear_tail k hi ⟨heb.2.2.1, heb.2.2.2.1⟩ hAb hBb (by omega) h
  rw [← hSv] at h3
  refine ⟨H'', e1, e2, ?_⟩
  rw [hdo]
  exact fin h3
 obtain ⟨v1, v2, v3⟩ := look st2
 clear st
 by_cases d1 : e.flags ≥ 32768
 ·rw [if_pos d1] at hA ha15
  obtain ⟨H1, e1, st3⟩ := storeA (min j (l.length : Int)) st2
  obtain ⟨w1, w2, w3⟩ := look st3
  by_cases d2 : e.flags / 8192 % 2 = 1
  ·rw [if_pos d2] at hB ha13
   obtain ⟨H2, e2, st4⟩ := storeB (min (j + 1) (l.length : Int)) st3
   rw [← hA, ← hB] at st4
   obtain ⟨H3, t1, _, st5⟩ := tail st4
   refine ⟨.tuple #[], H3, ?_, st5, hok⟩
   simp only [callV, List.nil_append, List.cons_append]
   rw [rear_Table_Run_in1_R, nrm_of]
   simp -implicitDefEqProofs (disch := omega) [-stR_ptr, rear_Table_Run_in1, v1, v2, v3, ha15, bne, m1, e1, rear_Table_Run_in1_j1_eq, w1, w2, w3, ha13, m2, e2, t1]
  ·rw [if_neg d2] at hB ha13
   rw [← hA, ← hB] at st3
   obtain ⟨H3, _, t1, st5⟩ := tail st3
   refine ⟨.tuple #[], H3, ?_, st5, hok⟩
   simp only [callV, List.nil_append, List.cons_append]
   rw [rear_Table_Run_in1_R, nrm_of]
   simp -implicitDefEqProofs (disch := omega) [-stR_ptr, rear_Table_Run_in1, v1, v2, v3, ha15, bne, m1, e1, rear_Table_Run_in1_j1_eq, w1, w2, w3, ha13, t1]
 ·rw [if_neg d1] at hA ha15
  by_cases d2 : e.flags / 8192 % 2 = 1
  ·rw [if_pos d2] at hB ha13
   obtain ⟨H2, e2, st4⟩ := storeB (min (j + 1) (l.length : Int)) st2
   rw [← hA, ← hB] at st4
   obtain ⟨H3, t1, _, st5⟩ := tail st4
   refine ⟨.tuple #[], H3, ?_, st5, hok⟩
   simp only [callV, List.nil_append, List.cons_append]
   rw [rear_Table_Run_in1_R, nrm_of]
   simp -implicitDefEqProofs (disch := omega) [-stR_ptr, rear_Table_Run_in1, v1, v2, v3, ha15, bne, rear_Table_Run_in1_j2_eq, ha13, m2, e2, t1]
  ·rw [if_neg d2] at hB ha13
   rw [← hA, ← hB] at st2
   obtain ⟨H3, _, t1, st5⟩ := tail st2
   refine ⟨.tuple #[], H3, ?_, st5, hok⟩
   simp only [callV, List.nil_append, List.cons_append]
   rw [rear_Table_Run_in1_R, nrm_of]
   simp -implicitDefEqProofs (disch := omega) [-stR_ptr, rear_Table_Run_in1, v1, v2, v3, ha15, bne, rear_Table_Run_in1_j2_eq, ha13, t1]
set_option maxHeartbeats 1000000 in
theorem rearRun_star (k : Nat) (m : Mach) (hm : m.ok) {H0 H : Heap} {L : List It} (h : Star H0 H L) (i : Nat) {c : Nat} {o : Option Nat} {l : List Gl} (hi : L[i]? = some (itLine c o l)) (hl : l.length < 2 ^ 25) :
  ∃ H', R (T k) F.rear_Table_Run [rearV m, ptrV c] H = .ok (.int .i64 (runR m l).2) H' ∧ Star H0 H' (L.set i (itLine c o (runR m l).1)) ∧ (runR m l).1.length = l.length := by
 have hlt := (List.getElem?_eq_some_iff.1 hi).1
 have same : L.set i (itLine c o l) = L := by
  obtain ⟨hlt, hx⟩ := List.getElem?_eq_some_iff.1 hi
  rw [← hx, List.set_getElem_self]
 have st := ((h.push ⟨[ptrV c], 1, false⟩).push ⟨[.int .i64 0], 1, false⟩).push ⟨[.int .i64 0], 1, false⟩
 simp only [hn_push] at st
 obtain ⟨H3, hH3⟩ : ∃ H3, H3 = ((H.push ⟨[ptrV c], 1, false⟩).push ⟨[.int .i64 0], 1, false⟩).push ⟨[.int .i64 0], 1, false⟩ := ⟨_, rfl⟩
 rw [← hH3] at st
 have hn3 : H3.n = H.n + 3 := by rw [hH3]; simp
 have ePl := plainNew k (.func F.rear_Table_Run_in1) #[] #[ptrV H.n, ptrV (H.n + 1), ptrV (H.n + 2)] H3
 have st4 := st.push ⟨[.func (.func F.rear_Table_Run_in1) #[] #[ptrV H.n, ptrV (H.n + 1), ptrV (H.n + 2)]], 1, false⟩
 have g1 := st4.memBlk (c := H.n) (k := ⟨[ptrV c], 1, false⟩) (by simp)
 have hact := plain_ok k (rear_do k m hm L i c o hlt H.n (H.n + 1) (H.n + 2) l.length hl (H0 := H0)) H3.n
 obtain ⟨H5, eR, st5, hI5⟩ := driveRun_star k m hm (fun s : List Gl × Int × Int => rearW L i c o H.n (H.n + 1) (H.n + 2) s ++ [itBlk H3.n ⟨[.func (.func F.rear_Table_Run_in1) #[] #[ptrV H.n, ptrV (H.n + 1), ptrV (H.n + 2)]], 1, false⟩]) (RearOk (l.length : Int)) (fun s => s.1) c
  (fun s => ⟨i, o, by
   unfold rearW
   rw [List.append_assoc, List.getElem?_append_left (by simpa using hlt), List.getElem?_set_self hlt]⟩) _ _ hact [] (l, 0, 0) ⟨rfl, by dsimp only; omega⟩ (by
   unfold rearW
   rw [same]
   simpa [List.append_assoc] using st4) (by dsimp only; omega)
 have hr : runD m (fun s : List Gl × Int × Int => s.1) (fun s i e => (doR s i e, i, i + 1)) (2 * (l.length : Int) + 128) (2 * l.length + 128) ((l, 0, 0), ⟨0, 0, 0, 0⟩) = runRr m l := by unfold runRr; rfl
 dsimp only at eR st5 hI5
 rw [hr] at eR st5 hI5
 refine ⟨H5, ?_, ?_, ?_⟩
 ·rw [rear_Table_Run_R, nrm_of]
  have v2 := veq_mach m
  unfold runR
  generalize runRr m l = r at eR ⊢
  rw [hH3] at ePl eR g1
  simp only [hn_push] at ePl eR
  simp -implicitDefEqProofs (disch := omega) [rear_Table_Run, ePl, eR, v2]
 ·unfold runR
  generalize runRr m l = r at st5 ⊢
  unfold rearW at st5
  have := st5.take L.length
  rw [List.append_assoc, List.append_assoc, List.take_append_of_le_length (by simp), List.take_of_length_le (by simp)] at this
  exact this
 ·exact (runR_perm hm l).length_eq
end Go.Sw
end
section
namespace Go.Sw
open Go.RowKit
theorem refNew_run (k : Nat) (ids : List Int) (hl : ids.length < 2 ^ 30) (H : Heap) : R (T k) F.swashref11_New [lv encI ids] H = .ok (lv encG (newG ids)) H := by
 rw [swashref11_New_R]
 have g := (Star.nil H).more_row (Ext.refl _) (OwnO.bare encG _ 2) (fun b hb => by cases hb)
 simp only [List.nil_append] at g
 obtain ⟨x, e', H1, hr1, rfl, z, s, o, rfl, g⟩ := loop_up (body := swashref11_New_l1 k (R (T k))) ids.length
  (fun j e H' => ∃ s o, e = [(0, lv encI ids), (3, s), (4, .int .i64 j)] ∧ Star H H' [itRow o 2 s encG (newG (ids.take j))])
  (fun x e H' => x = .exit 0 ∧ ∃ z s o, e = [(0, lv encI ids), (3, s), (4, z), (9, .bool false)] ∧ Star H H' [itRow o 2 s encG (newG ids)])
  (e0 := [(0, lv encI ids), (3, bareV), (4, .int .i64 0)]) (H0 := H) ⟨bareV, none, rfl, g⟩ (by omega)
  (fun j e H' hj ⟨s, o, he, g⟩ => by
   subst he
   have hlt : (j : Int) < ids.length := by omega
   obtain ⟨x, hx⟩ : ∃ x, ids[j]? = some x := ⟨_, List.getElem?_eq_getElem hj⟩
   have i1 := fun H' => ixS_lvN encI_len ids .i64 j x hx H'
   have hlen : (ids.take j).length = j := by rw [List.length_take]; omega
   obtain ⟨s', o', H2, e2, g2⟩ := g.append1 (bytes := 16) 0 encG_len rfl (⟨x, j⟩ : Gl) (by rw [newG_len]; omega) (by decide)
   simp only [List.set_cons_zero] at g2
   simp only [encG] at e2
   refine .inl ⟨_, H2, ?_, s', o', rfl, by rw [take_snoc hx, newG_snoc, hlen]; exact g2⟩
   rw [swashref11_New_l1_eq]
   simp -implicitDefEqProofs (disch := omega) [hlt, i1, e2])
  (fun e H' ⟨s, o, he, g⟩ => by
   subst he
   rw [List.take_length] at g
   refine ⟨.exit 0, _, H', ?_, by simp, rfl, .int .i64 ids.length, s, o, rfl, g⟩
   rw [swashref11_New_l1_eq]
   simp -implicitDefEqProofs)
 obtain ⟨L, hf⟩ := (g.own 0 rfl).freeze encG_len (encG_still _) 6
 refine nrm_fz (v := s) (H' := H1) ?_ hf g.ext (Flat.Gls _).alive
 simp -implicitDefEqProofs (disch := omega) [swashref11_New, hr1, swashref11_New_l1k_x0]
end Go.Sw
end
section
set_option maxRecDepth 100000
set_option linter.unusedVariables false
namespace Go.Sw
noncomputable section
def swashlaw14_RearIdle_l1 (k : Nat) (call : Caller) : Env → Heap → Res (AExit × Env) := loopB (C k) call F.swashlaw14_RearIdle [1, 1, 1, 1, 1, 0, 1, 0, 0]
def swashlaw14_RearIdle_l1k (k : Nat) (call : Caller) : Kont Value := kBlock 0 (kSeq (pieceK (C k) call F.swashlaw14_RearIdle [1, 1, 1, 1, 1, 1]) (kDone Prog (resOf Prog F.swashlaw14_RearIdle)))
def swashlaw14_RearIdle_j1 (k : Nat) (call : Caller) (a1 a2 a7 a29 a30 : Value) (h : Heap) : Res (AExit × Env) :=
 kSeq (pieceK (C k) call F.swashlaw14_RearIdle [1, 1, 1, 1, 1, 0, 1, 0, 0, 1, 1, 1]) (kRound (ownOf (C k) F.swashlaw14_RearIdle [1, 1, 1, 1, 1, 0, 1, 0, 0])) .normal [(1, a1), (2, a2), (7, a7), (29, a29), (30, a30)] h
def swashlaw14_RearIdle (k : Nat) (call : Caller) (a0 a1 a2 : Value) (h : Heap) : Res Value :=
 (boxR a0 h).bind fun v1 h2 =>
 (call F.swashlaw14_speaks [] h2).bind fun v3 h4 =>
 (unR .not v3 h4).bind fun v5 h6 =>
 condV (some v5) (
 .ok (.bool false) h6)
 (
 (loadR Prog 26 v1 h6).bind fun v7 h8 =>
 (call F.swashlaw14_small [v7, a1] h8).bind fun v9 h10 =>
 (unR .not v9 h10).bind fun v11 h12 =>
 condV (some v11) (
 .ok (.bool true) h12)
 (
 (loadR Prog 26 v1 h12).bind fun v13 h14 =>
 (allocR Prog 26 h14).bind fun v15 h16 =>
 (storeR Prog 26 v15 v13 h16).bind fun _v17 h18 =>
 (buildSliceR Prog 24 0 [] h18).bind fun v19 h20 =>
 (fieldAddrR Prog 26 v1 2 h20).bind fun v21 h22 =>
 (loadR Prog 24 v21 h22).bind fun v23 h24 =>
 (builtinV Prog .append [24, 24] [v19, v23] h24).bind fun v25 h26 =>
 (fieldAddrR Prog 26 v15 2 h26).bind fun v27 h28 =>
 (storeR Prog 24 v27 v25 h28).bind fun _v29 h30 =>
 (fieldAddrR Prog 26 v15 2 h30).bind fun v31 h32 =>
 (loadR Prog 24 v31 h32).bind fun v33 h34 =>
 (builtinV Prog .len [24] [v33] h34).bind fun v35 h36 =>
 (loopN (swashlaw14_RearIdle_l1 k call) loopFuel [(1, a1), (2, a2), (7, v15), (29, v35), (30, (.int .i64 0))] h36).bind fun r37 h38 =>
 swashlaw14_RearIdle_l1k k call r37.1 r37.2 h38))
theorem swashlaw14_RearIdle_R (k : Nat) (a0 a1 a2 : Value) (h : Heap) : R (T k) F.swashlaw14_RearIdle [a0, a1, a2] h = nrm .gc h (swashlaw14_RearIdle k (R (T k)) a0 a1 a2 h) :=
 (R_body (t := T k) (T_scott k) (by kernel_rfl) (by kernel_rfl) _ _).trans (by kernel_rfl)
theorem swashlaw14_RearIdle_l1_eq (k : Nat) (call : Caller) (a1 a2 a7 a29 a30 : Value) (h : Heap) : swashlaw14_RearIdle_l1 k call [(1, a1), (2, a2), (7, a7), (29, a29), (30, a30)] h =
 (binR Prog .lss 3 a30 a29 h).bind fun v39 h40 =>
 condV (some v39) (
 condV (some a2) (
 (fieldAddrR Prog 26 a7 2 h40).bind fun v41 h42 =>
 (loadR Prog 24 v41 h42).bind fun v43 h44 =>
 (indexAddrR Prog 24 v43 a30 h44).bind fun v45 h46 =>
 (fieldAddrR Prog 31 v45 1 h46).bind fun v47 h48 =>
 (loadR Prog 3 v47 h48).bind fun v49 h50 =>
 (binR Prog .and 3 v49 (.int .i64 65520) h50).bind fun v51 h52 =>
 (indexAddrR Prog 24 v43 a30 h52).bind fun v53 h54 =>
 (fieldAddrR Prog 31 v53 1 h54).bind fun v55 h56 =>
 (storeR Prog 3 v55 v51 h56).bind fun _v57 h58 =>
 swashlaw14_RearIdle_j1 k call a1 a2 a7 a29 a30 h58)
 (
 (fieldAddrR Prog 26 a7 2 h40).bind fun v59 h60 =>
 (loadR Prog 24 v59 h60).bind fun v61 h62 =>
 (indexAddrR Prog 24 v61 a30 h62).bind fun v63 h64 =>
 (fieldAddrR Prog 31 v63 1 h64).bind fun v65 h66 =>
 (loadR Prog 3 v65 h66).bind fun v67 h68 =>
 (binR Prog .andNot 3 v67 (.int .i64 8192) h68).bind fun v69 h70 =>
 (indexAddrR Prog 24 v61 a30 h70).bind fun v71 h72 =>
 (fieldAddrR Prog 31 v71 1 h72).bind fun v73 h74 =>
 (storeR Prog 3 v73 v69 h74).bind fun _v75 h76 =>
 swashlaw14_RearIdle_j1 k call a1 a2 a7 a29 a30 h76))
 (
 .ok ((.exit 0), [(1, a1), (2, a2), (7, a7), (29, a29), (30, a30), (31, v39)]) h40) :=
 (loopB_eq _ _).trans (by kernel_rfl)
theorem swashlaw14_RearIdle_j1_eq (k : Nat) (call : Caller) (a1 a2 a7 a29 a30 : Value) (h : Heap) : swashlaw14_RearIdle_j1 k call a1 a2 a7 a29 a30 h =
 (binR Prog .add 3 a30 (.int .i64 1) h).bind fun v77 h78 =>
 .ok (.normal, [(1, a1), (2, a2), (7, a7), (29, a29), (30, v77)]) h78 := by kernel_rfl
theorem swashlaw14_RearIdle_l1k_x0 (k : Nat) (call : Caller) (a1 a2 a7 a29 a30 a31 : Value) (h : Heap) : swashlaw14_RearIdle_l1k k call (.exit 0) [(1, a1), (2, a2), (7, a7), (29, a29), (30, a30), (31, a31)] h =
 (loadR Prog 26 a7 h).bind fun v79 h80 =>
 (call F.swashlaw07_Write [v79, (.int .i64 0), (.int .i64 0)] h80).bind fun v81 h82 =>
 (call F.rear_Read [v81, (.int .i64 40)] h82).bind fun v83 h84 =>
 (extractR v83 0 h84).bind fun v85 h86 =>
 (extractR v83 1 h86).bind fun v87 h88 =>
 (call F.swashref07_Read [v81, (.int .i64 40), (.int .i64 0)] h88).bind fun v89 h90 =>
 (extractR v89 0 h90).bind fun v91 h92 =>
 (extractR v89 1 h92).bind fun v93 h94 =>
 (allocR Prog 41 h94).bind fun v95 h96 =>
 (storeR Prog 41 v95 v91 h96).bind fun _v97 h98 =>
 (binR Prog .eql 33 v85 (.pointer none) h98).bind fun v99 h100 =>
 ((bif wantVal v99 false then Res.ok v93 h100 else Res.ok undef h100)).bind fun v101 h102 =>
 ((bif wantVal v99 false then unR .not v101 h102 else Res.ok undef h102)).bind fun v103 h104 =>
 (condV (some v99) (Res.ok (.bool true) h104) (Res.ok v103 h104)).bind fun v105 h106 =>
 ((bif wantVal v105 false then fieldAddrR Prog 41 v95 5 h106 else Res.ok undef h106)).bind fun v107 h108 =>
 ((bif wantVal v105 false then loadR Prog 3 v107 h108 else Res.ok undef h108)).bind fun v109 h110 =>
 ((bif wantVal v105 false then fieldAddrR Prog 26 a7 2 h110 else Res.ok undef h110)).bind fun v111 h112 =>
 ((bif wantVal v105 false then loadR Prog 24 v111 h112 else Res.ok undef h112)).bind fun v113 h114 =>
 ((bif wantVal v105 false then builtinV Prog .len [24] [v113] h114 else Res.ok undef h114)).bind fun v115 h116 =>
 ((bif wantVal v105 false then binR Prog .gtr 3 v109 v115 h116 else Res.ok undef h116)).bind fun v117 h118 =>
 (condV (some v105) (Res.ok (.bool true) h118) (Res.ok v117 h118)).bind fun v119 h120 =>
 ((bif wantVal v119 false then fieldAddrR Prog 41 v95 4 h120 else Res.ok undef h120)).bind fun v121 h122 =>
 ((bif wantVal v119 false then loadR Prog 3 v121 h122 else Res.ok undef h122)).bind fun v123 h124 =>
 ((bif wantVal v119 false then fieldAddrR Prog 26 a7 1 h124 else Res.ok undef h124)).bind fun v125 h126 =>
 ((bif wantVal v119 false then loadR Prog 23 v125 h126 else Res.ok undef h126)).bind fun v127 h128 =>
 ((bif wantVal v119 false then builtinV Prog .len [23] [v127] h128 else Res.ok undef h128)).bind fun v129 h130 =>
 ((bif wantVal v119 false then binR Prog .gtr 3 v123 v129 h130 else Res.ok undef h130)).bind fun v131 h132 =>
 (condV (some v119) (Res.ok (.bool true) h132) (Res.ok v131 h132)).bind fun v133 h134 =>
 condV (some v133) (
 (binR Prog .eql 33 v85 (.pointer none) h134).bind fun v135 h136 =>
 ((bif wantVal v135 false then Res.ok v93 h136 else Res.ok undef h136)).bind fun v137 h138 =>
 (condV (some v135) (Res.ok (.bool true) h138) (Res.ok v137 h138)).bind fun v139 h140 =>
 .ok v139 h140)
 (
 (call F.line_New [a1] h134).bind fun v141 h142 =>
 (call F.rear_Table_Run [v85, v141] h142).bind fun v143 h144 =>
 (call F.line_Line_Glyphs [v141] h144).bind fun v145 h146 =>
 (call F.swashref11_New [a1] h146).bind fun v147 h148 =>
 (call F.swashref11_Same [v145, v147] h148).bind fun v149 h150 =>
 .ok v149 h150) := by kernel_rfl
def swashlaw14_RearTakes (k : Nat) (call : Caller) (a0 a1 : Value) (h : Heap) : Res Value :=
 (boxR a0 h).bind fun v1 h2 =>
 (call F.swashlaw14_speaks [] h2).bind fun v3 h4 =>
 (unR .not v3 h4).bind fun v5 h6 =>
 condV (some v5) (
 .ok (.bool false) h6)
 (
 (loadR Prog 22 v1 h6).bind fun v7 h8 =>
 (builtinV Prog .len [22] [v7] h8).bind fun v9 h10 =>
 (binR Prog .gtr 3 v9 (.int .i64 800) h10).bind fun v11 h12 =>
 ((bif wantVal v11 false then Res.ok a1 h12 else Res.ok undef h12)).bind fun v13 h14 =>
 ((bif wantVal v11 false then builtinV Prog .len [27] [v13] h14 else Res.ok undef h14)).bind fun v15 h16 =>
 ((bif wantVal v11 false then binR Prog .gtr 3 v15 (.int .i64 40) h16 else Res.ok undef h16)).bind fun v17 h18 =>
 (condV (some v11) (Res.ok (.bool true) h18) (Res.ok v17 h18)).bind fun v19 h20 =>
 condV (some v19) (
 .ok (.bool true) h20)
 (
 (allocR Prog 33 h20).bind fun v21 h22 =>
 (call F.view_Try [(.func (.func F.swashlaw14_RearTakes_in1) #[] #[v1, v21])] h22).bind fun v23 h24 =>
 (loadR Prog 22 v1 h24).bind fun v25 h26 =>
 (call F.rear_Read [v25, (.int .i64 40)] h26).bind fun v27 h28 =>
 (extractR v27 0 h28).bind fun v29 h30 =>
 (extractR v27 1 h30).bind fun v31 h32 =>
 (binR Prog .eql 34 v31 (.int .i64 0) h32).bind fun v33 h34 =>
 (binR Prog .neq 4 v23 v33 h34).bind fun v35 h36 =>
 ((bif wantVal v35 false then Res.ok v23 h36 else Res.ok undef h36)).bind fun v37 h38 =>
 ((bif wantVal v35 false then loadR Prog 33 v21 h38 else Res.ok undef h38)).bind fun v39 h40 =>
 ((bif wantVal v35 false then binR Prog .neq 33 v39 (.pointer none) h40 else Res.ok undef h40)).bind fun v41 h42 =>
 ((bif wantVal v35 false then binR Prog .neq 4 v37 v41 h42 else Res.ok undef h42)).bind fun v43 h44 =>
 (condV (some v35) (Res.ok (.bool true) h44) (Res.ok v43 h44)).bind fun v45 h46 =>
 ((bif wantVal v45 false then Res.ok v23 h46 else Res.ok undef h46)).bind fun v47 h48 =>
 ((bif wantVal v45 false then Res.ok v29 h48 else Res.ok undef h48)).bind fun v49 h50 =>
 ((bif wantVal v45 false then binR Prog .neq 33 v49 (.pointer none) h50 else Res.ok undef h50)).bind fun v51 h52 =>
 ((bif wantVal v45 false then binR Prog .neq 4 v47 v51 h52 else Res.ok undef h52)).bind fun v53 h54 =>
 (condV (some v45) (Res.ok (.bool true) h54) (Res.ok v53 h54)).bind fun v55 h56 =>
 condV (some v55) (
 .ok (.bool false) h56)
 (
 (unR .not v23 h56).bind fun v57 h58 =>
 condV (some v57) (
 .ok (.bool true) h58)
 (
 (call F.line_New [a1] h58).bind fun v59 h60 =>
 (call F.line_New [a1] h60).bind fun v61 h62 =>
 (loadR Prog 33 v21 h62).bind fun v63 h64 =>
 (call F.rear_Table_Run [v63, v59] h64).bind fun v65 h66 =>
 (call F.rear_Table_Run [v29, v61] h66).bind fun v67 h68 =>
 (binR Prog .eql 34 v65 v67 h68).bind fun v69 h70 =>
 ((bif wantVal v69 true then Res.ok v59 h70 else Res.ok undef h70)).bind fun v71 h72 =>
 ((bif wantVal v69 true then call F.line_Line_Glyphs [v71] h72 else Res.ok undef h72)).bind fun v73 h74 =>
 ((bif wantVal v69 true then Res.ok v61 h74 else Res.ok undef h74)).bind fun v75 h76 =>
 ((bif wantVal v69 true then call F.line_Line_Glyphs [v75] h76 else Res.ok undef h76)).bind fun v77 h78 =>
 ((bif wantVal v69 true then call F.swashref11_Same [v73, v77] h78 else Res.ok undef h78)).bind fun v79 h80 =>
 (condV (some v69) (Res.ok v79 h80) (Res.ok (.bool false) h80)).bind fun v81 h82 =>
 .ok v81 h82))))
theorem swashlaw14_RearTakes_R (k : Nat) (a0 a1 : Value) (h : Heap) : R (T k) F.swashlaw14_RearTakes [a0, a1] h = nrm .gc h (swashlaw14_RearTakes k (R (T k)) a0 a1 h) :=
 (R_body (t := T k) (T_scott k) (by kernel_rfl) (by kernel_rfl) _ _).trans (by kernel_rfl)
def swashlaw14_small (k : Nat) (call : Caller) (a0 a1 : Value) (h : Heap) : Res Value :=
 (boxR a0 h).bind fun v1 h2 =>
 (fieldAddrR Prog 26 v1 0 h2).bind fun v3 h4 =>
 (loadR Prog 22 v3 h4).bind fun v5 h6 =>
 (builtinV Prog .len [22] [v5] h6).bind fun v7 h8 =>
 (binR Prog .leq 3 v7 (.int .i64 40) h8).bind fun v9 h10 =>
 ((bif wantVal v9 true then fieldAddrR Prog 26 v1 1 h10 else Res.ok undef h10)).bind fun v11 h12 =>
 ((bif wantVal v9 true then loadR Prog 23 v11 h12 else Res.ok undef h12)).bind fun v13 h14 =>
 ((bif wantVal v9 true then builtinV Prog .len [23] [v13] h14 else Res.ok undef h14)).bind fun v15 h16 =>
 ((bif wantVal v9 true then binR Prog .leq 3 v15 (.int .i64 20) h16 else Res.ok undef h16)).bind fun v17 h18 =>
 (condV (some v9) (Res.ok v17 h18) (Res.ok (.bool false) h18)).bind fun v19 h20 =>
 ((bif wantVal v19 true then fieldAddrR Prog 26 v1 2 h20 else Res.ok undef h20)).bind fun v21 h22 =>
 ((bif wantVal v19 true then loadR Prog 24 v21 h22 else Res.ok undef h22)).bind fun v23 h24 =>
 ((bif wantVal v19 true then builtinV Prog .len [24] [v23] h24 else Res.ok undef h24)).bind fun v25 h26 =>
 ((bif wantVal v19 true then binR Prog .leq 3 v25 (.int .i64 40) h26 else Res.ok undef h26)).bind fun v27 h28 =>
 (condV (some v19) (Res.ok v27 h28) (Res.ok (.bool false) h28)).bind fun v29 h30 =>
 ((bif wantVal v29 true then Res.ok a1 h30 else Res.ok undef h30)).bind fun v31 h32 =>
 ((bif wantVal v29 true then builtinV Prog .len [27] [v31] h32 else Res.ok undef h32)).bind fun v33 h34 =>
 ((bif wantVal v29 true then binR Prog .leq 3 v33 (.int .i64 60) h34 else Res.ok undef h34)).bind fun v35 h36 =>
 (condV (some v29) (Res.ok v35 h36) (Res.ok (.bool false) h36)).bind fun v37 h38 =>
 .ok v37 h38
theorem swashlaw14_small_R (k : Nat) (a0 a1 : Value) (h : Heap) : R (T k) F.swashlaw14_small [a0, a1] h = nrm .gc h (swashlaw14_small k (R (T k)) a0 a1 h) :=
 (R_body (t := T k) (T_scott k) (by kernel_rfl) (by kernel_rfl) _ _).trans (by kernel_rfl)
def swashlaw14_RearTakes_in1 (k : Nat) (call : Caller) (a0 a1 : Value) (h : Heap) : Res Value :=
 (loadR Prog 22 a0 h).bind fun v1 h2 =>
 (call F.view_Of [v1] h2).bind fun v3 h4 =>
 (call F.rear_Take [v3, (.int .i64 40)] h4).bind fun v5 h6 =>
 (storeR Prog 33 a1 v5 h6).bind fun _v7 h8 =>
 .ok (.tuple #[]) h8
theorem swashlaw14_RearTakes_in1_R (k : Nat) (a0 a1 : Value) (h : Heap) : R (T k) F.swashlaw14_RearTakes_in1 [a0, a1] h = nrm .no h (swashlaw14_RearTakes_in1 k (R (T k)) a0 a1 h) :=
 (R_body (t := T k) (T_scott k) (by kernel_rfl) (by kernel_rfl) _ _).trans (by kernel_rfl)
end
end Go.Sw
end
section
namespace Go.Sw
open Go.RowKit
theorem speaks14_run (k : Nat) (hk : k % 1000000 = F.swashlaw14_speaks) (H : Heap) : R (T k) F.swashlaw14_speaks [] H = .ok (.bool true) H :=
 (R_sp (t := T k) (T_scott k) (s := constSp (.bool true)) (by unfold T C; dsimp only; rw [hk]; kernel_rfl) [] H).trans (nrm_gc (Pure.of rfl) (.bool _))
theorem small14_run (k : Nat) (p : Plan) (ids : List Int) (H : Heap) : R (T k) F.swashlaw14_small [planV p, lv encI ids] H = .ok (.bool (decide (p.cls.length ≤ 40 ∧ p.rows.length ≤ 20 ∧ p.ents.length ≤ 40 ∧ ids.length ≤ 60))) H := by
 rw [swashlaw14_small_R]
 refine nrm_gc ⟨_, ?_, (Ext.refl H).push ⟨planCells p, 1, false⟩⟩ (.bool _)
 by_cases h1 : p.cls.length ≤ 40
 ·have h1' : (p.cls.length : Int) ≤ 40 := by omega
  by_cases h2 : p.rows.length ≤ 20
  ·have h2' : (p.rows.length : Int) ≤ 20 := by omega
   by_cases h3 : p.ents.length ≤ 40
   ·have h3' : (p.ents.length : Int) ≤ 40 := by omega
    by_cases h4 : ids.length ≤ 60
    ·have h4' : (ids.length : Int) ≤ 60 := by omega
     simp -implicitDefEqProofs [swashlaw14_small, h1, h2, h3, h4, h1', h2', h3', h4']
    ·have h4' : ¬ (ids.length : Int) ≤ 60 := by omega
     simp -implicitDefEqProofs [swashlaw14_small, h1, h2, h3, h4, h1', h2', h3', h4']
   ·have h3' : ¬ (p.ents.length : Int) ≤ 40 := by omega
    simp -implicitDefEqProofs [swashlaw14_small, h1, h2, h3, h1', h2', h3']
  ·have h2' : ¬ (p.rows.length : Int) ≤ 20 := by omega
   simp -implicitDefEqProofs [swashlaw14_small, h1, h2, h1', h2']
 ·have h1' : ¬ (p.cls.length : Int) ≤ 40 := by omega
  simp -implicitDefEqProofs [swashlaw14_small, h1, h1']
theorem rearTake_run (k : Nat) (b : List Int) (hb : Byt b) (g : Int) (hg : 1 ≤ g ∧ g ≤ 65535) (hl : b.length < 2 ^ 31) (H : Heap) : R (T k) F.rear_Take [vwB b, .int .i64 g] H = orF (machS b g 0) rearV H := by
 rw [rear_Take_R]
 have hx : Ext H (H.push ⟨[lv encB b], 1, false⟩) := (Ext.refl H).push _
 have hst := stateTake_run k (Sl.lv (H.push ⟨[lv encB b], 1, false⟩) 1 b) hb g 0 hg.1 hg.2 (.inl rfl) hl
 have al : ∀ m, Alive H (rearV m) := fun m => (rearP_flat (some m)).alive
 cases h : machS b g 0 with
 | none =>
  rw [h] at hst
  refine nrm_throw ⟨H.push ⟨[lv encB b], 1, false⟩, ?_, hx⟩ Flat.fail.alive
  unfold orF at hst
  simp -implicitDefEqProofs (disch := omega) [rear_Take, hst]
 | some m =>
  rw [h] at hst
  unfold orF at hst ⊢
  have hx2 : Ext H ((H.push ⟨[lv encB b], 1, false⟩).push ⟨[machV m], 1, false⟩) := hx.push _
  have hft : fzV H.n ((H.push ⟨[lv encB b], 1, false⟩).push ⟨[machV m], 1, false⟩) fzDepth (ptrV (H.n + 1)) = some (rearV m, [H.n + 1]) := by
   unfold ptrV fzDepth fzV
   dsimp only
   rw [show Nat.blt (H.n + 1) H.n = false from by
    cases hb : Nat.blt (H.n + 1) H.n with
    | false => rfl
    | true => exact absurd (Nat.le_of_ble_eq_true hb) (by omega), get_push_eq _ _ _ (by simp)]
   rfl
  refine nrm_fz (v := ptrV (H.n + 1)) (H' := (H.push ⟨[lv encB b], 1, false⟩).push ⟨[machV m], 1, false⟩) ?_ hft hx2 (al m)
  simp -implicitDefEqProofs (disch := omega) [rear_Take, hst]
theorem RearTakes_in1 (k : Nat) {H : Heap} (b : List Int) (hb : Byt b) (hl : b.length < 2 ^ 31) (p2 p3 : Nat) (old : Value)
  (h2 : H.get p2 = some ⟨[lv encB b], 1, false⟩) (h3 : H.get p3 = some ⟨[old], 1, false⟩) :
  R (T k) F.swashlaw14_RearTakes_in1 [ptrV p2, ptrV p3] H = match machS b 40 0 with
   | some x => .ok (.tuple #[]) (H.set p3 (some ⟨[rearV x], 1, false⟩))
   | none => .panic failV H := by
 rw [swashlaw14_RearTakes_in1_R]
 have ht := rearTake_run k b hb 40 (by omega) hl H
 have ho := fun H => Of_lv k b H
 cases h : machS b 40 0 with
 | none =>
  rw [h] at ht
  refine nrm_throw ⟨H, ?_, Ext.refl H⟩ Flat.fail.alive
  simp -implicitDefEqProofs (disch := omega) [swashlaw14_RearTakes_in1, h2, ho, ht]
 | some x =>
  rw [h] at ht
  simp -implicitDefEqProofs (disch := omega) [swashlaw14_RearTakes_in1, h2, h3, ho, ht]
set_option maxHeartbeats 1000000 in
theorem RearTakes_run (b : List Int) (hb : Byt b) (ids : List Int) : R (T F.swashlaw14_speaks) F.swashlaw14_RearTakes [lv encB b, lv encI ids] Heap.empty = .ok (.bool true) Heap.empty := by
 generalize hk : F.swashlaw14_speaks = k
 have hs := speaks14_run k (by subst hk; rfl)
 have hk6 : k < 1000000 := by subst hk; decide
 clear hk
 rw [swashlaw14_RearTakes_R]
 generalize Heap.empty = H
 have hx1 : Ext H (H.push ⟨[lv encB b], 1, false⟩) := (Ext.refl H).push _
 by_cases hl : b.length > 800
 ·have hl' : (b.length : Int) > 800 := by omega
  refine nrm_gc ⟨_, ?_, hx1⟩ (.bool _)
  simp -implicitDefEqProofs (disch := omega) [swashlaw14_RearTakes, hs, hl']
 have hl' : ¬ (b.length : Int) > 800 := by omega
 by_cases hi : ids.length > 40
 ·have hi' : (ids.length : Int) > 40 := by omega
  refine nrm_gc ⟨_, ?_, hx1⟩ (.bool _)
  simp -implicitDefEqProofs (disch := omega) [swashlaw14_RearTakes, hs, hl', hi']
 have hi' : ¬ (ids.length : Int) > 40 := by omega
 have hin := RearTakes_in1 k (H := (H.push ⟨[lv encB b], 1, false⟩).push ⟨[.pointer none], 1, false⟩) b hb (by omega) H.n (H.n + 1) (.pointer none) (by simp) (by simp)
 have hrd := fun H' => rearRead_run k b hb 40 (by omega) (by omega) H'
 cases h : machS b 40 0 with
 | none =>
  rw [h] at hin hrd
  simp only [rearP, Option.isSome_none, Bool.false_eq_true, if_false] at hrd
  have ht := Try_no k F.swashlaw14_RearTakes_in1 #[ptrV H.n, ptrV (H.n + 1)] hin
  refine nrm_gc ⟨_, ?_, hx1.push ⟨[.pointer none], 1, false⟩⟩ (.bool _)
  simp -implicitDefEqProofs (disch := omega) [swashlaw14_RearTakes, hs, hl', hi', ht, hrd]
 | some t =>
  rw [h] at hin hrd
  simp only [rearP, Option.isSome_some, if_true] at hrd
  have ht := Try_ok k F.swashlaw14_RearTakes_in1 #[ptrV H.n, ptrV (H.n + 1)] hin
  simp at ht
  have hok := machS_ok hb (by omega) (by omega) (by omega) h
  have g := ((Star.nil H).push ⟨[lv encB b], 1, false⟩).push ⟨[rearV t], 1, false⟩
  simp only [List.nil_append, List.cons_append, hn_push] at g
  obtain ⟨c1, o1, H1, e1, g⟩ := lineNew_star k g ids (by omega)
  simp only [List.nil_append, List.cons_append] at g
  obtain ⟨c2, o2, H2, e2, g⟩ := lineNew_star k g ids (by omega)
  simp only [List.nil_append, List.cons_append] at g
  have b2 := g.get 1 rfl
  have v2 := veq_rear t
  obtain ⟨H3, e3, g, hlen⟩ := rearRun_star k t hok g 2 rfl (by simp; omega)
  simp only [List.set_cons_zero, List.set_cons_succ] at g
  obtain ⟨H4, e4, g, _⟩ := rearRun_star k t hok g 3 rfl (by simp; omega)
  simp only [List.set_cons_zero, List.set_cons_succ] at g
  rw [newG_len] at hlen
  generalize runR t (newG ids) = r at e3 e4 g hlen
  have gl1 := lineGlyphs_run k hk6 g 2 rfl (by omega)
  have gl2 := lineGlyphs_run k hk6 g 3 rfl (by omega)
  have hsame := Same_run k (Rd.lv encG_len H4 r.1) (Rd.lv encG_len H4 r.1) (by omega) (by omega)
  refine nrm_gc ⟨H4, ?_, g.ext⟩ (.bool _)
  simp -implicitDefEqProofs (disch := omega) [swashlaw14_RearTakes, hs, hl', hi', ht, hrd, e1, e2, b2, e3, e4, gl1, gl2, hsame]
theorem RearTakes_args (vs : List Value) (h : ArgsLay [.one (.slice [.int .u8]), .one (.slice [.int .i64])] vs) : ∃ H', R (T F.swashlaw14_speaks) F.swashlaw14_RearTakes vs Heap.empty = .ok (.bool true) H' := by
 obtain ⟨v1, _, rfl, h1, h⟩ := h.head
 obtain ⟨v2, _, rfl, h2, h⟩ := h.head
 obtain rfl := h.done
 obtain ⟨b, rfl, hb⟩ := arg_B h1
 obtain ⟨ids, rfl, _⟩ := arg_I h2
 exact ⟨_, RearTakes_run b hb ids⟩
def setI (f : Bool) (e : En) : En := ⟨e.next, if f then andI e.flags 65520 else andN e.flags 8192, e.a, e.b⟩
set_option maxHeartbeats 2000000 in
theorem RearIdle_run (p : Plan) (hp : p.ok) (ids : List Int) (f : Bool) : R (T F.swashlaw14_speaks) F.swashlaw14_RearIdle [planV p, lv encI ids, .bool f] Heap.empty = .ok (.bool true) Heap.empty := by
 generalize hk : F.swashlaw14_speaks = k
 have hs := speaks14_run k (by subst hk; rfl)
 have hW : ownW k = .fz := by subst hk; rfl
 have hk6 : k < 1000000 := by subst hk; decide
 clear hk
 rw [swashlaw14_RearIdle_R]
 generalize Heap.empty = H
 have hx1 : Ext H (H.push ⟨planCells p, 1, false⟩) := (Ext.refl H).push _
 have hsm := fun H => small14_run k p ids H
 by_cases c1 : p.cls.length ≤ 40 ∧ p.rows.length ≤ 20 ∧ p.ents.length ≤ 40 ∧ ids.length ≤ 60
 rotate_left
 ·refine nrm_gc ⟨_, ?_, hx1⟩ (.bool _)
  rw [decide_eq_false c1] at hsm
  simp -implicitDefEqProofs (disch := omega) [swashlaw14_RearIdle, hs, hsm]
 rw [decide_eq_true c1] at hsm
 have g := (Star.nil H).push ⟨planCells p, 1, false⟩
 have g := g.push ⟨planCells p, 1, false⟩
 have g := g.more_row (Ext.refl _) (OwnO.bare encEn _ 4) (fun b hb => by cases hb)
 simp only [List.nil_append, List.cons_append, hn_push] at g
 obtain ⟨s1, o1, H1, e1, g⟩ := g.append (bytes := 32) 2 encEn_len rfl (b := lv encEn p.ents) (l2 := p.ents) rfl (lv_first encEn_len p.ents _) (by simp; omega) (by decide)
 simp only [List.nil_append, List.cons_append, List.set_cons_zero, List.set_cons_succ] at g
 have b1 := g.get 0 rfl
 obtain ⟨H2, e2, g, _⟩ := g.stCell 1 rfl 2 (g.row 2 rfl).storable (g.row 2 rfl).cells (by simp)
 simp only [List.set_cons_zero, List.set_cons_succ] at g
 have b2 := g.get 1 rfl
 have hln : ∀ H', lnS s1 H' = .ok (.int .i64 p.ents.length) H' := (g.row 2 rfl).len
 obtain ⟨x, e', H3, hr3, rfl, rfl, g⟩ := loop_up (body := swashlaw14_RearIdle_l1 k (R (T k))) p.ents.length
  (fun j e H' => e = [(1, lv encI ids), (2, .bool f), (7, ptrV (H.n + 1)), (29, .int .i64 p.ents.length), (30, .int .i64 j)] ∧ Star H H' [itBlk H.n ⟨planCells p, 1, false⟩, itBlk (H.n + 1) ⟨[lv encB p.cls, lv encBR p.rows, s1, .int .u8 p.wide], 1, false⟩, itRow o1 4 s1 encEn ((p.ents.take j).map (setI f) ++ p.ents.drop j)])
  (fun x e H' => x = .exit 0 ∧ e = [(1, lv encI ids), (2, .bool f), (7, ptrV (H.n + 1)), (29, .int .i64 p.ents.length), (30, .int .i64 p.ents.length), (31, .bool false)] ∧ Star H H' [itBlk H.n ⟨planCells p, 1, false⟩, itBlk (H.n + 1) ⟨[lv encB p.cls, lv encBR p.rows, s1, .int .u8 p.wide], 1, false⟩, itRow o1 4 s1 encEn (p.ents.map (setI f))])
  (e0 := [(1, lv encI ids), (2, .bool f), (7, ptrV (H.n + 1)), (29, .int .i64 p.ents.length), (30, .int .i64 0)]) (H0 := H2) ⟨rfl, by simpa using g⟩ (by omega)
  (fun j e H' hj ⟨he, g⟩ => by
   subst he
   have hlt : (j : Int) < p.ents.length := by omega
   obtain ⟨y, hy⟩ : ∃ y, p.ents[j]? = some y := ⟨_, List.getElem?_eq_getElem hj⟩
   have hyj := map_at (f := setI f) hy
   have bq := g.get 1 rfl
   obtain ⟨c, hc, hgc, i2⟩ := g.ix 2 rfl .i64 j (by simp; omega)
   subst hc
   have l1 := ld1_row encEn_len hgc (i := j) (c := 1) hyj (by decide) rfl
   have an1 := fun H => bin_andI Prog 3 H y.flags 65520
   have an2 := fun H => bin_andN Prog 3 H y.flags 8192
   obtain ⟨H5, e5, g5, _⟩ := g.stRow 2 rfl encEn_len (j := j) (c := 1) (n := 1) (setI f y) (v := .int .i64 (setI f y).flags) hyj rfl rfl (by decide) rfl
   rw [map_step hy] at g5
   simp only [List.set_cons_zero, List.set_cons_succ] at g5
   refine .inl ⟨_, H5, ?_, rfl, g5⟩
   rw [swashlaw14_RearIdle_l1_eq]
   cases f with
   | true =>
    simp only [setI, if_true] at e5
    simp -implicitDefEqProofs (disch := omega) [-stR_ptr, -ld1_ptr, ld1_ptr (H.n + 1) 2, hlt, bq, i2, l1, an1, e5, swashlaw14_RearIdle_j1_eq]
   | false =>
    simp only [setI, Bool.false_eq_true, if_false] at e5
    simp -implicitDefEqProofs (disch := omega) [-stR_ptr, -ld1_ptr, ld1_ptr (H.n + 1) 2, hlt, bq, i2, l1, an2, e5, swashlaw14_RearIdle_j1_eq])
  (fun e H' ⟨he, g⟩ => by
   subst he
   rw [List.take_length, List.drop_length, List.append_nil] at g
   refine ⟨.exit 0, _, H', ?_, by simp, rfl, rfl, g⟩
   rw [swashlaw14_RearIdle_l1_eq]
   simp -implicitDefEqProofs)
 obtain ⟨p2, hp2⟩ : ∃ p2 : Plan, p2 = ⟨p.cls, p.rows, p.ents.map (setI f), p.wide⟩ := ⟨_, rfl⟩
 have z1 : p2.cls = p.cls := by rw [hp2]
 have z2 : p2.rows = p.rows := by rw [hp2]
 have z3 : p2.ents = p.ents.map (setI f) := by rw [hp2]
 have z4 : p2.wide = p.wide := by rw [hp2]
 have z5 : p2.ok := by rw [hp2]; exact hp
 have z6 : p2.ents.length = p.ents.length := by rw [z3]; simp
 have hrow : Sl H3 4 s1 encEn p2.ents := by rw [z3]; exact (g.row 2 rfl).sl encEn_len
 have b3 := g.get 1 rfl
 have hw : R (T k) F.swashlaw07_Write [.agg #[lv encB p.cls, lv encBR p.rows, s1, .int .u8 p.wide], .int .i64 0, .int .i64 0] H3 = .ok (lv encB (planRoom p2 0 (List.replicate 0 0))) H3 := by
  have := Write_any k hW p2 z5 0 (by omega) 0 (by omega) (by rw [z1]; omega) (by rw [z2]; omega) (by omega) hrow
  rw [planBytes_room, z1, z2, z4] at this
  exact this
 have hcb : Byt (planRoom p2 0 (List.replicate 0 0)) := planRoom_byt z5 0 (rep_byt 0)
 have hcl := planRoom_len z5 0 (rm := List.replicate 0 0) (by simp) (by rw [z1]; omega) (by rw [z2]; omega) (by omega)
 have hent := fun (m : Mach) (h : machS (planRoom p2 0 (List.replicate 0 0)) 40 0 = some m) hn e he => plan_entry (p := p2) z5 (w := 0) (.inl rfl) (rm := List.replicate 0 0) (more := []) (by simp) (by rw [z1]; omega) (by rw [z2]; omega) (g := 40) (m := m) (by rw [List.append_nil]; exact h) hn (e := e) he
 generalize planRoom p2 0 (List.replicate 0 0) = b at hw hcb hcl hent
 have hrd := fun H' => rearRead_run k b hcb 40 (by omega) (by omega) H'
 have hrr := fun H' => ref7Read_run k b hcb 40 0 (by omega) (by omega) (by omega) H'
 unfold refMachS rmO at hrr
 have hnn : ¬ H.n + 1 = H3.n := by have := Heap.get_lt b3; omega
 cases h : machS b 40 0 with
 | none =>
  rw [h] at hrd hrr
  simp only [rearP, Option.isSome_none, Bool.false_eq_true, if_false] at hrd
  simp [machP] at hrr
  refine nrm_gc ⟨_, ?_, g.ext.push ⟨rmCells [] 0 0 0 0 0 0 [] [], 1, false⟩⟩ (.bool _)
  simp -implicitDefEqProofs (disch := omega) [-stR_ptr, stR_ptr 4 (H.n + 1) 0, stR_ptr 9 H3.n 0, swashlaw14_RearIdle, hs, hsm, e1, b1, e2, b2, hln, hr3, swashlaw14_RearIdle_l1k_x0, b3, hw, hrd, hrr]
 | some m =>
  rw [h] at hrd hrr
  simp only [rearP, Option.isSome_some, if_true] at hrd
  simp [machP] at hrr
  have hok := machS_ok hcb (by omega) (by omega) (by omega) h
  have hrn : (rmOf b 40 0 m).n = m.ents.length := rfl
  generalize rmOf b 40 0 m = rm at hrr hrn
  have gP := g.push ⟨rmCells rm.b rm.cl rm.rowsAt rm.entsAt rm.states rm.n rm.words rm.tb rm.parts, 1, false⟩
  simp only [List.cons_append, List.nil_append] at gP
  have b4 := gP.get 1 rfl
  by_cases d1 : rm.n > p.ents.length
  ·refine nrm_gc ⟨_, ?_, gP.ext⟩ (.bool _)
   simp -implicitDefEqProofs (disch := omega) [-stR_ptr, stR_ptr 4 (H.n + 1) 0, stR_ptr 9 H3.n 0, swashlaw14_RearIdle, hs, hsm, e1, b1, e2, b2, hln, hr3, swashlaw14_RearIdle_l1k_x0, b3, hw, hrd, hrr, b4, hnn, d1]
  by_cases d2 : rm.states > p.rows.length
  ·refine nrm_gc ⟨_, ?_, gP.ext⟩ (.bool _)
   simp -implicitDefEqProofs (disch := omega) [-stR_ptr, stR_ptr 4 (H.n + 1) 0, stR_ptr 9 H3.n 0, swashlaw14_RearIdle, hs, hsm, e1, b1, e2, b2, hln, hr3, swashlaw14_RearIdle_l1k_x0, b3, hw, hrd, hrr, b4, hnn, d1, d2]
  have hsame : (runR m (newG ids)).1 = newG ids := by
   refine runR_idle hok ?_ _
   have hq := hent m h (by omega)
   cases f with
   | true =>
    refine .inl fun e he => ?_
    obtain ⟨q, hq, rfl⟩ := hq e he
    rw [z3] at hq
    obtain ⟨y, _, rfl⟩ := List.mem_map.1 hq
    exact andI_low y.flags
   | false =>
    refine .inr fun e he => ?_
    obtain ⟨q, hq, rfl⟩ := hq e he
    rw [z3] at hq
    obtain ⟨y, _, rfl⟩ := List.mem_map.1 hq
    exact andN_bit y.flags 13 (by omega) 8192 rfl
  obtain ⟨c, o, H5, e5, g⟩ := lineNew_star k gP ids (by omega)
  simp only [List.nil_append, List.cons_append] at g
  obtain ⟨H6, e6, g, hlen⟩ := rearRun_star k m hok g 4 rfl (by simp; omega)
  simp only [List.set_cons_zero, List.set_cons_succ] at g
  rw [hsame] at g
  generalize (runR m (newG ids)).2 = w at e6
  have gl := lineGlyphs_run k hk6 g 4 rfl (by rw [newG_len]; omega)
  have hnew := fun H' => refNew_run k ids (by omega) H'
  have hsm2 := fun H' => Same_run k (Rd.lv encG_len H' (newG ids)) (Rd.lv encG_len H' (newG ids)) (by rw [newG_len]; omega) (by rw [newG_len]; omega)
  refine nrm_gc ⟨H6, ?_, g.ext⟩ (.bool _)
  simp -implicitDefEqProofs (disch := omega) [-stR_ptr, stR_ptr 4 (H.n + 1) 0, stR_ptr 9 H3.n 0, swashlaw14_RearIdle, hs, hsm, e1, b1, e2, b2, hln, hr3, swashlaw14_RearIdle_l1k_x0, b3, hw, hrd, hrr, b4, hnn, d1, d2, e5, e6, gl, hnew, hsm2]
theorem RearIdle_args (vs : List Value) (h : ArgsLay [planSh, .one (.slice [.int .i64]), .one .bool] vs) : ∃ H', R (T F.swashlaw14_speaks) F.swashlaw14_RearIdle vs Heap.empty = .ok (.bool true) H' := by
 obtain ⟨v1, _, rfl, h1, h⟩ := h.head
 obtain ⟨v2, _, rfl, h2, h⟩ := h.head
 obtain ⟨v3, _, rfl, h3, h⟩ := h.head
 obtain rfl := h.done
 obtain ⟨p, rfl, hp⟩ := arg_plan h1
 obtain ⟨ids, rfl, _⟩ := arg_I h2
 obtain ⟨f, rfl⟩ := arg_b h3
 exact ⟨_, RearIdle_run p hp ids f⟩
end Go.Sw
end
section
namespace Go.Sw
open Go.RowKit
theorem names_ok : NamesOk Prog := NamesOk.of (by kernel_rfl)
theorem mixed_ok : Prog.follows .mixedOrders = true := Checked.mixed Go.Proofs.Try.checked
theorem laid_ok : laidOutB Prog = true := by kernel_rfl
theorem cloneP_is : SpIs Prog F.slices_Clone_of_api_Place_api_Place fun _ args H => cloneV 3 12 args H :=
 clone_is (c := { P := Prog, kp := kpS, sp := fun _ => none }) names_ok mixed_ok (t := 70) (e := 91) (by kernel_rfl) fun call a H => (slices_Clone_of_api_Place_api_Place_body 0 _ call a H).trans (by
  unfold slices_Clone_of_api_Place_api_Place cloneF
  simp only [be_70_0, ap_70, beR_bare])
theorem cloneG_is : SpIs Prog F.slices_Clone_of_api_Glyph_api_Glyph fun _ args H => cloneV 2 16 args H :=
 clone_is (c := { P := Prog, kp := kpS, sp := fun _ => none }) names_ok mixed_ok (t := 48) (e := 115) (by kernel_rfl) fun call a H => (slices_Clone_of_api_Glyph_api_Glyph_body 0 _ call a H).trans (by
  unfold slices_Clone_of_api_Glyph_api_Glyph cloneF
  simp only [be_48_0, ap_48, beR_bare])
theorem cloneR_is : SpIs Prog F.slices_Clone_of_sfnt_Part_sfnt_Part fun _ args H => cloneV 2 40 args H :=
 clone_is (c := { P := Prog, kp := kpS, sp := fun _ => none }) names_ok mixed_ok (t := 167) (e := 165) (by kernel_rfl) fun call a H => (slices_Clone_of_sfnt_Part_sfnt_Part_body 0 _ call a H).trans (by
  unfold slices_Clone_of_sfnt_Part_sfnt_Part cloneF
  simp only [be_167_0, ap_167, beR_bare])
theorem more_is (f : FuncId) (s : Sp) (h : moreS f = some s) : SpIs Prog f s := by
 unfold moreS at h
 cases h0 : Nat.beq f 35 with
 | true => have := Nat.eq_of_beq_eq_true h0; subst this; rw [h0, cond_true] at h; injection h with h; subst h; exact try_is
 | false =>
 rw [h0, cond_false] at h
 cases h1 : Nat.beq f 104 with
 | true => have := Nat.eq_of_beq_eq_true h1; subst this; rw [h1, cond_true] at h; injection h with h; subst h; exact cloneG_is
 | false =>
 rw [h1, cond_false] at h
 cases h2 : Nat.beq f 118 with
 | true => have := Nat.eq_of_beq_eq_true h2; subst this; rw [h2, cond_true] at h; injection h with h; subst h; exact cloneP_is
 | false =>
 rw [h2, cond_false] at h
 cases h3 : Nat.beq f 159 with
 | true => have := Nat.eq_of_beq_eq_true h3; subst this; rw [h3, cond_true] at h; injection h with h; subst h; exact cloneR_is
 | false =>
 rw [h3, cond_false] at h
 cases h4 : Nat.beq f 244 with
 | true => rw [h4, cond_true] at h; injection h with h; subst h; exact SpIs.stuck _ _
 | false =>
 rw [h4, cond_false] at h
 cases h
theorem T_prog (k : Nat) : (T k).c.P = Prog := by unfold T C; rfl
theorem told_ok {k m : Nat} (hsp : okTrue (run (baseCfg Prog kpS moreS) m (k % 1000000) [] Heap.empty) = true) : SpOk (T k).c := by
 have h0 : CallOk Prog (run (baseCfg Prog kpS moreS) m) := run_ok (c := baseCfg Prog kpS moreS) names_ok mixed_ok (SpOk.base more_is) m
 have h1 : SpOk (C k) := by
  unfold C
  exact SpOk.of (P := Prog) (kp := kpS) (speaks := speaksT) (more := moreS) (k := k % 1000000) h0 hsp more_is
 exact h1
end Go.Sw
end
