/-
  Functions' forms, and what is proved of them, part 8.
-/
import Derived.Test.YtnaodjnimkndbabSwCfg
import Derived.Test.YtnaodjnimkndbabSwLib8
import Derived.Tactics
import Derived.Tactics2
import Derived.Defers
import Derived.Recover
import Derived.Laws.Pointers
import Derived.Test.YtnaodjnimkndbabSwW6
import Derived.Test.YtnaodjnimkndbabSwW7
import Derived.Test.YtnaodjnimkndbabSwW4
import Derived.Test.YtnaodjnimkndbabSwW5
import Derived.Test.YtnaodjnimkndbabSwW1
import Derived.Test.YtnaodjnimkndbabSwW2
set_option linter.unusedSimpArgs false
set_option linter.unusedVariables false
set_option linter.unusedSectionVars false
section
namespace Go.Sw
open Go.RowKit Go.Proofs
set_option maxRecDepth 20000 in
theorem ζmx (p : Addr) (b : Bool) (w : World) (hc : (w.alloc (.cells #[] 200)).cell? p = some (.bool b)) (hz : (w.alloc (.cells #[] 200)).frozen? p = false) :
  CallsD Prog 105 #[.pointer (some p)] (.panicking [{ v := .iface 200 (.agg #[]), recovered := false }]) w fun e u' w' =>
   e = .returned (.tuple #[]) ∧ u' = .panicking [{ v := .iface 200 (.agg #[]), recovered := true }] ∧ w' = (w.alloc (.cells #[] 200)).setCell p (.bool false) := by
 refine callsD_of_wpS Try.func105 rfl fun c₀ cs hu => ?_;apply wpS_seq;apply wpS_region;simp [wpOpsS, go_sem, recoverD, hu, Try.ntmps105, Exit.thenS];have hta : ∀ w, (Instr.typeAssert (.iface 200 (.agg #[])) 20 200 true).run Prog w = .ok (.tuple #[.agg #[], .bool true]) w := fun w => by kernel_rfl
 refine wpS_of_wp ?_
 go_wp2
 cases c₀;simp_all [bodyPostS, results, Try.results105]
theorem ζnw (p : Addr) (w : World) :
  CallsD Prog 105 #[.pointer (some p)] .returning w fun e u' w' => e = .returned (.tuple #[]) ∧ u' = .returning ∧ w' = w := by
 refine callsD_of_wpS Try.func105 rfl fun c₀ cs hu => ?_;apply wpS_seq;apply wpS_region;simp [wpOpsS, go_sem, recoverD, hu, Try.ntmps105, Exit.thenS];refine wpS_of_wp ?_
 go_wp2
 cases c₀;simp_all [bodyPostS, results, Try.results105]
set_option maxRecDepth 20000 in
theorem try_walk (g : FuncId) (first cap : Array Value) (w : World) (R : Ending → World → Prop)
  (hcf : (callFunc g (first ++ cap)).run Prog (w.alloc (.cells #[.bool false] 4)) = .ok (.enter g (first ++ cap)) (w.alloc (.cells #[.bool false] 4)))
  (hcall : Calls Prog g (first ++ cap) (w.alloc (.cells #[.bool false] 4)) fun e w' => match e with
   | .returned _ => w'.heap[w.heap.size]? = some (.cells #[.bool false] 4 (0, 0)) ∧ R (.returned (.bool true)) (w'.setCell ⟨w.heap.size, 0, none⟩ (.bool true))
   | .panicked chain => chain = [{ v := .iface 200 (.agg #[]), recovered := false }] ∧ w'.heap[w.heap.size]? = some (.cells #[.bool false] 4 (0, 0)) ∧ R (.returned (.bool false)) ((w'.alloc (.cells #[] 200)).setCell ⟨w.heap.size, 0, none⟩ (.bool false))
   | .outgrown => False) :
  Calls Prog 35 #[.func (.func g) first cap] w R := by
 have hmf : ∀ (fn : Fn) (first cap : Array Value) (w : World), (Instr.makeFunc fn first cap).run Prog w = .ok (.func fn first cap) w := fun _ _ _ _ => rfl
 go_enter_defers Try.func35, Try.ntmps35
 go_wp2
 rename_i K2 hK2 K1 hK1;refine hcall.mono fun e w' he => ?_;cases e with
 | returned v =>
  obtain ⟨h1, h2⟩ := he;have hc : w'.cell? ⟨w.heap.size, 0, none⟩ = some (.bool false) := by simp [World.cell?, h1]
  have hz : w'.frozen? ⟨w.heap.size, 0, none⟩ = false := by simp [World.frozen?, h1]
  apply hK1;apply hK2
  go_wp2
  have hc2 : (w'.setCell ⟨w.heap.size, 0, none⟩ (.bool true)).cell? ⟨w.heap.size, 0, none⟩ = some (.bool true) := World.cell?_setCell_same _ _ _ hc;refine leaves_cons (f := 105) (args := #[.pointer (some ⟨w.heap.size, 0, none⟩)]) (by simp) (by simp [go_sem]) ?_;refine (ζnw ⟨w.heap.size, 0, none⟩ _).mono ?_;rintro e u' w'' ⟨rfl, rfl, rfl⟩;simp [Leaves, settle, results, Try.results35, go_sem, hc2];exact h2
 | panicked chain =>
  obtain ⟨h0, h1, h2⟩ := he;subst h0;have hlt : w.heap.size < w'.heap.size := by
   rcases Nat.lt_or_ge w.heap.size w'.heap.size with h | h
   ·exact h
   ·rw [Array.getElem?_eq_none h] at h1; cases h1
  have h3 : (w'.alloc (.cells #[] 200)).heap[w.heap.size]? = some (.cells #[.bool false] 4 (0, 0)) := by
   rw [ζ2l _ _ _ hlt]; exact h1
  have hc : (w'.alloc (.cells #[] 200)).cell? ⟨w.heap.size, 0, none⟩ = some (.bool false) := by simp only [World.cell?, h3]; rfl
  have hz : (w'.alloc (.cells #[] 200)).frozen? ⟨w.heap.size, 0, none⟩ = false := by simp [World.frozen?, h3]
  have hc2 : ((w'.alloc (.cells #[] 200)).setCell ⟨w.heap.size, 0, none⟩ (.bool false)).cell? ⟨w.heap.size, 0, none⟩ = some (.bool false) := World.cell?_setCell_same _ _ _ hc;show Leaves _ _ _ _ _ _ _;refine leaves_cons (f := 105) (args := #[.pointer (some ⟨w.heap.size, 0, none⟩)]) (by simp) (by simp [go_sem]) ?_;refine (ζmx ⟨w.heap.size, 0, none⟩ false _ hc hz).mono ?_;rintro e u' w'' ⟨rfl, rfl, rfl⟩;simp [Leaves, settle, results, Try.results35, go_sem, hc2];exact h2
 | outgrown => exact he.elim
theorem try_is : SpIs Prog 35 (tryV 200) := try_of (bt := 4) Try.func35 rfl (by kernel_rfl) try_walk
end Go.Sw
end
section
namespace Go.Sw
open Go.RowKit
structure CTab.ok (t : CTab) : Prop where
 m : t.m.ok
 subs : ∀ x, x ∈ t.subs → (∀ p, p ∈ x.2 → p.ok) ∧ risesS x.2 = true ∧ x.2.length < 2 ^ 31
 has : ∀ e, e ∈ t.m.ents → (e.a = 65535 ∨ e.a < t.subs.length) ∧ (e.b = 65535 ∨ e.b < t.subs.length)
end Go.Sw
end
section
namespace Go.Sw
open Go.RowKit
end Go.Sw
end
section
namespace Go.Sw
open Go.RowKit
variable {σ : Type}
theorem runD_inv (m : Mach) (hm : m.ok) (ln : σ → List Gl) (f : σ → Int → En → σ × Int × Int) (P : σ → Prop) (hf : ∀ s i e, P s → 0 ≤ i → e ∈ m.ents → P (f s i e).1) (most : Int) :
  ∀ (n : Nat) (x : σ × Drv), P x.1 → 0 ≤ x.2.pl → 0 ≤ x.2.st → x.2.st < m.rows.length → P (runD m ln f most n x).2.2
 | 0, x, h, _, _, _ => h
 | n + 1, x, h, hp, h0, h1 => by
  have hmem := entS_mem hm (ln x.1) x.2 ⟨h0, h1⟩;have hent := hm.ent _ hmem;have hP : P (stepD m ln f x).1.1 := by unfold stepD; split <;> exact hf _ _ _ h hp hmem
  have hst : 0 ≤ (stepD m ln f x).1.2.st ∧ (stepD m ln f x).1.2.st < m.rows.length := by unfold stepD; split <;> exact ⟨hent.1, hent.2.1⟩
  have hpl := stepD_pl m ln f x;unfold runD;split
  ·split
   ·exact hP
   ·split
    ·exact hP
    ·exact runD_inv m hm ln f P hf most n _ hP hpl hst.1 hst.2
  ·exact h
end Go.Sw
end
section
namespace Go.Sw
open Go.RowKit
end Go.Sw
end
section
namespace Go.Sw
open Go.RowKit
end Go.Sw
end
section
namespace Go.Sw
open Go.RowKit
end Go.Sw
end
section
namespace Go.Sw
open Go.RowKit
variable {σ : Type}
end Go.Sw
end
section
set_option maxRecDepth 100000
set_option linter.unusedVariables false
namespace Go.Sw
noncomputable section
end
end Go.Sw
end
section
set_option maxRecDepth 100000
set_option linter.unusedVariables false
namespace Go.Sw
noncomputable section
end
end Go.Sw
end
section
namespace Go.Sw
structure Pl where
 adv : Int
 x : Int
 y : Int
 deriving DecidableEq
def Pl.ok (p : Pl) : Prop := (-2147483648 ≤ p.adv ∧ p.adv ≤ 2147483647) ∧ (-2147483648 ≤ p.x ∧ p.x ≤ 2147483647) ∧ (-2147483648 ≤ p.y ∧ p.y ≤ 2147483647)
end Go.Sw
end
section
namespace Go.Sw
end Go.Sw
end
section
namespace Go.Sw
end Go.Sw
end
section
namespace Go.Sw
end Go.Sw
end
section
namespace Go.Sw
open Go.RowKit
end Go.Sw
end
section
namespace Go.Sw
open Go.RowKit
end Go.Sw
end
section
namespace Go.Sw
open Go.RowKit
def oddB (vs : List Int) (a : Int) : Bool := (List.range (vs.length / 2)).any fun i => decide (a ≤ (i : Int) ∧ gU vs (2 * (i : Int)) 2 % 2 = 1)
structure STab where
 m : Mach
 vals : List Int
structure STab.ok (t : STab) : Prop where
 m : t.m.ok
 byt : Byt t.vals
 len : t.vals.length < 2 ^ 31
 has : ∀ e, e ∈ t.m.ents → e.a = 65535 ∨ oddB t.vals e.a = true
end Go.Sw
end
section
namespace Go.Sw
open Go.RowKit
end Go.Sw
end
section
namespace Go.Sw
open Go.RowKit
theorem and_pow (n k : Nat) : n &&& 2 ^ k = if n.testBit k then 2 ^ k else 0 := by
 apply Nat.eq_of_testBit_eq;intro i;rw [Nat.testBit_and, Nat.testBit_two_pow];by_cases h : k = i
 ·subst h;cases hb : n.testBit k
  ·simp
  ·simp
 ·cases hb : n.testBit k
  ·simp [h]
  ·simp only [h, decide_false, Bool.and_false, if_true, Nat.testBit_two_pow]
theorem bin_andP (P : Program) (t : TypeId) (H : Heap) (k : Nat) (hk : k < 62) {a : Int} (h0 : 0 ≤ a) (h1 : a < 2 ^ 62) (m : Int) (hm : m = ((2 ^ k : Nat) : Int)) :
  binR P .and t (.int .i64 a) (.int .i64 m) H = .ok (.int .i64 (if a / m % 2 = 1 then m else 0)) H := by
 obtain ⟨n, rfl⟩ := Int.eq_ofNat_of_zero_le h0;have hp : 2 ^ k ≤ 2 ^ 61 := Nat.pow_le_pow_right (by decide) (by omega);have hp0 : 0 < 2 ^ k := Nat.two_pow_pos k;have e : (BitVec.ofInt 64 (n : Int) &&& BitVec.ofInt 64 m).toNat = if n.testBit k then 2 ^ k else 0 := by
  rw [BitVec.toNat_and, BitVec.toNat_ofInt, BitVec.toNat_ofInt, hm];rw [show (((n : Int)) % ((2 ^ 64 : Nat) : Int)).toNat = n by omega, show ((((2 ^ k : Nat) : Int)) % ((2 ^ 64 : Nat) : Int)).toNat = 2 ^ k by omega, and_pow]
 have e1 : binV P .and t (.int .i64 (n : Int)) (.int .i64 m) = some (.int .i64 (IntKind.i64.wrap (BitVec.ofInt 64 (n : Int) &&& BitVec.ofInt 64 m).toNat)) := rfl;unfold binR;rw [e1, e, Nat.testBit_eq_decide_div_mod_eq];have hd : (n : Int) / m = ((n / 2 ^ k : Nat) : Int) := by rw [hm, Int.natCast_ediv]
 rw [hd];by_cases h : n / 2 ^ k % 2 = 1
 ·rw [decide_eq_true h, if_pos rfl, if_pos (by omega), wrap_i64 (by omega) (by omega), hm]; rfl
 ·rw [decide_eq_false h, if_neg (by simp), if_neg (by omega)]; rfl
theorem and13 (P : Program) (t : TypeId) (H : Heap) {a : Int} (h0 : 0 ≤ a) (h1 : a < 65536) : binR P .and t (.int .i64 a) (.int .i64 8192) H = .ok (.int .i64 (if a / 8192 % 2 = 1 then 8192 else 0)) H := bin_andP P t H 13 (by decide) h0 (by omega) 8192 rfl
theorem and31 (P : Program) (t : TypeId) (H : Heap) {a : Int} (h0 : 0 ≤ a) (h1 : a < 4294967296) : binR P .and t (.int .i64 a) (.int .i64 2147483648) H = .ok (.int .i64 (if a ≥ 2147483648 then 2147483648 else 0)) H := by
 rw [bin_andP P t H 31 (by decide) h0 (by omega) 2147483648 rfl];by_cases h : a ≥ 2147483648
 ·rw [if_pos h, if_pos (by omega)]
 ·rw [if_neg h, if_neg (by omega)]
end Go.Sw
end
section
set_option maxRecDepth 100000
set_option linter.unusedVariables false
namespace Go.Sw
noncomputable section
end
end Go.Sw
end
section
namespace Go.Sw
open Go.RowKit
theorem Star.same {H0 H : Heap} {L : List It} (h : Star H0 H L) (i : Nat) {x : It} (hi : L[i]? = some x) (y : It) (hy : y.P H) (ho : ∀ b, b ∈ y.o → b ∈ x.o) : Star H0 H (L.set i y) :=
 h.step i hi (Nat.le_refl _) (fun _ _ _ => rfl) y hy fun b hb => .inl (ho b hb)
end Go.Sw
end
section
namespace Go.Sw
open Go.RowKit
end Go.Sw
end
section
namespace Go.Sw
open Go.RowKit
theorem ζp6 (n : Nat) : n &&& 2 ^ 15 = if n.testBit 15 then 2 ^ 15 else 0 := by
 apply Nat.eq_of_testBit_eq;intro i;rw [Nat.testBit_and, Nat.testBit_two_pow];by_cases h : 15 = i
 ·subst h;cases hb : n.testBit 15 <;> simp <;> decide
 ·cases hb : n.testBit 15
  ·simp [h]
  ·simp only [h, decide_false, Bool.and_false, if_true, Nat.testBit_two_pow]
theorem and15 (P : Program) (t : TypeId) (H : Heap) {a : Int} (h0 : 0 ≤ a) (h1 : a < 65536) : binR P .and t (.int .i64 a) (.int .i64 32768) H = .ok (.int .i64 (if a ≥ 32768 then 32768 else 0)) H := by
 have e : (BitVec.ofInt 64 a &&& BitVec.ofInt 64 32768).toNat = (if a ≥ 32768 then 32768 else 0) := by
  rw [BitVec.toNat_and, BitVec.toNat_ofInt, BitVec.toNat_ofInt];rw [show ((32768 : Int) % ((2 ^ 64 : Nat) : Int)).toNat = 2 ^ 15 from by decide, ζp6, Nat.testBit_eq_decide_div_mod_eq];obtain ⟨n, rfl⟩ := Int.eq_ofNat_of_zero_le h0;rw [show (((n : Int)) % ((2 ^ 64 : Nat) : Int)).toNat = n by omega];by_cases h : (n : Int) ≥ 32768
  ·rw [if_pos h, decide_eq_true (show n / 2 ^ 15 % 2 = 1 by omega)]; rfl
  ·rw [if_neg h, decide_eq_false (show ¬ n / 2 ^ 15 % 2 = 1 by omega)]; rfl
 have e1 : binV P .and t (.int .i64 a) (.int .i64 32768) = some (.int .i64 (IntKind.i64.wrap (BitVec.ofInt 64 a &&& BitVec.ofInt 64 32768).toNat)) := rfl;unfold binR;rw [e1, e];by_cases h : a ≥ 32768
 ·simp [h]
 ·simp [h]
end Go.Sw
end
section
namespace Go.Sw
open Go.RowKit
theorem plainNew (k : Nat) (f : Fn) (a b : Array Value) (H : Heap) : R (T k) F.ζ5a [.func f a b] H = .ok (.func (.func F.ζ1z) #[] #[ptrV H.n]) (H.push ⟨[.func f a b], 1, false⟩) := by
 rw [ζkd];have e : ζ5a k (R (T k)) (.func f a b) H = .ok (.func (.func F.ζ1z) #[] #[ptrV H.n]) (H.push ⟨[.func f a b], 1, false⟩) := by
  simp -implicitDefEqProofs [ζ5a]
 rw [e];have dead : ¬ Alive H (.func (.func F.ζ1z) #[] #[ptrV H.n]) := fun h => by
  cases h with
  | func fn xs ys h1 h2 =>
   have := h2 0 (ptrV H.n) rfl;cases this with
   | ptr b off k hg => have := Heap.get_lt hg; omega
 unfold nrm;exact if_neg fun hc => dead hc.2
end Go.Sw
end
section
namespace Go.Sw
open Go.RowKit
theorem veq_Ens (l : List En) : veq (lv encEn l) (lv encEn l) = true := veq_lv fun p _ v hv => by
 simp [encEn] at hv;rcases hv with rfl | rfl | rfl | rfl <;> simp
theorem veq_Is (l : List Int) : veq (lv encI l) (lv encI l) = true := veq_lv fun p _ v hv => by
 simp [encI] at hv;subst hv; simp
theorem veq_Rows (l : List (List Int)) : veq (lv encRow l) (lv encRow l) = true := veq_lv fun p _ v hv => by
 simp [encRow] at hv;subst hv; exact veq_Is p
theorem veq_mach (m : Mach) : veq (machV m) (machV m) = true := veq_boxV (l := [.int .i64 m.classes, tabV m.tab, lv encRow m.rows, lv encEn m.ents]) fun v hv => by
 simp at hv;rcases hv with rfl | rfl | rfl | rfl
 ·simp
 ·exact veq_tab _
 ·exact veq_Rows _
 ·exact veq_Ens _
end Go.Sw
end
section
namespace Go.Sw
open Go.RowKit
theorem Star.perm {H0 H : Heap} {L L' : List It} (h : Star H0 H L) (hp : L.Perm L') : Star H0 H L' := by
 have hpw : L.Pairwise fun x y => ∀ b, b ∈ x.o → b ∉ y.o := List.pairwise_iff_getElem.2 fun i j hi hj hij b hb => h.2.2 i j _ _ (by omega) (List.getElem?_eq_getElem hi) (List.getElem?_eq_getElem hj) b hb;have hpw' := (hp.pairwise_iff (fun {x y} hxy b hb hb2 => hxy b hb2 hb)).1 hpw;refine ⟨h.1, fun i x hx => ?_, fun i j x y hij hx hy b hb => ?_⟩
 ·obtain ⟨j, hj⟩ := List.getElem?_of_mem (hp.mem_iff.2 (List.mem_of_getElem? hx));exact h.2.1 j x hj
 ·obtain ⟨hi, rfl⟩ := List.getElem?_eq_some_iff.1 hx;obtain ⟨hj, rfl⟩ := List.getElem?_eq_some_iff.1 hy;rcases Nat.lt_or_gt_of_ne hij with hlt | hgt
  ·exact List.pairwise_iff_getElem.1 hpw' i j hi hj hlt b hb
  ·exact fun hb2 => List.pairwise_iff_getElem.1 hpw' j i hj hi hgt b hb2 hb
end Go.Sw
end
section
namespace Go.Sw
open Go.RowKit
end Go.Sw
end
section
namespace Go.Sw
open Go.RowKit
def lastB (vs : List Int) (a : Int) : Bool := (List.range (vs.length / 4)).any fun i => decide (a ≤ (i : Int) ∧ gU vs (4 * (i : Int)) 4 ≥ 2147483648)
theorem ζ4m {vs : List Int} {a : Int} : lastB vs a = true ↔ ∃ i : Nat, a ≤ i ∧ 4 * i + 4 ≤ vs.length ∧ gU vs (4 * (i : Int)) 4 ≥ 2147483648 := by
 unfold lastB;rw [List.any_eq_true];constructor
 ·rintro ⟨i, hi, h⟩;have := of_decide_eq_true h;have hi := List.mem_range.1 hi;exact ⟨i, this.1, by omega, this.2⟩
 ·rintro ⟨i, h1, h2, h3⟩;exact ⟨i, List.mem_range.2 (by omega), decide_eq_true ⟨h1, h3⟩⟩
structure LTab where
 m : Mach
 acts : List Int
 comps : List Int
 ligs : List Int
def entLast (vs : List Int) (e : En) : Bool := decide (¬ e.flags / 8192 % 2 = 1) || lastB vs e.a
def listAt (b : List Int) (i : Int) : Option (List Int) := (uS b i 4).bind (restS b)
def ligaS (b : List Int) (g : Int) : Option LTab := (machS b g 1).bind fun m => (listAt b 16).bind fun a => (listAt b 20).bind fun c => (listAt b 24).bind fun l => if m.ents.all (entLast a) then some ⟨m, a, c, l⟩ else none
theorem ζgs {b : List Int} (hb : Byt b) {i : Int} {l : List Int} (h : listAt b i = some l) : Byt l ∧ l.length ≤ b.length := by
 unfold listAt at h;obtain ⟨p, hp, h⟩ := Option.bind_eq_some_iff.1 h;exact ⟨hb.rest h, ζ7o h⟩
structure LTab.ok (t : LTab) : Prop where
 m : t.m.ok
 byt : Byt t.acts ∧ Byt t.comps ∧ Byt t.ligs
 len : t.acts.length < 2 ^ 31 ∧ t.comps.length < 2 ^ 31 ∧ t.ligs.length < 2 ^ 31
 has : ∀ e, e ∈ t.m.ents → ¬ e.flags / 8192 % 2 = 1 ∨ lastB t.acts e.a = true
theorem ligaS_ok {b : List Int} (hb : Byt b) {g : Int} (h1 : 1 ≤ g) (h2 : g ≤ 65535) (hl : b.length < 2 ^ 31) {t : LTab} (h : ligaS b g = some t) : t.ok := by
 unfold ligaS at h;obtain ⟨m, hm, h⟩ := Option.bind_eq_some_iff.1 h;obtain ⟨a, ha, h⟩ := Option.bind_eq_some_iff.1 h;obtain ⟨c, hc, h⟩ := Option.bind_eq_some_iff.1 h;obtain ⟨l, hL, h⟩ := Option.bind_eq_some_iff.1 h;split at h
 ·rename_i hall;injection h with h;subst h;have a1 := ζgs hb ha;have c1 := ζgs hb hc;have l1 := ζgs hb hL;refine ⟨machS_ok hb h1 h2 (by omega) hm, ⟨a1.1, c1.1, l1.1⟩, ⟨by dsimp only; omega, by dsimp only; omega, by dsimp only; omega⟩, fun e he => ?_⟩;have := List.all_eq_true.1 hall e he;unfold entLast at this;rw [Bool.or_eq_true, decide_eq_true_eq] at this;exact this
 ·cases h
def offS (a : Int) : Int := if a % 1073741824 ≥ 536870912 then a % 1073741824 - 1073741824 else a % 1073741824
def entryS (v : List Int) (i : Int) : Option Int := if 0 ≤ i ∧ i < (v.length : Int) / 2 then some (gU v (2 * i) 2) else none
def pushP (i : Int) (ps : List Int) : List Int := if ps.head? = some i then ps else (i :: ps).take 64
def join1 (i : Int) (l : List Gl) (k : Int) : List Gl := match atG l k with | some h => if 0 ≤ i ∧ i < l.length then l.modify i.toNat fun g => ⟨g.id, min g.cl h.cl⟩ else l | none => l
def joinG (l : List Gl) (i : Int) (ks : List Int) : List Gl := ks.foldl (join1 i) l
def delG (l : List Gl) (ks : List Int) : List Gl := ks.foldl (fun l k => setG l k 65535) l
theorem ζpr (i : Int) (l : List Gl) (k : Int) : (join1 i l k).length = l.length := by
 unfold join1;split
 ·split <;> simp
 ·rfl
theorem ζet (i : Int) : ∀ (ks : List Int) (l : List Gl), (joinG l i ks).length = l.length
 | [], _ => rfl
 | k :: ks, l => by
  have := ζet i ks (join1 i l k);unfold joinG at this ⊢;rw [List.foldl_cons, this, ζpr]
theorem ζje (l : List Gl) (i id : Int) : (setG l i id).length = l.length := by unfold setG; split <;> simp
theorem delG_len : ∀ (ks : List Int) (l : List Gl), (delG l ks).length = l.length
 | [], _ => rfl
 | k :: ks, l => by
  have := delG_len ks (setG l k 65535);unfold delG at this ⊢;rw [List.foldl_cons, this, ζje]
def storeG (l : List Gl) (i id : Int) (gone : List Int) : List Gl := delG (joinG (setG l i id) i gone) gone
theorem ζi7 (l : List Gl) (i id : Int) (gone : List Int) : (storeG l i id gone).length = l.length := by unfold storeG; rw [delG_len, ζet, ζje]
def perfS (t : LTab) : List Int → Int → Int → List Int → List Gl → List Gl × List Int
 | [], _, _, _, l => (l, [])
 | i :: ps, a, sum, gone, l =>
  match entryS t.comps (IntKind.i64.wrap (((atG l i).getD ⟨0, 0⟩).id + offS (gU t.acts (4 * a) 4))) with
  | none => (l, ps)
  | some part =>
   if gU t.acts (4 * a) 4 ≥ 1073741824 then
    match entryS t.ligs (sum + part) with
    | none => (l, ps)
    | some id => if gU t.acts (4 * a) 4 ≥ 2147483648 then (storeG l i id gone, pushP i ps) else perfS t ps (a + 1) (sum + part) [i] (storeG l i id gone)
   else perfS t ps (a + 1) (sum + part) (gone ++ [i]) l
def doLi (t : LTab) (s : List Gl × List Int) (i : Int) (e : En) : List Gl × List Int :=
 let k := if e.flags ≥ 32768 ∧ i < (s.1.length : Int) then pushP i s.2 else s.2
 if e.flags / 8192 % 2 = 1 then perfS t k e.a 0 [] s.1 else (s.1, k)
theorem ζk5 (t : LTab) : ∀ (ps : List Int) (a sum : Int) (gone : List Int) (l : List Gl), (perfS t ps a sum gone l).1.length = l.length
 | [], _, _, _, _ => rfl
 | i :: ps, a, sum, gone, l => by
  unfold perfS;split
  ·rfl
  ·split
   ·split
    ·rfl
    ·split
     ·exact ζi7 _ _ _ _
     ·rw [ζk5 t ps, ζi7]
   ·exact ζk5 t ps _ _ _ _
theorem doLi_len (t : LTab) (s : List Gl × List Int) (i : Int) (e : En) : (doLi t s i e).1.length = s.1.length := by
 unfold doLi;dsimp only;split
 ·exact ζk5 _ _ _ _ _ _
 ·rfl
def KeptOk (n : Int) (ps : List Int) : Prop := ps.length ≤ 64 ∧ ∀ x, x ∈ ps → 0 ≤ x ∧ x < n
theorem pushP_ok {n i : Int} {ps : List Int} (h : KeptOk n ps) (hi : 0 ≤ i ∧ i < n) : KeptOk n (pushP i ps) := by
 unfold pushP;split
 ·exact h
 ·refine ⟨by rw [List.length_take]; omega, fun x hx => ?_⟩;rcases List.mem_cons.1 (List.mem_of_mem_take hx) with rfl | hx
  ·exact hi
  ·exact h.2 x hx
theorem KeptOk.tail {n i : Int} {ps : List Int} (h : KeptOk n (i :: ps)) : KeptOk n ps := ⟨by have := h.1; simp at this; omega, fun x hx => h.2 x (by simp [hx])⟩
theorem ζhs (t : LTab) {n : Int} : ∀ (ps : List Int) (a sum : Int) (gone : List Int) (l : List Gl), KeptOk n ps → KeptOk n (perfS t ps a sum gone l).2
 | [], _, _, _, _, h => h
 | i :: ps, a, sum, gone, l, h => by
  unfold perfS;split
  ·exact h.tail
  ·split
   ·split
    ·exact h.tail
    ·split
     ·exact pushP_ok h.tail (h.2 i (by simp))
     ·exact ζhs t ps _ _ _ _ h.tail
   ·exact ζhs t ps _ _ _ _ h.tail
theorem ζly (t : LTab) {n : Int} {s : List Gl × List Int} (hn : (s.1.length : Int) = n) (h : KeptOk n s.2) {i : Int} (hi : 0 ≤ i) (e : En) : KeptOk n (doLi t s i e).2 := by
 have k1 : KeptOk n (if e.flags ≥ 32768 ∧ i < (s.1.length : Int) then pushP i s.2 else s.2) := by
  split
  ·rename_i hc; exact pushP_ok h ⟨hi, by omega⟩
  ·exact h
 unfold doLi;dsimp only;split
 ·exact ζhs t _ _ _ _ _ k1
 ·exact k1
end Go.Sw
end
section
namespace Go.Sw
open Go.RowKit
def runLr (t : LTab) (l : List Gl) : Int × Int × (List Gl × List Int) :=
 runD t.m (fun s : List Gl × List Int => s.1) (fun s i e => (doLi t s i e, i, i + 1)) (2 * (l.length : Int) + 128) (2 * l.length + 128) ((l, []), ⟨0, 0, 0, 0⟩)
def runL (t : LTab) (l : List Gl) : List Gl × Int := ((runLr t l).2.2.1, (runLr t l).2.1)
set_option maxRecDepth 10000 in
theorem runL_inv (t : LTab) (ht : t.m.ok) (l : List Gl) (P : List Gl × List Int → Prop) (h0 : P (l, [])) (hs : ∀ s i e, P s → 0 ≤ i → e ∈ t.m.ents → P (doLi t s i e)) : P (runLr t l).2.2 := by
 unfold runLr;exact runD_inv t.m ht (fun s : List Gl × List Int => s.1) (fun s i e => (doLi t s i e, i, i + 1)) P (fun s i e h1 h2 h3 => hs s i e h1 h2 h3) (2 * (l.length : Int) + 128) (2 * l.length + 128) ((l, []), ⟨0, 0, 0, 0⟩) h0 (Int.le_refl _) (Int.le_refl _) (by have := ht.two; dsimp only; omega)
set_option maxRecDepth 10000 in
theorem runL_len (t : LTab) (ht : t.m.ok) (l : List Gl) : (runL t l).1.length = l.length :=
 runL_inv t ht l (fun s => s.1.length = l.length) rfl fun s i e h _ _ => (doLi_len t s i e).trans h
end Go.Sw
end
section
namespace Go.Sw
open Go.RowKit
end Go.Sw
end
section
set_option maxRecDepth 100000
set_option linter.unusedVariables false
namespace Go.Sw
noncomputable section
def ζj (k : Nat) (call : Caller) (a0 a1 a2 : Value) (h : Heap) : Res Value :=
 (call F.ζ2k [] h).bind fun v1 h2 =>
 (unR .not v1 h2).bind fun v3 h4 =>
 condV (some v3) (
 .ok (.bool false) h4)
 (
 (builtinV Prog .len [22] [a0] h4).bind fun v5 h6 =>
 (binR Prog .gtr 3 v5 (.int .i64 800) h6).bind fun v7 h8 =>
 ((bif wantVal v7 false then Res.ok a2 h8 else Res.ok undef h8)).bind fun v9 h10 =>
 ((bif wantVal v7 false then builtinV Prog .len [27] [v9] h10 else Res.ok undef h10)).bind fun v11 h12 =>
 ((bif wantVal v7 false then binR Prog .gtr 3 v11 (.int .i64 60) h12 else Res.ok undef h12)).bind fun v13 h14 =>
 (condV (some v7) (Res.ok (.bool true) h14) (Res.ok v13 h14)).bind fun v15 h16 =>
 condV (some v15) (
 .ok (.bool true) h16)
 (
 (call F.ζ6s [a0, a1] h16).bind fun v17 h18 =>
 (extractR v17 0 h18).bind fun v19 h20 =>
 (extractR v17 1 h20).bind fun v21 h22 =>
 (binR Prog .lss 3 a1 (.int .i64 1) h22).bind fun v23 h24 =>
 ((bif wantVal v23 false then Res.ok a1 h24 else Res.ok undef h24)).bind fun v25 h26 =>
 ((bif wantVal v23 false then binR Prog .gtr 3 v25 (.int .i64 65535) h26 else Res.ok undef h26)).bind fun v27 h28 =>
 (condV (some v23) (Res.ok (.bool true) h28) (Res.ok v27 h28)).bind fun v29 h30 =>
 condV (some v29) (
 (binR Prog .eql 34 v21 (.int .i64 1) h30).bind fun v31 h32 =>
 ((bif wantVal v31 true then Res.ok v19 h32 else Res.ok undef h32)).bind fun v33 h34 =>
 ((bif wantVal v31 true then binR Prog .eql 99 v33 (.pointer none) h34 else Res.ok undef h34)).bind fun v35 h36 =>
 (condV (some v31) (Res.ok v35 h36) (Res.ok (.bool false) h36)).bind fun v37 h38 =>
 .ok v37 h38)
 (
 (call F.ζ9 [a0, a1] h30).bind fun v39 h40 =>
 (extractR v39 0 h40).bind fun v41 h42 =>
 (extractR v39 1 h42).bind fun v43 h44 =>
 (allocR Prog 103 h44).bind fun v45 h46 =>
 (storeR Prog 103 v45 v41 h46).bind fun _v47 h48 =>
 (unR .not v43 h48).bind fun v49 h50 =>
 condV (some v49) (
 (binR Prog .eql 34 v21 (.int .i64 2) h50).bind fun v51 h52 =>
 ((bif wantVal v51 true then Res.ok v19 h52 else Res.ok undef h52)).bind fun v53 h54 =>
 ((bif wantVal v51 true then binR Prog .eql 99 v53 (.pointer none) h54 else Res.ok undef h54)).bind fun v55 h56 =>
 (condV (some v51) (Res.ok v55 h56) (Res.ok (.bool false) h56)).bind fun v57 h58 =>
 .ok v57 h58)
 (
 (binR Prog .neq 34 v21 (.int .i64 0) h50).bind fun v59 h60 =>
 ((bif wantVal v59 false then Res.ok v19 h60 else Res.ok undef h60)).bind fun v61 h62 =>
 ((bif wantVal v59 false then binR Prog .eql 99 v61 (.pointer none) h62 else Res.ok undef h62)).bind fun v63 h64 =>
 (condV (some v59) (Res.ok (.bool true) h64) (Res.ok v63 h64)).bind fun v65 h66 =>
 condV (some v65) (
 .ok (.bool false) h66)
 (
 (call F.line_New [a2] h66).bind fun v67 h68 =>
 (call F.ζ3s [v19, v67] h68).bind fun v69 h70 =>
 (loadR Prog 103 v45 h70).bindN fun v71 h72 =>
 (call F.ζ2b [a2] h72).bindT (fun p75 h76 => .panic p75 h76) fun v73 h74 =>
 (call F.ζp [v71, v73] h74).bindT (fun p79 h80 => chkR ((okVal (loadR Prog 103 v45 h74) v71 && true) && true) (.panic p79 h80)) fun v77 h78 =>
 (extractR v77 0 h78).bindN fun v81 h82 =>
 (extractR v77 1 h82).bindN fun v83 h84 =>
 chkR ((okVal (loadR Prog 103 v45 h74) v71 && true) && true) (
 (binR Prog .eql 3 v69 v83 h84).bind fun v85 h86 =>
 ((bif wantVal v85 true then Res.ok v67 h86 else Res.ok undef h86)).bind fun v87 h88 =>
 ((bif wantVal v85 true then call F.ζ31 [v87] h88 else Res.ok undef h88)).bind fun v89 h90 =>
 ((bif wantVal v85 true then Res.ok v81 h90 else Res.ok undef h90)).bind fun v91 h92 =>
 ((bif wantVal v85 true then call F.ζ1o [v89, v91] h92 else Res.ok undef h92)).bind fun v93 h94 =>
 (condV (some v85) (Res.ok v93 h94) (Res.ok (.bool false) h94)).bind fun v95 h96 =>
 .ok v95 h96))))))
theorem ζa2 (k : Nat) (a0 a1 a2 : Value) (h : Heap) : R (T k) F.ζj [a0, a1, a2] h = nrm .gc h (ζj k (R (T k)) a0 a1 a2 h) :=
 (R_body (t := T k) (T_scott k) (by kernel_rfl) (by kernel_rfl) _ _).trans (by kernel_rfl)
end
end Go.Sw
end
section
namespace Go.Sw
open Go.RowKit
structure LPlan where
 p : Plan
 acts : List Int
 comps : List Int
 ligs : List Int
structure LPlan.ok (x : LPlan) : Prop where
 p : x.p.ok
 acts : ∀ n, n ∈ x.acts → 0 ≤ n ∧ n < 4294967296
 comps : ∀ n, n ∈ x.comps → 0 ≤ n ∧ n < 65536
 ligs : ∀ n, n ∈ x.ligs → 0 ≤ n ∧ n < 65536
def LSmall (x : LPlan) (n : Nat) : Prop := x.p.cls.length ≤ 40 ∧ x.p.rows.length ≤ 20 ∧ x.p.ents.length ≤ 40 ∧ x.acts.length ≤ 60 ∧ x.comps.length ≤ 100 ∧ x.ligs.length ≤ 100 ∧ n ≤ 100
instance (x : LPlan) (n : Nat) : Decidable (LSmall x n) := by unfold LSmall; exact inferInstance
theorem ζlr (k : Nat) (hk : k % 1000000 = F.ζ2k) (H : Heap) : R (T k) F.ζ2k [] H = .ok (.bool true) H :=
 (R_sp (t := T k) (T_scott k) (s := constSp (.bool true)) (by unfold T C; dsimp only; rw [hk]; kernel_rfl) [] H).trans (nrm_gc (Pure.of rfl) (.bool _))
end Go.Sw
end
section
namespace Go.Sw
open Go.RowKit
theorem uS_fits {b : List Int} {i n x : Int} (h : uS b i n = some x) : 0 ≤ i ∧ i + n ≤ b.length := by
 unfold uS pieceS at h;split at h
 ·omega
 ·simp at h
end Go.Sw
end
section
set_option maxRecDepth 100000
set_option linter.unusedVariables false
namespace Go.Sw
noncomputable section
def ζ6s (k : Nat) (call : Caller) (a0 a1 : Value) (h : Heap) : Res Value :=
 (boxR a1 h).bind fun v1 h2 =>
 (allocR Prog 99 h2).bind fun v3 h4 =>
 (loadR Prog 3 v1 h4).bind fun v5 h6 =>
 (binR Prog .lss 3 v5 (.int .i64 1) h6).bind fun v7 h8 =>
 ((bif wantVal v7 false then loadR Prog 3 v1 h8 else Res.ok undef h8)).bind fun v9 h10 =>
 ((bif wantVal v7 false then binR Prog .gtr 3 v9 (.int .i64 65535) h10 else Res.ok undef h10)).bind fun v11 h12 =>
 (condV (some v7) (Res.ok (.bool true) h12) (Res.ok v11 h12)).bind fun v13 h14 =>
 condV (some v13) (
 (storeR Prog 99 v3 (.pointer none) h14).bind fun _v15 h16 =>
 (loadR Prog 99 v3 h16).bind fun v17 h18 =>
 .ok (.tuple #[v17, (.int .i64 1)]) h18)
 (
 (call F.view_Of [a0] h14).bind fun v19 h20 =>
 (call F.ζ3g [v19] h20).bind fun v21 h22 =>
 (call F.view_Of [v21] h22).bind fun v23 h24 =>
 (allocR Prog 55 h24).bind fun v25 h26 =>
 (storeR Prog 55 v25 v23 h26).bind fun _v27 h28 =>
 (call F.view_Try [(.func (.func F.ζ2m) #[] #[v25, v1, v3])] h28).bind fun v29 h30 =>
 (unR .not v29 h30).bind fun v31 h32 =>
 condV (some v31) (
 (storeR Prog 99 v3 (.pointer none) h32).bind fun _v33 h34 =>
 (loadR Prog 99 v3 h34).bind fun v35 h36 =>
 .ok (.tuple #[v35, (.int .i64 2)]) h36)
 (
 (loadR Prog 99 v3 h32).bind fun v37 h38 =>
 (storeR Prog 99 v3 v37 h38).bind fun _v39 h40 =>
 (loadR Prog 99 v3 h40).bind fun v41 h42 =>
 .ok (.tuple #[v41, (.int .i64 0)]) h42))
theorem ζn9 (k : Nat) (a0 a1 : Value) (h : Heap) : R (T k) F.ζ6s [a0, a1] h = nrm .fz h (ζ6s k (R (T k)) a0 a1 h) :=
 (R_body (t := T k) (T_scott k) (by kernel_rfl) (by kernel_rfl) _ _).trans (by kernel_rfl)
def ζ3s (k : Nat) (call : Caller) (a0 a1 : Value) (h : Heap) : Res Value :=
 (boxR a0 h).bind fun v1 h2 =>
 (boxR a1 h2).bind fun v3 h4 =>
 (allocR Prog 241 h4).bind fun v5 h6 =>
 (loadR Prog 99 v1 h6).bindN fun v7 h8 =>
 (nilR v7 h8).bindN fun v9 h10 =>
 (fieldAddrR Prog 243 v9 0 h10).bindN fun v11 h12 =>
 (loadR Prog 180 v11 h12).bindN fun v13 h14 =>
 (loadR Prog 44 v3 h14).bindN fun v15 h16 =>
 (call F.ζ5a [(.func (.func F.ζg) #[] #[v3, v5, v1])] h16).bindT (fun p19 h20 => .panic p19 h20) fun v17 h18 =>
 (call F.ζ4k [v13, v15, v17] h18).bindT (fun p23 h24 => chkR ((okVal (loadR Prog 99 v1 h18) v7 && true) && ((okVal (loadR Prog 180 v11 h18) v13 && true) && ((okVal (loadR Prog 44 v3 h18) v15 && true) && true))) (.panic p23 h24)) fun v21 h22 =>
 (extractR v21 0 h22).bindN fun v25 h26 =>
 (extractR v21 1 h26).bindN fun v27 h28 =>
 chkR ((okVal (loadR Prog 99 v1 h18) v7 && true) && ((okVal (loadR Prog 180 v11 h18) v13 && true) && ((okVal (loadR Prog 44 v3 h18) v15 && true) && true))) (
 .ok v27 h28)
theorem ζhc (k : Nat) (a0 a1 : Value) (h : Heap) : R (T k) F.ζ3s [a0, a1] h = nrm .no h (ζ3s k (R (T k)) a0 a1 h) :=
 (R_body (t := T k) (T_scott k) (by kernel_rfl) (by kernel_rfl) _ _).trans (by kernel_rfl)
def ζ70 (k : Nat) (call : Caller) : Env → Heap → Res (AExit × Env) := loopB (C k) call F.ζ2i [1, 1, 0, 1, 0, 0]
def ζfx (k : Nat) (call : Caller) : Kont Value := kBlock 0 (kSeq (pieceK (C k) call F.ζ2i [1, 1, 1]) (kDone Prog (resOf Prog F.ζ2i)))
def ζhd (k : Nat) (call : Caller) (a5 a7 a30 a31 a32 a39 : Value) (h : Heap) : Res (AExit × Env) :=
 kSeq (pieceK (C k) call F.ζ2i [1, 1, 0, 1, 0, 0, 1, 1, 1]) (kRound (ownOf (C k) F.ζ2i [1, 1, 0, 1, 0, 0])) .normal [(5, a5), (7, a7), (30, a30), (31, a31), (32, a32), (39, a39)] h
def ζ71 (k : Nat) (call : Caller) : Env → Heap → Res (AExit × Env) := loopB (C k) call F.ζ2i [1, 1, 0, 1, 0, 0, 1, 1, 0, 0, 1, 1, 0, 1, 0, 0]
def ζfy (k : Nat) (call : Caller) : Kont (AExit × Env) := kBlock 2 (kBlock 1 (kSeq (pieceK (C k) call F.ζ2i [1, 1, 0, 1, 0, 0, 1, 1, 1]) (kRound (ownOf (C k) F.ζ2i [1, 1, 0, 1, 0, 0]))))
def ζhe (k : Nat) (call : Caller) (a5 a8 a30 a31 a32 a50 : Value) (h : Heap) : Res (AExit × Env) :=
 kSeq (pieceK (C k) call F.ζ2i [1, 1, 0, 1, 0, 0, 1, 1, 1]) (kRound (ownOf (C k) F.ζ2i [1, 1, 0, 1, 0, 0])) .normal [(5, a5), (8, a8), (30, a30), (31, a31), (32, a32), (50, a50)] h
def ζ2i (k : Nat) (call : Caller) (a0 a1 : Value) (h : Heap) : Res Value :=
 (boxR a0 h).bind fun v1 h2 =>
 (loadR Prog 55 v1 h2).bindN fun v3 h4 =>
 (call F.ζ2n [v3, a1, (.int .i64 1)] h4).bindT (fun p7 h8 => (loadR Prog 55 v1 h4).bindN fun v9 h10 => (loadR Prog 55 v1 h10).bindN fun v11 h12 => (loadR Prog 55 v1 h12).bindN fun v13 h14 => (loadR Prog 55 v1 h14).bindN fun v15 h16 => (loadR Prog 55 v1 h16).bindN fun v17 h18 => (loadR Prog 55 v1 h18).bindN fun v19 h20 => chkR ((okVal (loadR Prog 55 v1 h2) v9 && true) && ((okVal (loadR Prog 55 v1 h2) v11 && true) && ((okVal (loadR Prog 55 v1 h2) v13 && true) && ((okVal (loadR Prog 55 v1 h2) v15 && true) && ((okVal (loadR Prog 55 v1 h2) v17 && true) && ((okVal (loadR Prog 55 v1 h2) v19 && true) && true)))))) (.panic p7 h8)) fun v5 h6 =>
 (loadR Prog 55 v1 h6).bindN fun v21 h22 =>
 (loadR Prog 55 v1 h22).bindN fun v23 h24 =>
 (call F.ζ16 [v23, (.int .i64 16)] h24).bindT (fun p27 h28 => (loadR Prog 55 v1 h24).bindN fun v29 h30 => (loadR Prog 55 v1 h30).bindN fun v31 h32 => (loadR Prog 55 v1 h32).bindN fun v33 h34 => (loadR Prog 55 v1 h34).bindN fun v35 h36 => chkR ((okVal (loadR Prog 55 v1 h2) v21 && true) && ((okVal (loadR Prog 55 v1 h2) v23 && true) && ((okVal (loadR Prog 55 v1 h2) v29 && (okVal (loadR Prog 55 v1 h6) v29 && true)) && ((okVal (loadR Prog 55 v1 h2) v31 && (okVal (loadR Prog 55 v1 h6) v31 && true)) && ((okVal (loadR Prog 55 v1 h2) v33 && (okVal (loadR Prog 55 v1 h6) v33 && true)) && ((okVal (loadR Prog 55 v1 h2) v35 && (okVal (loadR Prog 55 v1 h6) v35 && true)) && true)))))) (.panic p27 h28)) fun v25 h26 =>
 (call F.ζ1g [v21, v25] h26).bindT (fun p39 h40 => (loadR Prog 55 v1 h26).bindN fun v41 h42 => (loadR Prog 55 v1 h42).bindN fun v43 h44 => (loadR Prog 55 v1 h44).bindN fun v45 h46 => (loadR Prog 55 v1 h46).bindN fun v47 h48 => chkR ((okVal (loadR Prog 55 v1 h2) v21 && (okVal (loadR Prog 55 v1 h26) v21 && true)) && ((okVal (loadR Prog 55 v1 h2) v23 && true) && ((okVal (loadR Prog 55 v1 h2) v41 && (okVal (loadR Prog 55 v1 h6) v41 && (okVal (loadR Prog 55 v1 h26) v41 && true))) && ((okVal (loadR Prog 55 v1 h2) v43 && (okVal (loadR Prog 55 v1 h6) v43 && (okVal (loadR Prog 55 v1 h26) v43 && true))) && ((okVal (loadR Prog 55 v1 h2) v45 && (okVal (loadR Prog 55 v1 h6) v45 && (okVal (loadR Prog 55 v1 h26) v45 && true))) && ((okVal (loadR Prog 55 v1 h2) v47 && (okVal (loadR Prog 55 v1 h6) v47 && (okVal (loadR Prog 55 v1 h26) v47 && true))) && true)))))) (.panic p39 h40)) fun v37 h38 =>
 (loadR Prog 55 v1 h38).bindN fun v49 h50 =>
 (loadR Prog 55 v1 h50).bindN fun v51 h52 =>
 (call F.ζ16 [v51, (.int .i64 20)] h52).bindT (fun p55 h56 => (loadR Prog 55 v1 h52).bindN fun v57 h58 => (loadR Prog 55 v1 h58).bindN fun v59 h60 => chkR ((okVal (loadR Prog 55 v1 h2) v21 && (okVal (loadR Prog 55 v1 h26) v21 && true)) && ((okVal (loadR Prog 55 v1 h2) v23 && true) && ((okVal (loadR Prog 55 v1 h2) v49 && (okVal (loadR Prog 55 v1 h6) v49 && (okVal (loadR Prog 55 v1 h26) v49 && true))) && ((okVal (loadR Prog 55 v1 h2) v51 && (okVal (loadR Prog 55 v1 h6) v51 && (okVal (loadR Prog 55 v1 h26) v51 && true))) && ((okVal (loadR Prog 55 v1 h2) v57 && (okVal (loadR Prog 55 v1 h6) v57 && (okVal (loadR Prog 55 v1 h26) v57 && (okVal (loadR Prog 55 v1 h38) v57 && true)))) && ((okVal (loadR Prog 55 v1 h2) v59 && (okVal (loadR Prog 55 v1 h6) v59 && (okVal (loadR Prog 55 v1 h26) v59 && (okVal (loadR Prog 55 v1 h38) v59 && true)))) && true)))))) (.panic p55 h56)) fun v53 h54 =>
 (call F.ζ1g [v49, v53] h54).bindT (fun p63 h64 => (loadR Prog 55 v1 h54).bindN fun v65 h66 => (loadR Prog 55 v1 h66).bindN fun v67 h68 => chkR ((okVal (loadR Prog 55 v1 h2) v21 && (okVal (loadR Prog 55 v1 h26) v21 && true)) && ((okVal (loadR Prog 55 v1 h2) v23 && true) && ((okVal (loadR Prog 55 v1 h2) v49 && (okVal (loadR Prog 55 v1 h6) v49 && (okVal (loadR Prog 55 v1 h26) v49 && (okVal (loadR Prog 55 v1 h54) v49 && true)))) && ((okVal (loadR Prog 55 v1 h2) v51 && (okVal (loadR Prog 55 v1 h6) v51 && (okVal (loadR Prog 55 v1 h26) v51 && true))) && ((okVal (loadR Prog 55 v1 h2) v65 && (okVal (loadR Prog 55 v1 h6) v65 && (okVal (loadR Prog 55 v1 h26) v65 && (okVal (loadR Prog 55 v1 h38) v65 && (okVal (loadR Prog 55 v1 h54) v65 && true))))) && ((okVal (loadR Prog 55 v1 h2) v67 && (okVal (loadR Prog 55 v1 h6) v67 && (okVal (loadR Prog 55 v1 h26) v67 && (okVal (loadR Prog 55 v1 h38) v67 && (okVal (loadR Prog 55 v1 h54) v67 && true))))) && true)))))) (.panic p63 h64)) fun v61 h62 =>
 (loadR Prog 55 v1 h62).bindN fun v69 h70 =>
 (loadR Prog 55 v1 h70).bindN fun v71 h72 =>
 (call F.ζ16 [v71, (.int .i64 24)] h72).bindT (fun p75 h76 => chkR ((okVal (loadR Prog 55 v1 h2) v21 && (okVal (loadR Prog 55 v1 h26) v21 && true)) && ((okVal (loadR Prog 55 v1 h2) v23 && true) && ((okVal (loadR Prog 55 v1 h2) v49 && (okVal (loadR Prog 55 v1 h6) v49 && (okVal (loadR Prog 55 v1 h26) v49 && (okVal (loadR Prog 55 v1 h54) v49 && true)))) && ((okVal (loadR Prog 55 v1 h2) v51 && (okVal (loadR Prog 55 v1 h6) v51 && (okVal (loadR Prog 55 v1 h26) v51 && true))) && ((okVal (loadR Prog 55 v1 h2) v69 && (okVal (loadR Prog 55 v1 h6) v69 && (okVal (loadR Prog 55 v1 h26) v69 && (okVal (loadR Prog 55 v1 h38) v69 && (okVal (loadR Prog 55 v1 h54) v69 && true))))) && ((okVal (loadR Prog 55 v1 h2) v71 && (okVal (loadR Prog 55 v1 h6) v71 && (okVal (loadR Prog 55 v1 h26) v71 && (okVal (loadR Prog 55 v1 h38) v71 && (okVal (loadR Prog 55 v1 h54) v71 && true))))) && true)))))) (.panic p75 h76)) fun v73 h74 =>
 (call F.ζ1g [v69, v73] h74).bindT (fun p79 h80 => chkR ((okVal (loadR Prog 55 v1 h2) v21 && (okVal (loadR Prog 55 v1 h26) v21 && true)) && ((okVal (loadR Prog 55 v1 h2) v23 && true) && ((okVal (loadR Prog 55 v1 h2) v49 && (okVal (loadR Prog 55 v1 h6) v49 && (okVal (loadR Prog 55 v1 h26) v49 && (okVal (loadR Prog 55 v1 h54) v49 && true)))) && ((okVal (loadR Prog 55 v1 h2) v51 && (okVal (loadR Prog 55 v1 h6) v51 && (okVal (loadR Prog 55 v1 h26) v51 && true))) && ((okVal (loadR Prog 55 v1 h2) v69 && (okVal (loadR Prog 55 v1 h6) v69 && (okVal (loadR Prog 55 v1 h26) v69 && (okVal (loadR Prog 55 v1 h38) v69 && (okVal (loadR Prog 55 v1 h54) v69 && (okVal (loadR Prog 55 v1 h74) v69 && true)))))) && ((okVal (loadR Prog 55 v1 h2) v71 && (okVal (loadR Prog 55 v1 h6) v71 && (okVal (loadR Prog 55 v1 h26) v71 && (okVal (loadR Prog 55 v1 h38) v71 && (okVal (loadR Prog 55 v1 h54) v71 && true))))) && true)))))) (.panic p79 h80)) fun v77 h78 =>
 (buildR Prog 243 [(0, v5), (1, v37), (2, v61), (3, v77)] h78).bindN fun v81 h82 =>
 (boxR v81 h82).bindN fun v83 h84 =>
 chkR ((okVal (loadR Prog 55 v1 h2) v21 && (okVal (loadR Prog 55 v1 h26) v21 && true)) && ((okVal (loadR Prog 55 v1 h2) v23 && true) && ((okVal (loadR Prog 55 v1 h2) v49 && (okVal (loadR Prog 55 v1 h6) v49 && (okVal (loadR Prog 55 v1 h26) v49 && (okVal (loadR Prog 55 v1 h54) v49 && true)))) && ((okVal (loadR Prog 55 v1 h2) v51 && (okVal (loadR Prog 55 v1 h6) v51 && (okVal (loadR Prog 55 v1 h26) v51 && true))) && ((okVal (loadR Prog 55 v1 h2) v69 && (okVal (loadR Prog 55 v1 h6) v69 && (okVal (loadR Prog 55 v1 h26) v69 && (okVal (loadR Prog 55 v1 h38) v69 && (okVal (loadR Prog 55 v1 h54) v69 && (okVal (loadR Prog 55 v1 h74) v69 && true)))))) && ((okVal (loadR Prog 55 v1 h2) v71 && (okVal (loadR Prog 55 v1 h6) v71 && (okVal (loadR Prog 55 v1 h26) v71 && (okVal (loadR Prog 55 v1 h38) v71 && (okVal (loadR Prog 55 v1 h54) v71 && true))))) && true)))))) (
 (nilR v83 h84).bind fun v85 h86 =>
 (fieldAddrR Prog 243 v85 0 h86).bind fun v87 h88 =>
 (loadR Prog 180 v87 h88).bind fun v89 h90 =>
 (call F.ζ1w [v89] h90).bind fun v91 h92 =>
 (builtinV Prog .len [24] [v91] h92).bind fun v93 h94 =>
 (loopN (ζ70 k call) loopFuel [(5, v83), (30, v91), (31, v93), (32, (.int .i64 0))] h94).bind fun r95 h96 =>
 ζfx k call r95.1 r95.2 h96)
theorem ζna (k : Nat) (a0 a1 : Value) (h : Heap) : R (T k) F.ζ2i [a0, a1] h = nrm .fz h (ζ2i k (R (T k)) a0 a1 h) :=
 (R_body (t := T k) (T_scott k) (by kernel_rfl) (by kernel_rfl) _ _).trans (by kernel_rfl)
theorem ζ5p (k : Nat) (call : Caller) (a5 a30 a31 a32 : Value) (h : Heap) : ζ70 k call [(5, a5), (30, a30), (31, a31), (32, a32)] h =
 (binR Prog .lss 3 a32 a31 h).bind fun v97 h98 =>
 condV (some v97) (
 (indexAddrR Prog 24 a30 a32 h98).bind fun v99 h100 =>
 (loadR Prog 31 v99 h100).bind fun v101 h102 =>
 (allocR Prog 31 h102).bind fun v103 h104 =>
 (storeR Prog 31 v103 v101 h104).bind fun _v105 h106 =>
 (fieldAddrR Prog 31 v103 1 h106).bind fun v107 h108 =>
 (loadR Prog 3 v107 h108).bind fun v109 h110 =>
 (binR Prog .and 3 v109 (.int .i64 8192) h110).bind fun v111 h112 =>
 (binR Prog .neq 3 v111 (.int .i64 0) h112).bind fun v113 h114 =>
 condV (some v113) (
 (fieldAddrR Prog 31 v103 2 h114).bind fun v115 h116 =>
 (loadR Prog 3 v115 h116).bind fun v117 h118 =>
 (loopN (ζ71 k call) loopFuel [(5, a5), (8, v117), (30, a30), (31, a31), (32, a32)] h118).bind fun r119 h120 =>
 ζfy k call r119.1 r119.2 h120)
 (
 ζhd k call a5 v103 a30 a31 a32 v113 h114))
 (
 .ok ((.exit 0), [(5, a5), (30, a30), (31, a31), (32, a32), (33, v97)]) h98) :=
 (loopB_eq _ _).trans (by kernel_rfl)
theorem ζim (k : Nat) (call : Caller) (a5 a7 a30 a31 a32 a39 : Value) (h : Heap) : ζhd k call a5 a7 a30 a31 a32 a39 h =
 (binR Prog .add 3 a32 (.int .i64 1) h).bind fun v121 h122 =>
 .ok (.normal, [(5, a5), (30, a30), (31, a31), (32, v121)]) h122 := by kernel_rfl
theorem ζ5q (k : Nat) (call : Caller) (a5 a8 a30 a31 a32 : Value) (h : Heap) : ζ71 k call [(5, a5), (8, a8), (30, a30), (31, a31), (32, a32)] h =
 (nilR a5 h).bind fun v123 h124 =>
 (fieldAddrR Prog 243 v123 1 h124).bind fun v125 h126 =>
 (loadR Prog 55 v125 h126).bind fun v127 h128 =>
 (binR Prog .mul 3 (.int .i64 4) a8 h128).bind fun v129 h130 =>
 (call F.ζ16 [v127, v129] h130).bind fun v131 h132 =>
 (binR Prog .and 3 v131 (.int .i64 2147483648) h132).bind fun v133 h134 =>
 (binR Prog .eql 3 v133 (.int .i64 0) h134).bind fun v135 h136 =>
 condV (some v135) (
 (binR Prog .add 3 a8 (.int .i64 1) h136).bind fun v137 h138 =>
 .ok (.normal, [(5, a5), (8, v137), (30, a30), (31, a31), (32, a32)]) h138)
 (
 .ok ((.exit 2), [(5, a5), (8, a8), (30, a30), (31, a31), (32, a32), (50, v135)]) h136) :=
 (loopB_eq _ _).trans (by kernel_rfl)
theorem ζhf (k : Nat) (call : Caller) (a5 a30 a31 a32 a33 : Value) (h : Heap) : ζfx k call (.exit 0) [(5, a5), (30, a30), (31, a31), (32, a32), (33, a33)] h =
 .ok a5 h := by kernel_rfl
theorem ζhg (k : Nat) (call : Caller) (a5 a8 a30 a31 a32 a50 : Value) (h : Heap) : ζfy k call (.exit 2) [(5, a5), (8, a8), (30, a30), (31, a31), (32, a32), (50, a50)] h =
 ζhe k call a5 a8 a30 a31 a32 a50 h := by kernel_rfl
theorem ζin (k : Nat) (call : Caller) (a5 a8 a30 a31 a32 a50 : Value) (h : Heap) : ζhe k call a5 a8 a30 a31 a32 a50 h =
 (binR Prog .add 3 a32 (.int .i64 1) h).bind fun v139 h140 =>
 .ok (.normal, [(5, a5), (30, a30), (31, a31), (32, v139)]) h140 := by kernel_rfl
def ζ2m (k : Nat) (call : Caller) (a0 a1 a2 : Value) (h : Heap) : Res Value :=
 (loadR Prog 55 a0 h).bind fun v1 h2 =>
 (loadR Prog 3 a1 h2).bind fun v3 h4 =>
 (call F.ζ2i [v1, v3] h4).bind fun v5 h6 =>
 (storeR Prog 99 a2 v5 h6).bind fun _v7 h8 =>
 .ok (.tuple #[]) h8
theorem ζil (k : Nat) (a0 a1 a2 : Value) (h : Heap) : R (T k) F.ζ2m [a0, a1, a2] h = nrm .no h (ζ2m k (R (T k)) a0 a1 a2 h) :=
 (R_body (t := T k) (T_scott k) (by kernel_rfl) (by kernel_rfl) _ _).trans (by kernel_rfl)
def ζ3w (k : Nat) (call : Caller) (a2 a3 a4 a6 : Value) (h : Heap) : Res Value :=
 kSeq (pieceK (C k) call F.ζg [1, 1]) (kDone Prog (resOf Prog F.ζg)) .normal [(2, a2), (3, a3), (4, a4), (6, a6)] h
def ζ3x (k : Nat) (call : Caller) (a0 a2 a3 a4 a6 a16 : Value) (h : Heap) : Res Value :=
 kSeq (pieceK (C k) call F.ζg [1, 1]) (kDone Prog (resOf Prog F.ζg)) .normal [(0, a0), (2, a2), (3, a3), (4, a4), (6, a6), (16, a16)] h
def ζg (k : Nat) (call : Caller) (a0 a1 a2 a3 a4 : Value) (h : Heap) : Res Value :=
 (boxR a1 h).bind fun v1 h2 =>
 (fieldAddrR Prog 31 v1 1 h2).bind fun v3 h4 =>
 (loadR Prog 3 v3 h4).bind fun v5 h6 =>
 (binR Prog .and 3 v5 (.int .i64 32768) h6).bind fun v7 h8 =>
 (binR Prog .neq 3 v7 (.int .i64 0) h8).bind fun v9 h10 =>
 ((bif wantVal v9 true then Res.ok a0 h10 else Res.ok undef h10)).bind fun v11 h12 =>
 ((bif wantVal v9 true then loadR Prog 44 a2 h12 else Res.ok undef h12)).bind fun v13 h14 =>
 ((bif wantVal v9 true then call F.ζ39 [v13] h14 else Res.ok undef h14)).bind fun v15 h16 =>
 ((bif wantVal v9 true then binR Prog .lss 3 v11 v15 h16 else Res.ok undef h16)).bind fun v17 h18 =>
 (condV (some v9) (Res.ok v17 h18) (Res.ok (.bool false) h18)).bind fun v19 h20 =>
 condV (some v19) (
 (call F.ζ19 [a3, a0] h20).bind fun v21 h22 =>
 ζ3w k call a2 a3 a4 v1 h22)
 (
 ζ3x k call a0 a2 a3 a4 v1 v19 h20)
theorem ζ48 (k : Nat) (a0 a1 a2 a3 a4 : Value) (h : Heap) : R (T k) F.ζg [a0, a1, a2, a3, a4] h = nrm .no h (ζg k (R (T k)) a0 a1 a2 a3 a4 h) :=
 (R_body (t := T k) (T_scott k) (by kernel_rfl) (by kernel_rfl) _ _).trans (by kernel_rfl)
theorem ζ4n (k : Nat) (call : Caller) (a2 a3 a4 a6 : Value) (h : Heap) : ζ3w k call a2 a3 a4 a6 h =
 (fieldAddrR Prog 31 a6 1 h).bind fun v23 h24 =>
 (loadR Prog 3 v23 h24).bind fun v25 h26 =>
 (binR Prog .and 3 v25 (.int .i64 8192) h26).bind fun v27 h28 =>
 (binR Prog .neq 3 v27 (.int .i64 0) h28).bind fun v29 h30 =>
 condV (some v29) (
 (loadR Prog 99 a4 h30).bind fun v31 h32 =>
 (loadR Prog 44 a2 h32).bind fun v33 h34 =>
 (fieldAddrR Prog 31 a6 2 h34).bind fun v35 h36 =>
 (loadR Prog 3 v35 h36).bind fun v37 h38 =>
 (call F.ζ7 [v31, v33, a3, v37] h38).bind fun v39 h40 =>
 .ok (.tuple #[]) h40)
 (
 .ok (.tuple #[]) h30) := by kernel_rfl
theorem ζ4o (k : Nat) (call : Caller) (a0 a2 a3 a4 a6 a16 : Value) (h : Heap) : ζ3x k call a0 a2 a3 a4 a6 a16 h =
 (fieldAddrR Prog 31 a6 1 h).bind fun v41 h42 =>
 (loadR Prog 3 v41 h42).bind fun v43 h44 =>
 (binR Prog .and 3 v43 (.int .i64 8192) h44).bind fun v45 h46 =>
 (binR Prog .neq 3 v45 (.int .i64 0) h46).bind fun v47 h48 =>
 condV (some v47) (
 (loadR Prog 99 a4 h48).bind fun v49 h50 =>
 (loadR Prog 44 a2 h50).bind fun v51 h52 =>
 (fieldAddrR Prog 31 a6 2 h52).bind fun v53 h54 =>
 (loadR Prog 3 v53 h54).bind fun v55 h56 =>
 (call F.ζ7 [v49, v51, a3, v55] h56).bind fun v57 h58 =>
 .ok (.tuple #[]) h58)
 (
 .ok (.tuple #[]) h48) := by kernel_rfl
def ζ19 (k : Nat) (call : Caller) (a0 a1 : Value) (h : Heap) : Res Value :=
 (nilR a0 h).bind fun v1 h2 =>
 (loadR Prog 241 v1 h2).bind fun v3 h4 =>
 (builtinV Prog .len [241] [v3] h4).bind fun v5 h6 =>
 (binR Prog .gtr 3 v5 (.int .i64 0) h6).bind fun v7 h8 =>
 ((bif wantVal v7 true then Res.ok a0 h8 else Res.ok undef h8)).bind fun v9 h10 =>
 ((bif wantVal v7 true then nilR v9 h10 else Res.ok undef h10)).bind fun v11 h12 =>
 ((bif wantVal v7 true then loadR Prog 241 v11 h12 else Res.ok undef h12)).bind fun v13 h14 =>
 ((bif wantVal v7 true then Res.ok v5 h14 else Res.ok undef h14)).bind fun v15 h16 =>
 ((bif wantVal v7 true then binR Prog .sub 3 v15 (.int .i64 1) h16 else Res.ok undef h16)).bind fun v17 h18 =>
 ((bif wantVal v7 true then indexAddrR Prog 241 v13 v17 h18 else Res.ok undef h18)).bind fun v19 h20 =>
 ((bif wantVal v7 true then loadR Prog 3 v19 h20 else Res.ok undef h20)).bind fun v21 h22 =>
 ((bif wantVal v7 true then Res.ok a1 h22 else Res.ok undef h22)).bind fun v23 h24 =>
 ((bif wantVal v7 true then binR Prog .eql 3 v21 v23 h24 else Res.ok undef h24)).bind fun v25 h26 =>
 (condV (some v7) (Res.ok v25 h26) (Res.ok (.bool false) h26)).bind fun v27 h28 =>
 condV (some v27) (
 .ok (.tuple #[]) h28)
 (
 (nilR a0 h28).bind fun v29 h30 =>
 (loadR Prog 241 v29 h30).bind fun v31 h32 =>
 (buildSliceR Prog 241 1 [(0, a1)] h32).bind fun v33 h34 =>
 (builtinV Prog .append [241, 241] [v31, v33] h34).bind fun v35 h36 =>
 (nilR a0 h36).bind fun v37 h38 =>
 (storeR Prog 241 v37 v35 h38).bind fun _v39 h40 =>
 (nilR a0 h40).bind fun v41 h42 =>
 (loadR Prog 241 v41 h42).bind fun v43 h44 =>
 (builtinV Prog .len [241] [v43] h44).bind fun v45 h46 =>
 (binR Prog .gtr 3 v45 (.int .i64 64) h46).bind fun v47 h48 =>
 condV (some v47) (
 (nilR a0 h48).bind fun v49 h50 =>
 (loadR Prog 241 v49 h50).bind fun v51 h52 =>
 (sliceR Prog 241 v51 (some (.int .i64 1)) none none h52).bind fun v53 h54 =>
 (nilR a0 h54).bind fun v55 h56 =>
 (storeR Prog 241 v55 v53 h56).bind fun _v57 h58 =>
 .ok (.tuple #[]) h58)
 (
 .ok (.tuple #[]) h48))
theorem ζfd (k : Nat) (a0 a1 : Value) (h : Heap) : R (T k) F.ζ19 [a0, a1] h = nrm .no h (ζ19 k (R (T k)) a0 a1 h) :=
 (R_body (t := T k) (T_scott k) (by kernel_rfl) (by kernel_rfl) _ _).trans (by kernel_rfl)
def ζ3y (k : Nat) (call : Caller) : Env → Heap → Res (AExit × Env) := loopB (C k) call F.ζ7 [1, 1, 0, 0]
def ζ24 (k : Nat) (call : Caller) : Kont Value := kBlock 0 (kDone Prog (resOf Prog F.ζ7))
def ζ6h (k : Nat) (call : Caller) (a0 a1 a2 a3 a8 a9 a10 a12 : Value) (h : Heap) : Res (AExit × Env) :=
 kSeq (pieceK (C k) call F.ζ7 [1, 1, 0, 0, 0, 0, 1, 1, 1, 1, 1, 1, 1, 1]) (kBlock 1 (kSeq (pieceK (C k) call F.ζ7 [1, 1, 0, 0, 1]) (kRound (ownOf (C k) F.ζ7 [1, 1, 0, 0])))) .normal [(0, a0), (1, a1), (2, a2), (3, a3), (8, a8), (9, a9), (10, a10), (12, a12)] h
def ζ6i (k : Nat) (call : Caller) (a0 a1 a2 a3 a8 a9 a10 a12 a58 : Value) (h : Heap) : Res (AExit × Env) :=
 kSeq (pieceK (C k) call F.ζ7 [1, 1, 0, 0, 0, 0, 1, 1, 1, 1, 1, 1, 1, 1]) (kBlock 1 (kSeq (pieceK (C k) call F.ζ7 [1, 1, 0, 0, 1]) (kRound (ownOf (C k) F.ζ7 [1, 1, 0, 0])))) .normal [(0, a0), (1, a1), (2, a2), (3, a3), (8, a8), (9, a9), (10, a10), (12, a12), (58, a58)] h
def ζ7 (k : Nat) (call : Caller) (a0 a1 a2 a3 : Value) (h : Heap) : Res Value :=
 (loopN (ζ3y k call) loopFuel [(0, a0), (1, a1), (2, a2), (3, a3), (8, (.int .i64 0)), (9, (.slice none 0 0))] h).bind fun r1 h2 =>
 ζ24 k call r1.1 r1.2 h2
theorem ζea (k : Nat) (a0 a1 a2 a3 : Value) (h : Heap) : R (T k) F.ζ7 [a0, a1, a2, a3] h = nrm .no h (ζ7 k (R (T k)) a0 a1 a2 a3 h) :=
 (R_body (t := T k) (T_scott k) (by kernel_rfl) (by kernel_rfl) _ _).trans (by kernel_rfl)
theorem ζ1d (k : Nat) (call : Caller) (a0 a1 a2 a3 a8 a9 : Value) (h : Heap) : ζ3y k call [(0, a0), (1, a1), (2, a2), (3, a3), (8, a8), (9, a9)] h =
 (call F.ζ2r [a2] h).bind fun v3 h4 =>
 (extractR v3 0 h4).bind fun v5 h6 =>
 (extractR v3 1 h6).bind fun v7 h8 =>
 (unR .not v7 h8).bind fun v9 h10 =>
 condV (some v9) (
 .ok (.ret, [(0, a0), (1, a1), (2, a2), (3, a3), (8, a8), (9, a9), (10, v5), (24, v9)]) h10)
 (
 (nilR a0 h10).bind fun v11 h12 =>
 (fieldAddrR Prog 243 v11 1 h12).bind fun v13 h14 =>
 (loadR Prog 55 v13 h14).bind fun v15 h16 =>
 (binR Prog .mul 3 (.int .i64 4) a3 h16).bind fun v17 h18 =>
 (call F.ζ16 [v15, v17] h18).bind fun v19 h20 =>
 (call F.ζ3b [a1, v5] h20).bind fun v21 h22 =>
 (extractR v21 0 h22).bind fun v23 h24 =>
 (extractR v21 1 h24).bind fun v25 h26 =>
 (allocR Prog 115 h26).bind fun v27 h28 =>
 (storeR Prog 115 v27 v23 h28).bind fun _v29 h30 =>
 (nilR a0 h30).bindN fun v31 h32 =>
 (fieldAddrR Prog 243 v31 2 h32).bindN fun v33 h34 =>
 (loadR Prog 55 v33 h34).bindN fun v35 h36 =>
 (fieldAddrR Prog 115 v27 0 h36).bindN fun v37 h38 =>
 (loadR Prog 3 v37 h38).bindN fun v39 h40 =>
 (call F.ζ6w [v19] h40).bindT (fun p43 h44 => .panic p43 h44) fun v41 h42 =>
 (binR Prog .add 3 v39 v41 h42).bindN fun v45 h46 =>
 (call F.ζ4r [v35, v45] h46).bindT (fun p49 h50 => chkR ((okVal (loadR Prog 55 v33 h42) v35 && true) && ((okVal (loadR Prog 3 v37 h42) v39 && true) && true)) (.panic p49 h50)) fun v47 h48 =>
 (extractR v47 0 h48).bindN fun v51 h52 =>
 (extractR v47 1 h52).bindN fun v53 h54 =>
 chkR ((okVal (loadR Prog 55 v33 h42) v35 && true) && ((okVal (loadR Prog 3 v37 h42) v39 && true) && true)) (
 (unR .not v53 h54).bind fun v55 h56 =>
 condV (some v55) (
 .ok (.ret, [(0, a0), (1, a1), (2, a2), (3, a3), (8, a8), (9, a9), (10, v5), (12, v19), (15, v51), (52, v55)]) h56)
 (
 (binR Prog .add 3 a8 v51 h56).bind fun v57 h58 =>
 (binR Prog .and 3 v19 (.int .i64 3221225472) h58).bind fun v59 h60 =>
 (binR Prog .neq 3 v59 (.int .i64 0) h60).bind fun v61 h62 =>
 condV (some v61) (
 (call F.ζ1m [a0, a1, v5, v57, a9] h62).bind fun v63 h64 =>
 (unR .not v63 h64).bind fun v65 h66 =>
 condV (some v65) (
 .ok (.ret, [(0, a0), (1, a1), (2, a2), (3, a3), (8, v57), (10, v5), (12, v19), (65, v65)]) h66)
 (
 ζ6h k call a0 a1 a2 a3 v57 (.slice none 0 0) v5 v19 h66))
 (
 ζ6i k call a0 a1 a2 a3 v57 a9 v5 v19 v61 h62)))) :=
 (loopB_eq _ _).trans (by kernel_rfl)
theorem ζ4p (k : Nat) (call : Caller) (a0 a1 a2 a3 a8 a9 a10 a12 : Value) (h : Heap) : ζ6h k call a0 a1 a2 a3 a8 a9 a10 a12 h =
 (binR Prog .and 3 a12 (.int .i64 2147483648) h).bind fun v67 h68 =>
 (binR Prog .neq 3 v67 (.int .i64 0) h68).bind fun v69 h70 =>
 condV (some v69) (
 (call F.ζ19 [a2, a10] h70).bind fun v71 h72 =>
 .ok (.ret, []) h72)
 (
 (buildSliceR Prog 27 1 [(0, a10)] h70).bind fun v73 h74 =>
 (builtinV Prog .append [27, 27] [a9, v73] h74).bind fun v75 h76 =>
 (binR Prog .add 3 a3 (.int .i64 1) h76).bind fun v77 h78 =>
 .ok (.normal, [(0, a0), (1, a1), (2, a2), (3, v77), (8, a8), (9, v75)]) h78) := by kernel_rfl
theorem ζ8y (k : Nat) (call : Caller) (a0 a1 a2 a3 a8 a9 a10 a12 a58 : Value) (h : Heap) : ζ6i k call a0 a1 a2 a3 a8 a9 a10 a12 a58 h =
 (binR Prog .and 3 a12 (.int .i64 2147483648) h).bind fun v79 h80 =>
 (binR Prog .neq 3 v79 (.int .i64 0) h80).bind fun v81 h82 =>
 condV (some v81) (
 (call F.ζ19 [a2, a10] h82).bind fun v83 h84 =>
 .ok (.ret, []) h84)
 (
 (buildSliceR Prog 27 1 [(0, a10)] h82).bind fun v85 h86 =>
 (builtinV Prog .append [27, 27] [a9, v85] h86).bind fun v87 h88 =>
 (binR Prog .add 3 a3 (.int .i64 1) h88).bind fun v89 h90 =>
 .ok (.normal, [(0, a0), (1, a1), (2, a2), (3, v89), (8, a8), (9, v87)]) h90) := by kernel_rfl
theorem ζ8z (k : Nat) (call : Caller) (a0 a1 a2 a3 a8 a9 a10 a24 : Value) (h : Heap) : ζ24 k call .ret [(0, a0), (1, a1), (2, a2), (3, a3), (8, a8), (9, a9), (10, a10), (24, a24)] h =
 .ok (.tuple #[]) h := by kernel_rfl
theorem ζ7v (k : Nat) (call : Caller) (a0 a1 a2 a3 a8 a9 a10 a12 a15 a52 : Value) (h : Heap) : ζ24 k call .ret [(0, a0), (1, a1), (2, a2), (3, a3), (8, a8), (9, a9), (10, a10), (12, a12), (15, a15), (52, a52)] h =
 .ok (.tuple #[]) h := by kernel_rfl
theorem ζ7w (k : Nat) (call : Caller) (a0 a1 a2 a3 a8 a10 a12 a65 : Value) (h : Heap) : ζ24 k call .ret [(0, a0), (1, a1), (2, a2), (3, a3), (8, a8), (10, a10), (12, a12), (65, a65)] h =
 .ok (.tuple #[]) h := by kernel_rfl
theorem ζ7x (k : Nat) (call : Caller) (h : Heap) : ζ24 k call .ret [] h =
 .ok (.tuple #[]) h := by kernel_rfl
def ζ2r (k : Nat) (call : Caller) (a0 : Value) (h : Heap) : Res Value :=
 (nilR a0 h).bind fun v1 h2 =>
 (loadR Prog 241 v1 h2).bind fun v3 h4 =>
 (builtinV Prog .len [241] [v3] h4).bind fun v5 h6 =>
 (binR Prog .eql 3 v5 (.int .i64 0) h6).bind fun v7 h8 =>
 condV (some v7) (
 .ok (.tuple #[(.int .i64 0), (.bool false)]) h8)
 (
 (nilR a0 h8).bind fun v9 h10 =>
 (loadR Prog 241 v9 h10).bind fun v11 h12 =>
 (binR Prog .sub 3 v5 (.int .i64 1) h12).bind fun v13 h14 =>
 (indexAddrR Prog 241 v11 v13 h14).bind fun v15 h16 =>
 (loadR Prog 3 v15 h16).bind fun v17 h18 =>
 (nilR a0 h18).bind fun v19 h20 =>
 (loadR Prog 241 v19 h20).bind fun v21 h22 =>
 (binR Prog .sub 3 v5 (.int .i64 1) h22).bind fun v23 h24 =>
 (sliceR Prog 241 v21 none (some v23) none h24).bind fun v25 h26 =>
 (nilR a0 h26).bind fun v27 h28 =>
 (storeR Prog 241 v27 v25 h28).bind fun _v29 h30 =>
 .ok (.tuple #[v17, (.bool true)]) h30)
theorem ζg4 (k : Nat) (a0 : Value) (h : Heap) : R (T k) F.ζ2r [a0] h = nrm .no h (ζ2r k (R (T k)) a0 h) :=
 (R_body (t := T k) (T_scott k) (by kernel_rfl) (by kernel_rfl) _ _).trans (by kernel_rfl)
def ζ4r (k : Nat) (call : Caller) (a0 a1 : Value) (h : Heap) : Res Value :=
 (boxR a0 h).bind fun v1 h2 =>
 (binR Prog .lss 3 a1 (.int .i64 0) h2).bind fun v3 h4 =>
 ((bif wantVal v3 false then Res.ok a1 h4 else Res.ok undef h4)).bind fun v5 h6 =>
 ((bif wantVal v3 false then loadR Prog 55 v1 h6 else Res.ok undef h6)).bind fun v7 h8 =>
 ((bif wantVal v3 false then call F.ζ4j [v7] h8 else Res.ok undef h8)).bind fun v9 h10 =>
 ((bif wantVal v3 false then binR Prog .quo 3 v9 (.int .i64 2) h10 else Res.ok undef h10)).bind fun v11 h12 =>
 ((bif wantVal v3 false then binR Prog .geq 3 v5 v11 h12 else Res.ok undef h12)).bind fun v13 h14 =>
 (condV (some v3) (Res.ok (.bool true) h14) (Res.ok v13 h14)).bind fun v15 h16 =>
 condV (some v15) (
 .ok (.tuple #[(.int .i64 0), (.bool false)]) h16)
 (
 (loadR Prog 55 v1 h16).bind fun v17 h18 =>
 (binR Prog .mul 3 (.int .i64 2) a1 h18).bind fun v19 h20 =>
 (call F.ζc [v17, v19] h20).bind fun v21 h22 =>
 .ok (.tuple #[v21, (.bool true)]) h22)
theorem ζlk (k : Nat) (a0 a1 : Value) (h : Heap) : R (T k) F.ζ4r [a0, a1] h = nrm .gc h (ζ4r k (R (T k)) a0 a1 h) :=
 (R_body (t := T k) (T_scott k) (by kernel_rfl) (by kernel_rfl) _ _).trans (by kernel_rfl)
def ζ6w (k : Nat) (call : Caller) (a0 : Value) (h : Heap) : Res Value :=
 (convR Prog 3 117 a0 h).bind fun v1 h2 =>
 (binR Prog .shl 117 v1 (.int .u64 2) h2).bind fun v3 h4 =>
 (convR Prog 117 21 v3 h4).bind fun v5 h6 =>
 (convR Prog 21 3 v5 h6).bind fun v7 h8 =>
 (binR Prog .shr 3 v7 (.int .u64 2) h8).bind fun v9 h10 =>
 .ok v9 h10
theorem ζkm (k : Nat) (a0 : Value) (h : Heap) : R (T k) F.ζ6w [a0] h = nrm .gc h (ζ6w k (R (T k)) a0 h) :=
 (R_body (t := T k) (T_scott k) (by kernel_rfl) (by kernel_rfl) _ _).trans (by kernel_rfl)
def ζ4q (k : Nat) (call : Caller) : Env → Heap → Res (AExit × Env) := loopB (C k) call F.ζ1m [1, 1, 1, 1, 1, 0, 1, 0, 0]
def ζ6z (k : Nat) (call : Caller) : Kont Value := kBlock 0 (kSeq (pieceK (C k) call F.ζ1m [1, 1, 1, 1, 1, 1]) (kDone Prog (resOf Prog F.ζ1m)))
def ζ1m (k : Nat) (call : Caller) (a0 a1 a2 a3 a4 : Value) (h : Heap) : Res Value :=
 (nilR a0 h).bind fun v1 h2 =>
 (fieldAddrR Prog 243 v1 3 h2).bind fun v3 h4 =>
 (loadR Prog 55 v3 h4).bind fun v5 h6 =>
 (call F.ζ4r [v5, a3] h6).bind fun v7 h8 =>
 (extractR v7 0 h8).bind fun v9 h10 =>
 (extractR v7 1 h10).bind fun v11 h12 =>
 (unR .not v11 h12).bind fun v13 h14 =>
 condV (some v13) (
 .ok (.bool false) h14)
 (
 (call F.ζ3a [a1, a2, v9] h14).bind fun v15 h16 =>
 (call F.ζ1e [a1, a2, a4] h16).bind fun v17 h18 =>
 (builtinV Prog .len [27] [a4] h18).bind fun v19 h20 =>
 (loopN (ζ4q k call) loopFuel [(1, a1), (34, a4), (35, v19), (36, (.int .i64 0))] h20).bind fun r21 h22 =>
 ζ6z k call r21.1 r21.2 h22)
theorem ζfc (k : Nat) (a0 a1 a2 a3 a4 : Value) (h : Heap) : R (T k) F.ζ1m [a0, a1, a2, a3, a4] h = nrm .no h (ζ1m k (R (T k)) a0 a1 a2 a3 a4 h) :=
 (R_body (t := T k) (T_scott k) (by kernel_rfl) (by kernel_rfl) _ _).trans (by kernel_rfl)
theorem ζ5u (k : Nat) (call : Caller) (a1 a34 a35 a36 : Value) (h : Heap) : ζ4q k call [(1, a1), (34, a34), (35, a35), (36, a36)] h =
 (binR Prog .lss 3 a36 a35 h).bind fun v23 h24 =>
 condV (some v23) (
 (indexAddrR Prog 27 a34 a36 h24).bind fun v25 h26 =>
 (loadR Prog 3 v25 h26).bind fun v27 h28 =>
 (call F.ζ3a [a1, v27, (.int .i64 65535)] h28).bind fun v29 h30 =>
 (binR Prog .add 3 a36 (.int .i64 1) h30).bind fun v31 h32 =>
 .ok (.normal, [(1, a1), (34, a34), (35, a35), (36, v31)]) h32)
 (
 .ok ((.exit 0), [(1, a1), (34, a34), (35, a35), (36, a36), (37, v23)]) h24) :=
 (loopB_eq _ _).trans (by kernel_rfl)
theorem ζ9l (k : Nat) (call : Caller) (a1 a34 a35 a36 a37 : Value) (h : Heap) : ζ6z k call (.exit 0) [(1, a1), (34, a34), (35, a35), (36, a36), (37, a37)] h =
 .ok (.bool true) h := by kernel_rfl
end
end Go.Sw
end
section
namespace Go.Sw
open Go.RowKit
abbrev ligaC (t : LTab) : List Value := [machV t.m, lv encB t.acts, lv encB t.comps, lv encB t.ligs]
abbrev ligaV (t : LTab) : Value := boxV (ligaC t).toArray
theorem Flat.liga (t : LTab) : Flat (ligaV t) := .boxV (.cons (Flat.mach t.m) (.cons (Flat.B _) (.cons (Flat.B _) (.cons (Flat.B _) .nil))))
theorem ζn8 (k : Nat) {vs : List Int} (hb : Byt vs) (hl : vs.length < 2 ^ 31) {p : Nat} (a : Int) (ha : 0 ≤ a ∧ a < 65536) {m c2 c3 : Value} (a30 a31 a32 : Value) {H : Heap} (hp : H.get p = some ⟨[m, lv encB vs, c2, c3], 1, false⟩) :
  (∃ z, loopN (ζ71 k (R (T k))) loopFuel [(5, ptrV p), (8, .int .i64 a), (30, a30), (31, a31), (32, a32)] H = .ok (.exit 2, [(5, ptrV p), (8, z), (30, a30), (31, a31), (32, a32), (50, .bool false)]) H ∧ lastB vs a = true) ∨
  (loopN (ζ71 k (R (T k))) loopFuel [(5, ptrV p), (8, .int .i64 a), (30, a30), (31, a31), (32, a32)] H = .panic failV H ∧ lastB vs a = false) := by
 have hU := fun i H' => U32_run k (H := H') (Sl.lv H' 1 vs) hb i (by omega)
 rcases loop_upP (body := ζ71 k (R (T k))) vs.length
  (fun j e' H' => e' = [(5, ptrV p), (8, .int .i64 (a + j)), (30, a30), (31, a31), (32, a32)] ∧ H' = H ∧ ∀ i : Nat, a ≤ i → (i : Int) < a + j → ¬ gU vs (4 * (i : Int)) 4 ≥ 2147483648)
  (fun xx e' H' => xx = .exit 2 ∧ (∃ z, e' = [(5, ptrV p), (8, z), (30, a30), (31, a31), (32, a32), (50, .bool false)]) ∧ H' = H ∧ lastB vs a = true)
  (fun v H' => v = failV ∧ H' = H ∧ lastB vs a = false)
  (fun j e' H' hj ⟨he', hH, hno⟩ => by
   subst he' hH;cases hu : uS vs (4 * (a + j)) 4 with
   | none =>
    have h32 := hU (4 * (a + j)) H';rw [hu] at h32;refine .inr (.inr ⟨failV, H', ?_, rfl, rfl, ?_⟩)
    ·rw [ζ5q];simp -implicitDefEqProofs (disch := omega) [hp, h32, orF]
    ·rw [Bool.eq_false_iff];intro ho;obtain ⟨i, i1, i2, i3⟩ := ζ4m.1 ho;by_cases hij : (i : Int) < a + j
     ·exact hno i i1 hij i3
     ·unfold uS pieceS at hu;rw [if_pos ⟨by omega, by omega, by omega, by omega⟩] at hu;simp at hu
   | some x =>
    have h32 := hU (4 * (a + j)) H';rw [hu] at h32;have hg := gU_some hu;have hxb := uS_four hb hu;have an := fun H => and31 Prog 3 H hxb.1 hxb.2;by_cases d : x ≥ 2147483648
    ·rw [if_pos d] at an;refine .inr (.inl ⟨.exit 2, _, H', ?_, by simp, rfl, ⟨.int .i64 (a + j), rfl⟩, rfl, ?_⟩)
     ·rw [ζ5q];simp -implicitDefEqProofs (disch := omega) [hp, h32, orF, an]
     ·refine ζ4m.2 ⟨(a + j).toNat, by omega, ?_, ?_⟩
      ·have := uS_fits hu;omega
      ·rw [show (((a + j).toNat : Nat) : Int) = a + j by omega, hg];exact d
    ·rw [if_neg d] at an;have hj1 : a + ((j + 1 : Nat) : Int) = a + j + 1 := by omega
     refine .inl ⟨_, H', ?_, rfl, rfl, fun i i1 i2 => ?_⟩
     ·rw [ζ5q, hj1];simp -implicitDefEqProofs (disch := omega) [hp, h32, orF, an]
     ·by_cases hij : (i : Int) < a + j
      ·exact hno i i1 hij
      ·rw [show (i : Int) = a + j by omega, hg];exact d)
  (fun e' H' ⟨he', hH, hno⟩ => by
   subst he' hH;have hu : uS vs (4 * (a + vs.length)) 4 = none := by
    cases h : uS vs (4 * (a + vs.length)) 4 with
    | none => rfl
    | some x =>
     have := uS_fits h;omega
   have h32 := hU (4 * (a + vs.length)) H';rw [hu] at h32;refine .inr ⟨failV, H', ?_, rfl, rfl, ?_⟩
   ·rw [ζ5q];simp -implicitDefEqProofs (disch := omega) [hp, h32, orF]
   ·rw [Bool.eq_false_iff];intro ho;obtain ⟨i, i1, i2, i3⟩ := ζ4m.1 ho;exact hno i i1 (by omega) i3) loopFuel 0 [(5, ptrV p), (8, .int .i64 a), (30, a30), (31, a31), (32, a32)] H (Nat.zero_le _) (by unfold loopFuel; omega) ⟨by simp, rfl, fun i i1 i2 => by omega⟩ with ⟨xx, e', H1, hr, rfl, ⟨z, rfl⟩, rfl, hE⟩ | ⟨v, H1, hr, rfl, rfl, hE⟩
 ·exact .inl ⟨z, hr, hE⟩
 ·exact .inr ⟨hr, hE⟩
theorem ζn7 (k : Nat) {vs : List Int} (hb : Byt vs) (hl : vs.length < 2 ^ 31) {p : Nat} {es : List En} (hes : ∀ e, e ∈ es → (0 ≤ e.a ∧ e.a < 65536) ∧ 0 ≤ e.flags ∧ e.flags < 65536) (hel : es.length < 2 ^ 40) {m c2 c3 : Value} {H : Heap} (hp : H.get p = some ⟨[m, lv encB vs, c2, c3], 1, false⟩) :
  (∃ z H', loopN (ζ70 k (R (T k))) loopFuel [(5, ptrV p), (30, lv encEn es), (31, .int .i64 es.length), (32, .int .i64 0)] H = .ok (.exit 0, [(5, ptrV p), (30, lv encEn es), (31, .int .i64 es.length), (32, z), (33, .bool false)]) H' ∧ Ext H H' ∧ es.all (entLast vs) = true) ∨
  (∃ H', loopN (ζ70 k (R (T k))) loopFuel [(5, ptrV p), (30, lv encEn es), (31, .int .i64 es.length), (32, .int .i64 0)] H = .panic failV H' ∧ Ext H H' ∧ es.all (entLast vs) = false) := by
 rcases loop_upP (body := ζ70 k (R (T k))) es.length
  (fun j e' H' => e' = [(5, ptrV p), (30, lv encEn es), (31, .int .i64 es.length), (32, .int .i64 j)] ∧ Ext H H' ∧ (es.take j).all (entLast vs) = true)
  (fun xx e' H' => xx = .exit 0 ∧ (∃ z, e' = [(5, ptrV p), (30, lv encEn es), (31, .int .i64 es.length), (32, z), (33, .bool false)]) ∧ Ext H H' ∧ es.all (entLast vs) = true)
  (fun v H' => v = failV ∧ Ext H H' ∧ es.all (entLast vs) = false)
  (fun j e' H' hj ⟨he', hx, hall⟩ => by
   subst he';have hjl : (j : Int) < es.length := by omega
   obtain ⟨en, hen⟩ : ∃ en, es[j]? = some en := ⟨_, List.getElem?_eq_getElem hj⟩
   have hmem := List.mem_of_getElem? hen;obtain ⟨hea, hf0, hf1⟩ := hes en hmem;have i1 := fun H' => ixS_lvN ζ8x es .i64 j en hen H';have hx2 : Ext H (H'.push ⟨encEn en, 1, false⟩) := hx.push _;have an := fun H => and13 Prog 3 H hf0 hf1;by_cases c : en.flags / 8192 % 2 = 1
   ·rw [if_pos c] at an;have hEv : entLast vs en = lastB vs en.a := by unfold entLast; rw [decide_eq_false (fun hh => hh c)]; rfl
    rcases ζn8 k hb hl en.a hea (p := p) (m := m) (c2 := c2) (c3 := c3) (lv encEn es) (.int .i64 es.length) (.int .i64 j) (hx2.get hp) with ⟨z, e2, hE⟩ | ⟨e2, hE⟩
    ·refine .inl ⟨_, _, ?_, rfl, hx2, ?_⟩
     ·rw [ζ5p];simp -implicitDefEqProofs (disch := omega) [hjl, i1, an, e2, ζhg, ζin]
     ·rw [ζ2p hen, List.all_append, hall];simp [hEv, hE]
    ·refine .inr (.inr ⟨failV, _, ?_, rfl, hx2, ?_⟩)
     ·rw [ζ5p];simp -implicitDefEqProofs (disch := omega) [hjl, i1, an, e2]
     ·rw [Bool.eq_false_iff];intro h;have := List.all_eq_true.1 h en hmem;rw [hEv, hE] at this;cases this
   ·rw [if_neg c] at an;have hEv : entLast vs en = true := by unfold entLast; rw [decide_eq_true c]; rfl
    refine .inl ⟨_, _, ?_, rfl, hx2, ?_⟩
    ·rw [ζ5p];simp -implicitDefEqProofs (disch := omega) [hjl, i1, an, ζim]
    ·rw [ζ2p hen, List.all_append, hall];simp [hEv])
  (fun e' H' ⟨he', hx, hall⟩ => by
   subst he';rw [List.take_length] at hall;refine .inl ⟨.exit 0, _, H', ?_, by simp, rfl, ⟨.int .i64 es.length, rfl⟩, hx, hall⟩;rw [ζ5p];simp -implicitDefEqProofs) loopFuel 0 [(5, ptrV p), (30, lv encEn es), (31, .int .i64 es.length), (32, .int .i64 0)] H (Nat.zero_le _) (by unfold loopFuel; omega) ⟨rfl, Ext.refl _, rfl⟩ with ⟨xx, e', H1, hr, rfl, ⟨z, rfl⟩, hx, hE⟩ | ⟨v, H1, hr, rfl, hx, hE⟩
 ·exact .inl ⟨z, H1, hr, hx, hE⟩
 ·exact .inr ⟨H1, hr, hx, hE⟩
theorem ζlj (k : Nat) (hk : k < 1000000) (b : List Int) (hb : Byt b) (g : Int) (hg : 1 ≤ g ∧ g ≤ 65535) (hl : b.length < 2 ^ 31) (H : Heap) : R (T k) F.ζ2i [vwB b, .int .i64 g] H = orF (ligaS b g) ligaV H := by
 rw [ζna];have hx : Ext H (H.push ⟨[lv encB b], 1, false⟩) := (Ext.refl H).push _;have hvb : veq (vwB b) (vwB b) = true := veq_agg (l := [lv encB b]) fun u hu => by simp at hu; subst hu; exact veq_B b
 refine fz_orF ?_ fun _ _ => (Flat.liga _).alive;unfold ligaS listAt;simp only [Option.bind_assoc];simp -implicitDefEqProofs (disch := omega) [ζ2i];refine Cp.callT (ζlb k (Sl.lv _ 1 b) hb g 1 hg.1 hg.2 (.inr (.inl rfl)) hl) (fun _ => ⟨_, by simp -implicitDefEqProofs (disch := omega) [hvb], hx⟩) fun m hm => ?_;have hok := machS_ok hb hg.1 hg.2 (by omega) hm;simp -implicitDefEqProofs (disch := omega) [hvb];refine Cp.callT (U32_run k (Sl.lv _ 1 b) hb 16 (by omega)) (fun _ => ⟨_, by simp -implicitDefEqProofs (disch := omega) [hvb], hx⟩) fun p hp => ?_;have hp := uS_four hb hp;simp -implicitDefEqProofs (disch := omega) [hvb];refine Cp.callT (Rest_lv k b p (by omega) (by omega) _) (fun _ => ⟨_, by simp -implicitDefEqProofs (disch := omega) [hvb], hx⟩) fun sa hsa => ?_;have lsa := ζ7o hsa;simp -implicitDefEqProofs (disch := omega) [hvb];refine Cp.callT (U32_run k (Sl.lv _ 1 b) hb 20 (by omega)) (fun _ => ⟨_, by simp -implicitDefEqProofs (disch := omega) [hvb], hx⟩) fun p2 hp2 => ?_;have hp2 := uS_four hb hp2;simp -implicitDefEqProofs (disch := omega) [hvb];refine Cp.callT (Rest_lv k b p2 (by omega) (by omega) _) (fun _ => ⟨_, by simp -implicitDefEqProofs (disch := omega) [hvb], hx⟩) fun sc hsc => ?_;have lsc := ζ7o hsc;simp -implicitDefEqProofs (disch := omega) [hvb];refine Cp.callT (U32_run k (Sl.lv _ 1 b) hb 24 (by omega)) (fun _ => ⟨_, by simp -implicitDefEqProofs (disch := omega) [hvb], hx⟩) fun p3 hp3 => ?_;have hp3 := uS_four hb hp3;simp -implicitDefEqProofs (disch := omega) [hvb];refine Cp.callT (Rest_lv k b p3 (by omega) (by omega) _) (fun _ => ⟨_, by simp -implicitDefEqProofs (disch := omega) [hvb], hx⟩) fun sl hsl => ?_;have lsl := ζ7o hsl;have hent := fun H' => ζmt k hk m hok.elen H';have hes : ∀ e, e ∈ m.ents → (0 ≤ e.a ∧ e.a < 65536) ∧ 0 ≤ e.flags ∧ e.flags < 65536 := fun e he => by have := hok.ent e he; omega
 have hx2 : Ext H ((H.push ⟨[lv encB b], 1, false⟩).push ⟨[machV m, lv encB sa, lv encB sc, lv encB sl], 1, false⟩) := hx.push _;have hpg : ((H.push ⟨[lv encB b], 1, false⟩).push ⟨[machV m, lv encB sa, lv encB sc, lv encB sl], 1, false⟩).get (H.n + 1) = some ⟨[machV m, lv encB sa, lv encB sc, lv encB sl], 1, false⟩ := ζb _ _ _ (by simp);simp -implicitDefEqProofs (disch := omega) [hvb, hent];rcases ζn7 k (hb.rest hsa) (by omega) hes (by have := hok.elen; omega) hpg with ⟨z, H2, e2, hx3, hall⟩ | ⟨H2, e2, hx3, hall⟩
 ·rw [if_pos (List.all_eq_true.1 hall)];simp -implicitDefEqProofs (disch := omega) [e2, ζhf];refine .ok (hx2.trans hx3) ?_;exact ⟨_, fz_box (by omega) (hx3.get hpg) (ζ14 (v := machV m) (u := machV m) (L1 := []) rfl (ζ14 (v := lv encB sa) (u := lv encB sa) (L1 := []) rfl (ζ14 (v := lv encB sc) (u := lv encB sc) (L1 := []) rfl (mapF_one (v := lv encB sl) (u := lv encB sl) (L := []) rfl))))⟩
 ·rw [if_neg (fun hc => by rw [List.all_eq_true.2 hc] at hall; cases hall)];simp -implicitDefEqProofs (disch := omega) [e2];exact ⟨H2, rfl, hx2.trans hx3⟩
end Go.Sw
end
section
namespace Go.Sw
open Go.RowKit
def ligaP (o : Option LTab) : Value := match o with | some t => ligaV t | none => .pointer none
theorem ζoc (o : Option LTab) : Flat (ligaP o) := by
 cases o with
 | none => exact .nilPtr
 | some t => exact Flat.liga t
theorem ζll (k : Nat) {H : Heap} (b : List Int) (hb : Byt b) (g : Int) (hg : 1 ≤ g ∧ g ≤ 65535) (hl : b.length < 2 ^ 31) (p2 p3 p4 : Nat) (old : Value)
  (h2 : H.get p2 = some ⟨[lv encB b], 1, false⟩) (h3 : H.get p3 = some ⟨[.int .i64 g], 1, false⟩) (h4 : H.get p4 = some ⟨[old], 1, false⟩) (ht : ∀ H', R (T k) F.ζ2i [vwB b, .int .i64 g] H' = orF (ligaS b g) ligaV H') :
  R (T k) F.ζ2m [ptrV p2, ptrV p3, ptrV p4] H = match ligaS b g with
   | some t => .ok (.tuple #[]) (H.set p4 (some ⟨[ligaV t], 1, false⟩))
   | none => .panic failV H := by
 rw [ζil];have ht := ht H;cases h : ligaS b g with
 | none =>
  rw [h] at ht;refine ζ1k ⟨H, ?_, Ext.refl H⟩ Flat.fail.alive;simp -implicitDefEqProofs (disch := omega) [ζ2m, h2, h3, ht]
 | some x =>
  rw [h] at ht;simp -implicitDefEqProofs (disch := omega) [ζ2m, h2, h3, h4, ht]
def ligaO (b : List Int) (g : Int) : Option LTab := if 1 ≤ g ∧ g ≤ 65535 then ligaS b g else none
def ligaN (b : List Int) (g : Int) : Int := if 1 ≤ g ∧ g ≤ 65535 then (if (ligaS b g).isSome then 0 else 2) else 1
theorem ζlh (k : Nat) {H : Heap} {v : Value} {b : List Int} (hv : Sl H 1 v encB b) (hb : Byt b) (g : Int) (hl : b.length ≤ 2 ^ 30) (ht : (1 ≤ g ∧ g ≤ 65535) → ∀ H', R (T k) F.ζ2i [vwB b, .int .i64 g] H' = orF (ligaS b g) ligaV H') :
  R (T k) F.ζ6s [v, .int .i64 g] H = .ok (.tuple #[ligaP (ligaO b g), .int .i64 (ligaN b g)]) H := by
 rw [ζn9];have hx2 := (Ext.refl H).push ⟨[.int .i64 g], 1, false⟩;have al : ∀ o n, Alive H (.tuple #[ligaP o, .int .i64 n]) := fun o n => (Flat.tupleL (l := [ligaP o, .int .i64 n]) (.cons (ζoc o) (.cons (.int _ _) .nil))).alive;have fz : ∀ H' o n, fzV H.n H' fzDepth (.tuple #[ligaP o, .int .i64 n]) = some (.tuple #[ligaP o, .int .i64 n], []) := fun H' o n => by
  cases o <;> rfl
 by_cases hgg : 1 ≤ g ∧ g ≤ 65535
 ·have c1 : ¬ g < 1 := by omega
  have c2 : ¬ g > 65535 := by omega
  have hx3 := hx2.push ⟨[.pointer none], 1, false⟩;have o3 := Of_run k (hv.up hx3);have by3 := ζp0 k (hv.up hx3) hl;have o4 := fun H => Of_lv k b H;have hin := ζll k (H := ((H.push ⟨[.int .i64 g], 1, false⟩).push ⟨[.pointer none], 1, false⟩).push ⟨[lv encB b], 1, false⟩) b hb g hgg (by omega) (H.n + 2) H.n (H.n + 1) (.pointer none) (by simp) (by simp) (by simp) (ht hgg);cases hlk : ligaS b g with
  | none =>
   rw [hlk] at hin;have ht := Try_no k F.ζ2m #[ptrV (H.n + 2), ptrV H.n, ptrV (H.n + 1)] hin;refine nrm_fz (H' := ((H.push ⟨[.int .i64 g], 1, false⟩).push ⟨[.pointer none], 1, false⟩).push ⟨[lv encB b], 1, false⟩) (v := .tuple #[ligaP none, .int .i64 2]) ?_ (by unfold ligaO ligaN; rw [if_pos hgg, if_pos hgg, hlk]; exact fz _ _ _) (hx3.push _) (al _ _);simp -implicitDefEqProofs (disch := omega) [ζ6s, c1, c2, o3, by3, o4, ht, ligaP]
  | some x =>
   rw [hlk] at hin;have ht := Try_ok k F.ζ2m #[ptrV (H.n + 2), ptrV H.n, ptrV (H.n + 1)] hin;refine nrm_fz (H' := ((H.push ⟨[.int .i64 g], 1, false⟩).push ⟨[ligaV x], 1, false⟩).push ⟨[lv encB b], 1, false⟩) (v := .tuple #[ligaP (some x), .int .i64 0]) ?_ (by unfold ligaO ligaN; rw [if_pos hgg, if_pos hgg, hlk]; exact fz _ _ _) ((hx2.push _).push _) (al _ _);simp at ht;simp -implicitDefEqProofs (disch := omega) [ζ6s, c1, c2, o3, by3, o4, ht, ligaP]
 ·refine nrm_fz (H' := (H.push ⟨[.int .i64 g], 1, false⟩).push ⟨[.pointer none], 1, false⟩) (v := .tuple #[ligaP none, .int .i64 1]) ?_ (by unfold ligaO ligaN; rw [if_neg hgg, if_neg hgg]; exact fz _ _ _) (hx2.push _) (al _ _);by_cases c1 : g < 1
  ·simp -implicitDefEqProofs (disch := omega) [ζ6s, c1, ligaP]
  ·have c2 : g > 65535 := by omega
   simp -implicitDefEqProofs (disch := omega) [ζ6s, c1, c2, ligaP]
end Go.Sw
end
section
namespace Go.Sw
open Go.RowKit
end Go.Sw
end
