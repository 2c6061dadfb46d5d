/-
  Functions' forms, and what is proved of them, part 9.
-/
import Derived.Test.YtnaodjnimkndbaaSwW8
import Derived.Test.YtnaodjnimkndbaaSwW5
import Derived.Test.YtnaodjnimkndbaaSwW7
import Derived.Test.YtnaodjnimkndbaaSwCfg
import Derived.Test.YtnaodjnimkndbaaSwLib8
import Derived.Tactics
import Derived.Tactics2
import Derived.Defers
import Derived.Recover
import Derived.Laws.Pointers
import Derived.Test.YtnaodjnimkndbaaSwW2
set_option linter.unusedSimpArgs false
set_option linter.unusedVariables false
set_option linter.unusedSectionVars false
section
namespace Go.Sw
open Go.RowKit
theorem veq_RP (l : List RP) : veq (lv encRP l) (lv encRP l) = true := veq_lv fun p _ v hv => by
 simp [encRP] at hv
 rcases hv with rfl | rfl | rfl | rfl | rfl <;> simp
theorem veq_rm (r : RMach) : veq (rmV r) (rmV r) = true := veq_agg fun v hv => by
 simp [rmCells] at hv
 rcases hv with rfl | rfl | rfl | rfl | rfl | rfl | rfl | rfl | rfl
 ·simp
 ·simp
 ·simp
 ·simp
 ·simp
 ·simp
 ·simp
 ·simp
 ·exact veq_RP _
theorem ζnd (k : Nat) {b : List Int} (hb : Byt b) {g w : Int} (hw : w = 0 ∨ w = 1 ∨ w = 2) (hl : b.length < 2 ^ 31) {m : Mach} (hm : m.ok) (h : machS b g w = some m) (s c : Int) (H : Heap) :
  R (T k) F.ζ15 [rmV (rmOf b g w m), .int .i64 s, .int .i64 c] H = .ok (.tuple #[encEA (stepS m s c), .bool (stepS m s c).isSome]) H := by
 rw [ζdb]
 have fl : Flat (.tuple #[encEA (stepS m s c), .bool (stepS m s c).isSome]) := .tupleL (.cons (ζe1 _) (.cons (.bool _) .nil))
 have no : ¬ (0 ≤ s ∧ s < m.rows.length ∧ 0 ≤ c ∧ c < m.classes) → stepS m s c = none := fun h => by unfold stepS; rw [if_neg h]
 have hx1 : Ext H (H.push ⟨rmCells b m.classes (gU b 8 4) (gU b 12 4) m.rows.length m.ents.length w (b.drop (gU b 4 4).toNat) ((refReadS (b.drop (gU b 4 4).toNat) g 2).getD []), 1, false⟩) := (Ext.refl H).push _
 have hx := hx1.push ⟨[.int .i64 0, .int .i64 0, .int .i64 0, .int .i64 0], 1, false⟩
 obtain ⟨r, hr⟩ : ∃ r, r = rmOf b g w m := ⟨_, rfl⟩
 have hent := fun i h0 h6 e he H => ζh8 k hb (g := g) hw hl h (i := i) h0 h6 (e := e) he H
 rw [← hr] at hent ⊢
 have r1 : r.states = m.rows.length := by rw [hr]; rfl
 have r2 : r.cl = m.classes := by rw [hr]; rfl
 have r3 : r.rowsAt = gU b 8 4 := by rw [hr]; rfl
 have r4 : r.b = b := by rw [hr]; rfl
 have hx1 : Ext H (H.push ⟨rmCells r.b r.cl r.rowsAt r.entsAt r.states r.n r.words r.tb r.parts, 1, false⟩) := (Ext.refl H).push _
 have hx := hx1.push ⟨[.int .i64 0, .int .i64 0, .int .i64 0, .int .i64 0], 1, false⟩
 have hcl := hm.cl
 by_cases h1 : s < 0
 ·rw [no (by omega)] at fl ⊢
  refine nrm_gc ⟨_, ?_, hx⟩ fl.alive
  simp -implicitDefEqProofs (disch := omega) [ζ15, h1, encEA]
 by_cases h2 : s ≥ m.rows.length
 ·rw [no (by omega)] at fl ⊢
  refine nrm_gc ⟨_, ?_, hx⟩ fl.alive
  simp -implicitDefEqProofs (disch := omega) [ζ15, h1, h2, r1, encEA]
 by_cases h3 : c < 0
 ·rw [no (by omega)] at fl ⊢
  refine nrm_gc ⟨_, ?_, hx⟩ fl.alive
  simp -implicitDefEqProofs (disch := omega) [ζ15, h1, h2, h3, r1, encEA]
 by_cases h4 : c ≥ m.classes
 ·rw [no (by omega)] at fl ⊢
  refine nrm_gc ⟨_, ?_, hx⟩ fl.alive
  simp -implicitDefEqProofs (disch := omega) [ζ15, h1, h2, h3, h4, r1, r2, encEA]
 obtain ⟨row, x, e, hrow, hxx, hx0, he, hs⟩ := ζes hm (s := s) (c := c) (by omega)
 rw [hs] at fl ⊢
 obtain ⟨hj, _, _, hat⟩ := mach_at hb (by omega) h
 have hpos := hat s.toNat c.toNat row x hrow hxx
 have hxm := (hm.row row (List.mem_of_getElem? hrow)).2 x (List.mem_of_getElem? hxx)
 have hel := hm.elen
 have htwo := hm.two
 obtain ⟨s, rfl⟩ := Int.eq_ofNat_of_zero_le (show 0 ≤ s by omega)
 obtain ⟨c, rfl⟩ := Int.eq_ofNat_of_zero_le (show 0 ≤ c by omega)
 simp only [Int.toNat_natCast] at hpos
 have hm0 : 0 ≤ (s : Int) * m.classes := Int.mul_nonneg (by omega) (by omega)
 have hm1 : (s : Int) * m.classes ≤ 65536 * 65535 := Int.mul_le_mul (by omega) (by omega) (by omega) (by omega)
 have hpe : gU b 8 4 + (m.classes * (s : Int) + (c : Nat)) * 2 = gU b 8 4 + 2 * ((s : Int) * m.classes + (c : Int)) := by rw [Int.mul_comm m.classes]; omega
 rw [hpe] at hpos
 have hU := fun j H' => refU_run k (H := H') (Sl.lv H' 1 b) hb j 2 (by omega) (by omega)
 have hu : ∀ H', R (T k) F.ζ1 [lv encB b, .int .i64 (gU b 8 4 + 2 * ((s : Int) * m.classes + (c : Int))), .int .i64 2] H' = .ok (.int .i64 x) H' := fun H' => by
  rw [hU]; unfold gU at hpos; rw [hpos]; rfl
 have he' := hent x hx0 (by omega) e he
 have hq := veq_rm r
 refine nrm_gc ⟨(H.push ⟨rmCells r.b r.cl r.rowsAt r.entsAt r.states r.n r.words r.tb r.parts, 1, false⟩).push ⟨encEn e, 1, false⟩, ?_, hx1.push _⟩ fl.alive
 simp only [rmV, rmCells, r1, r2, r3, r4] at he' hq ⊢
 simp -implicitDefEqProofs (disch := omega) at he' hq ⊢
 simp -implicitDefEqProofs (disch := omega) [ζ15, h1, h2, h3, h4, hu, he', hq, encEA]
end Go.Sw
end
section
namespace Go.Sw
open Go.RowKit
theorem ζil {p : Plan} (hp : p.ok) (w : Int) {rm : List Int} (hrm : Byt rm) : Byt (planRoom p w rm) := by
 have tw : ∀ l, Byt (twos l) := fun l => Byt.flat fun r hr => by obtain ⟨c, _, rfl⟩ := List.mem_map.1 hr; exact ζy _ _
 unfold planRoom
 refine (ζy _ _).app ((ζy _ _).app ((ζy _ _).app ((ζy _ _).app (hrm.app (Byt.app ?_ (Byt.app ?_ ?_))))))
 ·unfold ofS
  exact (((ζy _ _).app (ζy _ _)).app (ζy _ _)).app (tw _)
 ·exact Byt.flat fun r hr => by obtain ⟨c, _, rfl⟩ := List.mem_map.1 hr; exact tw _
 ·refine Byt.flat fun r hr => ?_
  obtain ⟨e, _, rfl⟩ := List.mem_map.1 hr
  unfold entB
  refine (((ζy _ _).app (ζy _ _)).app ?_).app ?_
  ·split
   ·exact ζy _ _
   ·exact Byt.nil
  ·split
   ·exact ζy _ _
   ·exact Byt.nil
theorem ζba {p : Plan} (hp : p.ok) (w : Int) {rm : List Int} (hrm : rm.length ≤ 1000) (h1 : p.cls.length ≤ 1000) (h2 : p.rows.length ≤ 1000) (h3 : p.ents.length ≤ 1000) : (planRoom p w rm).length ≤ 100000 := by
 have hN := planN_eq p hp.2.2
 have hofl : (ofS p.cls).length = 6 + p.cls.length * 2 := by unfold ofS; simp [twos_len]; omega
 have hrl : (rowsL (planN p) p.rows).length ≤ 1000 * 22 := by rw [ζgx]; exact Nat.mul_le_mul h2 (by omega)
 have hel := ζdi w p.ents
 unfold planRoom
 simp
 omega
theorem row_En {r : List Da} {cs : List Value} (h : LayRow [.int .i64, .int .i64, .int .i64, .int .i64] r cs) : ∃ p : En, cs = encEn p ∧ True := by
 obtain ⟨_, v1, _, _, rfl, h1, h⟩ := h.head
 obtain ⟨_, v2, _, _, rfl, h2, h⟩ := h.head
 obtain ⟨_, v3, _, _, rfl, h3, h⟩ := h.head
 obtain ⟨_, v4, _, _, rfl, h4, h⟩ := h.head
 obtain rfl := h.done
 obtain ⟨a, rfl, _⟩ := h1.intv
 obtain ⟨b, rfl, _⟩ := h2.intv
 obtain ⟨c, rfl, _⟩ := h3.intv
 obtain ⟨d, rfl, _⟩ := h4.intv
 exact ⟨⟨a, b, c, d⟩, rfl, trivial⟩
theorem row_BR {r : List Da} {cs : List Value} (h : LayRow [.slice [.int .u8]] r cs) : ∃ b : List Int, cs = encBR b ∧ Byt b := by
 obtain ⟨_, v1, _, _, rfl, h1, h⟩ := h.head
 obtain rfl := h.done
 obtain ⟨b, rfl, hb⟩ := Lay.list (enc := encB) (ok := fun n => 0 ≤ n ∧ n < 256) (fun r cs h => row_B h) h1
 exact ⟨b, rfl, hb⟩
end Go.Sw
end
section
set_option maxRecDepth 100000
set_option linter.unusedVariables false
namespace Go.Sw
noncomputable section
end
end Go.Sw
end
section
namespace Go.Sw
open Go.RowKit
variable {σ : Type}
def DoOk (k : Nat) (m : Mach) (H0 : Heap) (W : σ → List It) (Inv : σ → Prop) (a : Value) (g : σ → Int → En → σ) : Prop :=
 ∀ s i e H X, Inv s → Star H0 H (W s ++ X) → 0 ≤ i → i < 2 ^ 50 → e ∈ m.ents →
  ∃ v H', callV (R (T k)) a [.int .i64 i, encE e] H = .ok v H' ∧ Star H0 H' (W (g s i e) ++ X) ∧ Inv (g s i e)
theorem plain_ok (k : Nat) {m : Mach} {H0 : Heap} {W : σ → List It} {Inv : σ → Prop} {a : Value} {g : σ → Int → En → σ} (h : DoOk k m H0 W Inv a g) (p : Nat) :
  ActOk k m H0 (fun s => W s ++ [itBlk p ⟨[a], 1, false⟩]) Inv (.func (.func F.ζ1l) #[] #[ptrV p]) (fun s i e => (g s i e, i, i + 1)) := by
 intro s i e H X hI st h0 h1 he
 have st2 := st.push ⟨encEn e, 1, false⟩
 have hp := st2.memBlk (c := p) (k := ⟨[a], 1, false⟩) (by simp)
 have hpn : ¬ p = H.n := by have := Heap.get_lt (st.memBlk (c := p) (k := ⟨[a], 1, false⟩) (by simp)); omega
 obtain ⟨v, H', e1, st3, hI2⟩ := h s i e (H.push ⟨encEn e, 1, false⟩) ([itBlk p ⟨[a], 1, false⟩] ++ X ++ [itBlk H.n ⟨encEn e, 1, false⟩]) hI (by simpa [List.append_assoc] using st2) h0 h1 he
 have st4 : Star H0 H' (W (g s i e) ++ [itBlk p ⟨[a], 1, false⟩] ++ X) := by
  have : W (g s i e) ++ ([itBlk p ⟨[a], 1, false⟩] ++ X ++ [itBlk H.n ⟨encEn e, 1, false⟩]) = (W (g s i e) ++ [itBlk p ⟨[a], 1, false⟩] ++ X) ++ [itBlk H.n ⟨encEn e, 1, false⟩] := by simp
  rw [this] at st3
  exact st3.ζa5
 refine ⟨H', ?_, st4, hI2, by dsimp only; omega, by dsimp only; omega⟩
 simp only [callV, List.nil_append, List.cons_append]
 rw [ζd1, nrm_of]
 simp -implicitDefEqProofs (disch := omega) [ζ1l, hp, hpn, e1]
end Go.Sw
end
section
namespace Go.Sw
open Go.RowKit Go.Proofs
set_option maxRecDepth 20000 in
theorem ζjz (p : Addr) (b : Bool) (w : World) (hc : (w.alloc (.cells #[] 233)).cell? p = some (.bool b)) (hz : (w.alloc (.cells #[] 233)).frozen? p = false) :
  CallsD Prog 160 #[.pointer (some p)] (.panicking [{ v := .iface 233 (.agg #[]), recovered := false }]) w fun e u' w' =>
   e = .returned (.tuple #[]) ∧ u' = .panicking [{ v := .iface 233 (.agg #[]), recovered := true }] ∧ w' = (w.alloc (.cells #[] 233)).setCell p (.bool false) := by
 refine callsD_of_wpS Try.func160 rfl fun c₀ cs hu => ?_
 apply wpS_seq
 apply wpS_region
 simp [wpOpsS, go_sem, recoverD, hu, Try.ntmps160, Exit.thenS]
 have hta : ∀ w, (Instr.typeAssert (.iface 233 (.agg #[])) 20 233 true).run Prog w = .ok (.tuple #[.agg #[], .bool true]) w := fun w => by kernel_rfl
 refine wpS_of_wp ?_
 go_wp2
 cases c₀
 simp_all [bodyPostS, results, Try.results160]
theorem ζkv (p : Addr) (w : World) :
  CallsD Prog 160 #[.pointer (some p)] .returning w fun e u' w' => e = .returned (.tuple #[]) ∧ u' = .returning ∧ w' = w := by
 refine callsD_of_wpS Try.func160 rfl fun c₀ cs hu => ?_
 apply wpS_seq
 apply wpS_region
 simp [wpOpsS, go_sem, recoverD, hu, Try.ntmps160, Exit.thenS]
 refine wpS_of_wp ?_
 go_wp2
 cases c₀
 simp_all [bodyPostS, results, Try.results160]
set_option maxRecDepth 20000 in
theorem try_walk (g : FuncId) (first cap : Array Value) (w : World) (R : Ending → World → Prop)
  (hcf : (callFunc g (first ++ cap)).run Prog (w.alloc (.cells #[.bool false] 4)) = .ok (.enter g (first ++ cap)) (w.alloc (.cells #[.bool false] 4)))
  (hcall : Calls Prog g (first ++ cap) (w.alloc (.cells #[.bool false] 4)) fun e w' => match e with
   | .returned _ => w'.heap[w.heap.size]? = some (.cells #[.bool false] 4 (0, 0)) ∧ R (.returned (.bool true)) (w'.setCell ⟨w.heap.size, 0, none⟩ (.bool true))
   | .panicked chain => chain = [{ v := .iface 233 (.agg #[]), recovered := false }] ∧ w'.heap[w.heap.size]? = some (.cells #[.bool false] 4 (0, 0)) ∧ R (.returned (.bool false)) ((w'.alloc (.cells #[] 233)).setCell ⟨w.heap.size, 0, none⟩ (.bool false))
   | .outgrown => False) :
  Calls Prog 77 #[.func (.func g) first cap] w R := by
 have hmf : ∀ (fn : Fn) (first cap : Array Value) (w : World), (Instr.makeFunc fn first cap).run Prog w = .ok (.func fn first cap) w := fun _ _ _ _ => rfl
 go_enter_defers Try.func77, Try.ntmps77
 go_wp2
 rename_i K2 hK2 K1 hK1
 refine hcall.mono fun e w' he => ?_
 cases e with
 | returned v =>
  obtain ⟨h1, h2⟩ := he
  have hc : w'.cell? ⟨w.heap.size, 0, none⟩ = some (.bool false) := by simp [World.cell?, h1]
  have hz : w'.frozen? ⟨w.heap.size, 0, none⟩ = false := by simp [World.frozen?, h1]
  apply hK1
  apply hK2
  go_wp2
  have hc2 : (w'.setCell ⟨w.heap.size, 0, none⟩ (.bool true)).cell? ⟨w.heap.size, 0, none⟩ = some (.bool true) := World.cell?_setCell_same _ _ _ hc
  refine leaves_cons (f := 160) (args := #[.pointer (some ⟨w.heap.size, 0, none⟩)]) (by simp) (by simp [go_sem]) ?_
  refine (ζkv ⟨w.heap.size, 0, none⟩ _).mono ?_
  rintro e u' w'' ⟨rfl, rfl, rfl⟩
  simp [Leaves, settle, results, Try.results77, go_sem, hc2]
  exact h2
 | panicked chain =>
  obtain ⟨h0, h1, h2⟩ := he
  subst h0
  have hlt : w.heap.size < w'.heap.size := by
   rcases Nat.lt_or_ge w.heap.size w'.heap.size with h | h
   ·exact h
   ·rw [Array.getElem?_eq_none h] at h1; cases h1
  have h3 : (w'.alloc (.cells #[] 233)).heap[w.heap.size]? = some (.cells #[.bool false] 4 (0, 0)) := by
   rw [ζ26 _ _ _ hlt]; exact h1
  have hc : (w'.alloc (.cells #[] 233)).cell? ⟨w.heap.size, 0, none⟩ = some (.bool false) := by simp only [World.cell?, h3]; rfl
  have hz : (w'.alloc (.cells #[] 233)).frozen? ⟨w.heap.size, 0, none⟩ = false := by simp [World.frozen?, h3]
  have hc2 : ((w'.alloc (.cells #[] 233)).setCell ⟨w.heap.size, 0, none⟩ (.bool false)).cell? ⟨w.heap.size, 0, none⟩ = some (.bool false) := World.cell?_setCell_same _ _ _ hc
  show Leaves _ _ _ _ _ _ _
  refine leaves_cons (f := 160) (args := #[.pointer (some ⟨w.heap.size, 0, none⟩)]) (by simp) (by simp [go_sem]) ?_
  refine (ζjz ⟨w.heap.size, 0, none⟩ false _ hc hz).mono ?_
  rintro e u' w'' ⟨rfl, rfl, rfl⟩
  simp [Leaves, settle, results, Try.results77, go_sem, hc2]
  exact h2
 | outgrown => exact he.elim
theorem try_is : SpIs Prog 77 (tryV 233) := try_of (bt := 4) Try.func77 rfl (by kernel_rfl) try_walk
end Go.Sw
end
section
namespace Go.Sw
open Go.RowKit
def cV (o : Option CTab) : Value := match o with | some t => ctxV t | none => .pointer none
theorem cV_flat (o : Option CTab) : Flat (cV o) := by
 cases o with
 | none => exact .nilPtr
 | some t => exact Flat.ctx t
theorem ζk3 (k : Nat) (hk : k < 1000000) {H : Heap} (b : List Int) (hb : Byt b) (g : Int) (hg : 1 ≤ g ∧ g ≤ 65535) (hl : b.length < 2 ^ 31) (p2 p3 p4 : Nat) (old : Value)
  (h2 : H.get p2 = some ⟨[lv encB b], 1, false⟩) (h3 : H.get p3 = some ⟨[.int .i64 g], 1, false⟩) (h4 : H.get p4 = some ⟨[old], 1, false⟩) :
  R (T k) F.ζ2m [ptrV p2, ptrV p3, ptrV p4] H = match ctxS b g with
   | some t => .ok (.tuple #[]) (H.set p4 (some ⟨[ctxV t], 1, false⟩))
   | none => .panic failV H := by
 rw [ζgf]
 have ht := ζk2 k hk b hb g hg hl H
 have ho := fun H => Of_lv k b H
 cases h : ctxS b g with
 | none =>
  rw [h] at ht
  refine ζ12 ⟨H, ?_, Ext.refl H⟩ Flat.fail.alive
  simp -implicitDefEqProofs (disch := omega) [ζ2m, h2, h3, ho, ht]
 | some x =>
  rw [h] at ht
  simp -implicitDefEqProofs (disch := omega) [ζ2m, h2, h3, h4, ho, ht]
theorem ζk0 (k : Nat) (hk : k < 1000000) (b : List Int) (hb : Byt b) (g : Int) (hg : 1 ≤ g ∧ g ≤ 65535) (hl : b.length < 2 ^ 31) (H : Heap) :
  R (T k) F.ctx_Read [lv encB b, .int .i64 g] H = .ok (.tuple #[cV (ctxS b g), .int .i64 (if (ctxS b g).isSome then 0 else 2)]) H := by
 rw [ζl1]
 have c1 : ¬ g < 1 := by omega
 have c2 : ¬ g > 65535 := by omega
 have hx2 := ((Ext.refl H).push ⟨[lv encB b], 1, false⟩).push ⟨[.int .i64 g], 1, false⟩
 have al : ∀ o n, Alive H (.tuple #[cV o, .int .i64 n]) := fun o n => (Flat.tupleL (l := [cV o, .int .i64 n]) (.cons (cV_flat o) (.cons (.int _ _) .nil))).alive
 have fz : ∀ H' o n, fzV H.n H' fzDepth (.tuple #[cV o, .int .i64 n]) = some (.tuple #[cV o, .int .i64 n], []) := fun H' o n => by
  cases o <;> rfl
 have hin := ζk3 k hk (H := ((H.push ⟨[lv encB b], 1, false⟩).push ⟨[.int .i64 g], 1, false⟩).push ⟨[.pointer none], 1, false⟩) b hb g hg hl H.n (H.n + 1) (H.n + 2) (.pointer none) (by simp) (by simp) (by simp)
 cases hc : ctxS b g with
 | none =>
  rw [hc] at hin
  have ht := Try_no k F.ζ2m #[ptrV H.n, ptrV (H.n + 1), ptrV (H.n + 2)] hin
  refine nrm_fz (H' := ((H.push ⟨[lv encB b], 1, false⟩).push ⟨[.int .i64 g], 1, false⟩).push ⟨[.pointer none], 1, false⟩) (v := .tuple #[cV none, .int .i64 2]) ?_ (fz _ _ _) (hx2.push _) (al _ _)
  simp -implicitDefEqProofs (disch := omega) [ctx_Read, c1, c2, ht, cV]
 | some x =>
  rw [hc] at hin
  have ht := Try_ok k F.ζ2m #[ptrV H.n, ptrV (H.n + 1), ptrV (H.n + 2)] hin
  refine nrm_fz (H' := ((H.push ⟨[lv encB b], 1, false⟩).push ⟨[.int .i64 g], 1, false⟩).push ⟨[ctxV x], 1, false⟩) (v := .tuple #[cV (some x), .int .i64 0]) ?_ (fz _ _ _) (hx2.push _) (al _ _)
  simp at ht
  simp -implicitDefEqProofs (disch := omega) [ctx_Read, c1, c2, ht, cV]
structure CTab.ok (t : CTab) : Prop where
 m : t.m.ok
 subs : ∀ x, x ∈ t.subs → (∀ p, p ∈ x.2 → p.ok) ∧ risesS x.2 = true ∧ x.2.length < 2 ^ 31
 has : ∀ e, e ∈ t.m.ents → (e.a = 65535 ∨ e.a < t.subs.length) ∧ (e.b = 65535 ∨ e.b < t.subs.length)
theorem many_has : ∀ (es : List En) (c : Int), c ≤ es.foldl manyE c ∧ ∀ e, e ∈ es → (e.a = 65535 ∨ e.a < es.foldl manyE c) ∧ (e.b = 65535 ∨ e.b < es.foldl manyE c)
 | [], c => ⟨Int.le_refl _, fun e he => by cases he⟩
 | x :: es, c => by
  have ih := many_has es (manyE c x)
  have hx : c ≤ manyE c x ∧ (x.a = 65535 ∨ x.a < manyE c x) ∧ (x.b = 65535 ∨ x.b < manyE c x) := by
   unfold manyE
   dsimp only
   split <;> split <;> omega
  simp only [List.foldl_cons]
  refine ⟨by omega, fun e he => ?_⟩
  rcases List.mem_cons.1 he with rfl | he
  ·omega
  ·exact ih.2 e he
theorem ctxS_ok {b : List Int} (hb : Byt b) (hl : b.length < 2 ^ 31) {g : Int} (hg : 1 ≤ g ∧ g ≤ 65535) {t : CTab} (h : ctxS b g = some t) : t.ok := by
 unfold ctxS at h
 obtain ⟨m, hm, h⟩ := Option.bind_eq_some_iff.1 h
 obtain ⟨p, hp, h⟩ := Option.bind_eq_some_iff.1 h
 obtain ⟨sb, hsb, h⟩ := Option.bind_eq_some_iff.1 h
 obtain ⟨subs, hs, rfl⟩ := Option.map_eq_some_iff.1 h
 have hok := machS_ok hb hg.1 hg.2 (by omega) hm
 have lsb := ζ56 hsb
 refine ⟨hok, fun x hx => ?_, fun e he => ?_⟩
 ·obtain ⟨i, hi⟩ := List.getElem?_of_mem hx
  obtain ⟨j, _, hj⟩ := mapO_get hs hi
  unfold subS at hj
  obtain ⟨p, _, hj⟩ := Option.bind_eq_some_iff.1 hj
  obtain ⟨tb, htb, hj⟩ := Option.bind_eq_some_iff.1 hj
  have ltb := ζ56 htb
  have ok1 := lookS_ok ((hb.rest hsb).rest htb) hg.1 hg.2 (.inl rfl) hj
  exact ⟨ok1.2.1, ok1.2.2, ζgq ((hb.rest hsb).rest htb) hj⟩
 ·have hes : ∀ e, e ∈ m.ents → 0 ≤ e.a ∧ e.a < 65536 ∧ 0 ≤ e.b ∧ e.b < 65536 := fun e he => by have := hok.ent e he; omega
  have h1 := (many_has m.ents 0).2 e he
  have h2 := ζa8 hes
  have h3 := ζca hs
  have h4 : manyS m.ents = m.ents.foldl manyE 0 := rfl
  dsimp only
  omega
def swapC (t : CTab) (l : List Gl) (i w : Int) : List Gl :=
 if w = 65535 then l else match atG l i with
 | some g => match (t.subs[w.toNat]?).bind fun x => getS x.2 g.id with
  | some id => setG l i id
  | none => l
 | none => l
@[simp] theorem ζnj (t : CTab) (l : List Gl) (i w : Int) : (swapC t l i w).length = l.length := by
 unfold swapC
 split
 ·rfl
 ·split
  ·split <;> simp
  ·rfl
theorem ζdt (k : Nat) (t : CTab) (ht : t.ok) {H0 H : Heap} {L : List It} (h : Star H0 H L) (i : Nat) {c : Nat} {o : Option Nat} {l : List Gl} (hi : L[i]? = some (itLine c o l)) (j w : Int) (hw : w = 65535 ∨ 0 ≤ w ∧ w < t.subs.length) :
  ∃ v H', R (T k) F.ζ17 [ctxV t, ptrV c, .int .i64 j, .int .i64 w] H = .ok v H' ∧ Star H0 H' (L.set i (itLine c o (swapC t l j w))) := by
 have hat := ζhf k h i hi j
 have same : L.set i (itLine c o l) = L := by
  obtain ⟨hlt, hx⟩ := List.getElem?_eq_some_iff.1 hi
  rw [← hx, List.set_getElem_self]
 suffices hs : ∃ v H', ζ17 k (R (T k)) (ctxV t) (ptrV c) (.int .i64 j) (.int .i64 w) H = .ok v H' ∧ Star H0 H' (L.set i (itLine c o (swapC t l j w))) by
  obtain ⟨v, H', e, g⟩ := hs
  exact ⟨v, H', by rw [ζdu]; exact nrm_of e, g⟩
 unfold swapC
 cases ha : atG l j with
 | none =>
  rw [ha] at hat
  unfold encA at hat
  simp at hat
  refine ⟨.tuple #[], _, ?_, by simp only [ite_self]; rw [same]; exact h.rest ((Ext.refl _).push ⟨[.int .i64 0, .int .i64 0], 1, false⟩)⟩
  by_cases hw0 : w = 65535
  ·simp -implicitDefEqProofs (disch := omega) [ζ17, hat, hw0]
  ·have hw1 : (w == 65535) = false := by simpa using hw0
   simp -implicitDefEqProofs (disch := omega) [ζ17, hat, hw0, hw1]
 | some g =>
  rw [ha] at hat
  unfold encA at hat
  simp at hat
  by_cases hw0 : w = 65535
  ·rw [if_pos hw0, same]
   refine ⟨.tuple #[], _, ?_, h.rest ((Ext.refl _).push ⟨encG g, 1, false⟩)⟩
   simp -implicitDefEqProofs (disch := omega) [ζ17, hat, hw0]
  rw [if_neg hw0]
  have hw1 : (w == 65535) = false := by simpa using hw0
  obtain ⟨n, rfl⟩ := Int.eq_ofNat_of_zero_le (show 0 ≤ w by omega)
  obtain ⟨x, hx⟩ : ∃ x, t.subs[n]? = some x := ⟨_, List.getElem?_eq_getElem (by omega)⟩
  have i1 := fun H' => ixS_lvN encT_len t.subs .i64 n x hx H'
  have xo := ht.subs x (List.mem_of_getElem? hx)
  have hget := fun H' => Get_run k x xo.1 xo.2.1 g.id xo.2.2 H'
  dsimp only
  rw [Int.toNat_natCast, hx, Option.bind_some]
  have h2 := h.rest ((Ext.refl _).push ⟨encG g, 1, false⟩)
  cases hg : getS x.2 g.id with
  | none =>
   rw [hg] at hget
   simp at hget
   rw [same]
   refine ⟨.tuple #[], _, ?_, h2⟩
   simp -implicitDefEqProofs (disch := omega) [ζ17, hat, hw1, i1, hget]
  | some id =>
   rw [hg] at hget
   simp at hget
   obtain ⟨H2, e2, h3⟩ := ζik k h2 i hi j id
   refine ⟨.tuple #[], H2, ?_, h3⟩
   simp -implicitDefEqProofs (disch := omega) [ζ17, hat, hw1, i1, hget, e2]
end Go.Sw
end
section
namespace Go.Sw
open Go.RowKit
end Go.Sw
end
section
namespace Go.Sw
open Go.RowKit
variable {σ : Type}
theorem runD_inv (m : Mach) (hm : m.ok) (ln : σ → List Gl) (f : σ → Int → En → σ × Int × Int) (P : σ → Prop) (hf : ∀ s i e, P s → 0 ≤ i → e ∈ m.ents → P (f s i e).1) (most : Int) :
  ∀ (n : Nat) (x : σ × Drv), P x.1 → 0 ≤ x.2.pl → 0 ≤ x.2.st → x.2.st < m.rows.length → P (runD m ln f most n x).2.2
 | 0, x, h, _, _, _ => h
 | n + 1, x, h, hp, h0, h1 => by
  have hmem := entS_mem hm (ln x.1) x.2 ⟨h0, h1⟩
  have hent := hm.ent _ hmem
  have hP : P (stepD m ln f x).1.1 := by unfold stepD; split <;> exact hf _ _ _ h hp hmem
  have hst : 0 ≤ (stepD m ln f x).1.2.st ∧ (stepD m ln f x).1.2.st < m.rows.length := by unfold stepD; split <;> exact ⟨hent.1, hent.2.1⟩
  have hpl := stepD_pl m ln f x
  unfold runD
  split
  ·split
   ·exact hP
   ·split
    ·exact hP
    ·exact runD_inv m hm ln f P hf most n _ hP hpl hst.1 hst.2
  ·exact h
end Go.Sw
end
section
namespace Go.Sw
open Go.RowKit
theorem ζl7 {z : Nat} {rs : List (List Int)} (h : ∀ r, r ∈ rs → r.length = z) (x : List Int) {i : Nat} {r : List Int} (hi : rs[i]? = some r) : pieceS (rs.flatten ++ x) ((z * i : Nat) : Int) z = some r := by
 have hlt := (List.getElem?_eq_some_iff.1 hi).1
 have hl := flat_len h
 have hm : (i + 1) * z ≤ rs.length * z := Nat.mul_le_mul_right _ hlt
 rw [Nat.add_mul, Nat.one_mul, Nat.mul_comm i z] at hm
 have hc := flat_cut h i hlt
 rw [hi] at hc
 injection hc with hc
 generalize z * i = k at hm hc ⊢
 unfold pieceS
 rw [if_pos ⟨by omega, by omega, by rw [List.length_append]; omega, by rw [List.length_append]; omega⟩]
 rw [Int.toNat_natCast, Int.toNat_natCast, List.drop_append_of_le_length (by omega), List.take_append_of_le_length (by rw [List.length_drop]; omega), ← hc]
def lksB (subs : List (List Int)) : List Int := (subs.map ofS).flatten
def offsL (subs : List (List Int)) : List (List Int) := (List.range subs.length).map fun j => bytesOf (4 * subs.length + (lksB (subs.take j)).length : Int) 4
def offsB (subs : List (List Int)) : List Int := (offsL subs).flatten
theorem ζgs (subs : List (List Int)) : (offsL subs).length = subs.length := by simp [offsL]
theorem ζee (subs : List (List Int)) : ∀ r, r ∈ offsL subs → r.length = 4 := fun r hr => by
 obtain ⟨j, _, rfl⟩ := List.mem_map.1 hr
 exact ζ3d _ _
theorem ζdo (subs : List (List Int)) : (offsB subs).length = subs.length * 4 := by unfold offsB; rw [flat_len (ζee subs), ζgs]
theorem ofS_len (s : List Int) : (ofS s).length = 6 + s.length * 2 := by unfold ofS; simp [twos_len]; omega
theorem lksB_le : ∀ (subs : List (List Int)), (∀ s, s ∈ subs → s.length ≤ 60) → (lksB subs).length ≤ subs.length * 126
 | [], _ => by simp [lksB]
 | s :: subs, h => by
  have ih := lksB_le subs fun x hx => h x (by simp [hx])
  have := h s (by simp)
  have hs := ofS_len s
  unfold lksB at ih ⊢
  simp only [List.map_cons, List.flatten_cons, List.length_append, List.length_cons]
  omega
theorem ζlf (subs : List (List Int)) {j : Nat} {s : List Int} (hj : subs[j]? = some s) : lksB subs = lksB (subs.take j) ++ (ofS s ++ lksB (subs.drop (j + 1))) := by
 have hlt := (List.getElem?_eq_some_iff.1 hj).1
 have e : subs = subs.take j ++ (s :: subs.drop (j + 1)) := by
  rw [← (List.getElem?_eq_some_iff.1 hj).2, ← List.drop_eq_getElem_cons hlt, List.take_append_drop]
 unfold lksB
 conv => lhs; rw [e]
 simp
theorem ζe9 (subs : List (List Int)) (j : Nat) : (lksB (subs.take j)).length ≤ (lksB subs).length := by
 have : lksB subs = lksB (subs.take j) ++ lksB (subs.drop j) := by
  unfold lksB
  rw [← List.flatten_append, ← List.map_append, List.take_append_drop]
 rw [this]
 simp
theorem ζko (subs : List (List Int)) (hs : ∀ s, s ∈ subs → s.length ≤ 60 ∧ ∀ x, x ∈ s → 0 ≤ x ∧ x < 65536) (hn : subs.length ≤ 1000) (g : Int) {j : Nat} {s : List Int} (hj : subs[j]? = some s) :
  subS (offsB subs ++ lksB subs) g j = some (tabOf s) := by
 have hlt := (List.getElem?_eq_some_iff.1 hj).1
 have hl := ζdo subs
 have hL := lksB_le subs fun s h => (hs s h).1
 have hT := ζe9 subs j
 have hjL : (offsL subs)[j]? = some (bytesOf (4 * subs.length + (lksB (subs.take j)).length : Int) 4) := by
  unfold offsL
  rw [List.getElem?_map, List.getElem?_range hlt]
  rfl
 have hp : pieceS ((offsL subs).flatten ++ lksB subs) ((4 * j : Nat) : Int) 4 = some (bytesOf (4 * subs.length + (lksB (subs.take j)).length : Int) 4) := ζl7 (ζee subs) (lksB subs) hjL
 unfold subS uS
 rw [show (4 * (j : Int)) = ((4 * j : Nat) : Int) by omega, show offsB subs = (offsL subs).flatten from rfl, hp, Option.map_some, Option.bind_some, ζfy (by omega) (by omega)]
 have hr : restS ((offsL subs).flatten ++ lksB subs) (4 * subs.length + (lksB (subs.take j)).length : Int) = some (ofS s ++ lksB (subs.drop (j + 1))) := by
  rw [show (offsL subs).flatten = offsB subs from rfl]
  unfold restS
  rw [ζlf subs hj]
  rw [if_pos ⟨by omega, by simp; omega⟩]
  congr 1
  rw [show (4 * (subs.length : Int) + ((lksB (subs.take j)).length : Int)).toNat = (offsB subs).length + (lksB (subs.take j)).length by omega]
  rw [← List.append_assoc, show (offsB subs).length + (lksB (subs.take j)).length = (offsB subs ++ lksB (subs.take j)).length by simp, List.drop_left]
 rw [hr, Option.bind_some]
 have hsm := hs s (List.mem_of_getElem? hj)
 exact look_ofS s hsm.2 (by omega) _ g
theorem ζlx (subs : List (List Int)) (hs : ∀ s, s ∈ subs → s.length ≤ 60) (hn : subs.length ≤ 1000) (g : Int) : subS (offsB subs ++ lksB subs) g subs.length = none := by
 have hl := ζdo subs
 have hL := lksB_le subs hs
 cases subs with
 | nil => rfl
 | cons s rest =>
  have h4 : uS (offsB (s :: rest) ++ lksB (s :: rest)) (4 * ((s :: rest).length : Int)) 4 = some 524288 := by
   have e : lksB (s :: rest) = [0, 8, 0, 0] ++ (bytesOf s.length 2 ++ (twos s ++ lksB rest)) := by
    unfold lksB ofS
    simp [bytesOf]
   rw [e]
   unfold uS
   rw [ζji (offsB (s :: rest)) [0, 8, 0, 0] _ _ 4 (by omega) rfl]
   rfl
  unfold subS
  rw [h4, Option.bind_some]
  have : restS (offsB (s :: rest) ++ lksB (s :: rest)) 524288 = none := by
   unfold restS
   rw [if_neg]
   rintro ⟨_, h⟩
   rw [List.length_append] at h
   simp at hl hL hn h
   omega
  rw [this]
  rfl
theorem ζiq (subs : List (List Int)) (hs : ∀ s, s ∈ subs → s.length ≤ 60 ∧ ∀ x, x ∈ s → 0 ≤ x ∧ x < 65536) (hn : subs.length ≤ 1000) (g : Int) {n : Nat} {l : List (Int × List Pt)} (h : subsS (offsB subs ++ lksB subs) g n = some l) :
  n ≤ subs.length ∧ ∀ (j : Nat) x, l[j]? = some x → ∃ s, subs[j]? = some s ∧ x = tabOf s := by
 have hle : n ≤ subs.length := by
  refine Nat.le_of_not_lt fun hlt => ?_
  obtain ⟨y, hy, _⟩ := mapO_at h hlt
  rw [ζlx subs (fun s h => (hs s h).1) hn g] at hy
  cases hy
 refine ⟨hle, fun j x hx => ?_⟩
 have hjn : j < n := by rw [← ζca h]; exact (List.getElem?_eq_some_iff.1 hx).1
 obtain ⟨y, hy, hy2⟩ := mapO_at h hjn
 obtain ⟨s, hsj⟩ : ∃ s, subs[j]? = some s := ⟨_, List.getElem?_eq_getElem (by omega)⟩
 rw [ζko subs hs hn g hsj] at hy
 injection hy with hy
 rw [hx] at hy2
 injection hy2 with hy2
 exact ⟨s, hsj, by rw [hy2, hy]⟩
def ctxBytes (p : Plan) (subs : List (List Int)) : List Int := planRoom p 2 (bytesOf ((planRoom p 2 (List.replicate 4 0)).length : Int) 4) ++ (offsB subs ++ lksB subs)
theorem ζcx (p : Plan) (w : Int) (rm rm' : List Int) (h : rm.length = rm'.length) : (planRoom p w rm).length = (planRoom p w rm').length := by
 unfold planRoom
 simp [h]
theorem ζmh (p : Plan) (hp : p.ok) (h1 : p.cls.length ≤ 1000) (h2 : p.rows.length ≤ 1000) (h3 : p.ents.length ≤ 1000) (subs : List (List Int)) :
  uS (ctxBytes p subs) 16 4 = some ((planRoom p 2 (List.replicate 4 0)).length : Int) ∧ restS (ctxBytes p subs) ((planRoom p 2 (List.replicate 4 0)).length : Int) = some (offsB subs ++ lksB subs) := by
 have hl := ζba hp 2 (rm := List.replicate 4 0) (by simp) h1 h2 h3
 have hsz : (planRoom p 2 (bytesOf ((planRoom p 2 (List.replicate 4 0)).length : Int) 4)).length = (planRoom p 2 (List.replicate 4 0)).length := ζcx p 2 _ _ (by simp)
 unfold ctxBytes
 generalize (planRoom p 2 (List.replicate 4 0)).length = N at hl hsz ⊢
 constructor
 ·unfold planRoom
  have := uS_at (bytesOf (planN p : Int) 4 ++ (bytesOf (16 + (bytesOf (N : Int) 4).length : Int) 4 ++ (bytesOf (16 + (bytesOf (N : Int) 4).length + (ofS p.cls).length : Int) 4 ++ bytesOf (16 + (bytesOf (N : Int) 4).length + (ofS p.cls).length + (rowsL (planN p) p.rows).length : Int) 4)))
   ((ofS p.cls ++ (rowsL (planN p) p.rows ++ entsB 2 p.ents)) ++ (offsB subs ++ lksB subs)) (n := (N : Int)) (k := 4) 16 4 (by simp) rfl (by omega) (by omega)
  simpa only [List.append_assoc] using this
 ·unfold restS
  rw [if_pos ⟨by omega, by rw [List.length_append]; omega⟩]
  congr 1
  rw [Int.toNat_natCast]
  conv => lhs; rw [← hsz]
  exact List.drop_left
theorem ζih {p : Plan} (hp : p.ok) (h1 : p.cls.length ≤ 1000) (h2 : p.rows.length ≤ 1000) (h3 : p.ents.length ≤ 1000) {subs : List (List Int)} (hs : ∀ s, s ∈ subs → s.length ≤ 60 ∧ ∀ x, x ∈ s → 0 ≤ x ∧ x < 65536) (hn : subs.length ≤ 1000) {g : Int} {t : CTab}
  (h : ctxS (ctxBytes p subs) g = some t) : machS (ctxBytes p subs) g 2 = some t.m ∧ t.subs.length ≤ subs.length ∧ ∀ (j : Nat) x, t.subs[j]? = some x → ∃ s, subs[j]? = some s ∧ x = tabOf s := by
 obtain ⟨e1, e2⟩ := ζmh p hp h1 h2 h3 subs
 unfold ctxS at h
 obtain ⟨m, hm, h⟩ := Option.bind_eq_some_iff.1 h
 rw [e1, Option.bind_some, e2, Option.bind_some] at h
 obtain ⟨l, hl, h⟩ := Option.map_eq_some_iff.1 h
 subst h
 have := ζiq subs hs hn g hl
 exact ⟨hm, by rw [ζca hl]; exact this.1, this.2⟩
theorem ζi9 (t : CTab) (l : List Gl) (i w : Int) (h : w = 65535 ∨ ∀ x, t.subs[w.toNat]? = some x → ∀ id, getS x.2 id = none) : swapC t l i w = l := by
 unfold swapC
 rcases h with h | h
 ·rw [if_pos h]
 ·split
  ·rfl
  ·split
   ·rename_i g _
    cases hx : t.subs[w.toNat]? with
    | none => rfl
    | some x => rw [Option.bind_some, h x hx]
   ·rfl
end Go.Sw
end
section
set_option maxRecDepth 100000
set_option linter.unusedVariables false
namespace Go.Sw
noncomputable section
def ζ3i (k : Nat) (call : Caller) : Env → Heap → Res (AExit × Env) := loopB (C k) call F.ζ2 [1, 1, 1, 1, 1, 1, 0, 1, 0, 0]
def ζ5f (k : Nat) (call : Caller) : Kont Value := kBlock 0 (kSeq (pieceK (C k) call F.ζ2 [1, 1, 1, 1, 1, 1, 1]) (kDone Prog (resOf Prog F.ζ2)))
def ζ61 (k : Nat) (call : Caller) (a1 a2 a3 a7 a8 a34 a35 : Value) (h : Heap) : Res (AExit × Env) :=
 kSeq (pieceK (C k) call F.ζ2 [1, 1, 1, 1, 1, 1, 0, 1, 0, 0, 1, 1, 1]) (kRound (ownOf (C k) F.ζ2 [1, 1, 1, 1, 1, 1, 0, 1, 0, 0])) .normal [(1, a1), (2, a2), (3, a3), (7, a7), (8, a8), (34, a34), (35, a35)] h
def ζ62 (k : Nat) (call : Caller) (a1 a2 a3 a7 a8 a9 a34 a35 a38 : Value) (h : Heap) : Res (AExit × Env) :=
 kSeq (pieceK (C k) call F.ζ2 [1, 1, 1, 1, 1, 1, 0, 1, 0, 0, 1, 1, 1]) (kRound (ownOf (C k) F.ζ2 [1, 1, 1, 1, 1, 1, 0, 1, 0, 0])) .normal [(1, a1), (2, a2), (3, a3), (7, a7), (8, a8), (9, a9), (34, a34), (35, a35), (38, a38)] h
def ζ3j (k : Nat) (call : Caller) : Env → Heap → Res (AExit × Env) := loopB (C k) call F.ζ2 [1, 1, 1, 1, 1, 1, 1, 0, 1, 0, 0]
def ζ5g (k : Nat) (call : Caller) : Kont Value := kBlock 2 (kSeq (pieceK (C k) call F.ζ2 [1, 1, 1, 1, 1, 1, 1, 1]) (kDone Prog (resOf Prog F.ζ2)))
def ζ63 (k : Nat) (call : Caller) (a15 a16 : Value) (h : Heap) : Res Value :=
 kSeq (pieceK (C k) call F.ζ2 [1, 1, 1, 1, 1, 1, 1, 1, 1, 1, 1, 1, 1, 1, 1, 1]) (kDone Prog (resOf Prog F.ζ2)) .normal [(15, a15), (16, a16)] h
def ζ64 (k : Nat) (call : Caller) (a1 a15 a16 a122 : Value) (h : Heap) : Res Value :=
 kSeq (pieceK (C k) call F.ζ2 [1, 1, 1, 1, 1, 1, 1, 1, 1, 1, 1, 1, 1, 1, 1, 1]) (kDone Prog (resOf Prog F.ζ2)) .normal [(1, a1), (15, a15), (16, a16), (122, a122)] h
def ζ2 (k : Nat) (call : Caller) (a0 a1 a2 : Value) (h : Heap) : Res Value :=
 (boxR a0 h).bind fun v1 h2 =>
 (call F.ζ25 [] h2).bind fun v3 h4 =>
 (unR .not v3 h4).bind fun v5 h6 =>
 condV (some v5) (
 .ok (.bool false) h6)
 (
 (loadR Prog 190 v1 h6).bind fun v7 h8 =>
 (call F.ζi [v7, a1] h8).bind fun v9 h10 =>
 (unR .not v9 h10).bind fun v11 h12 =>
 condV (some v11) (
 .ok (.bool true) h12)
 (
 (fieldAddrR Prog 190 v1 0 h12).bind fun v13 h14 =>
 (loadR Prog 146 v13 h14).bind fun v15 h16 =>
 (allocR Prog 146 h16).bind fun v17 h18 =>
 (storeR Prog 146 v17 v15 h18).bind fun _v19 h20 =>
 (buildSliceR Prog 144 0 [] h20).bind fun v21 h22 =>
 (fieldAddrR Prog 190 v1 0 h22).bind fun v23 h24 =>
 (fieldAddrR Prog 146 v23 2 h24).bind fun v25 h26 =>
 (loadR Prog 144 v25 h26).bind fun v27 h28 =>
 (builtinV Prog .append [144, 144] [v21, v27] h28).bind fun v29 h30 =>
 (fieldAddrR Prog 146 v17 2 h30).bind fun v31 h32 =>
 (storeR Prog 144 v31 v29 h32).bind fun _v33 h34 =>
 (fieldAddrR Prog 146 v17 2 h34).bind fun v35 h36 =>
 (loadR Prog 144 v35 h36).bind fun v37 h38 =>
 (builtinV Prog .len [144] [v37] h38).bind fun v39 h40 =>
 (loopN (ζ3i k call) loopFuel [(1, a1), (2, a2), (3, v1), (7, v17), (8, (.slice none 0 0)), (34, v39), (35, (.int .i64 0))] h40).bind fun r41 h42 =>
 ζ5f k call r41.1 r41.2 h42))
theorem ζbf (k : Nat) (a0 a1 a2 : Value) (h : Heap) : R (T k) F.ζ2 [a0, a1, a2] h = nrm .gc h (ζ2 k (R (T k)) a0 a1 a2 h) :=
 (R_body (t := T k) (T_scott k) (by kernel_rfl) (by kernel_rfl) _ _).trans (by kernel_rfl)
theorem ζ2p (k : Nat) (call : Caller) (a1 a2 a3 a7 a8 a34 a35 : Value) (h : Heap) : ζ3i k call [(1, a1), (2, a2), (3, a3), (7, a7), (8, a8), (34, a34), (35, a35)] h =
 (binR Prog .lss 3 a35 a34 h).bind fun v43 h44 =>
 condV (some v43) (
 condV (some a2) (
 (fieldAddrR Prog 146 a7 2 h44).bindN fun v45 h46 =>
 (loadR Prog 144 v45 h46).bindN fun v47 h48 =>
 (fieldAddrR Prog 146 a7 2 h48).bindN fun v49 h50 =>
 (loadR Prog 144 v49 h50).bindN fun v51 h52 =>
 (indexAddrR Prog 144 v47 a35 h52).bindN fun v53 h54 =>
 (fieldAddrR Prog 150 v53 2 h54).bindN fun v55 h56 =>
 (storeR Prog 3 v55 (.int .i64 65535) h56).bindN fun _v57 h58 =>
 (indexAddrR Prog 144 v51 a35 h58).bindN fun v59 h60 =>
 (fieldAddrR Prog 150 v59 3 h60).bindN fun v61 h62 =>
 (storeR Prog 3 v61 (.int .i64 65535) h62).bindN fun _v63 h64 =>
 chkR ((okVal (loadR Prog 144 v49 h58) v51 && true) && true) (
 ζ61 k call a1 a2 a3 a7 a8 a34 a35 h64))
 (
 ζ62 k call a1 a2 a3 a7 a8 a35 a34 a35 a2 h44))
 (
 .ok ((.exit 0), [(1, a1), (2, a2), (3, a3), (7, a7), (8, a8), (34, a34), (35, a35), (36, v43)]) h44) :=
 (loopB_eq _ _).trans (by kernel_rfl)
theorem ζ8x (k : Nat) (call : Caller) (a1 a2 a3 a7 a8 a34 a35 : Value) (h : Heap) : ζ61 k call a1 a2 a3 a7 a8 a34 a35 h =
 (binR Prog .add 3 a35 (.int .i64 1) h).bind fun v65 h66 =>
 .ok (.normal, [(1, a1), (2, a2), (3, a3), (7, a7), (8, a8), (34, a34), (35, v65)]) h66 := by kernel_rfl
theorem ζ8y (k : Nat) (call : Caller) (a1 a2 a3 a7 a8 a9 a34 a35 a38 : Value) (h : Heap) : ζ62 k call a1 a2 a3 a7 a8 a9 a34 a35 a38 h =
 (binR Prog .add 3 a35 (.int .i64 1) h).bind fun v67 h68 =>
 .ok (.normal, [(1, a1), (2, a2), (3, a3), (7, a7), (8, a8), (34, a34), (35, v67)]) h68 := by kernel_rfl
theorem ζ1b (k : Nat) (call : Caller) (a1 a2 a3 a7 a8 a34 a35 a36 : Value) (h : Heap) : ζ5f k call (.exit 0) [(1, a1), (2, a2), (3, a3), (7, a7), (8, a8), (34, a34), (35, a35), (36, a36)] h =
 (fieldAddrR Prog 190 a3 1 h).bind fun v69 h70 =>
 (loadR Prog 188 v69 h70).bind fun v71 h72 =>
 (builtinV Prog .len [188] [v71] h72).bind fun v73 h74 =>
 (loopN (ζ3j k call) loopFuel [(1, a1), (2, a2), (7, a7), (8, a8), (52, v73), (53, (.int .i64 0))] h74).bind fun r75 h76 =>
 ζ5g k call r75.1 r75.2 h76 := by kernel_rfl
theorem ζ4f (k : Nat) (call : Caller) (a1 a2 a7 a8 a52 a53 : Value) (h : Heap) : ζ3j k call [(1, a1), (2, a2), (7, a7), (8, a8), (52, a52), (53, a53)] h =
 (binR Prog .lss 3 a53 a52 h).bind fun v77 h78 =>
 condV (some v77) (
 (buildSliceR Prog 188 1 [(0, (.slice none 0 0))] h78).bind fun v79 h80 =>
 (builtinV Prog .append [188, 188] [a8, v79] h80).bind fun v81 h82 =>
 (binR Prog .add 3 a53 (.int .i64 1) h82).bind fun v83 h84 =>
 .ok (.normal, [(1, a1), (2, a2), (7, a7), (8, v81), (52, a52), (53, v83)]) h84)
 (
 .ok ((.exit 2), [(1, a1), (2, a2), (7, a7), (8, a8), (52, a52), (53, a53), (54, v77)]) h78) :=
 (loopB_eq _ _).trans (by kernel_rfl)
theorem ζ1c (k : Nat) (call : Caller) (a1 a2 a7 a8 a52 a53 a54 : Value) (h : Heap) : ζ5g k call (.exit 2) [(1, a1), (2, a2), (7, a7), (8, a8), (52, a52), (53, a53), (54, a54)] h =
 (loadR Prog 146 a7 h).bind fun v85 h86 =>
 (call F.ζo [v85, a8] h86).bind fun v87 h88 =>
 (call F.ctx_Read [v87, (.int .i64 40)] h88).bind fun v89 h90 =>
 (extractR v89 0 h90).bind fun v91 h92 =>
 (extractR v89 1 h92).bind fun v93 h94 =>
 (call F.ζ9 [v87, (.int .i64 40)] h94).bind fun v95 h96 =>
 (extractR v95 0 h96).bind fun v97 h98 =>
 (extractR v95 1 h98).bind fun v99 h100 =>
 (allocR Prog 198 h100).bind fun v101 h102 =>
 (storeR Prog 198 v101 v97 h102).bind fun _v103 h104 =>
 (binR Prog .eql 193 v91 (.pointer none) h104).bind fun v105 h106 =>
 ((bif wantVal v105 false then Res.ok v99 h106 else Res.ok undef h106)).bind fun v107 h108 =>
 ((bif wantVal v105 false then unR .not v107 h108 else Res.ok undef h108)).bind fun v109 h110 =>
 (condV (some v105) (Res.ok (.bool true) h110) (Res.ok v109 h110)).bind fun v111 h112 =>
 ((bif wantVal v111 false then Res.ok a2 h112 else Res.ok undef h112)).bind fun v113 h114 =>
 ((bif wantVal v111 false then Res.ok v113 h114 else Res.ok undef h114)).bind fun v115 h116 =>
 ((bif wantVal v115 true then fieldAddrR Prog 198 v101 0 h116 else Res.ok undef h116)).bind fun v117 h118 =>
 ((bif wantVal v115 true then fieldAddrR Prog 137 v117 5 h118 else Res.ok undef h118)).bind fun v119 h120 =>
 ((bif wantVal v115 true then loadR Prog 3 v119 h120 else Res.ok undef h120)).bind fun v121 h122 =>
 ((bif wantVal v115 true then fieldAddrR Prog 146 a7 2 h122 else Res.ok undef h122)).bind fun v123 h124 =>
 ((bif wantVal v115 true then loadR Prog 144 v123 h124 else Res.ok undef h124)).bind fun v125 h126 =>
 ((bif wantVal v115 true then builtinV Prog .len [144] [v125] h126 else Res.ok undef h126)).bind fun v127 h128 =>
 ((bif wantVal v115 true then binR Prog .gtr 3 v121 v127 h128 else Res.ok undef h128)).bind fun v129 h130 =>
 ((bif wantVal v111 false then condV (some v115) (Res.ok v129 h130) (Res.ok (.bool false) h130) else Res.ok undef h130)).bind fun v131 h132 =>
 (condV (some v111) (Res.ok (.bool true) h132) (Res.ok v131 h132)).bind fun v133 h134 =>
 condV (some v133) (
 (binR Prog .eql 193 v91 (.pointer none) h134).bind fun v135 h136 =>
 ((bif wantVal v135 false then Res.ok v99 h136 else Res.ok undef h136)).bind fun v137 h138 =>
 (condV (some v135) (Res.ok (.bool true) h138) (Res.ok v137 h138)).bind fun v139 h140 =>
 .ok v139 h140)
 (
 (call F.line_New [a1] h134).bind fun v141 h142 =>
 (call F.ζ3w [v91, v141] h142).bind fun v143 h144 =>
 (loadR Prog 198 v101 h144).bindN fun v145 h146 =>
 (call F.ζ1o [a1] h146).bindT (fun p149 h150 => .panic p149 h150) fun v147 h148 =>
 (call F.ζz [v145, v147] h148).bindT (fun p153 h154 => chkR ((okVal (loadR Prog 198 v101 h148) v145 && true) && true) (.panic p153 h154)) fun v151 h152 =>
 (extractR v151 0 h152).bindN fun v155 h156 =>
 (extractR v151 1 h156).bindN fun v157 h158 =>
 chkR ((okVal (loadR Prog 198 v101 h148) v145 && true) && true) (
 (fieldAddrR Prog 198 v101 0 h158).bind fun v159 h160 =>
 (fieldAddrR Prog 137 v159 5 h160).bind fun v161 h162 =>
 (loadR Prog 3 v161 h162).bind fun v163 h164 =>
 (fieldAddrR Prog 146 a7 2 h164).bind fun v165 h166 =>
 (loadR Prog 144 v165 h166).bind fun v167 h168 =>
 (builtinV Prog .len [144] [v167] h168).bind fun v169 h170 =>
 (binR Prog .leq 3 v163 v169 h170).bind fun v171 h172 =>
 ((bif wantVal v171 true then fieldAddrR Prog 198 v101 0 h172 else Res.ok undef h172)).bind fun v173 h174 =>
 ((bif wantVal v171 true then fieldAddrR Prog 137 v173 4 h174 else Res.ok undef h174)).bind fun v175 h176 =>
 ((bif wantVal v171 true then loadR Prog 3 v175 h176 else Res.ok undef h176)).bind fun v177 h178 =>
 ((bif wantVal v171 true then fieldAddrR Prog 146 a7 1 h178 else Res.ok undef h178)).bind fun v179 h180 =>
 ((bif wantVal v171 true then loadR Prog 143 v179 h180 else Res.ok undef h180)).bind fun v181 h182 =>
 ((bif wantVal v171 true then builtinV Prog .len [143] [v181] h182 else Res.ok undef h182)).bind fun v183 h184 =>
 ((bif wantVal v171 true then binR Prog .leq 3 v177 v183 h184 else Res.ok undef h184)).bind fun v185 h186 =>
 (condV (some v171) (Res.ok v185 h186) (Res.ok (.bool false) h186)).bind fun v187 h188 =>
 condV (some v187) (
 (call F.ζ1o [a1] h188).bind fun v189 h190 =>
 ζ63 k call v141 v189 h190)
 (
 ζ64 k call a1 v141 v155 v187 h188))) := by kernel_rfl
theorem ζ2n (k : Nat) (call : Caller) (a15 a16 : Value) (h : Heap) : ζ63 k call a15 a16 h =
 (call F.ζ21 [a15] h).bind fun v191 h192 =>
 (call F.ζx [v191, a16] h192).bind fun v193 h194 =>
 .ok v193 h194 := by kernel_rfl
theorem ζ2o (k : Nat) (call : Caller) (a1 a15 a16 a122 : Value) (h : Heap) : ζ64 k call a1 a15 a16 a122 h =
 (call F.ζ21 [a15] h).bind fun v195 h196 =>
 (call F.ζx [v195, a16] h196).bind fun v197 h198 =>
 .ok v197 h198 := by kernel_rfl
def ζ4h (k : Nat) (call : Caller) : Env → Heap → Res (AExit × Env) := loopB (C k) call F.ζi [1, 0, 1, 0, 0]
def ζ3t (k : Nat) (call : Caller) : Kont Value := kBlock 0 (kSeq (pieceK (C k) call F.ζi [1, 1]) (kDone Prog (resOf Prog F.ζi)))
def ζi (k : Nat) (call : Caller) (a0 a1 : Value) (h : Heap) : Res Value :=
 (boxR a0 h).bind fun v1 h2 =>
 (fieldAddrR Prog 190 v1 1 h2).bind fun v3 h4 =>
 (loadR Prog 188 v3 h4).bind fun v5 h6 =>
 (builtinV Prog .len [188] [v5] h6).bind fun v7 h8 =>
 (loopN (ζ4h k call) loopFuel [(1, a1), (2, v1), (8, v5), (9, v7), (10, (.int .i64 0))] h8).bind fun r9 h10 =>
 ζ3t k call r9.1 r9.2 h10
theorem ζcq (k : Nat) (a0 a1 : Value) (h : Heap) : R (T k) F.ζi [a0, a1] h = nrm .gc h (ζi k (R (T k)) a0 a1 h) :=
 (R_body (t := T k) (T_scott k) (by kernel_rfl) (by kernel_rfl) _ _).trans (by kernel_rfl)
theorem ζ3a (k : Nat) (call : Caller) (a1 a2 a8 a9 a10 : Value) (h : Heap) : ζ4h k call [(1, a1), (2, a2), (8, a8), (9, a9), (10, a10)] h =
 (binR Prog .lss 3 a10 a9 h).bind fun v11 h12 =>
 condV (some v11) (
 (indexAddrR Prog 188 a8 a10 h12).bind fun v13 h14 =>
 (loadR Prog 156 v13 h14).bind fun v15 h16 =>
 (builtinV Prog .len [156] [v15] h16).bind fun v17 h18 =>
 (binR Prog .gtr 3 v17 (.int .i64 60) h18).bind fun v19 h20 =>
 condV (some v19) (
 .ok (.ret, [(4, (.bool false))]) h20)
 (
 (binR Prog .add 3 a10 (.int .i64 1) h20).bind fun v21 h22 =>
 .ok (.normal, [(1, a1), (2, a2), (8, a8), (9, a9), (10, v21)]) h22))
 (
 .ok ((.exit 0), [(1, a1), (2, a2), (8, a8), (9, a9), (10, a10), (11, v11)]) h12) :=
 (loopB_eq _ _).trans (by kernel_rfl)
theorem ζ9r (k : Nat) (call : Caller) (a4 : Value) (h : Heap) : ζ3t k call .ret [(4, a4)] h =
 .ok a4 h := by kernel_rfl
theorem ζ14 (k : Nat) (call : Caller) (a1 a2 a8 a9 a10 a11 : Value) (h : Heap) : ζ3t k call (.exit 0) [(1, a1), (2, a2), (8, a8), (9, a9), (10, a10), (11, a11)] h =
 (fieldAddrR Prog 190 a2 0 h).bind fun v23 h24 =>
 (fieldAddrR Prog 146 v23 0 h24).bind fun v25 h26 =>
 (loadR Prog 65 v25 h26).bind fun v27 h28 =>
 (builtinV Prog .len [65] [v27] h28).bind fun v29 h30 =>
 (binR Prog .leq 3 v29 (.int .i64 40) h30).bind fun v31 h32 =>
 ((bif wantVal v31 true then fieldAddrR Prog 190 a2 0 h32 else Res.ok undef h32)).bind fun v33 h34 =>
 ((bif wantVal v31 true then fieldAddrR Prog 146 v33 1 h34 else Res.ok undef h34)).bind fun v35 h36 =>
 ((bif wantVal v31 true then loadR Prog 143 v35 h36 else Res.ok undef h36)).bind fun v37 h38 =>
 ((bif wantVal v31 true then builtinV Prog .len [143] [v37] h38 else Res.ok undef h38)).bind fun v39 h40 =>
 ((bif wantVal v31 true then binR Prog .leq 3 v39 (.int .i64 20) h40 else Res.ok undef h40)).bind fun v41 h42 =>
 (condV (some v31) (Res.ok v41 h42) (Res.ok (.bool false) h42)).bind fun v43 h44 =>
 ((bif wantVal v43 true then fieldAddrR Prog 190 a2 0 h44 else Res.ok undef h44)).bind fun v45 h46 =>
 ((bif wantVal v43 true then fieldAddrR Prog 146 v45 2 h46 else Res.ok undef h46)).bind fun v47 h48 =>
 ((bif wantVal v43 true then loadR Prog 144 v47 h48 else Res.ok undef h48)).bind fun v49 h50 =>
 ((bif wantVal v43 true then builtinV Prog .len [144] [v49] h50 else Res.ok undef h50)).bind fun v51 h52 =>
 ((bif wantVal v43 true then binR Prog .leq 3 v51 (.int .i64 40) h52 else Res.ok undef h52)).bind fun v53 h54 =>
 (condV (some v43) (Res.ok v53 h54) (Res.ok (.bool false) h54)).bind fun v55 h56 =>
 ((bif wantVal v55 true then fieldAddrR Prog 190 a2 1 h56 else Res.ok undef h56)).bind fun v57 h58 =>
 ((bif wantVal v55 true then loadR Prog 188 v57 h58 else Res.ok undef h58)).bind fun v59 h60 =>
 ((bif wantVal v55 true then builtinV Prog .len [188] [v59] h60 else Res.ok undef h60)).bind fun v61 h62 =>
 ((bif wantVal v55 true then binR Prog .leq 3 v61 (.int .i64 20) h62 else Res.ok undef h62)).bind fun v63 h64 =>
 (condV (some v55) (Res.ok v63 h64) (Res.ok (.bool false) h64)).bind fun v65 h66 =>
 ((bif wantVal v65 true then Res.ok a1 h66 else Res.ok undef h66)).bind fun v67 h68 =>
 ((bif wantVal v65 true then builtinV Prog .len [28] [v67] h68 else Res.ok undef h68)).bind fun v69 h70 =>
 ((bif wantVal v65 true then binR Prog .leq 3 v69 (.int .i64 60) h70 else Res.ok undef h70)).bind fun v71 h72 =>
 (condV (some v65) (Res.ok v71 h72) (Res.ok (.bool false) h72)).bind fun v73 h74 =>
 .ok v73 h74 := by kernel_rfl
def ζ4g (k : Nat) (call : Caller) : Env → Heap → Res (AExit × Env) := loopB (C k) call F.ζo [1, 1, 1, 1, 0, 1, 0, 0]
def ζ70 (k : Nat) (call : Caller) : Kont Value := kBlock 0 (kSeq (pieceK (C k) call F.ζo [1, 1, 1, 1, 1]) (kDone Prog (resOf Prog F.ζo)))
def ζ2x (k : Nat) (call : Caller) : Env → Heap → Res (AExit × Env) := loopB (C k) call F.ζo [1, 1, 1, 1, 0, 1, 0, 0, 1, 1, 0, 0, 1, 1, 1, 1, 0, 0]
def ζ71 (k : Nat) (call : Caller) : Kont (AExit × Env) := kBlock 2 (kBlock 1 (kSeq (pieceK (C k) call F.ζo [1, 1, 1, 1, 0, 1, 0, 0, 1, 1, 1]) (kRound (ownOf (C k) F.ζo [1, 1, 1, 1, 0, 1, 0, 0]))))
def ζo (k : Nat) (call : Caller) (a0 a1 : Value) (h : Heap) : Res Value :=
 (boxR a0 h).bind fun v1 h2 =>
 (loadR Prog 146 v1 h2).bind fun v3 h4 =>
 (call F.ζ0 [v3, (.int .i64 2), (.int .i64 4)] h4).bind fun v5 h6 =>
 (builtinV Prog .len [65] [v5] h6).bind fun v7 h8 =>
 (builtinV Prog .len [188] [a1] h8).bind fun v9 h10 =>
 (loopN (ζ4g k call) loopFuel [(1, a1), (5, v5), (6, v7), (7, (.slice none 0 0)), (16, a1), (17, v9), (18, (.int .i64 0))] h10).bind fun r11 h12 =>
 ζ70 k call r11.1 r11.2 h12
theorem ζcp (k : Nat) (a0 a1 : Value) (h : Heap) : R (T k) F.ζo [a0, a1] h = nrm .fz h (ζo k (R (T k)) a0 a1 h) :=
 (R_body (t := T k) (T_scott k) (by kernel_rfl) (by kernel_rfl) _ _).trans (by kernel_rfl)
theorem ζ5h (k : Nat) (call : Caller) (a1 a5 a6 a7 a16 a17 a18 : Value) (h : Heap) : ζ4g k call [(1, a1), (5, a5), (6, a6), (7, a7), (16, a16), (17, a17), (18, a18)] h =
 (binR Prog .lss 3 a18 a17 h).bind fun v13 h14 =>
 condV (some v13) (
 (indexAddrR Prog 188 a16 a18 h14).bind fun v15 h16 =>
 (loadR Prog 156 v15 h16).bind fun v17 h18 =>
 (builtinV Prog .len [188] [a1] h18).bind fun v19 h20 =>
 (binR Prog .mul 3 (.int .i64 4) v19 h20).bind fun v21 h22 =>
 (builtinV Prog .len [65] [a7] h22).bind fun v23 h24 =>
 (binR Prog .add 3 v21 v23 h24).bind fun v25 h26 =>
 (call F.ζ5 [a5, v25, (.int .i64 4)] h26).bind fun v27 h28 =>
 (call F.ζ5 [a7, (.int .i64 8), (.int .i64 2)] h28).bind fun v29 h30 =>
 (call F.ζ5 [v29, (.int .i64 0), (.int .i64 2)] h30).bind fun v31 h32 =>
 (builtinV Prog .len [156] [v17] h32).bind fun v33 h34 =>
 (call F.ζ5 [v31, v33, (.int .i64 2)] h34).bind fun v35 h36 =>
 (builtinV Prog .len [156] [v17] h36).bind fun v37 h38 =>
 (loopN (ζ2x k call) loopFuel [(1, a1), (5, v27), (6, a6), (7, v35), (16, a16), (17, a17), (18, a18), (36, v17), (37, v37), (38, (.int .i64 0))] h38).bind fun r39 h40 =>
 ζ71 k call r39.1 r39.2 h40)
 (
 .ok ((.exit 0), [(1, a1), (5, a5), (6, a6), (7, a7), (16, a16), (17, a17), (18, a18), (19, v13)]) h14) :=
 (loopB_eq _ _).trans (by kernel_rfl)
theorem ζ5i (k : Nat) (call : Caller) (a1 a5 a6 a7 a16 a17 a18 a36 a37 a38 : Value) (h : Heap) : ζ2x k call [(1, a1), (5, a5), (6, a6), (7, a7), (16, a16), (17, a17), (18, a18), (36, a36), (37, a37), (38, a38)] h =
 (binR Prog .lss 3 a38 a37 h).bind fun v41 h42 =>
 condV (some v41) (
 (indexAddrR Prog 156 a36 a38 h42).bind fun v43 h44 =>
 (loadR Prog 62 v43 h44).bind fun v45 h46 =>
 (convR Prog 62 3 v45 h46).bind fun v47 h48 =>
 (call F.ζ5 [a7, v47, (.int .i64 2)] h48).bind fun v49 h50 =>
 (binR Prog .add 3 a38 (.int .i64 1) h50).bind fun v51 h52 =>
 .ok (.normal, [(1, a1), (5, a5), (6, a6), (7, v49), (16, a16), (17, a17), (18, a18), (36, a36), (37, a37), (38, v51)]) h52)
 (
 .ok ((.exit 2), [(1, a1), (5, a5), (6, a6), (7, a7), (16, a16), (17, a17), (18, a18), (36, a36), (37, a37), (38, a38), (39, v41)]) h42) :=
 (loopB_eq _ _).trans (by kernel_rfl)
theorem ζ9b (k : Nat) (call : Caller) (a1 a5 a6 a7 a16 a17 a18 a19 : Value) (h : Heap) : ζ70 k call (.exit 0) [(1, a1), (5, a5), (6, a6), (7, a7), (16, a16), (17, a17), (18, a18), (19, a19)] h =
 (sliceR Prog 65 a5 (some (.int .i64 16)) (some (.int .i64 20)) none h).bindN fun v53 h54 =>
 (call F.ζ5 [(.slice none 0 0), a6, (.int .i64 4)] h54).bindT (fun p57 h58 => .panic p57 h58) fun v55 h56 =>
 (builtinV Prog .copy [65, 65] [v53, v55] h56).bindN fun v59 h60 =>
 chkR ((okVal (sliceR Prog 65 a5 (some (.int .i64 16)) (some (.int .i64 20)) none h56) v53 && true) && true) (
 (builtinV Prog .append [65, 65] [a5, a7] h60).bind fun v61 h62 =>
 .ok v61 h62) := by kernel_rfl
theorem ζ9c (k : Nat) (call : Caller) (a1 a5 a6 a7 a16 a17 a18 a36 a37 a38 a39 : Value) (h : Heap) : ζ71 k call (.exit 2) [(1, a1), (5, a5), (6, a6), (7, a7), (16, a16), (17, a17), (18, a18), (36, a36), (37, a37), (38, a38), (39, a39)] h =
 (binR Prog .add 3 a18 (.int .i64 1) h).bind fun v63 h64 =>
 .ok (.normal, [(1, a1), (5, a5), (6, a6), (7, a7), (16, a16), (17, a17), (18, v63)]) h64 := by kernel_rfl
end
end Go.Sw
end
section
namespace Go.Sw
open Go.RowKit
abbrev encU2 (n : Int) : List Value := [.int .u16 n]
theorem ζmi (n : Int) : (encU2 n).length = 1 := rfl
abbrev encSu (x : List Int × Value) : List Value := [x.2]
theorem ζgi (x : List Int × Value) : (encSu x).length = 1 := rfl
theorem ζnm (s : List Int) {j : Nat} {x : Int} (h : s[j]? = some x) : twos (s.take (j + 1)) = twos (s.take j) ++ bytesOf x 2 := by rw [ζ1p h, ζgz]
theorem w15_l2 (k : Nat) {H0 H : Heap} {L : List It} (g : Star H0 H L) (i : Nat) {o : Option Nat} {s7 : Value} {lk : List Int} (hi : L[i]? = some (itRow o 1 s7 encB lk)) {v : Value} {s : List Int} (hv : Sl H0 1 v encU2 s) (hs : ∀ x, x ∈ s → 0 ≤ x ∧ x < 65536) (hl : lk.length + 2 * s.length < 2 ^ 29) (a1 a5 a6 a16 a17 a18 : Value) :
  ∃ s' o' zz H', loopN (ζ2x k (R (T k))) loopFuel [(1, a1), (5, a5), (6, a6), (7, s7), (16, a16), (17, a17), (18, a18), (36, v), (37, .int .i64 s.length), (38, .int .i64 0)] H =
   .ok (.exit 2, [(1, a1), (5, a5), (6, a6), (7, s'), (16, a16), (17, a17), (18, a18), (36, v), (37, .int .i64 s.length), (38, zz), (39, .bool false)]) H' ∧ Star H0 H' (L.set i (itRow o' 1 s' encB (lk ++ twos s))) := by
 have hlt := (List.getElem?_eq_some_iff.1 hi).1
 have same : L.set i (itRow o 1 s7 encB lk) = L := by
  obtain ⟨hlt, hx⟩ := List.getElem?_eq_some_iff.1 hi
  rw [← hx, List.set_getElem_self]
 obtain ⟨xx, e', H1, hr1, rfl, s', o', rfl, g1⟩ := loop_up (body := ζ2x k (R (T k))) s.length
  (fun j e H' => ∃ s' o', e = [(1, a1), (5, a5), (6, a6), (7, s'), (16, a16), (17, a17), (18, a18), (36, v), (37, .int .i64 s.length), (38, .int .i64 j)] ∧ Star H0 H' (L.set i (itRow o' 1 s' encB (lk ++ twos (s.take j)))))
  (fun xx e H' => xx = .exit 2 ∧ ∃ s' o', e = [(1, a1), (5, a5), (6, a6), (7, s'), (16, a16), (17, a17), (18, a18), (36, v), (37, .int .i64 s.length), (38, .int .i64 s.length), (39, .bool false)] ∧ Star H0 H' (L.set i (itRow o' 1 s' encB (lk ++ twos s))))
  (e0 := [(1, a1), (5, a5), (6, a6), (7, s7), (16, a16), (17, a17), (18, a18), (36, v), (37, .int .i64 s.length), (38, .int .i64 0)]) (H0 := H) ⟨s7, o, rfl, by simpa [twos, same] using g⟩ (by omega)
  (fun j e H' hj ⟨s', o', he, g⟩ => by
   subst he
   have hjl : (j : Int) < s.length := by omega
   obtain ⟨x, hx⟩ : ∃ x, s[j]? = some x := ⟨_, List.getElem?_eq_getElem hj⟩
   have hxb := hs x (List.mem_of_getElem? hx)
   obtain ⟨p, i1, i2⟩ := hv.ix1 ζmi j x hx _ rfl
   have i2 := i2 H' g.ext
   have hself : (L.set i (itRow o' 1 s' encB (lk ++ twos (s.take j))))[i]? = some (itRow o' 1 s' encB (lk ++ twos (s.take j))) := List.getElem?_set_self hlt
   obtain ⟨s2, o2, H2, e2, g2⟩ := Put_star k g i hself x 2 2 rfl hxb.1 (by omega) (by omega) (by rw [List.length_append, twos_len, List.length_take]; omega)
   rw [List.set_set, List.append_assoc, ← ζnm s hx] at g2
   refine .inl ⟨_, H2, ?_, s2, o2, rfl, g2⟩
   rw [ζ5i]
   simp -implicitDefEqProofs (disch := omega) [hjl, i1, i2, e2])
  (fun e H' ⟨s', o', he, g⟩ => by
   subst he
   rw [List.take_length] at g
   refine ⟨.exit 2, _, H', ?_, by simp, rfl, s', o', rfl, g⟩
   rw [ζ5i]
   simp -implicitDefEqProofs)
 exact ⟨s', o', _, H1, hr1, g1⟩
theorem ζmu (subs : List (List Int)) {j : Nat} {s : List Int} (h : subs[j]? = some s) : lksB (subs.take (j + 1)) = lksB (subs.take j) ++ ofS s := by
 rw [ζ1p h]
 simp [lksB]
theorem ζn0 (subs : List (List Int)) {j : Nat} (h : j < subs.length) : ((offsL subs).take (j + 1)).flatten = ((offsL subs).take j).flatten ++ bytesOf (4 * subs.length + (lksB (subs.take j)).length : Int) 4 := by
 have : (offsL subs)[j]? = some (bytesOf (4 * subs.length + (lksB (subs.take j)).length : Int) 4) := by
  unfold offsL
  rw [List.getElem?_map, List.getElem?_range h]
  rfl
 rw [ζ1p this]
 simp
theorem ζhs (p : Plan) (w : Int) (rm r x : List Int) (h : rm.length = r.length) : ((planRoom p w rm) ++ x).take 16 ++ (r ++ ((planRoom p w rm) ++ x).drop (16 + r.length)) = planRoom p w r ++ x := by
 have e : ∀ rm' : List Int, rm'.length = r.length → planRoom p w rm' ++ x = (bytesOf (planN p : Int) 4 ++ (bytesOf (16 + r.length : Int) 4 ++ (bytesOf (16 + r.length + (ofS p.cls).length : Int) 4 ++ bytesOf (16 + r.length + (ofS p.cls).length + (rowsL (planN p) p.rows).length : Int) 4))) ++ (rm' ++ ((ofS p.cls ++ (rowsL (planN p) p.rows ++ entsB w p.ents)) ++ x)) := fun rm' hr => by
  unfold planRoom
  rw [hr]
  simp only [List.append_assoc]
 rw [e rm h, e r rfl]
 generalize hA : (bytesOf (planN p : Int) 4 ++ (bytesOf (16 + r.length : Int) 4 ++ (bytesOf (16 + r.length + (ofS p.cls).length : Int) 4 ++ bytesOf (16 + r.length + (ofS p.cls).length + (rowsL (planN p) p.rows).length : Int) 4))) = A
 have hAl : A.length = 16 := by rw [← hA]; simp
 generalize ((ofS p.cls ++ (rowsL (planN p) p.rows ++ entsB w p.ents)) ++ x) = Z
 rw [← hAl, List.take_left, ← h]
 rw [show A ++ (rm ++ Z) = (A ++ rm) ++ Z by rw [List.append_assoc], show A.length + rm.length = (A ++ rm).length by simp, List.drop_left]
set_option maxHeartbeats 1000000 in
theorem ζh4 (k : Nat) (hW : ownW k = .no) (p : Plan) (hp : p.ok) (h1 : p.cls.length ≤ 1000) (h2 : p.rows.length ≤ 1000) (h3 : p.ents.length ≤ 1000) {H : Heap} {vC vR sE : Value} {rv : List (List Int × Value)} (hP : PlanSl H p vC vR sE rv)
  (subs : List (List Int × Value)) (hs : ∀ x, x ∈ subs → Sl H 1 x.2 encU2 x.1 ∧ x.1.length ≤ 60 ∧ ∀ n, n ∈ x.1 → 0 ≤ n ∧ n < 65536) (hn : subs.length ≤ 1000) {vS : Value} (hvS : Sl H 1 vS encSu subs) :
  R (T k) F.ζo [.agg #[vC, vR, sE, .int .u8 p.wide], vS] H = .ok (lv encB (ctxBytes p (subs.map Prod.fst))) H := by
 rw [ζcp]
 obtain ⟨H1, hH1⟩ : ∃ H1, H1 = H.push ⟨[vC, vR, sE, .int .u8 p.wide], 1, false⟩ := ⟨_, rfl⟩
 have hx1 : Ext H H1 := by rw [hH1]; exact (Ext.refl H).push _
 have hg1 : H1.get H.n = some ⟨[vC, vR, sE, .int .u8 p.wide], 1, false⟩ := by rw [hH1]; exact ζe _ _ _ rfl
 obtain ⟨N, hN⟩ : ∃ N, N = (planRoom p 2 (List.replicate 4 0)).length := ⟨_, rfl⟩
 have hNb : N ≤ 100000 := by rw [hN]; exact ζba hp 2 (by simp) h1 h2 h3
 obtain ⟨fs, hfs⟩ : ∃ fs : List (List Int), fs = subs.map Prod.fst := ⟨_, rfl⟩
 have hfl : fs.length = subs.length := by rw [hfs]; simp
 have hfb : ∀ s, s ∈ fs → s.length ≤ 60 := fun s h => by
  rw [hfs] at h
  obtain ⟨x, hx, rfl⟩ := List.mem_map.1 h
  exact (hs x hx).2.1
 have hLk := lksB_le fs hfb
 have hLk2 := ζe9 fs
 have hol := ζdo fs
 obtain ⟨s0, o0, J0, e0, g, _⟩ := ζjw k hW p hp 2 (by omega) 4 (by omega) h1 h2 h3 (Star.nil H1) (hP.up hx1)
 rw [ζgw] at g
 simp only [List.nil_append] at g
 have hln0 : ∀ H', lnS s0 H' = .ok (.int .i64 N) H' := by rw [hN]; exact (g.row 0 rfl).len
 have hlnS : ∀ H', lnS vS H' = .ok (.int .i64 subs.length) H' := fun H' => hvS.len H'
 have g := g.more_row (Ext.refl _) (OwnO.nil encB _ 1) (fun b hb => by cases hb)
 simp only [List.cons_append, List.nil_append] at g
 obtain ⟨xx, e', J1, hr1, rfl, s5, s7, o5, o7, rfl, g⟩ := loop_up (body := ζ4g k (R (T k))) subs.length
  (fun j e H' => ∃ s5 s7 o5 o7, e = [(1, vS), (5, s5), (6, .int .i64 N), (7, s7), (16, vS), (17, .int .i64 subs.length), (18, .int .i64 j)] ∧ Star H1 H' [itRow o5 1 s5 encB (planRoom p 2 (List.replicate 4 0) ++ ((offsL fs).take j).flatten), itRow o7 1 s7 encB (lksB (fs.take j))])
  (fun xx e H' => xx = .exit 0 ∧ ∃ s5 s7 o5 o7, e = [(1, vS), (5, s5), (6, .int .i64 N), (7, s7), (16, vS), (17, .int .i64 subs.length), (18, .int .i64 subs.length), (19, .bool false)] ∧ Star H1 H' [itRow o5 1 s5 encB (planRoom p 2 (List.replicate 4 0) ++ offsB fs), itRow o7 1 s7 encB (lksB fs)])
  (e0 := [(1, vS), (5, s0), (6, .int .i64 N), (7, .slice none 0 0), (16, vS), (17, .int .i64 subs.length), (18, .int .i64 0)]) (H0 := J0) ⟨s0, _, o0, none, rfl, by simpa [lksB] using g⟩ (by omega)
  (fun j e H' hj ⟨s5, s7, o5, o7, he, g⟩ => by
   subst he
   have hjl : (j : Int) < subs.length := by omega
   obtain ⟨x, hx⟩ : ∃ x, subs[j]? = some x := ⟨_, List.getElem?_eq_getElem hj⟩
   have hxs := hs x (List.mem_of_getElem? hx)
   have hf : fs[j]? = some x.1 := by rw [hfs, List.getElem?_map, hx]; rfl
   obtain ⟨pt, i1, i2⟩ := (hvS.up hx1).ix1 ζgi j x hx _ rfl
   have i2 := i2 H' g.ext
   have hlx : ∀ H', lnS x.2 H' = .ok (.int .i64 x.1.length) H' := fun H' => hxs.1.len H'
   have hlk := hLk2 j
   have hl7 : ∀ H', lnS s7 H' = .ok (.int .i64 (lksB (fs.take j)).length) H' := (g.row 1 rfl).len
   have hob : ((offsL fs).take j).flatten.length ≤ 4000 := by
    rw [flat_len (fun r hr => ζee fs r (List.mem_of_mem_take hr)), List.length_take, ζgs]
    omega
   obtain ⟨t1, u1, J1, f1, g⟩ := Put_star k g 0 rfl (4 * fs.length + (lksB (fs.take j)).length) 4 4 rfl (by omega) (by omega) (by omega) (by rw [List.length_append]; omega)
   simp only [List.set_cons_zero, List.set_cons_succ] at g
   rw [List.append_assoc, ← ζn0 fs (by omega)] at g
   obtain ⟨t2, u2, J2, f2, g⟩ := Put_star k g 1 rfl 8 2 2 rfl (by omega) (by omega) (by omega) (by omega)
   simp only [List.set_cons_zero, List.set_cons_succ] at g
   obtain ⟨t3, u3, J3, f3, g⟩ := Put_star k g 1 rfl 0 2 2 rfl (by omega) (by omega) (by omega) (by rw [List.length_append, ζ3d]; omega)
   simp only [List.set_cons_zero, List.set_cons_succ] at g
   obtain ⟨t4, u4, J4, f4, g⟩ := Put_star k g 1 rfl x.1.length 2 2 rfl (by omega) (by omega) (by omega) (by simp only [List.length_append, ζ3d]; omega)
   simp only [List.set_cons_zero, List.set_cons_succ] at g
   obtain ⟨t5, u5, zz, J5, f5, g⟩ := w15_l2 k g 1 rfl (hxs.1.up hx1) hxs.2.2 (by simp only [List.length_append, ζ3d]; omega) vS t1 (.int .i64 N) vS (.int .i64 subs.length) (.int .i64 j)
   simp only [List.set_cons_zero, List.set_cons_succ] at g
   have hsn : lksB (fs.take j) ++ bytesOf 8 2 ++ bytesOf 0 2 ++ bytesOf x.1.length 2 ++ twos x.1 = lksB (fs.take (j + 1)) := by
    rw [ζmu fs hf]
    unfold ofS
    simp only [List.append_assoc]
   rw [hsn] at g
   rw [hfl] at f1
   refine .inl ⟨_, J5, ?_, t1, t5, u1, u5, rfl, g⟩
   rw [ζ5h]
   simp -implicitDefEqProofs (disch := omega) [hjl, i1, i2, hlnS, hl7, f1, f2, f3, hlx, f4, f5, ζ9c])
  (fun e H' ⟨s5, s7, o5, o7, he, g⟩ => by
   subst he
   rw [List.take_of_length_le (by rw [ζgs]; omega), List.take_of_length_le (by omega)] at g
   refine ⟨.exit 0, _, H', ?_, by simp, rfl, s5, s7, o5, o7, rfl, g⟩
   rw [ζ5h]
   simp -implicitDefEqProofs)
 -- where the lookups stand is told
 have hbl : (planRoom p 2 (List.replicate 4 0) ++ offsB fs).length = N + fs.length * 4 := by rw [List.length_append, hol, hN]
 have hN16 : 20 ≤ N := by rw [hN]; unfold planRoom; simp; omega
 obtain ⟨c5, rfl, hs5, cut1⟩ := g.cut1 0 rfl 16 4 (by omega) (by omega) .i64 .i64
 have g := g.more_row (Ext.refl _) (OwnO.nil encB _ 1) (fun b hb => by cases hb)
 simp only [List.cons_append, List.nil_append] at g
 obtain ⟨t6, u6, J6, f6, g⟩ := Put_star k g 2 rfl N 4 4 rfl (by omega) (by omega) (by omega) (by simp)
 simp only [List.set_cons_zero, List.set_cons_succ, List.nil_append] at g
 obtain ⟨c6, h6, _, cut2⟩ := g.cut1 0 rfl 16 4 (by omega) (by omega) .i64 .i64
 have h6 := Option.some.inj h6
 subst h6
 obtain ⟨J7, f7, g⟩ := g.copy1 0 2 rfl rfl 16 4 ((planRoom p 2 (List.replicate 4 0) ++ offsB fs).length - 16) (by simp) (by omega) (by omega)
 simp only [List.set_cons_zero] at g
 have hcopy := ζhs p 2 (List.replicate 4 0) (bytesOf (N : Int) 4) (offsB fs) (by simp)
 rw [ζ3d] at hcopy
 rw [hcopy] at g
 have hrl : (planRoom p 2 (bytesOf (N : Int) 4)).length = N := by rw [hN]; exact ζcx p 2 _ _ (by simp)
 obtain ⟨t8, u8, J8, f8, g⟩ := g.appendRow (bytes := 1) 0 1 encB_len rfl rfl (by rw [List.length_append, hrl]; omega) (by decide)
 simp only [List.set_cons_zero, List.set_cons_succ] at g
 have hfin : planRoom p 2 (bytesOf (N : Int) 4) ++ offsB fs ++ lksB fs = ctxBytes p fs := by unfold ctxBytes; rw [← hN, List.append_assoc]
 rw [hfin] at g
 have hown : Own H J8 1 t8 encB (ctxBytes p fs) := (g.own 0 rfl).base hx1.n
 obtain ⟨L, hf⟩ := hown.freeze encB_len (fun n _ v hv => by simp at hv; subst hv; trivial) 6
 refine nrm_fz (v := t8) (H' := J8) ?_ (by rw [← hfs]; exact hf) (hx1.trans g.ext) (Flat.B _).alive
 have hv5 : veq (.slice (some ⟨c5, 16, none⟩) 4 ((planRoom p 2 (List.replicate 4 0) ++ offsB fs).length - 16)) (.slice (some ⟨c5, 16, none⟩) 4 ((planRoom p 2 (List.replicate 4 0) ++ offsB fs).length - 16)) = true := by simp
 generalize (planRoom p 2 (List.replicate 4 0) ++ offsB fs).length - 16 = cap at cut1 cut2 f7 hv5
 have cut1 : slS 1 s5 (some (.int .i64 16)) (some (.int .i64 20)) none J1 = .ok (.slice (some ⟨c5, 16, none⟩) 4 cap) J1 := cut1
 have cut2 : slS 1 s5 (some (.int .i64 16)) (some (.int .i64 20)) none J6 = .ok (.slice (some ⟨c5, 16, none⟩) 4 cap) J6 := cut2
 rw [hH1] at e0
 have e0 : R (T k) F.ζ0 [.agg #[vC, vR, sE, .int .u8 p.wide], .int .i64 2, .int .i64 4] (H.push ⟨[vC, vR, sE, .int .u8 p.wide], 1, false⟩) = .ok s0 J0 := e0
 simp -implicitDefEqProofs (disch := omega) [ζo, e0, hln0, hlnS, hr1, ζ9b, cut1, f6, cut2, f7, hv5, f8]
theorem ζii (k : Nat) (hW : ownW k = .no) (p : Plan) (hp : p.ok) (h1 : p.cls.length ≤ 1000) (h2 : p.rows.length ≤ 1000) (h3 : p.ents.length ≤ 1000) {H : Heap} {sE : Value} (hsE : Sl H 4 sE encEn p.ents)
  (subs : List (List Int × Value)) (hs : ∀ x, x ∈ subs → Sl H 1 x.2 encU2 x.1 ∧ x.1.length ≤ 60 ∧ ∀ n, n ∈ x.1 → 0 ≤ n ∧ n < 65536) (hn : subs.length ≤ 1000) {vS : Value} (hvS : Sl H 1 vS encSu subs) :
  R (T k) F.ζo [.agg #[lv encB p.cls, lv encBR p.rows, sE, .int .u8 p.wide], vS] H = .ok (lv encB (ctxBytes p (subs.map Prod.fst))) H :=
 ζh4 k hW p hp h1 h2 h3 (PlanSl.lv H p hsE) subs hs hn hvS
end Go.Sw
end
section
namespace Go.Sw
open Go.RowKit
theorem ζm8 (n : Nat) : n &&& 2 ^ 15 = if n.testBit 15 then 2 ^ 15 else 0 := by
 apply Nat.eq_of_testBit_eq
 intro i
 rw [Nat.testBit_and, Nat.testBit_two_pow]
 by_cases h : 15 = i
 ·subst h
  cases hb : n.testBit 15 <;> simp <;> decide
 ·cases hb : n.testBit 15
  ·simp [h]
  ·simp only [h, decide_false, Bool.and_false, if_true, Nat.testBit_two_pow]
theorem and15 (P : Program) (t : TypeId) (H : Heap) {a : Int} (h0 : 0 ≤ a) (h1 : a < 65536) : binR P .and t (.int .i64 a) (.int .i64 32768) H = .ok (.int .i64 (if a ≥ 32768 then 32768 else 0)) H := by
 have e : (BitVec.ofInt 64 a &&& BitVec.ofInt 64 32768).toNat = (if a ≥ 32768 then 32768 else 0) := by
  rw [BitVec.toNat_and, BitVec.toNat_ofInt, BitVec.toNat_ofInt]
  rw [show ((32768 : Int) % ((2 ^ 64 : Nat) : Int)).toNat = 2 ^ 15 from by decide, ζm8, Nat.testBit_eq_decide_div_mod_eq]
  obtain ⟨n, rfl⟩ := Int.eq_ofNat_of_zero_le h0
  rw [show (((n : Int)) % ((2 ^ 64 : Nat) : Int)).toNat = n by omega]
  by_cases h : (n : Int) ≥ 32768
  ·rw [if_pos h, decide_eq_true (show n / 2 ^ 15 % 2 = 1 by omega)]; rfl
  ·rw [if_neg h, decide_eq_false (show ¬ n / 2 ^ 15 % 2 = 1 by omega)]; rfl
 have e1 : binV P .and t (.int .i64 a) (.int .i64 32768) = some (.int .i64 (IntKind.i64.wrap (BitVec.ofInt 64 a &&& BitVec.ofInt 64 32768).toNat)) := rfl
 unfold binR
 rw [e1, e]
 by_cases h : a ≥ 32768
 ·simp [h]
 ·simp [h]
def doC (t : CTab) (s : List Gl × Int) (i : Int) (e : En) : List Gl × Int :=
 (swapC t (swapC t s.1 s.2 e.a) i e.b, if e.flags ≥ 32768 ∧ i < (s.1.length : Int) then i else s.2)
def ctxW (t : CTab) (L : List It) (i c : Nat) (o : Option Nat) (p1 p3 pm : Nat) (s : List Gl × Int) : List It :=
 L.set i (itLine c o s.1) ++ [itBlk p1 ⟨[ctxV t], 1, false⟩, itBlk p3 ⟨[ptrV c], 1, false⟩, itBlk pm ⟨[.int .i64 s.2], 1, false⟩]
set_option maxHeartbeats 1000000 in
theorem ctx_do (k : Nat) (t : CTab) (ht : t.ok) (L : List It) (i c : Nat) (o : Option Nat) (hi : i < L.length) (p1 p3 pm n : Nat) {H0 : Heap} :
  DoOk k t.m H0 (ctxW t L i c o p1 p3 pm) (fun s => s.1.length = n) (.func (.func F.ζr) #[] #[ptrV p1, ptrV p3, ptrV pm]) (doC t) := by
 intro s j e H X hI st h0 h1 he
 have hI2 : (swapC t (swapC t s.1 s.2 e.a) j e.b).length = n := by simpa using hI
 have heb := ht.m.ent e he
 have hhas := ht.has e he
 unfold ctxW at st ⊢
 have hline : ∀ (l : List Gl) (B : List It), (L.set i (itLine c o l) ++ B)[i]? = some (itLine c o l) := fun l B => by
  rw [List.getElem?_append_left (by simpa using hi), List.getElem?_set_self hi]
 have hset : ∀ (l l' : List Gl) (B : List It), (L.set i (itLine c o l) ++ B).set i (itLine c o l') = L.set i (itLine c o l') ++ B := fun l l' B => by
  rw [List.set_append_left _ _ (by simpa using hi), List.set_set]
 have st2 := st.push ⟨encEn e, 1, false⟩
 rw [List.append_assoc, List.append_assoc] at st2
 have g1 := st2.memBlk (c := p1) (k := ⟨[ctxV t], 1, false⟩) (by simp)
 have g3 := st2.memBlk (c := p3) (k := ⟨[ptrV c], 1, false⟩) (by simp)
 have gm := st2.memBlk (c := pm) (k := ⟨[.int .i64 s.2], 1, false⟩) (by simp)
 have ge := st2.memBlk (c := H.n) (k := ⟨encEn e, 1, false⟩) (by simp)
 obtain ⟨v1, H1, e1, st3⟩ := ζdt k t ht st2 i (hline s.1 _) s.2 e.a (by omega)
 rw [hset] at st3
 have f1 := st3.memBlk (c := p1) (k := ⟨[ctxV t], 1, false⟩) (by simp)
 have f3 := st3.memBlk (c := p3) (k := ⟨[ptrV c], 1, false⟩) (by simp)
 have fe := st3.memBlk (c := H.n) (k := ⟨encEn e, 1, false⟩) (by simp)
 obtain ⟨v2, H2, e2, st4⟩ := ζdt k t ht st3 i (hline _ _) j e.b (by omega)
 rw [hset] at st4
 have k3 := st4.memBlk (c := p3) (k := ⟨[ptrV c], 1, false⟩) (by simp)
 have ke := st4.memBlk (c := H.n) (k := ⟨encEn e, 1, false⟩) (by simp)
 have hlen := ζfv k st4 i (hline _ _)
 simp only [ζnj] at hlen
 have han := fun H => and15 Prog 3 H heb.2.2.1 heb.2.2.2.1
 have fin : ∀ (H' : Heap) (M : Int), Star H0 H' (L.set i (itLine c o (swapC t (swapC t s.1 s.2 e.a) j e.b)) ++ ([itBlk p1 ⟨[ctxV t], 1, false⟩, itBlk p3 ⟨[ptrV c], 1, false⟩, itBlk pm ⟨[.int .i64 M], 1, false⟩] ++ (X ++ [itBlk H.n ⟨encEn e, 1, false⟩]))) →
   Star H0 H' (L.set i (itLine c o (swapC t (swapC t s.1 s.2 e.a) j e.b)) ++ [itBlk p1 ⟨[ctxV t], 1, false⟩, itBlk p3 ⟨[ptrV c], 1, false⟩, itBlk pm ⟨[.int .i64 M], 1, false⟩] ++ X) := fun H' M h => by
  rw [← List.append_assoc, ← List.append_assoc] at h
  exact h.ζa5
 by_cases hf : e.flags ≥ 32768
 ·rw [if_pos hf] at han
  by_cases hj : j < (s.1.length : Int)
  ·have hd : (doC t s j e).2 = j := by unfold doC; exact if_pos ⟨hf, hj⟩
   have hd1 : (doC t s j e).1 = swapC t (swapC t s.1 s.2 e.a) j e.b := rfl
   rw [hd, hd1]
   have hix : (L.set i (itLine c o (swapC t (swapC t s.1 s.2 e.a) j e.b)) ++ ([itBlk p1 ⟨[ctxV t], 1, false⟩, itBlk p3 ⟨[ptrV c], 1, false⟩, itBlk pm ⟨[.int .i64 s.2], 1, false⟩] ++ (X ++ [itBlk H.n ⟨encEn e, 1, false⟩]))) =
     (L.set i (itLine c o (swapC t (swapC t s.1 s.2 e.a) j e.b)) ++ [itBlk p1 ⟨[ctxV t], 1, false⟩, itBlk p3 ⟨[ptrV c], 1, false⟩]) ++ itBlk pm ⟨[.int .i64 s.2], 1, false⟩ :: (X ++ [itBlk H.n ⟨encEn e, 1, false⟩]) := by simp
   rw [hix] at st4
   obtain ⟨H3, e3, st5⟩ := st4.stEnd 0 (v := .int .i64 j) rfl rfl (by simp)
   simp only [List.set_cons_zero] at st5
   refine ⟨.tuple #[], H3, ?_, fin H3 j (by simpa using st5), hI2⟩
   simp only [callV, List.nil_append, List.cons_append]
   rw [ζ43, nrm_of]
   simp -implicitDefEqProofs (disch := omega) [-stR_ptr, ζr, g1, g3, gm, ge, e1, f1, f3, fe, e2, k3, ke, han, bne, hlen, hj, e3]
  ·have hd : (doC t s j e).2 = s.2 := by unfold doC; exact if_neg fun h => hj h.2
   have hd1 : (doC t s j e).1 = swapC t (swapC t s.1 s.2 e.a) j e.b := rfl
   rw [hd, hd1]
   refine ⟨.tuple #[], H2, ?_, fin H2 s.2 st4, hI2⟩
   simp only [callV, List.nil_append, List.cons_append]
   rw [ζ43, nrm_of]
   simp -implicitDefEqProofs (disch := omega) [-stR_ptr, ζr, g1, g3, gm, ge, e1, f1, f3, fe, e2, k3, ke, han, bne, hlen, hj]
 ·rw [if_neg hf] at han
  have hd : (doC t s j e).2 = s.2 := by unfold doC; exact if_neg fun h => hf h.1
  have hd1 : (doC t s j e).1 = swapC t (swapC t s.1 s.2 e.a) j e.b := rfl
  rw [hd, hd1]
  refine ⟨.tuple #[], H2, ?_, fin H2 s.2 st4, hI2⟩
  simp only [callV, List.nil_append, List.cons_append]
  rw [ζ43, nrm_of]
  simp -implicitDefEqProofs (disch := omega) [-stR_ptr, ζr, g1, g3, gm, ge, e1, f1, f3, fe, e2, k3, ke, han, bne]
end Go.Sw
end
section
namespace Go.Sw
open Go.RowKit
theorem plainNew (k : Nat) (f : Fn) (a b : Array Value) (H : Heap) : R (T k) F.ζ4s [.func f a b] H = .ok (.func (.func F.ζ1l) #[] #[ptrV H.n]) (H.push ⟨[.func f a b], 1, false⟩) := by
 rw [ζh7]
 have e : ζ4s k (R (T k)) (.func f a b) H = .ok (.func (.func F.ζ1l) #[] #[ptrV H.n]) (H.push ⟨[.func f a b], 1, false⟩) := by
  simp -implicitDefEqProofs [ζ4s]
 rw [e]
 have dead : ¬ Alive H (.func (.func F.ζ1l) #[] #[ptrV H.n]) := fun h => by
  cases h with
  | func fn xs ys h1 h2 =>
   have := h2 0 (ptrV H.n) rfl
   cases this with
   | ptr b off k hg => have := Heap.get_lt hg; omega
 unfold nrm
 exact if_neg fun hc => dead hc.2
end Go.Sw
end
