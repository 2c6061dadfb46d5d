/-
  Functions' forms, and what is proved of them, part 8.
-/
import Derived.Test.YtnaodjnimkndbaaSwCfg
import Derived.Test.YtnaodjnimkndbaaSwLib8
import Derived.Tactics
import Derived.Tactics2
import Derived.Defers
import Derived.Recover
import Derived.Laws.Pointers
import Derived.Test.YtnaodjnimkndbaaSwW4
import Derived.Eval
import Derived.Test.YtnaodjnimkndbaaSwW2
import Derived.Test.YtnaodjnimkndbaaSwLib9
import Derived.Test.YtnaodjnimkndbaaSwW5
import Derived.Test.YtnaodjnimkndbaaSwW7
set_option linter.unusedSimpArgs false
set_option linter.unusedVariables false
set_option linter.unusedSectionVars false
section
namespace Go.Sw
open Go.RowKit Go.Proofs
set_option maxRecDepth 20000 in
theorem catch_short (p : Addr) (b : Bool) (w : World) (hc : (w.alloc (.cells #[] 233)).cell? p = some (.bool b)) (hz : (w.alloc (.cells #[] 233)).frozen? p = false) :
    CallsD Prog 160 #[.pointer (some p)] (.panicking [{ v := .iface 233 (.agg #[]), recovered := false }]) w fun e u' w' =>
      e = .returned (.tuple #[]) ∧ u' = .panicking [{ v := .iface 233 (.agg #[]), recovered := true }] ∧ w' = (w.alloc (.cells #[] 233)).setCell p (.bool false) := by
  refine callsD_of_wpS Try.func160 rfl fun c₀ cs hu => ?_
  apply wpS_seq
  apply wpS_region
  simp [wpOpsS, go_sem, recoverD, hu, Try.ntmps160, Exit.thenS]
  have hta : ∀ w, (Instr.typeAssert (.iface 233 (.agg #[])) 20 233 true).run Prog w = .ok (.tuple #[.agg #[], .bool true]) w := fun w => by kernel_rfl
  refine wpS_of_wp ?_
  go_wp2
  cases c₀
  simp_all [bodyPostS, results, Try.results160]
theorem catch_idle (p : Addr) (w : World) :
    CallsD Prog 160 #[.pointer (some p)] .returning w fun e u' w' => e = .returned (.tuple #[]) ∧ u' = .returning ∧ w' = w := by
  refine callsD_of_wpS Try.func160 rfl fun c₀ cs hu => ?_
  apply wpS_seq
  apply wpS_region
  simp [wpOpsS, go_sem, recoverD, hu, Try.ntmps160, Exit.thenS]
  refine wpS_of_wp ?_
  go_wp2
  cases c₀
  simp_all [bodyPostS, results, Try.results160]
set_option maxRecDepth 20000 in
theorem try_walk (g : FuncId) (first cap : Array Value) (w : World) (R : Ending → World → Prop)
    (hcf : (callFunc g (first ++ cap)).run Prog (w.alloc (.cells #[.bool false] 4)) = .ok (.enter g (first ++ cap)) (w.alloc (.cells #[.bool false] 4)))
    (hcall : Calls Prog g (first ++ cap) (w.alloc (.cells #[.bool false] 4)) fun e w' => match e with
      | .returned _ => w'.heap[w.heap.size]? = some (.cells #[.bool false] 4 (0, 0)) ∧ R (.returned (.bool true)) (w'.setCell ⟨w.heap.size, 0, none⟩ (.bool true))
      | .panicked chain => chain = [{ v := .iface 233 (.agg #[]), recovered := false }] ∧ w'.heap[w.heap.size]? = some (.cells #[.bool false] 4 (0, 0)) ∧ R (.returned (.bool false)) ((w'.alloc (.cells #[] 233)).setCell ⟨w.heap.size, 0, none⟩ (.bool false))
      | .outgrown => False) :
    Calls Prog 77 #[.func (.func g) first cap] w R := by
  have hmf : ∀ (fn : Fn) (first cap : Array Value) (w : World), (Instr.makeFunc fn first cap).run Prog w = .ok (.func fn first cap) w := fun _ _ _ _ => rfl
  go_enter_defers Try.func77, Try.ntmps77
  go_wp2
  rename_i K2 hK2 K1 hK1
  refine hcall.mono fun e w' he => ?_
  cases e with
  | returned v =>
    obtain ⟨h1, h2⟩ := he
    have hc : w'.cell? ⟨w.heap.size, 0, none⟩ = some (.bool false) := by simp [World.cell?, h1]
    have hz : w'.frozen? ⟨w.heap.size, 0, none⟩ = false := by simp [World.frozen?, h1]
    apply hK1
    apply hK2
    go_wp2
    have hc2 : (w'.setCell ⟨w.heap.size, 0, none⟩ (.bool true)).cell? ⟨w.heap.size, 0, none⟩ = some (.bool true) := World.cell?_setCell_same _ _ _ hc
    refine leaves_cons (f := 160) (args := #[.pointer (some ⟨w.heap.size, 0, none⟩)]) (by simp) (by simp [go_sem]) ?_
    refine (catch_idle ⟨w.heap.size, 0, none⟩ _).mono ?_
    rintro e u' w'' ⟨rfl, rfl, rfl⟩
    simp [Leaves, settle, results, Try.results77, go_sem, hc2]
    exact h2
  | panicked chain =>
    obtain ⟨h0, h1, h2⟩ := he
    subst h0
    have hlt : w.heap.size < w'.heap.size := by
      rcases Nat.lt_or_ge w.heap.size w'.heap.size with h | h
      · exact h
      · rw [Array.getElem?_eq_none h] at h1; cases h1
    have h3 : (w'.alloc (.cells #[] 233)).heap[w.heap.size]? = some (.cells #[.bool false] 4 (0, 0)) := by
      rw [heap_alloc_lt _ _ _ hlt]; exact h1
    have hc : (w'.alloc (.cells #[] 233)).cell? ⟨w.heap.size, 0, none⟩ = some (.bool false) := by simp only [World.cell?, h3]; rfl
    have hz : (w'.alloc (.cells #[] 233)).frozen? ⟨w.heap.size, 0, none⟩ = false := by simp [World.frozen?, h3]
    have hc2 : ((w'.alloc (.cells #[] 233)).setCell ⟨w.heap.size, 0, none⟩ (.bool false)).cell? ⟨w.heap.size, 0, none⟩ = some (.bool false) := World.cell?_setCell_same _ _ _ hc
    show Leaves _ _ _ _ _ _ _
    refine leaves_cons (f := 160) (args := #[.pointer (some ⟨w.heap.size, 0, none⟩)]) (by simp) (by simp [go_sem]) ?_
    refine (catch_short ⟨w.heap.size, 0, none⟩ false _ hc hz).mono ?_
    rintro e u' w'' ⟨rfl, rfl, rfl⟩
    simp [Leaves, settle, results, Try.results77, go_sem, hc2]
    exact h2
  | outgrown => exact he.elim
theorem try_is : SpIs Prog 77 (tryV 233) := try_of (bt := 4) Try.func77 rfl (by kernel_rfl) try_walk
end Go.Sw
end
section
namespace Go.Sw
open Go.RowKit
theorem names_ok : NamesOk Prog := NamesOk.of (by kernel_rfl)
theorem mixed_ok : Prog.follows .mixedOrders = true := Checked.mixed Go.Proofs.Try.checked
theorem laid_ok : laidOutB Prog = true := by kernel_rfl
theorem cloneP_is : SpIs Prog F.slices_Clone_of_api_Place_api_Place fun _ args H => cloneV 3 12 args H :=
  clone_is (c := { P := Prog, kp := kpS, sp := fun _ => none }) names_ok mixed_ok (t := 31) (e := 34) (by kernel_rfl) fun call a H => (slices_Clone_of_api_Place_api_Place_body 0 _ call a H).trans (by
    unfold slices_Clone_of_api_Place_api_Place cloneF
    simp only [be_31_0, ap_31, beR_bare])
theorem cloneG_is : SpIs Prog F.slices_Clone_of_api_Glyph_api_Glyph fun _ args H => cloneV 2 16 args H :=
  clone_is (c := { P := Prog, kp := kpS, sp := fun _ => none }) names_ok mixed_ok (t := 50) (e := 55) (by kernel_rfl) fun call a H => (slices_Clone_of_api_Glyph_api_Glyph_body 0 _ call a H).trans (by
    unfold slices_Clone_of_api_Glyph_api_Glyph cloneF
    simp only [be_50_0, ap_50, beR_bare])
theorem more_is (f : FuncId) (s : Sp) (h : moreS f = some s) : SpIs Prog f s := by
  unfold moreS at h
  cases h1 : Nat.beq f 77 with
  | true => have := Nat.eq_of_beq_eq_true h1; subst this; rw [h1, cond_true] at h; injection h with h; subst h; exact try_is
  | false =>
  rw [h1, cond_false] at h
  cases h2 : Nat.beq f 147 with
  | true => have := Nat.eq_of_beq_eq_true h2; subst this; rw [h2, cond_true] at h; injection h with h; subst h; exact cloneP_is
  | false =>
  rw [h2, cond_false] at h
  cases h3 : Nat.beq f 151 with
  | true => have := Nat.eq_of_beq_eq_true h3; subst this; rw [h3, cond_true] at h; injection h with h; subst h; exact cloneG_is
  | false =>
  rw [h3, cond_false] at h
  cases h4 : Nat.beq f 152 with
  | true => rw [h4, cond_true] at h; injection h with h; subst h; exact SpIs.stuck _ _
  | false => rw [h4, cond_false] at h; cases h
theorem T_prog (k : Nat) : (T k).c.P = Prog := by unfold T C; rfl
theorem told_ok {k m : Nat} (hsp : okTrue (run (baseCfg Prog kpS moreS) m (k % 1000000) [] Heap.empty) = true) : SpOk (T k).c := by
  have h0 : CallOk Prog (run (baseCfg Prog kpS moreS) m) := run_ok (c := baseCfg Prog kpS moreS) names_ok mixed_ok (SpOk.base more_is) m
  have h1 : SpOk (C k) := by
    unfold C
    exact SpOk.of (P := Prog) (kp := kpS) (speaks := speaksT) (more := moreS) (k := k % 1000000) h0 hsp more_is
  exact h1
end Go.Sw
end
section
set_option maxRecDepth 100000
set_option linter.unusedVariables false
namespace Go.Sw
noncomputable section
def swashref02_Put_l1 (k : Nat) (call : Caller) : Env → Heap → Res (AExit × Env) := loopB (C k) call F.swashref02_Put [1, 0, 1, 0, 0]
def swashref02_Put_l1k (k : Nat) (call : Caller) : Kont Value := kBlock 0 (kSeq (pieceK (C k) call F.swashref02_Put [1, 1]) (kDone Prog (resOf Prog F.swashref02_Put)))
def swashref02_Put_l2 (k : Nat) (call : Caller) : Env → Heap → Res (AExit × Env) := loopB (C k) call F.swashref02_Put [1, 0, 1, 0, 0, 1, 0, 0, 1, 0, 1, 0, 0]
def swashref02_Put_l2k (k : Nat) (call : Caller) : Kont (AExit × Env) := kBlock 2 (kSeq (pieceK (C k) call F.swashref02_Put [1, 0, 1, 0, 0, 1, 0, 0, 1, 1]) (kBlock 1 (kSeq (pieceK (C k) call F.swashref02_Put [1, 0, 1, 0, 0, 1, 1]) (kRound (ownOf (C k) F.swashref02_Put [1, 0, 1, 0, 0])))))
def swashref02_Put (k : Nat) (call : Caller) (a0 a1 a2 : Value) (h : Heap) : Res Value :=
  (binR Prog .sub 3 a2 (.int .i64 1) h).bind fun v1 h2 =>
  (loopN (swashref02_Put_l1 k call) loopFuel [(0, a0), (1, a1), (7, v1)] h2).bind fun r3 h4 =>
  swashref02_Put_l1k k call r3.1 r3.2 h4
theorem swashref02_Put_R (k : Nat) (a0 a1 a2 : Value) (h : Heap) : R (T k) F.swashref02_Put [a0, a1, a2] h = nrm .no h (swashref02_Put k (R (T k)) a0 a1 a2 h) :=
  (R_body (t := T k) (T_scott k) (by kernel_rfl) _ _).trans (by kernel_rfl)
theorem swashref02_Put_l1_eq (k : Nat) (call : Caller) (a0 a1 a7 : Value) (h : Heap) : swashref02_Put_l1 k call [(0, a0), (1, a1), (7, a7)] h =
  (binR Prog .geq 3 a7 (.int .i64 0) h).bind fun v5 h6 =>
  condV (some v5) (
    (loopN (swashref02_Put_l2 k call) loopFuel [(0, a0), (1, a1), (7, a7), (8, a1), (9, (.int .i64 0))] h6).bind fun r7 h8 =>
    swashref02_Put_l2k k call r7.1 r7.2 h8)
  (
    .ok ((.exit 0), [(0, a0), (1, a1), (7, a7), (13, v5)]) h6) :=
  (loopB_eq _ _).trans (by kernel_rfl)
theorem swashref02_Put_l2_eq (k : Nat) (call : Caller) (a0 a1 a7 a8 a9 : Value) (h : Heap) : swashref02_Put_l2 k call [(0, a0), (1, a1), (7, a7), (8, a8), (9, a9)] h =
  (binR Prog .lss 3 a9 a7 h).bind fun v9 h10 =>
  condV (some v9) (
    (binR Prog .quo 3 a8 (.int .i64 256) h10).bind fun v11 h12 =>
    (binR Prog .add 3 a9 (.int .i64 1) h12).bind fun v13 h14 =>
    .ok (.normal, [(0, a0), (1, a1), (7, a7), (8, v11), (9, v13)]) h14)
  (
    .ok ((.exit 2), [(0, a0), (1, a1), (7, a7), (8, a8), (9, a9), (19, v9)]) h10) :=
  (loopB_eq _ _).trans (by kernel_rfl)
theorem swashref02_Put_l1k_x0 (k : Nat) (call : Caller) (a0 a1 a7 a13 : Value) (h : Heap) : swashref02_Put_l1k k call (.exit 0) [(0, a0), (1, a1), (7, a7), (13, a13)] h =
  .ok a0 h := by kernel_rfl
theorem swashref02_Put_l2k_x2 (k : Nat) (call : Caller) (a0 a1 a7 a8 a9 a19 : Value) (h : Heap) : swashref02_Put_l2k k call (.exit 2) [(0, a0), (1, a1), (7, a7), (8, a8), (9, a9), (19, a19)] h =
  (binR Prog .rem 3 a8 (.int .i64 256) h).bind fun v15 h16 =>
  (convR Prog 3 5 v15 h16).bind fun v17 h18 =>
  (buildSliceR Prog 65 1 [(0, v17)] h18).bind fun v19 h20 =>
  (builtinV Prog .append [65, 65] [a0, v19] h20).bind fun v21 h22 =>
  (binR Prog .sub 3 a7 (.int .i64 1) h22).bind fun v23 h24 =>
  .ok (.normal, [(0, v21), (1, a1), (7, v23)]) h24 := by kernel_rfl
end
end Go.Sw
end
section
namespace Go.Sw
open Go.RowKit
theorem Put_in (k : Nat) (s : Value) (n : Int) (i : Nat) (h0 : 0 ≤ n) (hn : n < 2 ^ 62) (hi : i < 2 ^ 62) (H : Heap) :
    loopN (swashref02_Put_l2 k (R (T k))) loopFuel [(0, s), (1, .int .i64 n), (7, .int .i64 i), (8, .int .i64 n), (9, .int .i64 0)] H = .ok (.exit 2, [(0, s), (1, .int .i64 n), (7, .int .i64 i), (8, .int .i64 (n / 256 ^ i)), (9, .int .i64 i), (19, .bool false)]) H := by
  obtain ⟨x, e', H1, hr, rfl, rfl, rfl⟩ := loop_up (body := swashref02_Put_l2 k (R (T k))) i
    (fun j e H' => H' = H ∧ e = [(0, s), (1, .int .i64 n), (7, .int .i64 i), (8, .int .i64 (n / 256 ^ j)), (9, .int .i64 j)])
    (fun x e H' => H' = H ∧ x = .exit 2 ∧ e = [(0, s), (1, .int .i64 n), (7, .int .i64 i), (8, .int .i64 (n / 256 ^ i)), (9, .int .i64 i), (19, .bool false)])
    (e0 := [(0, s), (1, .int .i64 n), (7, .int .i64 i), (8, .int .i64 n), (9, .int .i64 0)]) (H0 := H) ⟨rfl, by simp⟩ (by omega)
    (fun j e H' hj ⟨hH, he⟩ => by
      subst he hH
      have hlt : (j : Int) < i := by omega
      have q0 : 0 ≤ n / 256 ^ j := Int.ediv_nonneg h0 (Int.pow_nonneg (by decide))
      have q1 : n / 256 ^ j ≤ n := Int.ediv_le_self _ h0
      have hq : (n / 256 ^ j).tdiv 256 = n / 256 ^ (j + 1) := by
        rw [Int.tdiv_eq_ediv_of_nonneg q0, Int.pow_succ, Int.ediv_ediv_of_nonneg (Int.pow_nonneg (by decide))]
      have q := fun H => bin_quo Prog 3 H .i64 (n / 256 ^ j) 256 (by decide)
      rw [hq] at q
      have q2 : 0 ≤ n / 256 ^ (j + 1) := Int.ediv_nonneg h0 (Int.pow_nonneg (by decide))
      have q3 : n / 256 ^ (j + 1) ≤ n := Int.ediv_le_self _ h0
      generalize n / 256 ^ (j + 1) = m at q q2 q3 ⊢
      generalize n / 256 ^ j = m0 at q ⊢
      refine .inl ⟨_, H', ?_, rfl, rfl⟩
      rw [swashref02_Put_l2_eq]
      simp -implicitDefEqProofs (disch := omega) [hlt, q])
    (fun e H' ⟨hH, he⟩ => by
      subst he hH
      refine ⟨.exit 2, _, H', ?_, by simp, rfl, rfl, rfl⟩
      rw [swashref02_Put_l2_eq]
      simp -implicitDefEqProofs (disch := omega))
  exact hr
theorem Put_star (k : Nat) {H0 H : Heap} {L : List It} (h : Star H0 H L) (i : Nat) {o : Option Nat} {s : Value} {b : List Int} (hi : L[i]? = some (itRow o 1 s encB b)) (n zi : Int) (z : Nat) (hzi : zi = z) (h0 : 0 ≤ n) (hn : n < 2 ^ 62) (hz : z ≤ 8) (hl : b.length < 2 ^ 30) :
    ∃ s' o' H', R (T k) F.swashref02_Put [s, .int .i64 n, .int .i64 zi] H = .ok s' H' ∧ Star H0 H' (L.set i (itRow o' 1 s' encB (b ++ bytesOf n z))) := by
  subst hzi
  rw [swashref02_Put_R]
  have hlt : i < L.length := (List.getElem?_eq_some_iff.1 hi).1
  have hself : L.set i (itRow o 1 s encB b) = L := by
    obtain ⟨hlt, hx⟩ := List.getElem?_eq_some_iff.1 hi
    rw [← hx, List.set_getElem_self]
  obtain ⟨x, e', H1, hr, s', o', rfl, ⟨a, c, rfl⟩, ho⟩ := loopDec (body := swashref02_Put_l1 k (R (T k)))
    (fun m e H' => ∃ s o acc, e = [(0, s), (1, .int .i64 n), (7, .int .i64 ((m : Int) - 1))] ∧ Star H0 H' (L.set i (itRow o 1 s encB acc)) ∧ acc ++ bytesOf n m = b ++ bytesOf n z ∧ m ≤ z)
    (fun x e H' => ∃ s' o', x = .exit 0 ∧ (∃ a c, e = [(0, s'), (1, .int .i64 n), (7, a), (13, c)]) ∧ Star H0 H' (L.set i (itRow o' 1 s' encB (b ++ bytesOf n z))))
    (e0 := [(0, s), (1, .int .i64 n), (7, .int .i64 ((z : Int) - 1))]) (H0 := H) z ⟨s, o, b, rfl, by rw [hself]; exact h, rfl, Nat.le_refl _⟩ (by omega)
    (fun m e H' ⟨s, o, acc, he, ho, ha, hmz⟩ => by
      subst he
      cases m with
      | zero =>
        refine .inr ⟨.exit 0, _, H', ?_, by simp, s, o, rfl, ⟨.int .i64 ((0 : Nat) - 1), .bool false, rfl⟩, by simpa [bytesOf] using (by simpa [bytesOf] using ha) ▸ ho⟩
        rw [swashref02_Put_l1_eq]
        simp -implicitDefEqProofs
      | succ m =>
        have hin := Put_in k s n m h0 hn (by omega) H'
        have q0 : 0 ≤ n / 256 ^ m := Int.ediv_nonneg h0 (Int.pow_nonneg (by decide))
        have hacc : acc.length < 2 ^ 31 := by
          have := congrArg List.length ha
          simp [bytesOf_len] at this
          omega
        obtain ⟨s2, o2, H2, e1, o1⟩ := ho.append1 (bytes := 1) i encB_len (List.getElem?_set_self hlt) ((n / 256 ^ m) % 256) hacc (by decide)
        rw [List.set_set] at o1
        have hrem := fun H => bin_rem Prog 3 H .i64 (n / 256 ^ m) 256 (by decide)
        rw [Int.tmod_eq_emod_of_nonneg q0] at hrem
        have hb : 0 ≤ (n / 256 ^ m) % 256 ∧ (n / 256 ^ m) % 256 < 256 := by omega
        refine .inl ⟨m, _, H2, ?_, by omega, s2, o2, acc ++ [(n / 256 ^ m) % 256], rfl, o1, by rw [List.append_assoc]; exact ha, by omega⟩
        rw [swashref02_Put_l1_eq]
        have hge : (m : Int) ≥ 0 := by omega
        rw [show (((m + 1 : Nat) : Int) - 1) = (m : Int) by omega]
        generalize (n / 256 ^ m) % 256 = y at e1 hrem hb
        simp -implicitDefEqProofs (disch := omega) [hge, hin, swashref02_Put_l2k_x2, hrem, e1])
  refine ⟨s', o', H1, ?_, ho⟩
  simp -implicitDefEqProofs (disch := omega) [swashref02_Put, hr, swashref02_Put_l1k_x0, nrm_no]
end Go.Sw
end
section
namespace Go.Sw
open Go.RowKit
end Go.Sw
end
section
set_option maxRecDepth 100000
set_option linter.unusedVariables false
namespace Go.Sw
noncomputable section
end
end Go.Sw
end
section
namespace Go.Sw
open Go.RowKit
structure Plan where
  cls : List Int
  rows : List (List Int)
  ents : List En
  wide : Int
def m16 (x : Int) : Int := x % 65536
theorem m16_bound (a : Int) : 0 ≤ m16 a ∧ m16 a < 65536 := by unfold m16; omega
def Plan.ok (p : Plan) : Prop := Byt p.cls ∧ (∀ r, r ∈ p.rows → Byt r) ∧ 0 ≤ p.wide ∧ p.wide < 256
end Go.Sw
end
section
namespace Go.Sw
open Go.RowKit
theorem restS_iff {b rv : List Int} {j : Int} : restS b j = some rv ↔ (0 ≤ j ∧ j ≤ b.length) ∧ rv = b.drop j.toNat := by
  unfold restS
  split
  · rename_i h
    exact ⟨fun e => by injection e with e; exact ⟨h, e.symm⟩, fun e => by rw [e.2]⟩
  · rename_i h
    exact ⟨fun e => (by cases e), fun e => absurd e.1 h⟩
end Go.Sw
end
section
namespace Go.Sw
open Go.RowKit
def tabOf (cls : List Int) : Int × List Pt := (8, if cls = [] then [] else [⟨0, (cls.length : Int) - 1, cls⟩])
end Go.Sw
end
section
namespace Go.Sw
open Go.RowKit
structure PW where
  l : Int
  r : Int
  v : Int
abbrev encPW (p : PW) : List Value := [.int .u16 p.l, .int .u16 p.r, .int .i16 p.v]
theorem encPW_len (p : PW) : (encPW p).length = 3 := rfl
def PW.ok (p : PW) : Prop := (0 ≤ p.l ∧ p.l < 65536) ∧ (0 ≤ p.r ∧ p.r < 65536) ∧ -32768 ≤ p.v ∧ p.v < 32768
def PW.key (p : PW) : Int := p.l * 65536 + p.r
def prB (p : PW) : List Int := bytesOf p.l 2 ++ bytesOf p.r 2 ++ bytesOf (m16 p.v) 2
def prsB (l : List PW) : List Int := (l.map prB).flatten
def listW (l : List PW) : List Int := bytesOf (l.length : Int) 4 ++ List.replicate 12 0 ++ prsB l
theorem prB_len (p : PW) : (prB p).length = 6 := by simp [prB]
theorem prsB_snoc (l : List PW) (x : PW) : prsB (l ++ [x]) = prsB l ++ prB x := by simp [prsB]
theorem prsB_len (l : List PW) : (prsB l).length = l.length * 6 := flat_len (z := 6) (fun r hr => by obtain ⟨p, _, rfl⟩ := List.mem_map.1 hr; exact prB_len p) |>.trans (by simp)
theorem wrap_m16 (n : Int) : IntKind.u16.wrap n = m16 n := by
  unfold IntKind.wrap m16
  simp [IntKind.signed, IntKind.bits]
set_option maxHeartbeats 1000000 in
theorem pWrite_run (k : Nat) (l : List PW) (hl : ∀ p, p ∈ l → p.ok) (hn : l.length ≤ 1000) (H : Heap) : R (T k) F.swashlaw22_Write [lv encPW l] H = .ok (lv encB (listW l)) H := by
  rw [swashlaw22_Write_R]
  have g := (Star.nil H).more_row (Ext.refl _) (OwnO.nil encB _ 1) (fun b hb => by cases hb)
  simp only [List.nil_append] at g
  obtain ⟨t1, u1, J1, f1, g⟩ := Put_star k g 0 rfl l.length 4 4 rfl (by omega) (by omega) (by omega) (by simp)
  simp only [List.set_cons_zero, List.set_cons_succ, List.nil_append] at g
  obtain ⟨a4, l4, c4, ht4⟩ := (g.row 0 rfl).shape
  obtain ⟨t5, u5, J5, f5, g⟩ := g.append (bytes := 1) 0 encB_len rfl (b := lv encB (List.replicate 12 0)) (l2 := List.replicate 12 0) (by rw [lv, List.length_replicate]; rfl) (by have := lv_first encB_len (List.replicate 12 0) J1; exact this) (by simp) (by decide)
  simp only [List.set_cons_zero, List.set_cons_succ] at g
  have f5' : azR 1 1 [.int .u8 0] t1 (.int .i64 12) J1 = .ok t5 J5 := by
    rw [ht4] at f5 ⊢
    rw [show ((12 : Int)) = ((12 : Nat) : Int) from rfl, azR_eq encB_len a4 l4 c4 (0 : Int) _ rfl .i64 12 (by omega)]
    exact f5
  obtain ⟨x, e', H4, hr4, rfl, z4, s4, o4, rfl, g⟩ := loop_up (body := swashlaw22_Write_l1 k (R (T k))) l.length
    (fun j e H' => ∃ s o, e = [(3, s), (10, lv encPW l), (11, .int .i64 l.length), (12, .int .i64 j)] ∧ Star H H' [itRow o 1 s encB ((bytesOf (l.length : Int) 4 ++ List.replicate 12 0) ++ prsB (l.take j))])
    (fun x e H' => x = .exit 0 ∧ ∃ z s o, e = [(3, s), (10, lv encPW l), (11, .int .i64 l.length), (12, z), (13, .bool false)] ∧ Star H H' [itRow o 1 s encB (listW l)])
    (e0 := [(3, t5), (10, lv encPW l), (11, .int .i64 l.length), (12, .int .i64 0)]) (H0 := J5) ⟨t5, u5, rfl, by simpa [prsB] using g⟩ (by omega)
    (fun j e H' hj ⟨s, o, he, g⟩ => by
      subst he
      have hlt : (j : Int) < l.length := by omega
      obtain ⟨c, hc⟩ : ∃ c, l[j]? = some c := ⟨_, List.getElem?_eq_getElem hj⟩
      obtain ⟨q, i1, i2⟩ := ((Sl.lv H' 3 l).rd (by decide) encPW_len).2 j c hc
      have hcb := hl c (List.mem_of_getElem? hc)
      obtain ⟨hc1, hc2, hc3⟩ := hcb
      have b3 := m16_bound c.v
      have wu := wrap_m16 c.v
      have hlen : (bytesOf (l.length : Int) 4 ++ List.replicate 12 0 ++ prsB (l.take j)).length ≤ 16 + 6000 := by
        simp [prsB_len, List.length_take]
        omega
      have g := g.push ⟨encPW c, 1, false⟩
      simp only [List.cons_append, List.nil_append] at g
      obtain ⟨s1, o1, H1, e1, g1⟩ := Put_star k g 0 rfl c.l 2 2 rfl hc1.1 (by omega) (by omega) (by omega)
      simp only [List.set_cons_zero, List.set_cons_succ] at g1
      have h1 := g1.get 1 rfl
      obtain ⟨s2, o2, H2, e2, g2⟩ := Put_star k g1 0 rfl c.r 2 2 rfl hc2.1 (by omega) (by omega) (by rw [List.length_append]; simp only [bytesOf_len]; omega)
      simp only [List.set_cons_zero, List.set_cons_succ] at g2
      have h2 := g2.get 1 rfl
      obtain ⟨s3, o3, H3, e3, g3⟩ := Put_star k g2 0 rfl (m16 c.v) 2 2 rfl b3.1 (by omega) (by omega) (by rw [List.length_append, List.length_append]; simp only [bytesOf_len]; omega)
      simp only [List.set_cons_zero, List.set_cons_succ] at g3
      refine .inl ⟨_, H3, ?_, s3, o3, rfl, by rw [take_snoc hc, prsB_snoc]; simpa [prB] using g3.take 1⟩
      rw [swashlaw22_Write_l1_eq]
      simp -implicitDefEqProofs (disch := omega) [hlt, i1, i2, e1, h1, wu, e2, h2, e3])
    (fun e H' ⟨s, o, he, g⟩ => by
      subst he
      rw [List.take_length] at g
      refine ⟨.exit 0, _, H', ?_, by simp, rfl, .int .i64 l.length, s, o, rfl, g⟩
      rw [swashlaw22_Write_l1_eq]
      simp -implicitDefEqProofs)
  obtain ⟨L, hf⟩ := (g.own 0 rfl).freeze encB_len (fun n _ v hv => by simp at hv; subst hv; trivial) 6
  refine nrm_fz (v := s4) (H' := H4) ?_ hf g.ext (Flat.B _).alive
  simp -implicitDefEqProofs (disch := omega) [swashlaw22_Write, f1, f5', hr4, swashlaw22_Write_l1k_x0]
theorem prB_byt (p : PW) : Byt (prB p) := ((bytesOf_byt _ _).app (bytesOf_byt _ _)).app (bytesOf_byt _ _)
theorem prsB_byt (l : List PW) : Byt (prsB l) := Byt.flat fun r hr => by obtain ⟨p, _, rfl⟩ := List.mem_map.1 hr; exact prB_byt p
theorem rep0_byt (n : Nat) : Byt (List.replicate n 0) := fun x hx => by rw [List.eq_of_mem_replicate hx]; omega
theorem listW_byt (l : List PW) : Byt (listW l) := ((bytesOf_byt _ _).app (rep0_byt _)).app (prsB_byt l)
theorem listW_len (l : List PW) : (listW l).length = 16 + l.length * 6 := by simp [listW, prsB_len]; omega
theorem num_app (a b : List Int) : num (a ++ b) = num a * 256 ^ b.length + num b := by
  induction a with
  | nil => simp [num]
  | cons x a ih => rw [List.cons_append, num_cons, num_cons, ih, List.length_append, Int.pow_add, Int.add_mul, Int.mul_assoc]; omega
theorem key_num {p : PW} (h : p.ok) : num ((prB p).take 4) = p.key := by
  have : (prB p).take 4 = bytesOf p.l 2 ++ bytesOf p.r 2 := by
    unfold prB
    rw [List.take_append_of_le_length (by simp), List.take_of_length_le (by simp)]
  rw [this, num_app, num_bytesOf h.1.1 (by simpa using h.1.2), num_bytesOf h.2.1.1 (by simpa using h.2.1.2)]
  simp [PW.key]
theorem pList_W (l : List PW) (hl : ∀ p, p ∈ l → p.ok) (hn : l.length ≤ 1000) : pListS (listW l) = if upS (l.map PW.key) then some ⟨l.map PW.key, prsB l, none, none, 0, 2⟩ else none := by
  unfold pListS
  have h1 : uS (listW l) 0 4 = some (l.length : Int) := by
    have := uS_at [] (List.replicate 12 0 ++ prsB l) (n := l.length) (k := 4) 0 4 rfl rfl (by omega) (by omega)
    simpa [listW] using this
  have h2 : (pieceS (listW l) 0 16).isSome = true := by rw [inS_piece]; unfold inS; rw [decide_eq_true_eq, listW_len]; omega
  obtain ⟨c, hc⟩ := Option.isSome_iff_exists.1 h2
  have h3 : rowsS (listW l) 16 l.length 6 = some (prsB l) := by
    rw [rowsS_iff (by omega), listW_len]
    refine ⟨by omega, ?_⟩
    have : (listW l).drop 16 = prsB l := by unfold listW; rw [List.drop_append_of_le_length (by simp), List.drop_of_length_le (by simp)]; rfl
    rw [show ((16 : Int)).toNat = 16 from rfl, this, List.take_of_length_le (by rw [prsB_len]; omega)]
  have h4 : keysS (prsB l) l.length = l.map PW.key := by
    unfold keysS prsB
    rw [show ((l.length : Int)).toNat = (l.map prB).length by simp, cut_flat fun r hr => by obtain ⟨p, _, rfl⟩ := List.mem_map.1 hr; exact prB_len p, List.map_map]
    exact List.map_congr_left fun p hp => key_num (hl p hp)
  rw [h1, Option.bind_some, hc, Option.bind_some, h3, Option.bind_some, h4]
theorem m16_s16 {v : Int} (h : -32768 ≤ v ∧ v < 32768) : s16 (m16 v) = v := by unfold s16 m16; split <;> omega
theorem pval_W (l : List PW) {rows cols step} (i : Nat) (p : PW) (hp : l[i]? = some p) (ok : p.ok) (ks : List Int) : pvalS ⟨ks, prsB l, rows, cols, step, 2⟩ (6 * (i : Int) + 4) = p.v := by
  unfold pvalS
  dsimp only
  rw [if_neg (by omega)]
  have hi := (List.getElem?_eq_some_iff.1 hp).1
  have hcut := flat_cut (z := 6) (rs := l.map prB) (fun r hr => by obtain ⟨p, _, rfl⟩ := List.mem_map.1 hr; exact prB_len p) i (by simpa using hi)
  rw [List.getElem?_map, hp, Option.map_some] at hcut
  injection hcut with hcut
  have hpc : pieceS (prsB l) (6 * (i : Int)) 6 = some (prB p) := by
    rw [pieceS_iff, prsB_len]
    refine ⟨by omega, ?_⟩
    rw [show (6 * (i : Int)).toNat = 6 * i by omega]
    exact hcut
  have hu := uS_sub hpc (x := 4) (y := 2) (by omega) (by omega) (by omega)
  have h16 : uS (prB p) 4 2 = some (m16 p.v) := by
    have := uS_at (bytesOf p.l 2 ++ bytesOf p.r 2) [] (n := m16 p.v) (k := 2) 4 2 (by simp) rfl (m16_bound _).1 (by have := (m16_bound p.v).2; simpa using this)
    simpa [prB] using this
  rw [h16] at hu
  rw [gU_some hu.symm, m16_s16 ok.2.2]
end Go.Sw
end
section
namespace Go.Sw
open Go.RowKit
def keysW (l : List PW) : List Int := l.map PW.key
def wantW (l : List PW) (x y : Int) : Int := l.foldl (fun w p => if p.l = x ∧ p.r = y then p.v else w) 0
theorem wantW_snoc (l : List PW) (p : PW) (x y : Int) : wantW (l ++ [p]) x y = if p.l = x ∧ p.r = y then p.v else wantW l x y := by simp [wantW]
theorem want_still (x y : Int) : ∀ (l : List PW) (w : Int), (∀ p, p ∈ l → ¬ (p.l = x ∧ p.r = y)) → l.foldl (fun w p => if p.l = x ∧ p.r = y then p.v else w) w = w
  | [], _, _ => rfl
  | p :: l, w, h => by
    rw [List.foldl_cons, if_neg (h p (by simp))]
    exact want_still x y l w fun q hq => h q (by simp [hq])
theorem keyW_less {a b : PW} (ha : a.ok) (hb : b.ok) : a.key < b.key ↔ a.l < b.l ∨ a.l = b.l ∧ a.r < b.r := by
  obtain ⟨a1, a2, _⟩ := ha
  obtain ⟨b1, b2, _⟩ := hb
  unfold PW.key
  omega
theorem keysW_last {l : List PW} {i : Nat} {q : PW} (h : l[i]? = some q) : (keysW (l.take (i + 1))).getLast? = some q.key := by
  rw [take_snoc h]
  simp [keysW]
theorem want_get (l : List PW) (hl : ∀ p, p ∈ l → p.ok) (hup : upS (keysW l) = true) (x y : Int) (hx : 0 ≤ x ∧ x < 65536) (hy : 0 ≤ y ∧ y < 65536) :
    pgetS ⟨keysW l, prsB l, none, none, 0, 2⟩ x y = wantW l x y := by
  unfold pgetS
  dsimp only
  rw [if_neg (by omega)]
  by_cases h : ∃ p, p ∈ l ∧ (p.l = x ∧ p.r = y)
  · obtain ⟨p, hp, rfl, rfl⟩ := h
    obtain ⟨i, hi⟩ := List.getElem?_of_mem hp
    have hk : (keysW l)[i]? = some (p.l * 65536 + p.r) := by unfold keysW; rw [List.getElem?_map, hi]; rfl
    rw [placeS_at hk hup]
    have hil := (List.getElem?_eq_some_iff.1 hi).1
    have e : l = l.take i ++ p :: l.drop (i + 1) := by
      have h1 := List.take_append_drop i l
      have h2 : l.drop i = p :: l.drop (i + 1) := by
        rw [List.drop_eq_getElem_cons hil]
        have := (List.getElem?_eq_some_iff.1 hi).2
        rw [this]
      rw [h2] at h1
      exact h1.symm
    have hw : wantW l p.l p.r = p.v := by
      unfold wantW
      conv => lhs; rw [e]
      rw [List.foldl_append, List.foldl_cons, if_pos ⟨rfl, rfl⟩]
      refine want_still _ _ _ _ fun q hq hqe => ?_
      obtain ⟨j, hj⟩ := List.getElem?_of_mem hq
      rw [List.getElem?_drop] at hj
      have hkj : (keysW l)[i + 1 + j]? = some q.key := by unfold keysW; rw [List.getElem?_map, hj]; rfl
      have := upS_get hup i (i + 1 + j) _ _ (by omega) hk hkj
      unfold PW.key at this
      rw [hqe.1, hqe.2] at this
      omega
    rw [hw]
    exact pval_W l i p hi (hl p hp) _
  · have hno : placeS (keysW l) (x * 65536 + y) = none := placeS_none fun z hz e => by
      obtain ⟨p, hp, rfl⟩ := List.mem_map.1 hz
      obtain ⟨o1, o2, _⟩ := hl p hp
      refine h ⟨p, hp, ?_⟩
      unfold PW.key at e
      omega
    rw [hno]
    exact (want_still x y l 0 fun p hp e => h ⟨p, hp, e⟩).symm
theorem want_of (l : List PW) (hl : ∀ p, p ∈ l → p.ok) (hup : upS (keysW l) = true) {i : Nat} {p : PW} (hi : l[i]? = some p) : pgetS ⟨keysW l, prsB l, none, none, 0, 2⟩ p.l p.r = p.v := by
  have hp := List.mem_of_getElem? hi
  obtain ⟨o1, o2, _⟩ := hl p hp
  unfold pgetS
  dsimp only
  rw [if_neg (by omega)]
  have hk : (keysW l)[i]? = some (p.l * 65536 + p.r) := by unfold keysW; rw [List.getElem?_map, hi]; rfl
  rw [placeS_at hk hup]
  exact pval_W l i p hi (hl p hp) _
set_option maxHeartbeats 1000000 in
theorem lists_l1 (k : Nat) (l : List PW) (hl : ∀ p, p ∈ l → p.ok) (hn : l.length < 2 ^ 30) (x y : Int) (H : Heap) :
    ∃ z H', loopN (swashlaw22_PairLists_l1 k (R (T k))) loopFuel [(0, lv encPW l), (1, .int .u16 x), (2, .int .u16 y), (7, .bool true), (8, .int .i64 0), (20, lv encPW l), (21, .int .i64 l.length), (22, .int .i64 0)] H =
      .ok (.exit 0, [(0, lv encPW l), (1, .int .u16 x), (2, .int .u16 y), (7, .bool (upS (keysW l))), (8, .int .i64 (wantW l x y)), (20, lv encPW l), (21, .int .i64 l.length), (22, z), (23, .bool false)]) H' ∧ Ext H H' := by
  obtain ⟨x', e', H4, hr4, rfl, z, rfl, hx4⟩ := loop_up (body := swashlaw22_PairLists_l1 k (R (T k))) l.length
    (fun j e H' => e = [(0, lv encPW l), (1, .int .u16 x), (2, .int .u16 y), (7, .bool (upS (keysW (l.take j)))), (8, .int .i64 (wantW (l.take j) x y)), (20, lv encPW l), (21, .int .i64 l.length), (22, .int .i64 j)] ∧ Ext H H')
    (fun x' e H' => x' = .exit 0 ∧ ∃ z, e = [(0, lv encPW l), (1, .int .u16 x), (2, .int .u16 y), (7, .bool (upS (keysW l))), (8, .int .i64 (wantW l x y)), (20, lv encPW l), (21, .int .i64 l.length), (22, z), (23, .bool false)] ∧ Ext H H')
    (e0 := [(0, lv encPW l), (1, .int .u16 x), (2, .int .u16 y), (7, .bool true), (8, .int .i64 0), (20, lv encPW l), (21, .int .i64 l.length), (22, .int .i64 0)]) (H0 := H) ⟨rfl, Ext.refl _⟩ (by omega)
    (fun j e H' hj ⟨he, hx⟩ => by
      subst he
      have hlt : (j : Int) < l.length := by omega
      obtain ⟨p, hp⟩ : ∃ p, l[j]? = some p := ⟨_, List.getElem?_eq_getElem hj⟩
      obtain ⟨a, i1, i2⟩ := ((Sl.lv H' 3 l).rd (by decide) encPW_len).2 j p hp
      have hpo := hl p (List.mem_of_getElem? hp)
      obtain ⟨c1, c2, c3⟩ := id hpo
      have hup : upS (keysW (l.take (j + 1))) = (upS (keysW (l.take j)) && match (keysW (l.take j)).getLast? with | some q => decide (q < p.key) | none => true) := by
        rw [take_snoc hp, keysW, List.map_append, List.map_cons, List.map_nil, upS_snoc]
        rfl
      have hw : wantW (l.take (j + 1)) x y = if p.l = x ∧ p.r = y then p.v else wantW (l.take j) x y := by rw [take_snoc hp, wantW_snoc]
      rw [hup, hw]
      refine .inl ⟨[(0, lv encPW l), (1, .int .u16 x), (2, .int .u16 y), (7, .bool _), (8, .int .i64 _), (20, lv encPW l), (21, .int .i64 l.length), (22, .int .i64 ((j + 1 : Nat) : Int))], H'.push ⟨encPW p, 1, false⟩, ?_, rfl, hx.push _⟩
      rw [swashlaw22_PairLists_l1_eq]
      generalize wantW (l.take j) x y = w
      have ex : (p.l = x ∧ (p.l == x) = true) ∨ ((p.l == x) = false ∧ ¬ p.l = x) := by by_cases h : p.l = x <;> simp [h]
      have ey : (p.r = y ∧ (p.r == y) = true) ∨ ((p.r == y) = false ∧ ¬ p.r = y) := by by_cases h : p.r = y <;> simp [h]
      cases hu : upS (keysW (l.take j)) with
      | false =>
        rcases ex with ⟨rfl, e1⟩ | e1 <;> rcases ey with ⟨rfl, e2⟩ | e2 <;> simp -implicitDefEqProofs (disch := omega) [hlt, i1, i2, e1, e2, swashlaw22_PairLists_j1_eq, swashlaw22_PairLists_j2_eq]
      | true =>
        rcases Nat.eq_zero_or_pos j with hj0 | hj0
        · have hj2 : ((j : Int) == 0) = true := by simp; omega
          have ht0 : l.take j = [] := by rw [hj0]; rfl
          rw [ht0]
          rcases ex with ⟨rfl, e1⟩ | e1 <;> rcases ey with ⟨rfl, e2⟩ | e2 <;> simp -implicitDefEqProofs (disch := omega) [hlt, i1, i2, hj2, e1, e2, swashlaw22_PairLists_j1_eq, swashlaw22_PairLists_j2_eq, keysW]
        · obtain ⟨i, hi⟩ : ∃ i, j = i + 1 := ⟨j - 1, by omega⟩
          have hj1 : (j : Int) - 1 = (i : Int) := by omega
          have hj2 : ((j : Int) == 0) = false := by simp; omega
          have hj3 : ¬ j = 0 := by omega
          obtain ⟨q, hq⟩ : ∃ q, l[i]? = some q := ⟨_, List.getElem?_eq_getElem (by omega)⟩
          have i3 := fun H' => ixS_lvN encPW_len l .i64 i q hq H'
          have hqo := hl q (List.mem_of_getElem? hq)
          have hlast : (keysW (l.take j)).getLast? = some q.key := by rw [hi]; exact keysW_last hq
          rw [hlast]
          dsimp only
          rw [Bool.true_and]
          have hkl := keyW_less hqo hpo
          have hk : decide (q.key < p.key) = (decide (q.l < p.l) || (decide (q.l = p.l) && decide (q.r < p.r))) := by
            rw [Bool.eq_iff_iff]; simp [hkl]
          rw [hk]
          have cases3 : (decide (q.l < p.l)) = true ∨ (decide (q.l < p.l) = false ∧ (q.l == p.l) = true ∧ decide (q.l = p.l) = true) ∨ (decide (q.l < p.l) = false ∧ (q.l == p.l) = false ∧ decide (q.l = p.l) = false) := by
            by_cases h1 : q.l < p.l
            · simp [h1]
            · by_cases h2 : q.l = p.l <;> simp [h1, h2]
          rcases cases3 with k1 | ⟨k1, k2, k3⟩ | ⟨k1, k2, k3⟩
          · rcases ex with ⟨rfl, e1⟩ | e1 <;> rcases ey with ⟨rfl, e2⟩ | e2 <;> simp -implicitDefEqProofs (disch := omega) [hlt, i1, i2, i3, hj1, hj2, hj3, k1, e1, e2, swashlaw22_PairLists_j1_eq, swashlaw22_PairLists_j2_eq]
          · rcases ex with ⟨rfl, e1⟩ | e1 <;> rcases ey with ⟨rfl, e2⟩ | e2 <;> simp -implicitDefEqProofs (disch := omega) [hlt, i1, i2, i3, hj1, hj2, hj3, k1, k2, k3, e1, e2, swashlaw22_PairLists_j1_eq, swashlaw22_PairLists_j2_eq]
          · rcases ex with ⟨rfl, e1⟩ | e1 <;> rcases ey with ⟨rfl, e2⟩ | e2 <;> simp -implicitDefEqProofs (disch := omega) [hlt, i1, i2, i3, hj1, hj2, hj3, k1, k2, k3, e1, e2, swashlaw22_PairLists_j1_eq, swashlaw22_PairLists_j2_eq])
    (fun e H' ⟨he, hx⟩ => by
      subst he
      rw [List.take_length]
      refine ⟨.exit 0, _, H', ?_, by simp, rfl, .int .i64 l.length, rfl, hx⟩
      rw [swashlaw22_PairLists_l1_eq]
      simp -implicitDefEqProofs)
  exact ⟨z, H4, hr4, hx4⟩
end Go.Sw
end
section
namespace Go.Sw
open Go.RowKit
theorem row_PW {r : List Da} {cs : List Value} (h : LayRow [.int .u16, .int .u16, .int .i16] r cs) : ∃ p : PW, cs = encPW p ∧ p.ok := by
  obtain ⟨_, v1, _, _, rfl, h1, h⟩ := h.head
  obtain ⟨_, v2, _, _, rfl, h2, h⟩ := h.head
  obtain ⟨_, v3, _, _, rfl, h3, h⟩ := h.head
  obtain rfl := h.done
  obtain ⟨a, rfl, ha⟩ := h1.intv
  obtain ⟨b, rfl, hb⟩ := h2.intv
  obtain ⟨c, rfl, hc⟩ := h3.intv
  refine ⟨⟨a, b, c⟩, rfl, wf_u16 ha, wf_u16 hb, ?_⟩
  simp [Lit.wf, IntKind.min, IntKind.max, IntKind.signed, IntKind.bits] at hc
  dsimp only
  omega
theorem pget_bound (l : List PW) (hl : ∀ p, p ∈ l → p.ok) (hup : upS (keysW l) = true) : pgetS ⟨keysW l, prsB l, none, none, 0, 2⟩ (-1) 0 = 0 ∧ pgetS ⟨keysW l, prsB l, none, none, 0, 2⟩ 0 65536 = 0 := by
  unfold pgetS
  dsimp only
  exact ⟨if_pos (by omega), if_pos (by omega)⟩
set_option maxHeartbeats 1000000 in
theorem PairLists_run (l : List PW) (hl : ∀ p, p ∈ l → p.ok) (x y : Int) (hx : 0 ≤ x ∧ x < 65536) (hy : 0 ≤ y ∧ y < 65536) : R (T F.swashlaw22_speaks) F.swashlaw22_PairLists [lv encPW l, .int .u16 x, .int .u16 y] Heap.empty = .ok (.bool true) Heap.empty := by
  generalize hk : F.swashlaw22_speaks = k
  have hs := speaks22_run k (by subst hk; rfl)
  clear hk
  rw [swashlaw22_PairLists_R]
  generalize Heap.empty = H
  by_cases hlen : l.length > 60
  · have hl' : (l.length : Int) > 60 := by omega
    refine nrm_gc (Pure.of ?_) (.bool _)
    simp -implicitDefEqProofs (disch := omega) [swashlaw22_PairLists, hs, hl']
  have hl' : ¬ (l.length : Int) > 60 := by omega
  obtain ⟨z, H4, hr4, hx4⟩ := lists_l1 k l hl (by omega) x y H
  have hw := pWrite_run k l hl (by omega) H4
  have hbl : (listW l).length ≤ 2 ^ 30 := by rw [listW_len]; omega
  have hrd := pRead_run k 0 (Sl.lv H4 1 (listW l)) (listW_byt l) 9 hbl
  rw [pairO_take (by omega)] at hrd
  have hN := pairN_zero (kind := 0) (b := listW l) (g := 9) (by omega)
  have hP := pList_W l hl (by omega)
  have hpt : pTakeS 0 (listW l) 9 = pListS (listW l) := rfl
  rw [hpt, hP] at hrd hN
  have hok : ∀ t, pListS (listW l) = some t → t.ok := fun t h => pListS_ok (listW_byt l) (by omega) h
  rw [hP] at hok
  change ∀ t, (if upS (keysW l) = true then some _ else none) = some t → _ at hok
  change R (T k) F.pair_Read _ H4 = .ok (.tuple #[pV (if upS (keysW l) = true then some ⟨keysW l, prsB l, none, none, 0, 2⟩ else none), .int .i64 (pairN 0 (listW l) 9)]) H4 at hrd
  change _ = (if upS (keysW l) = true then some (⟨keysW l, prsB l, none, none, 0, 2⟩ : PTab) else none).isSome at hN
  cases hup : upS (keysW l) with
  | false =>
    rw [hup] at hr4 hrd hN
    simp only [Bool.false_eq_true, if_false, Option.isSome_none] at hrd hN
    have hN2 : pairN 0 (listW l) 9 = 2 := by
      unfold pairN
      rw [show badP 0 9 = false from by decide, hpt, hP]
      change (if false = true then (1 : Int) else if (if upS (keysW l) = true then some _ else none : Option PTab).isSome = true then 0 else 2) = 2
      rw [hup]
      rfl
    refine nrm_gc ⟨H4, ?_, hx4⟩ (.bool _)
    simp -implicitDefEqProofs (disch := omega) [swashlaw22_PairLists, hs, hl', hr4, swashlaw22_PairLists_l1k_x0, hw, hrd, hN2, pV]
  | true =>
    rw [hup] at hr4 hrd hN
    simp only [if_true, Option.isSome_some] at hrd hN
    have ht := hok _ (if_pos hup)
    have hget := fun a b H => pGet_run k _ ht a b H
    have hwant := want_get l hl hup x y hx hy
    have hof := fun {i : Nat} {p : PW} (h : l[i]? = some p) => want_of l hl hup h
    have hbd := pget_bound l hl hup
    have hNe : (pairN 0 (listW l) 9 == 0) = true := hN
    obtain ⟨t, htd⟩ : ∃ t : PTab, t = ⟨keysW l, prsB l, none, none, 0, 2⟩ := ⟨_, rfl⟩
    have hrd' : R (T k) F.pair_Read [.int .i64 0, lv encB (listW l), .int .i64 9] H4 = .ok (.tuple #[ptabV t, .int .i64 (pairN 0 (listW l) 9)]) H4 := by rw [htd]; exact hrd
    have hget' : ∀ a b H, R (T k) F.pair_Table_Get [ptabV t, .int .i64 a, .int .i64 b] H = .ok (.int .i64 (pgetS t a b)) H := by rw [htd]; exact hget
    have hwant' : pgetS t x y = wantW l x y := by rw [htd]; exact hwant
    have hbd' : pgetS t (-1) 0 = 0 ∧ pgetS t 0 65536 = 0 := by rw [htd]; exact hbd
    have hof' : ∀ {i : Nat} {p : PW}, l[i]? = some p → pgetS t p.l p.r = p.v := by rw [htd]; exact hof
    clear hrd hget hwant hbd hof ht htd hok
    obtain ⟨x', e', H5, hr5, rfl, z5, rfl, hx5⟩ := loop_up (body := swashlaw22_PairLists_l2 k (R (T k))) l.length
      (fun j e H' => e = [(1, .int .u16 x), (2, .int .u16 y), (8, .int .i64 (wantW l x y)), (11, ptabV t), (99, lv encPW l), (100, .int .i64 l.length), (101, .int .i64 j)] ∧ Ext H H')
      (fun x' e H' => x' = .exit 2 ∧ ∃ z, e = [(1, .int .u16 x), (2, .int .u16 y), (8, .int .i64 (wantW l x y)), (11, ptabV t), (99, lv encPW l), (100, .int .i64 l.length), (101, z), (102, .bool false)] ∧ Ext H H')
      (e0 := [(1, .int .u16 x), (2, .int .u16 y), (8, .int .i64 (wantW l x y)), (11, ptabV t), (99, lv encPW l), (100, .int .i64 l.length), (101, .int .i64 0)]) (H0 := H4) ⟨rfl, hx4⟩ (by omega)
      (fun j e H' hj ⟨he, hx⟩ => by
        subst he
        have hlt : (j : Int) < l.length := by omega
        obtain ⟨p, hp⟩ : ∃ p, l[j]? = some p := ⟨_, List.getElem?_eq_getElem hj⟩
        obtain ⟨a, i1, i2⟩ := ((Sl.lv H' 3 l).rd (by decide) encPW_len).2 j p hp
        obtain ⟨c1, c2, c3⟩ := hl p (List.mem_of_getElem? hp)
        have hg := hof' hp
        refine .inl ⟨_, H'.push ⟨encPW p, 1, false⟩, ?_, rfl, hx.push _⟩
        rw [swashlaw22_PairLists_l2_eq]
        simp -implicitDefEqProofs (disch := omega) [hlt, i1, i2, hget', hg, bne])
      (fun e H' ⟨he, hx⟩ => by
        subst he
        refine ⟨.exit 2, _, H', ?_, by simp, rfl, .int .i64 l.length, rfl, hx⟩
        rw [swashlaw22_PairLists_l2_eq]
        simp -implicitDefEqProofs)
    refine nrm_gc ⟨H5, ?_, hx5⟩ (.bool _)
    simp -implicitDefEqProofs (disch := omega) [swashlaw22_PairLists, hs, hl', hr4, swashlaw22_PairLists_l1k_x0, hw, hrd', hNe, bne, hr5, swashlaw22_PairLists_l2k_x2, hget', hwant', hbd'.1, hbd'.2]
theorem PairLists_args (vs : List Value) (h : ArgsLay [.one (.slice [.int .u16, .int .u16, .int .i16]), .one (.int .u16), .one (.int .u16)] vs) : ∃ H', R (T F.swashlaw22_speaks) F.swashlaw22_PairLists vs Heap.empty = .ok (.bool true) H' := by
  obtain ⟨v1, _, rfl, h1, h⟩ := h.head
  obtain ⟨v2, _, rfl, h2, h⟩ := h.head
  obtain ⟨v3, _, rfl, h3, h⟩ := h.head
  obtain rfl := h.done
  obtain ⟨d, h1⟩ := h1.cell
  obtain ⟨l, rfl, hl⟩ := Lay.list (enc := encPW) (ok := PW.ok) (fun r cs h => row_PW h) h1
  obtain ⟨x, rfl, hx⟩ := arg_i h2
  obtain ⟨y, rfl, hy⟩ := arg_i h3
  exact ⟨_, PairLists_run l hl x y (wf_u16 hx) (wf_u16 hy)⟩
end Go.Sw
end
