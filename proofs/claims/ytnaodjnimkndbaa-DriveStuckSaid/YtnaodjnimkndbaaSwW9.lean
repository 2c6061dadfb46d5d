/-
  Functions' forms, and what is proved of them, part 9.
-/
import Derived.Test.YtnaodjnimkndbaaSwCfg
import Derived.Test.YtnaodjnimkndbaaSwLib8
import Derived.Tactics
import Derived.Tactics2
import Derived.Defers
import Derived.Recover
import Derived.Laws.Pointers
import Derived.Test.YtnaodjnimkndbaaSwW4
import Derived.Eval
import Derived.Test.YtnaodjnimkndbaaSwW5
import Derived.Test.YtnaodjnimkndbaaSwW3
import Derived.Test.YtnaodjnimkndbaaSwW7
import Derived.Test.YtnaodjnimkndbaaSwW8
set_option linter.unusedSimpArgs false
set_option linter.unusedVariables false
set_option linter.unusedSectionVars false
section
namespace Go.Sw
open Go.RowKit Go.Proofs
set_option maxRecDepth 20000 in
theorem catch_short (p : Addr) (b : Bool) (w : World) (hc : (w.alloc (.cells #[] 233)).cell? p = some (.bool b)) (hz : (w.alloc (.cells #[] 233)).frozen? p = false) :
    CallsD Prog 160 #[.pointer (some p)] (.panicking [{ v := .iface 233 (.agg #[]), recovered := false }]) w fun e u' w' =>
      e = .returned (.tuple #[]) ∧ u' = .panicking [{ v := .iface 233 (.agg #[]), recovered := true }] ∧ w' = (w.alloc (.cells #[] 233)).setCell p (.bool false) := by
  refine callsD_of_wpS Try.func160 rfl fun c₀ cs hu => ?_
  apply wpS_seq
  apply wpS_region
  simp [wpOpsS, go_sem, recoverD, hu, Try.ntmps160, Exit.thenS]
  have hta : ∀ w, (Instr.typeAssert (.iface 233 (.agg #[])) 20 233 true).run Prog w = .ok (.tuple #[.agg #[], .bool true]) w := fun w => by kernel_rfl
  refine wpS_of_wp ?_
  go_wp2
  cases c₀
  simp_all [bodyPostS, results, Try.results160]
theorem catch_idle (p : Addr) (w : World) :
    CallsD Prog 160 #[.pointer (some p)] .returning w fun e u' w' => e = .returned (.tuple #[]) ∧ u' = .returning ∧ w' = w := by
  refine callsD_of_wpS Try.func160 rfl fun c₀ cs hu => ?_
  apply wpS_seq
  apply wpS_region
  simp [wpOpsS, go_sem, recoverD, hu, Try.ntmps160, Exit.thenS]
  refine wpS_of_wp ?_
  go_wp2
  cases c₀
  simp_all [bodyPostS, results, Try.results160]
set_option maxRecDepth 20000 in
theorem try_walk (g : FuncId) (first cap : Array Value) (w : World) (R : Ending → World → Prop)
    (hcf : (callFunc g (first ++ cap)).run Prog (w.alloc (.cells #[.bool false] 4)) = .ok (.enter g (first ++ cap)) (w.alloc (.cells #[.bool false] 4)))
    (hcall : Calls Prog g (first ++ cap) (w.alloc (.cells #[.bool false] 4)) fun e w' => match e with
      | .returned _ => w'.heap[w.heap.size]? = some (.cells #[.bool false] 4 (0, 0)) ∧ R (.returned (.bool true)) (w'.setCell ⟨w.heap.size, 0, none⟩ (.bool true))
      | .panicked chain => chain = [{ v := .iface 233 (.agg #[]), recovered := false }] ∧ w'.heap[w.heap.size]? = some (.cells #[.bool false] 4 (0, 0)) ∧ R (.returned (.bool false)) ((w'.alloc (.cells #[] 233)).setCell ⟨w.heap.size, 0, none⟩ (.bool false))
      | .outgrown => False) :
    Calls Prog 77 #[.func (.func g) first cap] w R := by
  have hmf : ∀ (fn : Fn) (first cap : Array Value) (w : World), (Instr.makeFunc fn first cap).run Prog w = .ok (.func fn first cap) w := fun _ _ _ _ => rfl
  go_enter_defers Try.func77, Try.ntmps77
  go_wp2
  rename_i K2 hK2 K1 hK1
  refine hcall.mono fun e w' he => ?_
  cases e with
  | returned v =>
    obtain ⟨h1, h2⟩ := he
    have hc : w'.cell? ⟨w.heap.size, 0, none⟩ = some (.bool false) := by simp [World.cell?, h1]
    have hz : w'.frozen? ⟨w.heap.size, 0, none⟩ = false := by simp [World.frozen?, h1]
    apply hK1
    apply hK2
    go_wp2
    have hc2 : (w'.setCell ⟨w.heap.size, 0, none⟩ (.bool true)).cell? ⟨w.heap.size, 0, none⟩ = some (.bool true) := World.cell?_setCell_same _ _ _ hc
    refine leaves_cons (f := 160) (args := #[.pointer (some ⟨w.heap.size, 0, none⟩)]) (by simp) (by simp [go_sem]) ?_
    refine (catch_idle ⟨w.heap.size, 0, none⟩ _).mono ?_
    rintro e u' w'' ⟨rfl, rfl, rfl⟩
    simp [Leaves, settle, results, Try.results77, go_sem, hc2]
    exact h2
  | panicked chain =>
    obtain ⟨h0, h1, h2⟩ := he
    subst h0
    have hlt : w.heap.size < w'.heap.size := by
      rcases Nat.lt_or_ge w.heap.size w'.heap.size with h | h
      · exact h
      · rw [Array.getElem?_eq_none h] at h1; cases h1
    have h3 : (w'.alloc (.cells #[] 233)).heap[w.heap.size]? = some (.cells #[.bool false] 4 (0, 0)) := by
      rw [heap_alloc_lt _ _ _ hlt]; exact h1
    have hc : (w'.alloc (.cells #[] 233)).cell? ⟨w.heap.size, 0, none⟩ = some (.bool false) := by simp only [World.cell?, h3]; rfl
    have hz : (w'.alloc (.cells #[] 233)).frozen? ⟨w.heap.size, 0, none⟩ = false := by simp [World.frozen?, h3]
    have hc2 : ((w'.alloc (.cells #[] 233)).setCell ⟨w.heap.size, 0, none⟩ (.bool false)).cell? ⟨w.heap.size, 0, none⟩ = some (.bool false) := World.cell?_setCell_same _ _ _ hc
    show Leaves _ _ _ _ _ _ _
    refine leaves_cons (f := 160) (args := #[.pointer (some ⟨w.heap.size, 0, none⟩)]) (by simp) (by simp [go_sem]) ?_
    refine (catch_short ⟨w.heap.size, 0, none⟩ false _ hc hz).mono ?_
    rintro e u' w'' ⟨rfl, rfl, rfl⟩
    simp [Leaves, settle, results, Try.results77, go_sem, hc2]
    exact h2
  | outgrown => exact he.elim
theorem try_is : SpIs Prog 77 (tryV 233) := try_of (bt := 4) Try.func77 rfl (by kernel_rfl) try_walk
end Go.Sw
end
section
namespace Go.Sw
open Go.RowKit
theorem names_ok : NamesOk Prog := NamesOk.of (by kernel_rfl)
theorem mixed_ok : Prog.follows .mixedOrders = true := Checked.mixed Go.Proofs.Try.checked
theorem laid_ok : laidOutB Prog = true := by kernel_rfl
theorem cloneP_is : SpIs Prog F.slices_Clone_of_api_Place_api_Place fun _ args H => cloneV 3 12 args H :=
  clone_is (c := { P := Prog, kp := kpS, sp := fun _ => none }) names_ok mixed_ok (t := 31) (e := 34) (by kernel_rfl) fun call a H => (slices_Clone_of_api_Place_api_Place_body 0 _ call a H).trans (by
    unfold slices_Clone_of_api_Place_api_Place cloneF
    simp only [be_31_0, ap_31, beR_bare])
theorem cloneG_is : SpIs Prog F.slices_Clone_of_api_Glyph_api_Glyph fun _ args H => cloneV 2 16 args H :=
  clone_is (c := { P := Prog, kp := kpS, sp := fun _ => none }) names_ok mixed_ok (t := 50) (e := 55) (by kernel_rfl) fun call a H => (slices_Clone_of_api_Glyph_api_Glyph_body 0 _ call a H).trans (by
    unfold slices_Clone_of_api_Glyph_api_Glyph cloneF
    simp only [be_50_0, ap_50, beR_bare])
theorem more_is (f : FuncId) (s : Sp) (h : moreS f = some s) : SpIs Prog f s := by
  unfold moreS at h
  cases h1 : Nat.beq f 77 with
  | true => have := Nat.eq_of_beq_eq_true h1; subst this; rw [h1, cond_true] at h; injection h with h; subst h; exact try_is
  | false =>
  rw [h1, cond_false] at h
  cases h2 : Nat.beq f 147 with
  | true => have := Nat.eq_of_beq_eq_true h2; subst this; rw [h2, cond_true] at h; injection h with h; subst h; exact cloneP_is
  | false =>
  rw [h2, cond_false] at h
  cases h3 : Nat.beq f 151 with
  | true => have := Nat.eq_of_beq_eq_true h3; subst this; rw [h3, cond_true] at h; injection h with h; subst h; exact cloneG_is
  | false =>
  rw [h3, cond_false] at h
  cases h4 : Nat.beq f 152 with
  | true => rw [h4, cond_true] at h; injection h with h; subst h; exact SpIs.stuck _ _
  | false => rw [h4, cond_false] at h; cases h
theorem T_prog (k : Nat) : (T k).c.P = Prog := by unfold T C; rfl
theorem told_ok {k m : Nat} (hsp : okTrue (run (baseCfg Prog kpS moreS) m (k % 1000000) [] Heap.empty) = true) : SpOk (T k).c := by
  have h0 : CallOk Prog (run (baseCfg Prog kpS moreS) m) := run_ok (c := baseCfg Prog kpS moreS) names_ok mixed_ok (SpOk.base more_is) m
  have h1 : SpOk (C k) := by
    unfold C
    exact SpOk.of (P := Prog) (kp := kpS) (speaks := speaksT) (more := moreS) (k := k % 1000000) h0 hsp more_is
  exact h1
end Go.Sw
end
section
set_option maxRecDepth 100000
set_option linter.unusedVariables false
namespace Go.Sw
noncomputable section
end
end Go.Sw
end
section
namespace Go.Sw
open Go.RowKit
theorem subV_lv (b : List Int) (a n : Nat) (h : a + n ≤ b.length) : subV 1 (lv encB b) a n = lv encB ((b.drop a).take n) := by
  have h2 := ((Sl.lv Heap.empty 1 b).sub encB_len .i64 .i64 .i64 a n h).1 Heap.empty (Ext.refl _)
  rw [slS_lv encB_len b _ _ _ a (a + n) (a + n) (by simp [boundOf]) (by unfold boundOf; dsimp only; rw [if_pos (by omega), Int.toNat_natCast]) (by unfold boundOf; dsimp only; rw [if_pos (by omega), Int.toNat_natCast]) (fun _ => rfl) (by omega) (Nat.le_refl _) h] at h2
  injection h2 with h2
  rw [← h2, List.drop_take, show a + n - a = n by omega]
theorem piece_lv {b r : List Int} {i n : Int} (h : pieceS b i n = some r) : subV 1 (lv encB b) i.toNat n.toNat = lv encB r := by
  obtain ⟨h1, rfl⟩ := pieceS_iff.1 h
  exact subV_lv b _ _ (by omega)
theorem orF_congr {α : Type} {o : Option α} {f g : α → Value} (h : ∀ a, o = some a → f a = g a) (H : Heap) : orF o f H = orF o g H := by
  cases o with
  | none => rfl
  | some a => show Res.ok (f a) H = Res.ok (g a) H; rw [h a rfl]
abbrev vwB (b : List Int) : Value := .agg #[lv encB b]
theorem Rest_lv (k : Nat) (b : List Int) (i : Int) (hl : b.length < 2 ^ 62) (hi : i ≤ 9223372036854775807) (H : Heap) : R (T k) F.view_View_Rest [vwB b, .int .i64 i] H = orF (restS b i) vwB H :=
  (Rest_run k (Sl.lv H 1 b) i hl hi).trans (orF_congr (fun r hr => by rw [piece_lv (by rw [behind_piece b i hl hi]; exact hr)]) H)
theorem Of_lv (k : Nat) (b : List Int) (H : Heap) : R (T k) F.view_Of [lv encB b] H = .ok (vwB b) H := Of_run k (Sl.lv H 1 b)
theorem veq_Pt (l : List Pt) : veq (lv encPt l) (lv encPt l) = true := veq_lv fun p _ v hv => by
  simp [encPt] at hv
  rcases hv with rfl | rfl | rfl <;> simp
theorem veq_tab (x : Int × List Pt) : veq (boxV #[.int .i64 x.1, lv encPt x.2]) (boxV #[.int .i64 x.1, lv encPt x.2]) = true := veq_boxV (l := [.int .i64 x.1, lv encPt x.2]) fun v hv => by
  simp at hv
  rcases hv with rfl | rfl
  · simp
  · exact veq_Pt _
theorem orF_some' {α : Type} (a : α) (f : α → Value) (H : Heap) : orF (some a) f H = .ok (f a) H := rfl
end Go.Sw
end
section
set_option maxRecDepth 100000
set_option linter.unusedVariables false
namespace Go.Sw
noncomputable section
def ctx_Read (k : Nat) (call : Caller) (a0 a1 : Value) (h : Heap) : Res Value :=
  (boxR a0 h).bind fun v1 h2 =>
  (boxR a1 h2).bind fun v3 h4 =>
  (allocR Prog 193 h4).bind fun v5 h6 =>
  (loadR Prog 3 v3 h6).bind fun v7 h8 =>
  (binR Prog .lss 3 v7 (.int .i64 1) h8).bind fun v9 h10 =>
  ((bif wantVal v9 false then loadR Prog 3 v3 h10 else Res.ok undef h10)).bind fun v11 h12 =>
  ((bif wantVal v9 false then binR Prog .gtr 3 v11 (.int .i64 65535) h12 else Res.ok undef h12)).bind fun v13 h14 =>
  (condV (some v9) (Res.ok (.bool true) h14) (Res.ok v13 h14)).bind fun v15 h16 =>
  condV (some v15) (
    (storeR Prog 193 v5 (.pointer none) h16).bind fun _v17 h18 =>
    (loadR Prog 193 v5 h18).bind fun v19 h20 =>
    .ok (.tuple #[v19, (.int .i64 1)]) h20)
  (
    (call F.view_Try [(.func (.func F.ctx_Read_in1) #[] #[v1, v3, v5])] h16).bind fun v21 h22 =>
    (unR .not v21 h22).bind fun v23 h24 =>
    condV (some v23) (
      (storeR Prog 193 v5 (.pointer none) h24).bind fun _v25 h26 =>
      (loadR Prog 193 v5 h26).bind fun v27 h28 =>
      .ok (.tuple #[v27, (.int .i64 2)]) h28)
    (
      (loadR Prog 193 v5 h24).bind fun v29 h30 =>
      (storeR Prog 193 v5 v29 h30).bind fun _v31 h32 =>
      (loadR Prog 193 v5 h32).bind fun v33 h34 =>
      .ok (.tuple #[v33, (.int .i64 0)]) h34))
theorem ctx_Read_R (k : Nat) (a0 a1 : Value) (h : Heap) : R (T k) F.ctx_Read [a0, a1] h = nrm .fz h (ctx_Read k (R (T k)) a0 a1 h) :=
  (R_body (t := T k) (T_scott k) (by kernel_rfl) _ _).trans (by kernel_rfl)
def ctx_Table_Run (k : Nat) (call : Caller) (a0 a1 : Value) (h : Heap) : Res Value :=
  (boxR a0 h).bind fun v1 h2 =>
  (boxR a1 h2).bind fun v3 h4 =>
  (allocR Prog 3 h4).bind fun v5 h6 =>
  (storeR Prog 3 v5 (.int .i64 (-1)) h6).bind fun _v7 h8 =>
  (loadR Prog 193 v1 h8).bindN fun v9 h10 =>
  (nilR v9 h10).bindN fun v11 h12 =>
  (fieldAddrR Prog 285 v11 0 h12).bindN fun v13 h14 =>
  (loadR Prog 133 v13 h14).bindN fun v15 h16 =>
  (loadR Prog 51 v3 h16).bindN fun v17 h18 =>
  (call F.drive_Plain [(.func (.func F.ctx_Table_Run_in1) #[] #[v1, v3, v5])] h18).bindT (fun p21 h22 => .panic p21 h22) fun v19 h20 =>
  (call F.drive_Run [v15, v17, v19] h20).bindT (fun p25 h26 => chkR ((okVal (loadR Prog 193 v1 h20) v9 && true) && ((okVal (loadR Prog 133 v13 h20) v15 && true) && ((okVal (loadR Prog 51 v3 h20) v17 && true) && true))) (.panic p25 h26)) fun v23 h24 =>
  (extractR v23 0 h24).bindN fun v27 h28 =>
  (extractR v23 1 h28).bindN fun v29 h30 =>
  chkR ((okVal (loadR Prog 193 v1 h20) v9 && true) && ((okVal (loadR Prog 133 v13 h20) v15 && true) && ((okVal (loadR Prog 51 v3 h20) v17 && true) && true))) (
  .ok v29 h30)
theorem ctx_Table_Run_R (k : Nat) (a0 a1 : Value) (h : Heap) : R (T k) F.ctx_Table_Run [a0, a1] h = nrm .no h (ctx_Table_Run k (R (T k)) a0 a1 h) :=
  (R_body (t := T k) (T_scott k) (by kernel_rfl) _ _).trans (by kernel_rfl)
def ctx_Take_l1 (k : Nat) (call : Caller) : Env → Heap → Res (AExit × Env) := loopB (C k) call F.ctx_Take [1, 1, 1, 1, 0, 1, 0, 0]
def ctx_Take_l1k (k : Nat) (call : Caller) : Kont Value := kBlock 0 (kSeq (pieceK (C k) call F.ctx_Take [1, 1, 1, 1, 1]) (kDone Prog (resOf Prog F.ctx_Take)))
def ctx_Take_l2 (k : Nat) (call : Caller) : Env → Heap → Res (AExit × Env) := loopB (C k) call F.ctx_Take [1, 1, 1, 1, 0, 1, 0, 0, 1, 1, 0, 0, 1, 1, 0, 0]
def ctx_Take_l2k (k : Nat) (call : Caller) : Kont (AExit × Env) := kBlock 2 (kBlock 1 (kSeq (pieceK (C k) call F.ctx_Take [1, 1, 1, 1, 0, 1, 0, 0, 1, 1, 1]) (kRound (ownOf (C k) F.ctx_Take [1, 1, 1, 1, 0, 1, 0, 0]))))
def ctx_Take_j1 (k : Nat) (call : Caller) (a1 a5 a6 a7 a26 a27 a28 a36 a37 a38 : Value) (h : Heap) : Res (AExit × Env) :=
  kSeq (pieceK (C k) call F.ctx_Take [1, 1, 1, 1, 0, 1, 0, 0, 1, 1, 0, 0, 1, 1, 0, 0, 1, 1, 1]) (kRound (ownOf (C k) F.ctx_Take [1, 1, 1, 1, 0, 1, 0, 0, 1, 1, 0, 0, 1, 1, 0, 0])) .normal [(1, a1), (5, a5), (6, a6), (7, a7), (26, a26), (27, a27), (28, a28), (36, a36), (37, a37), (38, a38)] h
def ctx_Take_j2 (k : Nat) (call : Caller) (a1 a5 a6 a7 a11 a26 a27 a28 a36 a37 a38 a43 : Value) (h : Heap) : Res (AExit × Env) :=
  kSeq (pieceK (C k) call F.ctx_Take [1, 1, 1, 1, 0, 1, 0, 0, 1, 1, 0, 0, 1, 1, 0, 0, 1, 1, 1]) (kRound (ownOf (C k) F.ctx_Take [1, 1, 1, 1, 0, 1, 0, 0, 1, 1, 0, 0, 1, 1, 0, 0])) .normal [(1, a1), (5, a5), (6, a6), (7, a7), (11, a11), (26, a26), (27, a27), (28, a28), (36, a36), (37, a37), (38, a38), (43, a43)] h
def ctx_Take_l3 (k : Nat) (call : Caller) : Env → Heap → Res (AExit × Env) := loopB (C k) call F.ctx_Take [1, 1, 1, 1, 1, 0, 1, 0, 0]
def ctx_Take_l3k (k : Nat) (call : Caller) : Kont Value := kBlock 4 (kSeq (pieceK (C k) call F.ctx_Take [1, 1, 1, 1, 1, 1]) (kDone Prog (resOf Prog F.ctx_Take)))
def ctx_Take (k : Nat) (call : Caller) (a0 a1 : Value) (h : Heap) : Res Value :=
  (boxR a0 h).bind fun v1 h2 =>
  (loadR Prog 83 v1 h2).bind fun v3 h4 =>
  (call F.state_Take [v3, a1, (.int .i64 2)] h4).bind fun v5 h6 =>
  (buildR Prog 285 [(0, v5)] h6).bind fun v7 h8 =>
  (boxR v7 h8).bind fun v9 h10 =>
  (loadR Prog 83 v1 h10).bindN fun v11 h12 =>
  (loadR Prog 83 v1 h12).bindN fun v13 h14 =>
  (call F.view_View_U32 [v13, (.int .i64 16)] h14).bindT (fun p17 h18 => (allocR Prog 83 h14).bindN fun v19 h20 => .panic p17 h18) fun v15 h16 =>
  (call F.view_View_Rest [v11, v15] h16).bindT (fun p23 h24 => (allocR Prog 83 h16).bindN fun v25 h26 => chkR ((okVal (loadR Prog 83 v1 h16) v11 && true) && true) (.panic p23 h24)) fun v21 h22 =>
  (allocR Prog 83 h22).bindN fun v27 h28 =>
  (storeR Prog 83 v27 v21 h28).bindN fun _v29 h30 =>
  chkR ((okVal (loadR Prog 83 v1 h16) v11 && true) && true) (
  (nilR v9 h30).bind fun v31 h32 =>
  (fieldAddrR Prog 285 v31 0 h32).bind fun v33 h34 =>
  (loadR Prog 133 v33 h34).bind fun v35 h36 =>
  (call F.state_Machine_Entries [v35] h36).bind fun v37 h38 =>
  (builtinV Prog .len [144] [v37] h38).bind fun v39 h40 =>
  (loopN (ctx_Take_l1 k call) loopFuel [(1, a1), (5, v9), (6, v27), (7, (.int .i64 0)), (26, v37), (27, v39), (28, (.int .i64 0))] h40).bind fun r41 h42 =>
  ctx_Take_l1k k call r41.1 r41.2 h42)
theorem ctx_Take_R (k : Nat) (a0 a1 : Value) (h : Heap) : R (T k) F.ctx_Take [a0, a1] h = nrm .fz h (ctx_Take k (R (T k)) a0 a1 h) :=
  (R_body (t := T k) (T_scott k) (by kernel_rfl) _ _).trans (by kernel_rfl)
theorem ctx_Take_l1_eq (k : Nat) (call : Caller) (a1 a5 a6 a7 a26 a27 a28 : Value) (h : Heap) : ctx_Take_l1 k call [(1, a1), (5, a5), (6, a6), (7, a7), (26, a26), (27, a27), (28, a28)] h =
  (binR Prog .lss 3 a28 a27 h).bind fun v43 h44 =>
  condV (some v43) (
    (indexAddrR Prog 144 a26 a28 h44).bind fun v45 h46 =>
    (loadR Prog 150 v45 h46).bind fun v47 h48 =>
    (allocR Prog 150 h48).bind fun v49 h50 =>
    (storeR Prog 150 v49 v47 h50).bind fun _v51 h52 =>
    (fieldAddrR Prog 150 v49 2 h52).bind fun v53 h54 =>
    (loadR Prog 3 v53 h54).bind fun v55 h56 =>
    (fieldAddrR Prog 150 v49 3 h56).bind fun v57 h58 =>
    (loadR Prog 3 v57 h58).bind fun v59 h60 =>
    (buildSliceR Prog 28 2 [(0, v55), (1, v59)] h60).bind fun v61 h62 =>
    (builtinV Prog .len [28] [v61] h62).bind fun v63 h64 =>
    (loopN (ctx_Take_l2 k call) loopFuel [(1, a1), (5, a5), (6, a6), (7, a7), (26, a26), (27, a27), (28, a28), (36, v61), (37, v63), (38, (.int .i64 0))] h64).bind fun r65 h66 =>
    ctx_Take_l2k k call r65.1 r65.2 h66)
  (
    .ok ((.exit 0), [(1, a1), (5, a5), (6, a6), (7, a7), (26, a26), (27, a27), (28, a28), (29, v43)]) h44) :=
  (loopB_eq _ _).trans (by kernel_rfl)
theorem ctx_Take_l2_eq (k : Nat) (call : Caller) (a1 a5 a6 a7 a26 a27 a28 a36 a37 a38 : Value) (h : Heap) : ctx_Take_l2 k call [(1, a1), (5, a5), (6, a6), (7, a7), (26, a26), (27, a27), (28, a28), (36, a36), (37, a37), (38, a38)] h =
  (binR Prog .lss 3 a38 a37 h).bind fun v67 h68 =>
  condV (some v67) (
    (indexAddrR Prog 28 a36 a38 h68).bind fun v69 h70 =>
    (loadR Prog 3 v69 h70).bind fun v71 h72 =>
    (binR Prog .neq 3 v71 (.int .i64 65535) h72).bind fun v73 h74 =>
    condV (some v73) (
      (binR Prog .add 3 v71 (.int .i64 1) h74).bind fun v75 h76 =>
      (builtinV Prog .max [3, 3] [a7, v75] h76).bind fun v77 h78 =>
      ctx_Take_j1 k call a1 a5 a6 v77 a26 a27 a28 a36 a37 a38 h78)
    (
      ctx_Take_j2 k call a1 a5 a6 a7 v71 a26 a27 a28 a36 a37 a38 v73 h74))
  (
    .ok ((.exit 2), [(1, a1), (5, a5), (6, a6), (7, a7), (26, a26), (27, a27), (28, a28), (36, a36), (37, a37), (38, a38), (39, v67)]) h68) :=
  (loopB_eq _ _).trans (by kernel_rfl)
theorem ctx_Take_j1_eq (k : Nat) (call : Caller) (a1 a5 a6 a7 a26 a27 a28 a36 a37 a38 : Value) (h : Heap) : ctx_Take_j1 k call a1 a5 a6 a7 a26 a27 a28 a36 a37 a38 h =
  (binR Prog .add 3 a38 (.int .i64 1) h).bind fun v79 h80 =>
  .ok (.normal, [(1, a1), (5, a5), (6, a6), (7, a7), (26, a26), (27, a27), (28, a28), (36, a36), (37, a37), (38, v79)]) h80 := by kernel_rfl
theorem ctx_Take_j2_eq (k : Nat) (call : Caller) (a1 a5 a6 a7 a11 a26 a27 a28 a36 a37 a38 a43 : Value) (h : Heap) : ctx_Take_j2 k call a1 a5 a6 a7 a11 a26 a27 a28 a36 a37 a38 a43 h =
  (binR Prog .add 3 a38 (.int .i64 1) h).bind fun v81 h82 =>
  .ok (.normal, [(1, a1), (5, a5), (6, a6), (7, a7), (26, a26), (27, a27), (28, a28), (36, a36), (37, a37), (38, v81)]) h82 := by kernel_rfl
theorem ctx_Take_l1k_x0 (k : Nat) (call : Caller) (a1 a5 a6 a7 a26 a27 a28 a29 : Value) (h : Heap) : ctx_Take_l1k k call (.exit 0) [(1, a1), (5, a5), (6, a6), (7, a7), (26, a26), (27, a27), (28, a28), (29, a29)] h =
  (loopN (ctx_Take_l3 k call) loopFuel [(1, a1), (5, a5), (6, a6), (50, a7), (51, (.int .i64 0))] h).bind fun r83 h84 =>
  ctx_Take_l3k k call r83.1 r83.2 h84 := by kernel_rfl
theorem ctx_Take_l3_eq (k : Nat) (call : Caller) (a1 a5 a6 a50 a51 : Value) (h : Heap) : ctx_Take_l3 k call [(1, a1), (5, a5), (6, a6), (50, a50), (51, a51)] h =
  (binR Prog .lss 3 a51 a50 h).bind fun v85 h86 =>
  condV (some v85) (
    (nilR a5 h86).bindN fun v87 h88 =>
    (fieldAddrR Prog 285 v87 1 h88).bindN fun v89 h90 =>
    (loadR Prog 283 v89 h90).bindN fun v91 h92 =>
    (loadR Prog 83 a6 h92).bindN fun v93 h94 =>
    (loadR Prog 83 a6 h94).bindN fun v95 h96 =>
    (binR Prog .mul 3 (.int .i64 4) a51 h96).bindN fun v97 h98 =>
    (call F.view_View_U32 [v95, v97] h98).bindT (fun p101 h102 => .panic p101 h102) fun v99 h100 =>
    (call F.view_View_Rest [v93, v99] h100).bindT (fun p105 h106 => chkR ((okVal (loadR Prog 283 v89 h100) v91 && true) && ((okVal (loadR Prog 83 a6 h100) v93 && true) && true)) (.panic p105 h106)) fun v103 h104 =>
    (call F.lookup_Take [v103, a1, (.int .i64 2)] h104).bindT (fun p109 h110 => chkR ((okVal (loadR Prog 283 v89 h100) v91 && (okVal (loadR Prog 283 v89 h104) v91 && true)) && ((okVal (loadR Prog 83 a6 h100) v93 && true) && true)) (.panic p109 h110)) fun v107 h108 =>
    (buildSliceR Prog 283 1 [(0, v107)] h108).bindN fun v111 h112 =>
    (builtinV Prog .append [283, 283] [v91, v111] h112).bindN fun v113 h114 =>
    (nilR a5 h114).bindN fun v115 h116 =>
    (fieldAddrR Prog 285 v115 1 h116).bindN fun v117 h118 =>
    (storeR Prog 283 v117 v113 h118).bindN fun _v119 h120 =>
    chkR ((okVal (loadR Prog 283 v89 h100) v91 && (okVal (loadR Prog 283 v89 h104) v91 && (okVal (loadR Prog 283 v89 h108) v91 && (okVal (loadR Prog 283 v89 h112) v91 && true)))) && ((okVal (loadR Prog 83 a6 h100) v93 && true) && true)) (
    (binR Prog .add 3 a51 (.int .i64 1) h120).bind fun v121 h122 =>
    .ok (.normal, [(1, a1), (5, a5), (6, a6), (50, a50), (51, v121)]) h122))
  (
    .ok ((.exit 4), [(1, a1), (5, a5), (6, a6), (50, a50), (51, a51), (52, v85)]) h86) :=
  (loopB_eq _ _).trans (by kernel_rfl)
theorem ctx_Take_l2k_x2 (k : Nat) (call : Caller) (a1 a5 a6 a7 a26 a27 a28 a36 a37 a38 a39 : Value) (h : Heap) : ctx_Take_l2k k call (.exit 2) [(1, a1), (5, a5), (6, a6), (7, a7), (26, a26), (27, a27), (28, a28), (36, a36), (37, a37), (38, a38), (39, a39)] h =
  (binR Prog .add 3 a28 (.int .i64 1) h).bind fun v123 h124 =>
  .ok (.normal, [(1, a1), (5, a5), (6, a6), (7, a7), (26, a26), (27, a27), (28, v123)]) h124 := by kernel_rfl
theorem ctx_Take_l3k_x4 (k : Nat) (call : Caller) (a1 a5 a6 a50 a51 a52 : Value) (h : Heap) : ctx_Take_l3k k call (.exit 4) [(1, a1), (5, a5), (6, a6), (50, a50), (51, a51), (52, a52)] h =
  .ok a5 h := by kernel_rfl
def ctx_Read_in1 (k : Nat) (call : Caller) (a0 a1 a2 : Value) (h : Heap) : Res Value :=
  (loadR Prog 65 a0 h).bindN fun v1 h2 =>
  (call F.view_Of [v1] h2).bindT (fun p5 h6 => (loadR Prog 3 a1 h2).bindN fun v7 h8 => chkR ((okVal (loadR Prog 3 a1 h) v7 && true) && true) (.panic p5 h6)) fun v3 h4 =>
  (loadR Prog 3 a1 h4).bindN fun v9 h10 =>
  (call F.ctx_Take [v3, v9] h10).bindT (fun p13 h14 => chkR ((okVal (loadR Prog 3 a1 h) v9 && true) && true) (.panic p13 h14)) fun v11 h12 =>
  (storeR Prog 193 a2 v11 h12).bindN fun _v15 h16 =>
  chkR ((okVal (loadR Prog 3 a1 h) v9 && true) && true) (
  .ok (.tuple #[]) h16)
theorem ctx_Read_in1_R (k : Nat) (a0 a1 a2 : Value) (h : Heap) : R (T k) F.ctx_Read_in1 [a0, a1, a2] h = nrm .no h (ctx_Read_in1 k (R (T k)) a0 a1 a2 h) :=
  (R_body (t := T k) (T_scott k) (by kernel_rfl) _ _).trans (by kernel_rfl)
def ctx_Table_Run_in1 (k : Nat) (call : Caller) (a0 a1 a2 a3 a4 : Value) (h : Heap) : Res Value :=
  (boxR a1 h).bind fun v1 h2 =>
  (loadR Prog 193 a2 h2).bind fun v3 h4 =>
  (loadR Prog 51 a3 h4).bind fun v5 h6 =>
  (loadR Prog 3 a4 h6).bind fun v7 h8 =>
  (fieldAddrR Prog 150 v1 2 h8).bind fun v9 h10 =>
  (loadR Prog 3 v9 h10).bind fun v11 h12 =>
  (call F.ctx_Table_swap [v3, v5, v7, v11] h12).bind fun v13 h14 =>
  (loadR Prog 193 a2 h14).bind fun v15 h16 =>
  (loadR Prog 51 a3 h16).bind fun v17 h18 =>
  (fieldAddrR Prog 150 v1 3 h18).bind fun v19 h20 =>
  (loadR Prog 3 v19 h20).bind fun v21 h22 =>
  (call F.ctx_Table_swap [v15, v17, a0, v21] h22).bind fun v23 h24 =>
  (fieldAddrR Prog 150 v1 1 h24).bind fun v25 h26 =>
  (loadR Prog 3 v25 h26).bind fun v27 h28 =>
  (binR Prog .and 3 v27 (.int .i64 32768) h28).bind fun v29 h30 =>
  (binR Prog .neq 3 v29 (.int .i64 0) h30).bind fun v31 h32 =>
  ((bif wantVal v31 true then Res.ok a0 h32 else Res.ok undef h32)).bind fun v33 h34 =>
  ((bif wantVal v31 true then loadR Prog 51 a3 h34 else Res.ok undef h34)).bind fun v35 h36 =>
  ((bif wantVal v31 true then call F.line_Line_Len [v35] h36 else Res.ok undef h36)).bind fun v37 h38 =>
  ((bif wantVal v31 true then binR Prog .lss 3 v33 v37 h38 else Res.ok undef h38)).bind fun v39 h40 =>
  (condV (some v31) (Res.ok v39 h40) (Res.ok (.bool false) h40)).bind fun v41 h42 =>
  condV (some v41) (
    (storeR Prog 3 a4 a0 h42).bind fun _v43 h44 =>
    .ok (.tuple #[]) h44)
  (
    .ok (.tuple #[]) h42)
theorem ctx_Table_Run_in1_R (k : Nat) (a0 a1 a2 a3 a4 : Value) (h : Heap) : R (T k) F.ctx_Table_Run_in1 [a0, a1, a2, a3, a4] h = nrm .no h (ctx_Table_Run_in1 k (R (T k)) a0 a1 a2 a3 a4 h) :=
  (R_body (t := T k) (T_scott k) (by kernel_rfl) _ _).trans (by kernel_rfl)
def ctx_Table_swap (k : Nat) (call : Caller) (a0 a1 a2 a3 : Value) (h : Heap) : Res Value :=
  (call F.line_Line_At [a1, a2] h).bind fun v1 h2 =>
  (extractR v1 0 h2).bind fun v3 h4 =>
  (extractR v1 1 h4).bind fun v5 h6 =>
  (allocR Prog 55 h6).bind fun v7 h8 =>
  (storeR Prog 55 v7 v3 h8).bind fun _v9 h10 =>
  (binR Prog .eql 3 a3 (.int .i64 65535) h10).bind fun v11 h12 =>
  ((bif wantVal v11 false then Res.ok v5 h12 else Res.ok undef h12)).bind fun v13 h14 =>
  ((bif wantVal v11 false then unR .not v13 h14 else Res.ok undef h14)).bind fun v15 h16 =>
  (condV (some v11) (Res.ok (.bool true) h16) (Res.ok v15 h16)).bind fun v17 h18 =>
  condV (some v17) (
    .ok (.tuple #[]) h18)
  (
    (nilR a0 h18).bindN fun v19 h20 =>
    (fieldAddrR Prog 285 v19 1 h20).bindN fun v21 h22 =>
    (loadR Prog 283 v21 h22).bindN fun v23 h24 =>
    (indexAddrR Prog 283 v23 a3 h24).bindN fun v25 h26 =>
    (loadR Prog 68 v25 h26).bindN fun v27 h28 =>
    (fieldAddrR Prog 55 v7 0 h28).bindN fun v29 h30 =>
    (loadR Prog 3 v29 h30).bindN fun v31 h32 =>
    (call F.lookup_Table_Get [v27, v31] h32).bindT (fun p35 h36 => .panic p35 h36) fun v33 h34 =>
    (extractR v33 0 h34).bindN fun v37 h38 =>
    (extractR v33 1 h38).bindN fun v39 h40 =>
    condV (some v39) (
      (call F.line_Line_Set [a1, a2, v37] h40).bind fun v41 h42 =>
      .ok (.tuple #[]) h42)
    (
      .ok (.tuple #[]) h40))
theorem ctx_Table_swap_R (k : Nat) (a0 a1 a2 a3 : Value) (h : Heap) : R (T k) F.ctx_Table_swap [a0, a1, a2, a3] h = nrm .no h (ctx_Table_swap k (R (T k)) a0 a1 a2 a3 h) :=
  (R_body (t := T k) (T_scott k) (by kernel_rfl) _ _).trans (by kernel_rfl)
end
end Go.Sw
end
section
namespace Go.Sw
open Go.RowKit
def manyE (c : Int) (e : En) : Int := let c1 := if e.a = 65535 then c else max c (e.a + 1); if e.b = 65535 then c1 else max c1 (e.b + 1)
def manyS (es : List En) : Int := es.foldl manyE 0
theorem manyS_snoc (es : List En) (e : En) : manyS (es ++ [e]) = manyE (manyS es) e := by simp [manyS]
theorem manyE_bound {c : Int} (h : 0 ≤ c ∧ c ≤ 65536) {e : En} (he : 0 ≤ e.a ∧ e.a < 65536 ∧ 0 ≤ e.b ∧ e.b < 65536) : 0 ≤ manyE c e ∧ manyE c e ≤ 65536 := by
  unfold manyE
  dsimp only
  split <;> split <;> omega
theorem many_fold : ∀ (es : List En) (c : Int), 0 ≤ c → c ≤ 65536 → (∀ e, e ∈ es → 0 ≤ e.a ∧ e.a < 65536 ∧ 0 ≤ e.b ∧ e.b < 65536) → 0 ≤ es.foldl manyE c ∧ es.foldl manyE c ≤ 65536
  | [], c, h0, h1, _ => ⟨h0, h1⟩
  | e :: es, c, h0, h1, h => by
    have := manyE_bound ⟨h0, h1⟩ (h e (by simp))
    exact many_fold es _ this.1 this.2 fun x hx => h x (by simp [hx])
theorem manyS_bound {es : List En} (h : ∀ e, e ∈ es → 0 ≤ e.a ∧ e.a < 65536 ∧ 0 ≤ e.b ∧ e.b < 65536) : 0 ≤ manyS es ∧ manyS es ≤ 65536 := many_fold es 0 (by omega) (by omega) h
abbrev encT (x : Int × List Pt) : List Value := [tabV x]
theorem encT_len (x : Int × List Pt) : (encT x).length = 1 := rfl
theorem Flat.tabT (x : Int × List Pt) : Flat (tabV x) := .boxV (.cons (.int _ _) (.cons (.lv fun p _ => .cons (.int _ _) (.cons (.int _ _) (.cons (Flat.I _) .nil))) .nil))
theorem Flat.Ts (l : List (Int × List Pt)) : Flat (Go.Sw.lv encT l) := .lv fun p _ => .cons (Flat.tabT p) .nil
structure CTab where
  m : Mach
  subs : List (Int × List Pt)
abbrev ctxC (t : CTab) : List Value := [machV t.m, lv encT t.subs]
abbrev ctxV (t : CTab) : Value := boxV (ctxC t).toArray
theorem Flat.ctx (t : CTab) : Flat (ctxV t) := .boxV (.cons (Flat.mach _) (.cons (Flat.Ts _) .nil))
def subS (sb : List Int) (g : Int) (i : Nat) : Option (Int × List Pt) := (uS sb (4 * (i : Int)) 4).bind fun p => (restS sb p).bind fun tb => lookS tb g 2
def subsS (sb : List Int) (g : Int) (n : Nat) : Option (List (Int × List Pt)) := mapO (subS sb g) (List.range n)
def ctxS (b : List Int) (g : Int) : Option CTab := (machS b g 2).bind fun m => (uS b 16 4).bind fun p => (restS b p).bind fun sb => (subsS sb g (manyS m.ents).toNat).map fun subs => ⟨m, subs⟩
theorem ctx_l1 (k : Nat) (es : List En) (hes : ∀ e, e ∈ es → 0 ≤ e.a ∧ e.a < 65536 ∧ 0 ≤ e.b ∧ e.b < 65536) (hl : es.length ≤ 65536) (a1 a5 a6 : Value) (H : Heap) :
    ∃ z H', loopN (ctx_Take_l1 k (R (T k))) loopFuel [(1, a1), (5, a5), (6, a6), (7, .int .i64 0), (26, lv encEn es), (27, .int .i64 es.length), (28, .int .i64 0)] H =
      .ok (.exit 0, [(1, a1), (5, a5), (6, a6), (7, .int .i64 (manyS es)), (26, lv encEn es), (27, .int .i64 es.length), (28, z), (29, .bool false)]) H' ∧ Ext H H' := by
  obtain ⟨x, e', H1, hr1, rfl, z, rfl, hx⟩ := loop_up (body := ctx_Take_l1 k (R (T k))) es.length
    (fun j e H' => e = [(1, a1), (5, a5), (6, a6), (7, .int .i64 (manyS (es.take j))), (26, lv encEn es), (27, .int .i64 es.length), (28, .int .i64 j)] ∧ Ext H H')
    (fun x e H' => x = .exit 0 ∧ ∃ z, e = [(1, a1), (5, a5), (6, a6), (7, .int .i64 (manyS es)), (26, lv encEn es), (27, .int .i64 es.length), (28, z), (29, .bool false)] ∧ Ext H H')
    (e0 := [(1, a1), (5, a5), (6, a6), (7, .int .i64 0), (26, lv encEn es), (27, .int .i64 es.length), (28, .int .i64 0)]) (H0 := H) ⟨rfl, Ext.refl _⟩ (by omega)
    (fun j e H' hj ⟨he, hx⟩ => by
      subst he
      have hlt : (j : Int) < es.length := by omega
      obtain ⟨en, hen⟩ : ∃ en, es[j]? = some en := ⟨_, List.getElem?_eq_getElem hj⟩
      have i1 := fun H' => ixS_lvN encEn_len es .i64 j en hen H'
      have heb := hes en (List.mem_of_getElem? hen)
      have hm := manyS_bound (es := es.take j) fun e he => hes e (List.mem_of_mem_take he)
      rw [take_snoc hen, manyS_snoc]
      generalize manyS (es.take j) = c at hm ⊢
      obtain ⟨P, hP⟩ : ∃ P, P = (H'.push ⟨encEn en, 1, false⟩).push ⟨[.int .i64 en.a, .int .i64 en.b], 1, false⟩ := ⟨_, rfl⟩
      have hPg : P.get (H'.n + 1) = some ⟨[.int .i64 en.a, .int .i64 en.b], 1, false⟩ := by rw [hP]; simp
      have ix := fun (j : Nat) hj H'' => ixS_slice 1 (H'.n + 1) 0 2 2 .i64 j H'' hj
      have ix0 := ix 0 (by omega)
      have ix1 := ix 1 (by omega)
      have m1 : (if en.a + 1 > c then en.a + 1 else c) = max c (en.a + 1) := by split <;> omega
      have inner : ∃ z, loopN (ctx_Take_l2 k (R (T k))) loopFuel [(1, a1), (5, a5), (6, a6), (7, .int .i64 c), (26, lv encEn es), (27, .int .i64 es.length), (28, .int .i64 j), (36, .slice (some ⟨H'.n + 1, 0, none⟩) 2 2), (37, .int .i64 2), (38, .int .i64 0)] P =
          .ok (.exit 2, [(1, a1), (5, a5), (6, a6), (7, .int .i64 (manyE c en)), (26, lv encEn es), (27, .int .i64 es.length), (28, .int .i64 j), (36, .slice (some ⟨H'.n + 1, 0, none⟩) 2 2), (37, .int .i64 2), (38, z), (39, .bool false)]) P := by
        obtain ⟨x, e', H1, hr1, rfl, ⟨z, rfl⟩, rfl⟩ := loop_up (body := ctx_Take_l2 k (R (T k))) 2
          (fun i e H'' => e = [(1, a1), (5, a5), (6, a6), (7, .int .i64 (if i = 0 then c else if i = 1 then (if en.a = 65535 then c else max c (en.a + 1)) else manyE c en)), (26, lv encEn es), (27, .int .i64 es.length), (28, .int .i64 j), (36, .slice (some ⟨H'.n + 1, 0, none⟩) 2 2), (37, .int .i64 2), (38, .int .i64 i)] ∧ H'' = P)
          (fun x e H'' => x = .exit 2 ∧ (∃ z, e = [(1, a1), (5, a5), (6, a6), (7, .int .i64 (manyE c en)), (26, lv encEn es), (27, .int .i64 es.length), (28, .int .i64 j), (36, .slice (some ⟨H'.n + 1, 0, none⟩) 2 2), (37, .int .i64 2), (38, z), (39, .bool false)]) ∧ H'' = P)
          (e0 := [(1, a1), (5, a5), (6, a6), (7, .int .i64 c), (26, lv encEn es), (27, .int .i64 es.length), (28, .int .i64 j), (36, .slice (some ⟨H'.n + 1, 0, none⟩) 2 2), (37, .int .i64 2), (38, .int .i64 0)]) (H0 := P) ⟨rfl, rfl⟩ (by omega)
          (fun i e H'' hi ⟨he, hH⟩ => by
            subst he hH
            refine .inl ⟨_, _, ?_, rfl, rfl⟩
            rw [ctx_Take_l2_eq]
            have hi2 : i = 0 ∨ i = 1 := by omega
            rcases hi2 with rfl | rfl
            · simp at ix0
              by_cases ha : en.a = 65535
              · simp -implicitDefEqProofs (disch := omega) [ix0, hPg, ha, bne, ctx_Take_j2_eq]
              · have ha' : (en.a == 65535) = false := by simpa using ha
                simp -implicitDefEqProofs (disch := omega) [ix0, hPg, ha, ha', bne, m1, ctx_Take_j1_eq]
            · simp at ix1
              generalize hc1 : (if en.a = 65535 then c else max c (en.a + 1)) = c1
              have m2 : (if en.b + 1 > c1 then en.b + 1 else c1) = max c1 (en.b + 1) := by split <;> omega
              have hmE : manyE c en = if en.b = 65535 then c1 else max c1 (en.b + 1) := by unfold manyE; rw [hc1]
              by_cases hb : en.b = 65535
              · simp -implicitDefEqProofs (disch := omega) [ix1, hPg, hb, bne, hmE, ctx_Take_j2_eq]
              · have hb' : (en.b == 65535) = false := by simpa using hb
                simp -implicitDefEqProofs (disch := omega) [ix1, hPg, hb, hb', bne, m2, hmE, ctx_Take_j1_eq])
          (fun e H'' ⟨he, hH⟩ => by
            subst he hH
            refine ⟨.exit 2, _, _, ?_, by simp, rfl, ⟨.int .i64 ((2 : Nat) : Int), rfl⟩, rfl⟩
            rw [ctx_Take_l2_eq]
            simp -implicitDefEqProofs)
        exact ⟨z, hr1⟩
      obtain ⟨z, hz⟩ := inner
      rw [hP] at hz
      refine .inl ⟨_, P, ?_, rfl, by rw [hP]; exact (hx.push _).push _⟩
      rw [ctx_Take_l1_eq, hP]
      simp -implicitDefEqProofs (disch := omega) [hlt, i1, hz, ctx_Take_l2k_x2])
    (fun e H' ⟨he, hx⟩ => by
      subst he
      rw [List.take_length]
      refine ⟨.exit 0, _, H', ?_, by simp, rfl, .int .i64 es.length, rfl, hx⟩
      rw [ctx_Take_l1_eq]
      simp -implicitDefEqProofs)
  exact ⟨z, H1, hr1, hx⟩
end Go.Sw
end
section
namespace Go.Sw
open Go.RowKit
theorem subsS_succ (sb : List Int) (g : Int) (n : Nat) : subsS sb g (n + 1) = (subsS sb g n).bind fun l => (subS sb g n).map fun x => l ++ [x] := by
  unfold subsS
  rw [List.range_succ, mapO_append]
  cases mapO (subS sb g) (List.range n) with
  | none => rfl
  | some l =>
    simp only [Option.bind_some]
    cases h : subS sb g n with
    | none => simp [mapO, h]
    | some x => simp [mapO, h]
theorem subsS_len {sb : List Int} {g : Int} {n : Nat} {l} (h : subsS sb g n = some l) : l.length = n := by
  have := mapO_len h
  simpa using this
set_option maxHeartbeats 1000000 in
theorem ctx_l3 (k : Nat) (sb : List Int) (hb : Byt sb) (hl : sb.length < 2 ^ 31) (g : Int) (hg : 1 ≤ g ∧ g ≤ 65535) (m : Mach) (N : Nat) (hN : N ≤ 65536) {H0 H : Heap} (q p6 : Nat)
    (st : Star H0 H [itBlk q ⟨[machV m, .slice none 0 0], 1, false⟩, itBlk p6 ⟨[lv encB sb], 1, false⟩, itRow none 1 (.slice none 0 0) encT []]) :
    (∃ subs z s o H', subsS sb g N = some subs ∧ loopN (ctx_Take_l3 k (R (T k))) loopFuel [(1, .int .i64 g), (5, ptrV q), (6, ptrV p6), (50, .int .i64 N), (51, .int .i64 0)] H = .ok (.exit 4, [(1, .int .i64 g), (5, ptrV q), (6, ptrV p6), (50, .int .i64 N), (51, z), (52, .bool false)]) H' ∧
      Star H0 H' [itBlk q ⟨[machV m, s], 1, false⟩, itBlk p6 ⟨[lv encB sb], 1, false⟩, itRow o 1 s encT subs]) ∨
    (∃ H', subsS sb g N = none ∧ loopN (ctx_Take_l3 k (R (T k))) loopFuel [(1, .int .i64 g), (5, ptrV q), (6, ptrV p6), (50, .int .i64 N), (51, .int .i64 0)] H = .panic failV H' ∧ Ext H0 H') := by
  have hU := fun (j : Int) H' => U32_run k (Sl.lv H' 1 sb) hb j (by omega)
  have hR := fun j hj H' => Rest_lv k sb j (by omega) hj H'
  have hT := fun tb htb hl H' => lookTake_run k (Sl.lv H' 1 tb) htb g 2 hg.1 hg.2 (.inl rfl) hl
  have hvb := veq_B sb
  have prefixNone : ∀ j, j < N → subsS sb g (j + 1) = none → subsS sb g N = none := fun j hj h => by
    cases hn : subsS sb g N with
    | none => rfl
    | some l =>
      have := mapO_prefix (show j + 1 ≤ N by omega) hn
      unfold subsS at h
      rw [this] at h
      cases h
  rcases loop_upP (body := ctx_Take_l3 k (R (T k))) N
    (fun j e H' => e = [(1, .int .i64 g), (5, ptrV q), (6, ptrV p6), (50, .int .i64 N), (51, .int .i64 j)] ∧ ∃ l s o, subsS sb g j = some l ∧ Star H0 H' [itBlk q ⟨[machV m, s], 1, false⟩, itBlk p6 ⟨[lv encB sb], 1, false⟩, itRow o 1 s encT l])
    (fun x e H' => x = .exit 4 ∧ e = [(1, .int .i64 g), (5, ptrV q), (6, ptrV p6), (50, .int .i64 N), (51, .int .i64 N), (52, .bool false)] ∧ ∃ l s o, subsS sb g N = some l ∧ Star H0 H' [itBlk q ⟨[machV m, s], 1, false⟩, itBlk p6 ⟨[lv encB sb], 1, false⟩, itRow o 1 s encT l])
    (fun v H' => v = failV ∧ Ext H0 H' ∧ subsS sb g N = none)
    (fun j e H' hj ⟨he, l, s, o, hls, st⟩ => by
      subst he
      have hlt : (j : Int) < N := by omega
      have hq := st.get 0 rfl
      have h6 := st.get 1 rfl
      have hvs := (st.row 2 rfl).veq
      have hlen := subsS_len hls
      have hsucc := subsS_succ sb g j
      rw [hls, Option.bind_some] at hsucc
      have hu := fun H' => hU (4 * (j : Int)) H'
      cases e1 : uS sb (4 * (j : Int)) 4 with
      | none =>
        have hno : subsS sb g (j + 1) = none := by rw [hsucc]; unfold subS; rw [e1]; rfl
        simp only [e1] at hu
        refine .inr (.inr ⟨failV, H', ?_, rfl, st.ext, prefixNone j hj hno⟩)
        rw [ctx_Take_l3_eq]
        simp -implicitDefEqProofs (disch := omega) [hlt, hq, h6, hu, orF]
      | some p =>
        simp only [e1, orF_some'] at hu
        have hp := uS_four hb e1
        have hr := fun H' => hR p (by omega) H'
        cases e2 : restS sb p with
        | none =>
          have hno : subsS sb g (j + 1) = none := by rw [hsucc]; unfold subS; rw [e1, Option.bind_some, e2]; rfl
          simp only [e2] at hr
          refine .inr (.inr ⟨failV, H', ?_, rfl, st.ext, prefixNone j hj hno⟩)
          rw [ctx_Take_l3_eq]
          simp -implicitDefEqProofs (disch := omega) [hlt, hq, h6, hu, hr, hvs, hvb, orF]
        | some tb =>
          simp only [e2, orF_some'] at hr
          have htl := restS_len e2
          have ht := fun H' => hT tb (hb.rest e2) (by omega) H'
          cases e3 : lookS tb g 2 with
          | none =>
            have hno : subsS sb g (j + 1) = none := by rw [hsucc]; unfold subS; rw [e1, Option.bind_some, e2, Option.bind_some, e3]; rfl
            simp only [e3] at ht
            refine .inr (.inr ⟨failV, H', ?_, rfl, st.ext, prefixNone j hj hno⟩)
            rw [ctx_Take_l3_eq]
            simp -implicitDefEqProofs (disch := omega) [hlt, hq, h6, hu, hr, ht, hvs, hvb, orF]
          | some x =>
            simp only [e3, orF_some'] at ht
            have hyes : subsS sb g (j + 1) = some (l ++ [x]) := by rw [hsucc]; unfold subS; rw [e1, Option.bind_some, e2, Option.bind_some, e3]; rfl
            obtain ⟨s', o', H2, f2, st3⟩ := st.append1 (bytes := 8) 2 encT_len rfl x (by omega) (by decide)
            have hqn : ¬ q = H'.n := by have := Heap.get_lt hq; omega
            simp only [List.set_cons_zero, List.set_cons_succ] at st3
            obtain ⟨H3, f3, st4, _⟩ := st3.stCell 0 rfl 1 (st3.row 2 rfl).storable (st3.row 2 rfl).cells (by simp)
            simp only [List.set_cons_zero, List.set_cons_succ] at st4
            refine .inl ⟨_, H3, ?_, rfl, l ++ [x], s', o', hyes, st4⟩
            rw [ctx_Take_l3_eq]
            simp only [encT] at f2
            simp -implicitDefEqProofs (disch := omega) [-stR_ptr, hlt, hq, h6, hu, hr, ht, hvs, hvb, hqn, f2, f3])
    (fun e H' ⟨he, l, s, o, hls, st⟩ => by
      subst he
      refine .inl ⟨.exit 4, _, H', ?_, by simp, rfl, rfl, l, s, o, hls, st⟩
      rw [ctx_Take_l3_eq]
      simp -implicitDefEqProofs) loopFuel 0 [(1, .int .i64 g), (5, ptrV q), (6, ptrV p6), (50, .int .i64 N), (51, .int .i64 0)] H (by omega) (by unfold loopFuel; omega) ⟨rfl, [], .slice none 0 0, none, rfl, st⟩ with ⟨x, e', H1, hr1, rfl, rfl, l, s, o, hls, st⟩ | ⟨v, H1, hr1, rfl, hx, hno⟩
  · exact .inl ⟨l, _, s, o, H1, hls, hr1, st⟩
  · exact .inr ⟨H1, hno, hr1, hx⟩
end Go.Sw
end
section
namespace Go.Sw
open Go.RowKit
set_option maxHeartbeats 1000000 in
theorem ctxTake_run (k : Nat) (hk : k < 1000000) (b : List Int) (hb : Byt b) (g : Int) (hg : 1 ≤ g ∧ g ≤ 65535) (hl : b.length < 2 ^ 31) (H : Heap) : R (T k) F.ctx_Take [vwB b, .int .i64 g] H = orF (ctxS b g) ctxV H := by
  rw [ctx_Take_R]
  have hx : Ext H (H.push ⟨[lv encB b], 1, false⟩) := (Ext.refl H).push _
  have hvb : veq (vwB b) (vwB b) = true := veq_agg (l := [lv encB b]) fun u hu => by simp at hu; subst hu; exact veq_B b
  refine fz_orF ?_ fun _ _ => (Flat.ctx _).alive
  unfold ctxS
  simp -implicitDefEqProofs (disch := omega) [ctx_Take]
  refine Cp.call (stateTake_run k (Sl.lv _ 1 b) hb g 2 hg.1 hg.2 (.inr (.inr rfl)) hl) hx fun m hm => ?_
  have hok := machS_ok hb hg.1 hg.2 (by omega) hm
  have hx2 : Ext H ((H.push ⟨[lv encB b], 1, false⟩).push ⟨[machV m, .slice none 0 0], 1, false⟩) := hx.push _
  simp -implicitDefEqProofs (disch := omega)
  refine Cp.callT (U32_run k (Sl.lv _ 1 b) hb 16 (by omega)) (fun _ => ⟨_, by simp -implicitDefEqProofs (disch := omega), hx2⟩) fun p hp => ?_
  have hp := uS_four hb hp
  simp -implicitDefEqProofs (disch := omega)
  refine Cp.callT (Rest_lv k b p (by omega) (by omega) _) (fun _ => ⟨_, by simp -implicitDefEqProofs (disch := omega) [hvb], hx2⟩) fun sb hsb => ?_
  have lsb := restS_len hsb
  have hent := fun H' => Entries_run k hk m hok.elen H'
  have hx3 : Ext H (((H.push ⟨[lv encB b], 1, false⟩).push ⟨[machV m, .slice none 0 0], 1, false⟩).push ⟨[lv encB sb], 1, false⟩) := hx2.push _
  have hes : ∀ e, e ∈ m.ents → 0 ≤ e.a ∧ e.a < 65536 ∧ 0 ≤ e.b ∧ e.b < 65536 := fun e he => by have := hok.ent e he; omega
  obtain ⟨z, H1, l1, hx1⟩ := ctx_l1 k m.ents hes hok.elen (.int .i64 g) (ptrV (H.n + 1)) (ptrV (H.n + 2)) (((H.push ⟨[lv encB b], 1, false⟩).push ⟨[machV m, .slice none 0 0], 1, false⟩).push ⟨[lv encB sb], 1, false⟩)
  have mb := manyS_bound hes
  obtain ⟨N, hN⟩ : ∃ N, N = (manyS m.ents).toNat := ⟨_, rfl⟩
  have hNi : manyS m.ents = (N : Int) := by omega
  rw [hNi] at l1
  rw [← hN]
  have st := (((Star.nil H).rest hx).push ⟨[machV m, .slice none 0 0], 1, false⟩).push ⟨[lv encB sb], 1, false⟩
  have st := (st.rest hx1).more_row (Ext.refl _) (OwnO.nil encT _ 1) (fun b hb => by cases hb)
  simp only [List.nil_append, List.cons_append, hn_push] at st
  simp -implicitDefEqProofs (disch := omega) [hvb, hent, l1, ctx_Take_l1k_x0]
  rcases ctx_l3 k sb (hb.rest hsb) (by omega) g hg m N (by omega) _ _ st with ⟨subs, z3, s, o, H2, hsub, l3, st3⟩ | ⟨H2, hsub, l3, hx4⟩
  · rw [hsub]
    have hlast := st3.get 0 rfl
    simp -implicitDefEqProofs (disch := omega) [l3, ctx_Take_l3k_x4]
    refine .ok st3.ext ?_
    obtain ⟨L, hf⟩ := (st3.own 2 rfl).freeze encT_len (fun n _ v hv => by simp at hv; subst hv; exact trivial) 5
    exact ⟨_, fz_box (by omega) hlast (mapF_cons (v := machV m) (u := machV m) (L1 := []) rfl (mapF_cons hf rfl))⟩
  · rw [hsub]
    simp -implicitDefEqProofs (disch := omega) [l3]
    exact ⟨H2, rfl, hx4⟩
end Go.Sw
end
section
namespace Go.Sw
open Go.RowKit
def cV (o : Option CTab) : Value := match o with | some t => ctxV t | none => .pointer none
theorem cV_flat (o : Option CTab) : Flat (cV o) := by
  cases o with
  | none => exact .nilPtr
  | some t => exact Flat.ctx t
theorem ctx_in1_run (k : Nat) (hk : k < 1000000) {H : Heap} (b : List Int) (hb : Byt b) (g : Int) (hg : 1 ≤ g ∧ g ≤ 65535) (hl : b.length < 2 ^ 31) (p2 p3 p4 : Nat) (old : Value)
    (h2 : H.get p2 = some ⟨[lv encB b], 1, false⟩) (h3 : H.get p3 = some ⟨[.int .i64 g], 1, false⟩) (h4 : H.get p4 = some ⟨[old], 1, false⟩) :
    R (T k) F.ctx_Read_in1 [ptrV p2, ptrV p3, ptrV p4] H = match ctxS b g with
      | some t => .ok (.tuple #[]) (H.set p4 (some ⟨[ctxV t], 1, false⟩))
      | none => .panic failV H := by
  rw [ctx_Read_in1_R]
  have ht := ctxTake_run k hk b hb g hg hl H
  have ho := fun H => Of_lv k b H
  cases h : ctxS b g with
  | none =>
    rw [h] at ht
    refine nrm_throw ⟨H, ?_, Ext.refl H⟩ Flat.fail.alive
    simp -implicitDefEqProofs (disch := omega) [ctx_Read_in1, h2, h3, ho, ht]
  | some x =>
    rw [h] at ht
    simp -implicitDefEqProofs (disch := omega) [ctx_Read_in1, h2, h3, h4, ho, ht]
theorem ctxRead_run (k : Nat) (hk : k < 1000000) (b : List Int) (hb : Byt b) (g : Int) (hg : 1 ≤ g ∧ g ≤ 65535) (hl : b.length < 2 ^ 31) (H : Heap) :
    R (T k) F.ctx_Read [lv encB b, .int .i64 g] H = .ok (.tuple #[cV (ctxS b g), .int .i64 (if (ctxS b g).isSome then 0 else 2)]) H := by
  rw [ctx_Read_R]
  have c1 : ¬ g < 1 := by omega
  have c2 : ¬ g > 65535 := by omega
  have hx2 := ((Ext.refl H).push ⟨[lv encB b], 1, false⟩).push ⟨[.int .i64 g], 1, false⟩
  have al : ∀ o n, Alive H (.tuple #[cV o, .int .i64 n]) := fun o n => (Flat.tupleL (l := [cV o, .int .i64 n]) (.cons (cV_flat o) (.cons (.int _ _) .nil))).alive
  have fz : ∀ H' o n, fzV H.n H' fzDepth (.tuple #[cV o, .int .i64 n]) = some (.tuple #[cV o, .int .i64 n], []) := fun H' o n => by
    cases o <;> rfl
  have hin := ctx_in1_run k hk (H := ((H.push ⟨[lv encB b], 1, false⟩).push ⟨[.int .i64 g], 1, false⟩).push ⟨[.pointer none], 1, false⟩) b hb g hg hl H.n (H.n + 1) (H.n + 2) (.pointer none) (by simp) (by simp) (by simp)
  cases hc : ctxS b g with
  | none =>
    rw [hc] at hin
    have ht := Try_no k F.ctx_Read_in1 #[ptrV H.n, ptrV (H.n + 1), ptrV (H.n + 2)] hin
    refine nrm_fz (H' := ((H.push ⟨[lv encB b], 1, false⟩).push ⟨[.int .i64 g], 1, false⟩).push ⟨[.pointer none], 1, false⟩) (v := .tuple #[cV none, .int .i64 2]) ?_ (fz _ _ _) (hx2.push _) (al _ _)
    simp -implicitDefEqProofs (disch := omega) [ctx_Read, c1, c2, ht, cV]
  | some x =>
    rw [hc] at hin
    have ht := Try_ok k F.ctx_Read_in1 #[ptrV H.n, ptrV (H.n + 1), ptrV (H.n + 2)] hin
    refine nrm_fz (H' := ((H.push ⟨[lv encB b], 1, false⟩).push ⟨[.int .i64 g], 1, false⟩).push ⟨[ctxV x], 1, false⟩) (v := .tuple #[cV (some x), .int .i64 0]) ?_ (fz _ _ _) (hx2.push _) (al _ _)
    simp at ht
    simp -implicitDefEqProofs (disch := omega) [ctx_Read, c1, c2, ht, cV]
structure CTab.ok (t : CTab) : Prop where
  m : t.m.ok
  subs : ∀ x, x ∈ t.subs → (∀ p, p ∈ x.2 → p.ok) ∧ risesS x.2 = true ∧ x.2.length < 2 ^ 31
  has : ∀ e, e ∈ t.m.ents → (e.a = 65535 ∨ e.a < t.subs.length) ∧ (e.b = 65535 ∨ e.b < t.subs.length)
theorem many_has : ∀ (es : List En) (c : Int), c ≤ es.foldl manyE c ∧ ∀ e, e ∈ es → (e.a = 65535 ∨ e.a < es.foldl manyE c) ∧ (e.b = 65535 ∨ e.b < es.foldl manyE c)
  | [], c => ⟨Int.le_refl _, fun e he => by cases he⟩
  | x :: es, c => by
    have ih := many_has es (manyE c x)
    have hx : c ≤ manyE c x ∧ (x.a = 65535 ∨ x.a < manyE c x) ∧ (x.b = 65535 ∨ x.b < manyE c x) := by
      unfold manyE
      dsimp only
      split <;> split <;> omega
    simp only [List.foldl_cons]
    refine ⟨by omega, fun e he => ?_⟩
    rcases List.mem_cons.1 he with rfl | he
    · omega
    · exact ih.2 e he
theorem ctxS_ok {b : List Int} (hb : Byt b) (hl : b.length < 2 ^ 31) {g : Int} (hg : 1 ≤ g ∧ g ≤ 65535) {t : CTab} (h : ctxS b g = some t) : t.ok := by
  unfold ctxS at h
  obtain ⟨m, hm, h⟩ := Option.bind_eq_some_iff.1 h
  obtain ⟨p, hp, h⟩ := Option.bind_eq_some_iff.1 h
  obtain ⟨sb, hsb, h⟩ := Option.bind_eq_some_iff.1 h
  obtain ⟨subs, hs, rfl⟩ := Option.map_eq_some_iff.1 h
  have hok := machS_ok hb hg.1 hg.2 (by omega) hm
  have lsb := restS_len hsb
  refine ⟨hok, fun x hx => ?_, fun e he => ?_⟩
  · obtain ⟨i, hi⟩ := List.getElem?_of_mem hx
    obtain ⟨j, _, hj⟩ := mapO_get hs hi
    unfold subS at hj
    obtain ⟨p, _, hj⟩ := Option.bind_eq_some_iff.1 hj
    obtain ⟨tb, htb, hj⟩ := Option.bind_eq_some_iff.1 hj
    have ltb := restS_len htb
    have ok1 := lookS_ok ((hb.rest hsb).rest htb) hg.1 hg.2 (.inl rfl) hj
    exact ⟨ok1.2.1, ok1.2.2, lookS_len ((hb.rest hsb).rest htb) hj⟩
  · have hes : ∀ e, e ∈ m.ents → 0 ≤ e.a ∧ e.a < 65536 ∧ 0 ≤ e.b ∧ e.b < 65536 := fun e he => by have := hok.ent e he; omega
    have h1 := (many_has m.ents 0).2 e he
    have h2 := manyS_bound hes
    have h3 := subsS_len hs
    have h4 : manyS m.ents = m.ents.foldl manyE 0 := rfl
    dsimp only
    omega
def swapC (t : CTab) (l : List Gl) (i w : Int) : List Gl :=
  if w = 65535 then l else match atG l i with
  | some g => match (t.subs[w.toNat]?).bind fun x => getS x.2 g.id with
    | some id => setG l i id
    | none => l
  | none => l
@[simp] theorem swapC_len (t : CTab) (l : List Gl) (i w : Int) : (swapC t l i w).length = l.length := by
  unfold swapC
  split
  · rfl
  · split
    · split <;> simp
    · rfl
theorem ctxSwap_star (k : Nat) (t : CTab) (ht : t.ok) {H0 H : Heap} {L : List It} (h : Star H0 H L) (i : Nat) {c : Nat} {o : Option Nat} {l : List Gl} (hi : L[i]? = some (itLine c o l)) (j w : Int) (hw : w = 65535 ∨ 0 ≤ w ∧ w < t.subs.length) :
    ∃ v H', R (T k) F.ctx_Table_swap [ctxV t, ptrV c, .int .i64 j, .int .i64 w] H = .ok v H' ∧ Star H0 H' (L.set i (itLine c o (swapC t l j w))) := by
  have hat := lineAt_run k h i hi j
  have same : L.set i (itLine c o l) = L := by
    obtain ⟨hlt, hx⟩ := List.getElem?_eq_some_iff.1 hi
    rw [← hx, List.set_getElem_self]
  suffices hs : ∃ v H', ctx_Table_swap k (R (T k)) (ctxV t) (ptrV c) (.int .i64 j) (.int .i64 w) H = .ok v H' ∧ Star H0 H' (L.set i (itLine c o (swapC t l j w))) by
    obtain ⟨v, H', e, g⟩ := hs
    exact ⟨v, H', by rw [ctx_Table_swap_R]; exact nrm_of e, g⟩
  unfold swapC
  cases ha : atG l j with
  | none =>
    rw [ha] at hat
    unfold encA at hat
    simp at hat
    refine ⟨.tuple #[], _, ?_, by simp only [ite_self]; rw [same]; exact h.rest ((Ext.refl _).push ⟨[.int .i64 0, .int .i64 0], 1, false⟩)⟩
    by_cases hw0 : w = 65535
    · simp -implicitDefEqProofs (disch := omega) [ctx_Table_swap, hat, hw0]
    · have hw1 : (w == 65535) = false := by simpa using hw0
      simp -implicitDefEqProofs (disch := omega) [ctx_Table_swap, hat, hw0, hw1]
  | some g =>
    rw [ha] at hat
    unfold encA at hat
    simp at hat
    by_cases hw0 : w = 65535
    · rw [if_pos hw0, same]
      refine ⟨.tuple #[], _, ?_, h.rest ((Ext.refl _).push ⟨encG g, 1, false⟩)⟩
      simp -implicitDefEqProofs (disch := omega) [ctx_Table_swap, hat, hw0]
    rw [if_neg hw0]
    have hw1 : (w == 65535) = false := by simpa using hw0
    obtain ⟨n, rfl⟩ := Int.eq_ofNat_of_zero_le (show 0 ≤ w by omega)
    obtain ⟨x, hx⟩ : ∃ x, t.subs[n]? = some x := ⟨_, List.getElem?_eq_getElem (by omega)⟩
    have i1 := fun H' => ixS_lvN encT_len t.subs .i64 n x hx H'
    have xo := ht.subs x (List.mem_of_getElem? hx)
    have hget := fun H' => Get_run k x xo.1 xo.2.1 g.id xo.2.2 H'
    dsimp only
    rw [Int.toNat_natCast, hx, Option.bind_some]
    have h2 := h.rest ((Ext.refl _).push ⟨encG g, 1, false⟩)
    cases hg : getS x.2 g.id with
    | none =>
      rw [hg] at hget
      simp at hget
      rw [same]
      refine ⟨.tuple #[], _, ?_, h2⟩
      simp -implicitDefEqProofs (disch := omega) [ctx_Table_swap, hat, hw1, i1, hget]
    | some id =>
      rw [hg] at hget
      simp at hget
      obtain ⟨H2, e2, h3⟩ := lineSet_star k h2 i hi j id
      refine ⟨.tuple #[], H2, ?_, h3⟩
      simp -implicitDefEqProofs (disch := omega) [ctx_Table_swap, hat, hw1, i1, hget, e2]
end Go.Sw
end
section
namespace Go.Sw
open Go.RowKit
theorem and_two15 (n : Nat) : n &&& 2 ^ 15 = if n.testBit 15 then 2 ^ 15 else 0 := by
  apply Nat.eq_of_testBit_eq
  intro i
  rw [Nat.testBit_and, Nat.testBit_two_pow]
  by_cases h : 15 = i
  · subst h
    cases hb : n.testBit 15 <;> simp <;> decide
  · cases hb : n.testBit 15
    · simp [h]
    · simp only [h, decide_false, Bool.and_false, if_true, Nat.testBit_two_pow]
theorem and15 (P : Program) (t : TypeId) (H : Heap) {a : Int} (h0 : 0 ≤ a) (h1 : a < 65536) : binR P .and t (.int .i64 a) (.int .i64 32768) H = .ok (.int .i64 (if a ≥ 32768 then 32768 else 0)) H := by
  have e : (BitVec.ofInt 64 a &&& BitVec.ofInt 64 32768).toNat = (if a ≥ 32768 then 32768 else 0) := by
    rw [BitVec.toNat_and, BitVec.toNat_ofInt, BitVec.toNat_ofInt]
    rw [show ((32768 : Int) % ((2 ^ 64 : Nat) : Int)).toNat = 2 ^ 15 from by decide, and_two15, Nat.testBit_eq_decide_div_mod_eq]
    obtain ⟨n, rfl⟩ := Int.eq_ofNat_of_zero_le h0
    rw [show (((n : Int)) % ((2 ^ 64 : Nat) : Int)).toNat = n by omega]
    by_cases h : (n : Int) ≥ 32768
    · rw [if_pos h, decide_eq_true (show n / 2 ^ 15 % 2 = 1 by omega)]; rfl
    · rw [if_neg h, decide_eq_false (show ¬ n / 2 ^ 15 % 2 = 1 by omega)]; rfl
  have e1 : binV P .and t (.int .i64 a) (.int .i64 32768) = some (.int .i64 (IntKind.i64.wrap (BitVec.ofInt 64 a &&& BitVec.ofInt 64 32768).toNat)) := rfl
  unfold binR
  rw [e1, e]
  by_cases h : a ≥ 32768
  · simp [h]
  · simp [h]
def doC (t : CTab) (s : List Gl × Int) (i : Int) (e : En) : List Gl × Int :=
  (swapC t (swapC t s.1 s.2 e.a) i e.b, if e.flags ≥ 32768 ∧ i < (s.1.length : Int) then i else s.2)
def ctxW (t : CTab) (L : List It) (i c : Nat) (o : Option Nat) (p1 p3 pm : Nat) (s : List Gl × Int) : List It :=
  L.set i (itLine c o s.1) ++ [itBlk p1 ⟨[ctxV t], 1, false⟩, itBlk p3 ⟨[ptrV c], 1, false⟩, itBlk pm ⟨[.int .i64 s.2], 1, false⟩]
set_option maxHeartbeats 1000000 in
theorem ctx_do (k : Nat) (t : CTab) (ht : t.ok) (L : List It) (i c : Nat) (o : Option Nat) (hi : i < L.length) (p1 p3 pm n : Nat) {H0 : Heap} :
    DoOk k t.m H0 (ctxW t L i c o p1 p3 pm) (fun s => s.1.length = n) (.func (.func F.ctx_Table_Run_in1) #[] #[ptrV p1, ptrV p3, ptrV pm]) (doC t) := by
  intro s j e H X hI st h0 h1 he
  have hI2 : (swapC t (swapC t s.1 s.2 e.a) j e.b).length = n := by simpa using hI
  have heb := ht.m.ent e he
  have hhas := ht.has e he
  unfold ctxW at st ⊢
  have hline : ∀ (l : List Gl) (B : List It), (L.set i (itLine c o l) ++ B)[i]? = some (itLine c o l) := fun l B => by
    rw [List.getElem?_append_left (by simpa using hi), List.getElem?_set_self hi]
  have hset : ∀ (l l' : List Gl) (B : List It), (L.set i (itLine c o l) ++ B).set i (itLine c o l') = L.set i (itLine c o l') ++ B := fun l l' B => by
    rw [List.set_append_left _ _ (by simpa using hi), List.set_set]
  have st2 := st.push ⟨encEn e, 1, false⟩
  rw [List.append_assoc, List.append_assoc] at st2
  have g1 := st2.memBlk (c := p1) (k := ⟨[ctxV t], 1, false⟩) (by simp)
  have g3 := st2.memBlk (c := p3) (k := ⟨[ptrV c], 1, false⟩) (by simp)
  have gm := st2.memBlk (c := pm) (k := ⟨[.int .i64 s.2], 1, false⟩) (by simp)
  have ge := st2.memBlk (c := H.n) (k := ⟨encEn e, 1, false⟩) (by simp)
  obtain ⟨v1, H1, e1, st3⟩ := ctxSwap_star k t ht st2 i (hline s.1 _) s.2 e.a (by omega)
  rw [hset] at st3
  have f1 := st3.memBlk (c := p1) (k := ⟨[ctxV t], 1, false⟩) (by simp)
  have f3 := st3.memBlk (c := p3) (k := ⟨[ptrV c], 1, false⟩) (by simp)
  have fe := st3.memBlk (c := H.n) (k := ⟨encEn e, 1, false⟩) (by simp)
  obtain ⟨v2, H2, e2, st4⟩ := ctxSwap_star k t ht st3 i (hline _ _) j e.b (by omega)
  rw [hset] at st4
  have k3 := st4.memBlk (c := p3) (k := ⟨[ptrV c], 1, false⟩) (by simp)
  have ke := st4.memBlk (c := H.n) (k := ⟨encEn e, 1, false⟩) (by simp)
  have hlen := lineLen_run k st4 i (hline _ _)
  simp only [swapC_len] at hlen
  have han := fun H => and15 Prog 3 H heb.2.2.1 heb.2.2.2.1
  have fin : ∀ (H' : Heap) (M : Int), Star H0 H' (L.set i (itLine c o (swapC t (swapC t s.1 s.2 e.a) j e.b)) ++ ([itBlk p1 ⟨[ctxV t], 1, false⟩, itBlk p3 ⟨[ptrV c], 1, false⟩, itBlk pm ⟨[.int .i64 M], 1, false⟩] ++ (X ++ [itBlk H.n ⟨encEn e, 1, false⟩]))) →
      Star H0 H' (L.set i (itLine c o (swapC t (swapC t s.1 s.2 e.a) j e.b)) ++ [itBlk p1 ⟨[ctxV t], 1, false⟩, itBlk p3 ⟨[ptrV c], 1, false⟩, itBlk pm ⟨[.int .i64 M], 1, false⟩] ++ X) := fun H' M h => by
    rw [← List.append_assoc, ← List.append_assoc] at h
    exact h.drop_last
  by_cases hf : e.flags ≥ 32768
  · rw [if_pos hf] at han
    by_cases hj : j < (s.1.length : Int)
    · have hd : (doC t s j e).2 = j := by unfold doC; exact if_pos ⟨hf, hj⟩
      have hd1 : (doC t s j e).1 = swapC t (swapC t s.1 s.2 e.a) j e.b := rfl
      rw [hd, hd1]
      have hix : (L.set i (itLine c o (swapC t (swapC t s.1 s.2 e.a) j e.b)) ++ ([itBlk p1 ⟨[ctxV t], 1, false⟩, itBlk p3 ⟨[ptrV c], 1, false⟩, itBlk pm ⟨[.int .i64 s.2], 1, false⟩] ++ (X ++ [itBlk H.n ⟨encEn e, 1, false⟩]))) =
          (L.set i (itLine c o (swapC t (swapC t s.1 s.2 e.a) j e.b)) ++ [itBlk p1 ⟨[ctxV t], 1, false⟩, itBlk p3 ⟨[ptrV c], 1, false⟩]) ++ itBlk pm ⟨[.int .i64 s.2], 1, false⟩ :: (X ++ [itBlk H.n ⟨encEn e, 1, false⟩]) := by simp
      rw [hix] at st4
      obtain ⟨H3, e3, st5⟩ := st4.stEnd 0 (v := .int .i64 j) rfl rfl (by simp)
      simp only [List.set_cons_zero] at st5
      refine ⟨.tuple #[], H3, ?_, fin H3 j (by simpa using st5), hI2⟩
      simp only [callV, List.nil_append, List.cons_append]
      rw [ctx_Table_Run_in1_R, nrm_of]
      simp -implicitDefEqProofs (disch := omega) [-stR_ptr, ctx_Table_Run_in1, g1, g3, gm, ge, e1, f1, f3, fe, e2, k3, ke, han, bne, hlen, hj, e3]
    · have hd : (doC t s j e).2 = s.2 := by unfold doC; exact if_neg fun h => hj h.2
      have hd1 : (doC t s j e).1 = swapC t (swapC t s.1 s.2 e.a) j e.b := rfl
      rw [hd, hd1]
      refine ⟨.tuple #[], H2, ?_, fin H2 s.2 st4, hI2⟩
      simp only [callV, List.nil_append, List.cons_append]
      rw [ctx_Table_Run_in1_R, nrm_of]
      simp -implicitDefEqProofs (disch := omega) [-stR_ptr, ctx_Table_Run_in1, g1, g3, gm, ge, e1, f1, f3, fe, e2, k3, ke, han, bne, hlen, hj]
  · rw [if_neg hf] at han
    have hd : (doC t s j e).2 = s.2 := by unfold doC; exact if_neg fun h => hf h.1
    have hd1 : (doC t s j e).1 = swapC t (swapC t s.1 s.2 e.a) j e.b := rfl
    rw [hd, hd1]
    refine ⟨.tuple #[], H2, ?_, fin H2 s.2 st4, hI2⟩
    simp only [callV, List.nil_append, List.cons_append]
    rw [ctx_Table_Run_in1_R, nrm_of]
    simp -implicitDefEqProofs (disch := omega) [-stR_ptr, ctx_Table_Run_in1, g1, g3, gm, ge, e1, f1, f3, fe, e2, k3, ke, han, bne]
end Go.Sw
end
section
namespace Go.Sw
open Go.RowKit
theorem veq_Ens (l : List En) : veq (lv encEn l) (lv encEn l) = true := veq_lv fun p _ v hv => by
  simp [encEn] at hv
  rcases hv with rfl | rfl | rfl | rfl <;> simp
theorem veq_Is (l : List Int) : veq (lv encI l) (lv encI l) = true := veq_lv fun p _ v hv => by
  simp [encI] at hv
  subst hv; simp
theorem veq_Rows (l : List (List Int)) : veq (lv encRow l) (lv encRow l) = true := veq_lv fun p _ v hv => by
  simp [encRow] at hv
  subst hv; exact veq_Is p
theorem veq_Ts (l : List (Int × List Pt)) : veq (lv encT l) (lv encT l) = true := veq_lv fun p _ v hv => by
  simp [encT] at hv
  subst hv; exact veq_tab p
theorem veq_mach (m : Mach) : veq (machV m) (machV m) = true := veq_boxV (l := [.int .i64 m.classes, tabV m.tab, lv encRow m.rows, lv encEn m.ents]) fun v hv => by
  simp at hv
  rcases hv with rfl | rfl | rfl | rfl
  · simp
  · exact veq_tab _
  · exact veq_Rows _
  · exact veq_Ens _
theorem veq_ctx (t : CTab) : veq (ctxV t) (ctxV t) = true := veq_boxV (l := ctxC t) fun v hv => by
  simp [ctxC] at hv
  rcases hv with rfl | rfl
  · exact veq_mach _
  · exact veq_Ts _
def runCr (t : CTab) (l : List Gl) : Int × Int × (List Gl × Int) :=
  runD t.m (fun s : List Gl × Int => s.1) (fun s i e => (doC t s i e, i, i + 1)) (2 * (l.length : Int) + 128) (2 * l.length + 128) ((l, -1), ⟨0, 0, 0, 0⟩)
def runC (t : CTab) (l : List Gl) : List Gl × Int := ((runCr t l).2.2.1, (runCr t l).2.1)
set_option maxHeartbeats 1000000 in
theorem ctxRun_star (k : Nat) (t : CTab) (ht : t.ok) {H0 H : Heap} {L : List It} (h : Star H0 H L) (i : Nat) {c : Nat} {o : Option Nat} {l : List Gl} (hi : L[i]? = some (itLine c o l)) (hl : l.length < 2 ^ 40) :
    ∃ H', R (T k) F.ctx_Table_Run [ctxV t, ptrV c] H = .ok (.int .i64 (runC t l).2) H' ∧ Star H0 H' (L.set i (itLine c o (runC t l).1)) ∧ (runC t l).1.length = l.length := by
  have hlt := (List.getElem?_eq_some_iff.1 hi).1
  have same : L.set i (itLine c o l) = L := by
    obtain ⟨hlt, hx⟩ := List.getElem?_eq_some_iff.1 hi
    rw [← hx, List.set_getElem_self]
  have st := ((h.push ⟨[ctxV t], 1, false⟩).push ⟨[ptrV c], 1, false⟩).push ⟨[.int .i64 (-1)], 1, false⟩
  simp only [hn_push] at st
  obtain ⟨H3, hH3⟩ : ∃ H3, H3 = ((H.push ⟨[ctxV t], 1, false⟩).push ⟨[ptrV c], 1, false⟩).push ⟨[.int .i64 (-1)], 1, false⟩ := ⟨_, rfl⟩
  rw [← hH3] at st
  have hn3 : H3.n = H.n + 3 := by rw [hH3]; simp
  have ePl := plainNew k (.func F.ctx_Table_Run_in1) #[] #[ptrV H.n, ptrV (H.n + 1), ptrV (H.n + 2)] H3
  have st4 := st.push ⟨[.func (.func F.ctx_Table_Run_in1) #[] #[ptrV H.n, ptrV (H.n + 1), ptrV (H.n + 2)]], 1, false⟩
  have g1 := st4.memBlk (c := H.n) (k := ⟨[ctxV t], 1, false⟩) (by simp)
  have g3 := st4.memBlk (c := H.n + 1) (k := ⟨[ptrV c], 1, false⟩) (by simp)
  have hact := plain_ok k (ctx_do k t ht L i c o hlt H.n (H.n + 1) (H.n + 2) l.length (H0 := H0)) H3.n
  obtain ⟨H5, eR, st5, hI5⟩ := driveRun_star k t.m ht.m (fun s : List Gl × Int => ctxW t L i c o H.n (H.n + 1) (H.n + 2) s ++ [itBlk H3.n ⟨[.func (.func F.ctx_Table_Run_in1) #[] #[ptrV H.n, ptrV (H.n + 1), ptrV (H.n + 2)]], 1, false⟩]) (fun s => s.1.length = l.length) (fun s => s.1) c
    (fun s => ⟨i, o, by
      unfold ctxW
      rw [List.append_assoc, List.getElem?_append_left (by simpa using hlt), List.getElem?_set_self hlt]⟩) _ _ hact [] (l, -1) rfl (by
      unfold ctxW
      rw [same]
      simpa [List.append_assoc] using st4) (by simpa using hl)
  refine ⟨H5, ?_, ?_, ?_⟩
  · rw [ctx_Table_Run_R, nrm_of]
    have v1 := veq_ctx t
    have v2 := veq_mach t.m
    unfold runC
    dsimp only at eR ⊢
    have hr : runD t.m (fun s : List Gl × Int => s.1) (fun s i e => (doC t s i e, i, i + 1)) (2 * (l.length : Int) + 128) (2 * l.length + 128) ((l, -1), ⟨0, 0, 0, 0⟩) = runCr t l := by unfold runCr; rfl
    rw [hr] at eR
    generalize runCr t l = r at eR ⊢
    rw [hH3] at ePl eR g1 g3
    simp only [hn_push] at ePl eR
    simp -implicitDefEqProofs (disch := omega) [ctx_Table_Run, ePl, eR, v1, v2]
  · unfold runC
    dsimp only at st5 ⊢
    have hr : runD t.m (fun s : List Gl × Int => s.1) (fun s i e => (doC t s i e, i, i + 1)) (2 * (l.length : Int) + 128) (2 * l.length + 128) ((l, -1), ⟨0, 0, 0, 0⟩) = runCr t l := by unfold runCr; rfl
    rw [hr] at st5
    generalize runCr t l = r at st5 ⊢
    unfold ctxW at st5
    have := st5.take L.length
    rw [List.append_assoc, List.append_assoc, List.take_append_of_le_length (by simp), List.take_of_length_le (by simp)] at this
    exact this
  · unfold runC
    dsimp only at hI5 ⊢
    have hr : runD t.m (fun s : List Gl × Int => s.1) (fun s i e => (doC t s i e, i, i + 1)) (2 * (l.length : Int) + 128) (2 * l.length + 128) ((l, -1), ⟨0, 0, 0, 0⟩) = runCr t l := by unfold runCr; rfl
    rw [hr] at hI5
    exact hI5
end Go.Sw
end
section
set_option maxRecDepth 100000
set_option linter.unusedVariables false
namespace Go.Sw
noncomputable section
def swashlaw15_CtxTakes (k : Nat) (call : Caller) (a0 a1 : Value) (h : Heap) : Res Value :=
  (boxR a0 h).bind fun v1 h2 =>
  (call F.swashlaw15_speaks [] h2).bind fun v3 h4 =>
  (unR .not v3 h4).bind fun v5 h6 =>
  condV (some v5) (
    .ok (.bool false) h6)
  (
    (loadR Prog 65 v1 h6).bind fun v7 h8 =>
    (builtinV Prog .len [65] [v7] h8).bind fun v9 h10 =>
    (binR Prog .gtr 3 v9 (.int .i64 800) h10).bind fun v11 h12 =>
    ((bif wantVal v11 false then Res.ok a1 h12 else Res.ok undef h12)).bind fun v13 h14 =>
    ((bif wantVal v11 false then builtinV Prog .len [28] [v13] h14 else Res.ok undef h14)).bind fun v15 h16 =>
    ((bif wantVal v11 false then binR Prog .gtr 3 v15 (.int .i64 40) h16 else Res.ok undef h16)).bind fun v17 h18 =>
    (condV (some v11) (Res.ok (.bool true) h18) (Res.ok v17 h18)).bind fun v19 h20 =>
    condV (some v19) (
      .ok (.bool true) h20)
    (
      (allocR Prog 193 h20).bind fun v21 h22 =>
      (call F.view_Try [(.func (.func F.swashlaw15_CtxTakes_in1) #[] #[v1, v21])] h22).bind fun v23 h24 =>
      (loadR Prog 65 v1 h24).bind fun v25 h26 =>
      (call F.ctx_Read [v25, (.int .i64 40)] h26).bind fun v27 h28 =>
      (extractR v27 0 h28).bind fun v29 h30 =>
      (extractR v27 1 h30).bind fun v31 h32 =>
      (binR Prog .eql 69 v31 (.int .i64 0) h32).bind fun v33 h34 =>
      (binR Prog .neq 4 v23 v33 h34).bind fun v35 h36 =>
      ((bif wantVal v35 false then Res.ok v23 h36 else Res.ok undef h36)).bind fun v37 h38 =>
      ((bif wantVal v35 false then loadR Prog 193 v21 h38 else Res.ok undef h38)).bind fun v39 h40 =>
      ((bif wantVal v35 false then binR Prog .neq 193 v39 (.pointer none) h40 else Res.ok undef h40)).bind fun v41 h42 =>
      ((bif wantVal v35 false then binR Prog .neq 4 v37 v41 h42 else Res.ok undef h42)).bind fun v43 h44 =>
      (condV (some v35) (Res.ok (.bool true) h44) (Res.ok v43 h44)).bind fun v45 h46 =>
      ((bif wantVal v45 false then Res.ok v23 h46 else Res.ok undef h46)).bind fun v47 h48 =>
      ((bif wantVal v45 false then Res.ok v29 h48 else Res.ok undef h48)).bind fun v49 h50 =>
      ((bif wantVal v45 false then binR Prog .neq 193 v49 (.pointer none) h50 else Res.ok undef h50)).bind fun v51 h52 =>
      ((bif wantVal v45 false then binR Prog .neq 4 v47 v51 h52 else Res.ok undef h52)).bind fun v53 h54 =>
      (condV (some v45) (Res.ok (.bool true) h54) (Res.ok v53 h54)).bind fun v55 h56 =>
      condV (some v55) (
        .ok (.bool false) h56)
      (
        (unR .not v23 h56).bind fun v57 h58 =>
        condV (some v57) (
          .ok (.bool true) h58)
        (
          (call F.line_New [a1] h58).bind fun v59 h60 =>
          (call F.line_New [a1] h60).bind fun v61 h62 =>
          (loadR Prog 193 v21 h62).bind fun v63 h64 =>
          (call F.ctx_Table_Run [v63, v59] h64).bind fun v65 h66 =>
          (call F.ctx_Table_Run [v29, v61] h66).bind fun v67 h68 =>
          (binR Prog .eql 69 v65 v67 h68).bind fun v69 h70 =>
          ((bif wantVal v69 true then Res.ok v59 h70 else Res.ok undef h70)).bind fun v71 h72 =>
          ((bif wantVal v69 true then call F.line_Line_Glyphs [v71] h72 else Res.ok undef h72)).bind fun v73 h74 =>
          ((bif wantVal v69 true then Res.ok v61 h74 else Res.ok undef h74)).bind fun v75 h76 =>
          ((bif wantVal v69 true then call F.line_Line_Glyphs [v75] h76 else Res.ok undef h76)).bind fun v77 h78 =>
          ((bif wantVal v69 true then call F.swashref11_Same [v73, v77] h78 else Res.ok undef h78)).bind fun v79 h80 =>
          (condV (some v69) (Res.ok v79 h80) (Res.ok (.bool false) h80)).bind fun v81 h82 =>
          .ok v81 h82))))
theorem swashlaw15_CtxTakes_R (k : Nat) (a0 a1 : Value) (h : Heap) : R (T k) F.swashlaw15_CtxTakes [a0, a1] h = nrm .gc h (swashlaw15_CtxTakes k (R (T k)) a0 a1 h) :=
  (R_body (t := T k) (T_scott k) (by kernel_rfl) _ _).trans (by kernel_rfl)
def swashlaw15_CtxTakes_in1 (k : Nat) (call : Caller) (a0 a1 : Value) (h : Heap) : Res Value :=
  (loadR Prog 65 a0 h).bind fun v1 h2 =>
  (call F.view_Of [v1] h2).bind fun v3 h4 =>
  (call F.ctx_Take [v3, (.int .i64 40)] h4).bind fun v5 h6 =>
  (storeR Prog 193 a1 v5 h6).bind fun _v7 h8 =>
  .ok (.tuple #[]) h8
theorem swashlaw15_CtxTakes_in1_R (k : Nat) (a0 a1 : Value) (h : Heap) : R (T k) F.swashlaw15_CtxTakes_in1 [a0, a1] h = nrm .no h (swashlaw15_CtxTakes_in1 k (R (T k)) a0 a1 h) :=
  (R_body (t := T k) (T_scott k) (by kernel_rfl) _ _).trans (by kernel_rfl)
end
end Go.Sw
end
section
namespace Go.Sw
open Go.RowKit
theorem speaks15_run (k : Nat) (hk : k % 1000000 = F.swashlaw15_speaks) (H : Heap) : R (T k) F.swashlaw15_speaks [] H = .ok (.bool true) H :=
  (R_sp (t := T k) (T_scott k) (s := constSp (.bool true)) (by unfold T C; dsimp only; rw [hk]; kernel_rfl) [] H).trans (nrm_gc (Pure.of rfl) (.bool _))
theorem CtxTakes_in1 (k : Nat) (hk : k < 1000000) {H : Heap} (b : List Int) (hb : Byt b) (hl : b.length < 2 ^ 31) (p2 p3 : Nat) (old : Value)
    (h2 : H.get p2 = some ⟨[lv encB b], 1, false⟩) (h3 : H.get p3 = some ⟨[old], 1, false⟩) :
    R (T k) F.swashlaw15_CtxTakes_in1 [ptrV p2, ptrV p3] H = match ctxS b 40 with
      | some x => .ok (.tuple #[]) (H.set p3 (some ⟨[ctxV x], 1, false⟩))
      | none => .panic failV H := by
  rw [swashlaw15_CtxTakes_in1_R]
  have ht := ctxTake_run k hk b hb 40 (by omega) hl H
  have ho := fun H => Of_lv k b H
  cases h : ctxS b 40 with
  | none =>
    rw [h] at ht
    refine nrm_throw ⟨H, ?_, Ext.refl H⟩ Flat.fail.alive
    simp -implicitDefEqProofs (disch := omega) [swashlaw15_CtxTakes_in1, h2, ho, ht]
  | some x =>
    rw [h] at ht
    simp -implicitDefEqProofs (disch := omega) [swashlaw15_CtxTakes_in1, h2, h3, ho, ht]
set_option maxHeartbeats 1000000 in
theorem CtxTakes_run (b : List Int) (hb : Byt b) (ids : List Int) : R (T F.swashlaw15_speaks) F.swashlaw15_CtxTakes [lv encB b, lv encI ids] Heap.empty = .ok (.bool true) Heap.empty := by
  generalize hk : F.swashlaw15_speaks = k
  have hs := speaks15_run k (by subst hk; rfl)
  have hk6 : k < 1000000 := by subst hk; decide
  clear hk
  rw [swashlaw15_CtxTakes_R]
  generalize Heap.empty = H
  have hx1 : Ext H (H.push ⟨[lv encB b], 1, false⟩) := (Ext.refl H).push _
  by_cases hl : b.length > 800
  · have hl' : (b.length : Int) > 800 := by omega
    refine nrm_gc ⟨_, ?_, hx1⟩ (.bool _)
    simp -implicitDefEqProofs (disch := omega) [swashlaw15_CtxTakes, hs, hl']
  have hl' : ¬ (b.length : Int) > 800 := by omega
  by_cases hi : ids.length > 40
  · have hi' : (ids.length : Int) > 40 := by omega
    refine nrm_gc ⟨_, ?_, hx1⟩ (.bool _)
    simp -implicitDefEqProofs (disch := omega) [swashlaw15_CtxTakes, hs, hl', hi']
  have hi' : ¬ (ids.length : Int) > 40 := by omega
  have hin := CtxTakes_in1 k hk6 (H := (H.push ⟨[lv encB b], 1, false⟩).push ⟨[.pointer none], 1, false⟩) b hb (by omega) H.n (H.n + 1) (.pointer none) (by simp) (by simp)
  have hrd := fun H' => ctxRead_run k hk6 b hb 40 (by omega) (by omega) H'
  cases h : ctxS b 40 with
  | none =>
    rw [h] at hin hrd
    simp only [cV, Option.isSome_none, Bool.false_eq_true, if_false] at hrd
    have ht := Try_no k F.swashlaw15_CtxTakes_in1 #[ptrV H.n, ptrV (H.n + 1)] hin
    refine nrm_gc ⟨_, ?_, hx1.push ⟨[.pointer none], 1, false⟩⟩ (.bool _)
    simp -implicitDefEqProofs (disch := omega) [swashlaw15_CtxTakes, hs, hl', hi', ht, hrd]
  | some t =>
    rw [h] at hin hrd
    simp only [cV, Option.isSome_some, if_true] at hrd
    have ht := Try_ok k F.swashlaw15_CtxTakes_in1 #[ptrV H.n, ptrV (H.n + 1)] hin
    simp at ht
    have hok := ctxS_ok hb (by omega) (by omega) h
    have g := ((Star.nil H).push ⟨[lv encB b], 1, false⟩).push ⟨[ctxV t], 1, false⟩
    simp only [List.nil_append, List.cons_append, hn_push] at g
    obtain ⟨c1, o1, H1, e1, g⟩ := lineNew_star k g ids (by omega)
    simp only [List.nil_append, List.cons_append] at g
    obtain ⟨c2, o2, H2, e2, g⟩ := lineNew_star k g ids (by omega)
    simp only [List.nil_append, List.cons_append] at g
    have b2 := g.get 1 rfl
    have v2 := veq_ctx t
    obtain ⟨H3, e3, g, hlen⟩ := ctxRun_star k t hok g 2 rfl (by simp; omega)
    simp only [List.set_cons_zero, List.set_cons_succ] at g
    obtain ⟨H4, e4, g, _⟩ := ctxRun_star k t hok g 3 rfl (by simp; omega)
    simp only [List.set_cons_zero, List.set_cons_succ] at g
    rw [newG_len] at hlen
    generalize runC t (newG ids) = r at e3 e4 g hlen
    have gl1 := lineGlyphs_run k hk6 g 2 rfl (by omega)
    have gl2 := lineGlyphs_run k hk6 g 3 rfl (by omega)
    have hsame := Same_run k (Rd.lv encG_len H4 r.1) (Rd.lv encG_len H4 r.1) (by omega) (by omega)
    refine nrm_gc ⟨H4, ?_, g.ext⟩ (.bool _)
    simp -implicitDefEqProofs (disch := omega) [swashlaw15_CtxTakes, hs, hl', hi', ht, hrd, e1, e2, b2, e3, e4, gl1, gl2, hsame]
theorem CtxTakes_args (vs : List Value) (h : ArgsLay [.one (.slice [.int .u8]), .one (.slice [.int .i64])] vs) : ∃ H', R (T F.swashlaw15_speaks) F.swashlaw15_CtxTakes vs Heap.empty = .ok (.bool true) H' := by
  obtain ⟨v1, _, rfl, h1, h⟩ := h.head
  obtain ⟨v2, _, rfl, h2, h⟩ := h.head
  obtain rfl := h.done
  obtain ⟨b, rfl, hb⟩ := arg_B h1
  obtain ⟨ids, rfl, _⟩ := arg_I h2
  exact ⟨_, CtxTakes_run b hb ids⟩
end Go.Sw
end
