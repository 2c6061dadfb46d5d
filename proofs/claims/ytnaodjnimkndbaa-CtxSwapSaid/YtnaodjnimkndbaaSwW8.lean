/-
  Functions' forms, and what is proved of them, part 8.
-/
import Derived.Test.YtnaodjnimkndbaaSwCfg
import Derived.Test.YtnaodjnimkndbaaSwW7
import Derived.Test.YtnaodjnimkndbaaSwW5
import Derived.Test.YtnaodjnimkndbaaSwW1
import Derived.Test.YtnaodjnimkndbaaSwLib8
import Derived.Tactics
import Derived.Tactics2
import Derived.Defers
import Derived.Recover
import Derived.Laws.Pointers
import Derived.Test.YtnaodjnimkndbaaSwW2
import Derived.Test.YtnaodjnimkndbaaSwW4
set_option linter.unusedSimpArgs false
set_option linter.unusedVariables false
set_option linter.unusedSectionVars false
section
set_option maxRecDepth 100000
set_option linter.unusedVariables false
namespace Go.Sw
noncomputable section
def swashref07_Read_l1 (k : Nat) (call : Caller) : Env → Heap → Res (AExit × Env) := loopB (C k) call F.swashref07_Read [1, 1, 1, 1, 1, 1, 1, 0, 0, 0]
def swashref07_Read_l1k (k : Nat) (call : Caller) : Kont Value := kBlock 0 (kSeq (pieceK (C k) call F.swashref07_Read [1, 1, 1, 1, 1, 1, 1, 1]) (kDone Prog (resOf Prog F.swashref07_Read)))
def swashref07_Read (k : Nat) (call : Caller) (a0 a1 a2 : Value) (h : Heap) : Res Value :=
 (allocR Prog 137 h).bind fun v1 h2 =>
 (call F.swashref01_U [a0, (.int .i64 0), (.int .i64 4)] h2).bind fun v3 h4 =>
 (call F.swashref01_U [a0, (.int .i64 8), (.int .i64 4)] h4).bind fun v5 h6 =>
 (call F.swashref01_U [a0, (.int .i64 12), (.int .i64 4)] h6).bind fun v7 h8 =>
 (buildR Prog 137 [(0, a0), (1, v3), (2, v5), (3, v7), (4, (.int .i64 2)), (6, a2)] h8).bind fun v9 h10 =>
 (allocR Prog 137 h10).bind fun v11 h12 =>
 (storeR Prog 137 v11 v9 h12).bind fun _v13 h14 =>
 (call F.swashref01_U [a0, (.int .i64 4), (.int .i64 4)] h14).bind fun v15 h16 =>
 (fieldAddrR Prog 137 v11 1 h16).bind fun v17 h18 =>
 (loadR Prog 3 v17 h18).bind fun v19 h20 =>
 (binR Prog .lss 3 v19 (.int .i64 4) h20).bind fun v21 h22 =>
 ((bif wantVal v21 false then fieldAddrR Prog 137 v11 1 h22 else Res.ok undef h22)).bind fun v23 h24 =>
 ((bif wantVal v21 false then loadR Prog 3 v23 h24 else Res.ok undef h24)).bind fun v25 h26 =>
 ((bif wantVal v21 false then binR Prog .gtr 3 v25 (.int .i64 65535) h26 else Res.ok undef h26)).bind fun v27 h28 =>
 (condV (some v21) (Res.ok (.bool true) h28) (Res.ok v27 h28)).bind fun v29 h30 =>
 ((bif wantVal v29 false then fieldAddrR Prog 137 v11 2 h30 else Res.ok undef h30)).bind fun v31 h32 =>
 ((bif wantVal v29 false then loadR Prog 3 v31 h32 else Res.ok undef h32)).bind fun v33 h34 =>
 ((bif wantVal v29 false then binR Prog .lss 3 v33 (.int .i64 0) h34 else Res.ok undef h34)).bind fun v35 h36 =>
 (condV (some v29) (Res.ok (.bool true) h36) (Res.ok v35 h36)).bind fun v37 h38 =>
 ((bif wantVal v37 false then fieldAddrR Prog 137 v11 3 h38 else Res.ok undef h38)).bind fun v39 h40 =>
 ((bif wantVal v37 false then loadR Prog 3 v39 h40 else Res.ok undef h40)).bind fun v41 h42 =>
 ((bif wantVal v37 false then binR Prog .lss 3 v41 (.int .i64 0) h42 else Res.ok undef h42)).bind fun v43 h44 =>
 (condV (some v37) (Res.ok (.bool true) h44) (Res.ok v43 h44)).bind fun v45 h46 =>
 ((bif wantVal v45 false then fieldAddrR Prog 137 v11 2 h46 else Res.ok undef h46)).bind fun v47 h48 =>
 ((bif wantVal v45 false then loadR Prog 3 v47 h48 else Res.ok undef h48)).bind fun v49 h50 =>
 ((bif wantVal v45 false then Res.ok a0 h50 else Res.ok undef h50)).bind fun v51 h52 =>
 ((bif wantVal v45 false then builtinV Prog .len [65] [v51] h52 else Res.ok undef h52)).bind fun v53 h54 =>
 ((bif wantVal v45 false then binR Prog .gtr 3 v49 v53 h54 else Res.ok undef h54)).bind fun v55 h56 =>
 (condV (some v45) (Res.ok (.bool true) h56) (Res.ok v55 h56)).bind fun v57 h58 =>
 ((bif wantVal v57 false then fieldAddrR Prog 137 v11 3 h58 else Res.ok undef h58)).bind fun v59 h60 =>
 ((bif wantVal v57 false then loadR Prog 3 v59 h60 else Res.ok undef h60)).bind fun v61 h62 =>
 ((bif wantVal v57 false then Res.ok a0 h62 else Res.ok undef h62)).bind fun v63 h64 =>
 ((bif wantVal v57 false then builtinV Prog .len [65] [v63] h64 else Res.ok undef h64)).bind fun v65 h66 =>
 ((bif wantVal v57 false then binR Prog .gtr 3 v61 v65 h66 else Res.ok undef h66)).bind fun v67 h68 =>
 (condV (some v57) (Res.ok (.bool true) h68) (Res.ok v67 h68)).bind fun v69 h70 =>
 ((bif wantVal v69 false then Res.ok v15 h70 else Res.ok undef h70)).bind fun v71 h72 =>
 ((bif wantVal v69 false then binR Prog .lss 3 v71 (.int .i64 0) h72 else Res.ok undef h72)).bind fun v73 h74 =>
 (condV (some v69) (Res.ok (.bool true) h74) (Res.ok v73 h74)).bind fun v75 h76 =>
 ((bif wantVal v75 false then Res.ok v15 h76 else Res.ok undef h76)).bind fun v77 h78 =>
 ((bif wantVal v75 false then Res.ok a0 h78 else Res.ok undef h78)).bind fun v79 h80 =>
 ((bif wantVal v75 false then builtinV Prog .len [65] [v79] h80 else Res.ok undef h80)).bind fun v81 h82 =>
 ((bif wantVal v75 false then binR Prog .gtr 3 v77 v81 h82 else Res.ok undef h82)).bind fun v83 h84 =>
 (condV (some v75) (Res.ok (.bool true) h84) (Res.ok v83 h84)).bind fun v85 h86 =>
 condV (some v85) (
 (buildR Prog 137 [] h86).bind fun v87 h88 =>
 (storeR Prog 137 v1 v87 h88).bind fun _v89 h90 =>
 (loadR Prog 137 v1 h90).bind fun v91 h92 =>
 .ok (.tuple #[v91, (.bool false)]) h92)
 (
 (sliceR Prog 65 a0 (some v15) none none h86).bind fun v93 h94 =>
 (call F.swashref06_Read [v93, a1, (.int .i64 2)] h94).bind fun v95 h96 =>
 (extractR v95 0 h96).bind fun v97 h98 =>
 (extractR v95 1 h98).bind fun v99 h100 =>
 (allocR Prog 88 h100).bind fun v101 h102 =>
 (storeR Prog 88 v101 v97 h102).bind fun _v103 h104 =>
 (loadR Prog 88 v101 h104).bind fun v105 h106 =>
 (fieldAddrR Prog 137 v11 7 h106).bind fun v107 h108 =>
 (storeR Prog 88 v107 v105 h108).bind fun _v109 h110 =>
 (binR Prog .mul 3 (.int .i64 2) a2 h110).bind fun v111 h112 =>
 (binR Prog .add 3 (.int .i64 4) v111 h112).bind fun v113 h114 =>
 (loopN (swashref07_Read_l1 k call) loopFuel [(0, a0), (6, v1), (8, v11), (11, v99), (12, v113)] h114).bind fun r115 h116 =>
 swashref07_Read_l1k k call r115.1 r115.2 h116)
end
end Go.Sw
end
section
namespace Go.Sw
open Go.RowKit
abbrev rmCells (b : List Int) (n j q S N w : Int) (tb : List Int) (ps : List RP) : List Value :=
 [lv encB b, .int .i64 n, .int .i64 j, .int .i64 q, .int .i64 S, .int .i64 N, .int .i64 w, lv encB tb, lv encRP ps]
end Go.Sw
end
section
namespace Go.Sw
open Go.RowKit
end Go.Sw
end
section
namespace Go.Sw
theorem row_I {r : List Da} {cs : List Value} (h : LayRow [.int .i64] r cs) : ∃ n : Int, cs = encI n ∧ (Lit.int .i64 n).wf = true := by
 obtain ⟨d, v, ds, vs, rfl, h1, h2⟩ := h.head
 obtain rfl := h2.done
 obtain ⟨n, rfl, w⟩ := h1.intv
 exact ⟨n, rfl, w⟩
theorem wf_u16 {n : Int} (h : (Lit.int .u16 n).wf = true) : 0 ≤ n ∧ n < 65536 := by
 simp [Lit.wf, IntKind.min, IntKind.max, IntKind.signed, IntKind.bits] at h
 omega
theorem arg_I {v : Value} (h : ArgLay (.one (.slice [.int .i64])) v) : ∃ l, v = lv encI l ∧ ∀ n, n ∈ l → (Lit.int .i64 n).wf = true := by
 obtain ⟨d, h1⟩ := h.cell
 exact Lay.list (enc := encI) (ok := fun n => (Lit.int .i64 n).wf = true) (fun r cs h => row_I h) h1
end Go.Sw
end
section
namespace Go.Sw
open Go.RowKit
end Go.Sw
end
section
namespace Go.Sw
open Go.RowKit
theorem planRoom_byt {p : Plan} (hp : p.ok) (w : Int) {rm : List Int} (hrm : Byt rm) : Byt (planRoom p w rm) := by
 have tw : ∀ l, Byt (twos l) := fun l => Byt.flat fun r hr => by obtain ⟨c, _, rfl⟩ := List.mem_map.1 hr; exact bytesOf_byt _ _
 unfold planRoom
 refine (bytesOf_byt _ _).app ((bytesOf_byt _ _).app ((bytesOf_byt _ _).app ((bytesOf_byt _ _).app (hrm.app (Byt.app ?_ (Byt.app ?_ ?_))))))
 ·unfold ofS
  exact (((bytesOf_byt _ _).app (bytesOf_byt _ _)).app (bytesOf_byt _ _)).app (tw _)
 ·exact Byt.flat fun r hr => by obtain ⟨c, _, rfl⟩ := List.mem_map.1 hr; exact tw _
 ·refine Byt.flat fun r hr => ?_
  obtain ⟨e, _, rfl⟩ := List.mem_map.1 hr
  unfold entB
  refine (((bytesOf_byt _ _).app (bytesOf_byt _ _)).app ?_).app ?_
  ·split
   ·exact bytesOf_byt _ _
   ·exact Byt.nil
  ·split
   ·exact bytesOf_byt _ _
   ·exact Byt.nil
theorem planRoom_len {p : Plan} (hp : p.ok) (w : Int) {rm : List Int} (hrm : rm.length ≤ 1000) (h1 : p.cls.length ≤ 1000) (h2 : p.rows.length ≤ 1000) (h3 : p.ents.length ≤ 1000) : (planRoom p w rm).length ≤ 100000 := by
 have hN := planN_eq p hp.2.2
 have hofl : (ofS p.cls).length = 6 + p.cls.length * 2 := by unfold ofS; simp [twos_len]; omega
 have hrl : (rowsL (planN p) p.rows).length ≤ 1000 * 22 := by rw [rowsL_len]; exact Nat.mul_le_mul h2 (by omega)
 have hel := entsB_len w p.ents
 unfold planRoom
 simp
 omega
end Go.Sw
end
section
set_option maxRecDepth 100000
set_option linter.unusedVariables false
namespace Go.Sw
noncomputable section
end
end Go.Sw
end
section
namespace Go.Sw
open Go.RowKit
variable {σ : Type}
def DoOk (k : Nat) (m : Mach) (H0 : Heap) (W : σ → List It) (Inv : σ → Prop) (a : Value) (g : σ → Int → En → σ) : Prop :=
 ∀ s i e H X, Inv s → Star H0 H (W s ++ X) → 0 ≤ i → i < 2 ^ 50 → e ∈ m.ents →
  ∃ v H', callV (R (T k)) a [.int .i64 i, encE e] H = .ok v H' ∧ Star H0 H' (W (g s i e) ++ X) ∧ Inv (g s i e)
theorem plain_ok (k : Nat) {m : Mach} {H0 : Heap} {W : σ → List It} {Inv : σ → Prop} {a : Value} {g : σ → Int → En → σ} (h : DoOk k m H0 W Inv a g) (p : Nat) :
  ActOk k m H0 (fun s => W s ++ [itBlk p ⟨[a], 1, false⟩]) Inv (.func (.func F.drive_Plain_in1) #[] #[ptrV p]) (fun s i e => (g s i e, i, i + 1)) := by
 intro s i e H X hI st h0 h1 he
 have st2 := st.push ⟨encEn e, 1, false⟩
 have hp := st2.memBlk (c := p) (k := ⟨[a], 1, false⟩) (by simp)
 have hpn : ¬ p = H.n := by have := Heap.get_lt (st.memBlk (c := p) (k := ⟨[a], 1, false⟩) (by simp)); omega
 obtain ⟨v, H', e1, st3, hI2⟩ := h s i e (H.push ⟨encEn e, 1, false⟩) ([itBlk p ⟨[a], 1, false⟩] ++ X ++ [itBlk H.n ⟨encEn e, 1, false⟩]) hI (by simpa [List.append_assoc] using st2) h0 h1 he
 have st4 : Star H0 H' (W (g s i e) ++ [itBlk p ⟨[a], 1, false⟩] ++ X) := by
  have : W (g s i e) ++ ([itBlk p ⟨[a], 1, false⟩] ++ X ++ [itBlk H.n ⟨encEn e, 1, false⟩]) = (W (g s i e) ++ [itBlk p ⟨[a], 1, false⟩] ++ X) ++ [itBlk H.n ⟨encEn e, 1, false⟩] := by simp
  rw [this] at st3
  exact st3.drop_last
 refine ⟨H', ?_, st4, hI2, by dsimp only; omega, by dsimp only; omega⟩
 simp only [callV, List.nil_append, List.cons_append]
 rw [drive_Plain_in1_R, nrm_of]
 simp -implicitDefEqProofs (disch := omega) [drive_Plain_in1, hp, hpn, e1]
end Go.Sw
end
section
namespace Go.Sw
open Go.RowKit Go.Proofs
set_option maxRecDepth 20000 in
theorem catch_short (p : Addr) (b : Bool) (w : World) (hc : (w.alloc (.cells #[] 233)).cell? p = some (.bool b)) (hz : (w.alloc (.cells #[] 233)).frozen? p = false) :
  CallsD Prog 160 #[.pointer (some p)] (.panicking [{ v := .iface 233 (.agg #[]), recovered := false }]) w fun e u' w' =>
   e = .returned (.tuple #[]) ∧ u' = .panicking [{ v := .iface 233 (.agg #[]), recovered := true }] ∧ w' = (w.alloc (.cells #[] 233)).setCell p (.bool false) := by
 refine callsD_of_wpS Try.func160 rfl fun c₀ cs hu => ?_
 apply wpS_seq
 apply wpS_region
 simp [wpOpsS, go_sem, recoverD, hu, Try.ntmps160, Exit.thenS]
 have hta : ∀ w, (Instr.typeAssert (.iface 233 (.agg #[])) 20 233 true).run Prog w = .ok (.tuple #[.agg #[], .bool true]) w := fun w => by kernel_rfl
 refine wpS_of_wp ?_
 go_wp2
 cases c₀
 simp_all [bodyPostS, results, Try.results160]
theorem catch_idle (p : Addr) (w : World) :
  CallsD Prog 160 #[.pointer (some p)] .returning w fun e u' w' => e = .returned (.tuple #[]) ∧ u' = .returning ∧ w' = w := by
 refine callsD_of_wpS Try.func160 rfl fun c₀ cs hu => ?_
 apply wpS_seq
 apply wpS_region
 simp [wpOpsS, go_sem, recoverD, hu, Try.ntmps160, Exit.thenS]
 refine wpS_of_wp ?_
 go_wp2
 cases c₀
 simp_all [bodyPostS, results, Try.results160]
set_option maxRecDepth 20000 in
theorem try_walk (g : FuncId) (first cap : Array Value) (w : World) (R : Ending → World → Prop)
  (hcf : (callFunc g (first ++ cap)).run Prog (w.alloc (.cells #[.bool false] 4)) = .ok (.enter g (first ++ cap)) (w.alloc (.cells #[.bool false] 4)))
  (hcall : Calls Prog g (first ++ cap) (w.alloc (.cells #[.bool false] 4)) fun e w' => match e with
   | .returned _ => w'.heap[w.heap.size]? = some (.cells #[.bool false] 4 (0, 0)) ∧ R (.returned (.bool true)) (w'.setCell ⟨w.heap.size, 0, none⟩ (.bool true))
   | .panicked chain => chain = [{ v := .iface 233 (.agg #[]), recovered := false }] ∧ w'.heap[w.heap.size]? = some (.cells #[.bool false] 4 (0, 0)) ∧ R (.returned (.bool false)) ((w'.alloc (.cells #[] 233)).setCell ⟨w.heap.size, 0, none⟩ (.bool false))
   | .outgrown => False) :
  Calls Prog 77 #[.func (.func g) first cap] w R := by
 have hmf : ∀ (fn : Fn) (first cap : Array Value) (w : World), (Instr.makeFunc fn first cap).run Prog w = .ok (.func fn first cap) w := fun _ _ _ _ => rfl
 go_enter_defers Try.func77, Try.ntmps77
 go_wp2
 rename_i K2 hK2 K1 hK1
 refine hcall.mono fun e w' he => ?_
 cases e with
 | returned v =>
  obtain ⟨h1, h2⟩ := he
  have hc : w'.cell? ⟨w.heap.size, 0, none⟩ = some (.bool false) := by simp [World.cell?, h1]
  have hz : w'.frozen? ⟨w.heap.size, 0, none⟩ = false := by simp [World.frozen?, h1]
  apply hK1
  apply hK2
  go_wp2
  have hc2 : (w'.setCell ⟨w.heap.size, 0, none⟩ (.bool true)).cell? ⟨w.heap.size, 0, none⟩ = some (.bool true) := World.cell?_setCell_same _ _ _ hc
  refine leaves_cons (f := 160) (args := #[.pointer (some ⟨w.heap.size, 0, none⟩)]) (by simp) (by simp [go_sem]) ?_
  refine (catch_idle ⟨w.heap.size, 0, none⟩ _).mono ?_
  rintro e u' w'' ⟨rfl, rfl, rfl⟩
  simp [Leaves, settle, results, Try.results77, go_sem, hc2]
  exact h2
 | panicked chain =>
  obtain ⟨h0, h1, h2⟩ := he
  subst h0
  have hlt : w.heap.size < w'.heap.size := by
   rcases Nat.lt_or_ge w.heap.size w'.heap.size with h | h
   ·exact h
   ·rw [Array.getElem?_eq_none h] at h1; cases h1
  have h3 : (w'.alloc (.cells #[] 233)).heap[w.heap.size]? = some (.cells #[.bool false] 4 (0, 0)) := by
   rw [heap_alloc_lt _ _ _ hlt]; exact h1
  have hc : (w'.alloc (.cells #[] 233)).cell? ⟨w.heap.size, 0, none⟩ = some (.bool false) := by simp only [World.cell?, h3]; rfl
  have hz : (w'.alloc (.cells #[] 233)).frozen? ⟨w.heap.size, 0, none⟩ = false := by simp [World.frozen?, h3]
  have hc2 : ((w'.alloc (.cells #[] 233)).setCell ⟨w.heap.size, 0, none⟩ (.bool false)).cell? ⟨w.heap.size, 0, none⟩ = some (.bool false) := World.cell?_setCell_same _ _ _ hc
  show Leaves _ _ _ _ _ _ _
  refine leaves_cons (f := 160) (args := #[.pointer (some ⟨w.heap.size, 0, none⟩)]) (by simp) (by simp [go_sem]) ?_
  refine (catch_short ⟨w.heap.size, 0, none⟩ false _ hc hz).mono ?_
  rintro e u' w'' ⟨rfl, rfl, rfl⟩
  simp [Leaves, settle, results, Try.results77, go_sem, hc2]
  exact h2
 | outgrown => exact he.elim
theorem try_is : SpIs Prog 77 (tryV 233) := try_of (bt := 4) Try.func77 rfl (by kernel_rfl) try_walk
end Go.Sw
end
section
namespace Go.Sw
open Go.RowKit
def cV (o : Option CTab) : Value := match o with | some t => ctxV t | none => .pointer none
theorem cV_flat (o : Option CTab) : Flat (cV o) := by
 cases o with
 | none => exact .nilPtr
 | some t => exact Flat.ctx t
theorem ctx_in1_run (k : Nat) (hk : k < 1000000) {H : Heap} (b : List Int) (hb : Byt b) (g : Int) (hg : 1 ≤ g ∧ g ≤ 65535) (hl : b.length < 2 ^ 31) (p2 p3 p4 : Nat) (old : Value)
  (h2 : H.get p2 = some ⟨[lv encB b], 1, false⟩) (h3 : H.get p3 = some ⟨[.int .i64 g], 1, false⟩) (h4 : H.get p4 = some ⟨[old], 1, false⟩) :
  R (T k) F.ctx_Read_in1 [ptrV p2, ptrV p3, ptrV p4] H = match ctxS b g with
   | some t => .ok (.tuple #[]) (H.set p4 (some ⟨[ctxV t], 1, false⟩))
   | none => .panic failV H := by
 rw [ctx_Read_in1_R]
 have ht := ctxTake_run k hk b hb g hg hl H
 have ho := fun H => Of_lv k b H
 cases h : ctxS b g with
 | none =>
  rw [h] at ht
  refine nrm_throw ⟨H, ?_, Ext.refl H⟩ Flat.fail.alive
  simp -implicitDefEqProofs (disch := omega) [ctx_Read_in1, h2, h3, ho, ht]
 | some x =>
  rw [h] at ht
  simp -implicitDefEqProofs (disch := omega) [ctx_Read_in1, h2, h3, h4, ho, ht]
theorem ctxRead_run (k : Nat) (hk : k < 1000000) (b : List Int) (hb : Byt b) (g : Int) (hg : 1 ≤ g ∧ g ≤ 65535) (hl : b.length < 2 ^ 31) (H : Heap) :
  R (T k) F.ctx_Read [lv encB b, .int .i64 g] H = .ok (.tuple #[cV (ctxS b g), .int .i64 (if (ctxS b g).isSome then 0 else 2)]) H := by
 rw [ctx_Read_R]
 have c1 : ¬ g < 1 := by omega
 have c2 : ¬ g > 65535 := by omega
 have hx2 := ((Ext.refl H).push ⟨[lv encB b], 1, false⟩).push ⟨[.int .i64 g], 1, false⟩
 have al : ∀ o n, Alive H (.tuple #[cV o, .int .i64 n]) := fun o n => (Flat.tupleL (l := [cV o, .int .i64 n]) (.cons (cV_flat o) (.cons (.int _ _) .nil))).alive
 have fz : ∀ H' o n, fzV H.n H' fzDepth (.tuple #[cV o, .int .i64 n]) = some (.tuple #[cV o, .int .i64 n], []) := fun H' o n => by
  cases o <;> rfl
 have hin := ctx_in1_run k hk (H := ((H.push ⟨[lv encB b], 1, false⟩).push ⟨[.int .i64 g], 1, false⟩).push ⟨[.pointer none], 1, false⟩) b hb g hg hl H.n (H.n + 1) (H.n + 2) (.pointer none) (by simp) (by simp) (by simp)
 cases hc : ctxS b g with
 | none =>
  rw [hc] at hin
  have ht := Try_no k F.ctx_Read_in1 #[ptrV H.n, ptrV (H.n + 1), ptrV (H.n + 2)] hin
  refine nrm_fz (H' := ((H.push ⟨[lv encB b], 1, false⟩).push ⟨[.int .i64 g], 1, false⟩).push ⟨[.pointer none], 1, false⟩) (v := .tuple #[cV none, .int .i64 2]) ?_ (fz _ _ _) (hx2.push _) (al _ _)
  simp -implicitDefEqProofs (disch := omega) [ctx_Read, c1, c2, ht, cV]
 | some x =>
  rw [hc] at hin
  have ht := Try_ok k F.ctx_Read_in1 #[ptrV H.n, ptrV (H.n + 1), ptrV (H.n + 2)] hin
  refine nrm_fz (H' := ((H.push ⟨[lv encB b], 1, false⟩).push ⟨[.int .i64 g], 1, false⟩).push ⟨[ctxV x], 1, false⟩) (v := .tuple #[cV (some x), .int .i64 0]) ?_ (fz _ _ _) (hx2.push _) (al _ _)
  simp at ht
  simp -implicitDefEqProofs (disch := omega) [ctx_Read, c1, c2, ht, cV]
structure CTab.ok (t : CTab) : Prop where
 m : t.m.ok
 subs : ∀ x, x ∈ t.subs → (∀ p, p ∈ x.2 → p.ok) ∧ risesS x.2 = true ∧ x.2.length < 2 ^ 31
 has : ∀ e, e ∈ t.m.ents → (e.a = 65535 ∨ e.a < t.subs.length) ∧ (e.b = 65535 ∨ e.b < t.subs.length)
theorem many_has : ∀ (es : List En) (c : Int), c ≤ es.foldl manyE c ∧ ∀ e, e ∈ es → (e.a = 65535 ∨ e.a < es.foldl manyE c) ∧ (e.b = 65535 ∨ e.b < es.foldl manyE c)
 | [], c => ⟨Int.le_refl _, fun e he => by cases he⟩
 | x :: es, c => by
  have ih := many_has es (manyE c x)
  have hx : c ≤ manyE c x ∧ (x.a = 65535 ∨ x.a < manyE c x) ∧ (x.b = 65535 ∨ x.b < manyE c x) := by
   unfold manyE
   dsimp only
   split <;> split <;> omega
  simp only [List.foldl_cons]
  refine ⟨by omega, fun e he => ?_⟩
  rcases List.mem_cons.1 he with rfl | he
  ·omega
  ·exact ih.2 e he
theorem ctxS_ok {b : List Int} (hb : Byt b) (hl : b.length < 2 ^ 31) {g : Int} (hg : 1 ≤ g ∧ g ≤ 65535) {t : CTab} (h : ctxS b g = some t) : t.ok := by
 unfold ctxS at h
 obtain ⟨m, hm, h⟩ := Option.bind_eq_some_iff.1 h
 obtain ⟨p, hp, h⟩ := Option.bind_eq_some_iff.1 h
 obtain ⟨sb, hsb, h⟩ := Option.bind_eq_some_iff.1 h
 obtain ⟨subs, hs, rfl⟩ := Option.map_eq_some_iff.1 h
 have hok := machS_ok hb hg.1 hg.2 (by omega) hm
 have lsb := restS_len hsb
 refine ⟨hok, fun x hx => ?_, fun e he => ?_⟩
 ·obtain ⟨i, hi⟩ := List.getElem?_of_mem hx
  obtain ⟨j, _, hj⟩ := mapO_get hs hi
  unfold subS at hj
  obtain ⟨p, _, hj⟩ := Option.bind_eq_some_iff.1 hj
  obtain ⟨tb, htb, hj⟩ := Option.bind_eq_some_iff.1 hj
  have ltb := restS_len htb
  have ok1 := lookS_ok ((hb.rest hsb).rest htb) hg.1 hg.2 (.inl rfl) hj
  exact ⟨ok1.2.1, ok1.2.2, lookS_len ((hb.rest hsb).rest htb) hj⟩
 ·have hes : ∀ e, e ∈ m.ents → 0 ≤ e.a ∧ e.a < 65536 ∧ 0 ≤ e.b ∧ e.b < 65536 := fun e he => by have := hok.ent e he; omega
  have h1 := (many_has m.ents 0).2 e he
  have h2 := manyS_bound hes
  have h3 := subsS_len hs
  have h4 : manyS m.ents = m.ents.foldl manyE 0 := rfl
  dsimp only
  omega
def swapC (t : CTab) (l : List Gl) (i w : Int) : List Gl :=
 if w = 65535 then l else match atG l i with
 | some g => match (t.subs[w.toNat]?).bind fun x => getS x.2 g.id with
  | some id => setG l i id
  | none => l
 | none => l
@[simp] theorem swapC_len (t : CTab) (l : List Gl) (i w : Int) : (swapC t l i w).length = l.length := by
 unfold swapC
 split
 ·rfl
 ·split
  ·split <;> simp
  ·rfl
theorem ctxSwap_star (k : Nat) (t : CTab) (ht : t.ok) {H0 H : Heap} {L : List It} (h : Star H0 H L) (i : Nat) {c : Nat} {o : Option Nat} {l : List Gl} (hi : L[i]? = some (itLine c o l)) (j w : Int) (hw : w = 65535 ∨ 0 ≤ w ∧ w < t.subs.length) :
  ∃ v H', R (T k) F.ctx_Table_swap [ctxV t, ptrV c, .int .i64 j, .int .i64 w] H = .ok v H' ∧ Star H0 H' (L.set i (itLine c o (swapC t l j w))) := by
 have hat := lineAt_run k h i hi j
 have same : L.set i (itLine c o l) = L := by
  obtain ⟨hlt, hx⟩ := List.getElem?_eq_some_iff.1 hi
  rw [← hx, List.set_getElem_self]
 suffices hs : ∃ v H', ctx_Table_swap k (R (T k)) (ctxV t) (ptrV c) (.int .i64 j) (.int .i64 w) H = .ok v H' ∧ Star H0 H' (L.set i (itLine c o (swapC t l j w))) by
  obtain ⟨v, H', e, g⟩ := hs
  exact ⟨v, H', by rw [ctx_Table_swap_R]; exact nrm_of e, g⟩
 unfold swapC
 cases ha : atG l j with
 | none =>
  rw [ha] at hat
  unfold encA at hat
  simp at hat
  refine ⟨.tuple #[], _, ?_, by simp only [ite_self]; rw [same]; exact h.rest ((Ext.refl _).push ⟨[.int .i64 0, .int .i64 0], 1, false⟩)⟩
  by_cases hw0 : w = 65535
  ·simp -implicitDefEqProofs (disch := omega) [ctx_Table_swap, hat, hw0]
  ·have hw1 : (w == 65535) = false := by simpa using hw0
   simp -implicitDefEqProofs (disch := omega) [ctx_Table_swap, hat, hw0, hw1]
 | some g =>
  rw [ha] at hat
  unfold encA at hat
  simp at hat
  by_cases hw0 : w = 65535
  ·rw [if_pos hw0, same]
   refine ⟨.tuple #[], _, ?_, h.rest ((Ext.refl _).push ⟨encG g, 1, false⟩)⟩
   simp -implicitDefEqProofs (disch := omega) [ctx_Table_swap, hat, hw0]
  rw [if_neg hw0]
  have hw1 : (w == 65535) = false := by simpa using hw0
  obtain ⟨n, rfl⟩ := Int.eq_ofNat_of_zero_le (show 0 ≤ w by omega)
  obtain ⟨x, hx⟩ : ∃ x, t.subs[n]? = some x := ⟨_, List.getElem?_eq_getElem (by omega)⟩
  have i1 := fun H' => ixS_lvN encT_len t.subs .i64 n x hx H'
  have xo := ht.subs x (List.mem_of_getElem? hx)
  have hget := fun H' => Get_run k x xo.1 xo.2.1 g.id xo.2.2 H'
  dsimp only
  rw [Int.toNat_natCast, hx, Option.bind_some]
  have h2 := h.rest ((Ext.refl _).push ⟨encG g, 1, false⟩)
  cases hg : getS x.2 g.id with
  | none =>
   rw [hg] at hget
   simp at hget
   rw [same]
   refine ⟨.tuple #[], _, ?_, h2⟩
   simp -implicitDefEqProofs (disch := omega) [ctx_Table_swap, hat, hw1, i1, hget]
  | some id =>
   rw [hg] at hget
   simp at hget
   obtain ⟨H2, e2, h3⟩ := lineSet_star k h2 i hi j id
   refine ⟨.tuple #[], H2, ?_, h3⟩
   simp -implicitDefEqProofs (disch := omega) [ctx_Table_swap, hat, hw1, i1, hget, e2]
end Go.Sw
end
section
namespace Go.Sw
open Go.RowKit
end Go.Sw
end
section
namespace Go.Sw
open Go.RowKit
variable {σ : Type}
theorem clsS_over (m : Mach) (l : List Gl) (j : Nat) : (clsS m l j).2 = decide (l.length ≤ j) := by
 unfold clsS atG
 by_cases h2 : (j : Int) < l.length
 ·obtain ⟨g, hg⟩ : ∃ g, l[j]? = some g := ⟨_, List.getElem?_eq_getElem (by omega)⟩
  rw [if_pos ⟨by omega, h2⟩, Int.toNat_natCast, hg, decide_eq_false (by omega)]
 ·rw [if_neg (fun hc => h2 hc.2), decide_eq_true (by omega)]
theorem runD_go (m : Mach) (ln : σ → List Gl) (f : σ → Int → En → σ × Int × Int) (most : Int) (len : Nat) (hmost : (len : Int) < most) (P : Nat → σ → Int → Prop) (hlen : ∀ j s st, P j s st → (ln s).length = len)
  (hgo : ∀ (j : Nat) s st, j ≤ len → P j s st → ¬ (entS m (ln s) ⟨st, j, j, 0⟩).flags / 16384 % 2 = 1 ∧ (f s j (entS m (ln s) ⟨st, j, j, 0⟩)).2.2 = (j : Int) + 1 ∧ (j < len → P (j + 1) (f s j (entS m (ln s) ⟨st, j, j, 0⟩)).1 (entS m (ln s) ⟨st, j, j, 0⟩).next)) :
  ∀ (c j n : Nat) (z : Int) (s : σ) (st : Int), z = j → len = j + c → c < n → P j s st → ∃ s' st', P len s' st' ∧ runD m ln f most n (s, ⟨st, z, z, 0⟩) = ((len : Int) + 1, 0, (f s' len (entS m (ln s') ⟨st', len, len, 0⟩)).1)
 | c, j, 0, z, s, st, _, _, h, _ => by omega
 | 0, j, n + 1, z, s, st, hz, hj, hn, hP => by
  subst hz
  obtain ⟨g1, g2, _⟩ := hgo j s st (by omega) hP
  have hl := hlen j s st hP
  have hjl : j = len := by omega
  subst hjl
  refine ⟨s, st, hP, ?_⟩
  unfold runD
  rw [if_pos (by dsimp only; omega)]
  unfold stepD
  dsimp only
  rw [if_neg g1, clsS_over, hl, decide_eq_true (Nat.le_refl _)]
  rfl
 | c + 1, j, n + 1, z, s, st, hz, hj, hn, hP => by
  subst hz
  obtain ⟨g1, g2, g3⟩ := hgo j s st (by omega) hP
  have hl := hlen j s st hP
  have ih := runD_go m ln f most len hmost P hlen hgo c (j + 1) n _ _ _ rfl (by omega) (by omega) (g3 (by omega))
  unfold runD
  rw [if_pos (by dsimp only; omega)]
  unfold stepD
  dsimp only
  rw [if_neg g1, clsS_over, hl, decide_eq_false (by omega), g2]
  simp only [Bool.false_eq_true, if_false]
  rw [if_neg (by decide), show max ((j : Int) + 1) 0 = ((j + 1 : Nat) : Int) by omega, show (j : Int) + 1 = ((j + 1 : Nat) : Int) by omega]
  exact ih
end Go.Sw
end
section
namespace Go.Sw
open Go.RowKit
theorem flat_piece {z : Nat} {rs : List (List Int)} (h : ∀ r, r ∈ rs → r.length = z) (x : List Int) {i : Nat} {r : List Int} (hi : rs[i]? = some r) : pieceS (rs.flatten ++ x) ((z * i : Nat) : Int) z = some r := by
 have hlt := (List.getElem?_eq_some_iff.1 hi).1
 have hl := flat_len h
 have hm : (i + 1) * z ≤ rs.length * z := Nat.mul_le_mul_right _ hlt
 rw [Nat.add_mul, Nat.one_mul, Nat.mul_comm i z] at hm
 have hc := flat_cut h i hlt
 rw [hi] at hc
 injection hc with hc
 generalize z * i = k at hm hc ⊢
 unfold pieceS
 rw [if_pos ⟨by omega, by omega, by rw [List.length_append]; omega, by rw [List.length_append]; omega⟩]
 rw [Int.toNat_natCast, Int.toNat_natCast, List.drop_append_of_le_length (by omega), List.take_append_of_le_length (by rw [List.length_drop]; omega), ← hc]
def lksB (subs : List (List Int)) : List Int := (subs.map ofS).flatten
def offsL (subs : List (List Int)) : List (List Int) := (List.range subs.length).map fun j => bytesOf (4 * subs.length + (lksB (subs.take j)).length : Int) 4
def offsB (subs : List (List Int)) : List Int := (offsL subs).flatten
theorem offsL_len (subs : List (List Int)) : (offsL subs).length = subs.length := by simp [offsL]
theorem offsL_four (subs : List (List Int)) : ∀ r, r ∈ offsL subs → r.length = 4 := fun r hr => by
 obtain ⟨j, _, rfl⟩ := List.mem_map.1 hr
 exact bytesOf_len _ _
theorem offsB_len (subs : List (List Int)) : (offsB subs).length = subs.length * 4 := by unfold offsB; rw [flat_len (offsL_four subs), offsL_len]
theorem ofS_len (s : List Int) : (ofS s).length = 6 + s.length * 2 := by unfold ofS; simp [twos_len]; omega
theorem lksB_le : ∀ (subs : List (List Int)), (∀ s, s ∈ subs → s.length ≤ 60) → (lksB subs).length ≤ subs.length * 126
 | [], _ => by simp [lksB]
 | s :: subs, h => by
  have ih := lksB_le subs fun x hx => h x (by simp [hx])
  have := h s (by simp)
  have hs := ofS_len s
  unfold lksB at ih ⊢
  simp only [List.map_cons, List.flatten_cons, List.length_append, List.length_cons]
  omega
theorem lksB_split (subs : List (List Int)) {j : Nat} {s : List Int} (hj : subs[j]? = some s) : lksB subs = lksB (subs.take j) ++ (ofS s ++ lksB (subs.drop (j + 1))) := by
 have hlt := (List.getElem?_eq_some_iff.1 hj).1
 have e : subs = subs.take j ++ (s :: subs.drop (j + 1)) := by
  rw [← (List.getElem?_eq_some_iff.1 hj).2, ← List.drop_eq_getElem_cons hlt, List.take_append_drop]
 unfold lksB
 conv => lhs; rw [e]
 simp
theorem lksB_take_le (subs : List (List Int)) (j : Nat) : (lksB (subs.take j)).length ≤ (lksB subs).length := by
 have : lksB subs = lksB (subs.take j) ++ lksB (subs.drop j) := by
  unfold lksB
  rw [← List.flatten_append, ← List.map_append, List.take_append_drop]
 rw [this]
 simp
theorem sub_written (subs : List (List Int)) (hs : ∀ s, s ∈ subs → s.length ≤ 60 ∧ ∀ x, x ∈ s → 0 ≤ x ∧ x < 65536) (hn : subs.length ≤ 1000) (g : Int) {j : Nat} {s : List Int} (hj : subs[j]? = some s) :
  subS (offsB subs ++ lksB subs) g j = some (tabOf s) := by
 have hlt := (List.getElem?_eq_some_iff.1 hj).1
 have hl := offsB_len subs
 have hL := lksB_le subs fun s h => (hs s h).1
 have hT := lksB_take_le subs j
 have hjL : (offsL subs)[j]? = some (bytesOf (4 * subs.length + (lksB (subs.take j)).length : Int) 4) := by
  unfold offsL
  rw [List.getElem?_map, List.getElem?_range hlt]
  rfl
 have hp : pieceS ((offsL subs).flatten ++ lksB subs) ((4 * j : Nat) : Int) 4 = some (bytesOf (4 * subs.length + (lksB (subs.take j)).length : Int) 4) := flat_piece (offsL_four subs) (lksB subs) hjL
 unfold subS uS
 rw [show (4 * (j : Int)) = ((4 * j : Nat) : Int) by omega, show offsB subs = (offsL subs).flatten from rfl, hp, Option.map_some, Option.bind_some, num_bytesOf (by omega) (by omega)]
 have hr : restS ((offsL subs).flatten ++ lksB subs) (4 * subs.length + (lksB (subs.take j)).length : Int) = some (ofS s ++ lksB (subs.drop (j + 1))) := by
  rw [show (offsL subs).flatten = offsB subs from rfl]
  unfold restS
  rw [lksB_split subs hj]
  rw [if_pos ⟨by omega, by simp; omega⟩]
  congr 1
  rw [show (4 * (subs.length : Int) + ((lksB (subs.take j)).length : Int)).toNat = (offsB subs).length + (lksB (subs.take j)).length by omega]
  rw [← List.append_assoc, show (offsB subs).length + (lksB (subs.take j)).length = (offsB subs ++ lksB (subs.take j)).length by simp, List.drop_left]
 rw [hr, Option.bind_some]
 have hsm := hs s (List.mem_of_getElem? hj)
 exact look_ofS s hsm.2 (by omega) _ g
def ctxBytes (p : Plan) (subs : List (List Int)) : List Int := planRoom p 2 (bytesOf ((planRoom p 2 (List.replicate 4 0)).length : Int) 4) ++ (offsB subs ++ lksB subs)
theorem planRoom_size (p : Plan) (w : Int) (rm rm' : List Int) (h : rm.length = rm'.length) : (planRoom p w rm).length = (planRoom p w rm').length := by
 unfold planRoom
 simp [h]
theorem ctx_parts (p : Plan) (hp : p.ok) (h1 : p.cls.length ≤ 1000) (h2 : p.rows.length ≤ 1000) (h3 : p.ents.length ≤ 1000) (subs : List (List Int)) :
  uS (ctxBytes p subs) 16 4 = some ((planRoom p 2 (List.replicate 4 0)).length : Int) ∧ restS (ctxBytes p subs) ((planRoom p 2 (List.replicate 4 0)).length : Int) = some (offsB subs ++ lksB subs) := by
 have hl := planRoom_len hp 2 (rm := List.replicate 4 0) (by simp) h1 h2 h3
 have hsz : (planRoom p 2 (bytesOf ((planRoom p 2 (List.replicate 4 0)).length : Int) 4)).length = (planRoom p 2 (List.replicate 4 0)).length := planRoom_size p 2 _ _ (by simp)
 unfold ctxBytes
 generalize (planRoom p 2 (List.replicate 4 0)).length = N at hl hsz ⊢
 constructor
 ·unfold planRoom
  have := uS_at (bytesOf (planN p : Int) 4 ++ (bytesOf (16 + (bytesOf (N : Int) 4).length : Int) 4 ++ (bytesOf (16 + (bytesOf (N : Int) 4).length + (ofS p.cls).length : Int) 4 ++ bytesOf (16 + (bytesOf (N : Int) 4).length + (ofS p.cls).length + (rowsL (planN p) p.rows).length : Int) 4)))
   ((ofS p.cls ++ (rowsL (planN p) p.rows ++ entsB 2 p.ents)) ++ (offsB subs ++ lksB subs)) (n := (N : Int)) (k := 4) 16 4 (by simp) rfl (by omega) (by omega)
  simpa only [List.append_assoc] using this
 ·unfold restS
  rw [if_pos ⟨by omega, by rw [List.length_append]; omega⟩]
  congr 1
  rw [Int.toNat_natCast]
  conv => lhs; rw [← hsz]
  exact List.drop_left
theorem get_nil (g : Int) : getS ([] : List Pt) g = none := rfl
theorem tab_get (s : List Int) (id : Int) : getS (tabOf s).2 id = if 0 ≤ id then s[id.toNat]? else none := by
 unfold tabOf
 by_cases hc : s = []
 ·subst hc; simp [get_nil]
 ·rw [if_neg hc]
  have hpos : 0 < s.length := List.length_pos_iff.2 hc
  unfold getS
  by_cases h1 : id ≤ (s.length : Int) - 1
  ·rw [show ([(⟨0, (s.length : Int) - 1, s⟩ : Pt)]).find? (fun p => decide (id ≤ p.last)) = some ⟨0, (s.length : Int) - 1, s⟩ by simp [List.find?, h1], Option.bind_some]
   by_cases h0 : 0 ≤ id
   ·rw [if_pos h0, if_pos h0]
    unfold Pt.num
    dsimp only
    rw [show (min (id - 0) ((s.length : Int) - 1)).toNat = id.toNat by omega]
   ·rw [if_neg h0, if_neg h0]
  ·rw [show ([(⟨0, (s.length : Int) - 1, s⟩ : Pt)]).find? (fun p => decide (id ≤ p.last)) = none by simp [List.find?, h1]]
   by_cases h0 : 0 ≤ id
   ·rw [if_pos h0, List.getElem?_eq_none (by omega)]; rfl
   ·rw [if_neg h0]; rfl
end Go.Sw
end
section
set_option maxRecDepth 100000
set_option linter.unusedVariables false
namespace Go.Sw
noncomputable section
def swashlaw15_CtxSwap_l1 (k : Nat) (call : Caller) : Env → Heap → Res (AExit × Env) := loopB (C k) call F.swashlaw15_CtxSwap [1, 1, 1, 1, 1, 1, 1, 1, 0, 1, 0, 0]
def swashlaw15_CtxSwap_l1k (k : Nat) (call : Caller) : Kont Value := kBlock 0 (kSeq (pieceK (C k) call F.swashlaw15_CtxSwap [1, 1, 1, 1, 1, 1, 1, 1, 1]) (kDone Prog (resOf Prog F.swashlaw15_CtxSwap)))
def swashlaw15_CtxSwap_j1 (k : Nat) (call : Caller) (a0 a1 a8 a9 a10 a11 a49 a50 a51 : Value) (h : Heap) : Res (AExit × Env) :=
 kSeq (pieceK (C k) call F.swashlaw15_CtxSwap [1, 1, 1, 1, 1, 1, 1, 1, 0, 1, 0, 0, 1, 1, 0, 0, 1, 1, 1]) (kBlock 1 (kSeq (pieceK (C k) call F.swashlaw15_CtxSwap [1, 1, 1, 1, 1, 1, 1, 1, 0, 1, 0, 0, 1, 1, 1]) (kRound (ownOf (C k) F.swashlaw15_CtxSwap [1, 1, 1, 1, 1, 1, 1, 1, 0, 1, 0, 0])))) .normal [(0, a0), (1, a1), (8, a8), (9, a9), (10, a10), (11, a11), (49, a49), (50, a50), (51, a51)] h
def swashlaw15_CtxSwap_j2 (k : Nat) (call : Caller) (a0 a1 a8 a9 a10 a11 a49 a50 a51 a67 : Value) (h : Heap) : Res (AExit × Env) :=
 kSeq (pieceK (C k) call F.swashlaw15_CtxSwap [1, 1, 1, 1, 1, 1, 1, 1, 0, 1, 0, 0, 1, 1, 0, 0, 1, 1, 1]) (kBlock 1 (kSeq (pieceK (C k) call F.swashlaw15_CtxSwap [1, 1, 1, 1, 1, 1, 1, 1, 0, 1, 0, 0, 1, 1, 1]) (kRound (ownOf (C k) F.swashlaw15_CtxSwap [1, 1, 1, 1, 1, 1, 1, 1, 0, 1, 0, 0])))) .normal [(0, a0), (1, a1), (8, a8), (9, a9), (10, a10), (11, a11), (49, a49), (50, a50), (51, a51), (67, a67)] h
def swashlaw15_CtxSwap (k : Nat) (call : Caller) (a0 a1 : Value) (h : Heap) : Res Value :=
 (call F.swashlaw15_speaks [] h).bind fun v1 h2 =>
 (unR .not v1 h2).bind fun v3 h4 =>
 condV (some v3) (
 .ok (.bool false) h4)
 (
 (builtinV Prog .len [156] [a0] h4).bind fun v5 h6 =>
 (binR Prog .gtr 3 v5 (.int .i64 60) h6).bind fun v7 h8 =>
 ((bif wantVal v7 false then Res.ok a1 h8 else Res.ok undef h8)).bind fun v9 h10 =>
 ((bif wantVal v7 false then builtinV Prog .len [28] [v9] h10 else Res.ok undef h10)).bind fun v11 h12 =>
 ((bif wantVal v7 false then binR Prog .gtr 3 v11 (.int .i64 60) h12 else Res.ok undef h12)).bind fun v13 h14 =>
 (condV (some v7) (Res.ok (.bool true) h14) (Res.ok v13 h14)).bind fun v15 h16 =>
 condV (some v15) (
 .ok (.bool true) h16)
 (
 (buildSliceR Prog 65 1 [(0, (.int .u8 0))] h16).bind fun v17 h18 =>
 (buildSliceR Prog 65 1 [(0, (.int .u8 0))] h18).bind fun v19 h20 =>
 (buildSliceR Prog 143 2 [(0, v17), (1, v19)] h20).bind fun v21 h22 =>
 (buildR Prog 150 [(2, (.int .i64 65535)), (3, (.int .i64 0))] h22).bind fun v23 h24 =>
 (buildSliceR Prog 144 1 [(0, v23)] h24).bind fun v25 h26 =>
 (buildR Prog 146 [(1, v21), (2, v25)] h26).bind fun v27 h28 =>
 (allocR Prog 146 h28).bind fun v29 h30 =>
 (storeR Prog 146 v29 v27 h30).bind fun _v31 h32 =>
 (loadR Prog 146 v29 h32).bind fun v33 h34 =>
 (buildSliceR Prog 188 1 [(0, a0)] h34).bind fun v35 h36 =>
 (call F.swashlaw15_Write [v33, v35] h36).bind fun v37 h38 =>
 (call F.ctx_Read [v37, (.int .i64 40)] h38).bind fun v39 h40 =>
 (extractR v39 0 h40).bind fun v41 h42 =>
 (extractR v39 1 h42).bind fun v43 h44 =>
 (binR Prog .neq 69 v43 (.int .i64 0) h44).bind fun v45 h46 =>
 ((bif wantVal v45 false then Res.ok v41 h46 else Res.ok undef h46)).bind fun v47 h48 =>
 ((bif wantVal v45 false then binR Prog .eql 193 v47 (.pointer none) h48 else Res.ok undef h48)).bind fun v49 h50 =>
 (condV (some v45) (Res.ok (.bool true) h50) (Res.ok v49 h50)).bind fun v51 h52 =>
 condV (some v51) (
 .ok (.bool false) h52)
 (
 (call F.line_New [a1] h52).bind fun v53 h54 =>
 (call F.ctx_Table_Run [v41, v53] h54).bind fun v55 h56 =>
 (binR Prog .neq 69 v55 (.int .i64 0) h56).bind fun v57 h58 =>
 condV (some v57) (
 .ok (.bool false) h58)
 (
 (call F.line_Line_Glyphs [v53] h58).bind fun v59 h60 =>
 (builtinV Prog .len [50] [v59] h60).bind fun v61 h62 =>
 (loopN (swashlaw15_CtxSwap_l1 k call) loopFuel [(0, a0), (1, a1), (8, v53), (49, v59), (50, v61), (51, (.int .i64 0))] h62).bind fun r63 h64 =>
 swashlaw15_CtxSwap_l1k k call r63.1 r63.2 h64))))
theorem swashlaw15_CtxSwap_R (k : Nat) (a0 a1 : Value) (h : Heap) : R (T k) F.swashlaw15_CtxSwap [a0, a1] h = nrm .gc h (swashlaw15_CtxSwap k (R (T k)) a0 a1 h) :=
 (R_body (t := T k) (T_scott k) (by kernel_rfl) (by kernel_rfl) _ _).trans (by kernel_rfl)
theorem swashlaw15_CtxSwap_l1_eq (k : Nat) (call : Caller) (a0 a1 a8 a49 a50 a51 : Value) (h : Heap) : swashlaw15_CtxSwap_l1 k call [(0, a0), (1, a1), (8, a8), (49, a49), (50, a50), (51, a51)] h =
 (binR Prog .lss 3 a51 a50 h).bind fun v65 h66 =>
 condV (some v65) (
 (indexAddrR Prog 50 a49 a51 h66).bind fun v67 h68 =>
 (loadR Prog 55 v67 h68).bind fun v69 h70 =>
 (allocR Prog 55 h70).bind fun v71 h72 =>
 (storeR Prog 55 v71 v69 h72).bind fun _v73 h74 =>
 (indexAddrR Prog 28 a1 a51 h74).bind fun v75 h76 =>
 (loadR Prog 3 v75 h76).bind fun v77 h78 =>
 (binR Prog .geq 3 v77 (.int .i64 0) h78).bind fun v79 h80 =>
 ((bif wantVal v79 true then Res.ok v77 h80 else Res.ok undef h80)).bind fun v81 h82 =>
 ((bif wantVal v79 true then Res.ok a0 h82 else Res.ok undef h82)).bind fun v83 h84 =>
 ((bif wantVal v79 true then builtinV Prog .len [156] [v83] h84 else Res.ok undef h84)).bind fun v85 h86 =>
 ((bif wantVal v79 true then binR Prog .lss 3 v81 v85 h86 else Res.ok undef h86)).bind fun v87 h88 =>
 (condV (some v79) (Res.ok v87 h88) (Res.ok (.bool false) h88)).bind fun v89 h90 =>
 condV (some v89) (
 (indexAddrR Prog 156 a0 v77 h90).bind fun v91 h92 =>
 (loadR Prog 62 v91 h92).bind fun v93 h94 =>
 (convR Prog 62 3 v93 h94).bind fun v95 h96 =>
 swashlaw15_CtxSwap_j1 k call a0 a1 a8 a51 v71 v95 a49 a50 a51 h96)
 (
 swashlaw15_CtxSwap_j2 k call a0 a1 a8 a51 v71 v77 a49 a50 a51 v89 h90))
 (
 .ok ((.exit 0), [(0, a0), (1, a1), (8, a8), (49, a49), (50, a50), (51, a51), (52, v65)]) h66) :=
 (loopB_eq _ _).trans (by kernel_rfl)
theorem swashlaw15_CtxSwap_j1_eq (k : Nat) (call : Caller) (a0 a1 a8 a9 a10 a11 a49 a50 a51 : Value) (h : Heap) : swashlaw15_CtxSwap_j1 k call a0 a1 a8 a9 a10 a11 a49 a50 a51 h =
 (fieldAddrR Prog 55 a10 0 h).bind fun v97 h98 =>
 (loadR Prog 3 v97 h98).bind fun v99 h100 =>
 (binR Prog .neq 3 v99 a11 h100).bind fun v101 h102 =>
 ((bif wantVal v101 false then fieldAddrR Prog 55 a10 1 h102 else Res.ok undef h102)).bind fun v103 h104 =>
 ((bif wantVal v101 false then loadR Prog 3 v103 h104 else Res.ok undef h104)).bind fun v105 h106 =>
 ((bif wantVal v101 false then Res.ok a9 h106 else Res.ok undef h106)).bind fun v107 h108 =>
 ((bif wantVal v101 false then binR Prog .neq 3 v105 v107 h108 else Res.ok undef h108)).bind fun v109 h110 =>
 (condV (some v101) (Res.ok (.bool true) h110) (Res.ok v109 h110)).bind fun v111 h112 =>
 condV (some v111) (
 .ok (.ret, [(4, (.bool false))]) h112)
 (
 (binR Prog .add 3 a51 (.int .i64 1) h112).bind fun v113 h114 =>
 .ok (.normal, [(0, a0), (1, a1), (8, a8), (49, a49), (50, a50), (51, v113)]) h114) := by kernel_rfl
theorem swashlaw15_CtxSwap_j2_eq (k : Nat) (call : Caller) (a0 a1 a8 a9 a10 a11 a49 a50 a51 a67 : Value) (h : Heap) : swashlaw15_CtxSwap_j2 k call a0 a1 a8 a9 a10 a11 a49 a50 a51 a67 h =
 (fieldAddrR Prog 55 a10 0 h).bind fun v115 h116 =>
 (loadR Prog 3 v115 h116).bind fun v117 h118 =>
 (binR Prog .neq 3 v117 a11 h118).bind fun v119 h120 =>
 ((bif wantVal v119 false then fieldAddrR Prog 55 a10 1 h120 else Res.ok undef h120)).bind fun v121 h122 =>
 ((bif wantVal v119 false then loadR Prog 3 v121 h122 else Res.ok undef h122)).bind fun v123 h124 =>
 ((bif wantVal v119 false then Res.ok a9 h124 else Res.ok undef h124)).bind fun v125 h126 =>
 ((bif wantVal v119 false then binR Prog .neq 3 v123 v125 h126 else Res.ok undef h126)).bind fun v127 h128 =>
 (condV (some v119) (Res.ok (.bool true) h128) (Res.ok v127 h128)).bind fun v129 h130 =>
 condV (some v129) (
 .ok (.ret, [(4, (.bool false))]) h130)
 (
 (binR Prog .add 3 a51 (.int .i64 1) h130).bind fun v131 h132 =>
 .ok (.normal, [(0, a0), (1, a1), (8, a8), (49, a49), (50, a50), (51, v131)]) h132) := by kernel_rfl
theorem swashlaw15_CtxSwap_l1k_x0 (k : Nat) (call : Caller) (a0 a1 a8 a49 a50 a51 a52 : Value) (h : Heap) : swashlaw15_CtxSwap_l1k k call (.exit 0) [(0, a0), (1, a1), (8, a8), (49, a49), (50, a50), (51, a51), (52, a52)] h =
 (call F.line_Line_Len [a8] h).bind fun v133 h134 =>
 (builtinV Prog .len [28] [a1] h134).bind fun v135 h136 =>
 (binR Prog .eql 3 v133 v135 h136).bind fun v137 h138 =>
 .ok v137 h138 := by kernel_rfl
def swashlaw15_Write_l1 (k : Nat) (call : Caller) : Env → Heap → Res (AExit × Env) := loopB (C k) call F.swashlaw15_Write [1, 1, 1, 1, 0, 1, 0, 0]
def swashlaw15_Write_l1k (k : Nat) (call : Caller) : Kont Value := kBlock 0 (kSeq (pieceK (C k) call F.swashlaw15_Write [1, 1, 1, 1, 1]) (kDone Prog (resOf Prog F.swashlaw15_Write)))
def swashlaw15_Write_l2 (k : Nat) (call : Caller) : Env → Heap → Res (AExit × Env) := loopB (C k) call F.swashlaw15_Write [1, 1, 1, 1, 0, 1, 0, 0, 1, 1, 0, 0, 1, 1, 1, 1, 0, 0]
def swashlaw15_Write_l2k (k : Nat) (call : Caller) : Kont (AExit × Env) := kBlock 2 (kBlock 1 (kSeq (pieceK (C k) call F.swashlaw15_Write [1, 1, 1, 1, 0, 1, 0, 0, 1, 1, 1]) (kRound (ownOf (C k) F.swashlaw15_Write [1, 1, 1, 1, 0, 1, 0, 0]))))
def swashlaw15_Write (k : Nat) (call : Caller) (a0 a1 : Value) (h : Heap) : Res Value :=
 (boxR a0 h).bind fun v1 h2 =>
 (loadR Prog 146 v1 h2).bind fun v3 h4 =>
 (call F.swashlaw07_Write [v3, (.int .i64 2), (.int .i64 4)] h4).bind fun v5 h6 =>
 (builtinV Prog .len [65] [v5] h6).bind fun v7 h8 =>
 (builtinV Prog .len [188] [a1] h8).bind fun v9 h10 =>
 (loopN (swashlaw15_Write_l1 k call) loopFuel [(1, a1), (5, v5), (6, v7), (7, (.slice none 0 0)), (16, a1), (17, v9), (18, (.int .i64 0))] h10).bind fun r11 h12 =>
 swashlaw15_Write_l1k k call r11.1 r11.2 h12
theorem swashlaw15_Write_R (k : Nat) (a0 a1 : Value) (h : Heap) : R (T k) F.swashlaw15_Write [a0, a1] h = nrm .fz h (swashlaw15_Write k (R (T k)) a0 a1 h) :=
 (R_body (t := T k) (T_scott k) (by kernel_rfl) (by kernel_rfl) _ _).trans (by kernel_rfl)
theorem swashlaw15_Write_l1_eq (k : Nat) (call : Caller) (a1 a5 a6 a7 a16 a17 a18 : Value) (h : Heap) : swashlaw15_Write_l1 k call [(1, a1), (5, a5), (6, a6), (7, a7), (16, a16), (17, a17), (18, a18)] h =
 (binR Prog .lss 3 a18 a17 h).bind fun v13 h14 =>
 condV (some v13) (
 (indexAddrR Prog 188 a16 a18 h14).bind fun v15 h16 =>
 (loadR Prog 156 v15 h16).bind fun v17 h18 =>
 (builtinV Prog .len [188] [a1] h18).bind fun v19 h20 =>
 (binR Prog .mul 3 (.int .i64 4) v19 h20).bind fun v21 h22 =>
 (builtinV Prog .len [65] [a7] h22).bind fun v23 h24 =>
 (binR Prog .add 3 v21 v23 h24).bind fun v25 h26 =>
 (call F.swashref02_Put [a5, v25, (.int .i64 4)] h26).bind fun v27 h28 =>
 (call F.swashref02_Put [a7, (.int .i64 8), (.int .i64 2)] h28).bind fun v29 h30 =>
 (call F.swashref02_Put [v29, (.int .i64 0), (.int .i64 2)] h30).bind fun v31 h32 =>
 (builtinV Prog .len [156] [v17] h32).bind fun v33 h34 =>
 (call F.swashref02_Put [v31, v33, (.int .i64 2)] h34).bind fun v35 h36 =>
 (builtinV Prog .len [156] [v17] h36).bind fun v37 h38 =>
 (loopN (swashlaw15_Write_l2 k call) loopFuel [(1, a1), (5, v27), (6, a6), (7, v35), (16, a16), (17, a17), (18, a18), (36, v17), (37, v37), (38, (.int .i64 0))] h38).bind fun r39 h40 =>
 swashlaw15_Write_l2k k call r39.1 r39.2 h40)
 (
 .ok ((.exit 0), [(1, a1), (5, a5), (6, a6), (7, a7), (16, a16), (17, a17), (18, a18), (19, v13)]) h14) :=
 (loopB_eq _ _).trans (by kernel_rfl)
theorem swashlaw15_Write_l2_eq (k : Nat) (call : Caller) (a1 a5 a6 a7 a16 a17 a18 a36 a37 a38 : Value) (h : Heap) : swashlaw15_Write_l2 k call [(1, a1), (5, a5), (6, a6), (7, a7), (16, a16), (17, a17), (18, a18), (36, a36), (37, a37), (38, a38)] h =
 (binR Prog .lss 3 a38 a37 h).bind fun v41 h42 =>
 condV (some v41) (
 (indexAddrR Prog 156 a36 a38 h42).bind fun v43 h44 =>
 (loadR Prog 62 v43 h44).bind fun v45 h46 =>
 (convR Prog 62 3 v45 h46).bind fun v47 h48 =>
 (call F.swashref02_Put [a7, v47, (.int .i64 2)] h48).bind fun v49 h50 =>
 (binR Prog .add 3 a38 (.int .i64 1) h50).bind fun v51 h52 =>
 .ok (.normal, [(1, a1), (5, a5), (6, a6), (7, v49), (16, a16), (17, a17), (18, a18), (36, a36), (37, a37), (38, v51)]) h52)
 (
 .ok ((.exit 2), [(1, a1), (5, a5), (6, a6), (7, a7), (16, a16), (17, a17), (18, a18), (36, a36), (37, a37), (38, a38), (39, v41)]) h42) :=
 (loopB_eq _ _).trans (by kernel_rfl)
theorem swashlaw15_Write_l1k_x0 (k : Nat) (call : Caller) (a1 a5 a6 a7 a16 a17 a18 a19 : Value) (h : Heap) : swashlaw15_Write_l1k k call (.exit 0) [(1, a1), (5, a5), (6, a6), (7, a7), (16, a16), (17, a17), (18, a18), (19, a19)] h =
 (sliceR Prog 65 a5 (some (.int .i64 16)) (some (.int .i64 20)) none h).bindN fun v53 h54 =>
 (call F.swashref02_Put [(.slice none 0 0), a6, (.int .i64 4)] h54).bindT (fun p57 h58 => .panic p57 h58) fun v55 h56 =>
 (builtinV Prog .copy [65, 65] [v53, v55] h56).bindN fun v59 h60 =>
 chkR ((okVal (sliceR Prog 65 a5 (some (.int .i64 16)) (some (.int .i64 20)) none h56) v53 && true) && true) (
 (builtinV Prog .append [65, 65] [a5, a7] h60).bind fun v61 h62 =>
 .ok v61 h62) := by kernel_rfl
theorem swashlaw15_Write_l2k_x2 (k : Nat) (call : Caller) (a1 a5 a6 a7 a16 a17 a18 a36 a37 a38 a39 : Value) (h : Heap) : swashlaw15_Write_l2k k call (.exit 2) [(1, a1), (5, a5), (6, a6), (7, a7), (16, a16), (17, a17), (18, a18), (36, a36), (37, a37), (38, a38), (39, a39)] h =
 (binR Prog .add 3 a18 (.int .i64 1) h).bind fun v63 h64 =>
 .ok (.normal, [(1, a1), (5, a5), (6, a6), (7, a7), (16, a16), (17, a17), (18, v63)]) h64 := by kernel_rfl
end
end Go.Sw
end
section
namespace Go.Sw
open Go.RowKit
abbrev encU2 (n : Int) : List Value := [.int .u16 n]
theorem encU2_len (n : Int) : (encU2 n).length = 1 := rfl
abbrev encSu (x : List Int × Value) : List Value := [x.2]
theorem encSu_len (x : List Int × Value) : (encSu x).length = 1 := rfl
theorem twos_take (s : List Int) {j : Nat} {x : Int} (h : s[j]? = some x) : twos (s.take (j + 1)) = twos (s.take j) ++ bytesOf x 2 := by rw [take_snoc h, twos_snoc]
theorem w15_l2 (k : Nat) {H0 H : Heap} {L : List It} (g : Star H0 H L) (i : Nat) {o : Option Nat} {s7 : Value} {lk : List Int} (hi : L[i]? = some (itRow o 1 s7 encB lk)) {v : Value} {s : List Int} (hv : Sl H0 1 v encU2 s) (hs : ∀ x, x ∈ s → 0 ≤ x ∧ x < 65536) (hl : lk.length + 2 * s.length < 2 ^ 29) (a1 a5 a6 a16 a17 a18 : Value) :
  ∃ s' o' zz H', loopN (swashlaw15_Write_l2 k (R (T k))) loopFuel [(1, a1), (5, a5), (6, a6), (7, s7), (16, a16), (17, a17), (18, a18), (36, v), (37, .int .i64 s.length), (38, .int .i64 0)] H =
   .ok (.exit 2, [(1, a1), (5, a5), (6, a6), (7, s'), (16, a16), (17, a17), (18, a18), (36, v), (37, .int .i64 s.length), (38, zz), (39, .bool false)]) H' ∧ Star H0 H' (L.set i (itRow o' 1 s' encB (lk ++ twos s))) := by
 have hlt := (List.getElem?_eq_some_iff.1 hi).1
 have same : L.set i (itRow o 1 s7 encB lk) = L := by
  obtain ⟨hlt, hx⟩ := List.getElem?_eq_some_iff.1 hi
  rw [← hx, List.set_getElem_self]
 obtain ⟨xx, e', H1, hr1, rfl, s', o', rfl, g1⟩ := loop_up (body := swashlaw15_Write_l2 k (R (T k))) s.length
  (fun j e H' => ∃ s' o', e = [(1, a1), (5, a5), (6, a6), (7, s'), (16, a16), (17, a17), (18, a18), (36, v), (37, .int .i64 s.length), (38, .int .i64 j)] ∧ Star H0 H' (L.set i (itRow o' 1 s' encB (lk ++ twos (s.take j)))))
  (fun xx e H' => xx = .exit 2 ∧ ∃ s' o', e = [(1, a1), (5, a5), (6, a6), (7, s'), (16, a16), (17, a17), (18, a18), (36, v), (37, .int .i64 s.length), (38, .int .i64 s.length), (39, .bool false)] ∧ Star H0 H' (L.set i (itRow o' 1 s' encB (lk ++ twos s))))
  (e0 := [(1, a1), (5, a5), (6, a6), (7, s7), (16, a16), (17, a17), (18, a18), (36, v), (37, .int .i64 s.length), (38, .int .i64 0)]) (H0 := H) ⟨s7, o, rfl, by simpa [twos, same] using g⟩ (by omega)
  (fun j e H' hj ⟨s', o', he, g⟩ => by
   subst he
   have hjl : (j : Int) < s.length := by omega
   obtain ⟨x, hx⟩ : ∃ x, s[j]? = some x := ⟨_, List.getElem?_eq_getElem hj⟩
   have hxb := hs x (List.mem_of_getElem? hx)
   obtain ⟨p, i1, i2⟩ := hv.ix1 encU2_len j x hx _ rfl
   have i2 := i2 H' g.ext
   have hself : (L.set i (itRow o' 1 s' encB (lk ++ twos (s.take j))))[i]? = some (itRow o' 1 s' encB (lk ++ twos (s.take j))) := List.getElem?_set_self hlt
   obtain ⟨s2, o2, H2, e2, g2⟩ := Put_star k g i hself x 2 2 rfl hxb.1 (by omega) (by omega) (by rw [List.length_append, twos_len, List.length_take]; omega)
   rw [List.set_set, List.append_assoc, ← twos_take s hx] at g2
   refine .inl ⟨_, H2, ?_, s2, o2, rfl, g2⟩
   rw [swashlaw15_Write_l2_eq]
   simp -implicitDefEqProofs (disch := omega) [hjl, i1, i2, e2])
  (fun e H' ⟨s', o', he, g⟩ => by
   subst he
   rw [List.take_length] at g
   refine ⟨.exit 2, _, H', ?_, by simp, rfl, s', o', rfl, g⟩
   rw [swashlaw15_Write_l2_eq]
   simp -implicitDefEqProofs)
 exact ⟨s', o', _, H1, hr1, g1⟩
theorem lksB_snoc (subs : List (List Int)) {j : Nat} {s : List Int} (h : subs[j]? = some s) : lksB (subs.take (j + 1)) = lksB (subs.take j) ++ ofS s := by
 rw [take_snoc h]
 simp [lksB]
theorem offs_snoc (subs : List (List Int)) {j : Nat} (h : j < subs.length) : ((offsL subs).take (j + 1)).flatten = ((offsL subs).take j).flatten ++ bytesOf (4 * subs.length + (lksB (subs.take j)).length : Int) 4 := by
 have : (offsL subs)[j]? = some (bytesOf (4 * subs.length + (lksB (subs.take j)).length : Int) 4) := by
  unfold offsL
  rw [List.getElem?_map, List.getElem?_range h]
  rfl
 rw [take_snoc this]
 simp
theorem planRoom_copy (p : Plan) (w : Int) (rm r x : List Int) (h : rm.length = r.length) : ((planRoom p w rm) ++ x).take 16 ++ (r ++ ((planRoom p w rm) ++ x).drop (16 + r.length)) = planRoom p w r ++ x := by
 have e : ∀ rm' : List Int, rm'.length = r.length → planRoom p w rm' ++ x = (bytesOf (planN p : Int) 4 ++ (bytesOf (16 + r.length : Int) 4 ++ (bytesOf (16 + r.length + (ofS p.cls).length : Int) 4 ++ bytesOf (16 + r.length + (ofS p.cls).length + (rowsL (planN p) p.rows).length : Int) 4))) ++ (rm' ++ ((ofS p.cls ++ (rowsL (planN p) p.rows ++ entsB w p.ents)) ++ x)) := fun rm' hr => by
  unfold planRoom
  rw [hr]
  simp only [List.append_assoc]
 rw [e rm h, e r rfl]
 generalize hA : (bytesOf (planN p : Int) 4 ++ (bytesOf (16 + r.length : Int) 4 ++ (bytesOf (16 + r.length + (ofS p.cls).length : Int) 4 ++ bytesOf (16 + r.length + (ofS p.cls).length + (rowsL (planN p) p.rows).length : Int) 4))) = A
 have hAl : A.length = 16 := by rw [← hA]; simp
 generalize ((ofS p.cls ++ (rowsL (planN p) p.rows ++ entsB w p.ents)) ++ x) = Z
 rw [← hAl, List.take_left, ← h]
 rw [show A ++ (rm ++ Z) = (A ++ rm) ++ Z by rw [List.append_assoc], show A.length + rm.length = (A ++ rm).length by simp, List.drop_left]
set_option maxHeartbeats 1000000 in
theorem ctxWrite_runG (k : Nat) (hW : ownW k = .no) (p : Plan) (hp : p.ok) (h1 : p.cls.length ≤ 1000) (h2 : p.rows.length ≤ 1000) (h3 : p.ents.length ≤ 1000) {H : Heap} {vC vR sE : Value} {rv : List (List Int × Value)} (hP : PlanSl H p vC vR sE rv)
  (subs : List (List Int × Value)) (hs : ∀ x, x ∈ subs → Sl H 1 x.2 encU2 x.1 ∧ x.1.length ≤ 60 ∧ ∀ n, n ∈ x.1 → 0 ≤ n ∧ n < 65536) (hn : subs.length ≤ 1000) {vS : Value} (hvS : Sl H 1 vS encSu subs) :
  R (T k) F.swashlaw15_Write [.agg #[vC, vR, sE, .int .u8 p.wide], vS] H = .ok (lv encB (ctxBytes p (subs.map Prod.fst))) H := by
 rw [swashlaw15_Write_R]
 obtain ⟨H1, hH1⟩ : ∃ H1, H1 = H.push ⟨[vC, vR, sE, .int .u8 p.wide], 1, false⟩ := ⟨_, rfl⟩
 have hx1 : Ext H H1 := by rw [hH1]; exact (Ext.refl H).push _
 have hg1 : H1.get H.n = some ⟨[vC, vR, sE, .int .u8 p.wide], 1, false⟩ := by rw [hH1]; exact get_push_eq _ _ _ rfl
 obtain ⟨N, hN⟩ : ∃ N, N = (planRoom p 2 (List.replicate 4 0)).length := ⟨_, rfl⟩
 have hNb : N ≤ 100000 := by rw [hN]; exact planRoom_len hp 2 (by simp) h1 h2 h3
 obtain ⟨fs, hfs⟩ : ∃ fs : List (List Int), fs = subs.map Prod.fst := ⟨_, rfl⟩
 have hfl : fs.length = subs.length := by rw [hfs]; simp
 have hfb : ∀ s, s ∈ fs → s.length ≤ 60 := fun s h => by
  rw [hfs] at h
  obtain ⟨x, hx, rfl⟩ := List.mem_map.1 h
  exact (hs x hx).2.1
 have hLk := lksB_le fs hfb
 have hLk2 := lksB_take_le fs
 have hol := offsB_len fs
 obtain ⟨s0, o0, J0, e0, g, _⟩ := Write_starG k hW p hp 2 (by omega) 4 (by omega) h1 h2 h3 (Star.nil H1) (hP.up hx1)
 rw [planBytes_room] at g
 simp only [List.nil_append] at g
 have hln0 : ∀ H', lnS s0 H' = .ok (.int .i64 N) H' := by rw [hN]; exact (g.row 0 rfl).len
 have hlnS : ∀ H', lnS vS H' = .ok (.int .i64 subs.length) H' := fun H' => hvS.len H'
 have g := g.more_row (Ext.refl _) (OwnO.nil encB _ 1) (fun b hb => by cases hb)
 simp only [List.cons_append, List.nil_append] at g
 obtain ⟨xx, e', J1, hr1, rfl, s5, s7, o5, o7, rfl, g⟩ := loop_up (body := swashlaw15_Write_l1 k (R (T k))) subs.length
  (fun j e H' => ∃ s5 s7 o5 o7, e = [(1, vS), (5, s5), (6, .int .i64 N), (7, s7), (16, vS), (17, .int .i64 subs.length), (18, .int .i64 j)] ∧ Star H1 H' [itRow o5 1 s5 encB (planRoom p 2 (List.replicate 4 0) ++ ((offsL fs).take j).flatten), itRow o7 1 s7 encB (lksB (fs.take j))])
  (fun xx e H' => xx = .exit 0 ∧ ∃ s5 s7 o5 o7, e = [(1, vS), (5, s5), (6, .int .i64 N), (7, s7), (16, vS), (17, .int .i64 subs.length), (18, .int .i64 subs.length), (19, .bool false)] ∧ Star H1 H' [itRow o5 1 s5 encB (planRoom p 2 (List.replicate 4 0) ++ offsB fs), itRow o7 1 s7 encB (lksB fs)])
  (e0 := [(1, vS), (5, s0), (6, .int .i64 N), (7, .slice none 0 0), (16, vS), (17, .int .i64 subs.length), (18, .int .i64 0)]) (H0 := J0) ⟨s0, _, o0, none, rfl, by simpa [lksB] using g⟩ (by omega)
  (fun j e H' hj ⟨s5, s7, o5, o7, he, g⟩ => by
   subst he
   have hjl : (j : Int) < subs.length := by omega
   obtain ⟨x, hx⟩ : ∃ x, subs[j]? = some x := ⟨_, List.getElem?_eq_getElem hj⟩
   have hxs := hs x (List.mem_of_getElem? hx)
   have hf : fs[j]? = some x.1 := by rw [hfs, List.getElem?_map, hx]; rfl
   obtain ⟨pt, i1, i2⟩ := (hvS.up hx1).ix1 encSu_len j x hx _ rfl
   have i2 := i2 H' g.ext
   have hlx : ∀ H', lnS x.2 H' = .ok (.int .i64 x.1.length) H' := fun H' => hxs.1.len H'
   have hlk := hLk2 j
   have hl7 : ∀ H', lnS s7 H' = .ok (.int .i64 (lksB (fs.take j)).length) H' := (g.row 1 rfl).len
   have hob : ((offsL fs).take j).flatten.length ≤ 4000 := by
    rw [flat_len (fun r hr => offsL_four fs r (List.mem_of_mem_take hr)), List.length_take, offsL_len]
    omega
   obtain ⟨t1, u1, J1, f1, g⟩ := Put_star k g 0 rfl (4 * fs.length + (lksB (fs.take j)).length) 4 4 rfl (by omega) (by omega) (by omega) (by rw [List.length_append]; omega)
   simp only [List.set_cons_zero, List.set_cons_succ] at g
   rw [List.append_assoc, ← offs_snoc fs (by omega)] at g
   obtain ⟨t2, u2, J2, f2, g⟩ := Put_star k g 1 rfl 8 2 2 rfl (by omega) (by omega) (by omega) (by omega)
   simp only [List.set_cons_zero, List.set_cons_succ] at g
   obtain ⟨t3, u3, J3, f3, g⟩ := Put_star k g 1 rfl 0 2 2 rfl (by omega) (by omega) (by omega) (by rw [List.length_append, bytesOf_len]; omega)
   simp only [List.set_cons_zero, List.set_cons_succ] at g
   obtain ⟨t4, u4, J4, f4, g⟩ := Put_star k g 1 rfl x.1.length 2 2 rfl (by omega) (by omega) (by omega) (by simp only [List.length_append, bytesOf_len]; omega)
   simp only [List.set_cons_zero, List.set_cons_succ] at g
   obtain ⟨t5, u5, zz, J5, f5, g⟩ := w15_l2 k g 1 rfl (hxs.1.up hx1) hxs.2.2 (by simp only [List.length_append, bytesOf_len]; omega) vS t1 (.int .i64 N) vS (.int .i64 subs.length) (.int .i64 j)
   simp only [List.set_cons_zero, List.set_cons_succ] at g
   have hsn : lksB (fs.take j) ++ bytesOf 8 2 ++ bytesOf 0 2 ++ bytesOf x.1.length 2 ++ twos x.1 = lksB (fs.take (j + 1)) := by
    rw [lksB_snoc fs hf]
    unfold ofS
    simp only [List.append_assoc]
   rw [hsn] at g
   rw [hfl] at f1
   refine .inl ⟨_, J5, ?_, t1, t5, u1, u5, rfl, g⟩
   rw [swashlaw15_Write_l1_eq]
   simp -implicitDefEqProofs (disch := omega) [hjl, i1, i2, hlnS, hl7, f1, f2, f3, hlx, f4, f5, swashlaw15_Write_l2k_x2])
  (fun e H' ⟨s5, s7, o5, o7, he, g⟩ => by
   subst he
   rw [List.take_of_length_le (by rw [offsL_len]; omega), List.take_of_length_le (by omega)] at g
   refine ⟨.exit 0, _, H', ?_, by simp, rfl, s5, s7, o5, o7, rfl, g⟩
   rw [swashlaw15_Write_l1_eq]
   simp -implicitDefEqProofs)
 -- where the lookups stand is told
 have hbl : (planRoom p 2 (List.replicate 4 0) ++ offsB fs).length = N + fs.length * 4 := by rw [List.length_append, hol, hN]
 have hN16 : 20 ≤ N := by rw [hN]; unfold planRoom; simp; omega
 obtain ⟨c5, rfl, hs5, cut1⟩ := g.cut1 0 rfl 16 4 (by omega) (by omega) .i64 .i64
 have g := g.more_row (Ext.refl _) (OwnO.nil encB _ 1) (fun b hb => by cases hb)
 simp only [List.cons_append, List.nil_append] at g
 obtain ⟨t6, u6, J6, f6, g⟩ := Put_star k g 2 rfl N 4 4 rfl (by omega) (by omega) (by omega) (by simp)
 simp only [List.set_cons_zero, List.set_cons_succ, List.nil_append] at g
 obtain ⟨c6, h6, _, cut2⟩ := g.cut1 0 rfl 16 4 (by omega) (by omega) .i64 .i64
 have h6 := Option.some.inj h6
 subst h6
 obtain ⟨J7, f7, g⟩ := g.copy1 0 2 rfl rfl 16 4 ((planRoom p 2 (List.replicate 4 0) ++ offsB fs).length - 16) (by simp) (by omega) (by omega)
 simp only [List.set_cons_zero] at g
 have hcopy := planRoom_copy p 2 (List.replicate 4 0) (bytesOf (N : Int) 4) (offsB fs) (by simp)
 rw [bytesOf_len] at hcopy
 rw [hcopy] at g
 have hrl : (planRoom p 2 (bytesOf (N : Int) 4)).length = N := by rw [hN]; exact planRoom_size p 2 _ _ (by simp)
 obtain ⟨t8, u8, J8, f8, g⟩ := g.appendRow (bytes := 1) 0 1 encB_len rfl rfl (by rw [List.length_append, hrl]; omega) (by decide)
 simp only [List.set_cons_zero, List.set_cons_succ] at g
 have hfin : planRoom p 2 (bytesOf (N : Int) 4) ++ offsB fs ++ lksB fs = ctxBytes p fs := by unfold ctxBytes; rw [← hN, List.append_assoc]
 rw [hfin] at g
 have hown : Own H J8 1 t8 encB (ctxBytes p fs) := (g.own 0 rfl).base hx1.n
 obtain ⟨L, hf⟩ := hown.freeze encB_len (fun n _ v hv => by simp at hv; subst hv; trivial) 6
 refine nrm_fz (v := t8) (H' := J8) ?_ (by rw [← hfs]; exact hf) (hx1.trans g.ext) (Flat.B _).alive
 have hv5 : veq (.slice (some ⟨c5, 16, none⟩) 4 ((planRoom p 2 (List.replicate 4 0) ++ offsB fs).length - 16)) (.slice (some ⟨c5, 16, none⟩) 4 ((planRoom p 2 (List.replicate 4 0) ++ offsB fs).length - 16)) = true := by simp
 generalize (planRoom p 2 (List.replicate 4 0) ++ offsB fs).length - 16 = cap at cut1 cut2 f7 hv5
 have cut1 : slS 1 s5 (some (.int .i64 16)) (some (.int .i64 20)) none J1 = .ok (.slice (some ⟨c5, 16, none⟩) 4 cap) J1 := cut1
 have cut2 : slS 1 s5 (some (.int .i64 16)) (some (.int .i64 20)) none J6 = .ok (.slice (some ⟨c5, 16, none⟩) 4 cap) J6 := cut2
 rw [hH1] at e0
 have e0 : R (T k) F.swashlaw07_Write [.agg #[vC, vR, sE, .int .u8 p.wide], .int .i64 2, .int .i64 4] (H.push ⟨[vC, vR, sE, .int .u8 p.wide], 1, false⟩) = .ok s0 J0 := e0
 simp -implicitDefEqProofs (disch := omega) [swashlaw15_Write, e0, hln0, hlnS, hr1, swashlaw15_Write_l1k_x0, cut1, f6, cut2, f7, hv5, f8]
end Go.Sw
end
section
namespace Go.Sw
open Go.RowKit
theorem and_two15 (n : Nat) : n &&& 2 ^ 15 = if n.testBit 15 then 2 ^ 15 else 0 := by
 apply Nat.eq_of_testBit_eq
 intro i
 rw [Nat.testBit_and, Nat.testBit_two_pow]
 by_cases h : 15 = i
 ·subst h
  cases hb : n.testBit 15 <;> simp <;> decide
 ·cases hb : n.testBit 15
  ·simp [h]
  ·simp only [h, decide_false, Bool.and_false, if_true, Nat.testBit_two_pow]
theorem and15 (P : Program) (t : TypeId) (H : Heap) {a : Int} (h0 : 0 ≤ a) (h1 : a < 65536) : binR P .and t (.int .i64 a) (.int .i64 32768) H = .ok (.int .i64 (if a ≥ 32768 then 32768 else 0)) H := by
 have e : (BitVec.ofInt 64 a &&& BitVec.ofInt 64 32768).toNat = (if a ≥ 32768 then 32768 else 0) := by
  rw [BitVec.toNat_and, BitVec.toNat_ofInt, BitVec.toNat_ofInt]
  rw [show ((32768 : Int) % ((2 ^ 64 : Nat) : Int)).toNat = 2 ^ 15 from by decide, and_two15, Nat.testBit_eq_decide_div_mod_eq]
  obtain ⟨n, rfl⟩ := Int.eq_ofNat_of_zero_le h0
  rw [show (((n : Int)) % ((2 ^ 64 : Nat) : Int)).toNat = n by omega]
  by_cases h : (n : Int) ≥ 32768
  ·rw [if_pos h, decide_eq_true (show n / 2 ^ 15 % 2 = 1 by omega)]; rfl
  ·rw [if_neg h, decide_eq_false (show ¬ n / 2 ^ 15 % 2 = 1 by omega)]; rfl
 have e1 : binV P .and t (.int .i64 a) (.int .i64 32768) = some (.int .i64 (IntKind.i64.wrap (BitVec.ofInt 64 a &&& BitVec.ofInt 64 32768).toNat)) := rfl
 unfold binR
 rw [e1, e]
 by_cases h : a ≥ 32768
 ·simp [h]
 ·simp [h]
def doC (t : CTab) (s : List Gl × Int) (i : Int) (e : En) : List Gl × Int :=
 (swapC t (swapC t s.1 s.2 e.a) i e.b, if e.flags ≥ 32768 ∧ i < (s.1.length : Int) then i else s.2)
def ctxW (t : CTab) (L : List It) (i c : Nat) (o : Option Nat) (p1 p3 pm : Nat) (s : List Gl × Int) : List It :=
 L.set i (itLine c o s.1) ++ [itBlk p1 ⟨[ctxV t], 1, false⟩, itBlk p3 ⟨[ptrV c], 1, false⟩, itBlk pm ⟨[.int .i64 s.2], 1, false⟩]
set_option maxHeartbeats 1000000 in
theorem ctx_do (k : Nat) (t : CTab) (ht : t.ok) (L : List It) (i c : Nat) (o : Option Nat) (hi : i < L.length) (p1 p3 pm n : Nat) {H0 : Heap} :
  DoOk k t.m H0 (ctxW t L i c o p1 p3 pm) (fun s => s.1.length = n) (.func (.func F.ctx_Table_Run_in1) #[] #[ptrV p1, ptrV p3, ptrV pm]) (doC t) := by
 intro s j e H X hI st h0 h1 he
 have hI2 : (swapC t (swapC t s.1 s.2 e.a) j e.b).length = n := by simpa using hI
 have heb := ht.m.ent e he
 have hhas := ht.has e he
 unfold ctxW at st ⊢
 have hline : ∀ (l : List Gl) (B : List It), (L.set i (itLine c o l) ++ B)[i]? = some (itLine c o l) := fun l B => by
  rw [List.getElem?_append_left (by simpa using hi), List.getElem?_set_self hi]
 have hset : ∀ (l l' : List Gl) (B : List It), (L.set i (itLine c o l) ++ B).set i (itLine c o l') = L.set i (itLine c o l') ++ B := fun l l' B => by
  rw [List.set_append_left _ _ (by simpa using hi), List.set_set]
 have st2 := st.push ⟨encEn e, 1, false⟩
 rw [List.append_assoc, List.append_assoc] at st2
 have g1 := st2.memBlk (c := p1) (k := ⟨[ctxV t], 1, false⟩) (by simp)
 have g3 := st2.memBlk (c := p3) (k := ⟨[ptrV c], 1, false⟩) (by simp)
 have gm := st2.memBlk (c := pm) (k := ⟨[.int .i64 s.2], 1, false⟩) (by simp)
 have ge := st2.memBlk (c := H.n) (k := ⟨encEn e, 1, false⟩) (by simp)
 obtain ⟨v1, H1, e1, st3⟩ := ctxSwap_star k t ht st2 i (hline s.1 _) s.2 e.a (by omega)
 rw [hset] at st3
 have f1 := st3.memBlk (c := p1) (k := ⟨[ctxV t], 1, false⟩) (by simp)
 have f3 := st3.memBlk (c := p3) (k := ⟨[ptrV c], 1, false⟩) (by simp)
 have fe := st3.memBlk (c := H.n) (k := ⟨encEn e, 1, false⟩) (by simp)
 obtain ⟨v2, H2, e2, st4⟩ := ctxSwap_star k t ht st3 i (hline _ _) j e.b (by omega)
 rw [hset] at st4
 have k3 := st4.memBlk (c := p3) (k := ⟨[ptrV c], 1, false⟩) (by simp)
 have ke := st4.memBlk (c := H.n) (k := ⟨encEn e, 1, false⟩) (by simp)
 have hlen := lineLen_run k st4 i (hline _ _)
 simp only [swapC_len] at hlen
 have han := fun H => and15 Prog 3 H heb.2.2.1 heb.2.2.2.1
 have fin : ∀ (H' : Heap) (M : Int), Star H0 H' (L.set i (itLine c o (swapC t (swapC t s.1 s.2 e.a) j e.b)) ++ ([itBlk p1 ⟨[ctxV t], 1, false⟩, itBlk p3 ⟨[ptrV c], 1, false⟩, itBlk pm ⟨[.int .i64 M], 1, false⟩] ++ (X ++ [itBlk H.n ⟨encEn e, 1, false⟩]))) →
   Star H0 H' (L.set i (itLine c o (swapC t (swapC t s.1 s.2 e.a) j e.b)) ++ [itBlk p1 ⟨[ctxV t], 1, false⟩, itBlk p3 ⟨[ptrV c], 1, false⟩, itBlk pm ⟨[.int .i64 M], 1, false⟩] ++ X) := fun H' M h => by
  rw [← List.append_assoc, ← List.append_assoc] at h
  exact h.drop_last
 by_cases hf : e.flags ≥ 32768
 ·rw [if_pos hf] at han
  by_cases hj : j < (s.1.length : Int)
  ·have hd : (doC t s j e).2 = j := by unfold doC; exact if_pos ⟨hf, hj⟩
   have hd1 : (doC t s j e).1 = swapC t (swapC t s.1 s.2 e.a) j e.b := rfl
   rw [hd, hd1]
   have hix : (L.set i (itLine c o (swapC t (swapC t s.1 s.2 e.a) j e.b)) ++ ([itBlk p1 ⟨[ctxV t], 1, false⟩, itBlk p3 ⟨[ptrV c], 1, false⟩, itBlk pm ⟨[.int .i64 s.2], 1, false⟩] ++ (X ++ [itBlk H.n ⟨encEn e, 1, false⟩]))) =
     (L.set i (itLine c o (swapC t (swapC t s.1 s.2 e.a) j e.b)) ++ [itBlk p1 ⟨[ctxV t], 1, false⟩, itBlk p3 ⟨[ptrV c], 1, false⟩]) ++ itBlk pm ⟨[.int .i64 s.2], 1, false⟩ :: (X ++ [itBlk H.n ⟨encEn e, 1, false⟩]) := by simp
   rw [hix] at st4
   obtain ⟨H3, e3, st5⟩ := st4.stEnd 0 (v := .int .i64 j) rfl rfl (by simp)
   simp only [List.set_cons_zero] at st5
   refine ⟨.tuple #[], H3, ?_, fin H3 j (by simpa using st5), hI2⟩
   simp only [callV, List.nil_append, List.cons_append]
   rw [ctx_Table_Run_in1_R, nrm_of]
   simp -implicitDefEqProofs (disch := omega) [-stR_ptr, ctx_Table_Run_in1, g1, g3, gm, ge, e1, f1, f3, fe, e2, k3, ke, han, bne, hlen, hj, e3]
  ·have hd : (doC t s j e).2 = s.2 := by unfold doC; exact if_neg fun h => hj h.2
   have hd1 : (doC t s j e).1 = swapC t (swapC t s.1 s.2 e.a) j e.b := rfl
   rw [hd, hd1]
   refine ⟨.tuple #[], H2, ?_, fin H2 s.2 st4, hI2⟩
   simp only [callV, List.nil_append, List.cons_append]
   rw [ctx_Table_Run_in1_R, nrm_of]
   simp -implicitDefEqProofs (disch := omega) [-stR_ptr, ctx_Table_Run_in1, g1, g3, gm, ge, e1, f1, f3, fe, e2, k3, ke, han, bne, hlen, hj]
 ·rw [if_neg hf] at han
  have hd : (doC t s j e).2 = s.2 := by unfold doC; exact if_neg fun h => hf h.1
  have hd1 : (doC t s j e).1 = swapC t (swapC t s.1 s.2 e.a) j e.b := rfl
  rw [hd, hd1]
  refine ⟨.tuple #[], H2, ?_, fin H2 s.2 st4, hI2⟩
  simp only [callV, List.nil_append, List.cons_append]
  rw [ctx_Table_Run_in1_R, nrm_of]
  simp -implicitDefEqProofs (disch := omega) [-stR_ptr, ctx_Table_Run_in1, g1, g3, gm, ge, e1, f1, f3, fe, e2, k3, ke, han, bne]
end Go.Sw
end
section
namespace Go.Sw
open Go.RowKit
theorem plainNew (k : Nat) (f : Fn) (a b : Array Value) (H : Heap) : R (T k) F.drive_Plain [.func f a b] H = .ok (.func (.func F.drive_Plain_in1) #[] #[ptrV H.n]) (H.push ⟨[.func f a b], 1, false⟩) := by
 rw [drive_Plain_R]
 have e : drive_Plain k (R (T k)) (.func f a b) H = .ok (.func (.func F.drive_Plain_in1) #[] #[ptrV H.n]) (H.push ⟨[.func f a b], 1, false⟩) := by
  simp -implicitDefEqProofs [drive_Plain]
 rw [e]
 have dead : ¬ Alive H (.func (.func F.drive_Plain_in1) #[] #[ptrV H.n]) := fun h => by
  cases h with
  | func fn xs ys h1 h2 =>
   have := h2 0 (ptrV H.n) rfl
   cases this with
   | ptr b off k hg => have := Heap.get_lt hg; omega
 unfold nrm
 exact if_neg fun hc => dead hc.2
end Go.Sw
end
section
namespace Go.Sw
open Go.RowKit
theorem veq_Ens (l : List En) : veq (lv encEn l) (lv encEn l) = true := veq_lv fun p _ v hv => by
 simp [encEn] at hv
 rcases hv with rfl | rfl | rfl | rfl <;> simp
theorem veq_Is (l : List Int) : veq (lv encI l) (lv encI l) = true := veq_lv fun p _ v hv => by
 simp [encI] at hv
 subst hv; simp
theorem veq_Rows (l : List (List Int)) : veq (lv encRow l) (lv encRow l) = true := veq_lv fun p _ v hv => by
 simp [encRow] at hv
 subst hv; exact veq_Is p
theorem veq_Ts (l : List (Int × List Pt)) : veq (lv encT l) (lv encT l) = true := veq_lv fun p _ v hv => by
 simp [encT] at hv
 subst hv; exact veq_tab p
theorem veq_mach (m : Mach) : veq (machV m) (machV m) = true := veq_boxV (l := [.int .i64 m.classes, tabV m.tab, lv encRow m.rows, lv encEn m.ents]) fun v hv => by
 simp at hv
 rcases hv with rfl | rfl | rfl | rfl
 ·simp
 ·exact veq_tab _
 ·exact veq_Rows _
 ·exact veq_Ens _
theorem veq_ctx (t : CTab) : veq (ctxV t) (ctxV t) = true := veq_boxV (l := ctxC t) fun v hv => by
 simp [ctxC] at hv
 rcases hv with rfl | rfl
 ·exact veq_mach _
 ·exact veq_Ts _
def runCr (t : CTab) (l : List Gl) : Int × Int × (List Gl × Int) :=
 runD t.m (fun s : List Gl × Int => s.1) (fun s i e => (doC t s i e, i, i + 1)) (2 * (l.length : Int) + 128) (2 * l.length + 128) ((l, -1), ⟨0, 0, 0, 0⟩)
def runC (t : CTab) (l : List Gl) : List Gl × Int := ((runCr t l).2.2.1, (runCr t l).2.1)
set_option maxHeartbeats 1000000 in
theorem ctxRun_star (k : Nat) (t : CTab) (ht : t.ok) {H0 H : Heap} {L : List It} (h : Star H0 H L) (i : Nat) {c : Nat} {o : Option Nat} {l : List Gl} (hi : L[i]? = some (itLine c o l)) (hl : l.length < 2 ^ 40) :
  ∃ H', R (T k) F.ctx_Table_Run [ctxV t, ptrV c] H = .ok (.int .i64 (runC t l).2) H' ∧ Star H0 H' (L.set i (itLine c o (runC t l).1)) ∧ (runC t l).1.length = l.length := by
 have hlt := (List.getElem?_eq_some_iff.1 hi).1
 have same : L.set i (itLine c o l) = L := by
  obtain ⟨hlt, hx⟩ := List.getElem?_eq_some_iff.1 hi
  rw [← hx, List.set_getElem_self]
 have st := ((h.push ⟨[ctxV t], 1, false⟩).push ⟨[ptrV c], 1, false⟩).push ⟨[.int .i64 (-1)], 1, false⟩
 simp only [hn_push] at st
 obtain ⟨H3, hH3⟩ : ∃ H3, H3 = ((H.push ⟨[ctxV t], 1, false⟩).push ⟨[ptrV c], 1, false⟩).push ⟨[.int .i64 (-1)], 1, false⟩ := ⟨_, rfl⟩
 rw [← hH3] at st
 have hn3 : H3.n = H.n + 3 := by rw [hH3]; simp
 have ePl := plainNew k (.func F.ctx_Table_Run_in1) #[] #[ptrV H.n, ptrV (H.n + 1), ptrV (H.n + 2)] H3
 have st4 := st.push ⟨[.func (.func F.ctx_Table_Run_in1) #[] #[ptrV H.n, ptrV (H.n + 1), ptrV (H.n + 2)]], 1, false⟩
 have g1 := st4.memBlk (c := H.n) (k := ⟨[ctxV t], 1, false⟩) (by simp)
 have g3 := st4.memBlk (c := H.n + 1) (k := ⟨[ptrV c], 1, false⟩) (by simp)
 have hact := plain_ok k (ctx_do k t ht L i c o hlt H.n (H.n + 1) (H.n + 2) l.length (H0 := H0)) H3.n
 obtain ⟨H5, eR, st5, hI5⟩ := driveRun_star k t.m ht.m (fun s : List Gl × Int => ctxW t L i c o H.n (H.n + 1) (H.n + 2) s ++ [itBlk H3.n ⟨[.func (.func F.ctx_Table_Run_in1) #[] #[ptrV H.n, ptrV (H.n + 1), ptrV (H.n + 2)]], 1, false⟩]) (fun s => s.1.length = l.length) (fun s => s.1) c
  (fun s => ⟨i, o, by
   unfold ctxW
   rw [List.append_assoc, List.getElem?_append_left (by simpa using hlt), List.getElem?_set_self hlt]⟩) _ _ hact [] (l, -1) rfl (by
   unfold ctxW
   rw [same]
   simpa [List.append_assoc] using st4) (by simpa using hl)
 refine ⟨H5, ?_, ?_, ?_⟩
 ·rw [ctx_Table_Run_R, nrm_of]
  have v1 := veq_ctx t
  have v2 := veq_mach t.m
  unfold runC
  dsimp only at eR ⊢
  have hr : runD t.m (fun s : List Gl × Int => s.1) (fun s i e => (doC t s i e, i, i + 1)) (2 * (l.length : Int) + 128) (2 * l.length + 128) ((l, -1), ⟨0, 0, 0, 0⟩) = runCr t l := by unfold runCr; rfl
  rw [hr] at eR
  generalize runCr t l = r at eR ⊢
  rw [hH3] at ePl eR g1 g3
  simp only [hn_push] at ePl eR
  simp -implicitDefEqProofs (disch := omega) [ctx_Table_Run, ePl, eR, v1, v2]
 ·unfold runC
  dsimp only at st5 ⊢
  have hr : runD t.m (fun s : List Gl × Int => s.1) (fun s i e => (doC t s i e, i, i + 1)) (2 * (l.length : Int) + 128) (2 * l.length + 128) ((l, -1), ⟨0, 0, 0, 0⟩) = runCr t l := by unfold runCr; rfl
  rw [hr] at st5
  generalize runCr t l = r at st5 ⊢
  unfold ctxW at st5
  have := st5.take L.length
  rw [List.append_assoc, List.append_assoc, List.take_append_of_le_length (by simp), List.take_of_length_le (by simp)] at this
  exact this
 ·unfold runC
  dsimp only at hI5 ⊢
  have hr : runD t.m (fun s : List Gl × Int => s.1) (fun s i e => (doC t s i e, i, i + 1)) (2 * (l.length : Int) + 128) (2 * l.length + 128) ((l, -1), ⟨0, 0, 0, 0⟩) = runCr t l := by unfold runCr; rfl
  rw [hr] at hI5
  exact hI5
end Go.Sw
end
section
namespace Go.Sw
open Go.RowKit
theorem speaks15_run (k : Nat) (hk : k % 1000000 = F.swashlaw15_speaks) (H : Heap) : R (T k) F.swashlaw15_speaks [] H = .ok (.bool true) H :=
 (R_sp (t := T k) (T_scott k) (s := constSp (.bool true)) (by unfold T C; dsimp only; rw [hk]; kernel_rfl) [] H).trans (nrm_gc (Pure.of rfl) (.bool _))
end Go.Sw
end
section
namespace Go.Sw
open Go.RowKit
end Go.Sw
end
section
set_option maxRecDepth 100000
set_option linter.unusedVariables false
namespace Go.Sw
noncomputable section
end
end Go.Sw
end
section
namespace Go.Sw
open Go.RowKit
end Go.Sw
end
section
namespace Go.Sw
open Go.RowKit
end Go.Sw
end
