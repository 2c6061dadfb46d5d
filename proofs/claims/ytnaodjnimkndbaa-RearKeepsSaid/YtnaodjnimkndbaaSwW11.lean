/-
  Functions' forms, and what is proved of them, part 11.
-/
import Derived.Test.YtnaodjnimkndbaaSwCfg
import Derived.Test.YtnaodjnimkndbaaSwW9
import Derived.Test.YtnaodjnimkndbaaSwW10
import Derived.Test.YtnaodjnimkndbaaSwW1
import Derived.Test.YtnaodjnimkndbaaSwLib8
import Derived.Eval
set_option linter.unusedSimpArgs false
set_option linter.unusedVariables false
set_option linter.unusedSectionVars false
section
set_option maxRecDepth 100000
set_option linter.unusedVariables false
namespace Go.Sw
noncomputable section
def ζ12 (k : Nat) (call : Caller) (a0 a1 : Value) (h : Heap) : Res Value :=
 (boxR a0 h).bind fun v1 h2 =>
 (call F.ζy [] h2).bind fun v3 h4 =>
 (unR .not v3 h4).bind fun v5 h6 =>
 condV (some v5) (
 .ok (.bool false) h6)
 (
 (loadR Prog 146 v1 h6).bind fun v7 h8 =>
 (call F.ζw [v7, a1] h8).bind fun v9 h10 =>
 (unR .not v9 h10).bind fun v11 h12 =>
 condV (some v11) (
 .ok (.bool true) h12)
 (
 (loadR Prog 146 v1 h12).bind fun v13 h14 =>
 (call F.ζ0 [v13, (.int .i64 0), (.int .i64 0)] h14).bind fun v15 h16 =>
 (call F.ζ7h [v15, (.int .i64 40)] h16).bind fun v17 h18 =>
 (extractR v17 0 h18).bind fun v19 h20 =>
 (extractR v17 1 h20).bind fun v21 h22 =>
 (call F.ζ7 [v15, (.int .i64 40), (.int .i64 0)] h22).bind fun v23 h24 =>
 (extractR v23 0 h24).bind fun v25 h26 =>
 (extractR v23 1 h26).bind fun v27 h28 =>
 (allocR Prog 137 h28).bind fun v29 h30 =>
 (storeR Prog 137 v29 v25 h30).bind fun _v31 h32 =>
 (unR .not v27 h32).bind fun v33 h34 =>
 condV (some v33) (
 (binR Prog .eql 69 v21 (.int .i64 2) h34).bind fun v35 h36 =>
 ((bif wantVal v35 true then Res.ok v19 h36 else Res.ok undef h36)).bind fun v37 h38 =>
 ((bif wantVal v35 true then binR Prog .eql 206 v37 (.pointer none) h38 else Res.ok undef h38)).bind fun v39 h40 =>
 (condV (some v35) (Res.ok v39 h40) (Res.ok (.bool false) h40)).bind fun v41 h42 =>
 .ok v41 h42)
 (
 (binR Prog .neq 69 v21 (.int .i64 0) h34).bind fun v43 h44 =>
 ((bif wantVal v43 false then Res.ok v19 h44 else Res.ok undef h44)).bind fun v45 h46 =>
 ((bif wantVal v43 false then binR Prog .eql 206 v45 (.pointer none) h46 else Res.ok undef h46)).bind fun v47 h48 =>
 (condV (some v43) (Res.ok (.bool true) h48) (Res.ok v47 h48)).bind fun v49 h50 =>
 condV (some v49) (
 .ok (.bool false) h50)
 (
 (call F.line_New [a1] h50).bind fun v51 h52 =>
 (call F.ζ2l [v19, v51] h52).bind fun v53 h54 =>
 (loadR Prog 137 v29 h54).bindN fun v55 h56 =>
 (call F.ζ1t [a1] h56).bindT (fun p59 h60 => .panic p59 h60) fun v57 h58 =>
 (call F.ζg [v55, v57] h58).bindT (fun p63 h64 => chkR ((okVal (loadR Prog 137 v29 h58) v55 && true) && true) (.panic p63 h64)) fun v61 h62 =>
 (extractR v61 0 h62).bindN fun v65 h66 =>
 (extractR v61 1 h66).bindN fun v67 h68 =>
 chkR ((okVal (loadR Prog 137 v29 h58) v55 && true) && true) (
 (binR Prog .eql 3 v53 v67 h68).bind fun v69 h70 =>
 ((bif wantVal v69 true then Res.ok v51 h70 else Res.ok undef h70)).bind fun v71 h72 =>
 ((bif wantVal v69 true then call F.ζ21 [v71] h72 else Res.ok undef h72)).bind fun v73 h74 =>
 ((bif wantVal v69 true then Res.ok v65 h74 else Res.ok undef h74)).bind fun v75 h76 =>
 ((bif wantVal v69 true then call F.ζ15 [v73, v75] h76 else Res.ok undef h76)).bind fun v77 h78 =>
 (condV (some v69) (Res.ok v77 h78) (Res.ok (.bool false) h78)).bind fun v79 h80 =>
 .ok v79 h80)))))
theorem ζam (k : Nat) (a0 a1 : Value) (h : Heap) : R (T k) F.ζ12 [a0, a1] h = nrm .gc h (ζ12 k (R (T k)) a0 a1 h) :=
 (R_body (t := T k) (T_scott k) (by kernel_rfl) (by kernel_rfl) _ _).trans (by kernel_rfl)
def ζ2w (k : Nat) (call : Caller) : Env → Heap → Res (AExit × Env) := loopB (C k) call F.ζk [1, 1, 1, 1, 1, 1, 1, 1, 1, 0, 1, 0, 0]
def ζ4j (k : Nat) (call : Caller) : Kont Value := kBlock 0 (kSeq (pieceK (C k) call F.ζk [1, 1, 1, 1, 1, 1, 1, 1, 1, 1]) (kDone Prog (resOf Prog F.ζk)))
def ζk (k : Nat) (call : Caller) (a0 a1 : Value) (h : Heap) : Res Value :=
 (boxR a0 h).bind fun v1 h2 =>
 (call F.ζy [] h2).bind fun v3 h4 =>
 (unR .not v3 h4).bind fun v5 h6 =>
 condV (some v5) (
 .ok (.bool false) h6)
 (
 (loadR Prog 146 v1 h6).bind fun v7 h8 =>
 (call F.ζw [v7, a1] h8).bind fun v9 h10 =>
 (unR .not v9 h10).bind fun v11 h12 =>
 condV (some v11) (
 .ok (.bool true) h12)
 (
 (loadR Prog 146 v1 h12).bind fun v13 h14 =>
 (call F.ζ0 [v13, (.int .i64 0), (.int .i64 0)] h14).bind fun v15 h16 =>
 (call F.ζ7h [v15, (.int .i64 40)] h16).bind fun v17 h18 =>
 (extractR v17 0 h18).bind fun v19 h20 =>
 (extractR v17 1 h20).bind fun v21 h22 =>
 (binR Prog .eql 206 v19 (.pointer none) h22).bind fun v23 h24 =>
 condV (some v23) (
 .ok (.bool true) h24)
 (
 (call F.line_New [a1] h24).bind fun v25 h26 =>
 (call F.ζ2l [v19, v25] h26).bind fun v27 h28 =>
 (call F.ζ21 [v25] h28).bind fun v29 h30 =>
 (builtinV Prog .len [28] [a1] h30).bind fun v31 h32 =>
 (makeSliceV Prog 210 v31 v31 h32).bind fun v33 h34 =>
 (builtinV Prog .len [50] [v29] h34).bind fun v35 h36 =>
 (loopN (ζ2w k call) loopFuel [(1, a1), (8, v29), (9, v33), (37, v29), (38, v35), (39, (.int .i64 0))] h36).bind fun r37 h38 =>
 ζ4j k call r37.1 r37.2 h38)))
theorem ζ9w (k : Nat) (a0 a1 : Value) (h : Heap) : R (T k) F.ζk [a0, a1] h = nrm .gc h (ζk k (R (T k)) a0 a1 h) :=
 (R_body (t := T k) (T_scott k) (by kernel_rfl) (by kernel_rfl) _ _).trans (by kernel_rfl)
theorem ζ3l (k : Nat) (call : Caller) (a1 a8 a9 a37 a38 a39 : Value) (h : Heap) : ζ2w k call [(1, a1), (8, a8), (9, a9), (37, a37), (38, a38), (39, a39)] h =
 (binR Prog .lss 3 a39 a38 h).bind fun v39 h40 =>
 condV (some v39) (
 (indexAddrR Prog 50 a37 a39 h40).bind fun v41 h42 =>
 (loadR Prog 55 v41 h42).bind fun v43 h44 =>
 (allocR Prog 55 h44).bind fun v45 h46 =>
 (storeR Prog 55 v45 v43 h46).bind fun _v47 h48 =>
 (fieldAddrR Prog 55 v45 1 h48).bind fun v49 h50 =>
 (loadR Prog 3 v49 h50).bind fun v51 h52 =>
 (binR Prog .lss 3 v51 (.int .i64 0) h52).bindN fun v53 h54 =>
 ((bif wantVal v53 false then Res.ok v51 h54 else Res.ok undef h54)).bindN fun v55 h56 =>
 ((bif wantVal v53 false then Res.ok a1 h56 else Res.ok undef h56)).bindN fun v57 h58 =>
 ((bif wantVal v53 false then builtinV Prog .len [28] [v57] h58 else Res.ok undef h58)).bindN fun v59 h60 =>
 ((bif wantVal v53 false then binR Prog .geq 3 v55 v59 h60 else Res.ok undef h60)).bindN fun v61 h62 =>
 (condV (some v53) (Res.ok (.bool true) h62) (Res.ok v61 h62)).bindN fun v63 h64 =>
 ((bif wantVal v63 false then Res.ok a9 h64 else Res.ok undef h64)).bindN fun v65 h66 =>
 ((bif wantVal v63 false then Res.ok v51 h66 else Res.ok undef h66)).bindN fun v67 h68 =>
 ((bif wantVal v63 false then indexAddrR Prog 210 v65 v67 h68 else Res.ok undef h68)).bindN fun v69 h70 =>
 ((bif wantVal v63 false then loadR Prog 4 v69 h70 else Res.ok undef h70)).bindN fun v71 h72 =>
 (condV (some v63) (Res.ok (.bool true) h72) (Res.ok v71 h72)).bindN fun v73 h74 =>
 ((bif wantVal v73 false then fieldAddrR Prog 55 v45 0 h74 else Res.ok undef h74)).bindN fun v75 h76 =>
 ((bif wantVal v73 false then loadR Prog 3 v75 h76 else Res.ok undef h76)).bindN fun v77 h78 =>
 ((bif wantVal v73 false then Res.ok a1 h78 else Res.ok undef h78)).bindN fun v79 h80 =>
 ((bif wantVal v73 false then Res.ok v51 h80 else Res.ok undef h80)).bindN fun v81 h82 =>
 ((bif wantVal v73 false then indexAddrR Prog 28 v79 v81 h82 else Res.ok undef h82)).bindN fun v83 h84 =>
 ((bif wantVal v73 false then loadR Prog 3 v83 h84 else Res.ok undef h84)).bindN fun v85 h86 =>
 ((bif wantVal v73 false then binR Prog .neq 3 v77 v85 h86 else Res.ok undef h86)).bindN fun v87 h88 =>
 (condV (some v73) (Res.ok (.bool true) h88) (Res.ok v87 h88)).bindN fun v89 h90 =>
 condV (some v89) (
 .ok (.ret, [(4, (.bool false))]) h90)
 (
 (indexAddrR Prog 210 a9 v51 h90).bind fun v91 h92 =>
 (storeR Prog 4 v91 (.bool true) h92).bind fun _v93 h94 =>
 (binR Prog .add 3 a39 (.int .i64 1) h94).bind fun v95 h96 =>
 .ok (.normal, [(1, a1), (8, a8), (9, a9), (37, a37), (38, a38), (39, v95)]) h96))
 (
 .ok ((.exit 0), [(1, a1), (8, a8), (9, a9), (37, a37), (38, a38), (39, a39), (40, v39)]) h40) :=
 (loopB_eq _ _).trans (by kernel_rfl)
theorem ζ7d (k : Nat) (call : Caller) (a1 a8 a9 a37 a38 a39 a40 : Value) (h : Heap) : ζ4j k call (.exit 0) [(1, a1), (8, a8), (9, a9), (37, a37), (38, a38), (39, a39), (40, a40)] h =
 (builtinV Prog .len [50] [a8] h).bind fun v97 h98 =>
 (builtinV Prog .len [28] [a1] h98).bind fun v99 h100 =>
 (binR Prog .eql 3 v97 v99 h100).bind fun v101 h102 =>
 .ok v101 h102 := by kernel_rfl
def ζw (k : Nat) (call : Caller) (a0 a1 : Value) (h : Heap) : Res Value :=
 (boxR a0 h).bind fun v1 h2 =>
 (fieldAddrR Prog 146 v1 0 h2).bind fun v3 h4 =>
 (loadR Prog 65 v3 h4).bind fun v5 h6 =>
 (builtinV Prog .len [65] [v5] h6).bind fun v7 h8 =>
 (binR Prog .leq 3 v7 (.int .i64 40) h8).bind fun v9 h10 =>
 ((bif wantVal v9 true then fieldAddrR Prog 146 v1 1 h10 else Res.ok undef h10)).bind fun v11 h12 =>
 ((bif wantVal v9 true then loadR Prog 143 v11 h12 else Res.ok undef h12)).bind fun v13 h14 =>
 ((bif wantVal v9 true then builtinV Prog .len [143] [v13] h14 else Res.ok undef h14)).bind fun v15 h16 =>
 ((bif wantVal v9 true then binR Prog .leq 3 v15 (.int .i64 20) h16 else Res.ok undef h16)).bind fun v17 h18 =>
 (condV (some v9) (Res.ok v17 h18) (Res.ok (.bool false) h18)).bind fun v19 h20 =>
 ((bif wantVal v19 true then fieldAddrR Prog 146 v1 2 h20 else Res.ok undef h20)).bind fun v21 h22 =>
 ((bif wantVal v19 true then loadR Prog 144 v21 h22 else Res.ok undef h22)).bind fun v23 h24 =>
 ((bif wantVal v19 true then builtinV Prog .len [144] [v23] h24 else Res.ok undef h24)).bind fun v25 h26 =>
 ((bif wantVal v19 true then binR Prog .leq 3 v25 (.int .i64 40) h26 else Res.ok undef h26)).bind fun v27 h28 =>
 (condV (some v19) (Res.ok v27 h28) (Res.ok (.bool false) h28)).bind fun v29 h30 =>
 ((bif wantVal v29 true then Res.ok a1 h30 else Res.ok undef h30)).bind fun v31 h32 =>
 ((bif wantVal v29 true then builtinV Prog .len [28] [v31] h32 else Res.ok undef h32)).bind fun v33 h34 =>
 ((bif wantVal v29 true then binR Prog .leq 3 v33 (.int .i64 60) h34 else Res.ok undef h34)).bind fun v35 h36 =>
 (condV (some v29) (Res.ok v35 h36) (Res.ok (.bool false) h36)).bind fun v37 h38 =>
 .ok v37 h38
theorem ζcp (k : Nat) (a0 a1 : Value) (h : Heap) : R (T k) F.ζw [a0, a1] h = nrm .gc h (ζw k (R (T k)) a0 a1 h) :=
 (R_body (t := T k) (T_scott k) (by kernel_rfl) (by kernel_rfl) _ _).trans (by kernel_rfl)
end
end Go.Sw
end
section
namespace Go.Sw
open Go.RowKit
theorem ζex (k : Nat) (hk : k % 1000000 = F.ζy) (H : Heap) : R (T k) F.ζy [] H = .ok (.bool true) H :=
 (R_sp (t := T k) (T_scott k) (s := constSp (.bool true)) (by unfold T C; dsimp only; rw [hk]; kernel_rfl) [] H).trans (nrm_gc (Pure.of rfl) (.bool _))
theorem ζg1 (k : Nat) (p : Plan) (ids : List Int) (H : Heap) : R (T k) F.ζw [planV p, lv encI ids] H = .ok (.bool (decide (p.cls.length ≤ 40 ∧ p.rows.length ≤ 20 ∧ p.ents.length ≤ 40 ∧ ids.length ≤ 60))) H := by
 rw [ζcp]
 refine nrm_gc ⟨_, ?_, (Ext.refl H).push ⟨planCells p, 1, false⟩⟩ (.bool _)
 by_cases h1 : p.cls.length ≤ 40
 ·have h1' : (p.cls.length : Int) ≤ 40 := by omega
  by_cases h2 : p.rows.length ≤ 20
  ·have h2' : (p.rows.length : Int) ≤ 20 := by omega
   by_cases h3 : p.ents.length ≤ 40
   ·have h3' : (p.ents.length : Int) ≤ 40 := by omega
    by_cases h4 : ids.length ≤ 60
    ·have h4' : (ids.length : Int) ≤ 60 := by omega
     simp -implicitDefEqProofs [ζw, h1, h2, h3, h4, h1', h2', h3', h4']
    ·have h4' : ¬ (ids.length : Int) ≤ 60 := by omega
     simp -implicitDefEqProofs [ζw, h1, h2, h3, h4, h1', h2', h3', h4']
   ·have h3' : ¬ (p.ents.length : Int) ≤ 40 := by omega
    simp -implicitDefEqProofs [ζw, h1, h2, h3, h1', h2', h3']
  ·have h2' : ¬ (p.rows.length : Int) ≤ 20 := by omega
   simp -implicitDefEqProofs [ζw, h1, h2, h1', h2']
 ·have h1' : ¬ (p.cls.length : Int) ≤ 40 := by omega
  simp -implicitDefEqProofs [ζw, h1, h1']
set_option maxHeartbeats 2000000 in
theorem ζi3 (p : Plan) (hp : p.ok) (ids : List Int) : R (T F.ζy) F.ζ12 [planV p, lv encI ids] Heap.empty = .ok (.bool true) Heap.empty := by
 generalize hk : F.ζy = k
 have hs := ζex k (by subst hk; rfl)
 have hW : ownW k = .fz := by subst hk; rfl
 have hk6 : k < 1000000 := by subst hk; decide
 clear hk
 rw [ζam]
 generalize Heap.empty = H
 have hx1 : Ext H (H.push ⟨planCells p, 1, false⟩) := (Ext.refl H).push _
 have hsm := fun H => ζg1 k p ids H
 by_cases c1 : p.cls.length ≤ 40 ∧ p.rows.length ≤ 20 ∧ p.ents.length ≤ 40 ∧ ids.length ≤ 60
 rotate_left
 ·refine nrm_gc ⟨_, ?_, hx1⟩ (.bool _)
  rw [decide_eq_false c1] at hsm
  simp -implicitDefEqProofs (disch := omega) [ζ12, hs, hsm]
 rw [decide_eq_true c1] at hsm
 have hw := fun H' => ζic k hW p hp 0 (by omega) 0 (by omega) (by omega) (by omega) (by omega) H'
 have hw : ∀ H', R (T k) F.ζ0 [planV p, .int .i64 0, .int .i64 0] H' = .ok (lv encB (planBytes p 0 0)) H' := hw
 rw [ζby] at hw
 have hcb : Byt (planRoom p 0 (List.replicate 0 0)) := ζeg hp 0 (rep_byt 0)
 have hcl := ζeh hp 0 (rm := List.replicate 0 0) (by simp) (by omega) (by omega) (by omega)
 generalize planRoom p 0 (List.replicate 0 0) = b at hw hcb hcl
 have hrd := fun H' => ζek k b hcb 40 (by omega) (by omega) H'
 have hrr := fun H' => ζi6 k b hcb 40 0 (by omega) (by omega) (by omega) H'
 unfold refMachS rmO at hrr
 cases h : machS b 40 0 with
 | none =>
  rw [h] at hrd hrr
  simp only [rearP, Option.isSome_none, Bool.false_eq_true, if_false] at hrd
  simp [machP] at hrr
  refine nrm_gc ⟨_, ?_, hx1.push ⟨rmCells [] 0 0 0 0 0 0 [] [], 1, false⟩⟩ (.bool _)
  simp -implicitDefEqProofs (disch := omega) [ζ12, hs, hsm, hw, hrd, hrr]
 | some m =>
  rw [h] at hrd hrr
  simp only [rearP, Option.isSome_some, if_true] at hrd
  simp [machP] at hrr
  have hok := machS_ok hcb (by omega) (by omega) (by omega) h
  have hrun := fun H' => ζn0 k hcb (by omega) (by omega) hok h (newG ids) (by simp; omega) H'
  generalize rmOf b 40 0 m = rm at hrr hrun
  have g := ((Star.nil H).push ⟨planCells p, 1, false⟩).push ⟨rmCells rm.b rm.cl rm.rowsAt rm.entsAt rm.states rm.n rm.words rm.tb rm.parts, 1, false⟩
  simp only [List.nil_append, List.cons_append, hn_push] at g
  obtain ⟨c, o, H1, e1, g⟩ := ζe8 k g ids (by omega)
  simp only [List.nil_append, List.cons_append] at g
  obtain ⟨H2, e2, g, hlen⟩ := ζel k m hok g 2 rfl (by simp; omega)
  simp only [List.set_cons_zero, List.set_cons_succ] at g
  rw [newG_len] at hlen
  have b2 := g.get 1 rfl
  have hnew := fun H' => ζld k ids (by omega) H'
  generalize runR m (newG ids) = res at e2 g hlen hrun
  have gl := ζbt k hk6 g 2 rfl (by omega)
  have hveq : veq (rmV rm) (rmV rm) = true := veq_agg (l := rmCells rm.b rm.cl rm.rowsAt rm.entsAt rm.states rm.n rm.words rm.tb rm.parts) fun v hv => by
   simp at hv
   rcases hv with rfl | rfl | rfl | rfl | rfl | rfl | rfl | rfl | rfl <;> first | exact veq_B _ | exact veq_RP _ | simp
  have hsame := fun H' => Same_run k (Rd.lv encG_len H' res.1) (Rd.lv encG_len H' res.1) (by omega) (by omega)
  refine nrm_gc ⟨H2, ?_, g.ext⟩ (.bool _)
  simp -implicitDefEqProofs (disch := omega) [ζ12, hs, hsm, hw, hrd, hrr, e1, e2, b2, hnew, hrun, hveq, gl, hsame]
set_option maxHeartbeats 2000000 in
theorem ζgs (p : Plan) (hp : p.ok) (ids : List Int) : R (T F.ζy) F.ζk [planV p, lv encI ids] Heap.empty = .ok (.bool true) Heap.empty := by
 generalize hk : F.ζy = k
 have hs := ζex k (by subst hk; rfl)
 have hW : ownW k = .fz := by subst hk; rfl
 have hk6 : k < 1000000 := by subst hk; decide
 clear hk
 rw [ζ9w]
 generalize Heap.empty = H
 have hx1 : Ext H (H.push ⟨planCells p, 1, false⟩) := (Ext.refl H).push _
 have hsm := fun H => ζg1 k p ids H
 by_cases c1 : p.cls.length ≤ 40 ∧ p.rows.length ≤ 20 ∧ p.ents.length ≤ 40 ∧ ids.length ≤ 60
 rotate_left
 ·refine nrm_gc ⟨_, ?_, hx1⟩ (.bool _)
  rw [decide_eq_false c1] at hsm
  simp -implicitDefEqProofs (disch := omega) [ζk, hs, hsm]
 rw [decide_eq_true c1] at hsm
 have hw : ∀ H', R (T k) F.ζ0 [planV p, .int .i64 0, .int .i64 0] H' = .ok (lv encB (planBytes p 0 0)) H' := fun H' => ζic k hW p hp 0 (by omega) 0 (by omega) (by omega) (by omega) (by omega) H'
 rw [ζby] at hw
 have hcb : Byt (planRoom p 0 (List.replicate 0 0)) := ζeg hp 0 (rep_byt 0)
 have hcl := ζeh hp 0 (rm := List.replicate 0 0) (by simp) (by omega) (by omega) (by omega)
 generalize planRoom p 0 (List.replicate 0 0) = b at hw hcb hcl
 have hrd := fun H' => ζek k b hcb 40 (by omega) (by omega) H'
 cases h : machS b 40 0 with
 | none =>
  rw [h] at hrd
  simp only [rearP, Option.isSome_none, Bool.false_eq_true, if_false] at hrd
  refine nrm_gc ⟨_, ?_, hx1⟩ (.bool _)
  simp -implicitDefEqProofs (disch := omega) [ζk, hs, hsm, hw, hrd]
 | some m =>
  rw [h] at hrd
  simp only [rearP, Option.isSome_some, if_true] at hrd
  have hok := machS_ok hcb (by omega) (by omega) (by omega) h
  have g := (Star.nil H).push ⟨planCells p, 1, false⟩
  simp only [List.nil_append, List.cons_append, hn_push] at g
  obtain ⟨c, o, H1, e1, g⟩ := ζe8 k g ids (by omega)
  simp only [List.nil_append, List.cons_append] at g
  obtain ⟨H2, e2, g, hlen⟩ := ζel k m hok g 1 rfl (by simp; omega)
  simp only [List.set_cons_zero, List.set_cons_succ] at g
  rw [newG_len] at hlen
  obtain ⟨r1, r2, r3⟩ := perm_new (ζja hok (newG ids))
  generalize runR m (newG ids) = res at e2 g hlen r1 r2 r3
  have gl := ζbt k hk6 g 1 rfl (by omega)
  have hmk := fun H' => mkR_nat 1 1 [.bool false] .i64 .i64 ids.length H' (by omega) (by omega)
  obtain ⟨sM, hsM⟩ : ∃ sM, sM = Value.slice (some ⟨H2.n, 0, none⟩) ids.length ids.length := ⟨_, rfl⟩
  have g := g.more_row (o := some H2.n) (m := 1) (s := sM) (enc := encBo) (l := List.replicate ids.length false) ((Ext.refl H2).push ⟨repeatCells [.bool false] ids.length, 1, false⟩) (.inr ⟨H2.n, rfl, by rw [hsM, List.length_replicate], by rw [ζc _ _ _ rfl, ζif]⟩) (fun b hb => by injection hb with hb; subst hb; simp)
  rw [← ζh8] at g
  simp only [List.nil_append, List.cons_append] at g
  have hli : (res.1.length : Int) = ids.length := by omega
  obtain ⟨xx, e', H3, hr3, rfl, ⟨z, rfl⟩, g⟩ := loop_up (body := ζ2w k (R (T k))) res.1.length
   (fun j e H' => e = [(1, lv encI ids), (8, lv encG res.1), (9, sM), (37, lv encG res.1), (38, .int .i64 ids.length), (39, .int .i64 j)] ∧ Star H H' [itBlk H.n ⟨planCells p, 1, false⟩, itLine c o res.1, itRow (some H2.n) 1 sM encBo (marksO ids.length ((res.1.map Gl.cl).take j))])
   (fun xx e H' => xx = .exit 0 ∧ (∃ z, e = [(1, lv encI ids), (8, lv encG res.1), (9, sM), (37, lv encG res.1), (38, .int .i64 ids.length), (39, z), (40, .bool false)]) ∧ Star H H' [itBlk H.n ⟨planCells p, 1, false⟩, itLine c o res.1, itRow (some H2.n) 1 sM encBo (marksO ids.length (res.1.map Gl.cl))])
   (e0 := [(1, lv encI ids), (8, lv encG res.1), (9, sM), (37, lv encG res.1), (38, .int .i64 ids.length), (39, .int .i64 0)]) (H0 := H2.push ⟨repeatCells [.bool false] ids.length, 1, false⟩) ⟨rfl, g⟩ (by omega)
   (fun j e H' hj ⟨he, g⟩ => by
    subst he
    have hjl : (j : Int) < ids.length := by omega
    obtain ⟨gl, hgl⟩ : ∃ gl, res.1[j]? = some gl := ⟨_, List.getElem?_eq_getElem hj⟩
    have i1 := fun H' => ixS_lvN encG_len res.1 .i64 j gl hgl H'
    obtain ⟨t1, t2, t3⟩ := r2 gl (List.mem_of_getElem? hgl)
    have hcj : (res.1.map Gl.cl)[j]? = some gl.cl := by rw [List.getElem?_map, hgl]; rfl
    have hnot : gl.cl ∉ (res.1.map Gl.cl).take j := fun hin => by
     obtain ⟨i, hi⟩ := List.getElem?_of_mem hin
     rw [List.getElem?_take] at hi
     split at hi
     ·rename_i hij
      obtain ⟨y1, y2⟩ := List.getElem?_eq_some_iff.1 hi
      obtain ⟨y3, y4⟩ := List.getElem?_eq_some_iff.1 hcj
      exact List.pairwise_iff_getElem.1 r3 i j y1 y3 hij (y2.trans y4.symm)
     ·cases hi
    obtain ⟨id, cl⟩ := gl
    dsimp only at t1 t2 t3 hcj hnot
    obtain ⟨y, rfl⟩ := Int.eq_ofNat_of_zero_le t1
    rw [Int.toNat_natCast] at t3
    have hy : y < ids.length := by omega
    have i5 := fun H' => ixS_lvN encI_len ids .i64 y id t3 H'
    have hm := ζbv (n := ids.length) ((res.1.map Gl.cl).take j) hy
    rw [decide_eq_false hnot] at hm
    have g := g.push ⟨[.int .i64 id, .int .i64 (y : Int)], 1, false⟩
    simp only [List.nil_append, List.cons_append] at g
    obtain ⟨b, hb, hgb, i2⟩ := g.ix 2 rfl .i64 y (by rw [ζ9n]; exact hy)
    injection hb with hb
    subst hb
    have l1 := ld1_row ζdj hgb (i := y) (c := 0) hm (by decide) rfl
    rw [Nat.add_zero, Nat.mul_one] at l1
    obtain ⟨H4, e3, g3, _⟩ := g.stRow 2 rfl ζdj (j := y) (c := 0) (n := 1) true (v := .bool true) hm rfl rfl (by decide) rfl
    simp only [List.set_cons_zero, List.set_cons_succ] at g3
    rw [ζh9 _ hy, ← ζ1c hcj] at g3
    rw [Nat.add_zero, Nat.mul_one] at e3
    have u1 : ¬ (y : Int) < 0 := by omega
    have u2 : ¬ (y : Int) ≥ ids.length := by omega
    refine .inl ⟨_, H4, ?_, rfl, g3.take 3⟩
    rw [ζ3l]
    simp -implicitDefEqProofs (disch := omega) [-ld1_ptr, -stR_ptr, stR_ptr 2 H'.n 0, ld1_ptr H'.n 0, ld1_ptr H'.n 1, hjl, i1, u1, u2, i2, l1, i5, e3])
   (fun e H' ⟨he, g⟩ => by
    subst he
    rw [List.take_of_length_le (by simp)] at g
    refine ⟨.exit 0, _, H', ?_, by simp, rfl, ⟨.int .i64 res.1.length, rfl⟩, g⟩
    have hns : ¬ (res.1.length : Int) < ids.length := by omega
    rw [ζ3l]
    simp -implicitDefEqProofs [hns])
  refine nrm_gc ⟨H3, ?_, g.ext⟩ (.bool _)
  rw [hsM] at hr3
  simp -implicitDefEqProofs (disch := omega) [ζk, hs, hsm, hw, hrd, e1, e2, gl, hmk, hli, hr3, ζ7d]
theorem ζne (vs : List Value) (h : ArgsLay [planSh, .one (.slice [.int .i64])] vs) : ∃ H', R (T F.ζy) F.ζ12 vs Heap.empty = .ok (.bool true) H' := by
 obtain ⟨v1, _, rfl, h1, h⟩ := h.head
 obtain ⟨v2, _, rfl, h2, h⟩ := h.head
 obtain rfl := h.done
 obtain ⟨p, rfl, hp⟩ := arg_plan h1
 obtain ⟨ids, rfl, _⟩ := arg_I h2
 exact ⟨_, ζi3 p hp ids⟩
theorem ζga (vs : List Value) (h : ArgsLay [planSh, .one (.slice [.int .i64])] vs) : ∃ H', R (T F.ζy) F.ζk vs Heap.empty = .ok (.bool true) H' := by
 obtain ⟨v1, _, rfl, h1, h⟩ := h.head
 obtain ⟨v2, _, rfl, h2, h⟩ := h.head
 obtain rfl := h.done
 obtain ⟨p, rfl, hp⟩ := arg_plan h1
 obtain ⟨ids, rfl, _⟩ := arg_I h2
 exact ⟨_, ζgs p hp ids⟩
end Go.Sw
end
section
namespace Go.Sw
open Go.RowKit
theorem names_ok : NamesOk Prog := NamesOk.of (by kernel_rfl)
theorem mixed_ok : Prog.follows .mixedOrders = true := Checked.mixed Go.Proofs.Try.checked
theorem laid_ok : laidOutB Prog = true := by kernel_rfl
theorem ζm6 : SpIs Prog F.ζm fun _ args H => cloneV 3 12 args H :=
 clone_is (c := { P := Prog, kp := kpS, sp := fun _ => none }) names_ok mixed_ok (t := 31) (e := 34) (by kernel_rfl) fun call a H => (ζ38 0 _ call a H).trans (by
  unfold ζm cloneF
  simp only [be_31_0, ap_31, beR_bare])
theorem ζm5 : SpIs Prog F.ζ5 fun _ args H => cloneV 2 16 args H :=
 clone_is (c := { P := Prog, kp := kpS, sp := fun _ => none }) names_ok mixed_ok (t := 50) (e := 55) (by kernel_rfl) fun call a H => (ζ37 0 _ call a H).trans (by
  unfold ζ5 cloneF
  simp only [be_50_0, ap_50, beR_bare])
theorem more_is (f : FuncId) (s : Sp) (h : moreS f = some s) : SpIs Prog f s := by
 unfold moreS at h
 cases h1 : Nat.beq f 77 with
 | true => have := Nat.eq_of_beq_eq_true h1; subst this; rw [h1, cond_true] at h; injection h with h; subst h; exact try_is
 | false =>
 rw [h1, cond_false] at h
 cases h2 : Nat.beq f 147 with
 | true => have := Nat.eq_of_beq_eq_true h2; subst this; rw [h2, cond_true] at h; injection h with h; subst h; exact ζm6
 | false =>
 rw [h2, cond_false] at h
 cases h3 : Nat.beq f 151 with
 | true => have := Nat.eq_of_beq_eq_true h3; subst this; rw [h3, cond_true] at h; injection h with h; subst h; exact ζm5
 | false =>
 rw [h3, cond_false] at h
 cases h4 : Nat.beq f 152 with
 | true => rw [h4, cond_true] at h; injection h with h; subst h; exact SpIs.stuck _ _
 | false => rw [h4, cond_false] at h; cases h
theorem T_prog (k : Nat) : (T k).c.P = Prog := by unfold T C; rfl
theorem told_ok {k m : Nat} (hsp : okTrue (run (baseCfg Prog kpS moreS) m (k % 1000000) [] Heap.empty) = true) : SpOk (T k).c := by
 have h0 : CallOk Prog (run (baseCfg Prog kpS moreS) m) := run_ok (c := baseCfg Prog kpS moreS) names_ok mixed_ok (SpOk.base more_is) m
 have h1 : SpOk (C k) := by
  unfold C
  exact SpOk.of (P := Prog) (kp := kpS) (speaks := speaksT) (more := moreS) (k := k % 1000000) h0 hsp more_is
 exact h1
end Go.Sw
end
