/-
  Functions' forms, and what is proved of them, part 11.
-/
import Derived.Test.YtnaodjnimkndbabSwCfg
import Derived.Test.YtnaodjnimkndbabSwW10
import Derived.Test.YtnaodjnimkndbabSwW8
import Derived.Test.YtnaodjnimkndbabSwLib9
import Derived.Laws.IdiomCopy
import Derived.Tactics
import Derived.Tactics2
import Derived.WalkKit
import Derived.Lib.Walk
import Derived.Lib.SliceRun
import Derived.Lib.JoinLaws
import Derived.Lib.AppendZeros
import Derived.Lib.AppendZerosOnto
import Derived.Lib.Overlaps
import Derived.Laws.Externs
import Derived.Laws.NewBlocks
import Derived.Deep.RegionLaw
import Derived.Test.YtnaodjnimkndbabSwW4
import Derived.Test.YtnaodjnimkndbabSwLib8
import Derived.Eval
set_option linter.unusedSimpArgs false
set_option linter.unusedVariables false
set_option linter.unusedSectionVars false
section
set_option maxRecDepth 100000
set_option linter.unusedVariables false
namespace Go.Sw
noncomputable section
def ζ2g (k : Nat) (call : Caller) : Env → Heap → Res (AExit × Env) := loopB (C k) call F.ζ1h [1, 1, 1, 1, 0, 1, 0, 0]
def ζ4x (k : Nat) (call : Caller) : Kont Value := kBlock 0 (kSeq (pieceK (C k) call F.ζ1h [1, 1, 1, 1, 1]) (kDone Prog (resOf Prog F.ζ1h)))
def ζ1h (k : Nat) (call : Caller) (a0 a1 : Value) (h : Heap) : Res Value :=
 (allocR Prog 145 h).bind fun v1 h2 =>
 (call F.ζ6 [a0, a1, (.int .i64 2)] h2).bind fun v3 h4 =>
 (extractR v3 0 h4).bind fun v5 h6 =>
 (extractR v3 1 h6).bind fun v7 h8 =>
 (allocR Prog 41 h8).bind fun v9 h10 =>
 (storeR Prog 41 v9 v5 h10).bind fun _v11 h12 =>
 (call F.ζ2 [a0, (.int .i64 16), (.int .i64 4)] h12).bind fun v13 h14 =>
 (call F.ζ2b [a0, v13] h14).bind fun v15 h16 =>
 (extractR v15 0 h16).bind fun v17 h18 =>
 (extractR v15 1 h18).bind fun v19 h20 =>
 (unR .not v7 h20).bind fun v21 h22 =>
 ((bif wantVal v21 false then Res.ok v19 h22 else Res.ok undef h22)).bind fun v23 h24 =>
 ((bif wantVal v21 false then unR .not v23 h24 else Res.ok undef h24)).bind fun v25 h26 =>
 (condV (some v21) (Res.ok (.bool true) h26) (Res.ok v25 h26)).bind fun v27 h28 =>
 condV (some v27) (
 (buildR Prog 145 [] h28).bind fun v29 h30 =>
 (storeR Prog 145 v1 v29 h30).bind fun _v31 h32 =>
 (loadR Prog 145 v1 h32).bind fun v33 h34 =>
 .ok (.tuple #[v33, (.bool false)]) h34)
 (
 (loopN (ζ2g k call) loopFuel [(4, v1), (6, v9), (8, v17), (10, (.int .i64 0))] h28).bind fun r35 h36 =>
 ζ4x k call r35.1 r35.2 h36)
theorem ζ45 (k : Nat) (a0 a1 : Value) (h : Heap) : R (T k) F.ζ1h [a0, a1] h = nrm .fz h (ζ1h k (R (T k)) a0 a1 h) :=
 (R_body (t := T k) (T_scott k) (by kernel_rfl) (by kernel_rfl) _ _).trans (by kernel_rfl)
theorem ζ3w (k : Nat) (call : Caller) (a4 a6 a8 a10 : Value) (h : Heap) : ζ2g k call [(4, a4), (6, a6), (8, a8), (10, a10)] h =
 (fieldAddrR Prog 41 a6 5 h).bind fun v37 h38 =>
 (loadR Prog 3 v37 h38).bind fun v39 h40 =>
 (binR Prog .lss 3 a10 v39 h40).bind fun v41 h42 =>
 condV (some v41) (
 (loadR Prog 41 a6 h42).bind fun v43 h44 =>
 (call F.ζc [v43, a10] h44).bind fun v45 h46 =>
 (allocR Prog 31 h46).bind fun v47 h48 =>
 (storeR Prog 31 v47 v45 h48).bind fun _v49 h50 =>
 (loadR Prog 31 v47 h50).bindN fun v51 h52 =>
 (call F.ζ2c [v51] h52).bindT (fun p55 h56 => .panic p55 h56) fun v53 h54 =>
 (binR Prog .gtr 3 v53 (.int .i64 0) h54).bindN fun v57 h58 =>
 ((bif wantVal v57 true then Res.ok a8 h58 else Res.ok undef h58)).bindN fun v59 h60 =>
 ((bif wantVal v57 true then builtinV Prog .len [22] [v59] h60 else Res.ok undef h60)).bindN fun v61 h62 =>
 ((bif wantVal v57 true then fieldAddrR Prog 31 v47 2 h62 else Res.ok undef h62)).bindN fun v63 h64 =>
 ((bif wantVal v57 true then loadR Prog 3 v63 h64 else Res.ok undef h64)).bindN fun v65 h66 =>
 ((bif wantVal v57 true then binR Prog .mul 3 (.int .i64 2) v65 h66 else Res.ok undef h66)).bindN fun v67 h68 =>
 ((bif wantVal v57 true then loadR Prog 31 v47 h68 else Res.ok undef h68)).bindN fun v69 h70 =>
 ((bif wantVal v57 true then call F.ζ2c [v69] h70 else Res.ok undef h70)).bindT (fun p73 h74 => .panic p73 h74) fun v71 h72 =>
 ((bif wantVal v57 true then binR Prog .mul 3 (.int .i64 2) v71 h72 else Res.ok undef h72)).bindN fun v75 h76 =>
 ((bif wantVal v57 true then call F.ζ1v [v61, v67, v75] h76 else Res.ok undef h76)).bindT (fun p79 h80 => chkR ((okVal ((bif wantVal v57 true then loadR Prog 3 v63 h72 else Res.ok undef h72)) v65 && true) && true) (.panic p79 h80)) fun v77 h78 =>
 ((bif wantVal v57 true then unR .not v77 h78 else Res.ok undef h78)).bindN fun v81 h82 =>
 (condV (some v57) (Res.ok v81 h82) (Res.ok (.bool false) h82)).bindN fun v83 h84 =>
 ((bif wantVal v83 false then loadR Prog 31 v47 h84 else Res.ok undef h84)).bindN fun v85 h86 =>
 ((bif wantVal v83 false then call F.ζ1w [v85] h86 else Res.ok undef h86)).bindT (fun p89 h90 => chkR ((okVal ((bif wantVal v57 true then loadR Prog 3 v63 h72 else Res.ok undef h72)) v65 && true) && true) (.panic p89 h90)) fun v87 h88 =>
 ((bif wantVal v83 false then binR Prog .gtr 3 v87 (.int .i64 0) h88 else Res.ok undef h88)).bindN fun v91 h92 =>
 ((bif wantVal v83 false then Res.ok v91 h92 else Res.ok undef h92)).bindN fun v93 h94 =>
 ((bif wantVal v93 true then Res.ok a8 h94 else Res.ok undef h94)).bindN fun v95 h96 =>
 ((bif wantVal v93 true then builtinV Prog .len [22] [v95] h96 else Res.ok undef h96)).bindN fun v97 h98 =>
 ((bif wantVal v93 true then fieldAddrR Prog 31 v47 3 h98 else Res.ok undef h98)).bindN fun v99 h100 =>
 ((bif wantVal v93 true then loadR Prog 3 v99 h100 else Res.ok undef h100)).bindN fun v101 h102 =>
 ((bif wantVal v93 true then binR Prog .mul 3 (.int .i64 2) v101 h102 else Res.ok undef h102)).bindN fun v103 h104 =>
 ((bif wantVal v93 true then loadR Prog 31 v47 h104 else Res.ok undef h104)).bindN fun v105 h106 =>
 ((bif wantVal v93 true then call F.ζ1w [v105] h106 else Res.ok undef h106)).bindT (fun p109 h110 => chkR ((okVal ((bif wantVal v57 true then loadR Prog 3 v63 h72 else Res.ok undef h72)) v65 && true) && true) (.panic p109 h110)) fun v107 h108 =>
 ((bif wantVal v93 true then binR Prog .mul 3 (.int .i64 2) v107 h108 else Res.ok undef h108)).bindN fun v111 h112 =>
 ((bif wantVal v93 true then call F.ζ1v [v97, v103, v111] h112 else Res.ok undef h112)).bindT (fun p115 h116 => chkR ((okVal ((bif wantVal v57 true then loadR Prog 3 v63 h72 else Res.ok undef h72)) v65 && true) && ((okVal ((bif wantVal v93 true then loadR Prog 3 v99 h108 else Res.ok undef h108)) v101 && true) && true)) (.panic p115 h116)) fun v113 h114 =>
 ((bif wantVal v93 true then unR .not v113 h114 else Res.ok undef h114)).bindN fun v117 h118 =>
 ((bif wantVal v83 false then condV (some v93) (Res.ok v117 h118) (Res.ok (.bool false) h118) else Res.ok undef h118)).bindN fun v119 h120 =>
 (condV (some v83) (Res.ok (.bool true) h120) (Res.ok v119 h120)).bindN fun v121 h122 =>
 chkR ((okVal ((bif wantVal v57 true then loadR Prog 3 v63 h72 else Res.ok undef h72)) v65 && true) && ((okVal ((bif wantVal v93 true then loadR Prog 3 v99 h108 else Res.ok undef h108)) v101 && true) && true)) (
 condV (some v121) (
 (buildR Prog 145 [] h122).bind fun v123 h124 =>
 (storeR Prog 145 a4 v123 h124).bind fun _v125 h126 =>
 .ok (.ret, [(4, a4), (5, (.bool false))]) h126)
 (
 (binR Prog .add 3 a10 (.int .i64 1) h122).bind fun v127 h128 =>
 .ok (.normal, [(4, a4), (6, a6), (8, a8), (10, v127)]) h128)))
 (
 .ok ((.exit 0), [(4, a4), (6, a6), (8, a8), (10, a10), (35, v41)]) h42) :=
 (loopB_eq _ _).trans (by kernel_rfl)
theorem ζao (k : Nat) (call : Caller) (a4 a5 : Value) (h : Heap) : ζ4x k call .ret [(4, a4), (5, a5)] h =
 (loadR Prog 145 a4 h).bind fun v129 h130 =>
 .ok (.tuple #[v129, a5]) h130 := by kernel_rfl
theorem ζa2 (k : Nat) (call : Caller) (a4 a6 a8 a10 a35 : Value) (h : Heap) : ζ4x k call (.exit 0) [(4, a4), (6, a6), (8, a8), (10, a10), (35, a35)] h =
 (loadR Prog 41 a6 h).bind fun v131 h132 =>
 (buildR Prog 145 [(0, v131), (1, a8)] h132).bind fun v133 h134 =>
 (storeR Prog 145 a4 v133 h134).bind fun _v135 h136 =>
 (loadR Prog 145 a4 h136).bind fun v137 h138 =>
 .ok (.tuple #[v137, (.bool true)]) h138 := by kernel_rfl
def ζ2c (k : Nat) (call : Caller) (a0 : Value) (h : Heap) : Res Value :=
 (boxR a0 h).bind fun v1 h2 =>
 (fieldAddrR Prog 31 v1 2 h2).bind fun v3 h4 =>
 (loadR Prog 3 v3 h4).bind fun v5 h6 =>
 (binR Prog .eql 3 v5 (.int .i64 65535) h6).bind fun v7 h8 =>
 condV (some v7) (
 .ok (.int .i64 0) h8)
 (
 (fieldAddrR Prog 31 v1 1 h8).bind fun v9 h10 =>
 (loadR Prog 3 v9 h10).bind fun v11 h12 =>
 (binR Prog .quo 3 v11 (.int .i64 32) h12).bind fun v13 h14 =>
 (binR Prog .rem 3 v13 (.int .i64 32) h14).bind fun v15 h16 =>
 .ok v15 h16)
theorem ζcx (k : Nat) (a0 : Value) (h : Heap) : R (T k) F.ζ2c [a0] h = nrm .gc h (ζ2c k (R (T k)) a0 h) :=
 (R_body (t := T k) (T_scott k) (by kernel_rfl) (by kernel_rfl) _ _).trans (by kernel_rfl)
def ζ1w (k : Nat) (call : Caller) (a0 : Value) (h : Heap) : Res Value :=
 (boxR a0 h).bind fun v1 h2 =>
 (fieldAddrR Prog 31 v1 3 h2).bind fun v3 h4 =>
 (loadR Prog 3 v3 h4).bind fun v5 h6 =>
 (binR Prog .eql 3 v5 (.int .i64 65535) h6).bind fun v7 h8 =>
 condV (some v7) (
 .ok (.int .i64 0) h8)
 (
 (fieldAddrR Prog 31 v1 1 h8).bind fun v9 h10 =>
 (loadR Prog 3 v9 h10).bind fun v11 h12 =>
 (binR Prog .rem 3 v11 (.int .i64 32) h12).bind fun v13 h14 =>
 .ok v13 h14)
theorem ζbt (k : Nat) (a0 : Value) (h : Heap) : R (T k) F.ζ1w [a0] h = nrm .gc h (ζ1w k (R (T k)) a0 h) :=
 (R_body (t := T k) (T_scott k) (by kernel_rfl) (by kernel_rfl) _ _).trans (by kernel_rfl)
end
end Go.Sw
end
section
namespace Go.Sw
open Go.RowKit
theorem ζov (k : Nat) (e : En) (hf : 0 ≤ e.flags ∧ e.flags < 65536) (H : Heap) : R (T k) F.ζ2c [encE e] H = .ok (.int .i64 (hereS e)) H := by
 rw [ζcx];refine nrm_gc ⟨_, ?_, (Ext.refl H).push ⟨encEn e, 1, false⟩⟩ (.int _ _);unfold hereS;by_cases d : e.a = 65535
 ·rw [if_pos d];simp -implicitDefEqProofs (disch := omega) [ζ2c, d]
 ·rw [if_neg d];have hb : (e.a == 65535) = false := by simp [d]
  have q1 := fun H => bin_quo Prog 3 H .i64 e.flags 32 (by decide);rw [show IntKind.i64.wrap (e.flags.tdiv 32) = e.flags / 32 by rw [Int.tdiv_eq_ediv_of_nonneg hf.1]; exact wrap_i64 (by omega) (by omega)] at q1;have q2 := fun H => bin_rem Prog 3 H .i64 (e.flags / 32) 32 (by decide);rw [show (e.flags / 32).tmod 32 = e.flags / 32 % 32 from Int.tmod_eq_emod_of_nonneg (by omega)] at q2;simp -implicitDefEqProofs (disch := omega) [ζ2c, hb, q1, q2]
theorem ζp6 (k : Nat) (e : En) (hf : 0 ≤ e.flags ∧ e.flags < 65536) (H : Heap) : R (T k) F.ζ1w [encE e] H = .ok (.int .i64 (markS e)) H := by
 rw [ζbt];refine nrm_gc ⟨_, ?_, (Ext.refl H).push ⟨encEn e, 1, false⟩⟩ (.int _ _);unfold markS;by_cases d : e.b = 65535
 ·rw [if_pos d];simp -implicitDefEqProofs (disch := omega) [ζ1w, d]
 ·rw [if_neg d];have hb : (e.b == 65535) = false := by simp [d]
  have q2 := fun H => bin_rem Prog 3 H .i64 e.flags 32 (by decide);rw [show e.flags.tmod 32 = e.flags % 32 from Int.tmod_eq_emod_of_nonneg (by omega)] at q2;simp -implicitDefEqProofs (disch := omega) [ζ1w, hb, q2]
theorem inS_rows (ls : List Int) (i n : Int) (hn : 0 ≤ n) : (rowsS ls i n 2).isSome = inS ls.length i (2 * n) := by
 cases h : rowsS ls i n 2 with
 | some r =>
  have := (ζ6j (by decide)).1 h;unfold inS;symm;rw [Option.isSome_some, decide_eq_true_eq];omega
 | none =>
  symm;rw [Option.isSome_none, Bool.eq_false_iff];intro hh;unfold inS at hh;rw [decide_eq_true_eq] at hh;have : rowsS ls i n 2 = some ((ls.drop i.toNat).take (n * 2).toNat) := (ζ6j (by decide)).2 ⟨by omega, rfl⟩;rw [h] at this;cases this
theorem r18_l1 (k : Nat) {vs : List Int} (hl : vs.length < 2 ^ 31) {r : RMach} {es : List En} (hes : ∀ e, e ∈ es → (0 ≤ e.a ∧ e.a < 65536) ∧ (0 ≤ e.b ∧ e.b < 65536) ∧ 0 ≤ e.flags ∧ e.flags < 65536) (hel : es.length < 65537) (hn : r.n = es.length) (hent : ∀ (i : Nat) (e : En), es[i]? = some e → ∀ H', R (T k) F.ζc [rmV r, .int .i64 i] H' = .ok (.agg (encEn e).toArray) H')
  {p4 p6 : Nat} {z : List Value} (hz : z.length = 10) {H0 H : Heap} (st : Star H0 H [itBlk p4 ⟨z, 1, false⟩, itBlk p6 ⟨rmC r, 1, false⟩]) :
  (∃ a b H', loopN (ζ2g k (R (T k))) loopFuel [(4, ptrV p4), (6, ptrV p6), (8, lv encB vs), (10, .int .i64 0)] H = .ok (.exit 0, [(4, ptrV p4), (6, ptrV p6), (8, lv encB vs), (10, a), (35, b)]) H' ∧ Star H0 H' [itBlk p4 ⟨z, 1, false⟩, itBlk p6 ⟨rmC r, 1, false⟩] ∧ es.all (entIn vs) = true) ∨
  (∃ H', loopN (ζ2g k (R (T k))) loopFuel [(4, ptrV p4), (6, ptrV p6), (8, lv encB vs), (10, .int .i64 0)] H = .ok (.ret, [(4, ptrV p4), (5, .bool false)]) H' ∧ Star H0 H' [itBlk p4 ⟨zC10, 1, false⟩, itBlk p6 ⟨rmC r, 1, false⟩] ∧ es.all (entIn vs) = false) := by
 have hvu : veq undef undef = true := by kernel_rfl
 have hdz : z.drop 10 = [] := List.drop_eq_nil_of_le (by omega);obtain ⟨rb, rc, ra, re, rs, rn, rw, rt, rp⟩ := r;dsimp only at hn;subst hn;have hin := fun i n H' => ζkw k (vs.length : Int) i n (by omega) (by omega) H'
 obtain ⟨xx, e', H1, hr1, hQ⟩ := loop_up (body := ζ2g k (R (T k))) es.length
  (fun j e' H' => e' = [(4, ptrV p4), (6, ptrV p6), (8, lv encB vs), (10, .int .i64 j)] ∧ Star H0 H' [itBlk p4 ⟨z, 1, false⟩, itBlk p6 ⟨rmC ⟨rb, rc, ra, re, rs, (es.length : Int), rw, rt, rp⟩, 1, false⟩] ∧ (es.take j).all (entIn vs) = true)
  (fun xx e' H' => (xx = .exit 0 ∧ (∃ a b, e' = [(4, ptrV p4), (6, ptrV p6), (8, lv encB vs), (10, a), (35, b)]) ∧ Star H0 H' [itBlk p4 ⟨z, 1, false⟩, itBlk p6 ⟨rmC ⟨rb, rc, ra, re, rs, (es.length : Int), rw, rt, rp⟩, 1, false⟩] ∧ es.all (entIn vs) = true) ∨ (xx = .ret ∧ e' = [(4, ptrV p4), (5, .bool false)] ∧ Star H0 H' [itBlk p4 ⟨zC10, 1, false⟩, itBlk p6 ⟨rmC ⟨rb, rc, ra, re, rs, (es.length : Int), rw, rt, rp⟩, 1, false⟩] ∧ es.all (entIn vs) = false))
  (e0 := [(4, ptrV p4), (6, ptrV p6), (8, lv encB vs), (10, .int .i64 0)]) (H0 := H) ⟨rfl, st, rfl⟩ (by omega)
  (fun j e' H' hj ⟨he', st, hall⟩ => by
   subst he';have hjl : (j : Int) < es.length := by omega
   obtain ⟨en, hen⟩ : ∃ en, es[j]? = some en := ⟨_, List.getElem?_eq_getElem hj⟩
   have hmem := List.mem_of_getElem? hen;have hE := hent j en hen;have hb := hes en hmem;have hH := fun H => ζov k en hb.2.2 H;have hM := fun H => ζp6 k en hb.2.2 H;have g4 := st.get 0 rfl;have g6 := st.get 1 rfl;have st2 := st.push ⟨encEn en, 1, false⟩;simp only [List.cons_append, List.nil_append] at st2;have q4 := st2.get 0 rfl;have q7 := st2.get 2 rfl;have hw1 : IntKind.i64.wrap (2 * en.a) = 2 * en.a := wrap_i64 (by omega) (by omega);have hw2 : IntKind.i64.wrap (2 * en.b) = 2 * en.b := wrap_i64 (by omega) (by omega);have hh := hereS_le hb.2.2.1;have hmk := markS_le hb.2.2.1;have hw3 : IntKind.i64.wrap (2 * hereS en) = 2 * hereS en := wrap_i64 (by omega) (by omega);have hw4 : IntKind.i64.wrap (2 * markS en) = 2 * markS en := wrap_i64 (by omega) (by omega);have hO : entIn vs en = ((decide (hereS en ≤ 0) || inS vs.length (2 * en.a) (2 * hereS en)) && (decide (markS en ≤ 0) || inS vs.length (2 * en.b) (2 * markS en))) := by
    unfold entIn;rw [inS_rows _ _ _ hh.1, inS_rows _ _ _ hmk.1]
   have good : entIn vs en = true → ∃ H'', ζ2g k (R (T k)) [(4, ptrV p4), (6, ptrV p6), (8, lv encB vs), (10, .int .i64 j)] H' = .ok (.normal, [(4, ptrV p4), (6, ptrV p6), (8, lv encB vs), (10, .int .i64 ((j : Int) + 1))]) H'' ∧ Star H0 H'' [itBlk p4 ⟨z, 1, false⟩, itBlk p6 ⟨rmC ⟨rb, rc, ra, re, rs, (es.length : Int), rw, rt, rp⟩, 1, false⟩] := fun hg => by
    refine ⟨_, ?_, by simpa using st2.take 2⟩;rw [hO, Bool.and_eq_true, Bool.or_eq_true, Bool.or_eq_true, decide_eq_true_eq, decide_eq_true_eq] at hg;rw [ζ3w];by_cases d1 : hereS en > 0
    ·have i1 := hg.1.resolve_left (by omega);by_cases d2 : markS en > 0
     ·have i2 := hg.2.resolve_left (by omega);simp -implicitDefEqProofs (disch := omega) [hvu, g6, hjl, hE, hH, hM, d1, d2, hw1, hw2, hw3, hw4, hin, i1, i2]
     ·simp -implicitDefEqProofs (disch := omega) [hvu, g6, hjl, hE, hH, hM, d1, d2, hw1, hw2, hw3, hw4, hin, i1]
    ·by_cases d2 : markS en > 0
     ·have i2 := hg.2.resolve_left (by omega);simp -implicitDefEqProofs (disch := omega) [hvu, g6, hjl, hE, hH, hM, d1, d2, hw1, hw2, hw3, hw4, hin, i2]
     ·simp -implicitDefEqProofs (disch := omega) [hvu, g6, hjl, hE, hH, hM, d1, d2, hw1, hw2, hw3, hw4, hin]
   cases hg : entIn vs en with
   | true =>
    obtain ⟨H'', e1, st3⟩ := good hg;refine .inl ⟨_, H'', e1, rfl, st3, ?_⟩;rw [ζ22 hen, List.all_append, hall];simp [hg]
   | false =>
    have st3 := st2.setBlk 0 rfl ⟨zC10, 1, false⟩;simp only [List.set_cons_zero] at st3;refine .inr ⟨.ret, _, _, ?_, by simp, .inr ⟨rfl, rfl, by simpa using st3.take 2, ?_⟩⟩
    ·rw [hO] at hg;rw [ζ3w];by_cases d1 : hereS en > 0
     ·cases i1 : inS vs.length (2 * en.a) (2 * hereS en) with
      | false =>
       simp -implicitDefEqProofs (disch := omega) [hvu, g6, hjl, hE, hH, hM, d1, hw1, hw2, hw3, hw4, hin, i1, q4, hz, hdz]
      | true =>
       have c1 : decide (hereS en ≤ 0) = false := by simp; omega
       rw [i1, Bool.or_true, Bool.true_and] at hg;by_cases d2 : markS en > 0
       ·have c2 : decide (markS en ≤ 0) = false := by simp; omega
        rw [c2, Bool.false_or] at hg;simp -implicitDefEqProofs (disch := omega) [hvu, g6, hjl, hE, hH, hM, d1, d2, hw1, hw2, hw3, hw4, hin, i1, hg, q4, hz, hdz]
       ·rw [decide_eq_true (show markS en ≤ 0 by omega)] at hg;simp at hg
     ·rw [decide_eq_true (show hereS en ≤ 0 by omega), Bool.true_or, Bool.true_and] at hg;by_cases d2 : markS en > 0
      ·have c2 : decide (markS en ≤ 0) = false := by simp; omega
       rw [c2, Bool.false_or] at hg;simp -implicitDefEqProofs (disch := omega) [hvu, g6, hjl, hE, hH, hM, d1, d2, hw1, hw2, hw3, hw4, hin, hg, q4, hz, hdz]
      ·rw [decide_eq_true (show markS en ≤ 0 by omega)] at hg;simp at hg
    ·rw [Bool.eq_false_iff];intro h;have := List.all_eq_true.1 h en hmem;rw [hg] at this;cases this)
  (fun e' H' ⟨he', st, hall⟩ => by
   subst he';have g6 := st.get 1 rfl;rw [List.take_length] at hall;refine ⟨.exit 0, _, H', ?_, by simp, .inl ⟨rfl, ⟨.int .i64 es.length, .bool false, rfl⟩, st, hall⟩⟩;rw [ζ3w];simp -implicitDefEqProofs [g6])
 rcases hQ with ⟨rfl, ⟨a, b, rfl⟩, st, hE⟩ | ⟨rfl, rfl, st, hE⟩
 ·exact .inl ⟨a, b, H1, hr1, st, hE⟩
 ·exact .inr ⟨H1, hr1, st, hE⟩
set_option maxRecDepth 10000 in
theorem ζlm (k : Nat) (b : List Int) (hb : Byt b) (g : Int) (hg : 1 ≤ g ∧ g ≤ 65535) (hl : b.length < 2 ^ 31) (H : Heap) :
  ∃ (r : RMach) (vs : List Int), R (T k) F.ζ1h [lv encB b, .int .i64 g] H = .ok (.tuple #[.agg (r23C r vs).toArray, .bool (insS b g).isSome]) H ∧ ∀ t, insS b g = some t → r = rmOf b g 2 t.m ∧ vs = t.list := by
 have u16 := fun H' => refU_run k (H := H') (Sl.lv H' 1 b) hb 16 4 (by omega) (by omega);have hrm := fun H' => ζm7 k b hb g 2 hg (.inr (.inr rfl)) hl H';unfold refMachS at hrm;obtain ⟨a16, ha16⟩ : ∃ a16, a16 = (uS b 16 4).getD (-1) := ⟨_, rfl⟩
 rw [← ha16] at u16;have hfr := fun H' => ζo1 k b a16 H';have hS : insS b g = (machS b g 2).bind fun m => (restS b a16).bind fun vs => if m.ents.all (entIn vs) then some ⟨m, vs⟩ else none := by
  unfold insS;congr 1;funext m;rw [ha16];cases hu : uS b 16 4 with
  | none =>
   rw [Option.getD_none, ζr3];rfl
  | some p => rfl
 have fl0 : Flat (.tuple #[.agg (r23C rmZ []).toArray, .bool false]) := flat23 rmZ [] false;have fz0 : ∀ H', fzV H.n H' fzDepth (.tuple #[.agg zC10.toArray, .bool false]) = some (.tuple #[.agg (r23C rmZ []).toArray, .bool false], []) := fun H' => rfl;have g0 := fun (r : RMach) => ((Star.nil H).push ⟨zC10, 1, false⟩).push ⟨rmC r, 1, false⟩;simp only [List.nil_append, List.cons_append, hn_push] at g0;cases hm : machS b g 2 with
 | none =>
  rw [hm] at hS hrm;simp only [Option.map_none, rmO, Option.getD_none, Option.isSome_none] at hrm;have hS : insS b g = none := hS;rw [hS];refine ⟨rmZ, [], ?_, fun t h => by cases h⟩;rw [ζ45];refine nrm_fz (H' := (H.push ⟨zC10, 1, false⟩).push ⟨rmC rmZ, 1, false⟩) ?_ (fz0 _) (g0 rmZ).ext fl0.alive;simp -implicitDefEqProofs (disch := omega) [ζ1h, hrm, u16, hfr]
 | some m =>
  have hok := machS_ok hb hg.1 hg.2 (by omega) hm;have hent := fun (i : Nat) (e : En) (he : m.ents[i]? = some e) (hi : i ≤ 65536) H' => ζon k hb (.inr (.inr rfl)) hl hm (i := (i : Int)) (by omega) (by omega) (e := e) (by simpa using he) H';rw [hm] at hS hrm;simp only [Option.map_some, rmO, Option.getD_some, Option.isSome_some] at hrm;have hn : (rmOf b g 2 m).n = m.ents.length := rfl;have hfl : Flat (rmV (rmOf b g 2 m)) := Flat.rm _;cases hr : restS b a16 with
  | none =>
   rw [hr] at hS hfr;simp only [Option.getD_none, Option.isSome_none] at hfr;have hS : insS b g = none := hS;rw [hS];refine ⟨rmZ, [], ?_, fun t h => by cases h⟩;rw [ζ45];generalize rmOf b g 2 m = r at hrm;refine nrm_fz (H' := (H.push ⟨zC10, 1, false⟩).push ⟨rmC r, 1, false⟩) ?_ (fz0 _) (g0 r).ext fl0.alive;simp -implicitDefEqProofs (disch := omega) [ζ1h, hrm, u16, hfr]
  | some vs =>
   rw [hr] at hS hfr;simp only [Option.getD_some, Option.isSome_some] at hfr;have hS : insS b g = if m.ents.all (entIn vs) then some ⟨m, vs⟩ else none := hS
   have hvb : Byt vs := hb.rest hr;have hvl : vs.length < 2 ^ 31 := by have := ζaa hr; omega
   have hes : ∀ e, e ∈ m.ents → (0 ≤ e.a ∧ e.a < 65536) ∧ (0 ≤ e.b ∧ e.b < 65536) ∧ 0 ≤ e.flags ∧ e.flags < 65536 := fun e he => by have := hok.ent e he; omega
   have helen := hok.elen;rcases r18_l1 k hvl hes (by omega) hn (fun i e he H' => hent i e he (by have := (List.getElem?_eq_some_iff.1 he).1; omega) H') (p4 := H.n) (p6 := H.n + 1) (z := zC10) rfl (g0 (rmOf b g 2 m)) with ⟨a, b', H', e1, st, hall⟩ | ⟨H', e1, st, hall⟩
   ·rw [hall, if_pos rfl] at hS;rw [hS];refine ⟨rmOf b g 2 m, vs, ?_, fun t h => by injection h with h; subst h; exact ⟨rfl, rfl⟩⟩
    ·rw [ζ45];generalize rmOf b g 2 m = r at hrm e1 st;have g4 := st.get 0 rfl;have g6 := st.get 1 rfl;have g4s : (H'.get H.n).isSome = true := by rw [g4]; rfl
     have st2 := st.setBlk 0 rfl ⟨r23C r vs, 1, false⟩;refine nrm_fz (H' := H'.set H.n (some ⟨r23C r vs, 1, false⟩)) (v := .tuple #[.agg (r23C r vs).toArray, .bool true]) (L := []) ?_ rfl st2.ext ?_
     ·simp -implicitDefEqProofs (disch := omega) [ζ1h, hrm, u16, hfr, e1, ζa2, g4, g6, g4s]
     ·exact (flat23 r vs true).alive
   ·rw [hall, if_neg (by decide)] at hS;rw [hS];refine ⟨rmZ, [], ?_, fun t h => by cases h⟩;rw [ζ45];generalize rmOf b g 2 m = r at hrm e1 st;have g4 := st.get 0 rfl;refine nrm_fz (H' := H') ?_ (fz0 _) st.ext fl0.alive;simp -implicitDefEqProofs (disch := omega) [ζ1h, hrm, u16, hfr, e1, ζao, g4]
end Go.Sw
end
section
namespace Go.Sw
open Go.RowKit
theorem ζql {b : List Int} {g : Int} {t : ITab} (h : insS b g = some t) : machS b g 2 = some t.m := by
 unfold insS at h;obtain ⟨m, hm, h⟩ := Option.bind_eq_some_iff.1 h;obtain ⟨p, hp, h⟩ := Option.bind_eq_some_iff.1 h;obtain ⟨ls, hL, h⟩ := Option.bind_eq_some_iff.1 h;split at h
 ·injection h with h;subst h;exact hm
 ·cases h
def setI (e : En) : En := ⟨e.next, e.flags, 65535, 65535⟩
set_option maxHeartbeats 4000000 in
theorem ζnd (x : IPlan) (hx : x.ok) (ids : List Int) : R (T F.ζ2k) F.ζg [iplV x, lv encI ids] Heap.empty = .ok (.bool true) Heap.empty := by
 generalize hk : F.ζ2k = k;have hs := ζm9 k (by subst hk; rfl);have hW : ownW k = .no := by subst hk; rfl
 have hk6 : k < 1000000 := by subst hk; decide
 clear hk;rw [ζb3];generalize Heap.empty = H;have hx1 : Ext H (H.push ⟨iplC x, 1, false⟩) := (Ext.refl H).push _;have hsm := fun H => ζo7 k x ids H;by_cases c1 : ISmall x ids.length;rotate_left
 ·refine nrm_gc ⟨_, ?_, hx1⟩ (.bool _);rw [decide_eq_false c1] at hsm;simp -implicitDefEqProofs (disch := omega) [ζg, hs, hsm]
 rw [decide_eq_true c1] at hsm;unfold ISmall at c1;have g := (Star.nil H).push ⟨iplC x, 1, false⟩;have g := g.push ⟨iplC x, 1, false⟩;have g := g.more_row (Ext.refl _) (OwnO.bare encEn _ 4) (fun b hb => by cases hb);simp only [List.nil_append, List.cons_append, hn_push] at g;obtain ⟨s1, o1, H1, e1, g⟩ := g.append (bytes := 32) 2 ζ3q rfl (b := lv encEn x.p.ents) (l2 := x.p.ents) rfl (lv_first ζ3q x.p.ents _) (by simp; omega) (by decide);simp only [List.nil_append, List.cons_append, List.set_cons_zero, List.set_cons_succ] at g;have b1 := g.get 0 rfl;obtain ⟨H2, e2, g, _⟩ := g.stCell 1 rfl 2 (g.row 2 rfl).storable (g.row 2 rfl).cells (by simp);simp only [List.set_cons_zero, List.set_cons_succ] at g;have b2 := g.get 1 rfl;have hln : ∀ H', lnS s1 H' = .ok (.int .i64 x.p.ents.length) H' := (g.row 2 rfl).len
 obtain ⟨xx, e', H3, hr3, rfl, rfl, g⟩ := loop_up (body := ζ3t k (R (T k))) x.p.ents.length
  (fun j e H' => e = [(1, lv encI ids), (5, ptrV (H.n + 1)), (31, .int .i64 x.p.ents.length), (32, .int .i64 j)] ∧ Star H H' [itBlk H.n ⟨iplC x, 1, false⟩, itBlk (H.n + 1) ⟨[lv encB x.p.cls, lv encBR x.p.rows, s1, .int .u8 x.p.wide, lv encH x.vals], 1, false⟩, itRow o1 4 s1 encEn ((x.p.ents.take j).map setI ++ x.p.ents.drop j)])
  (fun xx e H' => xx = .exit 0 ∧ e = [(1, lv encI ids), (5, ptrV (H.n + 1)), (31, .int .i64 x.p.ents.length), (32, .int .i64 x.p.ents.length), (33, .bool false)] ∧ Star H H' [itBlk H.n ⟨iplC x, 1, false⟩, itBlk (H.n + 1) ⟨[lv encB x.p.cls, lv encBR x.p.rows, s1, .int .u8 x.p.wide, lv encH x.vals], 1, false⟩, itRow o1 4 s1 encEn (x.p.ents.map setI)])
  (e0 := [(1, lv encI ids), (5, ptrV (H.n + 1)), (31, .int .i64 x.p.ents.length), (32, .int .i64 0)]) (H0 := H2) ⟨rfl, by simpa using g⟩ (by omega)
  (fun j e H' hj ⟨he, g⟩ => by
   subst he;have hlt : (j : Int) < x.p.ents.length := by omega
   obtain ⟨y, hy⟩ : ∃ y, x.p.ents[j]? = some y := ⟨_, List.getElem?_eq_getElem hj⟩
   have hyj := map_at (f := setI) hy;have bq := g.get 1 rfl;obtain ⟨c, hc, hgc, i2⟩ := g.ix 2 rfl .i64 j (by simp; omega);subst hc;have hlen : j < ((x.p.ents.take j).map setI ++ x.p.ents.drop j).length := (List.getElem?_eq_some_iff.1 hyj).1;obtain ⟨H5, e5, g5, _⟩ := g.stRow 2 rfl ζ3q (j := j) (c := 2) (n := 1) ⟨y.next, y.flags, 65535, y.b⟩ (v := .int .i64 65535) hyj rfl rfl (by decide) rfl;simp only [List.set_cons_zero, List.set_cons_succ] at g5;have bq5 := g5.get 1 rfl;have hvs := (g.row 2 rfl).veq;obtain ⟨H6, e6, g6, _⟩ := g5.stRow 2 rfl ζ3q (j := j) (c := 3) (n := 1) (setI y) (v := .int .i64 65535) (List.getElem?_set_self hlen) rfl rfl (by decide) rfl;simp only [List.set_cons_zero, List.set_cons_succ] at g6;rw [List.set_set, map_step hy] at g6;refine .inl ⟨_, H6, ?_, rfl, g6⟩;rw [ζ4q];simp -implicitDefEqProofs (disch := omega) [-stR_ptr, -ld1_ptr, ld1_ptr (H.n + 1) 2, hlt, bq, bq5, i2, e5, e6, hvs])
  (fun e H' ⟨he, g⟩ => by
   subst he;rw [List.take_length, List.drop_length, List.append_nil] at g;refine ⟨.exit 0, _, H', ?_, by simp, rfl, rfl, g⟩;rw [ζ4q];simp -implicitDefEqProofs)
 obtain ⟨p2, hp2⟩ : ∃ p2 : Plan, p2 = ⟨x.p.cls, x.p.rows, x.p.ents.map setI, x.p.wide⟩ := ⟨_, rfl⟩
 have z1 : p2.cls = x.p.cls := by rw [hp2]
 have z2 : p2.rows = x.p.rows := by rw [hp2]
 have z3 : p2.ents = x.p.ents.map setI := by rw [hp2]
 have z4 : p2.wide = x.p.wide := by rw [hp2]
 have z5 : p2.ok := by rw [hp2]; exact hx.p
 have z6 : p2.ents.length = x.p.ents.length := by rw [z3]; simp
 have hrow : Sl H3 4 s1 encEn p2.ents := by rw [z3]; exact (g.row 2 rfl).sl ζ3q
 have b3 := g.get 1 rfl;have hw : R (T k) F.ζ19 [.agg #[lv encB x.p.cls, lv encBR x.p.rows, s1, .int .u8 x.p.wide, lv encH x.vals]] H3 = .ok (lv encB (roomB p2 2 0 x.vals)) H3 := by
  have := ζpv k hk6 hW p2 z5 (by rw [z1]; omega) (by rw [z2]; omega) (by omega) (PlanSl.lv H3 p2 hrow) (Sl.lv H3 1 x.vals) hx.vals (by omega);rw [z1, z2, z4] at this;exact this
 have hcb : Byt (roomB p2 2 0 x.vals) := ζr4 z5 _ _ _;have hcl := ζr5 z5 2 0 (l := x.vals) (by rw [z1]; omega) (by rw [z2]; omega) (by omega) (by omega);have hent := fun (m : Mach) (h : machS (roomB p2 2 0 x.vals) 40 2 = some m) hn e he => ζpc (p := p2) z5 (w := 2) (.inr (.inr rfl)) (rm := bytesOf (0 + (planRoom p2 2 (List.replicate 4 0)).length : Int) 4) (more := twos x.vals) (by rw [ζ50]; omega) (by rw [z1]; omega) (by rw [z2]; omega) (g := 40) (m := m) h hn (e := e) he;generalize roomB p2 2 0 x.vals = b at hw hcb hcl hent;have hrd := fun H' => ζnq k (H := H') (Sl.lv H' 1 b) hcb 40 (by omega) (fun _ H' => ζns k hk6 b hcb 40 (by omega) (by omega) H');unfold insO insN at hrd;rw [if_pos (by omega), if_pos (by omega)] at hrd;obtain ⟨r, rl, hrr, hrs⟩ := ζlm k b hcb 40 (by omega) (by omega) H3;have hnn : ¬ H.n + 1 = H3.n := by have := Heap.get_lt b3; omega
 cases h : insS b 40 with
 | none =>
  rw [h] at hrd hrr;simp only [insP, Option.isSome_none, Bool.false_eq_true, if_false] at hrd hrr;refine nrm_gc ⟨_, ?_, g.ext.push ⟨r23C r rl, 1, false⟩⟩ (.bool _);simp -implicitDefEqProofs (disch := omega) [-stR_ptr, stR_ptr 5 (H.n + 1) 0, stR_ptr 10 H3.n 0, ζg, hs, hsm, e1, b1, e2, b2, hln, hr3, ζ27, b3, hw, hrd, hrr]
 | some t =>
  obtain ⟨hr2, _⟩ := hrs t h;rw [h] at hrd hrr;simp only [insP, Option.isSome_some, if_true] at hrd hrr;have hok := insS_ok hcb (by omega) (by omega) (by omega) h;have hrn : r.n = t.m.ents.length := by rw [hr2]; rfl
  have gP := g.push ⟨r23C r rl, 1, false⟩;simp only [List.cons_append, List.nil_append] at gP;have b4 := gP.get 1 rfl;by_cases d1 : r.n > x.p.ents.length
  ·refine nrm_gc ⟨_, ?_, gP.ext⟩ (.bool _);simp -implicitDefEqProofs (disch := omega) [-stR_ptr, stR_ptr 5 (H.n + 1) 0, stR_ptr 10 H3.n 0, ζg, hs, hsm, e1, b1, e2, b2, hln, hr3, ζ27, b3, hw, hrd, hrr, b4, hnn, d1]
  by_cases d2 : r.states > x.p.rows.length
  ·refine nrm_gc ⟨_, ?_, gP.ext⟩ (.bool _);simp -implicitDefEqProofs (disch := omega) [-stR_ptr, stR_ptr 5 (H.n + 1) 0, stR_ptr 10 H3.n 0, ζg, hs, hsm, e1, b1, e2, b2, hln, hr3, ζ27, b3, hw, hrd, hrr, b4, hnn, d1, d2]
  obtain ⟨y1, y2, y3⟩ := ins_idle t hok.m (fun e he => by
   obtain ⟨q, hq, rfl⟩ := hent t.m (ζql h) (by omega) e he;rw [z3] at hq;obtain ⟨y, _, rfl⟩ := List.mem_map.1 hq;exact ⟨rfl, rfl⟩) (newG ids) 0
  obtain ⟨c, o, H5, e5, g⟩ := ζm4 k gP ids (by omega);simp only [List.nil_append, List.cons_append] at g;obtain ⟨H6, o6, e6, g, _⟩ := ζnr k t hok g 4 rfl (by rw [newG_len]; omega) 0 (by omega);simp only [List.set_cons_zero, List.set_cons_succ] at g;rw [y2] at e6;rw [y1] at g;generalize codeI (runIr t (newG ids) 0) = w at e6;have gl := ζkn k hk6 g 4 rfl (by rw [newG_len]; omega);have hnew := fun H' => ζpf k ids (by omega) H';have hsm2 := fun H' => Same_run k (Rd.lv encG_len H' (newG ids)) (Rd.lv encG_len H' (newG ids)) (by rw [newG_len]; omega) (by rw [newG_len]; omega);refine nrm_gc ⟨H6, ?_, g.ext⟩ (.bool _);simp -implicitDefEqProofs (disch := omega) [-stR_ptr, stR_ptr 5 (H.n + 1) 0, stR_ptr 10 H3.n 0, ζg, hs, hsm, e1, b1, e2, b2, hln, hr3, ζ27, b3, hw, hrd, hrr, b4, hnn, d1, d2, e5, e6, gl, hnew, hsm2]
theorem ζm1 (vs : List Value) (h : ArgsLay [iplSh, .one (.slice [.int .i64])] vs) : ∃ H', R (T F.ζ2k) F.ζg vs Heap.empty = .ok (.bool true) H' := by
 obtain ⟨v1, _, rfl, h1, h⟩ := h.head;obtain ⟨v2, _, rfl, h2, h⟩ := h.head;obtain rfl := h.done;obtain ⟨x, rfl, hx⟩ := arg_ipl h1;obtain ⟨ids, rfl, _⟩ := arg_I h2;exact ⟨_, ζnd x hx ids⟩
end Go.Sw
end
section
namespace Go.Sw
open Go.RowKit
theorem ζ47 (g : Nat) (el : TypeId) (fz : Nat × Nat) : ∀ (vs : List Value) (o : Nat) (cs : Array Value) (w : World), w.heap[g]? = some (.cells cs el fz) → o + vs.length ≤ cs.size → w.setCells g o vs = w.setRow g (splice cs.toList o vs).toArray
 | [], o, cs, w, hg, _ => by
  rw [World.setCells];unfold splice;simp only [List.length_nil, Nat.add_zero, List.nil_append, List.take_append_drop, Array.toArray_toList];exact (setRow_self w g cs el fz hg).symm
 | v :: r, o, cs, w, hg, hl => by
  rw [World.setCells, setCell_eq_setRow w g o cs el fz v hg, ζ47 g el fz r (o + 1) (cs.setIfInBounds o v) _ (setRow_heap w g cs _ el fz hg) (by simp at hl ⊢; omega), setRow_setRow];congr 2;have e := list_seg_step cs.toList o v r (by simp at hl ⊢; omega);unfold splice;simpa [Array.toList_setIfInBounds, Nat.add_assoc, Nat.add_comm 1] using e
theorem ζpn (l a b : List Value) (o : Nat) (h : o + a.length + b.length ≤ l.length) : splice (splice l (o + a.length) b) o a = splice l o (a ++ b) := by
 apply List.ext_getElem?;intro j;have h1 : (splice l (o + a.length) b).length = l.length := ζ2o _ _ _ (by omega);rw [ζ3y _ _ _ (by rw [h1]; omega), ζ3y _ _ _ (by omega), ζ3y _ _ _ (by rw [List.length_append]; omega)];rw [List.length_append];by_cases c0 : j < o
 ·have c1 : j < o + a.length := by omega
  simp only [if_pos c0, if_pos c1]
 ·simp only [if_neg c0];by_cases c1 : j < o + a.length
  ·have c3 : j < o + (a.length + b.length) := by omega
   simp only [if_pos c1, if_pos c3];rw [List.getElem?_append_left (by omega)]
  ·simp only [if_neg c1];by_cases c2 : j < o + a.length + b.length
   ·have c3 : j < o + (a.length + b.length) := by omega
    simp only [if_pos c2, if_pos c3];rw [List.getElem?_append_right (by omega), show j - o - a.length = j - (o + a.length) by omega]
   ·have c3 : ¬ j < o + (a.length + b.length) := by omega
    simp only [if_neg c2, if_neg c3]
theorem VRs.cut {μ : Mu} {k : List Value} {cs : Array Value} {base off N : Nat} (h4 : ∀ (i : Nat) v, k[i]? = some v → ∃ v', cs[base + i]? = some v' ∧ VR μ v v') (hk : off + N ≤ k.length) :
  VRs μ ((k.drop off).take N) ((cs.toList.drop (base + off)).take N) := by
 have hcs : ∀ i, i < N → base + off + i < cs.size := fun i hi => by
  obtain ⟨v', e, _⟩ := h4 (off + i) _ (List.getElem?_eq_getElem (by omega));have := (Array.getElem?_eq_some_iff.1 e).1;omega
 refine ⟨?_, fun i v v' hv hv' => ?_⟩
 ·rw [List.length_take, List.length_take, List.length_drop, List.length_drop, Array.length_toList (xs := cs)];by_cases h0 : N = 0
  ·subst h0; simp
  ·have := hcs (N - 1) (by omega);have e1 : N ≤ k.length - off := by omega
   have e2 : N ≤ cs.size - (base + off) := by omega
   rw [Nat.min_eq_left e1, Nat.min_eq_left e2]
 ·rw [List.getElem?_take] at hv hv';split at hv
  ·rename_i hi;rw [if_pos hi, List.getElem?_drop] at hv';rw [List.getElem?_drop] at hv;obtain ⟨u, e, r⟩ := h4 _ v hv;rw [← Nat.add_assoc] at e;simp only [Array.getElem?_toList] at hv';rw [e] at hv';injection hv' with hv';subst hv';exact r
  ·cases hv
structure InsWalk (P : Program) (f : FuncId) (tS e : TypeId) (sz : Nat) (z : Value) : Prop where
 fn : ∃ fn, P.funcs[f]? = some fn ∧ fn.body.isSome = true ∧ (fn.name == "runtime.NumGoroutine") = false
 none_ : ∀ (base : Option Addr) (n c i : Nat) (vb : Option Addr) (vc : Nat) (w : World), i ≤ n → n ≤ c → (base = none → n = 0 ∧ c = 0) → Calls P f #[.slice base n c, .int .i64 (i : Nat), .slice vb 0 vc] w fun e w' => e = .returned (.slice base n c) ∧ w' = w
 end_ : ∀ (base : Option Addr) (n c : Nat) (vb : Option Addr) (m vc : Nat) (w : World) (v' : Value) (w1 : World), n ≤ c → (base = none → n = 0 ∧ c = 0) → 0 < m → (Builtin.append_ #[tS, tS] tS #[.slice base n c, .slice vb m vc]).run P w = .ok v' w1 →
  Calls P f #[.slice base n c, .int .i64 (n : Nat), .slice vb m vc] w fun e w' => e = .returned v' ∧ w' = w1
 shift : ∀ (b off n c i vb voff m vc : Nat) (CS VS : Array Value) (el el2 : TypeId) (cs vs : List Value) (w : World), i < n → 0 < m → n + m ≤ c → n + m ≤ 2 ^ 31 → vb ≠ b → w.heap[b]? = some (.cells CS el (0, 0)) → w.heap[vb]? = some (.cells VS el2 (0, 0)) → off + c * sz ≤ CS.size → voff + m * sz ≤ VS.size →
  cs = (CS.toList.drop off).take (n * sz) → vs = (VS.toList.drop voff).take (m * sz) → Ones cs → Ones vs →
  Calls P f #[.slice (some ⟨b, off, none⟩) n c, .int .i64 (i : Nat), .slice (some ⟨vb, voff, none⟩) m vc] w fun e w' => e = .returned (.slice (some ⟨b, off, none⟩) (n + m) c) ∧ w' = (w.drew.setCells b (off + (i + m) * sz) (cs.drop (i * sz))).setCells b (off + i * sz) vs
 grow : ∀ (b off n c i vb voff m vc : Nat) (CS VS : Array Value) (el el2 : TypeId) (cs vs : List Value) (w : World), i < n → 0 < m → n ≤ c → c < n + m → n + m ≤ 2 ^ 31 → w.heap[b]? = some (.cells CS el (0, 0)) → w.heap[vb]? = some (.cells VS el2 (0, 0)) → off + n * sz ≤ CS.size → voff + m * sz ≤ VS.size →
  cs = (CS.toList.drop off).take (n * sz) → vs = (VS.toList.drop voff).take (m * sz) → Ones cs → Ones vs →
  ∃ G, n + m ≤ G ∧ Calls P f #[.slice (some ⟨b, off, none⟩) n c, .int .i64 (i : Nat), .slice (some ⟨vb, voff, none⟩) m vc] w fun r w' => r = .returned (.slice (some ⟨w.heap.size, 0, none⟩) (n + m) G) ∧
   w' = (((w.alloc (.cells ((cs.take (i * sz)).toArray ++ Builtin.zeroCells z.cells (n + m - i) ++ Builtin.zeroCells z.cells (G - (n + m))) e)).drew.setCells w.heap.size (i * sz) vs).drew).setCells w.heap.size ((i + m) * sz) (cs.drop (i * sz))
theorem ζp3 {μ : Mu} {v v' : Value} {n : Nat} (h : VR μ v v') (hl : lenL v = some n) : ∃ a c, v' = .slice a n c := by
 unfold lenL at hl;split at hl
 ·injection hl with hl; subst hl;cases h <;> exact ⟨_, _, rfl⟩
 ·injection hl with hl; subst hl;cases h <;> exact ⟨_, _, rfl⟩
 ·cases hl
theorem ζo6 {μ : Mu} {base : Option Addr} {n c : Nat} {s' : Value} (h : VR μ (.slice base n c) s') : ∃ base' c', s' = .slice base' n c' ∧ n ≤ c' ∧ (base' = none → n = 0 ∧ c' = 0) := by
 cases h with
 | nilSlice => exact ⟨_, _, rfl, Nat.le_refl _, fun _ => ⟨rfl, rfl⟩⟩
 | slice b off off' len cap cap' m h hl hc ho hx => exact ⟨_, _, rfl, Nat.le_trans hl hc, fun h => by cases h⟩
 | unsure a => exact ⟨_, _, rfl, Nat.le_refl _, fun _ => ⟨rfl, rfl⟩⟩
 | bare a => exact ⟨_, _, rfl, Nat.le_refl _, fun h => by cases h⟩
theorem ζgi (w : World) (A B : Array Value) (e : TypeId) : ((w.alloc (.cells A e)).setRow w.heap.size B).heap = (w.alloc (.cells B e)).heap := by
 have h1 : (w.alloc (.cells A e)).heap[w.heap.size]? = some (.cells A e (0, 0)) := ζ3a _ _;apply Array.ext_getElem?;intro j;by_cases hj : j = w.heap.size
 ·subst hj;rw [setRow_heap _ _ _ _ _ _ h1, ζ3a]
 ·rw [setRow_other _ _ _ _ hj];show (w.heap.push _)[j]? = (w.heap.push _)[j]?;rw [Array.getElem?_push, Array.getElem?_push, if_neg hj, if_neg hj]
set_option maxHeartbeats 1000000 in
theorem ζqo {P : Program} {f : FuncId} {tS e : TypeId} {inf : TypeInfo} {z : Value} {sz bytes : Nat} (ht : P.underlying tS = some (.slice e)) (hi : P.info? e = some inf) (hz : inf.zero = some z) (hzs : z.cells.size = inf.size) (es : inf.size = sz) (eb : inf.bytes = bytes) (h0 : 0 < sz)
  (hW : InsWalk P f tS e sz z) : SpIs P f fun _ args H => insertV sz bytes args H := by
 subst es eb;intro call _ args H hne;refine ⟨hW.fn, fun w0 μ w args' hH hargs => ?_⟩;dsimp only at hne ⊢;unfold insertV at hne ⊢;split at hne;rotate_left
 ·exact absurd rfl hne
 rename_i base n cap i v;obtain ⟨s', r1, rfl, hs, ha⟩ := hargs.cons_inv;obtain ⟨i', r2, rfl, hi', ha⟩ := ha.cons_inv;obtain ⟨v', r3, rfl, hv, ha⟩ := ha.cons_inv;have := ha.nil_inv;subst this;cases hi';obtain ⟨base', cap', rfl, hnc, hnil⟩ := ζo6 hs;cases hl : lenL v with
 | none => rw [hl] at hne; exact absurd rfl hne
 | some q =>
 rw [hl] at hne;obtain ⟨vb', vc', rfl⟩ := ζp3 hv hl;cases q with
 | zero =>
  dsimp only at hne ⊢;split at hne;rotate_left
  ·exact absurd rfl hne
  rename_i hin;rw [if_pos hin];obtain ⟨p, rfl⟩ := Int.eq_ofNat_of_zero_le hin.1;refine (hW.none_ base' n cap' p vb' vc' w (by omega) hnc hnil).mono ?_;rintro _ _ ⟨rfl, rfl⟩;exact ⟨μ, _, Mu.le_refl _, hH, hs, rfl⟩
 | succ q =>
  dsimp only at hne ⊢;split at hne
  ·rename_i hin;rw [if_pos hin];subst hin;unfold apR at hne ⊢;dsimp only at hne ⊢;rw [ζbg hl] at hne ⊢;dsimp only at hne ⊢;cases hr : appendK inf.size inf.bytes inf.size (q + 1) base n cap v H with
   | stuck => rw [hr] at hne; exact absurd rfl hne
   | panic u H' =>
    exfalso;revert hr;unfold appendK
    repeat' split
    all_goals (intro h; cases h)
   | ok u H' =>
    obtain ⟨μ', u', w1, e1, e2, e3, e4⟩ := ζbu (ty := tS) hH ht (.inl ⟨e, ht⟩) hi hz hs hv (ζbg hl) (by rw [hzs]; exact hr);refine (hW.end_ base' n cap' vb' (q + 1) vc' w u' w1 hnc hnil (by omega) e1).mono ?_;rintro _ _ ⟨rfl, rfl⟩;exact ⟨μ', u', e2, e3, e4, rfl⟩
  ·rename_i hin;rw [if_neg hin];split at hne;rotate_left
   ·exact absurd rfl hne
   rename_i b off c voff m vcap _;split at hne;rotate_left
   ·exact absurd rfl hne
   rename_i k kc hk hkc;split at hne;rotate_left
   ·exact absurd rfl hne
   rename_i hcond;rw [if_pos hcond];obtain ⟨c1, c2, c3, c4, c5, c6, c7, c8, c9, c10, c11⟩ := hcond;obtain ⟨p, rfl⟩ := Int.eq_ofNat_of_zero_le c1;have hpn : p < n := by omega
   cases hs with
   | slice _ _ off' _ _ cap' M hM hl1 hc1 ho1 hx1 =>
   cases hv with
   | slice _ _ voff' _ _ vcap' Mc hMc hl2 hc2 ho2 hx2 =>
   have hm0 : 0 < q + 1 := by omega
   generalize q + 1 = m at *;have ho1 := ho1.resolve_left (by omega);have ho2 := ho2.resolve_left (by omega);subst ho1 ho2;obtain ⟨M', hM', bM⟩ := hH.blk b k hk;rw [hM] at hM'; injection hM' with hM'; subst hM';obtain ⟨Mc', hMc', bMc⟩ := hH.blk c kc hkc;rw [hMc] at hMc'; injection hMc' with hMc'; subst hMc';obtain ⟨CS, el, fz, g1, g2, g3, g4⟩ := bM.here;obtain ⟨VS, el2, fz2, f1, f2, f3, f4⟩ := bMc.here;have g2 := g2 c6;have f2 := f2 c10;subst g2 f2;have hesz : M.esz = inf.size := bM.esz.trans c7;have hext := bM.ext;have hext2 := bMc.ext;have hroomx : off + cap' * inf.size ≤ M.ext := by
    rcases hx1 with h | h | h
    ·rw [h]; omega
    ·rw [bM.ro, c6] at h; cases h
    ·rw [hesz] at h; exact h
   have hne2 : Mc.blk ≠ M.blk := hH.other hk hkc hM hMc c6 c9;have hnsz : n * inf.size ≤ cap * inf.size := Nat.mul_le_mul_right _ c3;have hps : p * inf.size ≤ n * inf.size := Nat.mul_le_mul_right _ (by omega);have kcut := VRs.cut (N := n * inf.size) (off := off) (base := M.base) g4 (by omega);have vcut := VRs.cut (N := m * inf.size) (off := voff) (base := Mc.base) f4 (by omega);have ko : Ones ((k.cells.drop off).take (n * inf.size)) := (bM.ones.drop _).take _;have vo : Ones ((kc.cells.drop voff).take (m * inf.size)) := (bMc.ones.drop _).take _;have ko' := kcut.ones ko;have vo' := vcut.ones vo;have kl : ((k.cells.drop off).take (n * inf.size)).length = n * inf.size := by rw [List.length_take, List.length_drop]; omega
   have vl : ((kc.cells.drop voff).take (m * inf.size)).length = m * inf.size := by rw [List.length_take, List.length_drop]; omega
   have kl' := kcut.1.symm.trans kl;have vl' := vcut.1.symm.trans vl;obtain ⟨cs, hcs⟩ : ∃ cs, cs = (CS.toList.drop (M.base + off)).take (n * inf.size) := ⟨_, rfl⟩
   obtain ⟨vs, hvs⟩ : ∃ vs, vs = (VS.toList.drop (Mc.base + voff)).take (m * inf.size) := ⟨_, rfl⟩
   rw [← hcs] at kcut ko' kl';rw [← hvs] at vcut vo' vl';have hd : HR w0 μ H w.drew := hH.drew rfl rfl rfl rfl;have e1 : (n + m) * inf.size = n * inf.size + m * inf.size := Nat.add_mul _ _ _;have e2 : (p + m) * inf.size = p * inf.size + m * inf.size := Nat.add_mul _ _ _;have hdl : (cs.drop (p * inf.size)).length = n * inf.size - p * inf.size := by rw [List.length_drop, kl']
   by_cases hroom : n + m ≤ cap'
   ·
    have hnm : (n + m) * inf.size ≤ cap' * inf.size := Nat.mul_le_mul_right _ hroom;refine (hW.shift M.blk (M.base + off) n cap' p Mc.blk (Mc.base + voff) m vc' CS VS el el2 cs vs w hpn (by omega) hroom c4 hne2 g1 f1 (by omega) (by omega) hcs hvs ko' vo').mono ?_;rintro _ _ ⟨rfl, rfl⟩;have hsr : (w.drew.setCells M.blk (M.base + off + (p + m) * inf.size) (cs.drop (p * inf.size))).setCells M.blk (M.base + off + p * inf.size) vs = w.drew.setRow M.blk (splice CS.toList (M.base + off + p * inf.size) (vs ++ cs.drop (p * inf.size))).toArray := by
     rw [ζ47 M.blk el (0, 0) _ _ CS w.drew g1 (by omega)];have hsl : (splice CS.toList (M.base + off + (p + m) * inf.size) (cs.drop (p * inf.size))).length = CS.size := by rw [ζ2o _ _ _ (by rw [Array.length_toList (xs := CS)]; omega)]; simp
     rw [ζ47 M.blk el (0, 0) _ _ _ _ (setRow_heap w.drew M.blk CS _ el (0, 0) g1) (by rw [List.size_toArray, hsl]; omega), setRow_setRow];congr 2;rw [List.toList_toArray, ← ζpn CS.toList vs (cs.drop (p * inf.size)) (M.base + off + p * inf.size) (by rw [Array.length_toList (xs := CS)]; omega), vl', e2, Nat.add_assoc (M.base + off)]
    rw [hsr];obtain ⟨i1, i2⟩ := ζnp (size := inf.size) (off := off) (p := p * inf.size) hd hk hM c6 c7 g1 (by omega) (vcut.append (kcut.drop (p * inf.size))) (vo.append (ko.drop _)) (by rw [List.length_append, hdl, vl']; omega) g3;refine ⟨_, _, i1, ?_, ?_, rfl⟩
    ·rw [Int.toNat_natCast, List.take_take, Nat.min_eq_left hps];exact i2
    ·have := VR.slice (μ := μ.set H.n ⟨M.blk, M.base + off, M.ext - off, inf.size, false⟩) H.n 0 (M.base + off) (n + m) (n + m) cap' ⟨M.blk, M.base + off, M.ext - off, inf.size, false⟩ (by simp [Mu.set]) (Nat.le_refl _) hroom (.inr rfl) (.inr (.inr (by dsimp only; omega)));exact this
   ·obtain ⟨G, hG, hcall⟩ := hW.grow M.blk (M.base + off) n cap' p Mc.blk (Mc.base + voff) m vc' CS VS el el2 cs vs w hpn (by omega) hnc (by omega) c4 g1 f1 (by omega) (by omega) hcs hvs ko' vo';refine hcall.mono ?_;rintro _ _ ⟨rfl, rfl⟩;have hGs : (n + m) * inf.size ≤ G * inf.size := Nat.mul_le_mul_right _ hG;obtain ⟨ROW, hROW⟩ : ∃ ROW : Array Value, ROW = (cs.take (p * inf.size)).toArray ++ Builtin.zeroCells z.cells (n + m - p) ++ Builtin.zeroCells z.cells (G - (n + m)) := ⟨_, rfl⟩
    have hRl : ROW.size = G * inf.size := by
     rw [hROW];simp only [Array.size_append, List.size_toArray, size_zeroCells, hzs, Nat.sub_mul, Nat.add_mul, List.length_take, kl'];omega
    rw [← hROW];obtain ⟨FIN, hFIN⟩ : ∃ FIN : List Value, FIN = splice (splice ROW.toList (p * inf.size) vs) ((p + m) * inf.size) (cs.drop (p * inf.size)) := ⟨_, rfl⟩
    have hs1 : (splice ROW.toList (p * inf.size) vs).length = ROW.size := by rw [ζ2o _ _ _ (by rw [Array.length_toList (xs := ROW)]; omega)]; simp
    have hFl : FIN.length = G * inf.size := by rw [hFIN, ζ2o _ _ _ (by rw [hs1]; omega), hs1, hRl]
    have hN : (w.alloc (.cells ROW e)).drew.heap[w.heap.size]? = some (.cells ROW e (0, 0)) := ζ3a _ _;have hw : ((((w.alloc (.cells ROW e)).drew.setCells w.heap.size (p * inf.size) vs).drew).setCells w.heap.size ((p + m) * inf.size) (cs.drop (p * inf.size))) = ((w.alloc (.cells ROW e)).drew.setRow w.heap.size (splice ROW.toList (p * inf.size) vs).toArray).drew.setRow w.heap.size FIN.toArray := by
     rw [ζ47 w.heap.size e (0, 0) _ _ ROW _ hN (by omega)];have hN2 : ((w.alloc (.cells ROW e)).drew.setRow w.heap.size (splice ROW.toList (p * inf.size) vs).toArray).drew.heap[w.heap.size]? = some (.cells (splice ROW.toList (p * inf.size) vs).toArray e (0, 0)) := setRow_heap _ _ _ _ _ _ hN;rw [ζ47 w.heap.size e (0, 0) _ _ _ _ hN2 (by rw [List.size_toArray, hs1]; omega), hFIN]
    rw [hw];have hheap : (((w.alloc (.cells ROW e)).drew.setRow w.heap.size (splice ROW.toList (p * inf.size) vs).toArray).drew.setRow w.heap.size FIN.toArray).heap = (w.alloc (.cells FIN.toArray e)).heap := by
     have h1 : (((w.alloc (.cells ROW e)).drew.setRow w.heap.size (splice ROW.toList (p * inf.size) vs).toArray).drew.setRow w.heap.size FIN.toArray).heap = (((w.alloc (.cells ROW e)).setRow w.heap.size (splice ROW.toList (p * inf.size) vs).toArray).setRow w.heap.size FIN.toArray).heap := rfl;rw [h1, setRow_setRow];exact ζgi _ _ _ _
    have hkill := hH.kill hk;have hnew := kcut.take (p * inf.size);have hall : VRs μ (((k.cells.drop off).take (n * inf.size)).take (p * inf.size) ++ ((kc.cells.drop voff).take (m * inf.size) ++ ((k.cells.drop off).take (n * inf.size)).drop (p * inf.size))) (cs.take (p * inf.size) ++ (vs ++ cs.drop (p * inf.size))) := hnew.append (vcut.append (kcut.drop _))
    have hal := hkill.alloc (((k.cells.drop off).take (n * inf.size)).take (p * inf.size) ++ ((kc.cells.drop voff).take (m * inf.size) ++ ((k.cells.drop off).take (n * inf.size)).drop (p * inf.size))) FIN.toArray e inf.size (G * inf.size) (by rw [List.size_toArray, hFl]; exact Nat.le_refl _)
     (by
      simp only [List.length_append, List.length_take, List.length_drop];omega)
     ((ko.take _).append (vo.append (ko.drop _)))
     (fun j u hj => by
      obtain ⟨u', e', r⟩ := hall.get hj;refine ⟨u', ?_, r⟩;have hjl : j < (cs.take (p * inf.size) ++ (vs ++ cs.drop (p * inf.size))).length := (List.getElem?_eq_some_iff.1 e').1;simp only [List.length_append, List.length_take, kl', hdl, vl'] at hjl;have htl : (cs.take (p * inf.size)).length = p * inf.size := by rw [List.length_take, kl']; omega
      rw [List.getElem?_toArray, hFIN, ζ3y _ _ _ (by rw [hs1]; omega), ζ3y ROW.toList (p * inf.size) vs (by rw [Array.length_toList (xs := ROW)]; omega)];by_cases d1 : j < p * inf.size
      ·rw [List.getElem?_append_left (by omega)] at e';rw [if_pos (show j < (p + m) * inf.size by omega), if_pos d1, hROW];simp only [Array.getElem?_toList];rw [Array.append_assoc, Array.getElem?_append_left (by simp only [List.size_toArray]; omega)];simpa using e'
      ·rw [List.getElem?_append_right (by omega), htl] at e';by_cases d2 : j < (p + m) * inf.size
       ·rw [List.getElem?_append_left (by omega)] at e';rw [if_pos d2, if_neg d1, if_pos (by omega)];exact e'
       ·rw [List.getElem?_append_right (by omega), vl'] at e';rw [if_neg d2, if_pos (by omega), show j - (p + m) * inf.size = j - p * inf.size - m * inf.size by omega];exact e')
    have hn : (H.set b none).n = H.n := Heap.n_set _ _ _;rw [hn] at hal;refine ⟨μ.set H.n ⟨w.heap.size, 0, G * inf.size, inf.size, false⟩, _, Mu.le_set (μ := μ) hH.dom _, ?_, ?_, rfl⟩
    ·rw [Int.toNat_natCast];exact hal.drew hheap rfl rfl rfl
    ·exact VR.slice H.n 0 0 (n + m) (n + m) G ⟨w.heap.size, 0, G * inf.size, inf.size, false⟩ (by simp [Mu.set]) (Nat.le_refl _) hG (.inr rfl) (.inr (.inr (by dsimp only; omega)))
end Go.Sw
end
section
namespace Go.Sw
open Go.RowKit Go.Proofs Go.Lib
theorem cp_wp {P : Program} {w : World} {o : Oper} {a : Act} {K : Act → World → Prop} {Q : Exit → Act → World → Prop} {d s : Operand} {t t' : TypeId} (ho : o.op = .call { callee := .builtin .copy, args := #[d, s], argTypes := #[t, t'] }) {v u v' : Value} {w' : World} (hd : a.eval d = v) (hs : a.eval s = u)
  (hr : (Builtin.copy_ #[t, t'] o.type #[v, u]).run P w = .ok v' w') (h : K (a.put o.dst v') w') : o.wp P a w K Q := by
 refine wp_value (v := v') (w' := w') ?_ h;simp [execOp, ho, resolve, invoke, builtin, hd, hs, hr, Result.andThen]
theorem cp_list {P : Program} {w : World} {ops : Array Oper} {rest : List Oper} {o : Oper} {a : Act} {Q : Exit → Act → World → Prop} (hgd : o.guard = none) {d s : Operand} {t t' : TypeId} (ho : o.op = .call { callee := .builtin .copy, args := #[d, s], argTypes := #[t, t'] }) {v u v' : Value} {w' : World} (hd : a.eval d = v) (hs : a.eval s = u)
  (hr : (Builtin.copy_ #[t, t'] o.type #[v, u]).run P w = .ok v' w') (h : wpList P ops Q rest (a.put o.dst v') w') : wpList P ops Q (o :: rest) a w :=
 wpList_plain hgd fun _ hK => cp_wp ho hd hs hr (hK _ _ h)
theorem cp_step {P : Program} {ops : Array Oper} {o : Oper} {a : Act} {w : World} {K : Act → World → Prop} {Q : Exit → Act → World → Prop} {E : Prop} (hg : o.guard = none) {d s : Operand} {t t' : TypeId} (ho : o.op = .call { callee := .builtin .copy, args := #[d, s], argTypes := #[t, t'] }) {v u v' : Value} {w' : World} (hd : a.eval d = v) (hs : a.eval s = u)
  (hr : (Builtin.copy_ #[t, t'] o.type #[v, u]).run P w = .ok v' w') (h : K (a.put o.dst v') w') : if Region.wanted o (yielded ops a.tmps) = true then Oper.wp P o a w K Q else E := by
 have hw : Region.wanted o (yielded ops a.tmps) = true := by simp [Region.wanted, hg]
 rw [if_pos hw];exact cp_wp ho hd hs hr h
theorem ζdb {P : Program} (w : World) (dT sT ty elem : TypeId) (b o dLen dCap : Nat) (a : Addr) (sLen sCap sz : Nat) (cs : List Value)
  (hu : P.underlying dT = some (.slice elem)) (hs : (P.info? elem).map (·.size) = some sz) (hn : cs.length = Nat.min sLen dLen * sz)
  (hsrc : ∀ j v, cs[j]? = some v → w.cell? (a.add j) = some v) (hc : ∀ j, j < cs.length → (w.cell? ⟨b, o + j, none⟩).isSome = true) (hf : ∀ j, j < cs.length → w.frozen? ⟨b, o + j, none⟩ = false) (h1 : ∀ v ∈ cs, v.oneCell' = true) :
  (Builtin.copy_ #[dT, sT] ty #[.slice (some ⟨b, o, none⟩) dLen dCap, .slice (some a) sLen sCap]).run P w = .ok (goInt (Nat.min sLen dLen)) (w.setCells b o cs) := by
 have hl := run_loadCells_list (P := P) w a cs hsrc;have hst := run_storeCells_cells (P := P) b o cs 0 w (by simpa using hc) (by simpa using hf) h1;cases hq : P.info? elem with
 | none => simp [hq] at hs
 | some i =>
  have hi : i.size = sz := by simpa [hq] using hs
  rw [hn] at hl;simp [Builtin.copy_, run_underlying hu, Builtin.lenOf, Builtin.firstCells, sizeOf, typeInfo, hq, hi, hl, hst]
theorem insT : Prog.underlying 48 = some (.slice 115) := by kernel_rfl
theorem insZ : (Prog.info? 115).map (·.size) = some 2 := by kernel_rfl
theorem insI : (Prog.info? 115).map (fun i => (i.zero, i.size, i.bytes)) = some (some (.agg #[.int .i64 0, .int .i64 0]), 2, 16) := by kernel_rfl
set_option maxRecDepth 100000 in
set_option maxHeartbeats 4000000 in
theorem ins_none (base : Option Addr) (n c i : Nat) (vb : Option Addr) (vc : Nat) (w : World) (hi : i ≤ n) (hn : n ≤ c) (hb : base = none → n = 0 ∧ c = 0) :
  Calls Prog 244 #[.slice base n c, .int .i64 (i : Nat), .slice vb 0 vc] w fun e w' => e = .returned (.slice base n c) ∧ w' = w := by
 go_enter Try.func244, Try.ntmps244
 cases base with
 | none =>
  obtain ⟨rfl, rfl⟩ := hb rfl;obtain rfl : i = 0 := by omega
  go_wp2
  go_ret
  exact ⟨rfl, rfl⟩
 | some a =>
  obtain ⟨ab, ao, asp⟩ := a
  go_wp2
  all_goals (go_ret; exact ⟨rfl, rfl⟩)
set_option maxRecDepth 100000 in
set_option maxHeartbeats 4000000 in
theorem ins_end (base : Option Addr) (n c : Nat) (vb : Option Addr) (m vc : Nat) (w : World) (v' : Value) (w1 : World) (hn : n ≤ c) (hb : base = none → n = 0 ∧ c = 0) (hm : 0 < m) (hr : (Builtin.append_ #[48, 48] 48 #[.slice base n c, .slice vb m vc]).run Prog w = .ok v' w1) :
  Calls Prog 244 #[.slice base n c, .int .i64 (n : Nat), .slice vb m vc] w fun e w' => e = .returned v' ∧ w' = w1 := by
 have hz1 : ¬ ((m : Int) = 0) := by omega
 go_enter Try.func244, Try.ntmps244
 cases base with
 | none =>
  obtain ⟨rfl, rfl⟩ := hb rfl
  go_wp2_with (at_builtin; refine Lib.wpList_append_run _ rfl _ _ _ _ rfl _ _ rfl rfl _ _ hr ?_)
  go_ret
  exact ⟨rfl, rfl⟩
 | some a =>
  obtain ⟨ab, ao, asp⟩ := a
  go_wp2_with (at_builtin; refine Lib.wpList_append_run _ rfl _ _ _ _ rfl _ _ rfl rfl _ _ hr ?_)
  all_goals (go_ret; exact ⟨rfl, rfl⟩)
set_option maxRecDepth 100000 in
set_option maxHeartbeats 4000000 in
theorem ζqm (b off n c i vb voff m vc : Nat) (CS VS : Array Value) (el el2 : TypeId) (cs vs : List Value) (w : World) (hi : i < n) (hm : 0 < m) (hroom : n + m ≤ c) (h31 : n + m ≤ 2 ^ 31) (hvb : vb ≠ b) (g1 : w.heap[b]? = some (.cells CS el (0, 0))) (g2 : w.heap[vb]? = some (.cells VS el2 (0, 0))) (f1 : off + c * 2 ≤ CS.size) (f2 : voff + m * 2 ≤ VS.size)
  (hcs : cs = (CS.toList.drop off).take (n * 2)) (hvs : vs = (VS.toList.drop voff).take (m * 2)) (h1c : Ones cs) (h1v : Ones vs) :
  Calls Prog 244 #[.slice (some ⟨b, off, none⟩) n c, .int .i64 (i : Nat), .slice (some ⟨vb, voff, none⟩) m vc] w fun e w' => e = .returned (.slice (some ⟨b, off, none⟩) (n + m) c) ∧ w' = (w.drew.setCells b (off + (i + m) * 2) (cs.drop (i * 2))).setCells b (off + i * 2) vs := by
 have hz1 : ¬ ((m : Int) = 0) := by omega
 have hz2 : ¬ ((i : Int) = (n : Int)) := by omega
 have hz3 : ¬ (c : Int) < (n : Int) + (m : Int) := by omega
 have hcl : cs.length = n * 2 := by rw [hcs, List.length_take, List.length_drop, Array.length_toList]; omega
 have hvl : vs.length = m * 2 := by rw [hvs, List.length_take, List.length_drop, Array.length_toList]; omega
 have cellB : ∀ j, w.cell? ⟨b, j, none⟩ = CS[j]? := fun j => by simp [World.cell?, g1]
 have cellV : ∀ j, w.cell? ⟨vb, j, none⟩ = VS[j]? := fun j => by simp [World.cell?, g2]
 have frB : ∀ j, w.frozen? ⟨b, j, none⟩ = false := fun j => by simp [World.frozen?, g1]
 have frV : ∀ j, w.frozen? ⟨vb, j, none⟩ = false := fun j => by simp [World.frozen?, g2]
 have atB : ∀ j v, cs[j]? = some v → w.cell? ⟨b, off + j, none⟩ = some v := fun j v hj => by
  rw [cellB];rw [hcs, List.getElem?_take] at hj;split at hj
  ·rw [List.getElem?_drop] at hj;simpa using hj
  ·cases hj
 have atV : ∀ j v, vs[j]? = some v → w.cell? ⟨vb, voff + j, none⟩ = some v := fun j v hj => by
  rw [cellV];rw [hvs, List.getElem?_take] at hj;split at hj
  ·rw [List.getElem?_drop] at hj;simpa using hj
  ·cases hj
 have hsa : w.shape? vb = some (el2, VS.size) := by simp [World.shape?, g2]
 have hsb : w.shape? b = some (el, CS.size) := by simp [World.shape?, g1]
 have hov : ∀ lb cb, (callFunc 248 #[.slice (some ⟨vb, voff, none⟩) m vc, .slice (some ⟨b, off + (i + m) * 2, none⟩) lb cb]).run Prog w = .ok (.value (.bool false)) w := fun lb cb => by
  rw [run_callFunc_extern (f := 248) (fn := Try.f248) Try.func248 (by kernel_rfl) (by kernel_rfl) (by kernel_rfl) (e := Extern.SlicesOverlaps.overlaps #[48, 48] #[4]) (by kernel_rfl),
   Lib.run_overlaps_apart w 48 4 115 insT 2 (fun w => by kernel_rfl) ⟨vb, voff, none⟩ ⟨b, off + (i + m) * 2, none⟩ m vc lb cb hvb el2 el VS.size CS.size hsa hsb (by omega) (frV _) (frV _)]
  rfl
 have hdl : (cs.drop (i * 2)).length = (n - i) * 2 := by rw [List.length_drop, hcl]; omega
 have hw1 : IntKind.i64.wrap ((i : Int) + (m : Int)) = (i : Int) + (m : Int) := by rw [IntKind.wrap_i64]; omega
 have hw2 : IntKind.i64.wrap ((n : Int) + (m : Int)) = (n : Int) + (m : Int) := by rw [IntKind.wrap_i64]; omega
 have hb1 : (0 : Int) ≤ (i : Int) + (m : Int) := by omega
 have hb1' : (0 : Int) ≤ (n : Int) + (m : Int) := by omega
 have hin : i ≤ n := by omega
 have htn : ((i : Int) + (m : Int)).toNat = i + m := by omega
 have htn' : ((n : Int) + (m : Int)).toNat = n + m := by omega
 have hb2 : ¬ (c = i + m) := by omega
 have hb3 : (i : Int) ≤ (n : Int) + (m : Int) := by omega
 have hb4 : ¬ (c = i) := by omega
 have hcp1 : ∀ ty dc sc, (Builtin.copy_ #[48, 48] ty #[.slice (some ⟨b, off + (i + m) * 2, none⟩) (n + m - (i + m)) dc, .slice (some ⟨b, off + i * 2, none⟩) (n + m - i) sc]).run Prog w.drew = .ok (goInt (Nat.min (n + m - i) (n + m - (i + m)))) (w.drew.setCells b (off + (i + m) * 2) (cs.drop (i * 2))) := fun ty dc sc =>
  ζdb w.drew 48 48 ty 115 b (off + (i + m) * 2) (n + m - (i + m)) dc ⟨b, off + i * 2, none⟩ (n + m - i) sc 2 (cs.drop (i * 2)) insT insZ (by rw [hdl, show Nat.min (n + m - i) (n + m - (i + m)) = n - i by simp only [Nat.min_def]; split <;> omega])
   (fun j v hj => by rw [Addr.add_lit, Nat.add_assoc]; exact atB (i * 2 + j) v (by rwa [List.getElem?_drop] at hj))
   (fun j hj => by
    show (w.cell? _).isSome = true;rw [cellB, Array.getElem?_eq_getElem (by omega)]; rfl) (fun j hj => frB _) (fun v hv => h1c v (List.mem_of_mem_drop hv))
 obtain ⟨W1, hW1⟩ : ∃ W1, W1 = w.drew.setCells b (off + (i + m) * 2) (cs.drop (i * 2)) := ⟨_, rfl⟩
 have hW1r : W1 = w.drew.setRow b (splice CS.toList (off + (i + m) * 2) (cs.drop (i * 2))).toArray := by rw [hW1]; exact ζ47 b el (0, 0) _ _ CS w.drew g1 (by omega)
 have hW1b : W1.heap[b]? = some (.cells (splice CS.toList (off + (i + m) * 2) (cs.drop (i * 2))).toArray el (0, 0)) := by rw [hW1r]; exact setRow_heap _ _ _ _ _ _ g1
 have hspl : (splice CS.toList (off + (i + m) * 2) (cs.drop (i * 2))).length = CS.size := by rw [ζ2o _ _ _ (by rw [Array.length_toList (xs := CS)]; omega)]; simp
 have hcp2 : ∀ (W : World), (∀ x, W.cell? x = W1.cell? x) → (∀ x, W.frozen? x = W1.frozen? x) → ∀ ty dc, (Builtin.copy_ #[48, 48] ty #[.slice (some ⟨b, off + i * 2, none⟩) (n + m - i) dc, .slice (some ⟨vb, voff, none⟩) m vc]).run Prog W = .ok (goInt (Nat.min m (n + m - i))) (W.setCells b (off + i * 2) vs) := fun W hWc hWf ty dc =>
  ζdb W 48 48 ty 115 b (off + i * 2) (n + m - i) dc ⟨vb, voff, none⟩ m vc 2 vs insT insZ (by rw [hvl, show Nat.min m (n + m - i) = m by simp only [Nat.min_def]; split <;> omega])
   (fun j v hj => by
    rw [Addr.add_lit, hWc, hW1, World.cell?_setCells_out b _ _ _ _ (fun h _ => absurd h hvb)];exact atV j v hj)
   (fun j hj => by
    rw [hWc];simp only [World.cell?, hW1b];rw [Array.getElem?_eq_getElem (by rw [List.size_toArray, hspl]; omega)]; rfl) (fun j hj => by rw [hWf]; simp [World.frozen?, hW1b]) h1v
 rw [← hW1] at hcp1;clear hcs hvs
 go_enter Try.func244, Try.ntmps244
 go_wp2_with (simp only [hov])
 go_region_law (refine cp_step rfl rfl (by simp [Act.eval, Act.put]) (by simp [Act.eval, Act.put]) (hcp1 _ _ _) ?_)
 go_wp2_with (at_builtin; refine cp_list rfl rfl rfl rfl (hcp2 _ (fun _ => rfl) (fun _ => rfl) _ _) ?_)
 go_ret
 first | exact ⟨rfl, rfl⟩ | exact ⟨rfl, by rw [hW1]⟩
set_option maxRecDepth 100000 in
set_option maxHeartbeats 4000000 in
theorem ins_grow (b off n c i vb voff m vc : Nat) (CS VS : Array Value) (el el2 : TypeId) (cs vs : List Value) (w : World) (hi : i < n) (hm : 0 < m) (hnc : n ≤ c) (hroom : c < n + m) (h31 : n + m ≤ 2 ^ 31) (g1 : w.heap[b]? = some (.cells CS el (0, 0))) (g2 : w.heap[vb]? = some (.cells VS el2 (0, 0))) (f1 : off + n * 2 ≤ CS.size) (f2 : voff + m * 2 ≤ VS.size)
  (hcs : cs = (CS.toList.drop off).take (n * 2)) (hvs : vs = (VS.toList.drop voff).take (m * 2)) (h1c : Ones cs) (h1v : Ones vs) :
  ∃ G, n + m ≤ G ∧ Calls Prog 244 #[.slice (some ⟨b, off, none⟩) n c, .int .i64 (i : Nat), .slice (some ⟨vb, voff, none⟩) m vc] w fun r w' => r = .returned (.slice (some ⟨w.heap.size, 0, none⟩) (n + m) G) ∧
   w' = (((w.alloc (.cells ((cs.take (i * 2)).toArray ++ Builtin.zeroCells (Value.agg #[.int .i64 0, .int .i64 0]).cells (n + m - i) ++ Builtin.zeroCells (Value.agg #[.int .i64 0, .int .i64 0]).cells (G - (n + m))) 115)).drew.setCells w.heap.size (i * 2) vs).drew).setCells w.heap.size ((i + m) * 2) (cs.drop (i * 2)) := by
 refine ⟨grownCap w (n + m) c 115, grownCap_ge w _ _ _, ?_⟩;obtain ⟨i0, hi0, hz0, hzs, hzb⟩ := info_parts insI;have hz1 : ¬ ((m : Int) = 0) := by omega
 have hz2 : ¬ ((i : Int) = (n : Int)) := by omega
 have hz3 : (c : Int) < (n : Int) + (m : Int) := by omega
 have hcl : cs.length = n * 2 := by rw [hcs, List.length_take, List.length_drop, Array.length_toList]; omega
 have hvl : vs.length = m * 2 := by rw [hvs, List.length_take, List.length_drop, Array.length_toList]; omega
 have cellB : ∀ j, w.cell? ⟨b, j, none⟩ = CS[j]? := fun j => by simp [World.cell?, g1]
 have cellV : ∀ j, w.cell? ⟨vb, j, none⟩ = VS[j]? := fun j => by simp [World.cell?, g2]
 have atB : ∀ j v, cs[j]? = some v → w.cell? ⟨b, off + j, none⟩ = some v := fun j v hj => by
  rw [cellB];rw [hcs, List.getElem?_take] at hj;split at hj
  ·rw [List.getElem?_drop] at hj;simpa using hj
  ·cases hj
 have atV : ∀ j v, vs[j]? = some v → w.cell? ⟨vb, voff + j, none⟩ = some v := fun j v hj => by
  rw [cellV];rw [hvs, List.getElem?_take] at hj;split at hj
  ·rw [List.getElem?_drop] at hj;simpa using hj
  ·cases hj
 have hbw : b < w.heap.size := (Array.getElem?_eq_some_iff.1 g1).1;have hvw : vb < w.heap.size := (Array.getElem?_eq_some_iff.1 g2).1;have hkk : (n : Int) + (m : Int) - (i : Int) = ((n + m - i : Nat) : Int) := by omega
 have hik : i + (n + m - i) = n + m := by omega
 have hold : (Builtin.firstCells i0.size i (.slice (some ⟨b, off, none⟩) i c)).run Prog w.drew = .ok (cs.take (i * 2)).toArray w.drew := by
  rw [hzs];exact run_firstCells_some w.drew 2 i ⟨b, off, none⟩ i c (cs.take (i * 2)) (by rw [List.length_take]; omega) (fun j v hj => by
   rw [Addr.add_lit];rw [List.getElem?_take] at hj;split at hj
   ·exact atB j v hj
   ·cases hj)
 have hfit : Builtin.nextslicecap (n + m) c * i0.bytes ≤ 281474976710656 := by
  rw [hzb];exact growslice_fits hroom (by omega)
 have hrz : ∀ ty, (Builtin.append_ #[48, 3] ty #[.slice (some ⟨b, off, none⟩) i c, .int .i64 ((n : Int) + (m : Int) - (i : Int))]).run Prog w =
   .ok (.slice (some ⟨w.heap.size, 0, none⟩) (n + m) (grownCap w (n + m) c 115)) (w.drew.alloc (.cells ((cs.take (i * 2)).toArray ++ Builtin.zeroCells (Value.agg #[.int .i64 0, .int .i64 0]).cells (n + m - i) ++ Builtin.zeroCells (Value.agg #[.int .i64 0, .int .i64 0]).cells (grownCap w (n + m) c 115 - (n + m))) 115)) := fun ty => by
  have h := Lib.run_append_grow_zeros w 48 3 ty 115 i0 _ .i64 .i64 insT (by kernel_rfl) hi0 hz0 (some ⟨b, off, none⟩) i c (cs.take (i * 2)) hold (n + m - i) (by omega) (by omega) (by omega) (by omega) (by rw [hzb]; omega) (by rw [hik]; exact hfit);rw [hik] at h;rw [hkk];exact h
 obtain ⟨G, hG⟩ : ∃ G, G = grownCap w (n + m) c 115 := ⟨_, rfl⟩
 obtain ⟨ROW, hROW⟩ : ∃ ROW : Array Value, ROW = (cs.take (i * 2)).toArray ++ Builtin.zeroCells (Value.agg #[.int .i64 0, .int .i64 0]).cells (n + m - i) ++ Builtin.zeroCells (Value.agg #[.int .i64 0, .int .i64 0]).cells (G - (n + m)) := ⟨_, rfl⟩
 rw [← hG] at hrz ⊢;rw [← hROW] at hrz ⊢;have hGn : n + m ≤ G := by rw [hG]; exact grownCap_ge w _ _ _
 have hRl : (n + m) * 2 ≤ ROW.size := by
  rw [hROW];simp only [Array.size_append, List.size_toArray, size_zeroCells, List.length_take, hcl];show _ ≤ _ + (n + m - i) * 2 + (G - (n + m)) * 2;omega
 obtain ⟨W1, hW1⟩ : ∃ W1, W1 = w.drew.alloc (.cells ROW 115) := ⟨_, rfl⟩
 rw [← hW1] at hrz;have hNh : W1.heap[w.heap.size]? = some (.cells ROW 115 (0, 0)) := by rw [hW1]; exact ζ3a _ _
 have hN : ∀ j, j < (n + m) * 2 → (W1.cell? ⟨w.heap.size, j, none⟩).isSome = true := fun j hj => by
  simp only [World.cell?, hNh];rw [Array.getElem?_eq_getElem (by omega)]; rfl
 have hNf : ∀ j, W1.frozen? ⟨w.heap.size, j, none⟩ = false := fun j => by simp [World.frozen?, hNh]
 have hOb : ∀ j v, w.cell? ⟨b, j, none⟩ = some v → W1.cell? ⟨b, j, none⟩ = some v := fun j v h => by rw [hW1, World.cell?_alloc_past (w := w.drew) _ b j hbw]; exact h
 have hOv : ∀ j v, w.cell? ⟨vb, j, none⟩ = some v → W1.cell? ⟨vb, j, none⟩ = some v := fun j v h => by rw [hW1, World.cell?_alloc_past (w := w.drew) _ vb j hvw]; exact h
 have hcpA : ∀ (W : World), (∀ x, W.cell? x = W1.cell? x) → (∀ x, W.frozen? x = W1.frozen? x) → ∀ ty dc, (Builtin.copy_ #[48, 48] ty #[.slice (some ⟨w.heap.size, i * 2, none⟩) (n + m - i) dc, .slice (some ⟨vb, voff, none⟩) m vc]).run Prog W = .ok (goInt (Nat.min m (n + m - i))) (W.setCells w.heap.size (i * 2) vs) := fun W hWc hWf ty dc =>
  ζdb W 48 48 ty 115 w.heap.size (i * 2) (n + m - i) dc ⟨vb, voff, none⟩ m vc 2 vs insT insZ (by rw [hvl, show Nat.min m (n + m - i) = m by simp only [Nat.min_def]; split <;> omega])
   (fun j v hj => by rw [Addr.add_lit, hWc]; exact hOv _ v (atV j v hj))
   (fun j hj => by rw [hWc]; exact hN _ (by omega)) (fun j hj => by rw [hWf]; exact hNf _) h1v
 have hG63 : G ≤ 9223372036854775807 := by
  have := grownCap_le_maxLen w (n + m) c 115 (by unfold maxLen; omega);rw [← hG] at this;unfold maxLen at this;omega
 have hGi : ¬ (G = i) := by omega
 have hGim : ¬ (G = i + m) := by omega
 have hci : ¬ (c = i) := by omega
 have hbN : b ≠ w.heap.size := by omega
 have hdl : (cs.drop (i * 2)).length = (n - i) * 2 := by rw [List.length_drop, hcl]; omega
 have hcpB : ∀ (W : World), (∀ x, W.cell? x = (W1.setCells w.heap.size (i * 2) vs).cell? x) → (∀ x, W.frozen? x = (W1.setCells w.heap.size (i * 2) vs).frozen? x) → ∀ ty dc sc, (Builtin.copy_ #[48, 48] ty #[.slice (some ⟨w.heap.size, (i + m) * 2, none⟩) (n + m - (i + m)) dc, .slice (some ⟨b, off + i * 2, none⟩) (n - i) sc]).run Prog W = .ok (goInt (Nat.min (n - i) (n + m - (i + m)))) (W.setCells w.heap.size ((i + m) * 2) (cs.drop (i * 2))) := fun W hWc hWf ty dc sc =>
  ζdb W 48 48 ty 115 w.heap.size ((i + m) * 2) (n + m - (i + m)) dc ⟨b, off + i * 2, none⟩ (n - i) sc 2 (cs.drop (i * 2)) insT insZ (by rw [hdl, show Nat.min (n - i) (n + m - (i + m)) = n - i by simp only [Nat.min_def]; split <;> omega])
   (fun j v hj => by
    rw [Addr.add_lit, hWc, World.cell?_setCells_out _ _ _ _ _ (fun h _ => absurd h hbN), Nat.add_assoc];exact hOb _ v (atB (i * 2 + j) v (by rwa [List.getElem?_drop] at hj)))
   (fun j hj => by
    rw [hWc, ζ47 w.heap.size 115 (0, 0) _ _ ROW W1 hNh (by omega)];simp only [World.cell?, setRow_heap _ _ _ _ _ _ hNh];rw [Array.getElem?_eq_getElem (by rw [List.size_toArray, ζ2o _ _ _ (by rw [Array.length_toList (xs := ROW)]; omega), Array.length_toList (xs := ROW)]; omega)]; rfl)
   (fun j hj => by rw [hWf, World.frozen?_setCells]; exact hNf _) (fun v hv => h1c v (List.mem_of_mem_drop hv))
 subst hW1;have hE1 : ∀ x, ((w.alloc (.cells ROW 115)).drew).cell? x = (w.drew.alloc (.cells ROW 115)).cell? x := fun x => rfl;have hE2 : ∀ x, ((w.alloc (.cells ROW 115)).drew).frozen? x = (w.drew.alloc (.cells ROW 115)).frozen? x := fun x => rfl;have hF1 : ∀ x, (((w.alloc (.cells ROW 115)).drew.setCells w.heap.size (i * 2) vs).drew).cell? x = ((w.drew.alloc (.cells ROW 115)).setCells w.heap.size (i * 2) vs).cell? x := fun x => rfl;have hF2 : ∀ x, (((w.alloc (.cells ROW 115)).drew.setCells w.heap.size (i * 2) vs).drew).frozen? x = ((w.drew.alloc (.cells ROW 115)).setCells w.heap.size (i * 2) vs).frozen? x := fun x => rfl;have hw1 : IntKind.i64.wrap ((i : Int) + (m : Int)) = (i : Int) + (m : Int) := by rw [IntKind.wrap_i64]; omega
 have hw2 : IntKind.i64.wrap ((n : Int) + (m : Int)) = (n : Int) + (m : Int) := by rw [IntKind.wrap_i64]; omega
 have hw3 : IntKind.i64.wrap ((n : Int) + (m : Int) - (i : Int)) = (n : Int) + (m : Int) - (i : Int) := by rw [IntKind.wrap_i64]; omega
 have hb1 : (0 : Int) ≤ (i : Int) + (m : Int) := by omega
 have hin : i ≤ n := by omega
 have htn : ((i : Int) + (m : Int)).toNat = i + m := by omega
 have hb3 : (i : Int) ≤ (n : Int) := by omega
 clear hkk hik hold hROW hG hRl hN hNf hNh cellB cellV;clear hcs hvs
 go_enter Try.func244, Try.ntmps244
 go_wp2_with (first
  | (at_builtin; refine Lib.wpList_append_run _ rfl _ _ _ _ rfl _ _ rfl rfl _ _ (hrz _) ?_)
  | (at_builtin; refine cp_list rfl rfl rfl rfl (hcpA _ hE1 hE2 _ _) ?_)
  | (at_builtin; refine cp_list rfl rfl rfl rfl (hcpB _ (fun _ => rfl) (fun _ => rfl) _ _ _) ?_))
 go_region_law (refine cp_step rfl rfl (v := .slice (some ⟨w.heap.size, (i + m) * 2, none⟩) (n + m - (i + m)) (G - (i + m))) (u := .slice (some ⟨b, off + i * 2, none⟩) (n - i) (c - i)) (by simp [Act.eval, Act.put]) (by simp [Act.eval, Act.put]) (hcpB _ hF1 hF2 _ (G - (i + m)) (c - i)) ?_)
 go_wp2
 go_ret
 exact ⟨rfl, rfl⟩
theorem ins_walk : InsWalk Prog 244 48 115 2 (.agg #[.int .i64 0, .int .i64 0]) :=
 ⟨⟨Try.f244, Try.func244, by kernel_rfl, by kernel_rfl⟩, ins_none, ins_end, ζqm, ins_grow⟩
theorem ζoz : SpIs Prog F.ζh fun _ args H => insertV 2 16 args H := by
 obtain ⟨i0, hi0, hz0, hzs, hzb⟩ := info_parts insI;exact ζqo (inf := i0) insT hi0 hz0 (by rw [hzs]; rfl) hzs hzb (by decide) ins_walk
end Go.Sw
end
section
namespace Go.Sw
open Go.RowKit
theorem names_ok : NamesOk Prog := NamesOk.of (by kernel_rfl)
theorem mixed_ok : Prog.follows .mixedOrders = true := Checked.mixed Go.Proofs.Try.checked
theorem laid_ok : laidOutB Prog = true := by kernel_rfl
theorem ζq9 : SpIs Prog F.ζn fun _ args H => cloneV 3 12 args H :=
 clone_is (c := { P := Prog, kp := kpS, sp := fun _ => none }) names_ok mixed_ok (t := 70) (e := 91) (by kernel_rfl) fun call a H => (ζ3m 0 _ call a H).trans (by
  unfold ζn cloneF;simp only [be_70_0, ap_70, beR_bare])
theorem ζq8 : SpIs Prog F.ζ7 fun _ args H => cloneV 2 16 args H :=
 clone_is (c := { P := Prog, kp := kpS, sp := fun _ => none }) names_ok mixed_ok (t := 48) (e := 115) (by kernel_rfl) fun call a H => (ζ3l 0 _ call a H).trans (by
  unfold ζ7 cloneF;simp only [be_48_0, ap_48, beR_bare])
theorem ζqa : SpIs Prog F.ζo fun _ args H => cloneV 2 40 args H :=
 clone_is (c := { P := Prog, kp := kpS, sp := fun _ => none }) names_ok mixed_ok (t := 167) (e := 165) (by kernel_rfl) fun call a H => (ζ3n 0 _ call a H).trans (by
  unfold ζo cloneF;simp only [be_167_0, ap_167, beR_bare])
theorem more_is (f : FuncId) (s : Sp) (h : moreS f = some s) : SpIs Prog f s := by
 unfold moreS at h;cases h0 : Nat.beq f 35 with
 | true => have := Nat.eq_of_beq_eq_true h0; subst this; rw [h0, cond_true] at h; injection h with h; subst h; exact try_is
 | false =>
 rw [h0, cond_false] at h;cases h1 : Nat.beq f 104 with
 | true => have := Nat.eq_of_beq_eq_true h1; subst this; rw [h1, cond_true] at h; injection h with h; subst h; exact ζq8
 | false =>
 rw [h1, cond_false] at h;cases h2 : Nat.beq f 118 with
 | true => have := Nat.eq_of_beq_eq_true h2; subst this; rw [h2, cond_true] at h; injection h with h; subst h; exact ζq9
 | false =>
 rw [h2, cond_false] at h;cases h3 : Nat.beq f 159 with
 | true => have := Nat.eq_of_beq_eq_true h3; subst this; rw [h3, cond_true] at h; injection h with h; subst h; exact ζqa
 | false =>
 rw [h3, cond_false] at h;cases h4 : Nat.beq f 244 with
 | true => have := Nat.eq_of_beq_eq_true h4; subst this; rw [h4, cond_true] at h; injection h with h; subst h; exact ζoz
 | false =>
 rw [h4, cond_false] at h;cases h
theorem T_prog (k : Nat) : (T k).c.P = Prog := by unfold T C; rfl
theorem told_ok {k m : Nat} (hsp : okTrue (run (baseCfg Prog kpS moreS) m (k % 1000000) [] Heap.empty) = true) : SpOk (T k).c := by
 have h0 : CallOk Prog (run (baseCfg Prog kpS moreS) m) := run_ok (c := baseCfg Prog kpS moreS) names_ok mixed_ok (SpOk.base more_is) m;have h1 : SpOk (C k) := by
  unfold C;exact SpOk.of (P := Prog) (kp := kpS) (speaks := speaksT) (more := moreS) (k := k % 1000000) h0 hsp more_is
 exact h1
end Go.Sw
end
