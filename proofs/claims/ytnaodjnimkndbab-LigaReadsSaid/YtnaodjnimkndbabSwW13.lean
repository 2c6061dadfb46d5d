/-
  Functions' forms, and what is proved of them, part 13.
-/
import Derived.Test.YtnaodjnimkndbabSwW10
import Derived.Test.YtnaodjnimkndbabSwW12
import Derived.Test.YtnaodjnimkndbabSwW4
import Derived.Test.YtnaodjnimkndbabSwW8
import Derived.Test.YtnaodjnimkndbabSwLib8
import Derived.Eval
set_option linter.unusedSimpArgs false
set_option linter.unusedVariables false
set_option linter.unusedSectionVars false
section
namespace Go.Sw
open Go.RowKit
theorem ζn6 {b : List Int} {g : Int} {t : LTab} (h : ligaS b g = some t) : machS b g 1 = some t.m := by
 unfold ligaS at h;obtain ⟨m, hm, h⟩ := Option.bind_eq_some_iff.1 h;obtain ⟨a, ha, h⟩ := Option.bind_eq_some_iff.1 h;obtain ⟨c, hc, h⟩ := Option.bind_eq_some_iff.1 h;obtain ⟨l, hL, h⟩ := Option.bind_eq_some_iff.1 h;split at h
 ·injection h with h;subst h;exact hm
 ·cases h
theorem veq_17 (r : RMach) (a c l : List Int) : veq (.agg (r17C r a c l).toArray) (.agg (r17C r a c l).toArray) = true := veq_agg (l := r17C r a c l) fun v hv => by
 simp at hv;rcases hv with rfl | rfl | rfl | rfl | rfl | rfl | rfl | rfl | rfl | rfl | rfl | rfl <;> first | exact veq_B _ | exact veq_RP _ | simp
set_option maxHeartbeats 2000000 in
theorem ζk8 (b : List Int) (hb : Byt b) (gn : Int) (ids : List Int) : R (T F.ζ2k) F.ζj [lv encB b, .int .i64 gn, lv encI ids] Heap.empty = .ok (.bool true) Heap.empty := by
 generalize hk : F.ζ2k = k;have hs := ζlr k (by subst hk; rfl);have hk6 : k < 1000000 := by subst hk; decide
 clear hk;rw [ζa2];generalize Heap.empty = H;by_cases hl : b.length > 800
 ·have hl' : (b.length : Int) > 800 := by omega
  refine nrm_gc ⟨_, ?_, Ext.refl H⟩ (.bool _);simp -implicitDefEqProofs (disch := omega) [ζj, hs, hl']
 have hl' : ¬ (b.length : Int) > 800 := by omega
 by_cases hi : ids.length > 60
 ·have hi' : (ids.length : Int) > 60 := by omega
  refine nrm_gc ⟨_, ?_, Ext.refl H⟩ (.bool _);simp -implicitDefEqProofs (disch := omega) [ζj, hs, hl', hi']
 have hi' : ¬ (ids.length : Int) > 60 := by omega
 have hrd := fun H' => ζlh k (H := H') (Sl.lv H' 1 b) hb gn (by omega) (fun hg H' => ζlj k hk6 b hb gn hg (by omega) H');unfold ligaO ligaN at hrd;by_cases g1 : gn < 1
 ·rw [if_neg (by omega), if_neg (by omega)] at hrd;simp only [ligaP] at hrd;refine nrm_gc ⟨_, ?_, Ext.refl H⟩ (.bool _);simp -implicitDefEqProofs (disch := omega) [ζj, hs, hl', hi', hrd, g1]
 by_cases g2 : gn > 65535
 ·rw [if_neg (by omega), if_neg (by omega)] at hrd;simp only [ligaP] at hrd;refine nrm_gc ⟨_, ?_, Ext.refl H⟩ (.bool _);simp -implicitDefEqProofs (disch := omega) [ζj, hs, hl', hi', hrd, g1, g2]
 have hg : 1 ≤ gn ∧ gn ≤ 65535 := by omega
 rw [if_pos hg, if_pos hg] at hrd;obtain ⟨r, ra, rc, rl, hrr, hrs⟩ := ζl0 k b hb gn hg (by omega) H;cases h : ligaS b gn with
 | none =>
  rw [h] at hrd hrr;simp only [ligaP, Option.isSome_none, Bool.false_eq_true, if_false] at hrd hrr;refine nrm_gc ⟨_, ?_, (Ext.refl H).push ⟨r17C r ra rc rl, 1, false⟩⟩ (.bool _);simp -implicitDefEqProofs (disch := omega) [ζj, hs, hl', hi', hrd, g1, g2, hrr]
 | some t =>
  obtain ⟨rfl, rfl, rfl, rfl⟩ := hrs t h;rw [h] at hrd hrr;simp only [ligaP, Option.isSome_some, if_true] at hrd hrr;have hok := ligaS_ok hb (by omega) (by omega) (by omega) h;have g := (Star.nil H).push ⟨r17C (rmOf b gn 1 t.m) t.acts t.comps t.ligs, 1, false⟩;simp only [List.nil_append, List.cons_append] at g;obtain ⟨c2, o2, H2, e2, g⟩ := ζlm k g ids (by omega);simp only [List.nil_append, List.cons_append] at g;obtain ⟨H3, e3, g⟩ := ζli k t hok g 1 rfl (by simp; omega);simp only [List.set_cons_zero, List.set_cons_succ] at g;have b0 := g.get 0 rfl;have hveq := veq_17 (rmOf b gn 1 t.m) t.acts t.comps t.ligs;have hn11 := fun H' => ζom k ids (by omega) H';have hrun := fun H' => ζqb k hb (by omega) hg t hok (ζn6 h) (newG ids) (by rw [newG_len]; omega) H';have hlen := runL_len t hok.m (newG ids);rw [newG_len] at hlen;generalize runL t (newG ids) = rr at e3 g hrun hlen;have a1 := ζjz k hk6 g 1 rfl (by omega);have hsame := fun H' => Same_run k (Rd.lv encG_len H' rr.1) (Rd.lv encG_len H' rr.1) (by omega) (by omega);refine nrm_gc ⟨H3, ?_, g.ext⟩ (.bool _);simp -implicitDefEqProofs (disch := omega) [ζj, hs, hl', hi', hrd, g1, g2, hrr, e2, e3, b0, hn11, hrun, a1, hsame, hveq]
theorem ζjn (vs : List Value) (h : ArgsLay [.one (.slice [.int .u8]), .one (.int .i64), .one (.slice [.int .i64])] vs) : ∃ H', R (T F.ζ2k) F.ζj vs Heap.empty = .ok (.bool true) H' := by
 obtain ⟨v1, _, rfl, h1, h⟩ := h.head;obtain ⟨v2, _, rfl, h2, h⟩ := h.head;obtain ⟨v3, _, rfl, h3, h⟩ := h.head;obtain rfl := h.done;obtain ⟨b, rfl, hb⟩ := arg_B h1;obtain ⟨g, rfl, _⟩ := arg_i h2;obtain ⟨ids, rfl, _⟩ := arg_I h3;exact ⟨_, ζk8 b hb g ids⟩
end Go.Sw
end
section
namespace Go.Sw
open Go.RowKit
theorem names_ok : NamesOk Prog := NamesOk.of (by kernel_rfl)
theorem mixed_ok : Prog.follows .mixedOrders = true := Checked.mixed Go.Proofs.Try.checked
theorem laid_ok : laidOutB Prog = true := by kernel_rfl
theorem ζpf : SpIs Prog F.ζl fun _ args H => cloneV 3 12 args H :=
 clone_is (c := { P := Prog, kp := kpS, sp := fun _ => none }) names_ok mixed_ok (t := 70) (e := 91) (by kernel_rfl) fun call a H => (ζ3n 0 _ call a H).trans (by
  unfold ζl cloneF;simp only [be_70_0, ap_70, beR_bare])
theorem ζpe : SpIs Prog F.ζ6 fun _ args H => cloneV 2 16 args H :=
 clone_is (c := { P := Prog, kp := kpS, sp := fun _ => none }) names_ok mixed_ok (t := 48) (e := 115) (by kernel_rfl) fun call a H => (ζ3m 0 _ call a H).trans (by
  unfold ζ6 cloneF;simp only [be_48_0, ap_48, beR_bare])
theorem ζpg : SpIs Prog F.ζm fun _ args H => cloneV 2 40 args H :=
 clone_is (c := { P := Prog, kp := kpS, sp := fun _ => none }) names_ok mixed_ok (t := 167) (e := 165) (by kernel_rfl) fun call a H => (ζ3o 0 _ call a H).trans (by
  unfold ζm cloneF;simp only [be_167_0, ap_167, beR_bare])
theorem more_is (f : FuncId) (s : Sp) (h : moreS f = some s) : SpIs Prog f s := by
 unfold moreS at h;cases h0 : Nat.beq f 35 with
 | true => have := Nat.eq_of_beq_eq_true h0; subst this; rw [h0, cond_true] at h; injection h with h; subst h; exact try_is
 | false =>
 rw [h0, cond_false] at h;cases h1 : Nat.beq f 104 with
 | true => have := Nat.eq_of_beq_eq_true h1; subst this; rw [h1, cond_true] at h; injection h with h; subst h; exact ζpe
 | false =>
 rw [h1, cond_false] at h;cases h2 : Nat.beq f 118 with
 | true => have := Nat.eq_of_beq_eq_true h2; subst this; rw [h2, cond_true] at h; injection h with h; subst h; exact ζpf
 | false =>
 rw [h2, cond_false] at h;cases h3 : Nat.beq f 159 with
 | true => have := Nat.eq_of_beq_eq_true h3; subst this; rw [h3, cond_true] at h; injection h with h; subst h; exact ζpg
 | false =>
 rw [h3, cond_false] at h;cases h4 : Nat.beq f 244 with
 | true =>
  rw [h4, cond_true] at h; injection h with h; subst h; exact SpIs.stuck _ _
 | false =>
 rw [h4, cond_false] at h;cases h
theorem T_prog (k : Nat) : (T k).c.P = Prog := by unfold T C; rfl
theorem told_ok {k m : Nat} (hsp : okTrue (run (baseCfg Prog kpS moreS) m (k % 1000000) [] Heap.empty) = true) : SpOk (T k).c := by
 have h0 : CallOk Prog (run (baseCfg Prog kpS moreS) m) := run_ok (c := baseCfg Prog kpS moreS) names_ok mixed_ok (SpOk.base more_is) m;have h1 : SpOk (C k) := by
  unfold C;exact SpOk.of (P := Prog) (kp := kpS) (speaks := speaksT) (more := moreS) (k := k % 1000000) h0 hsp more_is
 exact h1
end Go.Sw
end
