/-
  Functions' forms, and what is proved of them, part 8.
-/
import Derived.Test.YtnaodjnimkndbabSwW6
import Derived.Test.YtnaodjnimkndbabSwW4
import Derived.Test.YtnaodjnimkndbabSwW7
import Derived.Test.YtnaodjnimkndbabSwW3
import Derived.Test.YtnaodjnimkndbabSwW5
set_option linter.unusedSimpArgs false
set_option linter.unusedVariables false
set_option linter.unusedSectionVars false
section
namespace Go.Sw
open Go.RowKit
abbrev insC (t : ITab) : List Value := [machV t.m, lv encB t.list]
abbrev insV (t : ITab) : Value := boxV (insC t).toArray
theorem Flat.insT (t : ITab) : Flat (insV t) := .boxV (.cons (Flat.mach t.m) (.cons (Flat.B _) .nil))
theorem shr5 (P : Program) (t : TypeId) (H : Heap) (a : Int) : binR P .shr t (.int .i64 a) (.int .u64 5) H = .ok (.int .i64 (a / 32)) H := by
 have h : a / 32 = a.fdiv 32 := (Int.fdiv_eq_ediv_of_nonneg a (by decide)).symm;rw [h];rfl
theorem counts_run (k : Nat) (e : En) (hf : 0 ≤ e.flags ∧ e.flags < 65536) (H : Heap) : R (T k) F.ins_counts [encE e] H = .ok (.tuple #[.int .i64 (hereS e), .int .i64 (markS e)]) H := by
 rw [ins_counts_R];have hx : Ext H (H.push ⟨encEn e, 1, false⟩) := (Ext.refl H).push _;have a1 := fun H => and5 Prog 3 H hf.1 hf.2;have a2 := fun H => and5 Prog 3 H (a := e.flags / 32) (by omega) (by omega);refine nrm_gc ⟨_, ?_, hx⟩ (Flat.tupleL (l := [.int .i64 (hereS e), .int .i64 (markS e)]) (.cons (.int _ _) (.cons (.int _ _) .nil))).alive;unfold hereS markS;by_cases c1 : e.a = 65535
 ·have c1' : (e.a != 65535) = false := by rw [c1]; rfl
  by_cases c2 : e.b = 65535
  ·have c2' : (e.b != 65535) = false := by rw [c2]; rfl
   simp -implicitDefEqProofs (disch := omega) [ins_counts, c1', ins_counts_j2_eq, c2', ins_counts_j4_eq, c1, c2]
  ·have c2' : (e.b != 65535) = true := by rw [bne_iff_ne]; exact c2
   simp -implicitDefEqProofs (disch := omega) [ins_counts, c1', ins_counts_j2_eq, c2', a1, ins_counts_j3_eq, c1, c2]
 ·have c1' : (e.a != 65535) = true := by rw [bne_iff_ne]; exact c1
  by_cases c2 : e.b = 65535
  ·have c2' : (e.b != 65535) = false := by rw [c2]; rfl
   simp -implicitDefEqProofs (disch := omega) [ins_counts, c1', shr5, a2, ins_counts_j1_eq, c2', ins_counts_j4_eq, c1, c2]
  ·have c2' : (e.b != 65535) = true := by rw [bne_iff_ne]; exact c2
   simp -implicitDefEqProofs (disch := omega) [ins_counts, c1', shr5, a2, ins_counts_j1_eq, c2', a1, ins_counts_j3_eq, c1, c2]
theorem hereS_le {e : En} (hf : 0 ≤ e.flags) : 0 ≤ hereS e ∧ hereS e ≤ 31 := by unfold hereS; split <;> omega
theorem markS_le {e : En} (hf : 0 ≤ e.flags) : 0 ≤ markS e ∧ markS e ≤ 31 := by unfold markS; split <;> omega
set_option maxHeartbeats 1000000 in
theorem insTake_l1 (k : Nat) {ls : List Int} (hl : ls.length < 2 ^ 31) {p : Nat} {es : List En} (hes : ∀ e, e ∈ es → (0 ≤ e.a ∧ e.a < 65536) ∧ (0 ≤ e.flags ∧ e.flags < 65536) ∧ 0 ≤ e.b ∧ e.b < 65536) (hel : es.length < 2 ^ 40) {m : Value} {H : Heap} (hp : H.get p = some ⟨[m, lv encB ls], 1, false⟩) :
  (∃ H', loopN (ins_Take_l1 k (R (T k))) loopFuel [(5, ptrV p), (23, lv encEn es), (24, .int .i64 es.length), (25, .int .i64 0)] H = .ok (.exit 0, [(5, ptrV p), (23, lv encEn es), (24, .int .i64 es.length), (25, .int .i64 es.length), (26, .bool false)]) H' ∧ Ext H H' ∧ es.all (entIn ls) = true) ∨
  (∃ H', loopN (ins_Take_l1 k (R (T k))) loopFuel [(5, ptrV p), (23, lv encEn es), (24, .int .i64 es.length), (25, .int .i64 0)] H = .panic failV H' ∧ Ext H H' ∧ es.all (entIn ls) = false) := by
 rcases loop_upP (body := ins_Take_l1 k (R (T k))) es.length
  (fun j e' H' => e' = [(5, ptrV p), (23, lv encEn es), (24, .int .i64 es.length), (25, .int .i64 j)] ∧ Ext H H' ∧ (es.take j).all (entIn ls) = true)
  (fun xx e' H' => xx = .exit 0 ∧ e' = [(5, ptrV p), (23, lv encEn es), (24, .int .i64 es.length), (25, .int .i64 es.length), (26, .bool false)] ∧ Ext H H' ∧ es.all (entIn ls) = true)
  (fun v H' => v = failV ∧ Ext H H' ∧ es.all (entIn ls) = false)
  (fun j e' H' hj ⟨he', hx, hall⟩ => by
   subst he';have hjl : (j : Int) < es.length := by omega
   obtain ⟨en, hen⟩ : ∃ en, es[j]? = some en := ⟨_, List.getElem?_eq_getElem hj⟩
   have hmem := List.mem_of_getElem? hen;obtain ⟨hea, hf, heb⟩ := hes en hmem;have i1 := fun H' => ixS_lvN encEn_len es .i64 j en hen H';have hx2 : Ext H (H'.push ⟨encEn en, 1, false⟩) := hx.push _;have hpg := hx2.get hp;have hcn : ¬ p = H'.n := by have := Heap.get_lt (hx.get hp); omega
   have hp' := hx.get hp;have hcnt := fun H => counts_run k en hf H;have r1 := fun H => Rows_lv k ls (2 * en.a) (hereS en) 2 (by omega) H;have r2 := fun H => Rows_lv k ls (2 * en.b) (markS en) 2 (by omega) H;have no : entIn ls en = false → es.all (entIn ls) = false := fun h => by
    rw [Bool.eq_false_iff];intro h2;have := List.all_eq_true.1 h2 en hmem;rw [h] at this;cases this
   have yes : entIn ls en = true → (es.take (j + 1)).all (entIn ls) = true := fun h => by
    rw [take_snoc hen, List.all_append, hall];simp [h]
   have hE : entIn ls en = ((decide (hereS en ≤ 0) || (rowsS ls (2 * en.a) (hereS en) 2).isSome) && (decide (markS en ≤ 0) || (rowsS ls (2 * en.b) (markS en) 2).isSome)) := rfl;by_cases c1 : hereS en > 0
   ·rw [decide_eq_false (show ¬ hereS en ≤ 0 by omega)] at hE;cases h1 : rowsS ls (2 * en.a) (hereS en) 2 with
    | none =>
     rw [h1] at hE r1;refine .inr (.inr ⟨failV, _, ?_, rfl, hx2, no (by rw [hE]; rfl)⟩);rw [ins_Take_l1_eq];simp -implicitDefEqProofs (disch := omega) [hjl, i1, hcnt, c1, hp', hcn, r1, orF]
    | some x1 =>
     rw [h1] at hE r1;by_cases c2 : markS en > 0
     ·rw [decide_eq_false (show ¬ markS en ≤ 0 by omega)] at hE;cases h2 : rowsS ls (2 * en.b) (markS en) 2 with
      | none =>
       rw [h2] at hE r2;refine .inr (.inr ⟨failV, _, ?_, rfl, hx2, no (by rw [hE]; rfl)⟩);rw [ins_Take_l1_eq];simp -implicitDefEqProofs (disch := omega) [hjl, i1, hcnt, c1, hp', hcn, r1, orF, ins_Take_j1_eq, c2, r2]
      | some x2 =>
       rw [h2] at hE r2;refine .inl ⟨_, _, ?_, rfl, hx2, yes (by rw [hE]; rfl)⟩;rw [ins_Take_l1_eq];simp -implicitDefEqProofs (disch := omega) [hjl, i1, hcnt, c1, hp', hcn, r1, orF, ins_Take_j1_eq, c2, r2, ins_Take_j3_eq]
     ·rw [decide_eq_true (show markS en ≤ 0 by omega)] at hE;refine .inl ⟨_, _, ?_, rfl, hx2, yes (by rw [hE]; rfl)⟩;rw [ins_Take_l1_eq];simp -implicitDefEqProofs (disch := omega) [hjl, i1, hcnt, c1, hp', hcn, r1, orF, ins_Take_j1_eq, c2, ins_Take_j4_eq]
   ·rw [decide_eq_true (show hereS en ≤ 0 by omega)] at hE;by_cases c2 : markS en > 0
    ·rw [decide_eq_false (show ¬ markS en ≤ 0 by omega)] at hE;cases h2 : rowsS ls (2 * en.b) (markS en) 2 with
     | none =>
      rw [h2] at hE r2;refine .inr (.inr ⟨failV, _, ?_, rfl, hx2, no (by rw [hE]; rfl)⟩);rw [ins_Take_l1_eq];simp -implicitDefEqProofs (disch := omega) [hjl, i1, hcnt, c1, hp', hcn, orF, ins_Take_j2_eq, c2, r2]
     | some x2 =>
      rw [h2] at hE r2;refine .inl ⟨_, _, ?_, rfl, hx2, yes (by rw [hE]; rfl)⟩;rw [ins_Take_l1_eq];simp -implicitDefEqProofs (disch := omega) [hjl, i1, hcnt, c1, hp', hcn, orF, ins_Take_j2_eq, c2, r2, ins_Take_j3_eq]
    ·rw [decide_eq_true (show markS en ≤ 0 by omega)] at hE;refine .inl ⟨_, _, ?_, rfl, hx2, yes (by rw [hE]; rfl)⟩;rw [ins_Take_l1_eq];simp -implicitDefEqProofs (disch := omega) [hjl, i1, hcnt, c1, hp', hcn, ins_Take_j2_eq, c2, ins_Take_j4_eq])
  (fun e' H' ⟨he', hx, hall⟩ => by
   subst he';rw [List.take_length] at hall;refine .inl ⟨.exit 0, _, H', ?_, by simp, rfl, rfl, hx, hall⟩;rw [ins_Take_l1_eq];simp -implicitDefEqProofs) loopFuel 0 [(5, ptrV p), (23, lv encEn es), (24, .int .i64 es.length), (25, .int .i64 0)] H (Nat.zero_le _) (by unfold loopFuel; omega) ⟨rfl, Ext.refl _, rfl⟩ with ⟨xx, e', H1, hr, rfl, rfl, hx, hE⟩ | ⟨v, H1, hr, rfl, hx, hE⟩
 ·exact .inl ⟨H1, hr, hx, hE⟩
 ·exact .inr ⟨H1, hr, hx, hE⟩
theorem insTake_run (k : Nat) (hk : k < 1000000) (b : List Int) (hb : Byt b) (g : Int) (hg : 1 ≤ g ∧ g ≤ 65535) (hl : b.length < 2 ^ 31) (H : Heap) : R (T k) F.ins_Take [vwB b, .int .i64 g] H = orF (insS b g) insV H := by
 rw [ins_Take_R];have hx : Ext H (H.push ⟨[lv encB b], 1, false⟩) := (Ext.refl H).push _;have hvb : veq (vwB b) (vwB b) = true := veq_agg (l := [lv encB b]) fun u hu => by simp at hu; subst hu; exact veq_B b
 refine fz_orF ?_ fun _ _ => (Flat.insT _).alive;unfold insS;simp -implicitDefEqProofs (disch := omega) [ins_Take];refine Cp.callT (stateTake_run k (Sl.lv _ 1 b) hb g 2 hg.1 hg.2 (.inr (.inr rfl)) hl) (fun _ => ⟨_, by simp -implicitDefEqProofs (disch := omega) [hvb], hx⟩) fun m hm => ?_;have hok := machS_ok hb hg.1 hg.2 (by omega) hm;simp -implicitDefEqProofs (disch := omega) [hvb];refine Cp.callT (U32_run k (Sl.lv _ 1 b) hb 16 (by omega)) (fun _ => ⟨_, by simp -implicitDefEqProofs (disch := omega) [hvb], hx⟩) fun p hp => ?_;have hp := uS_four hb hp;simp -implicitDefEqProofs (disch := omega) [hvb];refine Cp.callT (Rest_lv k b p (by omega) (by omega) _) (fun _ => ⟨_, by simp -implicitDefEqProofs (disch := omega) [hvb], hx⟩) fun ls hls => ?_;have lls := restS_len hls;have hent := fun H' => Entries_run k hk m hok.elen H';have hes : ∀ e, e ∈ m.ents → (0 ≤ e.a ∧ e.a < 65536) ∧ (0 ≤ e.flags ∧ e.flags < 65536) ∧ 0 ≤ e.b ∧ e.b < 65536 := fun e he => by have := hok.ent e he; omega
 have hx2 : Ext H ((H.push ⟨[lv encB b], 1, false⟩).push ⟨[machV m, lv encB ls], 1, false⟩) := hx.push _;have hpg : ((H.push ⟨[lv encB b], 1, false⟩).push ⟨[machV m, lv encB ls], 1, false⟩).get (H.n + 1) = some ⟨[machV m, lv encB ls], 1, false⟩ := get_push_eq _ _ _ (by simp);simp -implicitDefEqProofs (disch := omega) [hvb, hent];rcases insTake_l1 k (ls := ls) (by omega) hes (by have := hok.elen; omega) hpg with ⟨H2, e2, hx3, hall⟩ | ⟨H2, e2, hx3, hall⟩
 ·rw [if_pos (List.all_eq_true.1 hall)];simp -implicitDefEqProofs (disch := omega) [e2, ins_Take_l1k_x0];refine .ok (hx2.trans hx3) ?_;exact ⟨_, fz_box (by omega) (hx3.get hpg) (mapF_cons (v := machV m) (u := machV m) (L1 := []) rfl (mapF_one (v := lv encB ls) (u := lv encB ls) (L := []) rfl))⟩
 ·rw [if_neg (fun hc => by rw [List.all_eq_true.2 hc] at hall; cases hall)];simp -implicitDefEqProofs (disch := omega) [e2];exact ⟨H2, rfl, hx2.trans hx3⟩
end Go.Sw
end
section
namespace Go.Sw
open Go.RowKit
def insP (o : Option ITab) : Value := match o with | some t => insV t | none => .pointer none
theorem insP_flat (o : Option ITab) : Flat (insP o) := by
 cases o with
 | none => exact .nilPtr
 | some t => exact Flat.insT t
theorem ins_in1_run (k : Nat) {H : Heap} (b : List Int) (hb : Byt b) (g : Int) (hg : 1 ≤ g ∧ g ≤ 65535) (hl : b.length < 2 ^ 31) (p2 p3 p4 : Nat) (old : Value)
  (h2 : H.get p2 = some ⟨[lv encB b], 1, false⟩) (h3 : H.get p3 = some ⟨[.int .i64 g], 1, false⟩) (h4 : H.get p4 = some ⟨[old], 1, false⟩) (ht : ∀ H', R (T k) F.ins_Take [vwB b, .int .i64 g] H' = orF (insS b g) insV H') :
  R (T k) F.ins_Read_in1 [ptrV p2, ptrV p3, ptrV p4] H = match insS b g with
   | some t => .ok (.tuple #[]) (H.set p4 (some ⟨[insV t], 1, false⟩))
   | none => .panic failV H := by
 rw [ins_Read_in1_R];have ht := ht H;cases h : insS b g with
 | none =>
  rw [h] at ht;refine nrm_throw ⟨H, ?_, Ext.refl H⟩ Flat.fail.alive;simp -implicitDefEqProofs (disch := omega) [ins_Read_in1, h2, h3, ht]
 | some x =>
  rw [h] at ht;simp -implicitDefEqProofs (disch := omega) [ins_Read_in1, h2, h3, h4, ht]
def insO (b : List Int) (g : Int) : Option ITab := if 1 ≤ g ∧ g ≤ 65535 then insS b g else none
def insN (b : List Int) (g : Int) : Int := if 1 ≤ g ∧ g ≤ 65535 then (if (insS b g).isSome then 0 else 2) else 1
theorem insRead_run (k : Nat) {H : Heap} {v : Value} {b : List Int} (hv : Sl H 1 v encB b) (hb : Byt b) (g : Int) (hl : b.length ≤ 2 ^ 30) (ht : (1 ≤ g ∧ g ≤ 65535) → ∀ H', R (T k) F.ins_Take [vwB b, .int .i64 g] H' = orF (insS b g) insV H') :
  R (T k) F.ins_Read [v, .int .i64 g] H = .ok (.tuple #[insP (insO b g), .int .i64 (insN b g)]) H := by
 rw [ins_Read_R];have hx2 := (Ext.refl H).push ⟨[.int .i64 g], 1, false⟩;have al : ∀ o n, Alive H (.tuple #[insP o, .int .i64 n]) := fun o n => (Flat.tupleL (l := [insP o, .int .i64 n]) (.cons (insP_flat o) (.cons (.int _ _) .nil))).alive;have fz : ∀ H' o n, fzV H.n H' fzDepth (.tuple #[insP o, .int .i64 n]) = some (.tuple #[insP o, .int .i64 n], []) := fun H' o n => by
  cases o <;> rfl
 by_cases hgg : 1 ≤ g ∧ g ≤ 65535
 ·have c1 : ¬ g < 1 := by omega
  have c2 : ¬ g > 65535 := by omega
  have hx3 := hx2.push ⟨[.pointer none], 1, false⟩;have o3 := Of_run k (hv.up hx3);have by3 := Bytes_run k (hv.up hx3) hl;have o4 := fun H => Of_lv k b H;have hin := ins_in1_run k (H := ((H.push ⟨[.int .i64 g], 1, false⟩).push ⟨[.pointer none], 1, false⟩).push ⟨[lv encB b], 1, false⟩) b hb g hgg (by omega) (H.n + 2) H.n (H.n + 1) (.pointer none) (by simp) (by simp) (by simp) (ht hgg);cases hlk : insS b g with
  | none =>
   rw [hlk] at hin;have ht := Try_no k F.ins_Read_in1 #[ptrV (H.n + 2), ptrV H.n, ptrV (H.n + 1)] hin;refine nrm_fz (H' := ((H.push ⟨[.int .i64 g], 1, false⟩).push ⟨[.pointer none], 1, false⟩).push ⟨[lv encB b], 1, false⟩) (v := .tuple #[insP none, .int .i64 2]) ?_ (by unfold insO insN; rw [if_pos hgg, if_pos hgg, hlk]; exact fz _ _ _) (hx3.push _) (al _ _);simp -implicitDefEqProofs (disch := omega) [ins_Read, c1, c2, o3, by3, o4, ht, insP]
  | some x =>
   rw [hlk] at hin;have ht := Try_ok k F.ins_Read_in1 #[ptrV (H.n + 2), ptrV H.n, ptrV (H.n + 1)] hin;refine nrm_fz (H' := ((H.push ⟨[.int .i64 g], 1, false⟩).push ⟨[insV x], 1, false⟩).push ⟨[lv encB b], 1, false⟩) (v := .tuple #[insP (some x), .int .i64 0]) ?_ (by unfold insO insN; rw [if_pos hgg, if_pos hgg, hlk]; exact fz _ _ _) ((hx2.push _).push _) (al _ _);simp at ht;simp -implicitDefEqProofs (disch := omega) [ins_Read, c1, c2, o3, by3, o4, ht, insP]
 ·refine nrm_fz (H' := (H.push ⟨[.int .i64 g], 1, false⟩).push ⟨[.pointer none], 1, false⟩) (v := .tuple #[insP none, .int .i64 1]) ?_ (by unfold insO insN; rw [if_neg hgg, if_neg hgg]; exact fz _ _ _) (hx2.push _) (al _ _);by_cases c1 : g < 1
  ·simp -implicitDefEqProofs (disch := omega) [ins_Read, c1, insP]
  ·have c2 : g > 65535 := by omega
   simp -implicitDefEqProofs (disch := omega) [ins_Read, c1, c2, insP]
end Go.Sw
end
section
namespace Go.Sw
open Go.RowKit
theorem lineNew_runG (k : Nat) {H : Heap} {v : Value} {ids : List Int} (hv : Sl H 1 v encI ids) (hl : ids.length < 2 ^ 31) :
  ∃ c o H', R (T k) F.line_New [v] H = .ok (ptrV c) H' ∧ Star H H' [itLine c o (newG ids)] := by
 have g := ((Star.nil H).more_row (Ext.refl _) (OwnO.nil encG _ 2) (fun b hb => by cases hb)).push ⟨[.slice none 0 0], 1, false⟩;rw [List.append_assoc] at g
 obtain ⟨x, e', H1, hr, rfl, ⟨a, rfl⟩, s, o, g⟩ := loop_up (body := line_New_l1 k (R (T k))) ids.length
  (fun j e H' => e = [(3, ptrV H.n), (8, v), (9, .int .i64 ids.length), (10, .int .i64 j)] ∧ ∃ s o, Star H H' ([] ++ [itRow o 2 s encG (newG (ids.take j)), itBlk H.n ⟨[s], 1, false⟩]))
  (fun x e H' => x = .exit 0 ∧ (∃ a, e = [(3, ptrV H.n), (8, v), (9, .int .i64 ids.length), (10, .int .i64 ids.length), (11, a)]) ∧ ∃ s o, Star H H' ([] ++ [itRow o 2 s encG (newG ids), itBlk H.n ⟨[s], 1, false⟩]))
  (e0 := [(3, ptrV H.n), (8, v), (9, .int .i64 ids.length), (10, .int .i64 0)]) (H0 := H.push ⟨[.slice none 0 0], 1, false⟩) ⟨rfl, _, _, g⟩ (by omega)
  (fun j e H' hj ⟨he, s, o, g⟩ => by
   subst he;have hlt : (j : Int) < ids.length := by omega
   obtain ⟨x, hx⟩ : ∃ x, ids[j]? = some x := ⟨_, List.getElem?_eq_getElem hj⟩
   obtain ⟨p, i1, i2⟩ := hv.ix1 encI_len j x hx _ rfl;have i2 := i2 H' g.ext;have hc := g.get (List.length ([] : List It) + 1) (at2_1 _ _ _);have hcn : ¬ H.n = H'.n := by have := Heap.get_lt hc; omega
   obtain ⟨s', o', H2, e1, g⟩ := g.append1 (bytes := 16) (List.length ([] : List It)) encG_len (at2_0 _ _ _) (⟨x, (j : Nat)⟩ : Gl) (by simp; omega) (by decide);rw [set2_0] at g;have hc2 := g.get (List.length ([] : List It) + 1) (at2_1 _ _ _);have st := (g.row (List.length ([] : List It)) (at2_0 _ _ _)).storable;have ce := (g.row (List.length ([] : List It)) (at2_0 _ _ _)).cells;have g := g.setBlk (List.length ([] : List It) + 1) (at2_1 _ _ _) ⟨[s'], 1, false⟩;rw [set2_1] at g;refine .inl ⟨_, _, ?_, rfl, s', o', by rw [take_snoc hx, newG_snoc, List.length_take, Nat.min_eq_left (by omega)]; exact g⟩;rw [line_New_l1_eq];have e1 : apR 2 16 s (.slice (some ⟨H'.n, 0, none⟩) 1 1) (H'.push ⟨[.int .i64 x, .int .i64 (j : Nat)], 2, false⟩) = .ok s' H2 := e1;simp -implicitDefEqProofs (disch := omega) [hlt, i1, i2, hc, hcn, e1, hc2, st, ce])
  (fun e H' ⟨he, s, o, g⟩ => by
   subst he;refine ⟨.exit 0, _, H', ?_, by simp, rfl, ⟨.bool false, rfl⟩, s, o, by simpa using g⟩;rw [line_New_l1_eq];simp -implicitDefEqProofs)
 have g := Star.join2 [] g;refine ⟨H.n, o, H1, ?_, g⟩;rw [line_New_R];refine nrm_of ?_;have hlv := fun H' => hv.len H';simp -implicitDefEqProofs [line_New, hr, line_New_l1k_x0, hlv]
theorem lineNew_starG (k : Nat) {H0 H : Heap} {L : List It} (h : Star H0 H L) {v : Value} {ids : List Int} (hv : Sl H 1 v encI ids) (hl : ids.length < 2 ^ 31) :
  ∃ c o H', R (T k) F.line_New [v] H = .ok (ptrV c) H' ∧ Star H0 H' (L ++ [itLine c o (newG ids)]) := by
 obtain ⟨c, o, H', e, g⟩ := lineNew_runG k hv hl;exact ⟨c, o, H', e, h.more g.ext _ (g.at 0 rfl) fun b hb => g.lt 0 rfl b hb⟩
theorem set_same {L : List It} {i : Nat} {a : It} (h : L[i]? = some a) : L.set i a = L := by
 apply List.ext_getElem?;intro j;by_cases hj : i = j
 ·subst hj;rw [List.getElem?_set_self (List.getElem?_eq_some_iff.1 h).1, h]
 ·rw [List.getElem?_set_ne hj]
end Go.Sw
end
section
namespace Go.Sw
open Go.RowKit
theorem insertV_R (k : Nat) {args : List Value} {s : Value} {H H' : Heap} (h : insertV 2 16 args H = .ok s H') : R (T k) F.slices_Insert_of_api_Glyph_api_Glyph args H = .ok s H' :=
 (R_sp (t := T k) (T_scott k) (s := fun _ args H => insertV 2 16 args H) (by kernel_rfl) args H).trans (by
  show nrm (mdS k F.slices_Insert_of_api_Glyph_api_Glyph) H _ = _;rw [show mdS k F.slices_Insert_of_api_Glyph_api_Glyph = .no from by kernel_rfl];exact nrm_of h)
set_option maxHeartbeats 2000000 in
theorem lineInsert_star (k : Nat) {H0 H : Heap} {L : List It} (h : Star H0 H L) (il : Nat) {c : Nat} {o : Option Nat} {l : List Gl} (hil : L[il]? = some (itLine c o l)) (i : Int) {vI : Value} {ids : List Int} (hv : Sl H0 1 vI encI ids) (hb : l.length + ids.length ≤ 2 ^ 30) :
  ∃ o' H', R (T k) F.line_Line_Insert [ptrV c, .int .i64 i, vI] H = .ok (.bool (decide (0 ≤ i ∧ i ≤ l.length))) H' ∧ Star H0 H' (L.set il (itLine c o' (insertG l i ids))) := by
 have hlt := (List.getElem?_eq_some_iff.1 hil).1;obtain ⟨_, s0, h1, h2⟩ := h.box il hil;simp at h1;have hlen := h2.len;rw [line_Line_Insert_R];by_cases hi : 0 ≤ i ∧ i ≤ l.length;rotate_left
 ·refine ⟨o, H, nrm_of ?_, ?_⟩
  ·rw [decide_eq_false hi];by_cases d : i < 0
   ·simp -implicitDefEqProofs [line_Line_Insert, d]
   ·have d2 : i > (l.length : Int) := by omega
    simp -implicitDefEqProofs [line_Line_Insert, d, h1, hlen, d2]
  ·unfold insertG;rw [if_neg hi, set_same hil];exact h
 rw [decide_eq_true hi];have d1 : ¬ i < 0 := by omega
 have d2 : ¬ i > (l.length : Int) := by omega
 obtain ⟨p, rfl⟩ := Int.eq_ofNat_of_zero_le hi.1;have hat := lineAt_run k h il hil (p : Int);have hcn : ¬ c = H.n := by have := Heap.get_lt h1; omega
 -- whatever glyph stands there
 have key : ∀ q : Gl, q.cl = insCl l p → ∃ o' H', (loopN (line_Line_Insert_l1 k (R (T k))) loopFuel [(0, ptrV c), (1, .int .i64 p), (7, ptrV H.n), (9, .slice none 0 0), (38, vI), (39, .int .i64 ids.length), (40, .int .i64 0)] (H.push ⟨encG q, 1, false⟩)).bind (fun r h' => line_Line_Insert_l1k k (R (T k)) r.1 r.2 h') = .ok (.bool true) H' ∧ Star H0 H' (L.set il (itLine c o' (insertG l p ids))) := by
  intro q hq;have g := (h.push ⟨encG q, 1, false⟩).more_row (Ext.refl _) (OwnO.nil encG _ 2) (fun b hb => by cases hb)
  obtain ⟨xx, e', H1, hr, rfl, s, o1, rfl, g⟩ := loop_up (body := line_Line_Insert_l1 k (R (T k))) ids.length
   (fun j e H' => ∃ s o1, e = [(0, ptrV c), (1, .int .i64 p), (7, ptrV H.n), (9, s), (38, vI), (39, .int .i64 ids.length), (40, .int .i64 j)] ∧ Star H0 H' (L ++ [itBlk H.n ⟨encG q, 1, false⟩] ++ [itRow o1 2 s encG ((ids.take j).map fun x => (⟨x, q.cl⟩ : Gl))]))
   (fun xx e H' => xx = .exit 0 ∧ ∃ s o1, e = [(0, ptrV c), (1, .int .i64 p), (7, ptrV H.n), (9, s), (38, vI), (39, .int .i64 ids.length), (40, .int .i64 ids.length), (41, .bool false)] ∧ Star H0 H' (L ++ [itBlk H.n ⟨encG q, 1, false⟩] ++ [itRow o1 2 s encG (ids.map fun x => (⟨x, q.cl⟩ : Gl))]))
   (e0 := [(0, ptrV c), (1, .int .i64 p), (7, ptrV H.n), (9, .slice none 0 0), (38, vI), (39, .int .i64 ids.length), (40, .int .i64 0)]) (H0 := H.push ⟨encG q, 1, false⟩) ⟨_, none, rfl, by simpa using g⟩ (by omega)
   (fun j e H' hj ⟨s, o1, he, g⟩ => by
    subst he;have hjl : (j : Int) < ids.length := by omega
    obtain ⟨x, hx⟩ : ∃ x, ids[j]? = some x := ⟨_, List.getElem?_eq_getElem hj⟩
    obtain ⟨pp, i1, i2⟩ := hv.ix1 encI_len j x hx _ rfl;have i2 := i2 H' g.ext;have gb := g.memBlk (c := H.n) (k := ⟨encG q, 1, false⟩) (by simp);have hne : ¬ H.n = H'.n := by have := Heap.get_lt gb; omega
    have hrw : (L ++ [itBlk H.n ⟨encG q, 1, false⟩] ++ [itRow o1 2 s encG ((ids.take j).map fun x => (⟨x, q.cl⟩ : Gl))])[L.length + 1]? = some (itRow o1 2 s encG ((ids.take j).map fun x => (⟨x, q.cl⟩ : Gl))) := by
     rw [List.getElem?_append_right (by simp), List.length_append, List.length_singleton, Nat.sub_self];rfl
    obtain ⟨s2, o2, H2, e2, g2⟩ := g.append1 (bytes := 16) (L.length + 1) encG_len hrw (⟨x, q.cl⟩ : Gl) (by rw [List.length_map, List.length_take]; omega) (by decide);rw [List.set_append_right _ _ (by simp)] at g2;have hm : (ids.take j).map (fun x => (⟨x, q.cl⟩ : Gl)) ++ [⟨x, q.cl⟩] = (ids.take (j + 1)).map fun x => (⟨x, q.cl⟩ : Gl) := by rw [take_snoc hx, List.map_append]; rfl
    rw [hm] at g2;simp only [List.length_append, List.length_singleton, Nat.sub_self, List.set_cons_zero] at g2;refine .inl ⟨_, H2, ?_, s2, o2, rfl, g2⟩;rw [line_Line_Insert_l1_eq];have e2 : apR 2 16 s (.slice (some ⟨H'.n, 0, none⟩) 1 1) (H'.push ⟨[.int .i64 x, .int .i64 q.cl], 2, false⟩) = .ok s2 H2 := e2;simp -implicitDefEqProofs (disch := omega) [hjl, i1, i2, gb, hne, e2])
   (fun e H' ⟨s, o1, he, g⟩ => by
    subst he;rw [List.take_length] at g;refine ⟨.exit 0, _, H', ?_, by simp, rfl, s, o1, rfl, g⟩;rw [line_Line_Insert_l1_eq];simp -implicitDefEqProofs)
  have hil2 : (L ++ [itBlk H.n ⟨encG q, 1, false⟩] ++ [itRow o1 2 s encG (ids.map fun x => (⟨x, q.cl⟩ : Gl))])[il]? = some (itLine c o l) := by rw [List.append_assoc, List.getElem?_append_left hlt]; exact hil
  obtain ⟨s3, g3⟩ := g.split il hil2;have hc3 := g3.memBlk (c := c) (k := ⟨[s3], 1, false⟩) (by simp);have hrow : ((L ++ [itBlk H.n ⟨encG q, 1, false⟩] ++ [itRow o1 2 s encG (ids.map fun x => (⟨x, q.cl⟩ : Gl))]).set il (itRow o 2 s3 encG l) ++ [itBlk c ⟨[] ++ [s3], 1, false⟩])[il]? = some (itRow o 2 s3 encG l) := by
   rw [List.getElem?_append_left (by simp; omega), List.getElem?_set_self (by simp; omega)]
  have hins : ((L ++ [itBlk H.n ⟨encG q, 1, false⟩] ++ [itRow o1 2 s encG (ids.map fun x => (⟨x, q.cl⟩ : Gl))]).set il (itRow o 2 s3 encG l) ++ [itBlk c ⟨[] ++ [s3], 1, false⟩])[L.length + 1]? = some (itRow o1 2 s encG (ids.map fun x => (⟨x, q.cl⟩ : Gl))) := by
   rw [List.getElem?_append_left (by simp), List.getElem?_set_ne (by omega), List.getElem?_append_right (by simp)];simp
  obtain ⟨s4, o4, H4, e4, g4⟩ := g3.insertRow (bytes := 16) il (L.length + 1) encG_len (by omega) hrow hins (p := p) (by omega) (by simp; omega) (by decide);have hblk : ((((L ++ [itBlk H.n ⟨encG q, 1, false⟩] ++ [itRow o1 2 s encG (ids.map fun x => (⟨x, q.cl⟩ : Gl))]).set il (itRow o 2 s3 encG l) ++ [itBlk c ⟨[] ++ [s3], 1, false⟩]).set il (itRow o4 2 s4 encG (l.take p ++ ((ids.map fun x => (⟨x, q.cl⟩ : Gl)) ++ l.drop p)))))[L.length + 2]? = some (itBlk c ⟨[] ++ [s3], 1, false⟩) := by
   rw [List.getElem?_set_ne (by omega), List.getElem?_append_right (by simp)];simp
  have hrow4 : ((((L ++ [itBlk H.n ⟨encG q, 1, false⟩] ++ [itRow o1 2 s encG (ids.map fun x => (⟨x, q.cl⟩ : Gl))]).set il (itRow o 2 s3 encG l) ++ [itBlk c ⟨[] ++ [s3], 1, false⟩]).set il (itRow o4 2 s4 encG (l.take p ++ ((ids.map fun x => (⟨x, q.cl⟩ : Gl)) ++ l.drop p)))))[il]? = some (itRow o4 2 s4 encG (l.take p ++ ((ids.map fun x => (⟨x, q.cl⟩ : Gl)) ++ l.drop p))) := List.getElem?_set_self (by simp; omega);have hc4 := g4.get (L.length + 2) hblk;have st4 := (g4.row il hrow4).storable;have ce4 := (g4.row il hrow4).cells;have g5 := g4.setBlk (L.length + 2) hblk ⟨[] ++ [s4], 1, false⟩;have g6 := g5.join il (L.length + 2) L.length hlt (by omega) (by rw [List.getElem?_set_ne (by omega)]; exact hrow4) (List.getElem?_set_self (by simp));have hfin : insertG l p ids = l.take p ++ ((ids.map fun x => (⟨x, q.cl⟩ : Gl)) ++ l.drop p) := by
   unfold insertG;rw [if_pos hi, Int.toNat_natCast, hq]
  refine ⟨o4, H4.set c (some ⟨[] ++ [s4], 1, false⟩), ?_, ?_⟩;rotate_left
  ·rw [hfin];have e : ∀ (x y z z' R R4 : It), (((L ++ [x] ++ [y]).set il R ++ [z]).set il R4).set (L.length + 2) z' = L.set il R4 ++ [x, y, z'] := by
    intro x y z z' R R4;rw [List.append_assoc L, List.set_append_left _ _ hlt, List.append_assoc (L.set il R), List.set_append_left _ _ (by simpa using hlt), List.set_set, List.set_append_right _ _ (by simp)];simp
   rw [e, List.take_left' (by simp), List.set_set] at g6;exact g6
  ·have e4 := insertV_R k e4;simp -implicitDefEqProofs (disch := omega) [hr, line_Line_Insert_l1k_x0, hc3, e4, hc4, st4, ce4]
 have hlv := fun H' => hv.len H';cases hq : atG l p with
 | some q =>
  rw [hq] at hat;obtain ⟨o', H', e1, g1⟩ := key q (by unfold insCl; rw [hq]);refine ⟨o', H', nrm_of ?_, g1⟩;simp -implicitDefEqProofs [line_Line_Insert, d1, h1, hlen, d2, hat, encA, line_Line_Insert_j2_eq, hlv, e1]
 | none =>
  rw [hq] at hat;have hxp : Ext H (H.push ⟨[.int .i64 0, .int .i64 0], 1, false⟩) := (Ext.refl H).push _;have hat2 := lineAt_run k (h.rest hxp) il hil ((p : Int) - 1);obtain ⟨o', H', e1, g1⟩ := key ((atG l ((p : Int) - 1)).getD ⟨0, 0⟩) (by unfold insCl; rw [hq]);refine ⟨o', H', nrm_of ?_, g1⟩;have hw : IntKind.i64.wrap ((p : Int) - 1) = (p : Int) - 1 := wrap_i64 (by omega) (by omega);simp -implicitDefEqProofs [line_Line_Insert, d1, h1, hlen, d2, hat, encA, line_Line_Insert_j1_eq, hlv, hw, hat2, e1]
end Go.Sw
end
section
namespace Go.Sw
open Go.RowKit
theorem glyphs_run (k : Nat) (t : ITab) (hb : Byt t.list) (hl : t.list.length < 2 ^ 31) (a n : Int) (ha : 0 ≤ a) (hn : 0 < n ∧ n ≤ 31) (hf : 2 * a + n * 2 ≤ t.list.length) (H : Heap) : R (T k) F.ins_Table_glyphs [insV t, .int .i64 a, .int .i64 n] H = .ok (lv encI (listN t.list a n)) H := by
 rw [ins_Table_glyphs_R];obtain ⟨N, rfl⟩ := Int.eq_ofNat_of_zero_le (show 0 ≤ n by omega);have st := (Star.nil H).more_row (Ext.refl H) (OwnO.nil encI H 1) (fun b hb => by cases hb);simp only [List.nil_append] at st;have hlN : (listN t.list a N).length = N := by rw [listN_len]; omega
 obtain ⟨xx, e', H1, hr, rfl, s, o, rfl, g⟩ := loop_up (body := ins_Table_glyphs_l1 k (R (T k))) N
  (fun j e H' => ∃ s o, e = [(0, insV t), (1, .int .i64 a), (7, s), (9, .int .i64 N), (10, .int .i64 j)] ∧ Star H H' [itRow o 1 s encI ((listN t.list a N).take j)])
  (fun xx e H' => xx = .exit 0 ∧ ∃ s o, e = [(0, insV t), (1, .int .i64 a), (7, s), (9, .int .i64 N), (10, .int .i64 N), (11, .bool false)] ∧ Star H H' [itRow o 1 s encI (listN t.list a N)])
  (e0 := [(0, insV t), (1, .int .i64 a), (7, .slice none 0 0), (9, .int .i64 N), (10, .int .i64 0)]) (H0 := H) ⟨_, none, rfl, by simpa using st⟩ (by omega)
  (fun j e H' hj ⟨s, o, he, g⟩ => by
   subst he;have hjl : (j : Int) < N := by omega
   obtain ⟨x, hx⟩ : ∃ x, uS t.list (2 * (a + (j : Int))) 2 = some x := uS_of_in (by unfold inS; rw [decide_eq_true_eq]; omega);have hq : (listN t.list a N)[j]? = some x := by
    unfold listN;rw [List.getElem?_map, Int.toNat_natCast, List.getElem?_range hj];show some (gU t.list (2 * (a + (j : Int))) 2) = _;rw [gU_some hx]
   have hu := fun H' => U16_run k (H := H') (Sl.lv H' 1 t.list) hb (2 * (a + (j : Int))) (by omega);rw [hx] at hu;obtain ⟨s2, o2, H2, e2, g2⟩ := g.append1 (bytes := 8) 0 encI_len rfl x (by rw [List.length_take]; omega) (by decide);simp only [List.set_cons_zero] at g2;rw [← take_snoc hq] at g2;refine .inl ⟨_, H2, ?_, s2, o2, rfl, g2⟩;rw [ins_Table_glyphs_l1_eq];simp -implicitDefEqProofs (disch := omega) [hjl, hu, orF, e2])
  (fun e H' ⟨s, o, he, g⟩ => by
   subst he;rw [List.take_of_length_le (by omega)] at g;refine ⟨.exit 0, _, H', ?_, by simp, rfl, s, o, rfl, g⟩;rw [ins_Table_glyphs_l1_eq];simp -implicitDefEqProofs)
 obtain ⟨L, hfz⟩ := (g.own 0 rfl).freeze encI_len (fun n hn v hv => encI_still _ n hn v hv) 6;refine nrm_fz (v := s) (H' := H1) ?_ hfz g.ext (Flat.I _).alive;simp -implicitDefEqProofs [ins_Table_glyphs, hr, ins_Table_glyphs_l1k_x0]
abbrev run18 (t : ITab) (c : Nat) (s : InsSt) : List Value := [insV t, ptrV c, .int .i64 s.mark, .int .i64 s.left, .int .i64 s.done, .bool s.broke]
set_option maxHeartbeats 1000000 in
theorem put_star (k : Nat) (t : ITab) (ht : t.ok) {H0 H : Heap} {L : List It} (h : Star H0 H L) (il iq : Nat) (hne : il ≠ iq) {c q : Nat} {o : Option Nat} {s : InsSt} (hil : L[il]? = some (itLine c o s.l)) (hiq : L[iq]? = some (itBlk q ⟨run18 t c s, 1, false⟩)) (place a n : Int) (ha : 0 ≤ a) (hn : 0 < n ∧ n ≤ 31) (hf : 2 * a + n * 2 ≤ t.list.length)
  (hs : -2 ^ 30 ≤ s.left ∧ s.left ≤ 2 ^ 30 ∧ 0 ≤ s.done ∧ s.done ≤ 2 ^ 30 ∧ s.l.length ≤ 2 ^ 29) :
  ∃ o' H', R (T k) F.ins_run_put [ptrV q, .int .i64 place, .int .i64 a, .int .i64 n] H = .ok (.bool (putS t.list s place a n).2) H' ∧ Star H0 H' ((L.set il (itLine c o' (putS t.list s place a n).1.l)).set iq (itBlk q ⟨run18 t c (putS t.list s place a n).1, 1, false⟩)) := by
 have hltl := (List.getElem?_eq_some_iff.1 hil).1;have hltq := (List.getElem?_eq_some_iff.1 hiq).1;have hq := h.get iq hiq;have hqs : (H.get q).isSome = true := by rw [hq]; rfl
 rw [ins_run_put_R];unfold putS;by_cases d : n > s.left
 ·rw [if_pos d];have g := h.setBlk iq hiq ⟨run18 t c { s with broke := true }, 1, false⟩;refine ⟨o, H.set q (some ⟨run18 t c { s with broke := true }, 1, false⟩), nrm_of ?_, ?_⟩
  ·simp -implicitDefEqProofs (disch := omega) [ins_run_put, hq, hqs, d]
  ·dsimp only;rw [set_same hil];exact g
 ·rw [if_neg d];dsimp only;have g := h.setBlk iq hiq ⟨[insV t, ptrV c, .int .i64 s.mark, .int .i64 (s.left - n), .int .i64 (s.done + n), .bool s.broke], 1, false⟩;obtain ⟨H1, hH1⟩ : ∃ H1, H1 = H.set q (some ⟨[insV t, ptrV c, .int .i64 s.mark, .int .i64 (s.left - n), .int .i64 (s.done + n), .bool s.broke], 1, false⟩) := ⟨_, rfl⟩
  rw [← hH1] at g;have hq1 := g.get iq (List.getElem?_set_self hltq);have hil1 : (L.set iq (itBlk q ⟨[insV t, ptrV c, .int .i64 s.mark, .int .i64 (s.left - n), .int .i64 (s.done + n), .bool s.broke], 1, false⟩))[il]? = some (itLine c o s.l) := by rw [List.getElem?_set_ne (fun h => hne h.symm)]; exact hil
  have hgl := fun H => glyphs_run k t ht.byt ht.len a n ha hn hf H;obtain ⟨o', H2, e2, g2⟩ := lineInsert_star k g il hil1 place (Sl.lv H0 1 (listN t.list a n)) (by rw [listN_len]; omega);have hw1 : IntKind.i64.wrap (s.left - n) = s.left - n := wrap_i64 (by omega) (by omega);have hw2 : IntKind.i64.wrap (s.done + n) = s.done + n := wrap_i64 (by omega) (by omega);have hq2 := g2.get iq (by rw [List.getElem?_set_ne hne]; exact List.getElem?_set_self hltq);refine ⟨o', H2, nrm_of ?_, ?_⟩
  ·simp -implicitDefEqProofs (disch := omega) [ins_run_put, hq, hqs, d, hw1, hw2, ← hH1, hq1, hgl, e2]
  ·rw [List.set_comm _ _ (fun h => hne h)];exact g2
end Go.Sw
end
section
namespace Go.Sw
open Go.RowKit
theorem runD_inv2 {σ : Type} (m : Mach) (hm : m.ok) (ln : σ → List Gl) (f : σ → Int → En → σ × Int × Int) (P : σ → Int → Prop) (Q : σ → Prop) (h0 : ∀ s i, P s i → Q s)
  (hf : ∀ s i e, P s i → 0 ≤ i → e ∈ m.ents → Q (f s i e).1 ∧ P (f s i e).1 (max (f s i e).2.1 0) ∧ (i < (ln s).length → P (f s i e).1 (max (f s i e).2.2 0))) (most : Int) :
  ∀ (n : Nat) (x : σ × Drv), P x.1 x.2.pl → 0 ≤ x.2.pl → 0 ≤ x.2.st → x.2.st < m.rows.length → Q (runD m ln f most n x).2.2
 | 0, x, h, _, _, _ => h0 _ _ h
 | n + 1, x, h, hp, h1, h2 => by
  have hmem := entS_mem hm (ln x.1) x.2 ⟨h1, h2⟩;have hent := hm.ent _ hmem;obtain ⟨q1, q2, q3⟩ := hf _ _ _ h hp hmem;have hQ : Q (stepD m ln f x).1.1 := by unfold stepD; split <;> exact q1
  have hst : 0 ≤ (stepD m ln f x).1.2.st ∧ (stepD m ln f x).1.2.st < m.rows.length := by unfold stepD; split <;> exact ⟨hent.1, hent.2.1⟩
  have hpl := stepD_pl m ln f x;unfold runD;split
  ·split
   ·exact hQ
   ·rename_i hend;split
    ·exact hQ
    ·refine runD_inv2 m hm ln f P Q h0 hf most n _ ?_ hpl hst.1 hst.2;revert hend;unfold stepD;split
     ·intro _; exact q2
     ·intro hend;dsimp only at hend ⊢;refine q3 ?_;have : (clsS m (ln x.1) x.2.pl).2 = decide ((ln x.1).length ≤ x.2.pl.toNat) := by
       have := clsS_over m (ln x.1) x.2.pl.toNat;rw [show ((x.2.pl.toNat : Nat) : Int) = x.2.pl by omega] at this;exact this
      rw [this] at hend;simp at hend;omega
  ·exact h0 _ _ h
def runIr (t : ITab) (l : List Gl) (left : Int) : Int × Int × InsSt :=
 runD t.m (fun s : InsSt => s.l) (fun s i e => actI t.list s i e) (2 * (l.length : Int) + 128) (2 * l.length + 128) (⟨l, -1, left, 0, false⟩, ⟨0, 0, 0, 0⟩)
def codeI (r : Int × Int × InsSt) : Int := if r.2.2.broke then 4 else r.2.1
theorem putS_no {list : List Int} {s : InsSt} {place a n : Int} (h : n > s.left) : putS list s place a n = (⟨s.l, s.mark, s.left, s.done, true⟩, false) := by unfold putS; rw [if_pos h]
theorem putS_yes {list : List Int} {s : InsSt} {place a n : Int} (h : ¬ n > s.left) : putS list s place a n = (⟨insertG s.l place (listN list a n), s.mark, s.left - n, s.done + n, s.broke⟩, decide (0 ≤ place ∧ place ≤ s.l.length)) := by unfold putS; rw [if_neg h]
theorem putS_left {list : List Int} {s : InsSt} {place a n : Int} (hn : 0 ≤ n) : (putS list s place a n).1.left ≤ s.left := by
 by_cases c : n > s.left
 ·rw [putS_no c]; exact Int.le_refl _
 ·rw [putS_yes c]; dsimp only; omega
theorem act1_left {list : List Int} {s : InsSt} {i : Int} {e : En} : (act1 list s i e).1.left ≤ s.left := by
 unfold act1;split
 ·rename_i c;have := putS_left (list := list) (s := s) (place := markPlace s e) (a := e.b) (n := markS e) (by omega);dsimp only;split <;> exact this
 ·exact Int.le_refl _
def isOwn (g : Gl) : Bool := decide (70000 ≤ g.id)
structure MoreOk (n L : Int) (own : List Gl) (s : InsSt) : Prop where
 left : 0 ≤ s.left
 done : 0 ≤ s.done
 sum : s.left + s.done = L
 len : (s.l.length : Int) = n + s.done
 mark : -1 ≤ s.mark ∧ s.mark < s.l.length
 own : s.l.filter isOwn = own
theorem listN_low {list : List Int} (hb : Byt list) (a n : Int) : ∀ x, x ∈ listN list a n → x < 65536 := fun x hx => by
 obtain ⟨i, _, rfl⟩ := List.mem_map.1 hx;show gU list (2 * (a + (i : Int))) 2 < 65536;cases h : uS list (2 * (a + (i : Int))) 2 with
 | none =>
  have : gU list (2 * (a + (i : Int))) 2 = -1 := by unfold gU; rw [h]; rfl
  omega
 | some y =>
  have := gU_some h;have := uS_two hb h;omega
theorem insertG_own {list : List Int} (hb : Byt list) (l : List Gl) (place a n : Int) : (insertG l place (listN list a n)).filter isOwn = l.filter isOwn := by
 unfold insertG;split
 ·rw [List.filter_append, List.filter_append];have : ((listN list a n).map (fun x => (⟨x, insCl l place⟩ : Gl))).filter isOwn = [] := by
   rw [List.filter_eq_nil_iff];intro g hg;obtain ⟨x, hx, rfl⟩ := List.mem_map.1 hg;have := listN_low hb a n x hx;unfold isOwn;simp;omega
  rw [this, List.nil_append, ← List.filter_append, List.take_append_drop]
 ·rfl
theorem MoreOk.put {n L : Int} {own : List Gl} {s : InsSt} (h : MoreOk n L own s) {list : List Int} (hb : Byt list) {place a k m : Int} (hk : 0 < k) (hl : ¬ k > s.left) (hp : 0 ≤ place ∧ place ≤ s.l.length) (hm : -1 ≤ m ∧ m < s.l.length + k) :
  MoreOk n L own ⟨insertG s.l place (listN list a k), m, s.left - k, s.done + k, s.broke⟩ := by
 have hlen := insertG_len s.l place (listN list a k) hp;rw [listN_len] at hlen;have h1 := h.left; have h2 := h.done; have h3 := h.sum; have h4 := h.len;exact ⟨by dsimp only; omega, by dsimp only; omega, by dsimp only; omega, by dsimp only; omega, by dsimp only; omega, by dsimp only; rw [insertG_own hb]; exact h.own⟩
theorem MoreOk.broke {n L : Int} {own : List Gl} {s : InsSt} (h : MoreOk n L own s) : MoreOk n L own ⟨s.l, s.mark, s.left, s.done, true⟩ := ⟨h.left, h.done, h.sum, h.len, h.mark, h.own⟩
theorem hereS_nonneg {e : En} (h : 0 ≤ e.flags) : 0 ≤ hereS e ∧ 0 ≤ markS e := by
 unfold hereS markS;constructor <;> split <;> omega
theorem act1_more {n L : Int} {own : List Gl} {s : InsSt} (h : MoreOk n L own s) {list : List Int} (hb : Byt list) {i : Int} {e : En} (hi : 0 ≤ i ∧ i ≤ s.l.length) :
  MoreOk n L own (act1 list s i e).1 ∧ 0 ≤ (act1 list s i e).2.1 ∧ (act1 list s i e).2.1 ≤ (act1 list s i e).1.l.length ∧ (i < s.l.length → (act1 list s i e).2.1 < (act1 list s i e).1.l.length) := by
 unfold act1;by_cases c : markS e > 0 ∧ s.mark ≥ 0
 ·rw [if_pos c];have hm := h.mark;have hpl : 0 ≤ markPlace s e ∧ markPlace s e ≤ s.l.length := by unfold markPlace; split <;> omega
  by_cases d : markS e > s.left
  ·rw [putS_no d];dsimp only;rw [if_pos rfl];exact ⟨h.broke, hi.1, hi.2, fun hl => hl⟩
  ·rw [putS_yes d, decide_eq_true hpl];dsimp only;rw [if_neg (by decide)];have hlen := insertG_len s.l (markPlace s e) (listN list e.b (markS e)) hpl;rw [listN_len] at hlen;refine ⟨h.put hb c.1 d hpl ?_, ?_, ?_, fun hl => ?_⟩
   ·(try dsimp only); split <;> omega
   ·(try dsimp only); split <;> omega
   ·(try dsimp only); split <;> omega
   ·(try dsimp only); split <;> omega
 ·rw [if_neg c];exact ⟨h, hi.1, hi.2, fun hl => hl⟩
theorem act2_more {n L : Int} {own : List Gl} {s : InsSt} (h : MoreOk n L own s) {list : List Int} (hb : Byt list) {i : Int} {e : En} (he : 0 ≤ e.flags) (hi : 0 ≤ i ∧ i ≤ s.l.length) :
  MoreOk n L own (act2 list s i e).1 ∧ 0 ≤ (act2 list s i e).2.1 ∧ (act2 list s i e).2.1 ≤ (act2 list s i e).1.l.length ∧ (i < s.l.length → (act2 list s i e).2.2 ≤ (act2 list s i e).1.l.length) ∧ 0 ≤ (act2 list s i e).2.2 := by
 have hm := h.mark;have hh := (hereS_nonneg he).1;unfold act2;dsimp only;by_cases c : hereS e > 0
 ·rw [if_pos c];have hpl : 0 ≤ (if e.flags / 2048 % 2 = 1 then i else min (i + 1) (s.l.length : Int)) ∧ (if e.flags / 2048 % 2 = 1 then i else min (i + 1) (s.l.length : Int)) ≤ s.l.length := by split <;> omega
  generalize hplace : (if e.flags / 2048 % 2 = 1 then i else min (i + 1) (s.l.length : Int)) = place at hpl ⊢;by_cases d : hereS e > s.left
  ·rw [putS_no d];dsimp only;rw [if_pos rfl];exact ⟨h.broke, hi.1, hi.2, fun hl => by dsimp only; omega, by dsimp only; omega⟩
  ·rw [putS_yes d, decide_eq_true hpl];dsimp only;rw [if_neg (by decide)];have hlen := insertG_len s.l place (listN list e.a (hereS e)) hpl;rw [listN_len] at hlen;refine ⟨h.put hb c d hpl ?_, hi.1, by dsimp only; omega, fun hl => by dsimp only; omega, by dsimp only; omega⟩;split
   ·rename_i hc;have : i < s.l.length := by
     have := of_decide_eq_false hc.2;omega
    split <;> omega
   ·split <;> omega
 ·rw [if_neg c];refine ⟨⟨h.left, h.done, h.sum, h.len, ?_, h.own⟩, hi.1, by dsimp only; omega, fun hl => by dsimp only; omega, by dsimp only; omega⟩;dsimp only;split
  ·rename_i hc;have : i < s.l.length := by
    have := of_decide_eq_false hc.2;omega
   split <;> omega
  ·exact hm
theorem actI_more {n L : Int} {own : List Gl} {s : InsSt} (h : MoreOk n L own s) {list : List Int} (hb : Byt list) {i : Int} {e : En} (he : 0 ≤ e.flags) (hi : 0 ≤ i ∧ i ≤ s.l.length) :
  MoreOk n L own (actI list s i e).1 ∧ 0 ≤ (actI list s i e).2.1 ∧ (actI list s i e).2.1 ≤ (actI list s i e).1.l.length ∧ (i < s.l.length → (actI list s i e).2.2 ≤ (actI list s i e).1.l.length) ∧ 0 ≤ (actI list s i e).2.2 := by
 unfold actI;by_cases c : s.broke = true
 ·rw [if_pos c];exact ⟨h, hi.1, hi.2, fun hl => by dsimp only; omega, by dsimp only; omega⟩
 ·rw [if_neg c];obtain ⟨a1, a2, a3, a4⟩ := act1_more h hb (e := e) hi;dsimp only;by_cases d : (act1 list s i e).2.2 = false
  ·rw [if_pos d];have hl : (s.l.length : Int) ≤ (act1 list s i e).1.l.length := by
    have b1 := a1.len; have b2 := h.len; have b3 := a1.sum; have b4 := h.sum;have : (act1 list s i e).1.left ≤ s.left := act1_left;omega
   refine ⟨a1, hi.1, by dsimp only; omega, fun hl => by dsimp only; omega, by dsimp only; omega⟩
  ·rw [if_neg d];obtain ⟨b1, b2, b3, b4, b5⟩ := act2_more a1 hb he ⟨a2, a3⟩;exact ⟨b1, b2, b3, fun hl => b4 (a4 hl), b5⟩
theorem ins_more (t : ITab) (ht : t.ok) (l : List Gl) (left : Int) (h0 : 0 ≤ left) (own : List Gl) (ho : l.filter isOwn = own) : MoreOk l.length left own (runIr t l left).2.2 := by
 unfold runIr;refine runD_inv2 t.m ht.m (fun s : InsSt => s.l) _ (fun s i => MoreOk l.length left own s ∧ i ≤ s.l.length) (fun s => MoreOk l.length left own s) (fun _ _ h => h.1) (fun s i e ⟨h, hi⟩ hi0 he => ?_) _ _ _ ⟨⟨h0, Int.le_refl 0, by dsimp only; omega, by dsimp only; omega, by dsimp only; omega, ho⟩, by dsimp only; omega⟩ (Int.le_refl _) (Int.le_refl _) (by have := ht.m.two; dsimp only; omega);have hent := ht.m.ent e he;obtain ⟨a1, a2, a3, a4, a5⟩ := actI_more h ht.byt hent.2.2.1 ⟨hi0, hi⟩;exact ⟨a1, ⟨a1, by omega⟩, fun hl => ⟨a1, by have := a4 hl; omega⟩⟩
def shiftI (d : Int) (s : InsSt) : InsSt := ⟨s.l, s.mark, s.left + d, s.done, s.broke⟩
theorem putS_shift {list : List Int} {s : InsSt} {place a n d : Int} (hs : s.broke = false) (h : (putS list s place a n).1.broke = false) (hd : 0 ≤ (putS list s place a n).1.left + d ∨ 0 ≤ d) : putS list (shiftI d s) place a n = (shiftI d (putS list s place a n).1, (putS list s place a n).2) := by
 by_cases c : n > s.left
 ·rw [putS_no c] at h; cases h
 ·rw [putS_yes c] at hd ⊢;dsimp only at hd;rw [putS_yes (s := shiftI d s) (by unfold shiftI; dsimp only; omega)];unfold shiftI;dsimp only;congr 2;omega
theorem act2_left {list : List Int} {s : InsSt} {i : Int} {e : En} : (act2 list s i e).1.left ≤ s.left := by
 unfold act2;dsimp only;by_cases c : hereS e > 0
 ·rw [if_pos c];generalize (if e.flags / 2048 % 2 = 1 then i else min (i + 1) (s.l.length : Int)) = place;have := putS_left (list := list) (s := s) (place := place) (a := e.a) (n := hereS e) (by omega);by_cases d : (putS list s place e.a (hereS e)).2 = false
  ·rw [if_pos d]; exact this
  ·rw [if_neg d]; exact this
 ·rw [if_neg c]; exact Int.le_refl _
theorem actI_left {list : List Int} {s : InsSt} {i : Int} {e : En} : (actI list s i e).1.left ≤ s.left := by
 unfold actI;split
 ·exact Int.le_refl _
 ·dsimp only;split
  ·exact act1_left
  ·exact Int.le_trans act2_left act1_left
theorem putS_broke {list : List Int} {s : InsSt} {place a n : Int} (h : s.broke = true) : (putS list s place a n).1.broke = true := by
 by_cases c : n > s.left
 ·rw [putS_no c]
 ·rw [putS_yes c]; exact h
theorem act2_broke {list : List Int} {s : InsSt} {i : Int} {e : En} (h : s.broke = true) : (act2 list s i e).1.broke = true := by
 unfold act2;dsimp only;by_cases c : hereS e > 0
 ·rw [if_pos c];generalize (if e.flags / 2048 % 2 = 1 then i else min (i + 1) (s.l.length : Int)) = place;have := putS_broke (list := list) (place := place) (a := e.a) (n := hereS e) h;by_cases d : (putS list s place e.a (hereS e)).2 = false
  ·rw [if_pos d]; exact this
  ·rw [if_neg d]; exact this
 ·rw [if_neg c]; exact h
theorem act1_shift {list : List Int} {s : InsSt} {i d : Int} {e : En} (hs : s.broke = false) (h : (act1 list s i e).1.broke = false) (hd : 0 ≤ (act1 list s i e).1.left + d ∨ 0 ≤ d) : act1 list (shiftI d s) i e = (shiftI d (act1 list s i e).1, (act1 list s i e).2) := by
 unfold act1 at h hd ⊢;by_cases c : markS e > 0 ∧ s.mark ≥ 0
 ·rw [if_pos c] at h hd ⊢;rw [if_pos (show markS e > 0 ∧ (shiftI d s).mark ≥ 0 from c)];dsimp only at h hd ⊢;have hpp : markPlace (shiftI d s) e = markPlace s e := rfl;rw [hpp];have hb : (putS list s (markPlace s e) e.b (markS e)).1.broke = false := by
   split at h <;> exact h
  have hdd : 0 ≤ (putS list s (markPlace s e) e.b (markS e)).1.left + d ∨ 0 ≤ d := by
   split at hd <;> exact hd
  rw [putS_shift hs hb hdd];dsimp only;split <;> rfl
 ·rw [if_neg c] at h hd ⊢;rw [if_neg (show ¬ (markS e > 0 ∧ (shiftI d s).mark ≥ 0) from c)]
theorem act2_shift {list : List Int} {s : InsSt} {i d : Int} {e : En} (hs : s.broke = false) (h : (act2 list s i e).1.broke = false) (hd : 0 ≤ (act2 list s i e).1.left + d ∨ 0 ≤ d) : act2 list (shiftI d s) i e = (shiftI d (act2 list s i e).1, (act2 list s i e).2) := by
 unfold act2 at h hd ⊢;dsimp only at h hd ⊢;have hl : (shiftI d s).l = s.l := rfl;rw [hl];by_cases c : hereS e > 0
 ·rw [if_pos c] at h hd ⊢;rw [if_pos c];generalize (if e.flags / 2048 % 2 = 1 then i else min (i + 1) (s.l.length : Int)) = place at h hd ⊢;have hb : (putS list s place e.a (hereS e)).1.broke = false := by split at h <;> exact h
  have hdd : 0 ≤ (putS list s place e.a (hereS e)).1.left + d ∨ 0 ≤ d := by split at hd <;> exact hd
  rw [putS_shift hs hb hdd];dsimp only;split <;> rfl
 ·rw [if_neg c] at h hd ⊢;rw [if_neg c];rfl
theorem actI_shift {list : List Int} {s : InsSt} {i d : Int} {e : En} (hs : s.broke = false) (h : (actI list s i e).1.broke = false) (hd : 0 ≤ (actI list s i e).1.left + d ∨ 0 ≤ d) : actI list (shiftI d s) i e = (shiftI d (actI list s i e).1, (actI list s i e).2) := by
 unfold actI at h hd ⊢;rw [if_neg (show ¬ (shiftI d s).broke = true by show ¬ s.broke = true; rw [hs]; decide)];rw [if_neg (show ¬ s.broke = true by rw [hs]; decide)] at h hd ⊢;dsimp only at h hd ⊢;by_cases c : (act1 list s i e).2.2 = false
 ·rw [if_pos c] at h hd ⊢;rw [act1_shift hs h hd];dsimp only;rw [if_pos c]
 ·rw [if_neg c] at h hd ⊢;have hb : (act1 list s i e).1.broke = false := by
   cases hx : (act1 list s i e).1.broke with
   | false => rfl
   | true => rw [act2_broke hx] at h; cases h
  have hdd : 0 ≤ (act1 list s i e).1.left + d ∨ 0 ≤ d := hd.imp (fun h => by have := act2_left (list := list) (s := (act1 list s i e).1) (i := (act1 list s i e).2.1) (e := e); omega) id;rw [act1_shift hs hb hdd];dsimp only;rw [if_neg c, act2_shift hb h hd]
theorem run_fades (m : Mach) (list : List Int) (most : Int) : ∀ (n : Nat) (x : InsSt × Drv), (x.1.broke = true → (runD m (fun s : InsSt => s.l) (fun s i e => actI list s i e) most n x).2.2.broke = true) ∧ (runD m (fun s : InsSt => s.l) (fun s i e => actI list s i e) most n x).2.2.left ≤ x.1.left
 | 0, x => ⟨fun h => h, Int.le_refl _⟩
 | n + 1, x => by
  have hst : (x.1.broke = true → (stepD m (fun s : InsSt => s.l) (fun s i e => actI list s i e) x).1.1.broke = true) ∧ (stepD m (fun s : InsSt => s.l) (fun s i e => actI list s i e) x).1.1.left ≤ x.1.left := by
   have : (stepD m (fun s : InsSt => s.l) (fun s i e => actI list s i e) x).1.1 = (actI list x.1 x.2.pl (entS m x.1.l x.2)).1 := by unfold stepD; split <;> rfl
   rw [this];refine ⟨fun h => ?_, actI_left⟩;unfold actI;rw [if_pos h];exact h
  have ih := run_fades m list most n (stepD m (fun s : InsSt => s.l) (fun s i e => actI list s i e) x).1;unfold runD;split
  ·split
   ·exact hst
   ·split
    ·exact hst
    ·exact ⟨fun h => ih.1 (hst.1 h), Int.le_trans ih.2 hst.2⟩
  ·exact ⟨fun h => h, Int.le_refl _⟩
theorem stepD_shift (m : Mach) (list : List Int) (d : Int) (s : InsSt) (y : Drv) (hs : s.broke = false) (h : (stepD m (fun s : InsSt => s.l) (fun s i e => actI list s i e) (s, y)).1.1.broke = false) (hd : 0 ≤ (stepD m (fun s : InsSt => s.l) (fun s i e => actI list s i e) (s, y)).1.1.left + d ∨ 0 ≤ d) :
  stepD m (fun s : InsSt => s.l) (fun s i e => actI list s i e) (shiftI d s, y) = ((shiftI d (stepD m (fun s : InsSt => s.l) (fun s i e => actI list s i e) (s, y)).1.1, (stepD m (fun s : InsSt => s.l) (fun s i e => actI list s i e) (s, y)).1.2), (stepD m (fun s : InsSt => s.l) (fun s i e => actI list s i e) (s, y)).2) := by
 have hx : (stepD m (fun s : InsSt => s.l) (fun s i e => actI list s i e) (s, y)).1.1 = (actI list s y.pl (entS m s.l y)).1 := by unfold stepD; split <;> rfl
 rw [hx] at h hd;have hsh := actI_shift hs h hd;obtain ⟨l, mk, lf, dn, br⟩ := s;unfold shiftI at hsh ⊢;unfold stepD;dsimp only at hsh ⊢;generalize entS m l y = e at hsh ⊢;rw [hsh];by_cases c : e.flags / 16384 % 2 = 1
 ·rw [if_pos c, if_pos c]
 ·rw [if_neg c, if_neg c]
theorem run_shift (m : Mach) (list : List Int) (most d : Int) : ∀ (n : Nat) (s : InsSt) (y : Drv), (runD m (fun s : InsSt => s.l) (fun s i e => actI list s i e) most n (s, y)).2.2.broke = false →
  (0 ≤ (runD m (fun s : InsSt => s.l) (fun s i e => actI list s i e) most n (s, y)).2.2.left + d ∨ 0 ≤ d) →
  runD m (fun s : InsSt => s.l) (fun s i e => actI list s i e) most n (shiftI d s, y) = ((runD m (fun s : InsSt => s.l) (fun s i e => actI list s i e) most n (s, y)).1, (runD m (fun s : InsSt => s.l) (fun s i e => actI list s i e) most n (s, y)).2.1, shiftI d (runD m (fun s : InsSt => s.l) (fun s i e => actI list s i e) most n (s, y)).2.2)
 | 0, s, y, _, _ => rfl
 | n + 1, s, y, h, hd => by
  have hs : s.broke = false := by
   cases hx : s.broke with
   | false => rfl
   | true => rw [(run_fades m list most (n + 1) (s, y)).1 hx] at h; cases h
  have ih := run_shift m list most d n (stepD m (fun s : InsSt => s.l) (fun s i e => actI list s i e) (s, y)).1.1 (stepD m (fun s : InsSt => s.l) (fun s i e => actI list s i e) (s, y)).1.2;have fd := run_fades m list most n (stepD m (fun s : InsSt => s.l) (fun s i e => actI list s i e) (s, y)).1;have hsx := stepD_shift m list d s y hs;unfold runD at h hd ⊢;dsimp only at h hd ⊢;by_cases c1 : y.stp < most
  ·rw [if_pos c1] at h hd ⊢;rw [if_pos c1];generalize stepD m (fun s : InsSt => s.l) (fun s i e => actI list s i e) (s, y) = z at *;obtain ⟨⟨s1, y1⟩, b⟩ := z;dsimp only at *;cases b with
   | true =>
    simp only [if_true] at h hd ⊢;rw [hsx h hd];simp
   | false =>
    simp only [Bool.false_eq_true, if_false] at h hd ⊢;by_cases c2 : y1.rest > 64
    ·rw [if_pos c2] at h hd ⊢;dsimp only at h hd;rw [hsx h hd];simp [c2]
    ·rw [if_neg c2] at h hd ⊢;have hb1 : s1.broke = false := by
      cases hx : s1.broke with
      | false => rfl
      | true => rw [fd.1 hx] at h; cases h
     have hd1 : 0 ≤ s1.left + d ∨ 0 ≤ d := hd.imp (fun hh => by have := fd.2; omega) id;rw [hsx hb1 hd1];simp only [Bool.false_eq_true, if_false];rw [if_neg c2];exact ih h hd
  ·rw [if_neg c1];rw [if_neg c1]
theorem ins_same (t : ITab) (l : List Gl) (a b : Int) (h : (runIr t l a).2.2.broke = false) (hd : 0 ≤ (runIr t l a).2.2.left + (b - a) ∨ a ≤ b) : (runIr t l b).1 = (runIr t l a).1 ∧ (runIr t l b).2.1 = (runIr t l a).2.1 ∧ (runIr t l b).2.2.l = (runIr t l a).2.2.l ∧ (runIr t l b).2.2.done = (runIr t l a).2.2.done ∧ (runIr t l b).2.2.broke = false := by
 unfold runIr at h hd ⊢;generalize 2 * (l.length : Int) + 128 = most at h hd ⊢;generalize 2 * l.length + 128 = fuel at h hd ⊢;have := run_shift t.m t.list most (b - a) fuel ⟨l, -1, a, 0, false⟩ ⟨0, 0, 0, 0⟩ h (hd.imp id (fun h => by omega));have hsh : shiftI (b - a) ⟨l, -1, a, 0, false⟩ = ⟨l, -1, b, 0, false⟩ := by unfold shiftI; dsimp only; congr 1; omega
 rw [hsh] at this;rw [this];exact ⟨rfl, rfl, rfl, rfl, h⟩
end Go.Sw
end
section
namespace Go.Sw
open Go.RowKit
variable {σ ω : Type}
def ActOkG (k : Nat) (m : Mach) (H0 : Heap) (W : σ → ω → List It) (Inv : σ → Prop) (a : Value) (f : σ → Int → En → σ × Int × Int) : Prop :=
 ∀ s w i e H X, Inv s → Star H0 H (W s w ++ X) → 0 ≤ i → i < 2 ^ 50 → e ∈ m.ents →
  ∃ H' w', callV (R (T k)) a [.int .i64 i, encE e] H = .ok (.tuple #[.int .i64 (f s i e).2.1, .int .i64 (f s i e).2.2]) H' ∧ Star H0 H' (W (f s i e).1 w' ++ X) ∧ Inv (f s i e).1 ∧ (f s i e).2.1 ≤ i + 128 ∧ (f s i e).2.2 ≤ i + 128
set_option maxHeartbeats 2000000 in
theorem driverStep_runG (k : Nat) (m : Mach) (hm : m.ok) {H0 H : Heap} (W : σ → ω → List It) (Inv : σ → Prop) (ln : σ → List Gl) (c : Nat) (hW : ∀ s w, ∃ (i : Nat) (o : Option Nat), (W s w)[i]? = some (itLine c o (ln s))) (a : Value) (f : σ → Int → En → σ × Int × Int) (ha : ActOkG k m H0 W Inv a f)
  (X : List It) (q : Nat) (s : σ) (w : ω) (d : Drv) (hI : Inv s) (h : Star H0 H (W s w ++ X ++ [itBlk q ⟨drvC m c d, 1, false⟩])) (hp : 0 ≤ d.pl ∧ d.pl < 2 ^ 50) (hst : 0 ≤ d.stp ∧ d.stp < 2 ^ 50) (hr : 0 ≤ d.rest ∧ d.rest < 2 ^ 50) (hse : 0 ≤ d.st ∧ d.st < m.rows.length) :
  ∃ H' w', R (T k) F.drive_driver_step [ptrV q, a] H = .ok (.bool (stepD m ln f (s, d)).2) H' ∧ Star H0 H' (W (stepD m ln f (s, d)).1.1 w' ++ X ++ [itBlk q ⟨drvC m c (stepD m ln f (s, d)).1.2, 1, false⟩]) ∧ Inv (stepD m ln f (s, d)).1.1 ∧ (stepD m ln f (s, d)).1.2.pl ≤ d.pl + 128 ∧ 0 ≤ (stepD m ln f (s, d)).1.2.st ∧ (stepD m ln f (s, d)).1.2.st < m.rows.length := by
 obtain ⟨i, o, ho⟩ := hW s w;have hq := h.memBlk (c := q) (k := ⟨drvC m c d, 1, false⟩) (by simp);have hline : (W s w ++ X ++ [itBlk q ⟨drvC m c d, 1, false⟩])[i]? = some (itLine c o (ln s)) := by
  have h0 : i < (W s w).length := (List.getElem?_eq_some_iff.1 ho).1;rw [List.append_assoc, List.getElem?_append_left h0];exact ho
 have hcls := driverClass_run k m hm h i hline hq;have hstep := fun H' => Step_run k m hm d.st (clsS m (ln s) d.pl).1 H';have heb := entS_bound hm (ln s) d;have hmem := entS_mem hm (ln s) d hse;have hnx := hm.ent _ hmem;have hee : encEA (stepS m d.st (clsS m (ln s) d.pl).1) = encE (entS m (ln s) d) := rfl;rw [hee] at hstep;have hx := ha s w d.pl (entS m (ln s) d);unfold stepD;dsimp only;generalize (stepS m d.st (clsS m (ln s) d.pl).1).isSome = z at hstep;generalize (clsS m (ln s) d.pl) = cl at hcls hstep;generalize entS m (ln s) d = e at hstep heb hx hmem hnx ⊢;dsimp only at heb;generalize f s d.pl e = r at hx ⊢;have g := h.push ⟨encEn e, 1, false⟩;rw [List.append_assoc, List.singleton_append] at g;have hqn : ¬ q = H.n := by have := Heap.get_lt hq; omega
 obtain ⟨H2, e2, g⟩ := g.stEnd 4 (v := .int .i64 (d.stp + 1)) rfl rfl (by simp);simp only [List.set_cons_zero, List.set_cons_succ] at g;have he2 := g.memBlk (c := H.n) (k := ⟨encEn e, 1, false⟩) (by simp);have hq2 := g.memBlk (c := q) (k := ⟨[machV m, ptrV c, .int .i64 d.st, .int .i64 d.pl, .int .i64 (d.stp + 1), .int .i64 d.rest], 1, false⟩) (by simp);obtain ⟨H3, e3, g⟩ := g.stEnd 2 (v := .int .i64 e.next) rfl rfl (by simp);simp only [List.set_cons_zero, List.set_cons_succ] at g;have hq3 := g.memBlk (c := q) (k := ⟨[machV m, ptrV c, .int .i64 e.next, .int .i64 d.pl, .int .i64 (d.stp + 1), .int .i64 d.rest], 1, false⟩) (by simp);have he3 := g.memBlk (c := H.n) (k := ⟨encEn e, 1, false⟩) (by simp);rw [List.append_assoc] at g;obtain ⟨H4, w4, e4, g4, hI4, hs4, ho4⟩ := hx H3 _ hI g hp.1 hp.2 hmem;rw [← List.append_assoc] at g4;have hq4 := g4.memBlk (c := q) (k := ⟨[machV m, ptrV c, .int .i64 e.next, .int .i64 d.pl, .int .i64 (d.stp + 1), .int .i64 d.rest], 1, false⟩) (by simp);have he4 := g4.memBlk (c := H.n) (k := ⟨encEn e, 1, false⟩) (by simp);have han := fun H => and14 Prog 3 H heb.2.2.1 heb.2.2.2.1;rw [List.append_assoc] at g4;by_cases hfl : e.flags / 16384 % 2 = 1
 ·rw [if_pos hfl];rw [if_pos hfl] at han;have hmx : (if 0 > r.2.1 then 0 else r.2.1) = max r.2.1 0 := by split <;> omega
  obtain ⟨H5, e5, g5⟩ := Star.stEnd (A := W r.1 w4 ++ X) (by simpa using g4) 3 (v := .int .i64 (max r.2.1 0)) rfl rfl (by simp);simp only [List.set_cons_zero, List.set_cons_succ] at g5;have hq5 := g5.memBlk (c := q) (k := ⟨[machV m, ptrV c, .int .i64 e.next, .int .i64 (max r.2.1 0), .int .i64 (d.stp + 1), .int .i64 d.rest], 1, false⟩) (by simp);obtain ⟨H6, e6, g6⟩ := g5.stEnd 5 (v := .int .i64 (d.rest + 1)) rfl rfl (by simp);simp only [List.set_cons_zero, List.set_cons_succ] at g6;refine ⟨H6, w4, ?_, ?_, hI4, by dsimp only; omega, hnx.1, hnx.2.1⟩
  ·rw [drive_driver_step_R];simp -implicitDefEqProofs (disch := omega) [-stR_ptr, drive_driver_step, hcls, hq, hqn, hstep, stR_ptr 4 H.n 0, e2, hq2, he2, e3, hq3, he3, e4, hq4, he4, han, hmx, e5, hq5, e6]
  ·have := g6.take ((W r.1 w4 ++ X).length + 1);rw [take_mid] at this;exact this
 ·rw [if_neg hfl];rw [if_neg hfl] at han;have hmx : (if 0 > r.2.2 then 0 else r.2.2) = max r.2.2 0 := by split <;> omega
  obtain ⟨H5, e5, g5⟩ := Star.stEnd (A := W r.1 w4 ++ X) (by simpa using g4) 3 (v := .int .i64 (max r.2.2 0)) rfl rfl (by simp);simp only [List.set_cons_zero, List.set_cons_succ] at g5;have hq5 := g5.memBlk (c := q) (k := ⟨[machV m, ptrV c, .int .i64 e.next, .int .i64 (max r.2.2 0), .int .i64 (d.stp + 1), .int .i64 d.rest], 1, false⟩) (by simp);obtain ⟨H6, e6, g6⟩ := g5.stEnd 5 (v := .int .i64 0) rfl rfl (by simp);simp only [List.set_cons_zero, List.set_cons_succ] at g6;refine ⟨H6, w4, ?_, ?_, hI4, by dsimp only; omega, hnx.1, hnx.2.1⟩
  ·rw [drive_driver_step_R];simp -implicitDefEqProofs (disch := omega) [-stR_ptr, drive_driver_step, hcls, hq, hqn, hstep, stR_ptr 4 H.n 0, e2, hq2, he2, e3, hq3, he3, e4, hq4, he4, han, hmx, bne, e5, hq5, e6]
  ·have := g6.take ((W r.1 w4 ++ X).length + 1);rw [take_mid] at this;exact this
set_option maxHeartbeats 1000000 in
theorem driveRun_starG (k : Nat) (m : Mach) (hm : m.ok) {H0 H : Heap} (W : σ → ω → List It) (Inv : σ → Prop) (ln : σ → List Gl) (c : Nat) (hW : ∀ s w, ∃ (i : Nat) (o : Option Nat), (W s w)[i]? = some (itLine c o (ln s))) (a : Value) (f : σ → Int → En → σ × Int × Int) (ha : ActOkG k m H0 W Inv a f)
  (X : List It) (s : σ) (w : ω) (hI : Inv s) (h : Star H0 H (W s w ++ X)) (hl : (ln s).length < 2 ^ 40) :
  ∃ H' w', R (T k) F.drive_Run [machV m, ptrV c, a] H = .ok (.tuple #[.int .i64 (runD m ln f (2 * (ln s).length + 128) (2 * (ln s).length + 128) (s, ⟨0, 0, 0, 0⟩)).1, .int .i64 (runD m ln f (2 * (ln s).length + 128) (2 * (ln s).length + 128) (s, ⟨0, 0, 0, 0⟩)).2.1]) H' ∧
   Star H0 H' (W (runD m ln f (2 * (ln s).length + 128) (2 * (ln s).length + 128) (s, ⟨0, 0, 0, 0⟩)).2.2 w' ++ X) ∧ Inv (runD m ln f (2 * (ln s).length + 128) (2 * (ln s).length + 128) (s, ⟨0, 0, 0, 0⟩)).2.2 := by
 rw [drive_Run_R];obtain ⟨N, hN⟩ : ∃ N, N = 2 * (ln s).length + 128 := ⟨_, rfl⟩
 have hNi : (2 * ((ln s).length : Int) + 128) = (N : Int) := by omega
 obtain ⟨x0, hx0⟩ : ∃ x0 : σ × Drv, x0 = (s, ⟨0, 0, 0, 0⟩) := ⟨_, rfl⟩
 rw [← hN, hNi, ← hx0];generalize hR0 : runD m ln f (N : Int) N x0 = R0;have g := h.push ⟨drvC m c ⟨0, 0, 0, 0⟩, 1, false⟩;obtain ⟨i, o, ho⟩ := hW s w;have hline : (W s w ++ X ++ [itBlk H.n ⟨drvC m c ⟨0, 0, 0, 0⟩, 1, false⟩])[i]? = some (itLine c o (ln s)) := by
  have h0 : i < (W s w).length := (List.getElem?_eq_some_iff.1 ho).1;rw [List.append_assoc, List.getElem?_append_left h0];exact ho
 have hlen := lineLen_run k g i hline
 obtain ⟨e, eE, H1, hr1, hQ⟩ := loop_up (body := drive_Run_l1 k (R (T k))) N
  (fun j e H' => e = [(2, a), (8, ptrV H.n), (9, .int .i64 N)] ∧ ∃ (x : σ × Drv) (w : ω), Star H0 H' (W x.1 w ++ X ++ [itBlk H.n ⟨drvC m c x.2, 1, false⟩]) ∧ Inv x.1 ∧ x.2.stp = j ∧ 0 ≤ x.2.pl ∧ x.2.pl ≤ 128 * j ∧ 0 ≤ x.2.rest ∧ x.2.rest ≤ j ∧ (0 ≤ x.2.st ∧ x.2.st < m.rows.length) ∧ runD m ln f N (N - j) x = R0)
  (fun x' e H' => ∃ r : Int × Int × σ, r = R0 ∧ ∃ (d : Drv) (w : ω), Star H0 H' (W r.2.2 w ++ X ++ [itBlk H.n ⟨drvC m c d, 1, false⟩]) ∧ Inv r.2.2 ∧
   ((x' = .ret ∧ e = [(6, .int .i64 r.1), (7, .int .i64 0)] ∧ r.2.1 = 0) ∨ (x' = .exit 0 ∧ d.stp = r.1 ∧ r.2.1 = 4 ∧ (e = [(2, a), (8, ptrV H.n), (9, .int .i64 N), (35, .bool true)] ∨ e = [(2, a), (8, ptrV H.n), (9, .int .i64 N), (23, .bool false)]))))
  (e0 := [(2, a), (8, ptrV H.n), (9, .int .i64 N)]) (H0 := H.push ⟨drvC m c ⟨0, 0, 0, 0⟩, 1, false⟩)
  ⟨rfl, x0, w, by rw [hx0]; exact g, by rw [hx0]; exact hI, by rw [hx0]; rfl, by rw [hx0]; exact Int.le_refl _, by rw [hx0]; exact Int.le_refl _, by rw [hx0]; exact Int.le_refl _, by rw [hx0]; exact Int.le_refl _, by rw [hx0]; have := hm.two; dsimp only; omega, by rw [Nat.sub_zero]; exact hR0⟩ (by omega)
  (fun j e H' hj ⟨he, x, w, g, hI, h1, h2, h3, h4, h5, hse, hrun⟩ => by
   subst he;obtain ⟨H2, w2, e2, g2, hI2, h6, h7⟩ := driverStep_runG k m hm W Inv ln c hW a f ha X H.n x.1 w x.2 hI g (by omega) (by omega) (by omega) hse;have hq := g.memBlk (c := H.n) (k := ⟨drvC m c x.2, 1, false⟩) (by simp);have p1 := stepD_stp m ln f x;have p2 := stepD_pl m ln f x;have p3 := stepD_rest m ln f x h4;have hlt : x.2.stp < (N : Int) := by omega
   have hNj : N - j = (N - (j + 1)) + 1 := by omega
   rw [hNj] at hrun;unfold runD at hrun;rw [if_pos hlt] at hrun;have hxx : (x.1, x.2) = x := rfl;rw [hxx] at e2 g2 hI2 h6 h7;generalize stepD m ln f x = y at *;have hq2 := g2.memBlk (c := H.n) (k := ⟨drvC m c y.1.2, 1, false⟩) (by simp);cases hy : y.2 with
   | true =>
    rw [hy] at hrun e2;simp only [if_true] at hrun;refine .inr ⟨.ret, _, H2, ?_, by simp, _, hrun, y.1.2, w2, g2, hI2, .inl ⟨rfl, rfl, rfl⟩⟩;rw [drive_Run_l1_eq];simp -implicitDefEqProofs (disch := omega) [hq, hlt, e2, hq2]
   | false =>
    rw [hy] at hrun e2;simp only [Bool.false_eq_true, if_false] at hrun;by_cases hr : y.1.2.rest > 64
    ·rw [if_pos hr] at hrun;refine .inr ⟨.exit 0, _, H2, ?_, by simp, _, hrun, y.1.2, w2, g2, hI2, .inr ⟨rfl, rfl, rfl, .inl rfl⟩⟩;rw [drive_Run_l1_eq];simp -implicitDefEqProofs (disch := omega) [hq, hlt, e2, hq2, hr]
    ·rw [if_neg hr] at hrun;refine .inl ⟨_, H2, ?_, rfl, y.1, w2, g2, hI2, by omega, p2, by omega, p3.1, by omega, h7, hrun⟩;rw [drive_Run_l1_eq];simp -implicitDefEqProofs (disch := omega) [hq, hlt, e2, hq2, hr])
  (fun e H' ⟨he, x, w, g, hI, h1, h2, h3, h4, h5, hse, hrun⟩ => by
   subst he;rw [Nat.sub_self] at hrun;have hq := g.memBlk (c := H.n) (k := ⟨drvC m c x.2, 1, false⟩) (by simp);refine ⟨.exit 0, _, H', ?_, by simp, _, hrun, x.2, w, g, hI, .inr ⟨rfl, rfl, rfl, .inr rfl⟩⟩;have hnl : ¬ x.2.stp < (N : Int) := by omega
   rw [drive_Run_l1_eq];simp -implicitDefEqProofs (disch := omega) [hq, hnl])
 obtain ⟨r, hr, d, w3, g, hIr, hcase⟩ := hQ;subst hr;have hq := g.memBlk (c := H.n) (k := ⟨drvC m c d, 1, false⟩) (by simp);have gX : Star H0 H1 (W r.2.2 w3 ++ X) := g.drop_last;refine ⟨H1, w3, ?_, gX, hIr⟩;rcases hcase with ⟨rfl, rfl, hc⟩ | ⟨rfl, hd, hc, rfl | rfl⟩
 ·rw [hc];simp -implicitDefEqProofs (disch := omega) [drive_Run, hlen, hNi, hr1, drive_Run_l1k_r]
 ·rw [hc];simp -implicitDefEqProofs (disch := omega) [drive_Run, hlen, hNi, hr1, drive_Run_l1k_x0, hq, hd]
 ·rw [hc];simp -implicitDefEqProofs (disch := omega) [drive_Run, hlen, hNi, hr1, drive_Run_l1k_x0_1, hq, hd]
end Go.Sw
end
section
namespace Go.Sw
open Go.RowKit
structure InsOk (n left : Int) (s : InsSt) : Prop where
 sum : s.left + s.done = left
 done : 0 ≤ s.done ∧ (s.done = 0 ∨ s.done ≤ left)
 len : (s.l.length : Int) ≤ n + s.done
 mark : -1 ≤ s.mark ∧ s.mark ≤ s.l.length
theorem insertG_le (l : List Gl) (i : Int) (ids : List Int) : l.length ≤ (insertG l i ids).length ∧ (insertG l i ids).length ≤ l.length + ids.length := by
 unfold insertG;split
 ·simp; omega
 ·omega
theorem InsOk.put {n left : Int} {s : InsSt} (h : InsOk n left s) (list : List Int) (place a m : Int) (hm : 0 < m) : InsOk n left (putS list s place a m).1 := by
 unfold putS;have h1 := insertG_le s.l place (listN list a m);rw [listN_len] at h1;split
 ·exact ⟨h.sum, h.done, h.len, h.mark⟩
 ·have h2 := h.sum;have h3 := h.done;have h4 := h.len;have h5 := h.mark;exact ⟨by dsimp only; omega, by dsimp only; omega, by dsimp only; omega, by dsimp only; omega⟩
theorem putS_len {list : List Int} {s : InsSt} {place a m : Int} (hm : 0 < m) (h : (putS list s place a m).2 = true) : ((putS list s place a m).1.l.length : Int) = s.l.length + m ∧ (putS list s place a m).1.mark = s.mark ∧ 0 ≤ place ∧ place ≤ s.l.length := by
 unfold putS at h ⊢;split
 ·rename_i hc;rw [if_pos hc] at h;cases h
 ·rename_i hc;rw [if_neg hc] at h;have h := of_decide_eq_true h;dsimp only;rw [insertG_len _ _ _ h, listN_len];exact ⟨by omega, rfl, h⟩
theorem InsOk.act1 {n left : Int} {s : InsSt} (h : InsOk n left s) (list : List Int) (i : Int) (e : En) : InsOk n left (Go.Sw.act1 list s i e).1 := by
 unfold Go.Sw.act1;split
 ·rename_i hc;have hp := h.put list (markPlace s e) e.b (markS e) hc.1;dsimp only;split
  ·exact hp
  ·rename_i h2;obtain ⟨l1, l2, l3, l4⟩ := putS_len hc.1 ((Bool.not_eq_false _).mp h2);have hm := h.mark;refine ⟨hp.sum, hp.done, hp.len, ?_⟩;dsimp only;rw [l2];split
   ·unfold markPlace at *;split at l4 <;> omega
   ·omega
 ·exact h
theorem InsOk.act2 {n left : Int} {s : InsSt} (h : InsOk n left s) (list : List Int) (i : Int) (hi : 0 ≤ i) (e : En) (hf : 0 ≤ e.flags) : InsOk n left (Go.Sw.act2 list s i e).1 := by
 have hh := hereS_le hf;have hm := h.mark;unfold Go.Sw.act2;dsimp only;split
 ·rename_i hc;have hp := fun pl => h.put list pl e.a (hereS e) hc;generalize (if e.flags / 2048 % 2 = 1 then i else min (i + 1) (s.l.length : Int)) = pl;have hp := hp pl;by_cases h2 : (putS list s pl e.a (hereS e)).2 = false
  ·rw [if_pos h2];exact hp
  ·rw [if_neg h2];obtain ⟨l1, l2, l3, l4⟩ := putS_len hc ((Bool.not_eq_false _).mp h2);refine ⟨hp.sum, hp.done, hp.len, ?_⟩;dsimp only;rw [l2];split
   ·rename_i hfo;have := of_decide_eq_false hfo.2;split <;> omega
   ·split <;> omega
 ·rename_i hc;refine ⟨h.sum, h.done, h.len, ?_⟩;dsimp only;split
  ·rename_i hfo;have := of_decide_eq_false hfo.2;rw [if_neg (fun hh => hc hh.1)];omega
  ·exact hm
theorem act1_i {list : List Int} {s : InsSt} {i : Int} {e : En} (hf : 0 ≤ e.flags) : i ≤ (act1 list s i e).2.1 ∧ (act1 list s i e).2.1 ≤ i + 31 := by
 have hm := markS_le hf;unfold act1;split
 ·dsimp only;split
  ·dsimp only; omega
  ·dsimp only;split <;> omega
 ·dsimp only; omega
theorem InsOk.act {n left : Int} {s : InsSt} (h : InsOk n left s) (list : List Int) (i : Int) (hi : 0 ≤ i) (e : En) (hf : 0 ≤ e.flags) : InsOk n left (actI list s i e).1 := by
 have h1 := act1_i (list := list) (s := s) (i := i) hf;unfold actI;split
 ·exact h
 ·dsimp only;split
  ·exact h.act1 list i e
  ·exact (h.act1 list i e).act2 list _ (by omega) e hf
def insW (t : ITab) (L : List It) (il c q : Nat) (s : InsSt) (o : Option Nat) : List It := L.set il (itLine c o s.l) ++ [itBlk q ⟨run18 t c s, 1, false⟩]
end Go.Sw
end
