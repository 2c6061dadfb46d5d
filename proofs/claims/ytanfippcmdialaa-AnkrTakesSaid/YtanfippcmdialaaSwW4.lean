/-
  Functions' forms, and what is proved of them, part 4.
-/
import Derived.Test.YtanfippcmdialaaSwW3
import Derived.Test.YtanfippcmdialaaSwW1
import Derived.Test.YtanfippcmdialaaSwLib8
import Derived.Test.YtanfippcmdialaaSwCfg
import Derived.Tactics
import Derived.Tactics2
import Derived.Defers
import Derived.Recover
import Derived.Laws.Pointers
import Derived.Test.YtanfippcmdialaaSwLib10
import Derived.RangeFuncKeeps
import Derived.RangeFuncLeaves
import Derived.Shelf.Abstract
import Derived.WalkKit
import Derived.OwnWalkIn
import Derived.TacticsInMore
import Derived.LoopNIn
import Derived.LoopIn
import Derived.Laws.IdiomCopy
import Derived.Lib.Walk
import Derived.Lib.SliceRun
import Derived.Lib.JoinLaws
import Derived.Lib.AppendZeros
import Derived.Lib.AppendZerosOnto
import Derived.Lib.Overlaps
import Derived.Laws.Externs
import Derived.Laws.NewBlocks
import Derived.Deep.RegionLaw
set_option linter.unusedSimpArgs false
set_option linter.unusedVariables false
set_option linter.unusedSectionVars false
section
namespace Go.Sw
open Go.RowKit
def ptOk (d : List Int) (n : Int) : Bool := ((uS d n 4).bind fun m => rowsS d (n + 4) m 4).isSome
def ankS (b : List Int) (g : Int) : Option ATab := (uS b 0 2).bind fun z => if z = 0 then (uS b 4 4).bind fun w => (restS b w).bind fun of => (lookS of g 2).bind fun tab => (uS b 8 4).bind fun w2 => (restS b w2).bind fun d =>
 if (tab.2.flatMap ptL).all (fun x => ptOk d (x.getD 1 0)) then some ⟨tab, d⟩ else none else none
theorem Flat.ank (t : ATab) : Flat (ankV t) := .boxV (.cons (Flat.tab t.of) (.cons (Flat.B _) .nil))
theorem ptL_mem {ps : List Pt} (hok : ∀ p, p ∈ ps → p.ok) {x : List Int} (h : x ∈ ps.flatMap ptL) : ∃ id n, x = [id, n] ∧ 0 ≤ n ∧ n < 4294967296 := by
 obtain ⟨p, hp, hx⟩ := List.mem_flatMap.1 h;unfold ptL at hx;obtain ⟨j, hj, rfl⟩ := List.mem_map.1 hx;obtain ⟨x, hx, h0, h1⟩ := Pt.num_some (hok p hp) (id := p.first + (j : Nat)) (by omega);exact ⟨_, _, rfl, by rw [hx]; exact ⟨h0, h1⟩⟩
theorem ptL_has {ps : List Pt} {id n : Int} (h : getS ps id = some n) : [id, n] ∈ ps.flatMap ptL := by
 unfold getS at h;obtain ⟨p, hp, h⟩ := Option.bind_eq_some_iff.1 h;split at h
 ·rename_i hf;have hm := List.mem_of_find?_eq_some hp;have hl := List.find?_some hp;simp at hl;refine List.mem_flatMap.2 ⟨p, hm, List.mem_map.2 ⟨(id - p.first).toNat, List.mem_range.2 (by omega), ?_⟩⟩;rw [show p.first + (((id - p.first).toNat : Nat) : Int) = id by omega, h];rfl
 ·cases h
theorem take_rounds (k : Nat) (a4 : Value) (pM pT pB G : Nat) (tab : Int × List Pt) (d : List Int) (hd : Byt d) (hl : d.length < 2 ^ 31) : ∀ (l : List (List Int)), (∀ x, x ∈ l → ∃ id n, x = [id, n] ∧ 0 ≤ n ∧ n < 4294967296) → ∀ (ks : List Int), (∀ n, n ∈ ks → ptOk d n = true) → ∀ (H : Heap),
  H.get pM = some ⟨[.map (some G)], 1, false⟩ → H.get pT = some ⟨[ptrV pB], 1, false⟩ → H.get pB = some ⟨[tabV tab, lv encB d], 1, false⟩ →
  (l.all (fun x => ptOk d (x.getD 1 0)) = true ∧ ∃ H', rangeM (takeRound (R (T k))) [33, 34] [(4, a4), (5, ptrV pT), (6, ptrV pM)] l H (some (G, ks)) = .ok (.normal, [(4, a4), (5, ptrV pT), (6, ptrV pM)]) H' ∧ Ext H H') ∨
  (l.all (fun x => ptOk d (x.getD 1 0)) = false ∧ ∃ H', rangeM (takeRound (R (T k))) [33, 34] [(4, a4), (5, ptrV pT), (6, ptrV pM)] l H (some (G, ks)) = .panic failV H' ∧ Ext H H')
 | [], _, ks, _, H, _, _, _ => .inl ⟨rfl, H, rfl, Ext.refl H⟩
 | x :: l, hx, ks, hks, H, hM, hT, hB => by
  obtain ⟨id, n, rfl, h0, h1⟩ := hx x (by simp);have hx1 : Ext H (H.push ⟨[], 1, false⟩) := (Ext.refl H).push _;have ih := fun ks hks => take_rounds k a4 pM pT pB G tab d hd hl l (fun y hy => hx y (by simp [hy])) ks hks (H.push ⟨[], 1, false⟩) (hx1.get hM) (hx1.get hT) (hx1.get hB);have hput : putAll [(4, a4), (5, ptrV pT), (6, ptrV pM)] [33, 34] [id, n] = [(4, a4), (5, ptrV pT), (6, ptrV pM), (33, .int .i64 id), (34, .int .i64 n)] := rfl;have hlen : Nat.beq [id, n].length [33, 34].length = true := rfl;unfold rangeM;rw [hlen, cond_true, hput];by_cases hn : n ∈ ks
  ·rw [round_old k a4 (ptrV pT) (.int .i64 id) pM G n ks hn H hM];have hp := hks n hn;rw [Res.bind_ok];rcases ih ks hks with ⟨i1, H', i2, i3⟩ | ⟨i1, H', i2, i3⟩
   ·exact .inl ⟨by simp only [List.all_cons, i1]; simpa using hp, H', i2, hx1.trans i3⟩
   ·exact .inr ⟨by simp only [List.all_cons, i1, Bool.and_false], H', i2, hx1.trans i3⟩
  ·rw [round_new k a4 (.int .i64 id) pM pT pB G n ⟨h0, h1⟩ ks hn tab d hd hl H hM hT hB];cases hp : (uS d n 4).bind fun m => rowsS d (n + 4) m 4 with
   | none => exact .inr ⟨by simp [ptOk, hp], _, rfl, hx1⟩
   | some r =>
    have hpn : ptOk d n = true := by unfold ptOk; rw [hp]; rfl
    rw [Res.bind_ok];rcases ih (n :: ks) (fun m hm => by rcases List.mem_cons.1 hm with rfl | hm; exact hpn; exact hks m hm) with ⟨i1, H', i2, i3⟩ | ⟨i1, H', i2, i3⟩
    ·exact .inl ⟨by simp only [List.all_cons, i1]; simpa using hpn, H', i2, hx1.trans i3⟩
    ·exact .inr ⟨by simp only [List.all_cons, i1, Bool.and_false], H', i2, hx1.trans i3⟩
theorem Ext.dead {H0 H : Heap} (h : Ext H0 H) : Ext H0 (deadH H) := ⟨Nat.le_succ_of_le h.1, fun c hc hs => (deadH_get H c).trans (h.2 c hc hs)⟩
theorem ankrTake_R (k : Nat) (a0 a1 : Value) (h : Heap) : R (T k) F.ankr_Take [a0, a1] h = nrm .fz h (bodyF CI (R (T k)) F.ankr_Take [a0, a1] h) :=
 (R_sp (t := T k) (T_scott k) (s := fun call args H => bodyF CI call F.ankr_Take args H) (by kernel_rfl) [a0, a1] h).trans (by
  show nrm ((T k).md F.ankr_Take) h _ = _;rfl)
theorem ankrTake_run (k : Nat) (b : List Int) (hb : Byt b) (g : Int) (hg : 1 ≤ g ∧ g ≤ 65535) (hl : b.length < 2 ^ 31) (H : Heap) : R (T k) F.ankr_Take [vwB b, .int .i64 g] H = orF (ankS b g) ankV H := by
 rw [ankrTake_R];refine fz_orF ?_ fun _ _ => (Flat.ank _).alive;have hx : Ext H (H.push ⟨[lv encB b], 1, false⟩) := (Ext.refl H).push _;have hvb : veq (vwB b) (vwB b) = true := veq_agg (l := [lv encB b]) fun u hu => by simp at hu; subst hu; exact veq_B b
 have gH : (H.push ⟨[lv encB b], 1, false⟩).get H.n = some ⟨[lv encB b], 1, false⟩ := get_push_eq _ _ _ rfl;rw [take_body, tF0, tM0, ankr_Take_p2 k];simp -implicitDefEqProofs (disch := omega) only [boxR_vw, newP, Res.bind_ok, kSeqF];rw [tF1, tM1, ankr_Take_p4 k];unfold ankS;simp -implicitDefEqProofs (disch := omega) [kSeqF];refine Cp.call (U16_run k (Sl.lv _ 1 b) hb 0 (by omega)) hx fun z hz => ?_;have hzb := uS_two hb hz;rw [bin_eql, Res.bind_ok, show (z == 0) = decide (z = 0) from rfl];refine Cp.need hx fun h0 => ?_;simp -implicitDefEqProofs (disch := omega) only [kSeqF];rw [tF2, tM2, ankr_Take_p6 k];simp -implicitDefEqProofs (disch := omega) [gH, hvb];refine Cp.callT (U32_run k (Sl.lv _ 1 b) hb 4 (by omega)) (fun _ => ⟨_, by simp -implicitDefEqProofs (disch := omega) [gH, hvb], hx⟩) fun w hw => ?_;have hwb := uS_four hb hw;simp -implicitDefEqProofs (disch := omega) [gH, hvb];refine Cp.callT (Rest_lv k b w (by omega) (by omega) _) (fun _ => ⟨_, by simp -implicitDefEqProofs (disch := omega) [gH, hvb], hx⟩) fun of hof => ?_;have lof := restS_len hof;simp -implicitDefEqProofs (disch := omega) [gH, hvb];refine Cp.callT (lookTake_run k (Sl.lv _ 1 of) (hb.rest hof) g 2 hg.1 hg.2 (.inl rfl) (by omega)) (fun _ => ⟨_, by simp -implicitDefEqProofs (disch := omega) [gH, hvb], hx⟩) fun tab htab => ?_;have hok := lookS_ok (hb.rest hof) hg.1 hg.2 (.inl rfl) htab;have hpl := lookS_len (hb.rest hof) htab;simp -implicitDefEqProofs (disch := omega) [gH, hvb];refine Cp.callT (U32_run k (Sl.lv _ 1 b) hb 8 (by omega)) (fun _ => ⟨_, by simp -implicitDefEqProofs (disch := omega) [gH, hvb], hx⟩) fun w2 hw2 => ?_;have hwb2 := uS_four hb hw2;simp -implicitDefEqProofs (disch := omega) [gH, hvb];refine Cp.callT (Rest_lv k b w2 (by omega) (by omega) _) (fun _ => ⟨_, by simp -implicitDefEqProofs (disch := omega) [gH, hvb], hx⟩) fun d hd => ?_;have ld := restS_len hd;simp -implicitDefEqProofs (disch := omega) [gH, hvb];have hx3 : Ext H (((H.push ⟨[lv encB b], 1, false⟩).push ⟨[tabV tab, lv encB d], 1, false⟩).push ⟨[ptrV (H.n + 1)], 1, false⟩) := (hx.push _).push _;have hB : (((H.push ⟨[lv encB b], 1, false⟩).push ⟨[tabV tab, lv encB d], 1, false⟩).push ⟨[ptrV (H.n + 1)], 1, false⟩).get (H.n + 1) = some ⟨[tabV tab, lv encB d], 1, false⟩ := by simp
 have hT : (((H.push ⟨[lv encB b], 1, false⟩).push ⟨[tabV tab, lv encB d], 1, false⟩).push ⟨[ptrV (H.n + 1)], 1, false⟩).get (H.n + 2) = some ⟨[ptrV (H.n + 1)], 1, false⟩ := by simp
 generalize hH3 : ((H.push ⟨[lv encB b], 1, false⟩).push ⟨[tabV tab, lv encB d], 1, false⟩).push ⟨[ptrV (H.n + 1)], 1, false⟩ = H3 at hx3 hB hT ⊢;simp -implicitDefEqProofs only [kSeqF];rw [tF3, pM3];have e1 : ∀ h : Heap, newP [.map none] h = .ok (ptrV h.n) (h.push ⟨[.map none], 1, false⟩) := fun _ => rfl;have e2 : stR 1 (ptrV (deadH H3).n) (.map (some H3.n)) ((deadH H3).push ⟨[.map none], 1, false⟩) = .ok undef ((deadH H3).push ⟨[.map (some H3.n)], 1, false⟩) := by
  have c1 : (Value.map (some H3.n)).cells = #[.map (some H3.n)] := rfl;have c2 : storable (.map (some H3.n)) = true := rfl;simp [c1, c2]
 simp only [mapMk, plM, Res.bind_ok, e1, e2, endM];show Cp failV (Ext H) ((kSeqF _ _) .normal [(4, .pointer none), (5, ptrV (H.n + 2)), (6, ptrV (deadH H3).n)] _ _) _ _;have hx4 : Ext H3 ((deadH H3).push ⟨[.map (some H3.n)], 1, false⟩) := (Ext.refl H3).dead.push _;have hM : ((deadH H3).push ⟨[.map (some H3.n)], 1, false⟩).get (deadH H3).n = some ⟨[.map (some H3.n)], 1, false⟩ := get_push_eq _ _ _ rfl;have hB := hx4.get hB;have hT := hx4.get hT;have hx4 := hx3.trans hx4;generalize ((deadH H3).push ⟨[.map (some H3.n)], 1, false⟩) = H4 at hx4 hM hB hT ⊢;simp -implicitDefEqProofs only [kSeqF];rw [tF4, tF5, tM4, ankr_Take_p11 k];have hall := fun H' => lookAll_run k tab H';simp -implicitDefEqProofs (disch := omega) [hT, hB, hall];have hx5 : Ext H4 (H4.push ⟨[tabV tab], 1, false⟩) := (Ext.refl H4).push _;have hit := itS_tab tab hok.2.1 hpl H4.n (H4.push ⟨[tabV tab], 1, false⟩) (get_push_eq _ _ _ rfl);simp -implicitDefEqProofs only [kSeqF];rw [tF6, tF7, hit];simp only [opt, Res.bind_ok];have hrd := take_rounds k (.pointer none) (deadH H3).n (H.n + 2) (H.n + 1) H3.n tab d (hb.rest hd) (by omega) (tab.2.flatMap ptL) (fun x hx => ptL_mem hok.2.1 hx) [] (fun n hn => by cases hn) (H4.push ⟨[tabV tab], 1, false⟩) (hx5.get hM) (hx5.get hT) (hx5.get hB);have hiff : ((tab.2.flatMap ptL).all (fun x => ptOk d (x.getD 1 0)) = true) ↔ (∀ (x : Pt), x ∈ tab.snd → ∀ (x_1 : List Int), x_1 ∈ ptL x → ptOk d (x_1[1]?.getD 0) = true) := by simp
 rcases hrd with ⟨h1, H', h2, h3⟩ | ⟨h1, H', h2, h3⟩
 ·rw [if_pos (hiff.1 h1)];show Cp failV (Ext H) ((rangeM (takeRound (R (T k))) [33, 34] [(4, .pointer none), (5, ptrV (H.n + 2)), (6, ptrV (deadH H3).n)] _ _ _).bind _) _ _;rw [h2, Res.bind_ok];have hT' := h3.get (hx5.get hT);have hB' := h3.get (hx5.get hB);have hx6 := (hx4.trans hx5).trans h3;unfold kBlock kSeq;dsimp only;rw [ankr_Take_p26 k, ankr_Take_p27 k];simp -implicitDefEqProofs (disch := omega) [hT'];unfold kSeq;dsimp only;rw [ankr_Take_p28 k, ankr_Take_p29];refine .ok hx6 ?_;exact ⟨_, fz_box (by omega) hB' (mapF_cons (v := tabV tab) (u := tabV tab) (L1 := []) rfl (mapF_one (v := lv encB d) (u := lv encB d) (L := []) rfl))⟩
 ·rw [if_neg (fun hc => by rw [hiff.2 hc] at h1; cases h1)];show Cp failV (Ext H) ((rangeM (takeRound (R (T k))) [33, 34] [(4, .pointer none), (5, ptrV (H.n + 2)), (6, ptrV (deadH H3).n)] _ _ _).bind _) _ _;rw [h2];exact ⟨H', rfl, (hx4.trans hx5).trans h3⟩
theorem ankS_ok {b : List Int} (hb : Byt b) {g : Int} (h1 : 1 ≤ g) (h2 : g ≤ 65535) (hl : b.length < 2 ^ 31) {t : ATab} (h : ankS b g = some t) : t.ok := by
 unfold ankS at h;obtain ⟨z, hz, h⟩ := Option.bind_eq_some_iff.1 h;split at h
 ·obtain ⟨w, hw, h⟩ := Option.bind_eq_some_iff.1 h;obtain ⟨of, hof, h⟩ := Option.bind_eq_some_iff.1 h;obtain ⟨tab, htab, h⟩ := Option.bind_eq_some_iff.1 h;obtain ⟨w2, hw2, h⟩ := Option.bind_eq_some_iff.1 h;obtain ⟨d, hd, h⟩ := Option.bind_eq_some_iff.1 h;split at h
  ·rename_i hall;injection h with h;subst h;have hok := lookS_ok (hb.rest hof) h1 h2 (.inl rfl) htab;have := restS_len hof;have ld := restS_len hd;refine ⟨hok.2.1, hok.2.2, lookS_len (hb.rest hof) htab, hb.rest hd, by dsimp only; omega, fun id at_ hg => ?_⟩;dsimp only at hg ⊢;have hm := ptL_has hg;obtain ⟨id', n, e, b0, b1⟩ := ptL_mem hok.2.1 hm;injection e with e1 e2;injection e2 with e2 _;subst e1 e2;have hp := List.all_eq_true.1 hall _ hm;unfold ptOk at hp;obtain ⟨r, hr⟩ := Option.isSome_iff_exists.1 hp;obtain ⟨m, hm, hr⟩ := Option.bind_eq_some_iff.1 hr;have hr : rowsS d (at_ + 4) m 4 = some r := hr;have hr := (rowsS_iff (by decide)).1 hr;have hm' : uS d at_ 4 = some m := hm;exact ⟨b0, m, hm', by omega⟩
  ·cases h
 ·cases h
end Go.Sw
end
section
namespace Go.Sw
open Go.RowKit
def ankrP (o : Option ATab) : Value := match o with | some t => ankV t | none => .pointer none
theorem ankrP_flat (o : Option ATab) : Flat (ankrP o) := by
 cases o with
 | none => exact .nilPtr
 | some t => exact Flat.ank t
theorem ankr_in1_run (k : Nat) {H : Heap} (b : List Int) (hb : Byt b) (g : Int) (hg : 1 ≤ g ∧ g ≤ 65535) (hl : b.length < 2 ^ 31) (p2 p3 p4 : Nat) (old : Value)
  (h2 : H.get p2 = some ⟨[lv encB b], 1, false⟩) (h3 : H.get p3 = some ⟨[.int .i64 g], 1, false⟩) (h4 : H.get p4 = some ⟨[old], 1, false⟩) (ht : ∀ H', R (T k) F.ankr_Take [vwB b, .int .i64 g] H' = orF (ankS b g) ankV H') :
  R (T k) F.ankr_Read_in1 [ptrV p2, ptrV p3, ptrV p4] H = match ankS b g with
   | some t => .ok (.tuple #[]) (H.set p4 (some ⟨[ankV t], 1, false⟩))
   | none => .panic failV H := by
 rw [ankr_Read_in1_R];have ht := ht H;cases h : ankS b g with
 | none =>
  rw [h] at ht;refine nrm_throw ⟨H, ?_, Ext.refl H⟩ Flat.fail.alive;simp -implicitDefEqProofs (disch := omega) [ankr_Read_in1, h2, h3, ht]
 | some x =>
  rw [h] at ht;simp -implicitDefEqProofs (disch := omega) [ankr_Read_in1, h2, h3, h4, ht]
def ankrO (b : List Int) (g : Int) : Option ATab := if 1 ≤ g ∧ g ≤ 65535 then ankS b g else none
def ankrN (b : List Int) (g : Int) : Int := if 1 ≤ g ∧ g ≤ 65535 then (if (ankS b g).isSome then 0 else 2) else 1
theorem ankrRead_run (k : Nat) {H : Heap} {v : Value} {b : List Int} (hv : Sl H 1 v encB b) (hb : Byt b) (g : Int) (hl : b.length ≤ 2 ^ 30) (ht : (1 ≤ g ∧ g ≤ 65535) → ∀ H', R (T k) F.ankr_Take [vwB b, .int .i64 g] H' = orF (ankS b g) ankV H') :
  R (T k) F.ankr_Read [v, .int .i64 g] H = .ok (.tuple #[ankrP (ankrO b g), .int .i64 (ankrN b g)]) H := by
 rw [ankr_Read_R];have hx2 := (Ext.refl H).push ⟨[.int .i64 g], 1, false⟩;have al : ∀ o n, Alive H (.tuple #[ankrP o, .int .i64 n]) := fun o n => (Flat.tupleL (l := [ankrP o, .int .i64 n]) (.cons (ankrP_flat o) (.cons (.int _ _) .nil))).alive;have fz : ∀ H' o n, fzV H.n H' fzDepth (.tuple #[ankrP o, .int .i64 n]) = some (.tuple #[ankrP o, .int .i64 n], []) := fun H' o n => by
  cases o <;> rfl
 by_cases hgg : 1 ≤ g ∧ g ≤ 65535
 ·have c1 : ¬ g < 1 := by omega
  have c2 : ¬ g > 65535 := by omega
  have hx3 := hx2.push ⟨[.pointer none], 1, false⟩;have o3 := Of_run k (hv.up hx3);have by3 := Bytes_run k (hv.up hx3) hl;have o4 := fun H => Of_lv k b H;have hin := ankr_in1_run k (H := ((H.push ⟨[.int .i64 g], 1, false⟩).push ⟨[.pointer none], 1, false⟩).push ⟨[lv encB b], 1, false⟩) b hb g hgg (by omega) (H.n + 2) H.n (H.n + 1) (.pointer none) (by simp) (by simp) (by simp) (ht hgg);cases hlk : ankS b g with
  | none =>
   rw [hlk] at hin;have ht := Try_no k F.ankr_Read_in1 #[ptrV (H.n + 2), ptrV H.n, ptrV (H.n + 1)] hin;refine nrm_fz (H' := ((H.push ⟨[.int .i64 g], 1, false⟩).push ⟨[.pointer none], 1, false⟩).push ⟨[lv encB b], 1, false⟩) (v := .tuple #[ankrP none, .int .i64 2]) ?_ (by unfold ankrO ankrN; rw [if_pos hgg, if_pos hgg, hlk]; exact fz _ _ _) (hx3.push _) (al _ _);simp -implicitDefEqProofs (disch := omega) [ankr_Read, c1, c2, o3, by3, o4, ht, ankrP]
  | some x =>
   rw [hlk] at hin;have ht := Try_ok k F.ankr_Read_in1 #[ptrV (H.n + 2), ptrV H.n, ptrV (H.n + 1)] hin;refine nrm_fz (H' := ((H.push ⟨[.int .i64 g], 1, false⟩).push ⟨[ankV x], 1, false⟩).push ⟨[lv encB b], 1, false⟩) (v := .tuple #[ankrP (some x), .int .i64 0]) ?_ (by unfold ankrO ankrN; rw [if_pos hgg, if_pos hgg, hlk]; exact fz _ _ _) ((hx2.push _).push _) (al _ _);simp at ht;simp -implicitDefEqProofs (disch := omega) [ankr_Read, c1, c2, o3, by3, o4, ht, ankrP]
 ·refine nrm_fz (H' := (H.push ⟨[.int .i64 g], 1, false⟩).push ⟨[.pointer none], 1, false⟩) (v := .tuple #[ankrP none, .int .i64 1]) ?_ (by unfold ankrO ankrN; rw [if_neg hgg, if_neg hgg]; exact fz _ _ _) (hx2.push _) (al _ _);by_cases c1 : g < 1
  ·simp -implicitDefEqProofs (disch := omega) [ankr_Read, c1, ankrP]
  ·have c2 : g > 65535 := by omega
   simp -implicitDefEqProofs (disch := omega) [ankr_Read, c1, c2, ankrP]
end Go.Sw
end
section
namespace Go.Sw
theorem wf_u8 {n : Int} (h : (Lit.int .u8 n).wf = true) : 0 ≤ n ∧ n < 256 := by
 simp [Lit.wf, IntKind.min, IntKind.max, IntKind.signed, IntKind.bits] at h;omega
theorem row_B {r : List Da} {cs : List Value} (h : LayRow [.int .u8] r cs) : ∃ n : Int, cs = encB n ∧ (0 ≤ n ∧ n < 256) := by
 obtain ⟨d, v, ds, vs, rfl, h1, h2⟩ := h.head;obtain rfl := h2.done;obtain ⟨n, rfl, w⟩ := h1.intv;exact ⟨n, rfl, wf_u8 w⟩
theorem arg_B {v : Value} (h : ArgLay (.one (.slice [.int .u8])) v) : ∃ b, v = lv encB b ∧ Byt b := by
 obtain ⟨d, h1⟩ := h.cell;obtain ⟨b, rfl, hb⟩ := Lay.list (enc := encB) (ok := fun n => 0 ≤ n ∧ n < 256) (fun r cs h => row_B h) h1;exact ⟨b, rfl, hb⟩
theorem arg_i {k : IntKind} {v : Value} (h : ArgLay (.one (.int k)) v) : ∃ n, v = .int k n ∧ (Lit.int k n).wf = true := by
 obtain ⟨d, h1⟩ := h.cell;exact h1.intv
end Go.Sw
end
section
set_option maxRecDepth 100000
set_option linter.unusedVariables false
namespace Go.Sw
noncomputable section
def swashlaw24_AnkrBack_l1 (k : Nat) (call : Caller) : Env → Heap → Res (AExit × Env) := loopB (C k) call F.swashlaw24_AnkrBack [1, 1, 1, 0, 1, 0, 0]
def swashlaw24_AnkrBack_l1k (k : Nat) (call : Caller) : Kont Value := kBlock 0 (kSeq (pieceK (C k) call F.swashlaw24_AnkrBack [1, 1, 1, 1]) (kDone Prog (resOf Prog F.swashlaw24_AnkrBack)))
def swashlaw24_AnkrBack_l2 (k : Nat) (call : Caller) : Env → Heap → Res (AExit × Env) := loopB (C k) call F.swashlaw24_AnkrBack [1, 1, 1, 1, 1, 1, 1, 0, 1, 0, 0]
def swashlaw24_AnkrBack_l2k (k : Nat) (call : Caller) : Kont Value := kBlock 2 (kSeq (pieceK (C k) call F.swashlaw24_AnkrBack [1, 1, 1, 1, 1, 1, 1, 1]) (kDone Prog (resOf Prog F.swashlaw24_AnkrBack)))
def swashlaw24_AnkrBack_l3 (k : Nat) (call : Caller) : Env → Heap → Res (AExit × Env) := loopB (C k) call F.swashlaw24_AnkrBack [1, 1, 1, 1, 1, 1, 1, 1, 0, 1, 0, 0]
def swashlaw24_AnkrBack_l3k (k : Nat) (call : Caller) : Kont Value := kBlock 4 (kSeq (pieceK (C k) call F.swashlaw24_AnkrBack [1, 1, 1, 1, 1, 1, 1, 1, 1]) (kDone Prog (resOf Prog F.swashlaw24_AnkrBack)))
def swashlaw24_AnkrBack_l4 (k : Nat) (call : Caller) : Env → Heap → Res (AExit × Env) := loopB (C k) call F.swashlaw24_AnkrBack [1, 1, 1, 1, 1, 1, 1, 1, 0, 1, 0, 0, 1, 1, 0, 0, 1, 1, 0, 1, 0, 0]
def swashlaw24_AnkrBack_l4k (k : Nat) (call : Caller) : Kont (AExit × Env) := kBlock 6 (kSeq (pieceK (C k) call F.swashlaw24_AnkrBack [1, 1, 1, 1, 1, 1, 1, 1, 0, 1, 0, 0, 1, 1, 0, 0, 1, 1, 1]) (kBlock 5 (kSeq (pieceK (C k) call F.swashlaw24_AnkrBack [1, 1, 1, 1, 1, 1, 1, 1, 0, 1, 0, 0, 1, 1, 1]) (kRound (ownOf (C k) F.swashlaw24_AnkrBack [1, 1, 1, 1, 1, 1, 1, 1, 0, 1, 0, 0])))))
def swashlaw24_AnkrBack (k : Nat) (call : Caller) (a0 a1 : Value) (h : Heap) : Res Value :=
 (call F.swashlaw24_speaks [] h).bind fun v1 h2 =>
 (unR .not v1 h2).bind fun v3 h4 =>
 condV (some v3) (
 .ok (.bool false) h4)
 (
 (builtinV Prog .len [61] [a0] h4).bind fun v5 h6 =>
 (binR Prog .gtr 3 v5 (.int .i64 30) h6).bind fun v7 h8 =>
 condV (some v7) (
 .ok (.bool true) h8)
 (
 (builtinV Prog .len [61] [a0] h8).bind fun v9 h10 =>
 (loopN (swashlaw24_AnkrBack_l1 k call) loopFuel [(0, a0), (1, a1), (25, a0), (26, v9), (27, (.int .i64 0))] h10).bind fun r11 h12 =>
 swashlaw24_AnkrBack_l1k k call r11.1 r11.2 h12))
theorem swashlaw24_AnkrBack_R (k : Nat) (a0 a1 : Value) (h : Heap) : R (T k) F.swashlaw24_AnkrBack [a0, a1] h = nrm .gc h (swashlaw24_AnkrBack k (R (T k)) a0 a1 h) :=
 (R_body (t := T k) (T_scott k) (by kernel_rfl) (by kernel_rfl) _ _).trans (by kernel_rfl)
theorem swashlaw24_AnkrBack_l1_eq (k : Nat) (call : Caller) (a0 a1 a25 a26 a27 : Value) (h : Heap) : swashlaw24_AnkrBack_l1 k call [(0, a0), (1, a1), (25, a25), (26, a26), (27, a27)] h =
 (binR Prog .lss 3 a27 a26 h).bind fun v13 h14 =>
 condV (some v13) (
 (indexAddrR Prog 61 a25 a27 h14).bind fun v15 h16 =>
 (loadR Prog 62 v15 h16).bind fun v17 h18 =>
 (builtinV Prog .len [62] [v17] h18).bind fun v19 h20 =>
 (binR Prog .gtr 3 v19 (.int .i64 30) h20).bind fun v21 h22 =>
 condV (some v21) (
 .ok (.ret, [(4, (.bool true))]) h22)
 (
 (binR Prog .add 3 a27 (.int .i64 1) h22).bind fun v23 h24 =>
 .ok (.normal, [(0, a0), (1, a1), (25, a25), (26, a26), (27, v23)]) h24))
 (
 .ok ((.exit 0), [(0, a0), (1, a1), (25, a25), (26, a26), (27, a27), (28, v13)]) h14) :=
 (loopB_eq _ _).trans (by kernel_rfl)
theorem swashlaw24_AnkrBack_l1k_r (k : Nat) (call : Caller) (a4 : Value) (h : Heap) : swashlaw24_AnkrBack_l1k k call .ret [(4, a4)] h =
 .ok a4 h := by kernel_rfl
theorem swashlaw24_AnkrBack_l1k_x0 (k : Nat) (call : Caller) (a0 a1 a25 a26 a27 a28 : Value) (h : Heap) : swashlaw24_AnkrBack_l1k k call (.exit 0) [(0, a0), (1, a1), (25, a25), (26, a26), (27, a27), (28, a28)] h =
 (call F.swashlaw24_Write [a0] h).bind fun v25 h26 =>
 (call F.ankr_Read [v25, (.int .i64 60)] h26).bind fun v27 h28 =>
 (extractR v27 0 h28).bind fun v29 h30 =>
 (extractR v27 1 h30).bind fun v31 h32 =>
 (binR Prog .neq 33 v31 (.int .i64 0) h32).bind fun v33 h34 =>
 ((bif wantVal v33 false then Res.ok v29 h34 else Res.ok undef h34)).bind fun v35 h36 =>
 ((bif wantVal v33 false then binR Prog .eql 64 v35 (.pointer none) h36 else Res.ok undef h36)).bind fun v37 h38 =>
 (condV (some v33) (Res.ok (.bool true) h38) (Res.ok v37 h38)).bind fun v39 h40 =>
 condV (some v39) (
 .ok (.bool false) h40)
 (
 (builtinV Prog .len [31] [v25] h40).bind fun v41 h42 =>
 (loopN (swashlaw24_AnkrBack_l2 k call) loopFuel [(0, a0), (1, a1), (7, v25), (8, v29), (49, v41), (50, (.int .i64 0))] h42).bind fun r43 h44 =>
 swashlaw24_AnkrBack_l2k k call r43.1 r43.2 h44) := by kernel_rfl
theorem swashlaw24_AnkrBack_l2_eq (k : Nat) (call : Caller) (a0 a1 a7 a8 a49 a50 : Value) (h : Heap) : swashlaw24_AnkrBack_l2 k call [(0, a0), (1, a1), (7, a7), (8, a8), (49, a49), (50, a50)] h =
 (binR Prog .lss 3 a50 a49 h).bind fun v45 h46 =>
 condV (some v45) (
 (indexAddrR Prog 31 a7 a50 h46).bind fun v47 h48 =>
 (storeR Prog 5 v47 a1 h48).bind fun _v49 h50 =>
 (binR Prog .add 3 a50 (.int .i64 1) h50).bind fun v51 h52 =>
 .ok (.normal, [(0, a0), (1, a1), (7, a7), (8, a8), (49, a49), (50, v51)]) h52)
 (
 .ok ((.exit 2), [(0, a0), (1, a1), (7, a7), (8, a8), (49, a49), (50, a50), (51, v45)]) h46) :=
 (loopB_eq _ _).trans (by kernel_rfl)
theorem swashlaw24_AnkrBack_l2k_x2 (k : Nat) (call : Caller) (a0 a1 a7 a8 a49 a50 a51 : Value) (h : Heap) : swashlaw24_AnkrBack_l2k k call (.exit 2) [(0, a0), (1, a1), (7, a7), (8, a8), (49, a49), (50, a50), (51, a51)] h =
 (builtinV Prog .len [61] [a0] h).bind fun v53 h54 =>
 (loopN (swashlaw24_AnkrBack_l3 k call) loopFuel [(0, a0), (8, a8), (58, a0), (59, v53), (60, (.int .i64 0))] h54).bind fun r55 h56 =>
 swashlaw24_AnkrBack_l3k k call r55.1 r55.2 h56 := by kernel_rfl
theorem swashlaw24_AnkrBack_l3_eq (k : Nat) (call : Caller) (a0 a8 a58 a59 a60 : Value) (h : Heap) : swashlaw24_AnkrBack_l3 k call [(0, a0), (8, a8), (58, a58), (59, a59), (60, a60)] h =
 (binR Prog .lss 3 a60 a59 h).bind fun v57 h58 =>
 condV (some v57) (
 (indexAddrR Prog 61 a58 a60 h58).bind fun v59 h60 =>
 (loadR Prog 62 v59 h60).bind fun v61 h62 =>
 (call F.ankr_Table_Count [a8, a60] h62).bind fun v63 h64 =>
 (builtinV Prog .len [62] [v61] h64).bind fun v65 h66 =>
 (binR Prog .neq 3 v63 v65 h66).bind fun v67 h68 =>
 condV (some v67) (
 .ok (.ret, [(4, (.bool false))]) h68)
 (
 (builtinV Prog .len [62] [v61] h68).bind fun v69 h70 =>
 (loopN (swashlaw24_AnkrBack_l4 k call) loopFuel [(0, a0), (8, a8), (11, a60), (12, v61), (58, a58), (59, a59), (60, a60), (71, v61), (72, v69), (73, (.int .i64 0))] h70).bind fun r71 h72 =>
 swashlaw24_AnkrBack_l4k k call r71.1 r71.2 h72))
 (
 .ok ((.exit 4), [(0, a0), (8, a8), (58, a58), (59, a59), (60, a60), (61, v57)]) h58) :=
 (loopB_eq _ _).trans (by kernel_rfl)
theorem swashlaw24_AnkrBack_l4_eq (k : Nat) (call : Caller) (a0 a8 a11 a12 a58 a59 a60 a71 a72 a73 : Value) (h : Heap) : swashlaw24_AnkrBack_l4 k call [(0, a0), (8, a8), (11, a11), (12, a12), (58, a58), (59, a59), (60, a60), (71, a71), (72, a72), (73, a73)] h =
 (binR Prog .lss 3 a73 a72 h).bind fun v73 h74 =>
 condV (some v73) (
 (indexAddrR Prog 62 a71 a73 h74).bind fun v75 h76 =>
 (loadR Prog 69 v75 h76).bind fun v77 h78 =>
 (allocR Prog 69 h78).bind fun v79 h80 =>
 (storeR Prog 69 v79 v77 h80).bind fun _v81 h82 =>
 (call F.ankr_Table_Get [a8, a11, a73] h82).bind fun v83 h84 =>
 (extractR v83 0 h84).bind fun v85 h86 =>
 (extractR v83 1 h86).bind fun v87 h88 =>
 (allocR Prog 71 h88).bind fun v89 h90 =>
 (storeR Prog 71 v89 v85 h90).bind fun _v91 h92 =>
 (unR .not v87 h92).bind fun v93 h94 =>
 ((bif wantVal v93 false then fieldAddrR Prog 71 v89 0 h94 else Res.ok undef h94)).bind fun v95 h96 =>
 ((bif wantVal v93 false then loadR Prog 3 v95 h96 else Res.ok undef h96)).bind fun v97 h98 =>
 ((bif wantVal v93 false then indexAddrR Prog 69 v79 (.int .i64 0) h98 else Res.ok undef h98)).bind fun v99 h100 =>
 ((bif wantVal v93 false then loadR Prog 68 v99 h100 else Res.ok undef h100)).bind fun v101 h102 =>
 ((bif wantVal v93 false then convR Prog 68 3 v101 h102 else Res.ok undef h102)).bind fun v103 h104 =>
 ((bif wantVal v93 false then binR Prog .neq 3 v97 v103 h104 else Res.ok undef h104)).bind fun v105 h106 =>
 (condV (some v93) (Res.ok (.bool true) h106) (Res.ok v105 h106)).bind fun v107 h108 =>
 ((bif wantVal v107 false then fieldAddrR Prog 71 v89 1 h108 else Res.ok undef h108)).bind fun v109 h110 =>
 ((bif wantVal v107 false then loadR Prog 3 v109 h110 else Res.ok undef h110)).bind fun v111 h112 =>
 ((bif wantVal v107 false then indexAddrR Prog 69 v79 (.int .i64 1) h112 else Res.ok undef h112)).bind fun v113 h114 =>
 ((bif wantVal v107 false then loadR Prog 68 v113 h114 else Res.ok undef h114)).bind fun v115 h116 =>
 ((bif wantVal v107 false then convR Prog 68 3 v115 h116 else Res.ok undef h116)).bind fun v117 h118 =>
 ((bif wantVal v107 false then binR Prog .neq 3 v111 v117 h118 else Res.ok undef h118)).bind fun v119 h120 =>
 (condV (some v107) (Res.ok (.bool true) h120) (Res.ok v119 h120)).bind fun v121 h122 =>
 condV (some v121) (
 .ok (.ret, [(4, (.bool false))]) h122)
 (
 (binR Prog .add 3 a73 (.int .i64 1) h122).bind fun v123 h124 =>
 .ok (.normal, [(0, a0), (8, a8), (11, a11), (12, a12), (58, a58), (59, a59), (60, a60), (71, a71), (72, a72), (73, v123)]) h124))
 (
 .ok ((.exit 6), [(0, a0), (8, a8), (11, a11), (12, a12), (58, a58), (59, a59), (60, a60), (71, a71), (72, a72), (73, a73), (74, v73)]) h74) :=
 (loopB_eq _ _).trans (by kernel_rfl)
theorem swashlaw24_AnkrBack_l3k_x4 (k : Nat) (call : Caller) (a0 a8 a58 a59 a60 a61 : Value) (h : Heap) : swashlaw24_AnkrBack_l3k k call (.exit 4) [(0, a0), (8, a8), (58, a58), (59, a59), (60, a60), (61, a61)] h =
 (allocR Prog 77 h).bind fun v125 h126 =>
 (builtinV Prog .len [61] [a0] h126).bind fun v127 h128 =>
 (call F.ankr_Table_Count [a8, v127] h128).bind fun v129 h130 =>
 (binR Prog .eql 3 v129 (.int .i64 0) h130).bind fun v131 h132 =>
 ((bif wantVal v131 true then call F.ankr_Table_Count [v125, (.int .i64 0)] h132 else Res.ok undef h132)).bind fun v133 h134 =>
 ((bif wantVal v131 true then binR Prog .eql 3 v133 (.int .i64 0) h134 else Res.ok undef h134)).bind fun v135 h136 =>
 (condV (some v131) (Res.ok v135 h136) (Res.ok (.bool false) h136)).bind fun v137 h138 =>
 .ok v137 h138 := by kernel_rfl
theorem swashlaw24_AnkrBack_l4k_x6 (k : Nat) (call : Caller) (a0 a8 a11 a12 a58 a59 a60 a71 a72 a73 a74 : Value) (h : Heap) : swashlaw24_AnkrBack_l4k k call (.exit 6) [(0, a0), (8, a8), (11, a11), (12, a12), (58, a58), (59, a59), (60, a60), (71, a71), (72, a72), (73, a73), (74, a74)] h =
 (builtinV Prog .len [62] [a12] h).bind fun v139 h140 =>
 (call F.ankr_Table_Get [a8, a11, v139] h140).bind fun v141 h142 =>
 (extractR v141 0 h142).bind fun v143 h144 =>
 (extractR v141 1 h144).bind fun v145 h146 =>
 (allocR Prog 71 h146).bind fun v147 h148 =>
 (storeR Prog 71 v147 v143 h148).bind fun _v149 h150 =>
 condV (some v145) (
 .ok (.ret, [(4, (.bool false))]) h150)
 (
 (binR Prog .add 3 a60 (.int .i64 1) h150).bind fun v151 h152 =>
 .ok (.normal, [(0, a0), (8, a8), (58, a58), (59, a59), (60, v151)]) h152) := by kernel_rfl
def swashlaw24_AnkrCuts_l1 (k : Nat) (call : Caller) : Env → Heap → Res (AExit × Env) := loopB (C k) call F.swashlaw24_AnkrCuts [1, 1, 1, 0, 1, 0, 0]
def swashlaw24_AnkrCuts_l1k (k : Nat) (call : Caller) : Kont Value := kBlock 0 (kSeq (pieceK (C k) call F.swashlaw24_AnkrCuts [1, 1, 1, 1]) (kDone Prog (resOf Prog F.swashlaw24_AnkrCuts)))
def swashlaw24_AnkrCuts (k : Nat) (call : Caller) (a0 a1 : Value) (h : Heap) : Res Value :=
 (call F.swashlaw24_speaks [] h).bind fun v1 h2 =>
 (unR .not v1 h2).bind fun v3 h4 =>
 condV (some v3) (
 .ok (.bool false) h4)
 (
 (builtinV Prog .len [61] [a0] h4).bind fun v5 h6 =>
 (binR Prog .eql 3 v5 (.int .i64 0) h6).bind fun v7 h8 =>
 ((bif wantVal v7 false then Res.ok a0 h8 else Res.ok undef h8)).bind fun v9 h10 =>
 ((bif wantVal v7 false then builtinV Prog .len [61] [v9] h10 else Res.ok undef h10)).bind fun v11 h12 =>
 ((bif wantVal v7 false then binR Prog .gtr 3 v11 (.int .i64 30) h12 else Res.ok undef h12)).bind fun v13 h14 =>
 (condV (some v7) (Res.ok (.bool true) h14) (Res.ok v13 h14)).bind fun v15 h16 =>
 condV (some v15) (
 .ok (.bool true) h16)
 (
 (builtinV Prog .len [61] [a0] h16).bind fun v17 h18 =>
 (loopN (swashlaw24_AnkrCuts_l1 k call) loopFuel [(0, a0), (1, a1), (20, a0), (21, v17), (22, (.int .i64 0))] h18).bind fun r19 h20 =>
 swashlaw24_AnkrCuts_l1k k call r19.1 r19.2 h20))
theorem swashlaw24_AnkrCuts_R (k : Nat) (a0 a1 : Value) (h : Heap) : R (T k) F.swashlaw24_AnkrCuts [a0, a1] h = nrm .gc h (swashlaw24_AnkrCuts k (R (T k)) a0 a1 h) :=
 (R_body (t := T k) (T_scott k) (by kernel_rfl) (by kernel_rfl) _ _).trans (by kernel_rfl)
theorem swashlaw24_AnkrCuts_l1_eq (k : Nat) (call : Caller) (a0 a1 a20 a21 a22 : Value) (h : Heap) : swashlaw24_AnkrCuts_l1 k call [(0, a0), (1, a1), (20, a20), (21, a21), (22, a22)] h =
 (binR Prog .lss 3 a22 a21 h).bind fun v21 h22 =>
 condV (some v21) (
 (indexAddrR Prog 61 a20 a22 h22).bind fun v23 h24 =>
 (loadR Prog 62 v23 h24).bind fun v25 h26 =>
 (builtinV Prog .len [62] [v25] h26).bind fun v27 h28 =>
 (binR Prog .gtr 3 v27 (.int .i64 30) h28).bind fun v29 h30 =>
 condV (some v29) (
 .ok (.ret, [(4, (.bool true))]) h30)
 (
 (binR Prog .add 3 a22 (.int .i64 1) h30).bind fun v31 h32 =>
 .ok (.normal, [(0, a0), (1, a1), (20, a20), (21, a21), (22, v31)]) h32))
 (
 .ok ((.exit 0), [(0, a0), (1, a1), (20, a20), (21, a21), (22, a22), (23, v21)]) h22) :=
 (loopB_eq _ _).trans (by kernel_rfl)
theorem swashlaw24_AnkrCuts_l1k_r (k : Nat) (call : Caller) (a4 : Value) (h : Heap) : swashlaw24_AnkrCuts_l1k k call .ret [(4, a4)] h =
 .ok a4 h := by kernel_rfl
theorem swashlaw24_AnkrCuts_l1k_x0 (k : Nat) (call : Caller) (a0 a1 a20 a21 a22 a23 : Value) (h : Heap) : swashlaw24_AnkrCuts_l1k k call (.exit 0) [(0, a0), (1, a1), (20, a20), (21, a21), (22, a22), (23, a23)] h =
 (call F.swashlaw24_Write [a0] h).bind fun v33 h34 =>
 (builtinV Prog .len [31] [v33] h34).bind fun v35 h36 =>
 (binR Prog .sub 3 v35 (.int .i64 1) h36).bind fun v37 h38 =>
 (convR Prog 5 3 a1 h38).bind fun v39 h40 =>
 (binR Prog .sub 3 v37 v39 h40).bind fun v41 h42 =>
 (builtinV Prog .max [3, 3] [v41, (.int .i64 0)] h42).bind fun v43 h44 =>
 (sliceR Prog 31 v33 none (some v43) none h44).bind fun v45 h46 =>
 (call F.ankr_Read [v45, (.int .i64 60)] h46).bind fun v47 h48 =>
 (extractR v47 0 h48).bind fun v49 h50 =>
 (extractR v47 1 h50).bind fun v51 h52 =>
 (binR Prog .eql 33 v51 (.int .i64 2) h52).bind fun v53 h54 =>
 .ok v53 h54 := by kernel_rfl
def swashlaw24_AnkrTakes_l1 (k : Nat) (call : Caller) : Env → Heap → Res (AExit × Env) := loopB (C k) call F.swashlaw24_AnkrTakes [1, 1, 1, 1, 1, 1, 1, 0, 1, 0, 0]
def swashlaw24_AnkrTakes_l1k (k : Nat) (call : Caller) : Kont Value := kBlock 0 (kSeq (pieceK (C k) call F.swashlaw24_AnkrTakes [1, 1, 1, 1, 1, 1, 1, 1]) (kDone Prog (resOf Prog F.swashlaw24_AnkrTakes)))
def swashlaw24_AnkrTakes_l2 (k : Nat) (call : Caller) : Env → Heap → Res (AExit × Env) := loopB (C k) call F.swashlaw24_AnkrTakes [1, 1, 1, 1, 1, 1, 1, 0, 1, 0, 0, 1, 0, 0, 1, 0, 0]
def swashlaw24_AnkrTakes_l2k (k : Nat) (call : Caller) : Kont (AExit × Env) := kBlock 2 (kBlock 1 (kSeq (pieceK (C k) call F.swashlaw24_AnkrTakes [1, 1, 1, 1, 1, 1, 1, 0, 1, 0, 0, 1, 1]) (kRound (ownOf (C k) F.swashlaw24_AnkrTakes [1, 1, 1, 1, 1, 1, 1, 0, 1, 0, 0]))))
def swashlaw24_AnkrTakes (k : Nat) (call : Caller) (a0 : Value) (h : Heap) : Res Value :=
 (boxR a0 h).bind fun v1 h2 =>
 (call F.swashlaw24_speaks [] h2).bind fun v3 h4 =>
 (unR .not v3 h4).bind fun v5 h6 =>
 condV (some v5) (
 .ok (.bool false) h6)
 (
 (loadR Prog 31 v1 h6).bind fun v7 h8 =>
 (builtinV Prog .len [31] [v7] h8).bind fun v9 h10 =>
 (binR Prog .gtr 3 v9 (.int .i64 800) h10).bind fun v11 h12 =>
 condV (some v11) (
 .ok (.bool true) h12)
 (
 (allocR Prog 64 h12).bind fun v13 h14 =>
 (call F.view_Try [(.func (.func F.swashlaw24_AnkrTakes_in1) #[] #[v1, v13])] h14).bind fun v15 h16 =>
 (loadR Prog 31 v1 h16).bind fun v17 h18 =>
 (call F.ankr_Read [v17, (.int .i64 40)] h18).bind fun v19 h20 =>
 (extractR v19 0 h20).bind fun v21 h22 =>
 (extractR v19 1 h22).bind fun v23 h24 =>
 (binR Prog .eql 33 v23 (.int .i64 0) h24).bind fun v25 h26 =>
 (binR Prog .neq 4 v15 v25 h26).bind fun v27 h28 =>
 ((bif wantVal v27 false then Res.ok v15 h28 else Res.ok undef h28)).bind fun v29 h30 =>
 ((bif wantVal v27 false then loadR Prog 64 v13 h30 else Res.ok undef h30)).bind fun v31 h32 =>
 ((bif wantVal v27 false then binR Prog .neq 64 v31 (.pointer none) h32 else Res.ok undef h32)).bind fun v33 h34 =>
 ((bif wantVal v27 false then binR Prog .neq 4 v29 v33 h34 else Res.ok undef h34)).bind fun v35 h36 =>
 (condV (some v27) (Res.ok (.bool true) h36) (Res.ok v35 h36)).bind fun v37 h38 =>
 ((bif wantVal v37 false then Res.ok v15 h38 else Res.ok undef h38)).bind fun v39 h40 =>
 ((bif wantVal v37 false then Res.ok v21 h40 else Res.ok undef h40)).bind fun v41 h42 =>
 ((bif wantVal v37 false then binR Prog .neq 64 v41 (.pointer none) h42 else Res.ok undef h42)).bind fun v43 h44 =>
 ((bif wantVal v37 false then binR Prog .neq 4 v39 v43 h44 else Res.ok undef h44)).bind fun v45 h46 =>
 (condV (some v37) (Res.ok (.bool true) h46) (Res.ok v45 h46)).bind fun v47 h48 =>
 condV (some v47) (
 .ok (.bool false) h48)
 (
 (loopN (swashlaw24_AnkrTakes_l1 k call) loopFuel [(3, v13), (4, v15), (5, v21), (7, (.int .i64 (-1)))] h48).bind fun r49 h50 =>
 swashlaw24_AnkrTakes_l1k k call r49.1 r49.2 h50)))
theorem swashlaw24_AnkrTakes_R (k : Nat) (a0 : Value) (h : Heap) : R (T k) F.swashlaw24_AnkrTakes [a0] h = nrm .gc h (swashlaw24_AnkrTakes k (R (T k)) a0 h) :=
 (R_body (t := T k) (T_scott k) (by kernel_rfl) (by kernel_rfl) _ _).trans (by kernel_rfl)
theorem swashlaw24_AnkrTakes_l1_eq (k : Nat) (call : Caller) (a3 a4 a5 a7 : Value) (h : Heap) : swashlaw24_AnkrTakes_l1 k call [(3, a3), (4, a4), (5, a5), (7, a7)] h =
 ((bif wantVal a4 true then Res.ok a7 h else Res.ok undef h)).bind fun v51 h52 =>
 ((bif wantVal a4 true then binR Prog .lss 3 v51 (.int .i64 12) h52 else Res.ok undef h52)).bind fun v53 h54 =>
 (condV (some a4) (Res.ok v53 h54) (Res.ok (.bool false) h54)).bind fun v55 h56 =>
 condV (some v55) (
 (loopN (swashlaw24_AnkrTakes_l2 k call) loopFuel [(3, a3), (4, a4), (5, a5), (7, a7), (8, (.int .i64 (-1)))] h56).bind fun r57 h58 =>
 swashlaw24_AnkrTakes_l2k k call r57.1 r57.2 h58)
 (
 .ok ((.exit 0), [(3, a3), (4, a4), (5, a5), (7, a7), (45, v55)]) h56) :=
 (loopB_eq _ _).trans (by kernel_rfl)
theorem swashlaw24_AnkrTakes_l2_eq (k : Nat) (call : Caller) (a3 a4 a5 a7 a8 : Value) (h : Heap) : swashlaw24_AnkrTakes_l2 k call [(3, a3), (4, a4), (5, a5), (7, a7), (8, a8)] h =
 (binR Prog .lss 3 a8 (.int .i64 5) h).bind fun v59 h60 =>
 condV (some v59) (
 (loadR Prog 64 a3 h60).bind fun v61 h62 =>
 (call F.ankr_Table_Get [v61, a7, a8] h62).bind fun v63 h64 =>
 (extractR v63 0 h64).bind fun v65 h66 =>
 (extractR v63 1 h66).bind fun v67 h68 =>
 (allocR Prog 71 h68).bind fun v69 h70 =>
 (storeR Prog 71 v69 v65 h70).bind fun _v71 h72 =>
 (call F.ankr_Table_Get [a5, a7, a8] h72).bind fun v73 h74 =>
 (extractR v73 0 h74).bind fun v75 h76 =>
 (extractR v73 1 h76).bind fun v77 h78 =>
 (allocR Prog 71 h78).bind fun v79 h80 =>
 (storeR Prog 71 v79 v75 h80).bind fun _v81 h82 =>
 (loadR Prog 71 v69 h82).bind fun v83 h84 =>
 (loadR Prog 71 v79 h84).bind fun v85 h86 =>
 (binR Prog .neq 71 v83 v85 h86).bind fun v87 h88 =>
 ((bif wantVal v87 false then Res.ok v67 h88 else Res.ok undef h88)).bind fun v89 h90 =>
 ((bif wantVal v87 false then Res.ok v77 h90 else Res.ok undef h90)).bind fun v91 h92 =>
 ((bif wantVal v87 false then binR Prog .neq 4 v89 v91 h92 else Res.ok undef h92)).bind fun v93 h94 =>
 (condV (some v87) (Res.ok (.bool true) h94) (Res.ok v93 h94)).bind fun v95 h96 =>
 ((bif wantVal v95 false then loadR Prog 64 a3 h96 else Res.ok undef h96)).bind fun v97 h98 =>
 ((bif wantVal v95 false then Res.ok a7 h98 else Res.ok undef h98)).bind fun v99 h100 =>
 ((bif wantVal v95 false then call F.ankr_Table_Count [v97, v99] h100 else Res.ok undef h100)).bind fun v101 h102 =>
 ((bif wantVal v95 false then Res.ok a5 h102 else Res.ok undef h102)).bind fun v103 h104 =>
 ((bif wantVal v95 false then Res.ok a7 h104 else Res.ok undef h104)).bind fun v105 h106 =>
 ((bif wantVal v95 false then call F.ankr_Table_Count [v103, v105] h106 else Res.ok undef h106)).bind fun v107 h108 =>
 ((bif wantVal v95 false then binR Prog .neq 3 v101 v107 h108 else Res.ok undef h108)).bind fun v109 h110 =>
 (condV (some v95) (Res.ok (.bool true) h110) (Res.ok v109 h110)).bind fun v111 h112 =>
 condV (some v111) (
 .ok (.ret, [(2, (.bool false))]) h112)
 (
 (binR Prog .add 3 a8 (.int .i64 1) h112).bind fun v113 h114 =>
 .ok (.normal, [(3, a3), (4, a4), (5, a5), (7, a7), (8, v113)]) h114))
 (
 .ok ((.exit 2), [(3, a3), (4, a4), (5, a5), (7, a7), (8, a8), (49, v59)]) h60) :=
 (loopB_eq _ _).trans (by kernel_rfl)
theorem swashlaw24_AnkrTakes_l1k_x0 (k : Nat) (call : Caller) (a3 a4 a5 a7 a45 : Value) (h : Heap) : swashlaw24_AnkrTakes_l1k k call (.exit 0) [(3, a3), (4, a4), (5, a5), (7, a7), (45, a45)] h =
 .ok (.bool true) h := by kernel_rfl
theorem swashlaw24_AnkrTakes_l2k_x2 (k : Nat) (call : Caller) (a3 a4 a5 a7 a8 a49 : Value) (h : Heap) : swashlaw24_AnkrTakes_l2k k call (.exit 2) [(3, a3), (4, a4), (5, a5), (7, a7), (8, a8), (49, a49)] h =
 (binR Prog .add 3 a7 (.int .i64 1) h).bind fun v115 h116 =>
 .ok (.normal, [(3, a3), (4, a4), (5, a5), (7, v115)]) h116 := by kernel_rfl
def swashlaw24_Write_l1 (k : Nat) (call : Caller) : Env → Heap → Res (AExit × Env) := loopB (C k) call F.swashlaw24_Write [1, 1, 1, 1, 0, 1, 0, 0]
def swashlaw24_Write_l1k (k : Nat) (call : Caller) : Kont Value := kBlock 0 (kSeq (pieceK (C k) call F.swashlaw24_Write [1, 1, 1, 1, 1]) (kDone Prog (resOf Prog F.swashlaw24_Write)))
def swashlaw24_Write_l2 (k : Nat) (call : Caller) : Env → Heap → Res (AExit × Env) := loopB (C k) call F.swashlaw24_Write [1, 1, 1, 1, 0, 1, 0, 0, 1, 1, 0, 0, 1, 1, 1, 1, 0, 0]
def swashlaw24_Write_l2k (k : Nat) (call : Caller) : Kont (AExit × Env) := kBlock 2 (kBlock 1 (kSeq (pieceK (C k) call F.swashlaw24_Write [1, 1, 1, 1, 0, 1, 0, 0, 1, 1, 1]) (kRound (ownOf (C k) F.swashlaw24_Write [1, 1, 1, 1, 0, 1, 0, 0]))))
def swashlaw24_Write (k : Nat) (call : Caller) (a0 : Value) (h : Heap) : Res Value :=
 (buildSliceR Prog 31 4 [(0, (.int .u8 0)), (1, (.int .u8 0)), (2, (.int .u8 0)), (3, (.int .u8 0))] h).bind fun v1 h2 =>
 (buildSliceR Prog 31 4 [(0, (.int .u8 0)), (1, (.int .u8 0)), (2, (.int .u8 0)), (3, (.int .u8 12))] h2).bind fun v3 h4 =>
 (builtinV Prog .append [31, 31] [v1, v3] h4).bind fun v5 h6 =>
 (call F.swashref02_Put [(.slice none 0 0), (.int .i64 8), (.int .i64 2)] h6).bind fun v7 h8 =>
 (call F.swashref02_Put [v7, (.int .i64 0), (.int .i64 2)] h8).bind fun v9 h10 =>
 (builtinV Prog .len [61] [a0] h10).bind fun v11 h12 =>
 (call F.swashref02_Put [v9, v11, (.int .i64 2)] h12).bind fun v13 h14 =>
 (builtinV Prog .len [61] [a0] h14).bind fun v15 h16 =>
 (loopN (swashlaw24_Write_l1 k call) loopFuel [(3, v5), (4, v13), (5, (.slice none 0 0)), (18, a0), (19, v15), (20, (.int .i64 0))] h16).bind fun r17 h18 =>
 swashlaw24_Write_l1k k call r17.1 r17.2 h18
theorem swashlaw24_Write_R (k : Nat) (a0 : Value) (h : Heap) : R (T k) F.swashlaw24_Write [a0] h = nrm (own k) h (swashlaw24_Write k (R (T k)) a0 h) :=
 (R_body (t := T k) (T_scott k) (by kernel_rfl) (by kernel_rfl) _ _).trans (by kernel_rfl)
theorem swashlaw24_Write_l1_eq (k : Nat) (call : Caller) (a3 a4 a5 a18 a19 a20 : Value) (h : Heap) : swashlaw24_Write_l1 k call [(3, a3), (4, a4), (5, a5), (18, a18), (19, a19), (20, a20)] h =
 (binR Prog .lss 3 a20 a19 h).bind fun v19 h20 =>
 condV (some v19) (
 (indexAddrR Prog 61 a18 a20 h20).bind fun v21 h22 =>
 (loadR Prog 62 v21 h22).bind fun v23 h24 =>
 (builtinV Prog .len [31] [a5] h24).bind fun v25 h26 =>
 (call F.swashref02_Put [a4, v25, (.int .i64 2)] h26).bind fun v27 h28 =>
 (builtinV Prog .len [62] [v23] h28).bind fun v29 h30 =>
 (call F.swashref02_Put [a5, v29, (.int .i64 4)] h30).bind fun v31 h32 =>
 (builtinV Prog .len [62] [v23] h32).bind fun v33 h34 =>
 (loopN (swashlaw24_Write_l2 k call) loopFuel [(3, a3), (4, v27), (5, v31), (18, a18), (19, a19), (20, a20), (32, v23), (33, v33), (34, (.int .i64 0))] h34).bind fun r35 h36 =>
 swashlaw24_Write_l2k k call r35.1 r35.2 h36)
 (
 .ok ((.exit 0), [(3, a3), (4, a4), (5, a5), (18, a18), (19, a19), (20, a20), (21, v19)]) h20) :=
 (loopB_eq _ _).trans (by kernel_rfl)
theorem swashlaw24_Write_l2_eq (k : Nat) (call : Caller) (a3 a4 a5 a18 a19 a20 a32 a33 a34 : Value) (h : Heap) : swashlaw24_Write_l2 k call [(3, a3), (4, a4), (5, a5), (18, a18), (19, a19), (20, a20), (32, a32), (33, a33), (34, a34)] h =
 (binR Prog .lss 3 a34 a33 h).bind fun v37 h38 =>
 condV (some v37) (
 (indexAddrR Prog 62 a32 a34 h38).bind fun v39 h40 =>
 (loadR Prog 69 v39 h40).bind fun v41 h42 =>
 (allocR Prog 69 h42).bind fun v43 h44 =>
 (storeR Prog 69 v43 v41 h44).bind fun _v45 h46 =>
 (indexAddrR Prog 69 v43 (.int .i64 0) h46).bindN fun v47 h48 =>
 (loadR Prog 68 v47 h48).bindN fun v49 h50 =>
 (convR Prog 68 80 v49 h50).bindN fun v51 h52 =>
 (convR Prog 80 3 v51 h52).bindN fun v53 h54 =>
 (call F.swashref02_Put [a5, v53, (.int .i64 2)] h54).bindT (fun p57 h58 => (indexAddrR Prog 69 v43 (.int .i64 1) h54).bindN fun v59 h60 => (loadR Prog 68 v59 h60).bindN fun v61 h62 => (convR Prog 68 80 v61 h62).bindN fun v63 h64 => (convR Prog 80 3 v63 h64).bindN fun v65 h66 => chkR ((okVal (loadR Prog 68 v59 h46) v61 && true) && true) (.panic p57 h58)) fun v55 h56 =>
 (indexAddrR Prog 69 v43 (.int .i64 1) h56).bindN fun v67 h68 =>
 (loadR Prog 68 v67 h68).bindN fun v69 h70 =>
 (convR Prog 68 80 v69 h70).bindN fun v71 h72 =>
 (convR Prog 80 3 v71 h72).bindN fun v73 h74 =>
 (call F.swashref02_Put [v55, v73, (.int .i64 2)] h74).bindT (fun p77 h78 => chkR ((okVal (loadR Prog 68 v67 h46) v69 && true) && true) (.panic p77 h78)) fun v75 h76 =>
 chkR ((okVal (loadR Prog 68 v67 h46) v69 && true) && true) (
 (binR Prog .add 3 a34 (.int .i64 1) h76).bind fun v79 h80 =>
 .ok (.normal, [(3, a3), (4, a4), (5, v75), (18, a18), (19, a19), (20, a20), (32, a32), (33, a33), (34, v79)]) h80))
 (
 .ok ((.exit 2), [(3, a3), (4, a4), (5, a5), (18, a18), (19, a19), (20, a20), (32, a32), (33, a33), (34, a34), (35, v37)]) h38) :=
 (loopB_eq _ _).trans (by kernel_rfl)
theorem swashlaw24_Write_l1k_x0 (k : Nat) (call : Caller) (a3 a4 a5 a18 a19 a20 a21 : Value) (h : Heap) : swashlaw24_Write_l1k k call (.exit 0) [(3, a3), (4, a4), (5, a5), (18, a18), (19, a19), (20, a20), (21, a21)] h =
 (builtinV Prog .len [31] [a4] h).bind fun v81 h82 =>
 (binR Prog .add 3 (.int .i64 12) v81 h82).bind fun v83 h84 =>
 (call F.swashref02_Put [a3, v83, (.int .i64 4)] h84).bind fun v85 h86 =>
 (builtinV Prog .append [31, 31] [v85, a4] h86).bind fun v87 h88 =>
 (builtinV Prog .append [31, 31] [v87, a5] h88).bind fun v89 h90 =>
 .ok v89 h90 := by kernel_rfl
theorem swashlaw24_Write_l2k_x2 (k : Nat) (call : Caller) (a3 a4 a5 a18 a19 a20 a32 a33 a34 a35 : Value) (h : Heap) : swashlaw24_Write_l2k k call (.exit 2) [(3, a3), (4, a4), (5, a5), (18, a18), (19, a19), (20, a20), (32, a32), (33, a33), (34, a34), (35, a35)] h =
 (binR Prog .add 3 a20 (.int .i64 1) h).bind fun v91 h92 =>
 .ok (.normal, [(3, a3), (4, a4), (5, a5), (18, a18), (19, a19), (20, v91)]) h92 := by kernel_rfl
def swashlaw24_AnkrTakes_in1 (k : Nat) (call : Caller) (a0 a1 : Value) (h : Heap) : Res Value :=
 (loadR Prog 31 a0 h).bind fun v1 h2 =>
 (call F.view_Of [v1] h2).bind fun v3 h4 =>
 (call F.ankr_Take [v3, (.int .i64 40)] h4).bind fun v5 h6 =>
 (storeR Prog 64 a1 v5 h6).bind fun _v7 h8 =>
 .ok (.tuple #[]) h8
theorem swashlaw24_AnkrTakes_in1_R (k : Nat) (a0 a1 : Value) (h : Heap) : R (T k) F.swashlaw24_AnkrTakes_in1 [a0, a1] h = nrm .no h (swashlaw24_AnkrTakes_in1 k (R (T k)) a0 a1 h) :=
 (R_body (t := T k) (T_scott k) (by kernel_rfl) (by kernel_rfl) _ _).trans (by kernel_rfl)
end
end Go.Sw
end
section
namespace Go.Sw
open Go.RowKit
theorem speaks24_run (k : Nat) (hk : k % 1000000 = F.swashlaw24_speaks) (H : Heap) : R (T k) F.swashlaw24_speaks [] H = .ok (.bool true) H :=
 (R_sp (t := T k) (T_scott k) (s := constSp (.bool true)) (by unfold T C; dsimp only; rw [hk]; kernel_rfl) [] H).trans (nrm_gc (Pure.of rfl) (.bool _))
theorem AnkrTakes_in1 (k : Nat) {H : Heap} (b : List Int) (hb : Byt b) (hl : b.length < 2 ^ 31) (p2 p3 : Nat) (old : Value)
  (h2 : H.get p2 = some ⟨[lv encB b], 1, false⟩) (h3 : H.get p3 = some ⟨[old], 1, false⟩) :
  R (T k) F.swashlaw24_AnkrTakes_in1 [ptrV p2, ptrV p3] H = match ankS b 40 with
   | some x => .ok (.tuple #[]) (H.set p3 (some ⟨[ankV x], 1, false⟩))
   | none => .panic failV H := by
 rw [swashlaw24_AnkrTakes_in1_R];have ht := ankrTake_run k b hb 40 (by omega) hl H;have ho := fun H => Of_lv k b H;cases h : ankS b 40 with
 | none =>
  rw [h] at ht;refine nrm_throw ⟨H, ?_, Ext.refl H⟩ Flat.fail.alive;simp -implicitDefEqProofs (disch := omega) [swashlaw24_AnkrTakes_in1, h2, ho, ht]
 | some x =>
  rw [h] at ht;simp -implicitDefEqProofs (disch := omega) [swashlaw24_AnkrTakes_in1, h2, h3, ho, ht]
theorem takes24_l2 (k : Nat) (t : ATab) (ht : t.ok) (p : Nat) (id : Int) {H : Heap} (hp : H.get p = some ⟨[ankV t], 1, false⟩) :
  ∃ H', loopN (swashlaw24_AnkrTakes_l2 k (R (T k))) loopFuel [(3, ptrV p), (4, .bool true), (5, ankV t), (7, .int .i64 id), (8, .int .i64 (-1))] H =
   .ok (.exit 2, [(3, ptrV p), (4, .bool true), (5, ankV t), (7, .int .i64 id), (8, .int .i64 5), (49, .bool false)]) H' ∧ Ext H H' := by
 obtain ⟨xx, e', H1, hr1, rfl, rfl, hx⟩ := loop_up (body := swashlaw24_AnkrTakes_l2 k (R (T k))) 6
  (fun j e H' => e = [(3, ptrV p), (4, .bool true), (5, ankV t), (7, .int .i64 id), (8, .int .i64 ((j : Int) - 1))] ∧ Ext H H')
  (fun xx e H' => xx = .exit 2 ∧ e = [(3, ptrV p), (4, .bool true), (5, ankV t), (7, .int .i64 id), (8, .int .i64 5), (49, .bool false)] ∧ Ext H H')
  (e0 := [(3, ptrV p), (4, .bool true), (5, ankV t), (7, .int .i64 id), (8, .int .i64 (-1))]) (H0 := H) ⟨rfl, Ext.refl H⟩ (by omega)
  (fun j e H' hj ⟨he, hx⟩ => by
   subst he;have hjl : (j : Int) - 1 < 5 := by omega
   have hp1 := hx.get hp;have hg := fun H' => ankrGet_run k t ht id ((j : Int) - 1) H';have hc := fun H' => ankrCount_run k t ht id H';have w1 : IntKind.i64.wrap ((j : Int) - 1 + 1) = ((j + 1 : Nat) : Int) - 1 := by rw [wrap_i64 (by omega) (by omega)]; omega
   generalize (getA t id ((j : Int) - 1)) = o at hg;have hx1 := (hx.push ⟨[.int .i64 ((o.getD (0, 0)).1), .int .i64 ((o.getD (0, 0)).2)], 1, false⟩)
   have hp2 := hx1.get hp;have hp3 := (hx1.push ⟨[.int .i64 ((o.getD (0, 0)).1), .int .i64 ((o.getD (0, 0)).2)], 1, false⟩).get hp;refine .inl ⟨_, _, ?_, rfl, hx1.push ⟨[.int .i64 ((o.getD (0, 0)).1), .int .i64 ((o.getD (0, 0)).2)], 1, false⟩⟩;rw [swashlaw24_AnkrTakes_l2_eq];simp -implicitDefEqProofs (disch := omega) [hjl, hp1, hp2, hp3, hg, hc, w1])
  (fun e H' ⟨he, hx⟩ => by
   subst he;refine ⟨.exit 2, _, H', ?_, by simp, rfl, rfl, hx⟩;rw [swashlaw24_AnkrTakes_l2_eq];simp -implicitDefEqProofs)
 exact ⟨H1, hr1, hx⟩
theorem takes24_l1 (k : Nat) (t : ATab) (ht : t.ok) (p : Nat) {H : Heap} (hp : H.get p = some ⟨[ankV t], 1, false⟩) :
  ∃ H', loopN (swashlaw24_AnkrTakes_l1 k (R (T k))) loopFuel [(3, ptrV p), (4, .bool true), (5, ankV t), (7, .int .i64 (-1))] H =
   .ok (.exit 0, [(3, ptrV p), (4, .bool true), (5, ankV t), (7, .int .i64 12), (45, .bool false)]) H' ∧ Ext H H' := by
 obtain ⟨xx, e', H1, hr1, rfl, rfl, hx⟩ := loop_up (body := swashlaw24_AnkrTakes_l1 k (R (T k))) 13
  (fun j e H' => e = [(3, ptrV p), (4, .bool true), (5, ankV t), (7, .int .i64 ((j : Int) - 1))] ∧ Ext H H')
  (fun xx e H' => xx = .exit 0 ∧ e = [(3, ptrV p), (4, .bool true), (5, ankV t), (7, .int .i64 12), (45, .bool false)] ∧ Ext H H')
  (e0 := [(3, ptrV p), (4, .bool true), (5, ankV t), (7, .int .i64 (-1))]) (H0 := H) ⟨rfl, Ext.refl H⟩ (by omega)
  (fun j e H' hj ⟨he, hx⟩ => by
   subst he;have hjl : (j : Int) - 1 < 12 := by omega
   obtain ⟨H2, e2, hx2⟩ := takes24_l2 k t ht p ((j : Int) - 1) (hx.get hp);have w1 : IntKind.i64.wrap ((j : Int) - 1 + 1) = ((j + 1 : Nat) : Int) - 1 := by rw [wrap_i64 (by omega) (by omega)]; omega
   refine .inl ⟨_, _, ?_, rfl, hx.trans hx2⟩;rw [swashlaw24_AnkrTakes_l1_eq];simp -implicitDefEqProofs (disch := omega) [hjl, e2, swashlaw24_AnkrTakes_l2k_x2, w1])
  (fun e H' ⟨he, hx⟩ => by
   subst he;refine ⟨.exit 0, _, H', ?_, by simp, rfl, rfl, hx⟩;rw [swashlaw24_AnkrTakes_l1_eq];simp -implicitDefEqProofs)
 exact ⟨H1, hr1, hx⟩
theorem AnkrTakes_run (b : List Int) (hb : Byt b) : R (T F.swashlaw24_speaks) F.swashlaw24_AnkrTakes [lv encB b] Heap.empty = .ok (.bool true) Heap.empty := by
 generalize hk : F.swashlaw24_speaks = k;have hs := speaks24_run k (by subst hk; rfl);clear hk;rw [swashlaw24_AnkrTakes_R];generalize Heap.empty = H;have hx1 : Ext H (H.push ⟨[lv encB b], 1, false⟩) := (Ext.refl H).push _;by_cases hl : b.length > 800
 ·have hl' : (b.length : Int) > 800 := by omega
  refine nrm_gc ⟨_, ?_, hx1⟩ (.bool _);simp -implicitDefEqProofs (disch := omega) [swashlaw24_AnkrTakes, hs, hl']
 have hl' : ¬ (b.length : Int) > 800 := by omega
 have hin := AnkrTakes_in1 k (H := (H.push ⟨[lv encB b], 1, false⟩).push ⟨[.pointer none], 1, false⟩) b hb (by omega) H.n (H.n + 1) (.pointer none) (by simp) (by simp);have hrd := fun H' => ankrRead_run k (H := H') (Sl.lv H' 1 b) hb 40 (by omega) (fun _ H' => ankrTake_run k b hb 40 (by omega) (by omega) H');unfold ankrO ankrN at hrd;rw [if_pos (by omega), if_pos (by omega)] at hrd;cases h : ankS b 40 with
 | none =>
  rw [h] at hin hrd;simp only [ankrP, Option.isSome_none, Bool.false_eq_true, if_false] at hrd;have ht := Try_no k F.swashlaw24_AnkrTakes_in1 #[ptrV H.n, ptrV (H.n + 1)] hin;have hlp : ∀ H', ∃ e', loopN (swashlaw24_AnkrTakes_l1 k (R (T k))) loopFuel [(3, ptrV (H.n + 1)), (4, .bool false), (5, .pointer none), (7, .int .i64 (-1))] H' = .ok (.exit 0, [(3, ptrV (H.n + 1)), (4, .bool false), (5, .pointer none), (7, .int .i64 (-1)), (45, e')]) H' := fun H' => by
   refine ⟨.bool false, ?_⟩;unfold loopFuel;rw [show (2 : Nat) ^ 64 = (2 ^ 64 - 1) + 1 from rfl, loopN, swashlaw24_AnkrTakes_l1_eq];simp -implicitDefEqProofs
  obtain ⟨e', hlp⟩ := hlp ((H.push ⟨[lv encB b], 1, false⟩).push ⟨[.pointer none], 1, false⟩);refine nrm_gc ⟨_, ?_, hx1.push ⟨[.pointer none], 1, false⟩⟩ (.bool _);simp -implicitDefEqProofs (disch := omega) [swashlaw24_AnkrTakes, hs, hl', ht, hrd, hlp, swashlaw24_AnkrTakes_l1k_x0]
 | some t =>
  rw [h] at hin hrd;simp only [ankrP, Option.isSome_some, if_true] at hrd;have ht := Try_ok k F.swashlaw24_AnkrTakes_in1 #[ptrV H.n, ptrV (H.n + 1)] hin;simp at ht;have hok := ankS_ok hb (by omega) (by omega) (by omega) h;obtain ⟨H2, e2, hx2⟩ := takes24_l1 k t hok (H.n + 1) (H := (H.push ⟨[lv encB b], 1, false⟩).push ⟨[ankV t], 1, false⟩) (get_push_eq _ _ _ (by simp));refine nrm_gc ⟨H2, ?_, (hx1.push ⟨[ankV t], 1, false⟩).trans hx2⟩ (.bool _);simp -implicitDefEqProofs (disch := omega) [swashlaw24_AnkrTakes, hs, hl', ht, hrd, e2, swashlaw24_AnkrTakes_l1k_x0]
theorem AnkrTakes_args (vs : List Value) (h : ArgsLay [.one (.slice [.int .u8])] vs) : ∃ H', R (T F.swashlaw24_speaks) F.swashlaw24_AnkrTakes vs Heap.empty = .ok (.bool true) H' := by
 obtain ⟨v1, _, rfl, h1, h⟩ := h.head;obtain rfl := h.done;obtain ⟨b, rfl, hb⟩ := arg_B h1;exact ⟨_, AnkrTakes_run b hb⟩
end Go.Sw
end
section
namespace Go.Sw
open Go.RowKit Go.Proofs
set_option maxRecDepth 20000 in
theorem catch_short (p : Addr) (b : Bool) (w : World) (hc : (w.alloc (.cells #[] 190)).cell? p = some (.bool b)) (hz : (w.alloc (.cells #[] 190)).frozen? p = false) :
  CallsD Prog 100 #[.pointer (some p)] (.panicking [{ v := .iface 190 (.agg #[]), recovered := false }]) w fun e u' w' =>
   e = .returned (.tuple #[]) ∧ u' = .panicking [{ v := .iface 190 (.agg #[]), recovered := true }] ∧ w' = (w.alloc (.cells #[] 190)).setCell p (.bool false) := by
 refine callsD_of_wpS Try.func100 rfl fun c₀ cs hu => ?_;apply wpS_seq;apply wpS_region;simp [wpOpsS, go_sem, recoverD, hu, Try.ntmps100, Exit.thenS];have hta : ∀ w, (Instr.typeAssert (.iface 190 (.agg #[])) 20 190 true).run Prog w = .ok (.tuple #[.agg #[], .bool true]) w := fun w => by kernel_rfl
 refine wpS_of_wp ?_
 go_wp2
 cases c₀;simp_all [bodyPostS, results, Try.results100]
theorem catch_idle (p : Addr) (w : World) :
  CallsD Prog 100 #[.pointer (some p)] .returning w fun e u' w' => e = .returned (.tuple #[]) ∧ u' = .returning ∧ w' = w := by
 refine callsD_of_wpS Try.func100 rfl fun c₀ cs hu => ?_;apply wpS_seq;apply wpS_region;simp [wpOpsS, go_sem, recoverD, hu, Try.ntmps100, Exit.thenS];refine wpS_of_wp ?_
 go_wp2
 cases c₀;simp_all [bodyPostS, results, Try.results100]
set_option maxRecDepth 20000 in
theorem try_walk (g : FuncId) (first cap : Array Value) (w : World) (R : Ending → World → Prop)
  (hcf : (callFunc g (first ++ cap)).run Prog (w.alloc (.cells #[.bool false] 4)) = .ok (.enter g (first ++ cap)) (w.alloc (.cells #[.bool false] 4)))
  (hcall : Calls Prog g (first ++ cap) (w.alloc (.cells #[.bool false] 4)) fun e w' => match e with
   | .returned _ => w'.heap[w.heap.size]? = some (.cells #[.bool false] 4 (0, 0)) ∧ R (.returned (.bool true)) (w'.setCell ⟨w.heap.size, 0, none⟩ (.bool true))
   | .panicked chain => chain = [{ v := .iface 190 (.agg #[]), recovered := false }] ∧ w'.heap[w.heap.size]? = some (.cells #[.bool false] 4 (0, 0)) ∧ R (.returned (.bool false)) ((w'.alloc (.cells #[] 190)).setCell ⟨w.heap.size, 0, none⟩ (.bool false))
   | .outgrown => False) :
  Calls Prog 40 #[.func (.func g) first cap] w R := by
 have hmf : ∀ (fn : Fn) (first cap : Array Value) (w : World), (Instr.makeFunc fn first cap).run Prog w = .ok (.func fn first cap) w := fun _ _ _ _ => rfl
 go_enter_defers Try.func40, Try.ntmps40
 go_wp2
 rename_i K2 hK2 K1 hK1;refine hcall.mono fun e w' he => ?_;cases e with
 | returned v =>
  obtain ⟨h1, h2⟩ := he;have hc : w'.cell? ⟨w.heap.size, 0, none⟩ = some (.bool false) := by simp [World.cell?, h1]
  have hz : w'.frozen? ⟨w.heap.size, 0, none⟩ = false := by simp [World.frozen?, h1]
  apply hK1;apply hK2
  go_wp2
  have hc2 : (w'.setCell ⟨w.heap.size, 0, none⟩ (.bool true)).cell? ⟨w.heap.size, 0, none⟩ = some (.bool true) := World.cell?_setCell_same _ _ _ hc;refine leaves_cons (f := 100) (args := #[.pointer (some ⟨w.heap.size, 0, none⟩)]) (by simp) (by simp [go_sem]) ?_;refine (catch_idle ⟨w.heap.size, 0, none⟩ _).mono ?_;rintro e u' w'' ⟨rfl, rfl, rfl⟩;simp [Leaves, settle, results, Try.results40, go_sem, hc2];exact h2
 | panicked chain =>
  obtain ⟨h0, h1, h2⟩ := he;subst h0;have hlt : w.heap.size < w'.heap.size := by
   rcases Nat.lt_or_ge w.heap.size w'.heap.size with h | h
   ·exact h
   ·rw [Array.getElem?_eq_none h] at h1; cases h1
  have h3 : (w'.alloc (.cells #[] 190)).heap[w.heap.size]? = some (.cells #[.bool false] 4 (0, 0)) := by
   rw [heap_alloc_lt _ _ _ hlt]; exact h1
  have hc : (w'.alloc (.cells #[] 190)).cell? ⟨w.heap.size, 0, none⟩ = some (.bool false) := by simp only [World.cell?, h3]; rfl
  have hz : (w'.alloc (.cells #[] 190)).frozen? ⟨w.heap.size, 0, none⟩ = false := by simp [World.frozen?, h3]
  have hc2 : ((w'.alloc (.cells #[] 190)).setCell ⟨w.heap.size, 0, none⟩ (.bool false)).cell? ⟨w.heap.size, 0, none⟩ = some (.bool false) := World.cell?_setCell_same _ _ _ hc;show Leaves _ _ _ _ _ _ _;refine leaves_cons (f := 100) (args := #[.pointer (some ⟨w.heap.size, 0, none⟩)]) (by simp) (by simp [go_sem]) ?_;refine (catch_short ⟨w.heap.size, 0, none⟩ false _ hc hz).mono ?_;rintro e u' w'' ⟨rfl, rfl, rfl⟩;simp [Leaves, settle, results, Try.results40, go_sem, hc2];exact h2
 | outgrown => exact he.elim
theorem try_is : SpIs Prog 40 (tryV 190) := try_of (bt := 4) Try.func40 rfl (by kernel_rfl) try_walk
end Go.Sw
end
section
namespace Go.Sw
open Go.RowKit Go.Proofs Go.Shelf
attribute [local go_sem] Oper.semAt_some
set_option maxRecDepth 100000 in
set_option maxHeartbeats 1000000 in
theorem it_at_in (W : World) (f l id x : Int) (blk off m cap : Nat) (hf : 0 ≤ f) (hid : f ≤ id) (hil : id < 4294967296) (hm : 0 < m) (hm2 : m < 2 ^ 60)
  (hc : W.cell? ⟨blk, off + min (id - f).toNat (m - 1), none⟩ = some (.int .i64 x)) (hb : blk < W.heap.size) :
  CallsIn Fence.wide 1 Prog 81 #[.agg #[.int .i64 f, .int .i64 l, .slice (some ⟨blk, off, none⟩) m cap], .int .i64 id] W fun e W' => e = .returned (.int .i64 x) ∧ W' = W.alloc (.cells #[.int .i64 f, .int .i64 l, .slice (some ⟨blk, off, none⟩) m cap] 179) := by
 refine callsIn_of_wp Try.func81 rfl trivial ?_ rfl;simp only [Try.ntmps81, List.size_toArray, List.length_cons, List.length_nil, Nat.reduceAdd, Nat.reduceSub, Array.replicate_succ, Array.replicate_zero, List.push_toArray, List.append_toArray, List.nil_append, List.cons_append];have hw' : W.cell? ⟨blk, off + (min (id - f) ((m : Int) - 1)).toNat, none⟩ = some (.int .i64 x) := by
  rw [← hc, show (min (id - f) ((m : Int) - 1)).toNat = min (id - f).toNat (m - 1) by omega]
 by_cases hlt : (m : Int) - 1 < id - f
 ·have hw : W.cell? ⟨blk, off + (m - 1), none⟩ = some (.int .i64 x) := by
   rw [← hc, show min (id - f).toNat (m - 1) = m - 1 by omega]
  gi_wp2
  go_ret
  exact ⟨rfl, rfl⟩
 ·have hw : W.cell? ⟨blk, off + (id - f).toNat, none⟩ = some (.int .i64 x) := by
   rw [← hc, show min (id - f).toNat (m - 1) = (id - f).toNat by omega]
  gi_wp2
  go_ret
  exact ⟨rfl, rfl⟩
structure Pa where
 f : Int
 l : Int
 m : Nat
 x : Nat → Int
def paN (p : Pa) : Nat := (p.l - p.f + 1).toNat
def PaZ (z : Nat → Option Obj) (cs : Array Value) (o : Nat) (p : Pa) : Prop :=
 ∃ a cap, cs[o]? = some (.int .i64 p.f) ∧ cs[o + 1]? = some (.int .i64 p.l) ∧ cs[o + 2]? = some (.slice a p.m cap) ∧
  (0 < p.m → ∃ blk off ws el fz, a = some ⟨blk, off, none⟩ ∧ z blk = some (.cells ws el fz) ∧ ∀ j, j < paN p → ws[off + min j (p.m - 1)]? = some (.int .i64 (p.x j)))
def cntP (ps : List Pa) : Nat := (ps.map paN).sum
set_option maxRecDepth 100000 in
set_option maxHeartbeats 4000000 in
theorem it_all_in (z : Nat → Option Obj) (l0 : Nat) (J : Nat → (Nat → Prop) → World → Prop) (Jx : World → Prop) (Jp : List PanicEntry → World → Prop) (ps : List Pa)
  (hal : ∀ i T W o, J i T W → J i (fun k => T k ∨ k = W.heap.size) (W.alloc o))
  (htn : ∀ i T W W', J i T W → W.heap.size = W'.heap.size → W'.os = W.os → W'.tape = W.tape → W'.output = W.output → (∀ k, ¬ T k → W'.heap[k]? = W.heap[k]?) → J i T W')
  (hfz : ∀ i T W, J i T W → ∀ k o, z k = some o → W.heap[k]? = some o)
  (hY : ∀ (a : Nat) (p : Pa) (j : Nat) T W, ps[a]? = some p → j < paN p → J (cntP (ps.take a) + j) T W → YieldAt Fence.wide 0 Prog l0 #[.int .i64 (p.f + j), .int .i64 (p.x j)] W fun e W' =>
   (e = .returned (.bool true) ∧ J (cntP (ps.take a) + (j + 1)) T W' ∧ (∀ k, T k → W'.heap[k]? = W.heap[k]?) ∧ W.heap.size ≤ W'.heap.size) ∨ (e = .returned (.bool false) ∧ Jx W') ∨ ∃ ch, e = .panicked ch ∧ Jp ch W')
  (hok : ∀ p, p ∈ ps → 0 ≤ p.f ∧ p.l < 4294967296 ∧ p.m < 2 ^ 60 ∧ (p.f ≤ p.l → 0 < p.m))
  (W : World) (h0 : J 0 (fun _ => False) W) (BX bo tb toff : Nat) (hBX : W.cell? ⟨BX, bo, none⟩ = some (.pointer (some ⟨tb, toff, none⟩)))
  (tcs : Array Value) (tel : TypeId) (tfz : Nat × Nat) (htb : z tb = some (.cells tcs tel tfz)) (pa : Option Addr) (pcap : Nat) (htc : tcs[toff + 1]? = some (.slice pa ps.length pcap)) (hn : ps.length < 2 ^ 60)
  (hpa : ps ≠ [] → ∃ pb poff pcs pel pfz, pa = some ⟨pb, poff, none⟩ ∧ z pb = some (.cells pcs pel pfz) ∧ ∀ (a : Nat) p, ps[a]? = some p → PaZ z pcs (poff + a * 3) p) :
  CallsIn Fence.wide 3 Prog 80 #[.func (.yield l0) #[] #[], .pointer (some ⟨BX, bo, none⟩)] W fun e W' => ((∃ v, e = .returned v) ∧ ((∃ T, J (cntP ps) T W') ∨ Jx W')) ∨ ∃ ch, e = .panicked ch ∧ Jp ch W' := by
 have htW := hfz _ _ _ h0 _ _ htb;have hT1 : W.cell? ⟨tb, toff + 1, none⟩ = some (.slice pa ps.length pcap) := by simp only [World.cell?, htW, htc]; rfl
 refine callsIn_of_wp Try.func80 rfl trivial ?_ rfl;simp only [Try.ntmps80, List.size_toArray, List.length_cons, List.length_nil, Nat.reduceAdd, Nat.reduceSub, Array.replicate_succ, Array.replicate_zero, List.push_toArray, List.append_toArray, List.nil_append, List.cons_append]
 gi_wp2
 gi_loopw [11] (fun i wr => ∃ k : Nat, k ≤ ps.length ∧ i = .int .i64 k ∧ ∃ T, J (cntP (ps.take k)) T wr) (fun i _ => ps.length - (intOf i).toNat)
 case atStart => exact ⟨0, Nat.zero_le _, rfl, _, h0⟩
 case round =>
  obtain ⟨k, hk, rfl, T, hJ⟩ := hrel;by_cases hlt : k < ps.length
  ·obtain ⟨p, hp⟩ : ∃ p, ps[k]? = some p := ⟨_, List.getElem?_eq_getElem hlt⟩
   obtain ⟨pb, poff, pcs, pel, pfz, rfl, hzp, hPZ⟩ := hpa (fun e => by subst e; simp at hlt);obtain ⟨va, cap, c1, c2, c3, hv⟩ := hPZ k p hp;have hwp := hfz _ _ _ hJ _ _ hzp;have d1 : wr.cell? ⟨pb, poff + k * 3, none⟩ = some (.int .i64 p.f) := by simp only [World.cell?, hwp, c1]; rfl
   have d2 : wr.cell? ⟨pb, poff + k * 3 + 1, none⟩ = some (.int .i64 p.l) := by simp only [World.cell?, hwp, c2]; rfl
   have d3 : wr.cell? ⟨pb, poff + k * 3 + 2, none⟩ = some (.slice va p.m cap) := by simp only [World.cell?, hwp, c3]; rfl
   have hpo := hok p (List.mem_of_getElem? hp);obtain ⟨w1, hw1⟩ : ∃ w1, w1 = wr := ⟨_, rfl⟩
   subst hw1
   gi_wp2
   gi_loopw [5] (fun i w2 => ∃ j : Nat, j ≤ paN p ∧ i = .int .i64 (p.f + j) ∧ ∃ T2, J (cntP (ps.take k) + j) T2 w2 ∧ T2 w1.heap.size ∧ w2.heap[w1.heap.size]? = some (.cells #[.int .i64 p.f, .int .i64 p.l, .slice va p.m cap] 179 (0, 0)))
    (fun i _ => paN p - (intOf i - p.f).toNat)
   case atStart =>
    refine ⟨0, Nat.zero_le _, by simp, _, hal _ _ _ _ hJ, .inr rfl, heap_alloc_new' _ _⟩
   case round =>
    obtain ⟨j, hj, rfl, T2, hJ2, hT2, hbx⟩ := hrel;have b1 : wr.cell? ⟨w1.heap.size, 0, none⟩ = some (.int .i64 p.f) := by simp only [World.cell?, hbx]; rfl
    have b2 : wr.cell? ⟨w1.heap.size, 1, none⟩ = some (.int .i64 p.l) := by simp only [World.cell?, hbx]; rfl
    have b3 : wr.cell? ⟨w1.heap.size, 2, none⟩ = some (.slice va p.m cap) := by simp only [World.cell?, hbx]; rfl
    have hc0 : wr.cell? ⟨w1.heap.size, 0, none⟩ |>.isSome := by rw [b1]; rfl
    by_cases hjl : j < paN p
    ·have hle : p.f ≤ p.l := by unfold paN at hjl; omega
     have hjp : p.f + (j : Int) ≤ p.l := by unfold paN at hjl; omega
     have hvl := hpo.2.2.2 hle;obtain ⟨blk, off, ws, wel, wfz, rfl, hzw, hws⟩ := hv hvl;have hww := hfz _ _ _ hJ2 _ _ hzw;have hval : wr.cell? ⟨blk, off + min (p.f + (j : Int) - p.f).toNat (p.m - 1), none⟩ = some (.int .i64 (p.x j)) := by
      rw [show (p.f + (j : Int) - p.f).toNat = j by omega];simp only [World.cell?, hww, hws j hjl]; rfl
     have hbl : blk < wr.heap.size := (Array.getElem?_eq_some_iff.1 hww).1;have hat := it_at_in wr p.f p.l (p.f + j) (p.x j) blk off p.m cap hpo.1 (by omega) (by omega) hvl hpo.2.2.1 hval hbl;have hJ3 := hal _ _ _ (.cells #[.int .i64 p.f, .int .i64 p.l, .slice (some ⟨blk, off, none⟩) p.m cap] 179) hJ2;obtain ⟨fn, tmps, assign, body, hy, hR⟩ := hY k p j _ _ hp hjl hJ3;have hf81 : Fence.wide.fn 81 := trivial
     gi_wp2_with (gi_at_call 81; refine (callsIn_wide.2 (callsIn_wide.1 hat)).mono ?_; rintro e w' ⟨rfl, rfl⟩)
     refine (roundIn_any hR).mono ?_;rintro e w3 (⟨rfl, hJ4, hkeep, _⟩ | ⟨rfl, hx⟩ | ⟨ch, rfl, hpn⟩)
     ·have hbx3 : w3.heap[w1.heap.size]? = some (.cells #[.int .i64 p.f, .int .i64 p.l, .slice (some ⟨blk, off, none⟩) p.m cap] 179 (0, 0)) :=
       (hkeep _ (.inl hT2)).trans ((Below.heap_alloc wr _ _ (Array.getElem?_eq_some_iff.1 hbx).1).trans hbx)
      gi_wp2
      go_roundw
      ·exact ⟨j + 1, hjl, by congr 1; push_cast; omega, _, hJ4, .inl hT2, hbx3⟩
      ·simp [intOf]; omega
     ·gi_wp2
      refine bodyPost_ret (results_none rfl _ _ _) rfl ?_;exact .inl ⟨⟨_, rfl⟩, .inr hx⟩
     ·gi_wp2
      exact ⟨rfl, .inr ⟨_, rfl, hpn⟩⟩
    ·have hlj : p.l < p.f + (j : Int) := by unfold paN at hjl; omega
     gi_wp2
     obtain rfl : j = paN p := by omega
     go_roundw
     ·refine ⟨k + 1, hlt, by simp, T2, ?_⟩;have : cntP (ps.take (k + 1)) = cntP (ps.take k) + paN p := by
       rw [List.take_add_one, hp]; simp [cntP]
      rw [this]; exact hJ2
     ·simp [intOf]; omega
  ·obtain rfl : k = ps.length := by omega
   rw [List.take_length] at hJ
   gi_wp2
   go_end0
   exact .inl ⟨⟨_, rfl⟩, .inl ⟨T, hJ⟩⟩
def paL (p : Pa) : List (List Int) := (List.range (paN p)).map fun j => [p.f + (j : Nat), p.x j]
theorem itm_some {α β : Type} {f : α → Option β} {g : α → β} (hg : ∀ y z, f y = some z → z = g y) : ∀ {l : List α} {a : List β}, l.mapM f = some a → a = l.map g ∧ ∀ y, y ∈ l → (f y).isSome = true
 | [], a, h => by simp at h; subst h; exact ⟨rfl, fun y hy => by cases hy⟩
 | y :: l, a, h => by
  rw [List.mapM_cons] at h;cases hy : f y with
  | none => rw [hy] at h; simp at h
  | some z =>
   cases hl : l.mapM f with
   | none => rw [hy, hl] at h; simp at h
   | some b =>
    rw [hy, hl] at h;obtain ⟨h1, h2⟩ := itm_some hg hl;have h : z :: b = a := by simpa using h
    subst h;refine ⟨by rw [List.map_cons, ← h1, hg _ _ hy], fun y' hy' => ?_⟩;rcases List.mem_cons.1 hy' with rfl | hm
    ·simp [hy]
    ·exact h2 _ hm
def itValX (vals : List Value) (j : Nat) : Int := match vals[min j (vals.length - 1)]? with | some (.int .i64 x) => x | _ => 0
theorem it_partE_is {f l : Int} {vals : List Value} {a : List (List Int)} (h : partE f l vals = some a) :
  0 ≤ f ∧ l < 4294967296 ∧ vals.length < 2 ^ 60 ∧ a = paL ⟨f, l, vals.length, itValX vals⟩ ∧ ∀ j, j < (l - f + 1).toNat → vals[min j (vals.length - 1)]? = some (.int .i64 (itValX vals j)) := by
 unfold partE at h;split at h
 ·rename_i hc;obtain ⟨h1, h2⟩ := itm_some (g := fun j => [f + (j : Nat), itValX vals j]) (fun y z hz => by
   unfold itValX;split at hz
   ·rename_i e; rw [e]; injection hz with hz; exact hz.symm
   ·cases hz) h
  refine ⟨hc.1, hc.2.1, hc.2.2, h1, fun j hj => ?_⟩;have := h2 j (List.mem_range.2 hj);unfold itValX;split at this
  ·rename_i e; rw [e]
  ·cases this
 ·cases h
theorem it_parts_of {μ : Mu} {cs : Array Value} : ∀ (n : Nat) (vs : List Value) (L : List (List Int)) (o : Nat), partsE n vs = some L → o + vs.length ≤ cs.size → (∀ (i : Nat) v v', vs[i]? = some v → cs[o + i]? = some v' → VR μ v v') →
  ∃ pl : List Pa, pl.length = n ∧ (∀ p, p ∈ pl → 0 ≤ p.f ∧ p.l < 4294967296 ∧ p.m < 2 ^ 60 ∧ (p.f ≤ p.l → 0 < p.m)) ∧ (∀ (a : Nat) p, pl[a]? = some p → PaZ μ.z cs (o + a * 3) p) ∧ L = pl.flatMap paL := by
 intro n
 induction n with
 | zero =>
  intro vs L o h _ _;cases vs with
  | nil => unfold partsE at h; injection h with h; subst h; exact ⟨[], rfl, fun p hp => (by cases hp), fun a p hp => (by cases hp), rfl⟩
  | cons v vs => unfold partsE at h; cases h
 | succ n ih =>
  intro vs L o h hs hv;unfold partsE at h;split at h
  ·rename_i e; cases e
  ·rename_i n' f l m pth g ws ys r e;injection e with e; subst e;cases hm : Nat.beq m ws.size with
   | false => rw [hm] at h; cases h
   | true =>
    rw [hm] at h;have hm := Nat.eq_of_beq_eq_true hm;cases hp : partE f l ws.toList with
    | none => rw [hp] at h; cases h
    | some a =>
     cases hr : partsE n r with
     | none => rw [hp, hr] at h; cases h
     | some b =>
      rw [hp, hr] at h;have h : some (a ++ b) = some L := h;injection h with h; subst h;simp only [List.length_cons] at hs;obtain ⟨pl, h1, h2, h3, h4⟩ := ih r b (o + 3) hr (by omega) fun i v v' hi hi' => hv (i + 3) v v' (by simpa using hi) (by rw [show o + (i + 3) = o + 3 + i by omega]; exact hi');obtain ⟨q1, q2, q3, q4, q5⟩ := it_partE_is hp;have g0 : ∀ k, k < 3 → ∃ v', cs[o + k]? = some v' := fun k hk => ⟨_, Array.getElem?_eq_getElem (by omega)⟩
      obtain ⟨c0, e0⟩ := g0 0 (by omega);obtain ⟨c1, e1⟩ := g0 1 (by omega);obtain ⟨c2, e2⟩ := g0 2 (by omega);have r0 := hv 0 _ _ rfl e0;have r1 := hv 1 _ _ rfl e1;have r2 := hv 2 _ _ rfl e2;refine ⟨⟨f, l, ws.toList.length, itValX ws.toList⟩ :: pl, by simp [h1], fun p hp => ?_, fun a' p ha => ?_, ?_⟩
      ·rcases List.mem_cons.1 hp with rfl | hp
       ·refine ⟨q1, q2, q3, fun hle => ?_⟩;have := q5 0 (by have hle' : f ≤ l := hle; omega);rcases Nat.eq_zero_or_pos ws.toList.length with hz | hz
        ·rw [List.length_eq_zero_iff.1 hz] at this; cases this
        ·exact hz
       ·exact h2 p hp
      ·cases a' with
       | succ a' => rw [show o + (a' + 1) * 3 = o + 3 + a' * 3 by omega]; exact h3 a' p (by simpa using ha)
       | zero =>
        simp at ha; subst ha;cases r0; cases r1;cases r2 with
        | list _ _ _ _ _ blk off cap zcs el fz hz hl hc hg h0 hx =>
         refine ⟨some ⟨blk, off, none⟩, cap, by simpa using e0, by simpa using e1, by rw [Nat.zero_mul, Nat.add_zero, e2, hm], fun hpos => ⟨blk, off, zcs, el, fz, rfl, hz, fun j hj => ?_⟩⟩;have hj' := q5 j hj;have hlt := (List.getElem?_eq_some_iff.1 hj').1;have hlt' : min j (ws.toList.length - 1) < ws.size := by simpa using hlt
         obtain ⟨v', hv'⟩ : ∃ v', zcs[off + min j (ws.toList.length - 1)]? = some v' := ⟨_, Array.getElem?_eq_getElem (by omega)⟩
         have := hx _ _ _ (by rw [← Array.getElem?_toList]; exact hj') hv';cases this;exact hv'
        | empty _ _ _ _ x cap hn hs' =>
         have hz : ws.toList.length = 0 := by rw [Array.length_toList]; exact hm.symm
         refine ⟨x, cap, by simpa using e0, by simpa using e1, by rw [Nat.zero_mul, Nat.add_zero, e2]; show some (Value.slice x 0 cap) = some (Value.slice x ws.toList.length cap); rw [hz], fun hpos => ?_⟩;simp only [hz] at hpos; omega
      ·rw [List.flatMap_cons, ← h4, q4]
  ·cases h
theorem paL_len (p : Pa) : (paL p).length = paN p := by simp [paL]
theorem itf_len : ∀ pl : List Pa, (pl.flatMap paL).length = cntP pl
 | [] => rfl
 | p :: pl => by simp [List.flatMap_cons, itf_len pl, paL_len, cntP]
theorem itf_at : ∀ (pl : List Pa) (a : Nat) (p : Pa) (j : Nat), pl[a]? = some p → j < paN p → (pl.flatMap paL)[cntP (pl.take a) + j]? = some [p.f + (j : Nat), p.x j]
 | [], a, p, j, h, _ => by simp at h
 | q :: pl, 0, p, j, h, hj => by
  simp at h; subst h;rw [List.flatMap_cons, List.getElem?_append_left (by simp [cntP, paL_len]; exact hj)];simp [paL, cntP, hj]
 | q :: pl, a + 1, p, j, h, hj => by
  have := itf_at pl a p j (by simpa using h) hj;rw [List.flatMap_cons, List.getElem?_append_right (by simp [cntP, paL_len]; omega)];rw [← this]; congr 1;simp [cntP, paL_len]; omega
set_option maxRecDepth 100000 in
theorem it_is : ItOk Prog itS := by
 intro v H L hL w0 μ w v' hH hV;unfold itS itAll at hL;split at hL;rotate_left
 ·cases hL
 rename_i f xs ys;cases hb : (Nat.beq f 80 && Nat.beq xs.size 0) with
 | false => rw [hb] at hL; cases hL
 | true =>
  rw [hb] at hL;obtain ⟨hb1, hb2⟩ := Bool.and_eq_true_iff.1 hb;have hb1 := Nat.eq_of_beq_eq_true hb1;have hb2 := Nat.eq_of_beq_eq_true hb2;subst hb1;simp only [cond_true] at hL;split at hL;rotate_left
  ·cases hL
  rename_i b hys;split at hL;rotate_left
  ·cases hL
  rename_i n0 p0 g0 ts ty0 ez ro hblk;split at hL;rotate_left
  ·cases hL
  rename_i t0 n p1 g1 ps ty1 hts;split at hL;rotate_left
  ·cases hL
  rename_i hn;cases hV with
  | func _ _ xs' _ ys' h1 h2 h3 h4 =>
   have hx' : xs' = #[] := by apply Array.eq_empty_of_size_eq_zero; omega
   subst hx';obtain ⟨y', r', hy', hyr, hr'⟩ := VRs.cons_inv (by rw [← hys]; exact VRs.of_arr h3 h4);have := hr'.nil_inv; subst this;have hye : ys' = #[y'] := by apply Array.toList_inj.1; rw [hy']
   subst hye;cases hyr with
   | ptr _ _ m hm =>
    obtain ⟨v1, hc1, hr1, _⟩ := hH.cell hblk hm (off := 0) rfl;cases hr1 with
    | box _ _ _ _ _ tb toff tcs tel tfz hz hl h0 hx =>
     have htl : ts.size = 2 := by rw [← Array.length_toList, hts]; rfl
     obtain ⟨v2, hv2⟩ : ∃ v2, tcs[toff + 1]? = some v2 := ⟨_, Array.getElem?_eq_getElem (by omega)⟩
     have hr2 := hx 1 _ _ (by rw [← Array.getElem?_toList, hts]; rfl) hv2
     have key : ∃ (pl : List Pa) (pa : Option Addr) (pcap : Nat), L = pl.flatMap paL ∧ (∀ p, p ∈ pl → 0 ≤ p.f ∧ p.l < 4294967296 ∧ p.m < 2 ^ 60 ∧ (p.f ≤ p.l → 0 < p.m)) ∧ pl.length = n ∧ v2 = .slice pa pl.length pcap ∧
       (pl ≠ [] → ∃ pb poff pcs pel pfz, pa = some ⟨pb, poff, none⟩ ∧ μ.z pb = some (.cells pcs pel pfz) ∧ ∀ (a : Nat) p, pl[a]? = some p → PaZ μ.z pcs (poff + a * 3) p) := by
      cases hr2 with
      | list _ _ _ _ _ pb poff pcap pcs pel pfz hz2 hl2 hc2 hg2 h02 hx2 =>
       obtain ⟨pl, e1, e2, e3, e4⟩ := it_parts_of (μ := μ) (cs := pcs) n ps.toList L poff hL (by simpa using hl2) fun i v v' hi hi' => hx2 i v v' (by rw [← Array.getElem?_toList]; exact hi) hi';exact ⟨pl, _, pcap, e4, e2, e1, by rw [e1], fun _ => ⟨pb, poff, pcs, pel, pfz, rfl, hz2, e3⟩⟩
      | empty _ _ _ _ x pcap hn2 hs2 =>
       generalize ps.toList = psl at hL;cases psl with
       | nil =>
        unfold partsE at hL; injection hL with hL; subst hL;exact ⟨[], x, pcap, rfl, fun p hp => (by cases hp), rfl, rfl, fun h => (h rfl).elim⟩
       | cons a r => unfold partsE at hL; cases hL
     obtain ⟨pl, pa, pcap, rfl, hok, hlen, rfl, hpa⟩ := key;refine ⟨80, #[.pointer (some ⟨m.blk, m.base + 0, none⟩)], rfl, ⟨Try.f80, Try.func80, rfl, by decide⟩, fun l0 J Jx Jp hal htn hfz hY h0J => ?_⟩;have := it_all_in μ.z l0 J Jx Jp pl hal htn hfz (fun a p j T W hp hj hJ => hY _ T W _ hJ (itf_at pl a p j hp hj)) hok w h0J m.blk (m.base + 0) tb toff hc1 tcs tel tfz hz pa pcap hv2 (by rw [hlen]; exact hn) hpa;rw [itf_len];exact callsIn_wide.1 this
end Go.Sw
end
