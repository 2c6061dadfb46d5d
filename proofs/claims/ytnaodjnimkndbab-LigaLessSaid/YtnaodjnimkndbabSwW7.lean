/-
  Functions' forms, and what is proved of them, part 7.
-/
import Derived.Test.YtnaodjnimkndbabSwW6
import Derived.Test.YtnaodjnimkndbabSwW5
import Derived.Test.YtnaodjnimkndbabSwW4
import Derived.Test.YtnaodjnimkndbabSwW3
import Derived.Test.YtnaodjnimkndbabSwCfg
import Derived.Test.YtnaodjnimkndbabSwW2
set_option linter.unusedSimpArgs false
set_option linter.unusedVariables false
set_option linter.unusedSectionVars false
section
namespace Go.Sw
open Go.RowKit
abbrev ligaC (t : LTab) : List Value := [machV t.m, lv encB t.acts, lv encB t.comps, lv encB t.ligs]
abbrev ligaV (t : LTab) : Value := boxV (ligaC t).toArray
theorem Flat.liga (t : LTab) : Flat (ligaV t) := .boxV (.cons (Flat.mach t.m) (.cons (Flat.B _) (.cons (Flat.B _) (.cons (Flat.B _) .nil))))
theorem ligaTake_l2 (k : Nat) {vs : List Int} (hb : Byt vs) (hl : vs.length < 2 ^ 31) {p : Nat} (a : Int) (ha : 0 ≤ a ∧ a < 65536) {m c2 c3 : Value} (a30 a31 a32 : Value) {H : Heap} (hp : H.get p = some ⟨[m, lv encB vs, c2, c3], 1, false⟩) :
  (∃ z, loopN (liga_Take_l2 k (R (T k))) loopFuel [(5, ptrV p), (8, .int .i64 a), (30, a30), (31, a31), (32, a32)] H = .ok (.exit 2, [(5, ptrV p), (8, z), (30, a30), (31, a31), (32, a32), (50, .bool false)]) H ∧ lastB vs a = true) ∨
  (loopN (liga_Take_l2 k (R (T k))) loopFuel [(5, ptrV p), (8, .int .i64 a), (30, a30), (31, a31), (32, a32)] H = .panic failV H ∧ lastB vs a = false) := by
 have hU := fun i H' => U32_run k (H := H') (Sl.lv H' 1 vs) hb i (by omega)
 rcases loop_upP (body := liga_Take_l2 k (R (T k))) vs.length
  (fun j e' H' => e' = [(5, ptrV p), (8, .int .i64 (a + j)), (30, a30), (31, a31), (32, a32)] ∧ H' = H ∧ ∀ i : Nat, a ≤ i → (i : Int) < a + j → ¬ gU vs (4 * (i : Int)) 4 ≥ 2147483648)
  (fun xx e' H' => xx = .exit 2 ∧ (∃ z, e' = [(5, ptrV p), (8, z), (30, a30), (31, a31), (32, a32), (50, .bool false)]) ∧ H' = H ∧ lastB vs a = true)
  (fun v H' => v = failV ∧ H' = H ∧ lastB vs a = false)
  (fun j e' H' hj ⟨he', hH, hno⟩ => by
   subst he' hH
   cases hu : uS vs (4 * (a + j)) 4 with
   | none =>
    have h32 := hU (4 * (a + j)) H'
    rw [hu] at h32
    refine .inr (.inr ⟨failV, H', ?_, rfl, rfl, ?_⟩)
    ·rw [liga_Take_l2_eq]
     simp -implicitDefEqProofs (disch := omega) [hp, h32, orF]
    ·rw [Bool.eq_false_iff]
     intro ho
     obtain ⟨i, i1, i2, i3⟩ := lastB_iff.1 ho
     by_cases hij : (i : Int) < a + j
     ·exact hno i i1 hij i3
     ·unfold uS pieceS at hu
      rw [if_pos ⟨by omega, by omega, by omega, by omega⟩] at hu
      simp at hu
   | some x =>
    have h32 := hU (4 * (a + j)) H'
    rw [hu] at h32
    have hg := gU_some hu
    have hxb := uS_four hb hu
    have an := fun H => and31 Prog 3 H hxb.1 hxb.2
    by_cases d : x ≥ 2147483648
    ·rw [if_pos d] at an
     refine .inr (.inl ⟨.exit 2, _, H', ?_, by simp, rfl, ⟨.int .i64 (a + j), rfl⟩, rfl, ?_⟩)
     ·rw [liga_Take_l2_eq]
      simp -implicitDefEqProofs (disch := omega) [hp, h32, orF, an]
     ·refine lastB_iff.2 ⟨(a + j).toNat, by omega, ?_, ?_⟩
      ·have := uS_fits hu
       omega
      ·rw [show (((a + j).toNat : Nat) : Int) = a + j by omega, hg]
       exact d
    ·rw [if_neg d] at an
     have hj1 : a + ((j + 1 : Nat) : Int) = a + j + 1 := by omega
     refine .inl ⟨_, H', ?_, rfl, rfl, fun i i1 i2 => ?_⟩
     ·rw [liga_Take_l2_eq, hj1]
      simp -implicitDefEqProofs (disch := omega) [hp, h32, orF, an]
     ·by_cases hij : (i : Int) < a + j
      ·exact hno i i1 hij
      ·rw [show (i : Int) = a + j by omega, hg]
       exact d)
  (fun e' H' ⟨he', hH, hno⟩ => by
   subst he' hH
   have hu : uS vs (4 * (a + vs.length)) 4 = none := by
    cases h : uS vs (4 * (a + vs.length)) 4 with
    | none => rfl
    | some x =>
     have := uS_fits h
     omega
   have h32 := hU (4 * (a + vs.length)) H'
   rw [hu] at h32
   refine .inr ⟨failV, H', ?_, rfl, rfl, ?_⟩
   ·rw [liga_Take_l2_eq]
    simp -implicitDefEqProofs (disch := omega) [hp, h32, orF]
   ·rw [Bool.eq_false_iff]
    intro ho
    obtain ⟨i, i1, i2, i3⟩ := lastB_iff.1 ho
    exact hno i i1 (by omega) i3) loopFuel 0 [(5, ptrV p), (8, .int .i64 a), (30, a30), (31, a31), (32, a32)] H (Nat.zero_le _) (by unfold loopFuel; omega) ⟨by simp, rfl, fun i i1 i2 => by omega⟩ with ⟨xx, e', H1, hr, rfl, ⟨z, rfl⟩, rfl, hE⟩ | ⟨v, H1, hr, rfl, rfl, hE⟩
 ·exact .inl ⟨z, hr, hE⟩
 ·exact .inr ⟨hr, hE⟩
theorem ligaTake_l1 (k : Nat) {vs : List Int} (hb : Byt vs) (hl : vs.length < 2 ^ 31) {p : Nat} {es : List En} (hes : ∀ e, e ∈ es → (0 ≤ e.a ∧ e.a < 65536) ∧ 0 ≤ e.flags ∧ e.flags < 65536) (hel : es.length < 2 ^ 40) {m c2 c3 : Value} {H : Heap} (hp : H.get p = some ⟨[m, lv encB vs, c2, c3], 1, false⟩) :
  (∃ z H', loopN (liga_Take_l1 k (R (T k))) loopFuel [(5, ptrV p), (30, lv encEn es), (31, .int .i64 es.length), (32, .int .i64 0)] H = .ok (.exit 0, [(5, ptrV p), (30, lv encEn es), (31, .int .i64 es.length), (32, z), (33, .bool false)]) H' ∧ Ext H H' ∧ es.all (entLast vs) = true) ∨
  (∃ H', loopN (liga_Take_l1 k (R (T k))) loopFuel [(5, ptrV p), (30, lv encEn es), (31, .int .i64 es.length), (32, .int .i64 0)] H = .panic failV H' ∧ Ext H H' ∧ es.all (entLast vs) = false) := by
 rcases loop_upP (body := liga_Take_l1 k (R (T k))) es.length
  (fun j e' H' => e' = [(5, ptrV p), (30, lv encEn es), (31, .int .i64 es.length), (32, .int .i64 j)] ∧ Ext H H' ∧ (es.take j).all (entLast vs) = true)
  (fun xx e' H' => xx = .exit 0 ∧ (∃ z, e' = [(5, ptrV p), (30, lv encEn es), (31, .int .i64 es.length), (32, z), (33, .bool false)]) ∧ Ext H H' ∧ es.all (entLast vs) = true)
  (fun v H' => v = failV ∧ Ext H H' ∧ es.all (entLast vs) = false)
  (fun j e' H' hj ⟨he', hx, hall⟩ => by
   subst he'
   have hjl : (j : Int) < es.length := by omega
   obtain ⟨en, hen⟩ : ∃ en, es[j]? = some en := ⟨_, List.getElem?_eq_getElem hj⟩
   have hmem := List.mem_of_getElem? hen
   obtain ⟨hea, hf0, hf1⟩ := hes en hmem
   have i1 := fun H' => ixS_lvN encEn_len es .i64 j en hen H'
   have hx2 : Ext H (H'.push ⟨encEn en, 1, false⟩) := hx.push _
   have an := fun H => and13 Prog 3 H hf0 hf1
   by_cases c : en.flags / 8192 % 2 = 1
   ·rw [if_pos c] at an
    have hEv : entLast vs en = lastB vs en.a := by unfold entLast; rw [decide_eq_false (fun hh => hh c)]; rfl
    rcases ligaTake_l2 k hb hl en.a hea (p := p) (m := m) (c2 := c2) (c3 := c3) (lv encEn es) (.int .i64 es.length) (.int .i64 j) (hx2.get hp) with ⟨z, e2, hE⟩ | ⟨e2, hE⟩
    ·refine .inl ⟨_, _, ?_, rfl, hx2, ?_⟩
     ·rw [liga_Take_l1_eq]
      simp -implicitDefEqProofs (disch := omega) [hjl, i1, an, e2, liga_Take_l2k_x2, liga_Take_j2_eq]
     ·rw [take_snoc hen, List.all_append, hall]
      simp [hEv, hE]
    ·refine .inr (.inr ⟨failV, _, ?_, rfl, hx2, ?_⟩)
     ·rw [liga_Take_l1_eq]
      simp -implicitDefEqProofs (disch := omega) [hjl, i1, an, e2]
     ·rw [Bool.eq_false_iff]
      intro h
      have := List.all_eq_true.1 h en hmem
      rw [hEv, hE] at this
      cases this
   ·rw [if_neg c] at an
    have hEv : entLast vs en = true := by unfold entLast; rw [decide_eq_true c]; rfl
    refine .inl ⟨_, _, ?_, rfl, hx2, ?_⟩
    ·rw [liga_Take_l1_eq]
     simp -implicitDefEqProofs (disch := omega) [hjl, i1, an, liga_Take_j1_eq]
    ·rw [take_snoc hen, List.all_append, hall]
     simp [hEv])
  (fun e' H' ⟨he', hx, hall⟩ => by
   subst he'
   rw [List.take_length] at hall
   refine .inl ⟨.exit 0, _, H', ?_, by simp, rfl, ⟨.int .i64 es.length, rfl⟩, hx, hall⟩
   rw [liga_Take_l1_eq]
   simp -implicitDefEqProofs) loopFuel 0 [(5, ptrV p), (30, lv encEn es), (31, .int .i64 es.length), (32, .int .i64 0)] H (Nat.zero_le _) (by unfold loopFuel; omega) ⟨rfl, Ext.refl _, rfl⟩ with ⟨xx, e', H1, hr, rfl, ⟨z, rfl⟩, hx, hE⟩ | ⟨v, H1, hr, rfl, hx, hE⟩
 ·exact .inl ⟨z, H1, hr, hx, hE⟩
 ·exact .inr ⟨H1, hr, hx, hE⟩
theorem ligaTake_run (k : Nat) (hk : k < 1000000) (b : List Int) (hb : Byt b) (g : Int) (hg : 1 ≤ g ∧ g ≤ 65535) (hl : b.length < 2 ^ 31) (H : Heap) : R (T k) F.liga_Take [vwB b, .int .i64 g] H = orF (ligaS b g) ligaV H := by
 rw [liga_Take_R]
 have hx : Ext H (H.push ⟨[lv encB b], 1, false⟩) := (Ext.refl H).push _
 have hvb : veq (vwB b) (vwB b) = true := veq_agg (l := [lv encB b]) fun u hu => by simp at hu; subst hu; exact veq_B b
 refine fz_orF ?_ fun _ _ => (Flat.liga _).alive
 unfold ligaS listAt
 simp only [Option.bind_assoc]
 simp -implicitDefEqProofs (disch := omega) [liga_Take]
 refine Cp.callT (stateTake_run k (Sl.lv _ 1 b) hb g 1 hg.1 hg.2 (.inr (.inl rfl)) hl) (fun _ => ⟨_, by simp -implicitDefEqProofs (disch := omega) [hvb], hx⟩) fun m hm => ?_
 have hok := machS_ok hb hg.1 hg.2 (by omega) hm
 simp -implicitDefEqProofs (disch := omega) [hvb]
 refine Cp.callT (U32_run k (Sl.lv _ 1 b) hb 16 (by omega)) (fun _ => ⟨_, by simp -implicitDefEqProofs (disch := omega) [hvb], hx⟩) fun p hp => ?_
 have hp := uS_four hb hp
 simp -implicitDefEqProofs (disch := omega) [hvb]
 refine Cp.callT (Rest_lv k b p (by omega) (by omega) _) (fun _ => ⟨_, by simp -implicitDefEqProofs (disch := omega) [hvb], hx⟩) fun sa hsa => ?_
 have lsa := restS_len hsa
 simp -implicitDefEqProofs (disch := omega) [hvb]
 refine Cp.callT (U32_run k (Sl.lv _ 1 b) hb 20 (by omega)) (fun _ => ⟨_, by simp -implicitDefEqProofs (disch := omega) [hvb], hx⟩) fun p2 hp2 => ?_
 have hp2 := uS_four hb hp2
 simp -implicitDefEqProofs (disch := omega) [hvb]
 refine Cp.callT (Rest_lv k b p2 (by omega) (by omega) _) (fun _ => ⟨_, by simp -implicitDefEqProofs (disch := omega) [hvb], hx⟩) fun sc hsc => ?_
 have lsc := restS_len hsc
 simp -implicitDefEqProofs (disch := omega) [hvb]
 refine Cp.callT (U32_run k (Sl.lv _ 1 b) hb 24 (by omega)) (fun _ => ⟨_, by simp -implicitDefEqProofs (disch := omega) [hvb], hx⟩) fun p3 hp3 => ?_
 have hp3 := uS_four hb hp3
 simp -implicitDefEqProofs (disch := omega) [hvb]
 refine Cp.callT (Rest_lv k b p3 (by omega) (by omega) _) (fun _ => ⟨_, by simp -implicitDefEqProofs (disch := omega) [hvb], hx⟩) fun sl hsl => ?_
 have lsl := restS_len hsl
 have hent := fun H' => Entries_run k hk m hok.elen H'
 have hes : ∀ e, e ∈ m.ents → (0 ≤ e.a ∧ e.a < 65536) ∧ 0 ≤ e.flags ∧ e.flags < 65536 := fun e he => by have := hok.ent e he; omega
 have hx2 : Ext H ((H.push ⟨[lv encB b], 1, false⟩).push ⟨[machV m, lv encB sa, lv encB sc, lv encB sl], 1, false⟩) := hx.push _
 have hpg : ((H.push ⟨[lv encB b], 1, false⟩).push ⟨[machV m, lv encB sa, lv encB sc, lv encB sl], 1, false⟩).get (H.n + 1) = some ⟨[machV m, lv encB sa, lv encB sc, lv encB sl], 1, false⟩ := get_push_eq _ _ _ (by simp)
 simp -implicitDefEqProofs (disch := omega) [hvb, hent]
 rcases ligaTake_l1 k (hb.rest hsa) (by omega) hes (by have := hok.elen; omega) hpg with ⟨z, H2, e2, hx3, hall⟩ | ⟨H2, e2, hx3, hall⟩
 ·rw [if_pos (List.all_eq_true.1 hall)]
  simp -implicitDefEqProofs (disch := omega) [e2, liga_Take_l1k_x0]
  refine .ok (hx2.trans hx3) ?_
  exact ⟨_, fz_box (by omega) (hx3.get hpg) (mapF_cons (v := machV m) (u := machV m) (L1 := []) rfl (mapF_cons (v := lv encB sa) (u := lv encB sa) (L1 := []) rfl (mapF_cons (v := lv encB sc) (u := lv encB sc) (L1 := []) rfl (mapF_one (v := lv encB sl) (u := lv encB sl) (L := []) rfl))))⟩
 ·rw [if_neg (fun hc => by rw [List.all_eq_true.2 hc] at hall; cases hall)]
  simp -implicitDefEqProofs (disch := omega) [e2]
  exact ⟨H2, rfl, hx2.trans hx3⟩
end Go.Sw
end
section
namespace Go.Sw
open Go.RowKit
def ligaP (o : Option LTab) : Value := match o with | some t => ligaV t | none => .pointer none
theorem ligaP_flat (o : Option LTab) : Flat (ligaP o) := by
 cases o with
 | none => exact .nilPtr
 | some t => exact Flat.liga t
theorem liga_in1_run (k : Nat) {H : Heap} (b : List Int) (hb : Byt b) (g : Int) (hg : 1 ≤ g ∧ g ≤ 65535) (hl : b.length < 2 ^ 31) (p2 p3 p4 : Nat) (old : Value)
  (h2 : H.get p2 = some ⟨[lv encB b], 1, false⟩) (h3 : H.get p3 = some ⟨[.int .i64 g], 1, false⟩) (h4 : H.get p4 = some ⟨[old], 1, false⟩) (ht : ∀ H', R (T k) F.liga_Take [vwB b, .int .i64 g] H' = orF (ligaS b g) ligaV H') :
  R (T k) F.liga_Read_in1 [ptrV p2, ptrV p3, ptrV p4] H = match ligaS b g with
   | some t => .ok (.tuple #[]) (H.set p4 (some ⟨[ligaV t], 1, false⟩))
   | none => .panic failV H := by
 rw [liga_Read_in1_R]
 have ht := ht H
 cases h : ligaS b g with
 | none =>
  rw [h] at ht
  refine nrm_throw ⟨H, ?_, Ext.refl H⟩ Flat.fail.alive
  simp -implicitDefEqProofs (disch := omega) [liga_Read_in1, h2, h3, ht]
 | some x =>
  rw [h] at ht
  simp -implicitDefEqProofs (disch := omega) [liga_Read_in1, h2, h3, h4, ht]
def ligaO (b : List Int) (g : Int) : Option LTab := if 1 ≤ g ∧ g ≤ 65535 then ligaS b g else none
def ligaN (b : List Int) (g : Int) : Int := if 1 ≤ g ∧ g ≤ 65535 then (if (ligaS b g).isSome then 0 else 2) else 1
theorem ligaRead_run (k : Nat) {H : Heap} {v : Value} {b : List Int} (hv : Sl H 1 v encB b) (hb : Byt b) (g : Int) (hl : b.length ≤ 2 ^ 30) (ht : (1 ≤ g ∧ g ≤ 65535) → ∀ H', R (T k) F.liga_Take [vwB b, .int .i64 g] H' = orF (ligaS b g) ligaV H') :
  R (T k) F.liga_Read [v, .int .i64 g] H = .ok (.tuple #[ligaP (ligaO b g), .int .i64 (ligaN b g)]) H := by
 rw [liga_Read_R]
 have hx2 := (Ext.refl H).push ⟨[.int .i64 g], 1, false⟩
 have al : ∀ o n, Alive H (.tuple #[ligaP o, .int .i64 n]) := fun o n => (Flat.tupleL (l := [ligaP o, .int .i64 n]) (.cons (ligaP_flat o) (.cons (.int _ _) .nil))).alive
 have fz : ∀ H' o n, fzV H.n H' fzDepth (.tuple #[ligaP o, .int .i64 n]) = some (.tuple #[ligaP o, .int .i64 n], []) := fun H' o n => by
  cases o <;> rfl
 by_cases hgg : 1 ≤ g ∧ g ≤ 65535
 ·have c1 : ¬ g < 1 := by omega
  have c2 : ¬ g > 65535 := by omega
  have hx3 := hx2.push ⟨[.pointer none], 1, false⟩
  have o3 := Of_run k (hv.up hx3)
  have by3 := Bytes_run k (hv.up hx3) hl
  have o4 := fun H => Of_lv k b H
  have hin := liga_in1_run k (H := ((H.push ⟨[.int .i64 g], 1, false⟩).push ⟨[.pointer none], 1, false⟩).push ⟨[lv encB b], 1, false⟩) b hb g hgg (by omega) (H.n + 2) H.n (H.n + 1) (.pointer none) (by simp) (by simp) (by simp) (ht hgg)
  cases hlk : ligaS b g with
  | none =>
   rw [hlk] at hin
   have ht := Try_no k F.liga_Read_in1 #[ptrV (H.n + 2), ptrV H.n, ptrV (H.n + 1)] hin
   refine nrm_fz (H' := ((H.push ⟨[.int .i64 g], 1, false⟩).push ⟨[.pointer none], 1, false⟩).push ⟨[lv encB b], 1, false⟩) (v := .tuple #[ligaP none, .int .i64 2]) ?_ (by unfold ligaO ligaN; rw [if_pos hgg, if_pos hgg, hlk]; exact fz _ _ _) (hx3.push _) (al _ _)
   simp -implicitDefEqProofs (disch := omega) [liga_Read, c1, c2, o3, by3, o4, ht, ligaP]
  | some x =>
   rw [hlk] at hin
   have ht := Try_ok k F.liga_Read_in1 #[ptrV (H.n + 2), ptrV H.n, ptrV (H.n + 1)] hin
   refine nrm_fz (H' := ((H.push ⟨[.int .i64 g], 1, false⟩).push ⟨[ligaV x], 1, false⟩).push ⟨[lv encB b], 1, false⟩) (v := .tuple #[ligaP (some x), .int .i64 0]) ?_ (by unfold ligaO ligaN; rw [if_pos hgg, if_pos hgg, hlk]; exact fz _ _ _) ((hx2.push _).push _) (al _ _)
   simp at ht
   simp -implicitDefEqProofs (disch := omega) [liga_Read, c1, c2, o3, by3, o4, ht, ligaP]
 ·refine nrm_fz (H' := (H.push ⟨[.int .i64 g], 1, false⟩).push ⟨[.pointer none], 1, false⟩) (v := .tuple #[ligaP none, .int .i64 1]) ?_ (by unfold ligaO ligaN; rw [if_neg hgg, if_neg hgg]; exact fz _ _ _) (hx2.push _) (al _ _)
  by_cases c1 : g < 1
  ·simp -implicitDefEqProofs (disch := omega) [liga_Read, c1, ligaP]
  ·have c2 : g > 65535 := by omega
   simp -implicitDefEqProofs (disch := omega) [liga_Read, c1, c2, ligaP]
end Go.Sw
end
section
namespace Go.Sw
open Go.RowKit
end Go.Sw
end
section
namespace Go.Sw
open Go.RowKit
end Go.Sw
end
section
set_option maxRecDepth 100000
set_option linter.unusedVariables false
namespace Go.Sw
noncomputable section
end
end Go.Sw
end
section
namespace Go.Sw
open Go.RowKit
end Go.Sw
end
section
namespace Go.Sw
open Go.RowKit
end Go.Sw
end
section
namespace Go.Sw
open Go.RowKit
end Go.Sw
end
section
namespace Go.Sw
open Go.RowKit
variable {σ : Type}
end Go.Sw
end
section
namespace Go.Sw
open Go.RowKit
end Go.Sw
end
section
namespace Go.Sw
open Go.RowKit
end Go.Sw
end
section
namespace Go.Sw
open Go.RowKit
end Go.Sw
end
section
set_option maxRecDepth 100000
set_option linter.unusedVariables false
namespace Go.Sw
noncomputable section
end
end Go.Sw
end
section
namespace Go.Sw
open Go.RowKit
end Go.Sw
end
section
namespace Go.Sw
open Go.RowKit
theorem encI_rows : ∀ l : List Int, rows encI l = l.map (Value.int .i64)
 | [] => rfl
 | a :: l => by rw [List.map_cons, ← encI_rows l]; rfl
end Go.Sw
end
section
namespace Go.Sw
open Go.RowKit
end Go.Sw
end
section
namespace Go.Sw
open Go.RowKit
end Go.Sw
end
section
namespace Go.Sw
open Go.RowKit
end Go.Sw
end
section
namespace Go.Sw
open Go.RowKit
end Go.Sw
end
section
namespace Go.Sw
open Go.RowKit
structure CPlan where
 m : Plan
 subs : List (List Int)
def CPlan.ok (p : CPlan) : Prop := (p.m.ok ∧ p.subs.length < 2 ^ 63) ∧ ∀ s, s ∈ p.subs → ∀ n, n ∈ s → 0 ≤ n ∧ n < 65536
def CSmall (p : CPlan) (n : Nat) : Prop := (∀ s, s ∈ p.subs → s.length ≤ 60) ∧ p.m.cls.length ≤ 40 ∧ p.m.rows.length ≤ 20 ∧ p.m.ents.length ≤ 40 ∧ p.subs.length ≤ 20 ∧ n ≤ 60
instance (p : CPlan) (n : Nat) : Decidable (CSmall p n) := by unfold CSmall; infer_instance
end Go.Sw
end
section
namespace Go.Sw
open Go.RowKit
end Go.Sw
end
section
namespace Go.Sw
open Go.RowKit
theorem Sl.blk {α : Type} {enc : α → List Value} {H : Heap} {m b : Nat} {k : Blk} (l : List α) (hg : H.get b = some k) (hk : k.cells = rows enc l) (he : ∀ x, (enc x).length = m) : Sl H m (.slice (some ⟨b, 0, none⟩) l.length l.length) enc l :=
 .inr (.inr ⟨b, 0, _, _, rfl, Nat.le_refl _, hg, by rw [List.drop_zero, hk, List.take_of_length_le (by rw [rows_length he]; exact Nat.le_refl _)]⟩)
end Go.Sw
end
section
namespace Go.Sw
open Go.RowKit
def LPv (H : Heap) (c : Nat) (ob : Option Nat) (v : Value) (ps : List Int) : Prop :=
 (ob = none ∧ ps = [] ∧ v = .slice none 0 0) ∨ ∃ b off cap k, ob = some b ∧ b ≠ c ∧ v = .slice (some ⟨b, off, none⟩) ps.length cap ∧ ps.length ≤ cap ∧ H.get b = some k ∧ k.esz = 1 ∧ k.ro = false ∧ off + cap ≤ k.cells.length ∧ (k.cells.drop off).take ps.length = rows encI ps.reverse
theorem LPv.up {H H' : Heap} {c : Nat} {ob : Option Nat} {v : Value} {ps : List Int} (h : LPv H c ob v ps) (hk : ∀ b, ob = some b → H'.get b = H.get b) : LPv H' c ob v ps := by
 rcases h with h | ⟨b, off, cap, k, h0, h1, h2, h3, h4, h5⟩
 ·exact .inl h
 ·exact .inr ⟨b, off, cap, k, h0, h1, h2, h3, by rw [hk b h0]; exact h4, h5⟩
def itLP (c : Nat) (ob : Option Nat) (ps : List Int) : It :=
 ⟨c :: ob.toList, fun H => ∃ v, H.get c = some ⟨[v], 1, false⟩ ∧ LPv H c ob v ps, fun H H' ⟨v, h1, h2⟩ hk =>
  ⟨v, by rw [hk c (by simp)]; exact h1, h2.up fun b hb => hk b (by simp [hb])⟩⟩
theorem LPv.len {H : Heap} {c : Nat} {ob : Option Nat} {v : Value} {ps : List Int} (h : LPv H c ob v ps) (H' : Heap) : lnS v H' = .ok (.int .i64 ps.length) H' := by
 rcases h with ⟨_, rfl, rfl⟩ | ⟨b, off, cap, k, _, _, rfl, _⟩ <;> rfl
theorem LPv.sl {H : Heap} {c : Nat} {ob : Option Nat} {v : Value} {ps : List Int} (h : LPv H c ob v ps) : Sl H 1 v encI ps.reverse := by
 rcases h with ⟨_, rfl, rfl⟩ | ⟨b, off, cap, k, _, _, rfl, h3, h4, _, _, _, h5⟩
 ·exact Sl.nil _ _
 ·exact .inr (.inr ⟨b, off, cap, k, by rw [List.length_reverse], by rw [List.length_reverse]; exact h3, h4, by rw [List.length_reverse, Nat.mul_one]; exact h5⟩)
theorem LPv.pop {H : Heap} {c : Nat} {ob : Option Nat} {v : Value} {i : Int} {ps : List Int} (h : LPv H c ob v (i :: ps)) : ∃ b off cap, ob = some b ∧ v = .slice (some ⟨b, off, none⟩) (ps.length + 1) cap ∧ (∀ H', (H'.get b).map (fun k => k.esz) = some 1 → slS 1 v none (some (.int .i64 ps.length)) none H' = .ok (.slice (some ⟨b, off, none⟩) ps.length cap) H') ∧ LPv H c ob (.slice (some ⟨b, off, none⟩) ps.length cap) ps := by
 rcases h with ⟨_, h, _⟩ | ⟨b, off, cap, k, h0, h1, rfl, h3, h4, h5, h6, h7, h8⟩
 ·cases h
 ·rw [List.length_cons] at h3 h8 ⊢
  refine ⟨b, off, cap, h0, rfl, fun H' hg => ?_, .inr ⟨b, off, cap, k, h0, h1, rfl, by omega, h4, h5, h6, h7, ?_⟩⟩
  ·have hb : boundOf (some (.int .i64 (ps.length : Int))) (ps.length + 1) = some ps.length := by simp [boundOf]
   unfold slS
   dsimp only
   rw [hb]
   simp only [boundOf]
   have ho : openOk H' b 1 none = true := by
    unfold openOk
    cases hh : H'.get b with
    | none => rw [hh] at hg; cases hg
    | some k' =>
     rw [hh] at hg
     have : k'.esz = 1 := by simpa using hg
     simp [this]
   rw [if_pos ⟨by omega, by omega, by omega, by simp⟩, if_pos ho]
   simp
  ·have := congrArg (List.take ps.length) h8
   rw [encI_rows, List.reverse_cons, List.map_append, List.take_take, List.take_left' (by simp), Nat.min_eq_left (by omega)] at this
   rw [encI_rows]
   exact this
theorem ligaPop_star (k : Nat) {H0 H : Heap} {L : List It} (g : Star H0 H L) (n : Nat) {c : Nat} {ob : Option Nat} {ps : List Int} (hps : ps.length ≤ 1000) (hi : L[n]? = some (itLP c ob ps)) :
  ∃ H', R (T k) F.liga_places_pop [ptrV c] H = .ok (.tuple #[.int .i64 (ps.head?.getD 0), .bool (!ps.isEmpty)]) H' ∧ Star H0 H' (L.set n (itLP c ob ps.tail)) := by
 obtain ⟨v, h1, h2⟩ := g.at n hi
 rw [liga_places_pop_R]
 cases ps with
 | nil =>
  refine ⟨H, nrm_of ?_, ?_⟩
  ·have hl := h2.len
   have hl : ∀ H', lnS v H' = .ok (.int .i64 0) H' := hl
   simp -implicitDefEqProofs (disch := omega) [liga_places_pop, h1, hl]
  ·exact g.step n hi (Nat.le_refl _) (fun _ _ _ => rfl) _ ⟨v, h1, h2⟩ fun b hb => .inl hb
 | cons i ps =>
  have hl := h2.len
  have hl : ∀ H', lnS v H' = .ok (.int .i64 ((ps.length : Int) + 1)) H' := hl
  obtain ⟨p, i1, i2⟩ := h2.sl.ix1 encI_len ps.length i (by rw [List.reverse_cons, List.getElem?_append_right (by simp)]; simp) _ rfl
  have i2 := i2 H (Ext.refl _)
  obtain ⟨b, off, cap, hob, rfl, hs, h3⟩ := h2.pop
  have hbk : ∃ k', H.get b = some k' ∧ k'.esz = 1 ∧ b ≠ c := by
   rcases h3 with ⟨_, _, hh⟩ | ⟨b', off', cap', k', e0, e1, e2, e3, e4, e5, _⟩
   ·cases hh
   ·rw [hob] at e0
    injection e0 with e0
    subst e0
    exact ⟨k', e4, e5, e1⟩
  obtain ⟨k', hk', hk1, hbc⟩ := hbk
  have hs := hs H (by rw [hk']; simp [hk1])
  have hw : IntKind.i64.wrap (ps.length : Int) = ps.length := by
   rw [List.length_cons] at hps
   exact wrap_i64 (by omega) (by omega)
  refine ⟨H.set c (some ⟨[.slice (some ⟨b, off, none⟩) ps.length cap], 1, false⟩), nrm_of ?_, ?_⟩
  ·rw [List.length_cons] at hps
   have hne : ((ps.length : Int) + 1 == 0) = false := by rw [beq_eq_false_iff_ne]; omega
   simp -implicitDefEqProofs (disch := omega) [liga_places_pop, h1, hl, hne, hw, i1, i2, hs]
  ·have hP : (itLP c ob ps).P (H.set c (some ⟨[.slice (some ⟨b, off, none⟩) ps.length cap], 1, false⟩)) := ⟨_, by rw [Heap.get_set h1, if_pos rfl], h3.up fun b' hb' => by
     rw [hob] at hb'
     injection hb' with hb'
     subst hb'
     rw [Heap.get_set h1, if_neg hbc]⟩
   exact g.step (H' := H.set c (some ⟨[.slice (some ⟨b, off, none⟩) ps.length cap], 1, false⟩)) n hi (by simp) (fun d _ hd => by
    rw [Heap.get_set h1, if_neg (fun h => hd (by subst h; simp [itLP]))]) (itLP c ob ps) hP fun d hd => .inl hd
theorem LPv.append {H : Heap} {c : Nat} {ob : Option Nat} {v : Value} {ps : List Int} (h : LPv H c ob v ps) (hl : ps.length ≤ 1000) (hc : c < H.n) (hob : ∀ b, ob = some b → b < H.n) (i : Int) :
  ∃ H', apR 1 8 v (.slice (some ⟨H.n, 0, none⟩) 1 1) (H.push ⟨[.int .i64 i], 1, false⟩) = .ok (.slice (some ⟨H.n + 1, 0, none⟩) (ps.length + 1) (ps.length + 1)) H' ∧ H'.n = H.n + 2 ∧ (∀ d, d < H.n → ob ≠ some d → H'.get d = H.get d) ∧
   LPv H' c (some (H.n + 1)) (.slice (some ⟨H.n + 1, 0, none⟩) (ps.length + 1) (ps.length + 1)) (i :: ps) := by
 have hf : firstV 1 1 (.slice (some ⟨H.n, 0, none⟩) 1 1) (H.push ⟨[.int .i64 i], 1, false⟩) = some [.int .i64 i] := by
  have := (Sl.first (enc := encI) (m := 1) encI_len (Sl.blk (enc := encI) (m := 1) [i] (get_push_eq _ _ _ rfl : (H.push ⟨[.int .i64 i], 1, false⟩).get H.n = _) rfl encI_len))
  exact this
 have hlv : lenV (.slice (some ⟨H.n, 0, none⟩) 1 1) = some 1 := rfl
 rcases h with ⟨rfl, rfl, rfl⟩ | ⟨b, off, cap, k, rfl, h1, rfl, h3, h4, h5, h6, h7, h8⟩
 ·refine ⟨(H.push ⟨[.int .i64 i], 1, false⟩).push ⟨[.int .i64 i], 1, false⟩, ?_, by simp, fun d hd _ => by rw [get_push_lt _ _ _ (by simp; omega), get_push_lt _ _ _ hd], .inr ⟨H.n + 1, 0, 1, ⟨[.int .i64 i], 1, false⟩, rfl, by omega, rfl, by simp, get_push_eq _ _ _ (by simp), rfl, rfl, by simp, rfl⟩⟩
  unfold apR
  simp only [hlv]
  unfold appendK
  rw [if_neg (by decide), if_pos ⟨by decide, by decide, rfl⟩, hf]
  rfl
 ·have hb : b < H.n := hob b rfl
  have hg : (H.push ⟨[.int .i64 i], 1, false⟩).get b = some k := by rw [get_push_lt _ _ _ hb]; exact h4
  refine ⟨((H.push ⟨[.int .i64 i], 1, false⟩).set b none).push ⟨((k.cells.drop off).take (ps.length * 1)) ++ [.int .i64 i], 1, false⟩, ?_, by simp, fun d hd hne => ?_, .inr ⟨H.n + 1, 0, ps.length + 1, ⟨((k.cells.drop off).take (ps.length * 1)) ++ [.int .i64 i], 1, false⟩, rfl, by omega, rfl, by simp, get_push_eq _ _ _ (by simp), rfl, rfl, ?_, ?_⟩⟩
  ·unfold apR
   simp only [hlv]
   unfold appendK
   rw [if_neg (by decide), if_pos ⟨by omega, by decide, rfl⟩, hf]
   simp only [hg]
   rw [if_pos (by simp [h5, h6]; omega)]
   simp
  ·rw [get_push_lt _ _ _ (by simp; omega), get_set_ne _ _ _ _ (fun e => hne (by rw [e])), get_push_lt _ _ _ hd]
  ·simp
   omega
  ·rw [Nat.mul_one, h8, List.drop_zero, List.take_of_length_le (by rw [encI_rows]; simp), List.reverse_cons, encI_rows, encI_rows, List.map_append]
   rfl
theorem LPv.tail {H : Heap} {c b off m cap : Nat} {l : List Int} (h : LPv H c (some b) (.slice (some ⟨b, off, none⟩) (m + 1) cap) l) (hl : l.length = m + 1) :
  slS 1 (.slice (some ⟨b, off, none⟩) (m + 1) cap) (some (.int .i64 1)) none none H = .ok (.slice (some ⟨b, off + 1, none⟩) m (cap - 1)) H ∧ LPv H c (some b) (.slice (some ⟨b, off + 1, none⟩) m (cap - 1)) (l.take m) := by
 rcases h with ⟨h, _⟩ | ⟨b', off', cap', k, h0, h1, h2, h3, h4, h5, h6, h7, h8⟩
 ·cases h
 ·injection h0 with h0
  subst h0
  injection h2 with e1 e2 e3
  injection e1 with e1
  injection e1 with _ e4
  subst e3 e4
  have hb : boundOf (some (.int .i64 1)) 0 = some 1 := by simp [boundOf]
  refine ⟨?_, .inr ⟨b, off + 1, cap - 1, k, rfl, h1, by rw [List.length_take, Nat.min_eq_left (by omega)], by rw [List.length_take]; omega, h4, h5, h6, by omega, ?_⟩⟩
  ·unfold slS
   dsimp only
   rw [hb]
   simp only [boundOf]
   rw [if_pos ⟨by omega, by omega, by omega, by simp⟩, if_pos (by unfold openOk; rw [h4]; simp [h5])]
   simp
  ·rw [hl] at h8
   have := congrArg (List.drop 1) h8
   rw [List.drop_take, List.drop_drop, show m + 1 - 1 = m by omega] at this
   rw [List.length_take, Nat.min_eq_left (by omega), this, encI_rows, encI_rows, List.drop_one]
   have hne : l ≠ [] := fun h => by rw [h] at hl; simp at hl
   have : l.take m = l.dropLast := by rw [List.dropLast_eq_take, hl]; rfl
   rw [this, List.map_reverse, List.map_reverse, List.tail_reverse, List.map_dropLast]
set_option maxHeartbeats 1000000 in
theorem ligaPush_star (k : Nat) {H0 H : Heap} {L : List It} (g : Star H0 H L) (n : Nat) {c : Nat} {ob : Option Nat} {ps : List Int} (hps : ps.length ≤ 64) (hi : L[n]? = some (itLP c ob ps)) (i : Int) :
  ∃ ob' H', R (T k) F.liga_places_push [ptrV c, .int .i64 i] H = .ok (.tuple #[]) H' ∧ Star H0 H' (L.set n (itLP c ob' (pushP i ps))) := by
 obtain ⟨v, h1, h2⟩ := g.at n hi
 have hown := g.lt n hi
 have hcn := Heap.get_lt h1
 have hl := h2.len
 rw [liga_places_push_R]
 have hlast : ∀ j, ps.head? = some j → ∃ p, (∀ H', ixS 1 v (.int .i64 ((ps.length : Int) - 1)) H' = .ok p H') ∧ ld1 p H = .ok (.int .i64 j) H := by
  intro j hj
  cases ps with
  | nil => cases hj
  | cons a ps =>
   injection hj with hj
   subst hj
   obtain ⟨p, i1, i2⟩ := h2.sl.ix1 encI_len ps.length a (by rw [List.reverse_cons, List.getElem?_append_right (by simp)]; simp) _ rfl
   exact ⟨p, fun H' => by rw [show (((a :: ps).length : Nat) : Int) - 1 = (ps.length : Int) by rw [List.length_cons]; omega]; exact i1 _ _, i2 H (Ext.refl _)⟩
 by_cases hhead : ps.head? = some i
 ·refine ⟨ob, H, nrm_of ?_, ?_⟩
  ·obtain ⟨p, i1, i2⟩ := hlast i hhead
   have hpos : 0 < ps.length := by
    cases ps with
    | nil => cases hhead
    | cons a ps => rw [List.length_cons]; omega
   simp -implicitDefEqProofs (disch := omega) [liga_places_push, h1, hl, hpos, i1, i2]
  ·have : pushP i ps = ps := by unfold pushP; rw [if_pos hhead]
   rw [this]
   exact g.step n hi (Nat.le_refl _) (fun _ _ _ => rfl) _ ⟨v, h1, h2⟩ fun b hb => .inl hb
 ·have hpp : pushP i ps = (i :: ps).take 64 := by unfold pushP; rw [if_neg hhead]
  obtain ⟨H1, e1, hn1, hk1, h3⟩ := h2.append (by omega) hcn (fun b hb => (hown b (by subst hb; simp [itLP])).2) i
  have hoc : ob ≠ some c := by
   rcases h2 with ⟨rfl, _⟩ | ⟨b, _, _, _, rfl, hbc, _⟩
   ·simp
   ·exact fun h => hbc (by injection h)
  have h1' : H1.get c = some ⟨[v], 1, false⟩ := by rw [hk1 c hcn hoc]; exact h1
  have hs1 : (H1.get c).isSome = true := by rw [h1']; rfl
  have hcne : ¬ H.n + 1 = c := by omega
  have h3' : LPv (H1.set c (some ⟨[.slice (some ⟨H.n + 1, 0, none⟩) (ps.length + 1) (ps.length + 1)], 1, false⟩)) c (some (H.n + 1)) (.slice (some ⟨H.n + 1, 0, none⟩) (ps.length + 1) (ps.length + 1)) (i :: ps) := h3.up fun b hb => by
   injection hb with hb
   subst hb
   exact get_set_ne _ _ _ _ hcne
  have hhd : (0 < ps.length) → ∃ j p, (∀ H', ixS 1 v (.int .i64 ((ps.length : Int) - 1)) H' = .ok p H') ∧ ld1 p H = .ok (.int .i64 j) H ∧ (j == i) = false := fun hp => by
   cases hps' : ps with
   | nil => rw [hps'] at hp; simp at hp
   | cons a qs =>
    rw [hps'] at hhead hlast
    obtain ⟨p, i1, i2⟩ := hlast a rfl
    exact ⟨a, p, i1, i2, by rw [beq_eq_false_iff_ne]; intro h; exact hhead (by rw [h]; rfl)⟩
  have fin : ∀ (X : Heap) (w : Value), X.n = H1.n → (∀ d, d < H.n → d ≠ c → X.get d = H1.get d) → (∃ k', X.get c = some ⟨[w], 1, false⟩ ∧ k' = w) → LPv X c (some (H.n + 1)) w ((i :: ps).take 64) → Star H0 X (L.set n (itLP c (some (H.n + 1)) (pushP i ps))) := fun X w hXn hX ⟨_, hXc, _⟩ hL => by
   rw [hpp]
   have hP : (itLP c (some (H.n + 1)) ((i :: ps).take 64)).P X := ⟨w, hXc, hL⟩
   exact g.step (H' := X) n hi (by omega) (fun d hd hdx => by
    have hdc : d ≠ c := fun h => hdx (by subst h; simp [itLP])
    rw [hX d hd hdc, hk1 d hd (fun h => hdx (by rw [h]; simp [itLP]))]) _ hP fun b hb => by
     have hb : b = c ∨ b = H.n + 1 := by simpa [itLP] using hb
     rcases hb with rfl | rfl
     ·exact .inl (by simp [itLP])
     ·exact .inr ⟨by omega, by omega⟩
  have hw1 : (i :: ps).length = ps.length + 1 := rfl
  by_cases h64 : ps.length = 64
  ·rw [h64] at h3' e1
   obtain ⟨t1, t2⟩ := h3'.tail (by rw [hw1, h64])
   refine ⟨some (H.n + 1), (H1.set c (some ⟨[.slice (some ⟨H.n + 1, 0 + 1, none⟩) 64 (64 + 1 - 1)], 1, false⟩)), nrm_of ?_, ?_⟩
   ·have hp : 0 < ps.length := by omega
    obtain ⟨j, p, i1, i2, hji⟩ := hhd hp
    rw [h64] at hl i1
    have hl : ∀ H', lnS v H' = .ok (.int .i64 64) H' := hl
    have i1 : ∀ H', ixS 1 v (.int .i64 63) H' = .ok p H' := i1
    simp -implicitDefEqProofs (disch := omega) [liga_places_push, h1, hl, i1, i2, hji, e1, h1', hs1, t1]
   ·exact fin _ _ (by simp) (fun d hd hdc => get_set_ne _ _ _ _ hdc) ⟨_, by rw [get_set_eq _ _ _ (by rw [h1']; rfl)], rfl⟩ (t2.up fun b hb => by
     injection hb with hb
     subst hb
     rw [get_set_ne _ _ _ _ hcne, get_set_ne _ _ _ _ hcne])
  ·have h65 : ¬ (ps.length : Int) + 1 > 64 := by omega
   have ht : (i :: ps).take 64 = i :: ps := List.take_of_length_le (by rw [hw1]; omega)
   refine ⟨some (H.n + 1), (H1.set c (some ⟨[.slice (some ⟨H.n + 1, 0, none⟩) (ps.length + 1) (ps.length + 1)], 1, false⟩)), nrm_of ?_, ?_⟩
   ·by_cases hp : 0 < ps.length
    ·obtain ⟨j, p, i1, i2, hji⟩ := hhd hp
     simp -implicitDefEqProofs (disch := omega) [liga_places_push, h1, hl, hp, i1, i2, hji, e1, h1', hs1, h65]
    ·simp -implicitDefEqProofs (disch := omega) [liga_places_push, h1, hl, hp, e1, h1', hs1, h65]
   ·exact fin _ _ (by simp) (fun d hd hdc => get_set_ne _ _ _ _ hdc) ⟨_, by rw [get_set_eq _ _ _ (by rw [h1']; rfl)], rfl⟩ (by rw [ht]; exact h3')
end Go.Sw
end
section
namespace Go.Sw
open Go.RowKit
theorem viewLen_run (k : Nat) (b : List Int) (H : Heap) : R (T k) F.view_View_Len [vwB b] H = .ok (.int .i64 b.length) H := by
 rw [view_View_Len_R]
 have hx : Ext H (H.push ⟨[lv encB b], 1, false⟩) := (Ext.refl H).push _
 refine nrm_gc ⟨_, ?_, hx⟩ (.int _ _)
 simp -implicitDefEqProofs (disch := omega) [view_View_Len]
theorem ligaEntry_run (k : Nat) (b : List Int) (hb : Byt b) (hl : b.length < 2 ^ 31) (i : Int) (H : Heap) :
  R (T k) F.liga_entry [vwB b, .int .i64 i] H = .ok (.tuple #[.int .i64 ((entryS b i).getD 0), .bool (entryS b i).isSome]) H := by
 rw [liga_entry_R]
 have hx : Ext H (H.push ⟨[lv encB b], 1, false⟩) := (Ext.refl H).push _
 have hlen := fun H' => viewLen_run k b H'
 have q1 := fun H => bin_quo Prog 3 H .i64 b.length 2 (by decide)
 rw [Int.tdiv_eq_ediv_of_nonneg (by omega)] at q1
 have fl : ∀ n x, Flat (.tuple #[.int .i64 n, .bool x]) := fun n x => Flat.tupleL (l := [.int .i64 n, .bool x]) (.cons (.int _ _) (.cons (.bool _) .nil))
 unfold entryS
 by_cases c1 : i < 0
 ·rw [if_neg (by omega)]
  refine nrm_gc ⟨_, ?_, hx⟩ (fl _ _).alive
  simp -implicitDefEqProofs (disch := omega) [liga_entry, c1]
 by_cases c2 : i ≥ (b.length : Int) / 2
 ·rw [if_neg (by omega)]
  refine nrm_gc ⟨_, ?_, hx⟩ (fl _ _).alive
  simp -implicitDefEqProofs (disch := omega) [liga_entry, c1, hlen, q1, c2]
 rw [if_pos (by omega)]
 have hu := fun H' => U16_run k (H := H') (Sl.lv H' 1 b) hb (2 * i) (by omega)
 obtain ⟨x, hx2⟩ : ∃ x, uS b (2 * i) 2 = some x := uS_of_in (by unfold inS; rw [decide_eq_true_eq]; omega)
 rw [hx2] at hu
 have hg := gU_some hx2
 refine nrm_gc ⟨_, ?_, hx⟩ (fl _ _).alive
 simp -implicitDefEqProofs (disch := omega) [liga_entry, c1, hlen, q1, c2, hu, orF, hg]
theorem off_shl (P : Program) (t : TypeId) (H : Heap) (a : Int) : binR P .shl t (.int .u32 a) (.int .u64 2) H = .ok (.int .u32 (IntKind.u32.wrap (a * 4))) H := by
 rfl
theorem off_shr (P : Program) (t : TypeId) (H : Heap) (a : Int) : binR P .shr t (.int .i64 a) (.int .u64 2) H = .ok (.int .i64 (a / 4)) H := by
 have h : a / 4 = a.fdiv 4 := (Int.fdiv_eq_ediv_of_nonneg a (by decide)).symm
 rw [h]
 rfl
theorem ligaOffset_run (k : Nat) (a : Int) (h0 : 0 ≤ a) (h1 : a < 4294967296) (H : Heap) : R (T k) F.liga_offset [.int .i64 a] H = .ok (.int .i64 (offS a)) H := by
 rw [liga_offset_R]
 refine nrm_gc ⟨_, ?_, Ext.refl H⟩ (.int _ _)
 simp -implicitDefEqProofs (disch := omega) [liga_offset, off_shl, off_shr]
 unfold offS IntKind.wrap
 simp [IntKind.signed, IntKind.bits]
 split <;> omega
end Go.Sw
end
section
namespace Go.Sw
open Go.RowKit
theorem set_same {L : List It} {i : Nat} {a : It} (h : L[i]? = some a) : L.set i a = L := by
 apply List.ext_getElem?
 intro j
 by_cases hj : i = j
 ·subst hj
  rw [List.getElem?_set_self (List.getElem?_eq_some_iff.1 h).1, h]
 ·rw [List.getElem?_set_ne hj]
end Go.Sw
end
section
namespace Go.Sw
open Go.RowKit
theorem and_high (n : Nat) (h : n < 2 ^ 32) : n &&& 3221225472 = n / 1073741824 * 1073741824 := by
 have e : n / 1073741824 * 1073741824 = (n >>> 30) <<< 30 := by rw [Nat.shiftLeft_eq, Nat.shiftRight_eq_div_pow]
 rw [e]
 apply Nat.eq_of_testBit_eq
 intro j
 rw [Nat.testBit_and, Nat.testBit_shiftLeft, Nat.testBit_shiftRight, show (3221225472 : Nat) = 3 <<< 30 by rfl, Nat.testBit_shiftLeft]
 by_cases h1 : j ≥ 30
 ·rw [show 30 + (j - 30) = j by omega]
  by_cases h2 : j < 32
  ·have : j = 30 ∨ j = 31 := by omega
   have e1 : Nat.testBit 3 1 = true := by decide
   rcases this with rfl | rfl
   ·simp
   ·simp [e1]
  ·rw [Nat.testBit_lt_two_pow (Nat.lt_of_lt_of_le h (Nat.pow_le_pow_right (by decide) (by omega)))]
   simp
 ·simp [h1]
theorem and3031 (P : Program) (t : TypeId) (H : Heap) {a : Int} (h0 : 0 ≤ a) (h1 : a < 4294967296) : binR P .and t (.int .i64 a) (.int .i64 3221225472) H = .ok (.int .i64 (a / 1073741824 * 1073741824)) H := by
 obtain ⟨n, rfl⟩ := Int.eq_ofNat_of_zero_le h0
 have e : (BitVec.ofInt 64 (n : Int) &&& BitVec.ofInt 64 3221225472).toNat = n / 1073741824 * 1073741824 := by
  rw [BitVec.toNat_and, BitVec.toNat_ofInt, BitVec.toNat_ofInt]
  rw [show (((n : Int)) % ((2 ^ 64 : Nat) : Int)).toNat = n by omega, show ((3221225472 : Int) % ((2 ^ 64 : Nat) : Int)).toNat = 3221225472 from by decide, and_high n (by omega)]
 have e1 : binV P .and t (.int .i64 (n : Int)) (.int .i64 3221225472) = some (.int .i64 (IntKind.i64.wrap (BitVec.ofInt 64 (n : Int) &&& BitVec.ofInt 64 3221225472).toNat)) := rfl
 unfold binR
 rw [e1, e, wrap_i64 (by omega) (by omega)]
 rfl
theorem last_next {vs : List Int} (hb : Byt vs) {a : Int} (h0 : 0 ≤ a) (h : lastB vs a = true) : ∃ x, uS vs (4 * a) 4 = some x ∧ gU vs (4 * a) 4 = x ∧ 0 ≤ x ∧ x < 4294967296 ∧ 4 * a + 4 ≤ vs.length ∧ (¬ x ≥ 2147483648 → lastB vs (a + 1) = true) := by
 obtain ⟨i, i1, i2, i3⟩ := lastB_iff.1 h
 obtain ⟨x, hx⟩ : ∃ x, uS vs (4 * a) 4 = some x := uS_of_in (by unfold inS; rw [decide_eq_true_eq]; omega)
 have hxb := uS_four hb hx
 refine ⟨x, hx, gU_some hx, hxb.1, hxb.2, by omega, fun hlt => lastB_iff.2 ⟨i, ?_, i2, i3⟩⟩
 by_cases hia : (i : Int) = a
 ·rw [hia, gU_some hx] at i3
  exact absurd i3 hlt
 ·omega
theorem joinG_out {l : List Gl} {i : Int} (h : ¬ (0 ≤ i ∧ i < l.length)) : ∀ ks : List Int, joinG l i ks = l
 | [] => rfl
 | k :: ks => by
  have : join1 i l k = l := by
   unfold join1
   split
   ·rw [if_neg h]
   ·rfl
  show joinG (join1 i l k) i ks = l
  rw [this]
  exact joinG_out h ks
theorem joinG_snoc (l : List Gl) (i : Int) (ks : List Int) (k : Int) : joinG l i (ks ++ [k]) = join1 i (joinG l i ks) k := by unfold joinG; rw [List.foldl_append]; rfl
theorem delG_snoc (l : List Gl) (ks : List Int) (k : Int) : delG l (ks ++ [k]) = setG (delG l ks) k 65535 := by unfold delG; rw [List.foldl_append]; rfl
set_option maxHeartbeats 1000000 in
theorem lineJoin_star (k : Nat) {H0 H : Heap} {L : List It} (h : Star H0 H L) (il ir : Nat) (hne : il ≠ ir) {c : Nat} {o : Option Nat} {l : List Gl} (hil : L[il]? = some (itLine c o l)) {og : Option Nat} {s : Value} {ks : List Int} (hir : L[ir]? = some (itRow og 1 s encI ks)) (hks : ks.length < 2 ^ 31) (i : Int) :
  ∃ H', R (T k) F.line_Line_Join [ptrV c, .int .i64 i, s] H = .ok (.tuple #[]) H' ∧ Star H0 H' (L.set il (itLine c o (joinG l i ks))) := by
 have hin := lineIn_run k h il hil (Ext.refl H) i
 rw [line_Line_Join_R]
 by_cases hj : 0 ≤ i ∧ i < l.length
 rotate_left
 ·rw [joinG_out hj, set_same hil]
  rw [decide_eq_false hj] at hin
  refine ⟨H, nrm_of ?_, h⟩
  simp -implicitDefEqProofs [line_Line_Join, hin]
 rw [decide_eq_true hj] at hin
 obtain ⟨n, rfl⟩ := Int.eq_ofNat_of_zero_le hj.1
 have hlt := (List.getElem?_eq_some_iff.1 hil).1
 have hlr := (List.getElem?_eq_some_iff.1 hir).1
 have hlen := (h.row ir hir).len
 obtain ⟨xx, e', H1, hr, rfl, rfl, g⟩ := loop_up (body := line_Line_Join_l1 k (R (T k))) ks.length
  (fun j e H' => e = [(0, ptrV c), (1, .int .i64 n), (14, s), (15, .int .i64 ks.length), (16, .int .i64 j)] ∧ Star H0 H' (L.set il (itLine c o (joinG l n (ks.take j)))))
  (fun xx e H' => xx = .exit 0 ∧ e = [(0, ptrV c), (1, .int .i64 n), (14, s), (15, .int .i64 ks.length), (16, .int .i64 ks.length), (17, .bool false)] ∧ Star H0 H' (L.set il (itLine c o (joinG l n ks))))
  (e0 := [(0, ptrV c), (1, .int .i64 n), (14, s), (15, .int .i64 ks.length), (16, .int .i64 0)]) (H0 := H) ⟨rfl, by rw [List.take_zero]; show Star H0 H (L.set il (itLine c o l)); rw [set_same hil]; exact h⟩ (by omega)
  (fun j e H' hj2 ⟨he, g⟩ => by
   subst he
   have hjl : (j : Int) < ks.length := by omega
   obtain ⟨x, hx⟩ : ∃ x, ks[j]? = some x := ⟨_, List.getElem?_eq_getElem hj2⟩
   have hir2 : (L.set il (itLine c o (joinG l n (ks.take j))))[ir]? = some (itRow og 1 s encI ks) := by rw [List.getElem?_set_ne hne]; exact hir
   have hil2 : (L.set il (itLine c o (joinG l n (ks.take j))))[il]? = some (itLine c o (joinG l n (ks.take j))) := List.getElem?_set_self hlt
   obtain ⟨p, i1, i2⟩ := ((g.row ir hir2).sl encI_len).ix1 encI_len j x hx _ rfl
   have i2 := i2 H' (Ext.refl _)
   have hat := lineAt_run k g il hil2 x
   have hjn := joinG_len (n : Int) (ks.take j) l
   rw [take_snoc hx]
   have e2 := joinG_snoc l n (ks.take j) x
   cases hq : atG (joinG l n (ks.take j)) x with
   | none =>
    rw [hq] at hat
    have : joinG l n (ks.take j ++ [x]) = joinG l n (ks.take j) := by rw [e2]; unfold join1; rw [hq]
    rw [this]
    refine .inl ⟨_, H'.push ⟨[.int .i64 0, .int .i64 0], 1, false⟩, ?_, rfl, g.rest ((Ext.refl _).push _)⟩
    rw [line_Line_Join_l1_eq]
    simp -implicitDefEqProofs (disch := omega) [hjl, i1, i2, hat, encA, line_Line_Join_j2_eq]
   | some q =>
    rw [hq] at hat
    have gp := g.push ⟨encG q, 1, false⟩
    have hil3 : (L.set il (itLine c o (joinG l n (ks.take j))) ++ [itBlk H'.n ⟨encG q, 1, false⟩])[il]? = some (itLine c o (joinG l n (ks.take j))) := by rw [List.getElem?_append_left (by simpa using hlt)]; exact hil2
    obtain ⟨y, hy⟩ : ∃ y, (joinG l n (ks.take j))[n]? = some y := ⟨_, List.getElem?_eq_getElem (by omega)⟩
    obtain ⟨_, s3, h1, h2⟩ := gp.box il hil3
    simp at h1
    obtain ⟨b, rfl, hs, hb, ix⟩ := h2.ix .i64 n (by omega)
    have l1 := ld1_row encG_len hb (i := n) (c := 1) hy (by decide) rfl
    obtain ⟨H3, e3, g3, _⟩ := gp.stBox il hil3 encG_len (c := 1) (n := 1) (⟨y.id, min y.cl q.cl⟩ : Gl) (v := .int .i64 (min y.cl q.cl)) hy rfl rfl (by decide) rfl
    have hcn : ¬ c = H'.n := by
     have := (g.lt il hil2 c (by simp [itLine, itBox])).2
     omega
    have hfin : joinG l n (ks.take j ++ [x]) = (joinG l n (ks.take j)).set n ⟨y.id, min y.cl q.cl⟩ := by
     rw [e2]
     unfold join1
     rw [hq]
     dsimp only
     rw [if_pos ⟨by omega, by omega⟩, Int.toNat_natCast, modify_set _ _ _ _ hy]
    have hmin : (if q.cl < y.cl then q.cl else y.cl) = min y.cl q.cl := by rw [Int.min_def]; split <;> split <;> omega
    refine .inl ⟨_, H3, ?_, rfl, ?_⟩
    ·rw [line_Line_Join_l1_eq]
     have gq : (H'.push ⟨encG q, 1, false⟩).get H'.n = some ⟨encG q, 1, false⟩ := get_push_eq _ _ _ rfl
     rw [if_neg hcn] at h1
     simp -implicitDefEqProofs (disch := omega) [-stR_ptr, stR_ptr 2 H'.n 0, -ld1_ptr, ld1_ptr H'.n 1, ld1_ptr c 0, hjl, i1, i2, hat, encA, h1, ix, l1, hmin, e3, gq, line_Line_Join_j1_eq, hcn]
    ·rw [hfin]
     rw [List.set_append_left _ _ (by simpa using hlt), List.set_set] at g3
     exact g3.drop_last)
  (fun e H' ⟨he, g⟩ => by
   subst he
   rw [List.take_length] at g
   refine ⟨.exit 0, _, H', ?_, by simp, rfl, rfl, g⟩
   rw [line_Line_Join_l1_eq]
   simp -implicitDefEqProofs)
 refine ⟨H1, nrm_of ?_, g⟩
 simp -implicitDefEqProofs [line_Line_Join, hin, hlen, hr, line_Line_Join_l1k_x0]
set_option maxHeartbeats 1000000 in
theorem ligaStore_star (k : Nat) (t : LTab) (ht : t.ok) {H0 H : Heap} {L : List It} (h : Star H0 H L) (il ir : Nat) (hne : il ≠ ir) {c : Nat} {o : Option Nat} {l : List Gl} (hil : L[il]? = some (itLine c o l)) {og : Option Nat} {s : Value} {ks : List Int} (hir : L[ir]? = some (itRow og 1 s encI ks)) (hks : ks.length < 2 ^ 31) (i sum : Int) :
  ∃ H', R (T k) F.liga_Table_store [ligaV t, ptrV c, .int .i64 i, .int .i64 sum, s] H = .ok (.bool (entryS t.ligs sum).isSome) H' ∧ Star H0 H' (L.set il (itLine c o (match entryS t.ligs sum with | some id => storeG l i id ks | none => l))) := by
 have hen := fun H' => ligaEntry_run k t.ligs ht.byt.2.2 ht.len.2.2 sum H'
 have hlt := (List.getElem?_eq_some_iff.1 hil).1
 rw [liga_Table_store_R]
 cases he : entryS t.ligs sum with
 | none =>
  rw [he] at hen
  refine ⟨H, nrm_of ?_, by dsimp only; rw [set_same hil]; exact h⟩
  simp -implicitDefEqProofs (disch := omega) [liga_Table_store, hen]
 | some id =>
  rw [he] at hen
  obtain ⟨H1, e1, g⟩ := lineSet_star k h il hil i id
  have hir2 : (L.set il (itLine c o (setG l i id)))[ir]? = some (itRow og 1 s encI ks) := by rw [List.getElem?_set_ne hne]; exact hir
  obtain ⟨H2, e2, g⟩ := lineJoin_star k g il ir hne (List.getElem?_set_self hlt) hir2 hks i
  rw [List.set_set] at g
  have hlen := (h.row ir hir).len
  obtain ⟨xx, e', H3, hr, rfl, rfl, g⟩ := loop_up (body := liga_Table_store_l1 k (R (T k))) ks.length
   (fun j e H' => e = [(1, ptrV c), (34, s), (35, .int .i64 ks.length), (36, .int .i64 j)] ∧ Star H0 H' (L.set il (itLine c o (delG (joinG (setG l i id) i ks) (ks.take j)))))
   (fun xx e H' => xx = .exit 0 ∧ e = [(1, ptrV c), (34, s), (35, .int .i64 ks.length), (36, .int .i64 ks.length), (37, .bool false)] ∧ Star H0 H' (L.set il (itLine c o (delG (joinG (setG l i id) i ks) ks))))
   (e0 := [(1, ptrV c), (34, s), (35, .int .i64 ks.length), (36, .int .i64 0)]) (H0 := H2) ⟨rfl, g⟩ (by omega)
   (fun j e H' hj2 ⟨he, g⟩ => by
    subst he
    have hjl : (j : Int) < ks.length := by omega
    obtain ⟨x, hx⟩ : ∃ x, ks[j]? = some x := ⟨_, List.getElem?_eq_getElem hj2⟩
    have hir2 : (L.set il (itLine c o (delG (joinG (setG l i id) i ks) (ks.take j))))[ir]? = some (itRow og 1 s encI ks) := by rw [List.getElem?_set_ne hne]; exact hir
    obtain ⟨p, i1, i2⟩ := ((g.row ir hir2).sl encI_len).ix1 encI_len j x hx _ rfl
    have i2 := i2 H' (Ext.refl _)
    obtain ⟨H4, e4, g4⟩ := lineSet_star k g il (List.getElem?_set_self hlt) x 65535
    rw [List.set_set, ← delG_snoc, ← take_snoc hx] at g4
    refine .inl ⟨_, H4, ?_, rfl, g4⟩
    rw [liga_Table_store_l1_eq]
    simp -implicitDefEqProofs (disch := omega) [hjl, i1, i2, e4])
   (fun e H' ⟨he, g⟩ => by
    subst he
    rw [List.take_length] at g
    refine ⟨.exit 0, _, H', ?_, by simp, rfl, rfl, g⟩
    rw [liga_Table_store_l1_eq]
    simp -implicitDefEqProofs)
  refine ⟨H3, nrm_of ?_, g⟩
  simp -implicitDefEqProofs (disch := omega) [liga_Table_store, hen, e1, e2, hlen, hr, liga_Table_store_l1k_x0]
end Go.Sw
end
section
namespace Go.Sw
open Go.RowKit
variable {σ ω : Type}
def ActOkG (k : Nat) (m : Mach) (H0 : Heap) (W : σ → ω → List It) (Inv : σ → Prop) (a : Value) (f : σ → Int → En → σ × Int × Int) : Prop :=
 ∀ s w i e H X, Inv s → Star H0 H (W s w ++ X) → 0 ≤ i → i < 2 ^ 50 → e ∈ m.ents →
  ∃ H' w', callV (R (T k)) a [.int .i64 i, encE e] H = .ok (.tuple #[.int .i64 (f s i e).2.1, .int .i64 (f s i e).2.2]) H' ∧ Star H0 H' (W (f s i e).1 w' ++ X) ∧ Inv (f s i e).1 ∧ (f s i e).2.1 ≤ i + 128 ∧ (f s i e).2.2 ≤ i + 128
set_option maxHeartbeats 2000000 in
theorem driverStep_runG (k : Nat) (m : Mach) (hm : m.ok) {H0 H : Heap} (W : σ → ω → List It) (Inv : σ → Prop) (ln : σ → List Gl) (c : Nat) (hW : ∀ s w, ∃ (i : Nat) (o : Option Nat), (W s w)[i]? = some (itLine c o (ln s))) (a : Value) (f : σ → Int → En → σ × Int × Int) (ha : ActOkG k m H0 W Inv a f)
  (X : List It) (q : Nat) (s : σ) (w : ω) (d : Drv) (hI : Inv s) (h : Star H0 H (W s w ++ X ++ [itBlk q ⟨drvC m c d, 1, false⟩])) (hp : 0 ≤ d.pl ∧ d.pl < 2 ^ 50) (hst : 0 ≤ d.stp ∧ d.stp < 2 ^ 50) (hr : 0 ≤ d.rest ∧ d.rest < 2 ^ 50) (hse : 0 ≤ d.st ∧ d.st < m.rows.length) :
  ∃ H' w', R (T k) F.drive_driver_step [ptrV q, a] H = .ok (.bool (stepD m ln f (s, d)).2) H' ∧ Star H0 H' (W (stepD m ln f (s, d)).1.1 w' ++ X ++ [itBlk q ⟨drvC m c (stepD m ln f (s, d)).1.2, 1, false⟩]) ∧ Inv (stepD m ln f (s, d)).1.1 ∧ (stepD m ln f (s, d)).1.2.pl ≤ d.pl + 128 ∧ 0 ≤ (stepD m ln f (s, d)).1.2.st ∧ (stepD m ln f (s, d)).1.2.st < m.rows.length := by
 obtain ⟨i, o, ho⟩ := hW s w
 have hq := h.memBlk (c := q) (k := ⟨drvC m c d, 1, false⟩) (by simp)
 have hline : (W s w ++ X ++ [itBlk q ⟨drvC m c d, 1, false⟩])[i]? = some (itLine c o (ln s)) := by
  have h0 : i < (W s w).length := (List.getElem?_eq_some_iff.1 ho).1
  rw [List.append_assoc, List.getElem?_append_left h0]
  exact ho
 have hcls := driverClass_run k m hm h i hline hq
 have hstep := fun H' => Step_run k m hm d.st (clsS m (ln s) d.pl).1 H'
 have heb := entS_bound hm (ln s) d
 have hmem := entS_mem hm (ln s) d hse
 have hnx := hm.ent _ hmem
 have hee : encEA (stepS m d.st (clsS m (ln s) d.pl).1) = encE (entS m (ln s) d) := rfl
 rw [hee] at hstep
 have hx := ha s w d.pl (entS m (ln s) d)
 unfold stepD
 dsimp only
 generalize (stepS m d.st (clsS m (ln s) d.pl).1).isSome = z at hstep
 generalize (clsS m (ln s) d.pl) = cl at hcls hstep
 generalize entS m (ln s) d = e at hstep heb hx hmem hnx ⊢
 dsimp only at heb
 generalize f s d.pl e = r at hx ⊢
 have g := h.push ⟨encEn e, 1, false⟩
 rw [List.append_assoc, List.singleton_append] at g
 have hqn : ¬ q = H.n := by have := Heap.get_lt hq; omega
 obtain ⟨H2, e2, g⟩ := g.stEnd 4 (v := .int .i64 (d.stp + 1)) rfl rfl (by simp)
 simp only [List.set_cons_zero, List.set_cons_succ] at g
 have he2 := g.memBlk (c := H.n) (k := ⟨encEn e, 1, false⟩) (by simp)
 have hq2 := g.memBlk (c := q) (k := ⟨[machV m, ptrV c, .int .i64 d.st, .int .i64 d.pl, .int .i64 (d.stp + 1), .int .i64 d.rest], 1, false⟩) (by simp)
 obtain ⟨H3, e3, g⟩ := g.stEnd 2 (v := .int .i64 e.next) rfl rfl (by simp)
 simp only [List.set_cons_zero, List.set_cons_succ] at g
 have hq3 := g.memBlk (c := q) (k := ⟨[machV m, ptrV c, .int .i64 e.next, .int .i64 d.pl, .int .i64 (d.stp + 1), .int .i64 d.rest], 1, false⟩) (by simp)
 have he3 := g.memBlk (c := H.n) (k := ⟨encEn e, 1, false⟩) (by simp)
 rw [List.append_assoc] at g
 obtain ⟨H4, w4, e4, g4, hI4, hs4, ho4⟩ := hx H3 _ hI g hp.1 hp.2 hmem
 rw [← List.append_assoc] at g4
 have hq4 := g4.memBlk (c := q) (k := ⟨[machV m, ptrV c, .int .i64 e.next, .int .i64 d.pl, .int .i64 (d.stp + 1), .int .i64 d.rest], 1, false⟩) (by simp)
 have he4 := g4.memBlk (c := H.n) (k := ⟨encEn e, 1, false⟩) (by simp)
 have han := fun H => and14 Prog 3 H heb.2.2.1 heb.2.2.2.1
 rw [List.append_assoc] at g4
 by_cases hfl : e.flags / 16384 % 2 = 1
 ·rw [if_pos hfl]
  rw [if_pos hfl] at han
  have hmx : (if 0 > r.2.1 then 0 else r.2.1) = max r.2.1 0 := by split <;> omega
  obtain ⟨H5, e5, g5⟩ := Star.stEnd (A := W r.1 w4 ++ X) (by simpa using g4) 3 (v := .int .i64 (max r.2.1 0)) rfl rfl (by simp)
  simp only [List.set_cons_zero, List.set_cons_succ] at g5
  have hq5 := g5.memBlk (c := q) (k := ⟨[machV m, ptrV c, .int .i64 e.next, .int .i64 (max r.2.1 0), .int .i64 (d.stp + 1), .int .i64 d.rest], 1, false⟩) (by simp)
  obtain ⟨H6, e6, g6⟩ := g5.stEnd 5 (v := .int .i64 (d.rest + 1)) rfl rfl (by simp)
  simp only [List.set_cons_zero, List.set_cons_succ] at g6
  refine ⟨H6, w4, ?_, ?_, hI4, by dsimp only; omega, hnx.1, hnx.2.1⟩
  ·rw [drive_driver_step_R]
   simp -implicitDefEqProofs (disch := omega) [-stR_ptr, drive_driver_step, hcls, hq, hqn, hstep, stR_ptr 4 H.n 0, e2, hq2, he2, e3, hq3, he3, e4, hq4, he4, han, hmx, e5, hq5, e6]
  ·have := g6.take ((W r.1 w4 ++ X).length + 1)
   rw [take_mid] at this
   exact this
 ·rw [if_neg hfl]
  rw [if_neg hfl] at han
  have hmx : (if 0 > r.2.2 then 0 else r.2.2) = max r.2.2 0 := by split <;> omega
  obtain ⟨H5, e5, g5⟩ := Star.stEnd (A := W r.1 w4 ++ X) (by simpa using g4) 3 (v := .int .i64 (max r.2.2 0)) rfl rfl (by simp)
  simp only [List.set_cons_zero, List.set_cons_succ] at g5
  have hq5 := g5.memBlk (c := q) (k := ⟨[machV m, ptrV c, .int .i64 e.next, .int .i64 (max r.2.2 0), .int .i64 (d.stp + 1), .int .i64 d.rest], 1, false⟩) (by simp)
  obtain ⟨H6, e6, g6⟩ := g5.stEnd 5 (v := .int .i64 0) rfl rfl (by simp)
  simp only [List.set_cons_zero, List.set_cons_succ] at g6
  refine ⟨H6, w4, ?_, ?_, hI4, by dsimp only; omega, hnx.1, hnx.2.1⟩
  ·rw [drive_driver_step_R]
   simp -implicitDefEqProofs (disch := omega) [-stR_ptr, drive_driver_step, hcls, hq, hqn, hstep, stR_ptr 4 H.n 0, e2, hq2, he2, e3, hq3, he3, e4, hq4, he4, han, hmx, bne, e5, hq5, e6]
  ·have := g6.take ((W r.1 w4 ++ X).length + 1)
   rw [take_mid] at this
   exact this
set_option maxHeartbeats 1000000 in
theorem driveRun_starG (k : Nat) (m : Mach) (hm : m.ok) {H0 H : Heap} (W : σ → ω → List It) (Inv : σ → Prop) (ln : σ → List Gl) (c : Nat) (hW : ∀ s w, ∃ (i : Nat) (o : Option Nat), (W s w)[i]? = some (itLine c o (ln s))) (a : Value) (f : σ → Int → En → σ × Int × Int) (ha : ActOkG k m H0 W Inv a f)
  (X : List It) (s : σ) (w : ω) (hI : Inv s) (h : Star H0 H (W s w ++ X)) (hl : (ln s).length < 2 ^ 40) :
  ∃ H' w', R (T k) F.drive_Run [machV m, ptrV c, a] H = .ok (.tuple #[.int .i64 (runD m ln f (2 * (ln s).length + 128) (2 * (ln s).length + 128) (s, ⟨0, 0, 0, 0⟩)).1, .int .i64 (runD m ln f (2 * (ln s).length + 128) (2 * (ln s).length + 128) (s, ⟨0, 0, 0, 0⟩)).2.1]) H' ∧
   Star H0 H' (W (runD m ln f (2 * (ln s).length + 128) (2 * (ln s).length + 128) (s, ⟨0, 0, 0, 0⟩)).2.2 w' ++ X) ∧ Inv (runD m ln f (2 * (ln s).length + 128) (2 * (ln s).length + 128) (s, ⟨0, 0, 0, 0⟩)).2.2 := by
 rw [drive_Run_R]
 obtain ⟨N, hN⟩ : ∃ N, N = 2 * (ln s).length + 128 := ⟨_, rfl⟩
 have hNi : (2 * ((ln s).length : Int) + 128) = (N : Int) := by omega
 obtain ⟨x0, hx0⟩ : ∃ x0 : σ × Drv, x0 = (s, ⟨0, 0, 0, 0⟩) := ⟨_, rfl⟩
 rw [← hN, hNi, ← hx0]
 generalize hR0 : runD m ln f (N : Int) N x0 = R0
 have g := h.push ⟨drvC m c ⟨0, 0, 0, 0⟩, 1, false⟩
 obtain ⟨i, o, ho⟩ := hW s w
 have hline : (W s w ++ X ++ [itBlk H.n ⟨drvC m c ⟨0, 0, 0, 0⟩, 1, false⟩])[i]? = some (itLine c o (ln s)) := by
  have h0 : i < (W s w).length := (List.getElem?_eq_some_iff.1 ho).1
  rw [List.append_assoc, List.getElem?_append_left h0]
  exact ho
 have hlen := lineLen_run k g i hline
 obtain ⟨e, eE, H1, hr1, hQ⟩ := loop_up (body := drive_Run_l1 k (R (T k))) N
  (fun j e H' => e = [(2, a), (8, ptrV H.n), (9, .int .i64 N)] ∧ ∃ (x : σ × Drv) (w : ω), Star H0 H' (W x.1 w ++ X ++ [itBlk H.n ⟨drvC m c x.2, 1, false⟩]) ∧ Inv x.1 ∧ x.2.stp = j ∧ 0 ≤ x.2.pl ∧ x.2.pl ≤ 128 * j ∧ 0 ≤ x.2.rest ∧ x.2.rest ≤ j ∧ (0 ≤ x.2.st ∧ x.2.st < m.rows.length) ∧ runD m ln f N (N - j) x = R0)
  (fun x' e H' => ∃ r : Int × Int × σ, r = R0 ∧ ∃ (d : Drv) (w : ω), Star H0 H' (W r.2.2 w ++ X ++ [itBlk H.n ⟨drvC m c d, 1, false⟩]) ∧ Inv r.2.2 ∧
   ((x' = .ret ∧ e = [(6, .int .i64 r.1), (7, .int .i64 0)] ∧ r.2.1 = 0) ∨ (x' = .exit 0 ∧ d.stp = r.1 ∧ r.2.1 = 4 ∧ (e = [(2, a), (8, ptrV H.n), (9, .int .i64 N), (35, .bool true)] ∨ e = [(2, a), (8, ptrV H.n), (9, .int .i64 N), (23, .bool false)]))))
  (e0 := [(2, a), (8, ptrV H.n), (9, .int .i64 N)]) (H0 := H.push ⟨drvC m c ⟨0, 0, 0, 0⟩, 1, false⟩)
  ⟨rfl, x0, w, by rw [hx0]; exact g, by rw [hx0]; exact hI, by rw [hx0]; rfl, by rw [hx0]; exact Int.le_refl _, by rw [hx0]; exact Int.le_refl _, by rw [hx0]; exact Int.le_refl _, by rw [hx0]; exact Int.le_refl _, by rw [hx0]; have := hm.two; dsimp only; omega, by rw [Nat.sub_zero]; exact hR0⟩ (by omega)
  (fun j e H' hj ⟨he, x, w, g, hI, h1, h2, h3, h4, h5, hse, hrun⟩ => by
   subst he
   obtain ⟨H2, w2, e2, g2, hI2, h6, h7⟩ := driverStep_runG k m hm W Inv ln c hW a f ha X H.n x.1 w x.2 hI g (by omega) (by omega) (by omega) hse
   have hq := g.memBlk (c := H.n) (k := ⟨drvC m c x.2, 1, false⟩) (by simp)
   have p1 := stepD_stp m ln f x
   have p2 := stepD_pl m ln f x
   have p3 := stepD_rest m ln f x h4
   have hlt : x.2.stp < (N : Int) := by omega
   have hNj : N - j = (N - (j + 1)) + 1 := by omega
   rw [hNj] at hrun
   unfold runD at hrun
   rw [if_pos hlt] at hrun
   have hxx : (x.1, x.2) = x := rfl
   rw [hxx] at e2 g2 hI2 h6 h7
   generalize stepD m ln f x = y at *
   have hq2 := g2.memBlk (c := H.n) (k := ⟨drvC m c y.1.2, 1, false⟩) (by simp)
   cases hy : y.2 with
   | true =>
    rw [hy] at hrun e2
    simp only [if_true] at hrun
    refine .inr ⟨.ret, _, H2, ?_, by simp, _, hrun, y.1.2, w2, g2, hI2, .inl ⟨rfl, rfl, rfl⟩⟩
    rw [drive_Run_l1_eq]
    simp -implicitDefEqProofs (disch := omega) [hq, hlt, e2, hq2]
   | false =>
    rw [hy] at hrun e2
    simp only [Bool.false_eq_true, if_false] at hrun
    by_cases hr : y.1.2.rest > 64
    ·rw [if_pos hr] at hrun
     refine .inr ⟨.exit 0, _, H2, ?_, by simp, _, hrun, y.1.2, w2, g2, hI2, .inr ⟨rfl, rfl, rfl, .inl rfl⟩⟩
     rw [drive_Run_l1_eq]
     simp -implicitDefEqProofs (disch := omega) [hq, hlt, e2, hq2, hr]
    ·rw [if_neg hr] at hrun
     refine .inl ⟨_, H2, ?_, rfl, y.1, w2, g2, hI2, by omega, p2, by omega, p3.1, by omega, h7, hrun⟩
     rw [drive_Run_l1_eq]
     simp -implicitDefEqProofs (disch := omega) [hq, hlt, e2, hq2, hr])
  (fun e H' ⟨he, x, w, g, hI, h1, h2, h3, h4, h5, hse, hrun⟩ => by
   subst he
   rw [Nat.sub_self] at hrun
   have hq := g.memBlk (c := H.n) (k := ⟨drvC m c x.2, 1, false⟩) (by simp)
   refine ⟨.exit 0, _, H', ?_, by simp, _, hrun, x.2, w, g, hI, .inr ⟨rfl, rfl, rfl, .inr rfl⟩⟩
   have hnl : ¬ x.2.stp < (N : Int) := by omega
   rw [drive_Run_l1_eq]
   simp -implicitDefEqProofs (disch := omega) [hq, hnl])
 obtain ⟨r, hr, d, w3, g, hIr, hcase⟩ := hQ
 subst hr
 have hq := g.memBlk (c := H.n) (k := ⟨drvC m c d, 1, false⟩) (by simp)
 have gX : Star H0 H1 (W r.2.2 w3 ++ X) := g.drop_last
 refine ⟨H1, w3, ?_, gX, hIr⟩
 rcases hcase with ⟨rfl, rfl, hc⟩ | ⟨rfl, hd, hc, rfl | rfl⟩
 ·rw [hc]
  simp -implicitDefEqProofs (disch := omega) [drive_Run, hlen, hNi, hr1, drive_Run_l1k_r]
 ·rw [hc]
  simp -implicitDefEqProofs (disch := omega) [drive_Run, hlen, hNi, hr1, drive_Run_l1k_x0, hq, hd]
 ·rw [hc]
  simp -implicitDefEqProofs (disch := omega) [drive_Run, hlen, hNi, hr1, drive_Run_l1k_x0_1, hq, hd]
def DoOkG (k : Nat) (m : Mach) (H0 : Heap) (W : σ → ω → List It) (Inv : σ → Prop) (a : Value) (g : σ → Int → En → σ) : Prop :=
 ∀ s w i e H X, Inv s → Star H0 H (W s w ++ X) → 0 ≤ i → i < 2 ^ 50 → e ∈ m.ents →
  ∃ v H' w', callV (R (T k)) a [.int .i64 i, encE e] H = .ok v H' ∧ Star H0 H' (W (g s i e) w' ++ X) ∧ Inv (g s i e)
theorem plain_okG (k : Nat) {m : Mach} {H0 : Heap} {W : σ → ω → List It} {Inv : σ → Prop} {a : Value} {g : σ → Int → En → σ} (h : DoOkG k m H0 W Inv a g) (p : Nat) :
  ActOkG k m H0 (fun s w => W s w ++ [itBlk p ⟨[a], 1, false⟩]) Inv (.func (.func F.drive_Plain_in1) #[] #[ptrV p]) (fun s i e => (g s i e, i, i + 1)) := by
 intro s w i e H X hI st h0 h1 he
 have st2 := st.push ⟨encEn e, 1, false⟩
 have hp := st2.memBlk (c := p) (k := ⟨[a], 1, false⟩) (by simp)
 have hpn : ¬ p = H.n := by have := Heap.get_lt (st.memBlk (c := p) (k := ⟨[a], 1, false⟩) (by simp)); omega
 obtain ⟨v, H', w', e1, st3, hI2⟩ := h s w i e (H.push ⟨encEn e, 1, false⟩) ([itBlk p ⟨[a], 1, false⟩] ++ X ++ [itBlk H.n ⟨encEn e, 1, false⟩]) hI (by simpa [List.append_assoc] using st2) h0 h1 he
 have st4 : Star H0 H' (W (g s i e) w' ++ [itBlk p ⟨[a], 1, false⟩] ++ X) := by
  have : W (g s i e) w' ++ ([itBlk p ⟨[a], 1, false⟩] ++ X ++ [itBlk H.n ⟨encEn e, 1, false⟩]) = (W (g s i e) w' ++ [itBlk p ⟨[a], 1, false⟩] ++ X) ++ [itBlk H.n ⟨encEn e, 1, false⟩] := by simp
  rw [this] at st3
  exact st3.drop_last
 refine ⟨H', w', ?_, st4, hI2, by dsimp only; omega, by dsimp only; omega⟩
 simp only [callV, List.nil_append, List.cons_append]
 rw [drive_Plain_in1_R, nrm_of]
 simp -implicitDefEqProofs (disch := omega) [drive_Plain_in1, hp, hpn, e1]
end Go.Sw
end
section
namespace Go.Sw
open Go.RowKit
set_option maxHeartbeats 4000000 in
theorem ligaPerform_star (k : Nat) (t : LTab) (ht : t.ok) {H0 H : Heap} {L : List It} (h : Star H0 H L) (il ip : Nat) (hne : il ≠ ip) {c cp : Nat} {o ob : Option Nat} {l : List Gl} {ps : List Int} (hil : L[il]? = some (itLine c o l)) (hip : L[ip]? = some (itLP cp ob ps)) (hps : ps.length ≤ 64) (a : Int) (ha : 0 ≤ a ∧ a < 65536) (hlast : lastB t.acts a = true) :
  ∃ ob' H', R (T k) F.liga_Table_perform [ligaV t, ptrV c, ptrV cp, .int .i64 a] H = .ok (.tuple #[]) H' ∧ Star H0 H' ((L.set il (itLine c o (perfS t ps a 0 [] l).1)).set ip (itLP cp ob' (perfS t ps a 0 [] l).2)) := by
 have hltl := (List.getElem?_eq_some_iff.1 hil).1
 have hltp := (List.getElem?_eq_some_iff.1 hip).1
 obtain ⟨res, hres⟩ : ∃ res, res = perfS t ps a 0 [] l := ⟨_, rfl⟩
 rw [← hres]
 obtain ⟨S, hS⟩ : ∃ S : List Gl → Option Nat → List Int → Option Nat → Value → List Int → List It, S = fun l' ob' ps' og s gone => (L.set il (itLine c o l')).set ip (itLP cp ob' ps') ++ [itRow og 1 s encI gone] := ⟨_, rfl⟩
 have hSv : ∀ l' ob' ps' og s gone, S l' ob' ps' og s gone = (L.set il (itLine c o l')).set ip (itLP cp ob' ps') ++ [itRow og 1 s encI gone] := fun _ _ _ _ _ _ => by rw [hS]
 clear hS
 have atl : ∀ l' ob' ps' og s gone, (S l' ob' ps' og s gone)[il]? = some (itLine c o l') := fun l' ob' ps' og s gone => by
  rw [hSv, List.getElem?_append_left (by simpa using hltl), List.getElem?_set_ne (fun h => hne h.symm), List.getElem?_set_self hltl]
 have atp : ∀ l' ob' ps' og s gone, (S l' ob' ps' og s gone)[ip]? = some (itLP cp ob' ps') := fun l' ob' ps' og s gone => by
  rw [hSv, List.getElem?_append_left (by simpa using hltp), List.getElem?_set_self (by simpa using hltp)]
 have atr : ∀ l' ob' ps' og s gone, (S l' ob' ps' og s gone)[L.length]? = some (itRow og 1 s encI gone) := fun l' ob' ps' og s gone => by
  rw [hSv, List.getElem?_append_right (by simp)]
  simp
 have setl : ∀ l' l2 ob' ps' og s gone, (S l' ob' ps' og s gone).set il (itLine c o l2) = S l2 ob' ps' og s gone := fun l' l2 ob' ps' og s gone => by
  rw [hSv, hSv, List.set_append_left _ _ (by simpa using hltl), List.set_comm _ _ (fun h => hne h.symm), List.set_set]
 have setp : ∀ l' ob' ps' ob2 ps2 og s gone, (S l' ob' ps' og s gone).set ip (itLP cp ob2 ps2) = S l' ob2 ps2 og s gone := fun l' ob' ps' ob2 ps2 og s gone => by
  rw [hSv, hSv, List.set_append_left _ _ (by simpa using hltp), List.set_set]
 have setr : ∀ l' ob' ps' og s gone og2 s2 gone2, (S l' ob' ps' og s gone).set L.length (itRow og2 1 s2 encI gone2) = S l' ob' ps' og2 s2 gone2 := fun l' ob' ps' og s gone og2 s2 gone2 => by
  rw [hSv, hSv, List.set_append_right _ _ (by simp)]
  simp
 have fin : ∀ {H' : Heap} {l' ob' ps' og s gone}, Star H0 H' (S l' ob' ps' og s gone) → (l', ps') = res → ∃ ob', Star H0 H' ((L.set il (itLine c o res.1)).set ip (itLP cp ob' res.2)) := fun {H' l' ob' ps' og s gone} g he => by
  rw [hSv] at g
  subst he
  exact ⟨ob', g.drop_last⟩
 have h1 : Star H0 H (S l ob ps none (.slice none 0 0) []) := by
  rw [hSv, set_same hil, set_same hip]
  exact h.more_row (Ext.refl _) (OwnO.nil encI _ 1) (fun b hb => by cases hb)
 have hvb : veq (vwB t.comps) (vwB t.comps) = true := veq_agg (l := [lv encB t.comps]) fun u hu => by simp at hu; subst hu; exact veq_B t.comps
 obtain ⟨xx, e', H1, hr, hE, g⟩ := loop_up (body := liga_Table_perform_l1 k (R (T k))) ps.length
  (fun j e H' => ∃ (sum : Int) (gone : List Int) (l' : List Gl) (og ob' : Option Nat) (s : Value), e = [(0, ligaV t), (1, ptrV c), (2, ptrV cp), (3, .int .i64 (a + j)), (8, .int .i64 sum), (9, s)] ∧ Star H0 H' (S l' ob' (ps.drop j) og s gone) ∧ lastB t.acts (a + j) = true ∧ 0 ≤ sum ∧ sum ≤ 65535 * j ∧ gone.length ≤ j ∧ perfS t (ps.drop j) (a + j) sum gone l' = res)
  (fun xx e H' => (xx = .ret ∧ ((∃ b0 b8 b9 b10 b24, e = [(0, b0), (1, ptrV c), (2, ptrV cp), (3, .int .i64 (a + ps.length)), (8, b8), (9, b9), (10, b10), (24, b24)]) ∨ (∃ b0 b3 b8 b9 b10 b12 b15 b52, e = [(0, b0), (1, ptrV c), (2, ptrV cp), (3, b3), (8, b8), (9, b9), (10, b10), (12, b12), (15, b15), (52, b52)]) ∨ (∃ b0 b3 b8 b10 b12 b65, e = [(0, b0), (1, ptrV c), (2, ptrV cp), (3, b3), (8, b8), (10, b10), (12, b12), (65, b65)]) ∨ e = [])) ∧ ∃ ob', Star H0 H' ((L.set il (itLine c o res.1)).set ip (itLP cp ob' res.2)))
  (e0 := [(0, ligaV t), (1, ptrV c), (2, ptrV cp), (3, .int .i64 a), (8, .int .i64 0), (9, .slice none 0 0)]) (H0 := H) ⟨0, [], l, none, ob, .slice none 0 0, by simp, by simpa using h1, by simpa using hlast, Int.le_refl _, Int.le_refl _, Nat.le_refl _, by simpa using hres.symm⟩ (by omega)
  (fun j e H' hj ⟨sum, gone, l', og, ob', s, he, g, hl, hs0, hs1, hgl, hp⟩ => by
   subst he
   have hd : ps.drop j = ps[j] :: ps.drop (j + 1) := List.drop_eq_getElem_cons hj
   obtain ⟨x, hx⟩ : ∃ x, x = ps[j] := ⟨_, rfl⟩
   rw [← hx] at hd
   have hdl : (ps.drop (j + 1)).length ≤ 63 := by rw [List.length_drop]; omega
   rw [hd] at hp g
   obtain ⟨H2, e2, g⟩ := ligaPop_star k g ip (by rw [List.length_cons]; omega) (atp _ _ _ _ _ _)
   rw [setp] at g
   simp only [List.head?_cons, Option.getD_some, List.isEmpty_cons, Bool.not_false, List.tail_cons] at e2 g
   obtain ⟨y, hy, hgy, hy0, hy1, hyl, hyn⟩ := last_next ht.byt.1 (by omega) hl
   have hU := fun H' => U32_run k (H := H') (Sl.lv H' 1 t.acts) ht.byt.1 (4 * (a + j)) (by have := ht.len.1; omega)
   rw [hy] at hU
   have hat := lineAt_run k g il (atl _ _ _ _ _ _) x
   obtain ⟨q, hq⟩ : ∃ q, q = (atG l' x).getD ⟨0, 0⟩ := ⟨_, rfl⟩
   have hatA : encA (atG l' x) = .agg (encG q).toArray := by rw [hq]; rfl
   rw [hatA] at hat
   have hoff := fun H' => ligaOffset_run k y hy0 hy1 H'
   have hen := fun H' => ligaEntry_run k t.comps ht.byt.2.1 ht.len.2.1 (IntKind.i64.wrap (q.id + offS y)) H'
   have hx2 : Ext H2 (H2.push ⟨encG q, 1, false⟩) := (Ext.refl H2).push _
   have gq : (H2.push ⟨encG q, 1, false⟩).get H2.n = some ⟨encG q, 1, false⟩ := get_push_eq _ _ _ rfl
   unfold perfS at hp
   rw [hgy, ← hq] at hp
   have gp := g.rest hx2
   cases hc : entryS t.comps (IntKind.i64.wrap (q.id + offS y)) with
   | none =>
    rw [hc] at hp hen
    dsimp only at hp
    refine .inr ⟨.ret, _, _, ?_, by simp, ⟨rfl, .inr (.inl ⟨ligaV t, .int .i64 (a + j), .int .i64 sum, s, .int .i64 x, .int .i64 y, .int .i64 0, .bool true, rfl⟩)⟩, fin gp hp⟩
    rw [liga_Table_perform_l1_eq]
    simp -implicitDefEqProofs (disch := omega) [e2, hU, orF, hat, hoff, hen, gq, hvb]
   | some part =>
    rw [hc] at hp hen
    dsimp only at hp
    have hpart : 0 ≤ part ∧ part < 65536 := by
     unfold entryS at hc
     split at hc
     ·injection hc with hc
      subst hc
      obtain ⟨z, hz⟩ : ∃ z, uS t.comps (2 * IntKind.i64.wrap (q.id + offS y)) 2 = some z := uS_of_in (by unfold inS; rw [decide_eq_true_eq]; omega)
      rw [gU_some hz]
      exact uS_two ht.byt.2.1 hz
     ·cases hc
    have hw : IntKind.i64.wrap (sum + part) = sum + part := wrap_i64 (by omega) (by omega)
    have an := fun H => and3031 Prog 3 H hy0 hy1
    have an2 := fun H => and31 Prog 3 H hy0 hy1
    have hgl2 : gone.length < 2 ^ 31 := by omega
    have hj1 : a + ((j + 1 : Nat) : Int) = a + j + 1 := by omega
    by_cases d1 : y ≥ 1073741824
    ·rw [if_pos d1] at hp
     have hne0 : (y / 1073741824 * 1073741824 == 0) = false := by rw [beq_eq_false_iff_ne]; omega
     obtain ⟨H3, e3, g3⟩ := ligaStore_star k t ht gp il L.length (by omega) (atl _ _ _ _ _ _) (atr _ _ _ _ _ _) hgl2 x (sum + part)
     rw [setl] at g3
     cases hlg : entryS t.ligs (sum + part) with
     | none =>
      rw [hlg] at hp e3 g3
      dsimp only at hp g3
      refine .inr ⟨.ret, _, _, ?_, by simp, ⟨rfl, .inr (.inr (.inl ⟨ligaV t, .int .i64 (a + j), .int .i64 (sum + part), .int .i64 x, .int .i64 y, .bool true, rfl⟩))⟩, fin g3 hp⟩
      rw [liga_Table_perform_l1_eq]
      simp -implicitDefEqProofs (disch := omega) [e2, hU, orF, hat, hoff, hen, gq, hvb, hw, an, bne, hne0, e3]
     | some id =>
      rw [hlg] at hp e3 g3
      dsimp only at hp g3
      by_cases d2 : y ≥ 2147483648
      ·rw [if_pos d2] at hp an2
       obtain ⟨ob2, H4, e4, g4⟩ := ligaPush_star k g3 ip (by omega) (atp _ _ _ _ _ _) x
       rw [setp] at g4
       refine .inr ⟨.ret, _, _, ?_, by simp, ⟨rfl, .inr (.inr (.inr rfl))⟩, fin g4 hp⟩
       rw [liga_Table_perform_l1_eq]
       simp -implicitDefEqProofs (disch := omega) [e2, hU, orF, hat, hoff, hen, gq, hvb, hw, an, hne0, e3, liga_Table_perform_j1_eq, an2, bne, e4]
      ·rw [if_neg d2] at hp an2
       have g3 := g3.same L.length (atr _ _ _ _ _ _) (itRow none 1 (.slice none 0 0) encI []) (OwnO.nil encI _ 1) (fun b hb => by simp [itRow] at hb)
       rw [setr] at g3
       obtain ⟨s5, o5, H5, e5, g5⟩ := g3.append1 (bytes := 8) L.length encI_len (atr _ _ _ _ _ _) x (by simp) (by decide)
       rw [setr] at g5
       refine .inl ⟨_, H5, ?_, sum + part, [x], storeG l' x id gone, o5, ob', s5, rfl, g5, by rw [hj1]; exact hyn d2, by omega, by omega, by simp, by rw [hj1]; exact hp⟩
       rw [liga_Table_perform_l1_eq, hj1]
       simp -implicitDefEqProofs (disch := omega) [e2, hU, orF, hat, hoff, hen, gq, hvb, hw, an, hne0, e3, liga_Table_perform_j1_eq, an2, bne, e5]
    ·rw [if_neg d1] at hp
     have hne0 : (y / 1073741824 * 1073741824 == 0) = true := by rw [beq_iff_eq]; omega
     rw [if_neg (show ¬ y ≥ 2147483648 by omega)] at an2
     obtain ⟨s5, o5, H5, e5, g5⟩ := gp.append1 (bytes := 8) L.length encI_len (atr _ _ _ _ _ _) x (by omega) (by decide)
     rw [setr] at g5
     simp only [hn_push] at e5
     refine .inl ⟨_, H5, ?_, sum + part, gone ++ [x], l', o5, ob', s5, rfl, g5, by rw [hj1]; exact hyn (by omega), by omega, by omega, by simp; omega, by rw [hj1]; exact hp⟩
     rw [liga_Table_perform_l1_eq, hj1]
     simp -implicitDefEqProofs (disch := omega) [e2, hU, orF, hat, hoff, hen, gq, hvb, hw, an, hne0, liga_Table_perform_j2_eq, an2, bne, e5])
  (fun e H' ⟨sum, gone, l', og, ob', s, he, g, hl, hs0, hs1, hgl, hp⟩ => by
   subst he
   rw [List.drop_length] at g hp
   obtain ⟨H2, e2, g⟩ := ligaPop_star k g ip (by simp) (atp _ _ _ _ _ _)
   rw [setp] at g
   simp only [List.head?_nil, Option.getD_none, List.isEmpty_nil, Bool.not_true, List.tail_nil] at e2 g
   refine ⟨.ret, _, H2, ?_, by simp, ⟨rfl, .inl ⟨ligaV t, .int .i64 sum, s, .int .i64 0, .bool true, rfl⟩⟩, fin g hp⟩
   rw [liga_Table_perform_l1_eq]
   simp -implicitDefEqProofs [e2])
 obtain ⟨ob', g⟩ := g
 obtain ⟨rfl, hE⟩ := hE
 refine ⟨ob', H1, ?_, g⟩
 rw [liga_Table_perform_R, nrm_of]
 rcases hE with ⟨b0, b8, b9, b10, b24, rfl⟩ | ⟨b0, b3, b8, b9, b10, b12, b15, b52, rfl⟩ | ⟨b0, b3, b8, b10, b12, b65, rfl⟩ | rfl
 ·simp -implicitDefEqProofs [liga_Table_perform, hr, liga_Table_perform_l1k_r]
 ·simp -implicitDefEqProofs [liga_Table_perform, hr, liga_Table_perform_l1k_r_1]
 ·simp -implicitDefEqProofs [liga_Table_perform, hr, liga_Table_perform_l1k_r_2]
 ·simp -implicitDefEqProofs [liga_Table_perform, hr, liga_Table_perform_l1k_r_3]
end Go.Sw
end
