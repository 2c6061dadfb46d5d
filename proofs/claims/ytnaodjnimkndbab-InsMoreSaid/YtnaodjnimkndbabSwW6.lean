/-
  Functions' forms, and what is proved of them, part 6.
-/
import Derived.Test.YtnaodjnimkndbabSwW2
import Derived.Test.YtnaodjnimkndbabSwW5
import Derived.Test.YtnaodjnimkndbabSwCfg
import Derived.Test.YtnaodjnimkndbabSwLib8
import Derived.Test.YtnaodjnimkndbabSwW3
import Derived.Test.YtnaodjnimkndbabSwW4
import Derived.Test.YtnaodjnimkndbabSwW1
set_option linter.unusedSimpArgs false
set_option linter.unusedVariables false
set_option linter.unusedSectionVars false
section
namespace Go.Sw
open Go.RowKit
theorem planRoom_copyO (p : Plan) (w : Int) (rm r x : List Int) (h : rm.length = r.length) : ((planRoom p w rm) ++ x).take 16 ++ (r ++ ((planRoom p w rm) ++ x).drop (16 + r.length)) = planRoom p w r ++ x := by
 obtain ⟨hd, tl, h16, hs⟩ := room_split p w r.length;rw [hs rm h, hs r rfl];rw [← h16, show hd ++ (rm ++ tl) ++ x = hd ++ (rm ++ (tl ++ x)) by simp, List.take_left, ← h];rw [show hd ++ (rm ++ (tl ++ x)) = (hd ++ rm) ++ (tl ++ x) by simp, show hd.length + rm.length = (hd ++ rm).length by simp, List.drop_left];simp
theorem twos_takeO (s : List Int) {j : Nat} {x : Int} (h : s[j]? = some x) : twos (s.take (j + 1)) = twos (s.take j) ++ bytesOf x 2 := by rw [take_snoc h, twos_snoc]
abbrev encH (n : Int) : List Value := [.int .u16 n]
theorem encH_len (n : Int) : (encH n).length = 1 := rfl
theorem w18_l1 (k : Nat) {H0 H : Heap} {o : Option Nat} {s7 : Value} {lk : List Int} (g : Star H0 H [itRow o 1 s7 encB lk]) {v : Value} {s : List Int} (hv : Sl H0 1 v encH s) (hb : ∀ x, x ∈ s → 0 ≤ x ∧ x < 65536) (hl : lk.length + 2 * s.length < 2 ^ 29) :
  ∃ s' o' zz H', loopN (swashlaw18_Write_l1 k (R (T k))) loopFuel [(3, s7), (16, v), (17, .int .i64 s.length), (18, .int .i64 0)] H =
   .ok (.exit 0, [(3, s'), (16, v), (17, .int .i64 s.length), (18, zz), (19, .bool false)]) H' ∧ Star H0 H' [itRow o' 1 s' encB (lk ++ twos s)] := by
 obtain ⟨xx, e', H1, hr1, rfl, s', o', rfl, g1⟩ := loop_up (body := swashlaw18_Write_l1 k (R (T k))) s.length
  (fun j e H' => ∃ s' o', e = [(3, s'), (16, v), (17, .int .i64 s.length), (18, .int .i64 j)] ∧ Star H0 H' [itRow o' 1 s' encB (lk ++ twos (s.take j))])
  (fun xx e H' => xx = .exit 0 ∧ ∃ s' o', e = [(3, s'), (16, v), (17, .int .i64 s.length), (18, .int .i64 s.length), (19, .bool false)] ∧ Star H0 H' [itRow o' 1 s' encB (lk ++ twos s)])
  (e0 := [(3, s7), (16, v), (17, .int .i64 s.length), (18, .int .i64 0)]) (H0 := H) ⟨s7, o, rfl, by simpa [twos] using g⟩ (by omega)
  (fun j e H' hj ⟨s', o', he, g⟩ => by
   subst he;have hjl : (j : Int) < s.length := by omega
   obtain ⟨x, hx⟩ : ∃ x, s[j]? = some x := ⟨_, List.getElem?_eq_getElem hj⟩
   have hxb := hb x (List.mem_of_getElem? hx);obtain ⟨p, i1, i2⟩ := hv.ix1 encH_len j x hx _ rfl;have i2 := i2 H' g.ext;obtain ⟨s2, o2, H2, e2, g2⟩ := Put_star k g 0 rfl x 2 2 rfl hxb.1 (by omega) (by omega) (by rw [List.length_append, twos_len, List.length_take]; omega);simp only [List.set_cons_zero] at g2;rw [List.append_assoc, ← twos_takeO _ hx] at g2;have hw64 : IntKind.i64.wrap x = x := wrap_i64 (by omega) (by omega);refine .inl ⟨_, H2, ?_, s2, o2, rfl, g2⟩;rw [swashlaw18_Write_l1_eq];simp -implicitDefEqProofs (disch := omega) [hjl, i1, i2, hw64, e2])
  (fun e H' ⟨s', o', he, g⟩ => by
   subst he;rw [List.take_length] at g;refine ⟨.exit 0, _, H', ?_, by simp, rfl, s', o', rfl, g⟩;rw [swashlaw18_Write_l1_eq];simp -implicitDefEqProofs)
 exact ⟨s', o', _, H1, hr1, g1⟩
set_option maxRecDepth 20000 in
set_option maxHeartbeats 1000000 in
theorem write18_core (k : Nat) (hW : ownW k = .no) (p : Plan) (hp : p.ok) (h1 : p.cls.length ≤ 1000) (h2 : p.rows.length ≤ 1000) (h3 : p.ents.length ≤ 1000) {H : Heap} {vC vR sE : Value} {rv : List (List Int × Value)} (hP : PlanSl H p vC vR sE rv)
  {vV : Value} {vals : List Int} (hV : Sl H 1 vV encH vals) (hvb : ∀ x, x ∈ vals → 0 ≤ x ∧ x < 65536) (h4 : vals.length ≤ 1000) :
  ∃ s o H', swashlaw18_Write k (R (T k)) (.agg #[vC, vR, sE, .int .u8 p.wide, vV]) H = .ok s H' ∧ Star H H' [itRow o 1 s encB (roomB p 2 0 vals)] := by
 obtain ⟨H1, hH1⟩ : ∃ H1, H1 = H.push ⟨[vC, vR, sE, .int .u8 p.wide, vV], 1, false⟩ := ⟨_, rfl⟩
 have hx1 : Ext H H1 := by rw [hH1]; exact (Ext.refl H).push _
 have hg1 : H1.get H.n = some ⟨[vC, vR, sE, .int .u8 p.wide, vV], 1, false⟩ := by rw [hH1]; exact get_push_eq _ _ _ rfl
 obtain ⟨N, hN⟩ : ∃ N, N = (planRoom p 2 (List.replicate 4 0)).length := ⟨_, rfl⟩
 have hNb : N ≤ 100000 := by rw [hN]; exact planRoom_len hp 2 (by simp) h1 h2 h3
 obtain ⟨s0, o0, J0, e0, g, _⟩ := Write_starG k hW p hp 2 (by omega) 4 (by omega) h1 h2 h3 (Star.nil H1) (hP.up hx1);rw [planBytes_room] at g;simp only [List.nil_append] at g;have gx0 := g.ext;have hln0 : ∀ H', lnS s0 H' = .ok (.int .i64 N) H' := by rw [hN]; exact (g.row 0 rfl).len
 have hlnV : ∀ H', lnS vV H' = .ok (.int .i64 vals.length) H' := fun H' => hV.len H';have hN16 : 20 ≤ N := by rw [hN]; unfold planRoom; simp; omega
 obtain ⟨c5, rfl, hs5, cut1⟩ := g.cut1 0 rfl 16 4 (by omega) (by omega) .i64 .i64;have g := g.more_row (Ext.refl _) (OwnO.nil encB _ 1) (fun b hb => by cases hb);simp only [List.cons_append, List.nil_append] at g;obtain ⟨t6, u6, J6, f6, g⟩ := Put_star k g 1 rfl N 4 4 rfl (by omega) (by omega) (by omega) (by simp);simp only [List.set_cons_zero, List.set_cons_succ, List.nil_append] at g;obtain ⟨c6, h6, _, cut2⟩ := g.cut1 0 rfl 16 4 (by omega) (by omega) .i64 .i64;have h6 := Option.some.inj h6;subst h6;obtain ⟨J7, f7, g⟩ := g.copy1 0 1 rfl rfl 16 4 ((planRoom p 2 (List.replicate 4 0)).length - 16) (by simp) (by omega) (by omega);simp only [List.set_cons_zero] at g;have hcopy := planRoom_copyO p 2 (List.replicate 4 0) (bytesOf (N : Int) 4) [] (by simp);rw [bytesOf_len, List.append_nil, List.append_nil] at hcopy;rw [hcopy] at g;have hrl : (planRoom p 2 (bytesOf (N : Int) 4)).length = N := by rw [hN]; exact planRoom_size p 2 _ _ (by simp)
 have g0 := g.take 1;simp only [List.take_succ_cons, List.take_zero] at g0;have hv7 := g0.get;obtain ⟨s', o', zz, J8, f8, g8⟩ := w18_l1 k g0 (hV.up hx1) hvb (by rw [hrl]; omega);have hfin : planRoom p 2 (bytesOf (N : Int) 4) ++ twos vals = roomB p 2 0 vals := by unfold roomB; rw [← hN, Int.zero_add]
 rw [hfin] at g8;have g1' : J7.get H.n = some ⟨[vC, vR, sE, .int .u8 p.wide, vV], 1, false⟩ := g.ext.get hg1;refine ⟨s', o', J8, ?_, ?_⟩;rotate_left
 ·have ho := (g8.own 0 rfl).base hx1.n;obtain ⟨o2, ho2, hlt⟩ := ho.toO;have hst : Star H J8 ([] ++ [itRow o2 1 s' encB (roomB p 2 0 vals)]) := (Star.nil H).more_row (hx1.trans g8.ext) ho2 fun b hb => ⟨hlt b hb, ho2.lt b hb⟩
  have h7 : o2 = o' := by
   have hr := g8.row 0 rfl;rcases hr with ⟨r1, r2, r3⟩ | ⟨b, r1, r2, r3⟩
   ·exfalso;have := congrArg List.length r2;unfold roomB at this;rw [List.length_append, room4_size, ← hN] at this;simp at this;omega
   ·rcases ho2 with ⟨q1, q2, q3⟩ | ⟨b2, q1, q2, q3⟩
    ·exfalso;have := congrArg List.length q2;unfold roomB at this;rw [List.length_append, room4_size, ← hN] at this;simp at this;omega
    ·rw [r1, q1];rw [r2] at q2;injection q2 with q2;injection q2 with q2;injection q2 with q2;rw [q2]
  subst h7;simpa using hst
 have hv5 : veq (.slice (some ⟨c5, 16, none⟩) 4 ((planRoom p 2 (List.replicate 4 0)).length - 16)) (.slice (some ⟨c5, 16, none⟩) 4 ((planRoom p 2 (List.replicate 4 0)).length - 16)) = true := by simp
 generalize (planRoom p 2 (List.replicate 4 0)).length - 16 = cap at cut1 cut2 f7 hv5;have cut1 : slS 1 s0 (some (.int .i64 16)) (some (.int .i64 20)) none J0 = .ok (.slice (some ⟨c5, 16, none⟩) 4 cap) J0 := cut1;have cut2 : slS 1 s0 (some (.int .i64 16)) (some (.int .i64 20)) none J6 = .ok (.slice (some ⟨c5, 16, none⟩) 4 cap) J6 := cut2;rw [hH1] at e0;have e0 : R (T k) F.swashlaw07_Write [.agg #[vC, vR, sE, .int .u8 p.wide], .int .i64 2, .int .i64 4] (H.push ⟨[vC, vR, sE, .int .u8 p.wide, vV], 1, false⟩) = .ok s0 J0 := e0;simp -implicitDefEqProofs (disch := omega) [swashlaw18_Write, e0, hln0, cut1, f6, cut2, f7, hv5, g1', hlnV, f8, swashlaw18_Write_l1k_x0]
theorem write18_fz (k : Nat) (hk : k < 1000000) (hW : ownW k = .no) (p : Plan) (hp : p.ok) (h1 : p.cls.length ≤ 1000) (h2 : p.rows.length ≤ 1000) (h3 : p.ents.length ≤ 1000) {H : Heap} {vC vR sE : Value} {rv : List (List Int × Value)} (hP : PlanSl H p vC vR sE rv)
  {vV : Value} {vals : List Int} (hV : Sl H 1 vV encH vals) (hvb : ∀ x, x ∈ vals → 0 ≤ x ∧ x < 65536) (h4 : vals.length ≤ 1000) :
  R (T k) F.swashlaw18_Write [.agg #[vC, vR, sE, .int .u8 p.wide, vV]] H = .ok (lv encB (roomB p 2 0 vals)) H := by
 obtain ⟨s, o, H', e, g⟩ := write18_core k hW p hp h1 h2 h3 hP hV hvb h4;rw [swashlaw18_Write_R];obtain ⟨L, hf⟩ := (g.own 0 rfl).freeze encB_len (fun n _ v hv => by simp at hv; subst hv; trivial) 6;exact nrm_fz (v := s) (H' := H') e hf g.ext (Flat.B _).alive
structure IPlan where
 p : Plan
 vals : List Int
structure IPlan.ok (x : IPlan) : Prop where
 p : x.p.ok
 vals : ∀ n, n ∈ x.vals → 0 ≤ n ∧ n < 65536
abbrev iplC (x : IPlan) : List Value := [lv encB x.p.cls, lv encBR x.p.rows, lv encEn x.p.ents, .int .u8 x.p.wide, lv encH x.vals]
abbrev iplV (x : IPlan) : Value := .agg (iplC x).toArray
def ISmall (x : IPlan) (n : Nat) : Prop := x.p.cls.length ≤ 40 ∧ x.p.rows.length ≤ 20 ∧ x.p.ents.length ≤ 40 ∧ x.vals.length ≤ 100 ∧ n ≤ 40
instance (x : IPlan) (n : Nat) : Decidable (ISmall x n) := by unfold ISmall; exact inferInstance
theorem speaks18_run (k : Nat) (hk : k % 1000000 = F.swashlaw18_speaks) (H : Heap) : R (T k) F.swashlaw18_speaks [] H = .ok (.bool true) H :=
 (R_sp (t := T k) (T_scott k) (s := constSp (.bool true)) (by unfold T C; dsimp only; rw [hk]; kernel_rfl) [] H).trans (nrm_gc (Pure.of rfl) (.bool _))
theorem small18_run (k : Nat) (x : IPlan) (ids : List Int) (H : Heap) : R (T k) F.swashlaw18_small [iplV x, lv encI ids] H = .ok (.bool (decide (ISmall x ids.length))) H := by
 rw [swashlaw18_small_R];refine nrm_gc ⟨_, ?_, (Ext.refl H).push ⟨iplC x, 1, false⟩⟩ (.bool _);unfold ISmall;by_cases h1 : x.p.cls.length ≤ 40
 ·have h1' : (x.p.cls.length : Int) ≤ 40 := by omega
  by_cases h2 : x.p.rows.length ≤ 20
  ·have h2' : (x.p.rows.length : Int) ≤ 20 := by omega
   by_cases h3 : x.p.ents.length ≤ 40
   ·have h3' : (x.p.ents.length : Int) ≤ 40 := by omega
    by_cases h4 : x.vals.length ≤ 100
    ·have h4' : (x.vals.length : Int) ≤ 100 := by omega
     by_cases h5 : ids.length ≤ 40
     ·have h5' : (ids.length : Int) ≤ 40 := by omega
      simp -implicitDefEqProofs [swashlaw18_small, h1, h2, h3, h4, h5, h1', h2', h3', h4', h5']
     ·have h5' : ¬ (ids.length : Int) ≤ 40 := by omega
      simp -implicitDefEqProofs [swashlaw18_small, h1, h2, h3, h4, h5, h1', h2', h3', h4', h5']
    ·have h4' : ¬ (x.vals.length : Int) ≤ 100 := by omega
     simp -implicitDefEqProofs [swashlaw18_small, h1, h2, h3, h4, h1', h2', h3', h4']
   ·have h3' : ¬ (x.p.ents.length : Int) ≤ 40 := by omega
    simp -implicitDefEqProofs [swashlaw18_small, h1, h2, h3, h1', h2', h3']
  ·have h2' : ¬ (x.p.rows.length : Int) ≤ 20 := by omega
   simp -implicitDefEqProofs [swashlaw18_small, h1, h2, h1', h2']
 ·have h1' : ¬ (x.p.cls.length : Int) ≤ 40 := by omega
  simp -implicitDefEqProofs [swashlaw18_small, h1, h1']
end Go.Sw
end
section
set_option maxRecDepth 100000
set_option linter.unusedVariables false
namespace Go.Sw
noncomputable section
end
end Go.Sw
end
section
set_option maxRecDepth 100000
set_option linter.unusedVariables false
namespace Go.Sw
noncomputable section
end
end Go.Sw
end
section
namespace Go.Sw
structure Pl where
 adv : Int
 x : Int
 y : Int
 deriving DecidableEq
def Pl.ok (p : Pl) : Prop := (-2147483648 ≤ p.adv ∧ p.adv ≤ 2147483647) ∧ (-2147483648 ≤ p.x ∧ p.x ≤ 2147483647) ∧ (-2147483648 ≤ p.y ∧ p.y ≤ 2147483647)
end Go.Sw
end
section
namespace Go.Sw
end Go.Sw
end
section
namespace Go.Sw
end Go.Sw
end
section
namespace Go.Sw
end Go.Sw
end
section
namespace Go.Sw
open Go.RowKit
end Go.Sw
end
section
namespace Go.Sw
open Go.RowKit
end Go.Sw
end
section
namespace Go.Sw
open Go.RowKit
def oddB (vs : List Int) (a : Int) : Bool := (List.range (vs.length / 2)).any fun i => decide (a ≤ (i : Int) ∧ gU vs (2 * (i : Int)) 2 % 2 = 1)
structure STab where
 m : Mach
 vals : List Int
structure STab.ok (t : STab) : Prop where
 m : t.m.ok
 byt : Byt t.vals
 len : t.vals.length < 2 ^ 31
 has : ∀ e, e ∈ t.m.ents → e.a = 65535 ∨ oddB t.vals e.a = true
end Go.Sw
end
section
namespace Go.Sw
open Go.RowKit
end Go.Sw
end
section
namespace Go.Sw
open Go.RowKit
theorem and_pow (n k : Nat) : n &&& 2 ^ k = if n.testBit k then 2 ^ k else 0 := by
 apply Nat.eq_of_testBit_eq;intro i;rw [Nat.testBit_and, Nat.testBit_two_pow];by_cases h : k = i
 ·subst h;cases hb : n.testBit k
  ·simp
  ·simp
 ·cases hb : n.testBit k
  ·simp [h]
  ·simp only [h, decide_false, Bool.and_false, if_true, Nat.testBit_two_pow]
theorem bin_andP (P : Program) (t : TypeId) (H : Heap) (k : Nat) (hk : k < 62) {a : Int} (h0 : 0 ≤ a) (h1 : a < 2 ^ 62) (m : Int) (hm : m = ((2 ^ k : Nat) : Int)) :
  binR P .and t (.int .i64 a) (.int .i64 m) H = .ok (.int .i64 (if a / m % 2 = 1 then m else 0)) H := by
 obtain ⟨n, rfl⟩ := Int.eq_ofNat_of_zero_le h0;have hp : 2 ^ k ≤ 2 ^ 61 := Nat.pow_le_pow_right (by decide) (by omega);have hp0 : 0 < 2 ^ k := Nat.two_pow_pos k;have e : (BitVec.ofInt 64 (n : Int) &&& BitVec.ofInt 64 m).toNat = if n.testBit k then 2 ^ k else 0 := by
  rw [BitVec.toNat_and, BitVec.toNat_ofInt, BitVec.toNat_ofInt, hm];rw [show (((n : Int)) % ((2 ^ 64 : Nat) : Int)).toNat = n by omega, show ((((2 ^ k : Nat) : Int)) % ((2 ^ 64 : Nat) : Int)).toNat = 2 ^ k by omega, and_pow]
 have e1 : binV P .and t (.int .i64 (n : Int)) (.int .i64 m) = some (.int .i64 (IntKind.i64.wrap (BitVec.ofInt 64 (n : Int) &&& BitVec.ofInt 64 m).toNat)) := rfl;unfold binR;rw [e1, e, Nat.testBit_eq_decide_div_mod_eq];have hd : (n : Int) / m = ((n / 2 ^ k : Nat) : Int) := by rw [hm, Int.natCast_ediv]
 rw [hd];by_cases h : n / 2 ^ k % 2 = 1
 ·rw [decide_eq_true h, if_pos rfl, if_pos (by omega), wrap_i64 (by omega) (by omega), hm]; rfl
 ·rw [decide_eq_false h, if_neg (by simp), if_neg (by omega)]; rfl
theorem and10 (P : Program) (t : TypeId) (H : Heap) {a : Int} (h0 : 0 ≤ a) (h1 : a < 65536) : binR P .and t (.int .i64 a) (.int .i64 1024) H = .ok (.int .i64 (if a / 1024 % 2 = 1 then 1024 else 0)) H := bin_andP P t H 10 (by decide) h0 (by omega) 1024 rfl
theorem and11 (P : Program) (t : TypeId) (H : Heap) {a : Int} (h0 : 0 ≤ a) (h1 : a < 65536) : binR P .and t (.int .i64 a) (.int .i64 2048) H = .ok (.int .i64 (if a / 2048 % 2 = 1 then 2048 else 0)) H := bin_andP P t H 11 (by decide) h0 (by omega) 2048 rfl
theorem bin_andL (P : Program) (t : TypeId) (H : Heap) (k : Nat) (hk : k < 62) {a : Int} (h0 : 0 ≤ a) (h1 : a < 2 ^ 62) (m : Int) (hm : m = ((2 ^ k : Nat) : Int) - 1) : binR P .and t (.int .i64 a) (.int .i64 m) H = .ok (.int .i64 (a % ((2 ^ k : Nat) : Int))) H := by
 obtain ⟨n, rfl⟩ := Int.eq_ofNat_of_zero_le h0;have hp : 2 ^ k ≤ 2 ^ 61 := Nat.pow_le_pow_right (by decide) (by omega);have hp0 : 0 < 2 ^ k := Nat.two_pow_pos k;have e : (BitVec.ofInt 64 (n : Int) &&& BitVec.ofInt 64 m).toNat = n % 2 ^ k := by
  rw [BitVec.toNat_and, BitVec.toNat_ofInt, BitVec.toNat_ofInt, hm];rw [show (((n : Int)) % ((2 ^ 64 : Nat) : Int)).toNat = n by omega, show ((((2 ^ k : Nat) : Int) - 1) % ((2 ^ 64 : Nat) : Int)).toNat = 2 ^ k - 1 by omega, Nat.and_two_pow_sub_one_eq_mod]
 have e1 : binV P .and t (.int .i64 (n : Int)) (.int .i64 m) = some (.int .i64 (IntKind.i64.wrap (BitVec.ofInt 64 (n : Int) &&& BitVec.ofInt 64 m).toNat)) := rfl;have hlt : n % 2 ^ k < 2 ^ k := Nat.mod_lt _ hp0;unfold binR;rw [e1, e, wrap_i64 (by omega) (by omega), Int.natCast_emod];rfl
theorem and5 (P : Program) (t : TypeId) (H : Heap) {a : Int} (h0 : 0 ≤ a) (h1 : a < 65536) : binR P .and t (.int .i64 a) (.int .i64 31) H = .ok (.int .i64 (a % 32)) H := bin_andL P t H 5 (by decide) h0 (by omega) 31 rfl
end Go.Sw
end
section
set_option maxRecDepth 100000
set_option linter.unusedVariables false
namespace Go.Sw
noncomputable section
end
end Go.Sw
end
section
namespace Go.Sw
open Go.RowKit
end Go.Sw
end
section
namespace Go.Sw
open Go.RowKit
end Go.Sw
end
section
namespace Go.Sw
open Go.RowKit
theorem and_two15 (n : Nat) : n &&& 2 ^ 15 = if n.testBit 15 then 2 ^ 15 else 0 := by
 apply Nat.eq_of_testBit_eq;intro i;rw [Nat.testBit_and, Nat.testBit_two_pow];by_cases h : 15 = i
 ·subst h;cases hb : n.testBit 15 <;> simp <;> decide
 ·cases hb : n.testBit 15
  ·simp [h]
  ·simp only [h, decide_false, Bool.and_false, if_true, Nat.testBit_two_pow]
theorem and15 (P : Program) (t : TypeId) (H : Heap) {a : Int} (h0 : 0 ≤ a) (h1 : a < 65536) : binR P .and t (.int .i64 a) (.int .i64 32768) H = .ok (.int .i64 (if a ≥ 32768 then 32768 else 0)) H := by
 have e : (BitVec.ofInt 64 a &&& BitVec.ofInt 64 32768).toNat = (if a ≥ 32768 then 32768 else 0) := by
  rw [BitVec.toNat_and, BitVec.toNat_ofInt, BitVec.toNat_ofInt];rw [show ((32768 : Int) % ((2 ^ 64 : Nat) : Int)).toNat = 2 ^ 15 from by decide, and_two15, Nat.testBit_eq_decide_div_mod_eq];obtain ⟨n, rfl⟩ := Int.eq_ofNat_of_zero_le h0;rw [show (((n : Int)) % ((2 ^ 64 : Nat) : Int)).toNat = n by omega];by_cases h : (n : Int) ≥ 32768
  ·rw [if_pos h, decide_eq_true (show n / 2 ^ 15 % 2 = 1 by omega)]; rfl
  ·rw [if_neg h, decide_eq_false (show ¬ n / 2 ^ 15 % 2 = 1 by omega)]; rfl
 have e1 : binV P .and t (.int .i64 a) (.int .i64 32768) = some (.int .i64 (IntKind.i64.wrap (BitVec.ofInt 64 a &&& BitVec.ofInt 64 32768).toNat)) := rfl;unfold binR;rw [e1, e];by_cases h : a ≥ 32768
 ·simp [h]
 ·simp [h]
end Go.Sw
end
section
namespace Go.Sw
open Go.RowKit
end Go.Sw
end
section
namespace Go.Sw
open Go.RowKit
theorem veq_Ens (l : List En) : veq (lv encEn l) (lv encEn l) = true := veq_lv fun p _ v hv => by
 simp [encEn] at hv;rcases hv with rfl | rfl | rfl | rfl <;> simp
theorem veq_Is (l : List Int) : veq (lv encI l) (lv encI l) = true := veq_lv fun p _ v hv => by
 simp [encI] at hv;subst hv; simp
theorem veq_Rows (l : List (List Int)) : veq (lv encRow l) (lv encRow l) = true := veq_lv fun p _ v hv => by
 simp [encRow] at hv;subst hv; exact veq_Is p
theorem veq_mach (m : Mach) : veq (machV m) (machV m) = true := veq_boxV (l := [.int .i64 m.classes, tabV m.tab, lv encRow m.rows, lv encEn m.ents]) fun v hv => by
 simp at hv;rcases hv with rfl | rfl | rfl | rfl
 ·simp
 ·exact veq_tab _
 ·exact veq_Rows _
 ·exact veq_Ens _
end Go.Sw
end
section
namespace Go.Sw
open Go.RowKit
end Go.Sw
end
section
namespace Go.Sw
open Go.RowKit
end Go.Sw
end
section
namespace Go.Sw
open Go.RowKit
structure ITab where
 m : Mach
 list : List Int
def hereS (e : En) : Int := if e.a = 65535 then 0 else e.flags / 32 % 32
def markS (e : En) : Int := if e.b = 65535 then 0 else e.flags % 32
def entIn (list : List Int) (e : En) : Bool := (decide (hereS e ≤ 0) || (rowsS list (2 * e.a) (hereS e) 2).isSome) && (decide (markS e ≤ 0) || (rowsS list (2 * e.b) (markS e) 2).isSome)
def insS (b : List Int) (g : Int) : Option ITab := (machS b g 2).bind fun m => (uS b 16 4).bind fun p => (restS b p).bind fun ls => if m.ents.all (entIn ls) then some ⟨m, ls⟩ else none
structure ITab.ok (t : ITab) : Prop where
 m : t.m.ok
 byt : Byt t.list
 len : t.list.length < 2 ^ 31
 has : ∀ e, e ∈ t.m.ents → (0 < hereS e → 2 * e.a + hereS e * 2 ≤ t.list.length) ∧ (0 < markS e → 2 * e.b + markS e * 2 ≤ t.list.length)
theorem insS_ok {b : List Int} (hb : Byt b) {g : Int} (h1 : 1 ≤ g) (h2 : g ≤ 65535) (hl : b.length < 2 ^ 31) {t : ITab} (h : insS b g = some t) : t.ok := by
 unfold insS at h;obtain ⟨m, hm, h⟩ := Option.bind_eq_some_iff.1 h;obtain ⟨p, hp, h⟩ := Option.bind_eq_some_iff.1 h;obtain ⟨ls, hv, h⟩ := Option.bind_eq_some_iff.1 h;split at h
 ·rename_i hc;injection h with h;subst h;have hlen := restS_len hv;refine ⟨machS_ok hb h1 h2 (by omega) hm, hb.rest hv, by dsimp only; omega, fun e he => ?_⟩;have := List.all_eq_true.1 hc e he;unfold entIn at this;rw [Bool.and_eq_true, Bool.or_eq_true, Bool.or_eq_true, decide_eq_true_eq, decide_eq_true_eq] at this;refine ⟨fun h0 => ?_, fun h0 => ?_⟩
  ·rcases this.1 with h | h
   ·omega
   ·obtain ⟨r, hr⟩ := Option.isSome_iff_exists.1 h;have := (rowsS_iff (by decide)).1 hr;dsimp only; omega
  ·rcases this.2 with h | h
   ·omega
   ·obtain ⟨r, hr⟩ := Option.isSome_iff_exists.1 h;have := (rowsS_iff (by decide)).1 hr;dsimp only; omega
 ·cases h
def insCl (l : List Gl) (i : Int) : Int := match atG l i with | some g => g.cl | none => ((atG l (i - 1)).getD ⟨0, 0⟩).cl
def insertG (l : List Gl) (i : Int) (ids : List Int) : List Gl := if 0 ≤ i ∧ i ≤ l.length then l.take i.toNat ++ (ids.map (fun x => (⟨x, insCl l i⟩ : Gl)) ++ l.drop i.toNat) else l
theorem insertG_len (l : List Gl) (i : Int) (ids : List Int) (h : 0 ≤ i ∧ i ≤ l.length) : (insertG l i ids).length = l.length + ids.length := by
 unfold insertG;rw [if_pos h];simp;omega
def listN (list : List Int) (at_ n : Int) : List Int := (List.range n.toNat).map fun (i : Nat) => gU list (2 * (at_ + (i : Int))) 2
theorem listN_len (list : List Int) (a n : Int) : (listN list a n).length = n.toNat := by simp [listN]
structure InsSt where
 l : List Gl
 mark : Int
 left : Int
 done : Int
 broke : Bool
def putS (list : List Int) (s : InsSt) (place a n : Int) : InsSt × Bool :=
 if n > s.left then ({ s with broke := true }, false) else ({ s with left := s.left - n, done := s.done + n, l := insertG s.l place (listN list a n) }, decide (0 ≤ place ∧ place ≤ s.l.length))
def markPlace (s : InsSt) (e : En) : Int := if e.flags / 1024 % 2 = 1 then s.mark else s.mark + 1
def act1 (list : List Int) (s : InsSt) (i : Int) (e : En) : InsSt × Int × Bool :=
 if markS e > 0 ∧ s.mark ≥ 0 then
  let r := putS list s (markPlace s e) e.b (markS e)
  if r.2 = false then (r.1, i, false)
  else ({ r.1 with mark := if markPlace s e ≤ r.1.mark then r.1.mark + markS e else r.1.mark }, if markPlace s e ≤ i then i + markS e else i, true)
 else (s, i, true)
def act2 (list : List Int) (s : InsSt) (i : Int) (e : En) : InsSt × Int × Int :=
 let over : Bool := decide (i ≥ s.l.length)
 let own : Int := if hereS e > 0 ∧ e.flags / 2048 % 2 = 1 then i + hereS e else i
 if hereS e > 0 then
  let place : Int := if e.flags / 2048 % 2 = 1 then i else min (i + 1) s.l.length
  let r := putS list s place e.a (hereS e)
  if r.2 = false then (r.1, i, i + 1)
  else
   let mk : Int := if place ≤ r.1.mark then r.1.mark + hereS e else r.1.mark
   ({ r.1 with mark := if e.flags ≥ 32768 ∧ over = false then own else mk }, i, i + hereS e + 1)
 else ({ s with mark := if e.flags ≥ 32768 ∧ over = false then own else s.mark }, i, i + hereS e + 1)
def actI (list : List Int) (s : InsSt) (i : Int) (e : En) : InsSt × Int × Int :=
 if s.broke then (s, i, i + 1)
 else
  let r := act1 list s i e
  if r.2.2 = false then (r.1, i, i + 1) else act2 list r.1 r.2.1 e
end Go.Sw
end
