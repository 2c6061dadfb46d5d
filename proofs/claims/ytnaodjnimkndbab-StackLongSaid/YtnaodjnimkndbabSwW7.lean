/-
  Functions' forms, and what is proved of them, part 7.
-/
import Derived.Test.YtnaodjnimkndbabSwW2
import Derived.Test.YtnaodjnimkndbabSwW6
import Derived.Test.YtnaodjnimkndbabSwW5
import Derived.Test.YtnaodjnimkndbabSwCfg
import Derived.Test.YtnaodjnimkndbabSwLib8
import Derived.Test.YtnaodjnimkndbabSwW3
import Derived.Test.YtnaodjnimkndbabSwW4
set_option linter.unusedSimpArgs false
set_option linter.unusedVariables false
set_option linter.unusedSectionVars false
section
namespace Go.Sw
open Go.RowKit
theorem planRoom_copyN (p : Plan) (w : Int) (rm r x : List Int) (h : rm.length = r.length) : ((planRoom p w rm) ++ x).take 16 ++ (r ++ ((planRoom p w rm) ++ x).drop (16 + r.length)) = planRoom p w r ++ x := by
 obtain ⟨hd, tl, h16, hs⟩ := room_split p w r.length
 rw [hs rm h, hs r rfl]
 rw [← h16, show hd ++ (rm ++ tl) ++ x = hd ++ (rm ++ (tl ++ x)) by simp, List.take_left, ← h]
 rw [show hd ++ (rm ++ (tl ++ x)) = (hd ++ rm) ++ (tl ++ x) by simp, show hd.length + rm.length = (hd ++ rm).length by simp, List.drop_left]
 simp
theorem twos_takeN (s : List Int) {j : Nat} {x : Int} (h : s[j]? = some x) : twos (s.take (j + 1)) = twos (s.take j) ++ bytesOf x 2 := by rw [take_snoc h, twos_snoc]
theorem wrap16 (x : Int) : IntKind.u16.wrap x = m16 x := by
 unfold IntKind.wrap m16
 simp [IntKind.signed, IntKind.bits]
theorem m16_lt (x : Int) : 0 ≤ m16 x ∧ m16 x < 65536 := by unfold m16; omega
abbrev enc16 (n : Int) : List Value := [.int .i16 n]
theorem enc16_len (n : Int) : (enc16 n).length = 1 := rfl
theorem w23_l1 (k : Nat) {H0 H : Heap} {o : Option Nat} {s7 : Value} {lk : List Int} (g : Star H0 H [itRow o 1 s7 encB lk]) {v : Value} {s : List Int} (hv : Sl H0 1 v enc16 s) (hl : lk.length + 2 * s.length < 2 ^ 29) :
  ∃ s' o' zz H', loopN (swashlaw23_Write_l1 k (R (T k))) loopFuel [(3, s7), (16, v), (17, .int .i64 s.length), (18, .int .i64 0)] H =
   .ok (.exit 0, [(3, s'), (16, v), (17, .int .i64 s.length), (18, zz), (19, .bool false)]) H' ∧ Star H0 H' [itRow o' 1 s' encB (lk ++ twos (s.map m16))] := by
 obtain ⟨xx, e', H1, hr1, rfl, s', o', rfl, g1⟩ := loop_up (body := swashlaw23_Write_l1 k (R (T k))) s.length
  (fun j e H' => ∃ s' o', e = [(3, s'), (16, v), (17, .int .i64 s.length), (18, .int .i64 j)] ∧ Star H0 H' [itRow o' 1 s' encB (lk ++ twos ((s.map m16).take j))])
  (fun xx e H' => xx = .exit 0 ∧ ∃ s' o', e = [(3, s'), (16, v), (17, .int .i64 s.length), (18, .int .i64 s.length), (19, .bool false)] ∧ Star H0 H' [itRow o' 1 s' encB (lk ++ twos (s.map m16))])
  (e0 := [(3, s7), (16, v), (17, .int .i64 s.length), (18, .int .i64 0)]) (H0 := H) ⟨s7, o, rfl, by simpa [twos] using g⟩ (by omega)
  (fun j e H' hj ⟨s', o', he, g⟩ => by
   subst he
   have hjl : (j : Int) < s.length := by omega
   obtain ⟨x, hx⟩ : ∃ x, s[j]? = some x := ⟨_, List.getElem?_eq_getElem hj⟩
   have hx2 : (s.map m16)[j]? = some (m16 x) := by rw [List.getElem?_map, hx]; rfl
   have hxb := m16_lt x
   obtain ⟨p, i1, i2⟩ := hv.ix1 enc16_len j x hx _ rfl
   have i2 := i2 H' g.ext
   have hw := wrap16 x
   obtain ⟨s2, o2, H2, e2, g2⟩ := Put_star k g 0 rfl (m16 x) 2 2 rfl hxb.1 (by omega) (by omega) (by rw [List.length_append, twos_len, List.length_take, List.length_map]; omega)
   simp only [List.set_cons_zero] at g2
   rw [List.append_assoc, ← twos_takeN _ hx2] at g2
   have hw64 : IntKind.i64.wrap (m16 x) = m16 x := wrap_i64 (by omega) (by omega)
   refine .inl ⟨_, H2, ?_, s2, o2, rfl, g2⟩
   rw [swashlaw23_Write_l1_eq]
   simp -implicitDefEqProofs (disch := omega) [hjl, i1, i2, hw, hw64, e2])
  (fun e H' ⟨s', o', he, g⟩ => by
   subst he
   rw [List.take_of_length_le (by simp)] at g
   refine ⟨.exit 0, _, H', ?_, by simp, rfl, s', o', rfl, g⟩
   rw [swashlaw23_Write_l1_eq]
   simp -implicitDefEqProofs)
 exact ⟨s', o', _, H1, hr1, g1⟩
set_option maxRecDepth 20000 in
set_option maxHeartbeats 1000000 in
theorem write23_core (k : Nat) (hW : ownW k = .no) (p : Plan) (hp : p.ok) (h1 : p.cls.length ≤ 1000) (h2 : p.rows.length ≤ 1000) (h3 : p.ents.length ≤ 1000) {H : Heap} {vC vR sE : Value} {rv : List (List Int × Value)} (hP : PlanSl H p vC vR sE rv)
  {vV : Value} {vals : List Int} (hV : Sl H 1 vV enc16 vals) (h4 : vals.length ≤ 1000) :
  ∃ s o H', swashlaw23_Write k (R (T k)) (.agg #[vC, vR, sE, .int .u8 p.wide, vV]) H = .ok s H' ∧ Star H H' [itRow o 1 s encB (roomB p 1 0 (vals.map m16))] := by
 obtain ⟨H1, hH1⟩ : ∃ H1, H1 = H.push ⟨[vC, vR, sE, .int .u8 p.wide, vV], 1, false⟩ := ⟨_, rfl⟩
 have hx1 : Ext H H1 := by rw [hH1]; exact (Ext.refl H).push _
 have hg1 : H1.get H.n = some ⟨[vC, vR, sE, .int .u8 p.wide, vV], 1, false⟩ := by rw [hH1]; exact get_push_eq _ _ _ rfl
 obtain ⟨N, hN⟩ : ∃ N, N = (planRoom p 1 (List.replicate 4 0)).length := ⟨_, rfl⟩
 have hNb : N ≤ 100000 := by rw [hN]; exact planRoom_len hp 1 (by simp) h1 h2 h3
 obtain ⟨s0, o0, J0, e0, g, _⟩ := Write_starG k hW p hp 1 (by omega) 4 (by omega) h1 h2 h3 (Star.nil H1) (hP.up hx1)
 rw [planBytes_room] at g
 simp only [List.nil_append] at g
 have gx0 := g.ext
 have hln0 : ∀ H', lnS s0 H' = .ok (.int .i64 N) H' := by rw [hN]; exact (g.row 0 rfl).len
 have hlnV : ∀ H', lnS vV H' = .ok (.int .i64 vals.length) H' := fun H' => hV.len H'
 have hN16 : 20 ≤ N := by rw [hN]; unfold planRoom; simp; omega
 obtain ⟨c5, rfl, hs5, cut1⟩ := g.cut1 0 rfl 16 4 (by omega) (by omega) .i64 .i64
 have g := g.more_row (Ext.refl _) (OwnO.nil encB _ 1) (fun b hb => by cases hb)
 simp only [List.cons_append, List.nil_append] at g
 obtain ⟨t6, u6, J6, f6, g⟩ := Put_star k g 1 rfl N 4 4 rfl (by omega) (by omega) (by omega) (by simp)
 simp only [List.set_cons_zero, List.set_cons_succ, List.nil_append] at g
 obtain ⟨c6, h6, _, cut2⟩ := g.cut1 0 rfl 16 4 (by omega) (by omega) .i64 .i64
 have h6 := Option.some.inj h6
 subst h6
 obtain ⟨J7, f7, g⟩ := g.copy1 0 1 rfl rfl 16 4 ((planRoom p 1 (List.replicate 4 0)).length - 16) (by simp) (by omega) (by omega)
 simp only [List.set_cons_zero] at g
 have hcopy := planRoom_copyN p 1 (List.replicate 4 0) (bytesOf (N : Int) 4) [] (by simp)
 rw [bytesOf_len, List.append_nil, List.append_nil] at hcopy
 rw [hcopy] at g
 have hrl : (planRoom p 1 (bytesOf (N : Int) 4)).length = N := by rw [hN]; exact planRoom_size p 1 _ _ (by simp)
 have g0 := g.take 1
 simp only [List.take_succ_cons, List.take_zero] at g0
 have hv7 := g0.get
 obtain ⟨s', o', zz, J8, f8, g8⟩ := w23_l1 k g0 (hV.up hx1) (by rw [hrl]; omega)
 have hfin : planRoom p 1 (bytesOf (N : Int) 4) ++ twos (vals.map m16) = roomB p 1 0 (vals.map m16) := by unfold roomB; rw [← hN, Int.zero_add]
 rw [hfin] at g8
 have g1' : J7.get H.n = some ⟨[vC, vR, sE, .int .u8 p.wide, vV], 1, false⟩ := g.ext.get hg1
 refine ⟨s', o', J8, ?_, ?_⟩
 rotate_left
 ·have ho := (g8.own 0 rfl).base hx1.n
  obtain ⟨o2, ho2, hlt⟩ := ho.toO
  have hst : Star H J8 ([] ++ [itRow o2 1 s' encB (roomB p 1 0 (vals.map m16))]) := (Star.nil H).more_row (hx1.trans g8.ext) ho2 fun b hb => ⟨hlt b hb, ho2.lt b hb⟩
  have h7 : o2 = o' := by
   have hr := g8.row 0 rfl
   rcases hr with ⟨r1, r2, r3⟩ | ⟨b, r1, r2, r3⟩
   ·exfalso
    have := congrArg List.length r2
    unfold roomB at this
    rw [List.length_append, room4_size, ← hN] at this
    simp at this
    omega
   ·rcases ho2 with ⟨q1, q2, q3⟩ | ⟨b2, q1, q2, q3⟩
    ·exfalso
     have := congrArg List.length q2
     unfold roomB at this
     rw [List.length_append, room4_size, ← hN] at this
     simp at this
     omega
    ·rw [r1, q1]
     rw [r2] at q2
     injection q2 with q2
     injection q2 with q2
     injection q2 with q2
     rw [q2]
  subst h7
  simpa using hst
 have hv5 : veq (.slice (some ⟨c5, 16, none⟩) 4 ((planRoom p 1 (List.replicate 4 0)).length - 16)) (.slice (some ⟨c5, 16, none⟩) 4 ((planRoom p 1 (List.replicate 4 0)).length - 16)) = true := by simp
 generalize (planRoom p 1 (List.replicate 4 0)).length - 16 = cap at cut1 cut2 f7 hv5
 have cut1 : slS 1 s0 (some (.int .i64 16)) (some (.int .i64 20)) none J0 = .ok (.slice (some ⟨c5, 16, none⟩) 4 cap) J0 := cut1
 have cut2 : slS 1 s0 (some (.int .i64 16)) (some (.int .i64 20)) none J6 = .ok (.slice (some ⟨c5, 16, none⟩) 4 cap) J6 := cut2
 rw [hH1] at e0
 have e0 : R (T k) F.swashlaw07_Write [.agg #[vC, vR, sE, .int .u8 p.wide], .int .i64 1, .int .i64 4] (H.push ⟨[vC, vR, sE, .int .u8 p.wide, vV], 1, false⟩) = .ok s0 J0 := e0
 simp -implicitDefEqProofs (disch := omega) [swashlaw23_Write, e0, hln0, cut1, f6, cut2, f7, hv5, g1', hlnV, f8, swashlaw23_Write_l1k_x0]
theorem write23_fz (k : Nat) (hk : k < 1000000) (hW : ownW k = .no) (p : Plan) (hp : p.ok) (h1 : p.cls.length ≤ 1000) (h2 : p.rows.length ≤ 1000) (h3 : p.ents.length ≤ 1000) {H : Heap} {vC vR sE : Value} {rv : List (List Int × Value)} (hP : PlanSl H p vC vR sE rv)
  {vV : Value} {vals : List Int} (hV : Sl H 1 vV enc16 vals) (h4 : vals.length ≤ 1000) :
  R (T k) F.swashlaw23_Write [.agg #[vC, vR, sE, .int .u8 p.wide, vV]] H = .ok (lv encB (roomB p 1 0 (vals.map m16))) H := by
 obtain ⟨s, o, H', e, g⟩ := write23_core k hW p hp h1 h2 h3 hP hV h4
 rw [swashlaw23_Write_R]
 have ho : own k = .fz := by
  unfold own
  rw [show Nat.blt k 1000000 = true from Nat.ble_eq_true_of_le hk]
  rfl
 rw [ho]
 obtain ⟨L, hf⟩ := (g.own 0 rfl).freeze encB_len (fun n _ v hv => by simp at hv; subst hv; trivial) 6
 exact nrm_fz (v := s) (H' := H') e hf g.ext (Flat.B _).alive
structure SPlan where
 p : Plan
 vals : List Int
def SPlan.ok (x : SPlan) : Prop := x.p.ok
def SSmall (x : SPlan) (n : Nat) : Prop := x.p.cls.length ≤ 40 ∧ x.p.rows.length ≤ 20 ∧ x.p.ents.length ≤ 40 ∧ x.vals.length ≤ 100 ∧ n ≤ 60
instance (x : SPlan) (n : Nat) : Decidable (SSmall x n) := by unfold SSmall; exact inferInstance
theorem speaks23_run (k : Nat) (hk : k % 1000000 = F.swashlaw23_speaks) (H : Heap) : R (T k) F.swashlaw23_speaks [] H = .ok (.bool true) H :=
 (R_sp (t := T k) (T_scott k) (s := constSp (.bool true)) (by unfold T C; dsimp only; rw [hk]; kernel_rfl) [] H).trans (nrm_gc (Pure.of rfl) (.bool _))
end Go.Sw
end
section
set_option maxRecDepth 100000
set_option linter.unusedVariables false
namespace Go.Sw
noncomputable section
def place_New_l1 (k : Nat) (call : Caller) : Env → Heap → Res (AExit × Env) := loopB (C k) call F.place_New [1, 1, 0, 1, 0, 0]
def place_New_l1k (k : Nat) (call : Caller) : Kont Value := kBlock 0 (kSeq (pieceK (C k) call F.place_New [1, 1, 1]) (kDone Prog (resOf Prog F.place_New)))
def place_New (k : Nat) (call : Caller) (a0 a1 : Value) (h : Heap) : Res Value :=
 (binR Prog .eql 3 a0 (.int .i64 2) h).bind fun v1 h2 =>
 (buildR Prog 210 [(0, v1)] h2).bind fun v3 h4 =>
 (boxR v3 h4).bind fun v5 h6 =>
 (builtinV Prog .len [27] [a1] h6).bind fun v7 h8 =>
 (loopN (place_New_l1 k call) loopFuel [(5, v5), (12, a1), (13, v7), (14, (.int .i64 0))] h8).bind fun r9 h10 =>
 place_New_l1k k call r9.1 r9.2 h10
theorem place_New_R (k : Nat) (a0 a1 : Value) (h : Heap) : R (T k) F.place_New [a0, a1] h = nrm .no h (place_New k (R (T k)) a0 a1 h) :=
 (R_body (t := T k) (T_scott k) (by kernel_rfl) (by kernel_rfl) _ _).trans (by kernel_rfl)
theorem place_New_l1_eq (k : Nat) (call : Caller) (a5 a12 a13 a14 : Value) (h : Heap) : place_New_l1 k call [(5, a5), (12, a12), (13, a13), (14, a14)] h =
 (binR Prog .lss 3 a14 a13 h).bind fun v11 h12 =>
 condV (some v11) (
 (indexAddrR Prog 27 a12 a14 h12).bind fun v13 h14 =>
 (loadR Prog 3 v13 h14).bind fun v15 h16 =>
 (nilR a5 h16).bindN fun v17 h18 =>
 (fieldAddrR Prog 210 v17 1 h18).bindN fun v19 h20 =>
 (loadR Prog 70 v19 h20).bindN fun v21 h22 =>
 (call F.place_Clamp [v15] h22).bindT (fun p25 h26 => .panic p25 h26) fun v23 h24 =>
 (buildR Prog 91 [(0, v23)] h24).bindN fun v27 h28 =>
 (buildSliceR Prog 70 1 [(0, v27)] h28).bindN fun v29 h30 =>
 (builtinV Prog .append [70, 70] [v21, v29] h30).bindN fun v31 h32 =>
 (nilR a5 h32).bindN fun v33 h34 =>
 (fieldAddrR Prog 210 v33 1 h34).bindN fun v35 h36 =>
 (storeR Prog 70 v35 v31 h36).bindN fun _v37 h38 =>
 chkR ((okVal (loadR Prog 70 v19 h24) v21 && (okVal (loadR Prog 70 v19 h30) v21 && true)) && true) (
 (binR Prog .add 3 a14 (.int .i64 1) h38).bind fun v39 h40 =>
 .ok (.normal, [(5, a5), (12, a12), (13, a13), (14, v39)]) h40))
 (
 .ok ((.exit 0), [(5, a5), (12, a12), (13, a13), (14, a14), (15, v11)]) h12) :=
 (loopB_eq _ _).trans (by kernel_rfl)
theorem place_New_l1k_x0 (k : Nat) (call : Caller) (a5 a12 a13 a14 a15 : Value) (h : Heap) : place_New_l1k k call (.exit 0) [(5, a5), (12, a12), (13, a13), (14, a14), (15, a15)] h =
 .ok a5 h := by kernel_rfl
def place_Places_All (k : Nat) (call : Caller) (a0 : Value) (h : Heap) : Res Value :=
 (nilR a0 h).bind fun v1 h2 =>
 (fieldAddrR Prog 210 v1 1 h2).bind fun v3 h4 =>
 (loadR Prog 70 v3 h4).bind fun v5 h6 =>
 (call F.slices_Clone_of_api_Place_api_Place [v5] h6).bind fun v7 h8 =>
 .ok v7 h8
theorem place_Places_All_R (k : Nat) (a0 : Value) (h : Heap) : R (T k) F.place_Places_All [a0] h = nrm (own k) h (place_Places_All k (R (T k)) a0 h) :=
 (R_body (t := T k) (T_scott k) (by kernel_rfl) (by kernel_rfl) _ _).trans (by kernel_rfl)
def place_Places_Along (k : Nat) (call : Caller) (a0 a1 a2 : Value) (h : Heap) : Res Value :=
 (call F.place_Places_at [a0, a1] h).bind fun v1 h2 =>
 (nilR v1 h2).bind fun v3 h4 =>
 (fieldAddrR Prog 91 v3 0 h4).bind fun v5 h6 =>
 (loadR Prog 21 v5 h6).bind fun v7 h8 =>
 (call F.place_Add [v7, a2] h8).bind fun v9 h10 =>
 (nilR v1 h10).bind fun v11 h12 =>
 (fieldAddrR Prog 91 v11 0 h12).bind fun v13 h14 =>
 (storeR Prog 21 v13 v9 h14).bind fun _v15 h16 =>
 .ok (.tuple #[]) h16
theorem place_Places_Along_R (k : Nat) (a0 a1 a2 : Value) (h : Heap) : R (T k) F.place_Places_Along [a0, a1, a2] h = nrm .no h (place_Places_Along k (R (T k)) a0 a1 a2 h) :=
 (R_body (t := T k) (T_scott k) (by kernel_rfl) (by kernel_rfl) _ _).trans (by kernel_rfl)
def place_Clamp (k : Nat) (call : Caller) (a0 : Value) (h : Heap) : Res Value :=
 (builtinV Prog .max [3, 3] [a0, (.int .i64 (-2147483648))] h).bind fun v1 h2 =>
 (builtinV Prog .min [3, 3] [v1, (.int .i64 2147483647)] h2).bind fun v3 h4 =>
 (convR Prog 3 21 v3 h4).bind fun v5 h6 =>
 .ok v5 h6
theorem place_Clamp_R (k : Nat) (a0 : Value) (h : Heap) : R (T k) F.place_Clamp [a0] h = nrm .gc h (place_Clamp k (R (T k)) a0 h) :=
 (R_body (t := T k) (T_scott k) (by kernel_rfl) (by kernel_rfl) _ _).trans (by kernel_rfl)
def place_Places_at (k : Nat) (call : Caller) (a0 a1 : Value) (h : Heap) : Res Value :=
 (binR Prog .lss 3 a1 (.int .i64 0) h).bind fun v1 h2 =>
 ((bif wantVal v1 false then Res.ok a1 h2 else Res.ok undef h2)).bind fun v3 h4 =>
 ((bif wantVal v1 false then Res.ok a0 h4 else Res.ok undef h4)).bind fun v5 h6 =>
 ((bif wantVal v1 false then nilR v5 h6 else Res.ok undef h6)).bind fun v7 h8 =>
 ((bif wantVal v1 false then fieldAddrR Prog 210 v7 1 h8 else Res.ok undef h8)).bind fun v9 h10 =>
 ((bif wantVal v1 false then loadR Prog 70 v9 h10 else Res.ok undef h10)).bind fun v11 h12 =>
 ((bif wantVal v1 false then builtinV Prog .len [70] [v11] h12 else Res.ok undef h12)).bind fun v13 h14 =>
 ((bif wantVal v1 false then binR Prog .geq 3 v3 v13 h14 else Res.ok undef h14)).bind fun v15 h16 =>
 (condV (some v1) (Res.ok (.bool true) h16) (Res.ok v15 h16)).bind fun v17 h18 =>
 condV (some v17) (
 (allocR Prog 91 h18).bind fun v19 h20 =>
 .ok v19 h20)
 (
 (nilR a0 h18).bind fun v21 h22 =>
 (fieldAddrR Prog 210 v21 1 h22).bind fun v23 h24 =>
 (loadR Prog 70 v23 h24).bind fun v25 h26 =>
 (indexAddrR Prog 70 v25 a1 h26).bind fun v27 h28 =>
 .ok v27 h28)
theorem place_Places_at_R (k : Nat) (a0 a1 : Value) (h : Heap) : R (T k) F.place_Places_at [a0, a1] h = nrm .no h (place_Places_at k (R (T k)) a0 a1 h) :=
 (R_body (t := T k) (T_scott k) (by kernel_rfl) (by kernel_rfl) _ _).trans (by kernel_rfl)
def place_Add (k : Nat) (call : Caller) (a0 a1 : Value) (h : Heap) : Res Value :=
 (convR Prog 21 3 a0 h).bind fun v1 h2 =>
 (call F.place_Clamp [a1] h2).bind fun v3 h4 =>
 (convR Prog 21 3 v3 h4).bind fun v5 h6 =>
 (binR Prog .add 3 v1 v5 h6).bind fun v7 h8 =>
 (call F.place_Clamp [v7] h8).bind fun v9 h10 =>
 .ok v9 h10
theorem place_Add_R (k : Nat) (a0 a1 : Value) (h : Heap) : R (T k) F.place_Add [a0, a1] h = nrm .gc h (place_Add k (R (T k)) a0 a1 h) :=
 (R_body (t := T k) (T_scott k) (by kernel_rfl) (by kernel_rfl) _ _).trans (by kernel_rfl)
def place_Places_Level (k : Nat) (call : Caller) (a0 a1 : Value) (h : Heap) : Res Value :=
 (call F.place_Places_side [a0, a1] h).bind fun v1 h2 =>
 (nilR v1 h2).bind fun v3 h4 =>
 (storeR Prog 21 v3 (.int .i32 0) h4).bind fun _v5 h6 =>
 .ok (.tuple #[]) h6
theorem place_Places_Level_R (k : Nat) (a0 a1 : Value) (h : Heap) : R (T k) F.place_Places_Level [a0, a1] h = nrm .no h (place_Places_Level k (R (T k)) a0 a1 h) :=
 (R_body (t := T k) (T_scott k) (by kernel_rfl) (by kernel_rfl) _ _).trans (by kernel_rfl)
def place_Places_Across (k : Nat) (call : Caller) (a0 a1 a2 : Value) (h : Heap) : Res Value :=
 (call F.place_Places_side [a0, a1] h).bind fun v1 h2 =>
 (nilR v1 h2).bind fun v3 h4 =>
 (loadR Prog 21 v3 h4).bind fun v5 h6 =>
 (call F.place_Add [v5, a2] h6).bind fun v7 h8 =>
 (nilR v1 h8).bind fun v9 h10 =>
 (storeR Prog 21 v9 v7 h10).bind fun _v11 h12 =>
 .ok (.tuple #[]) h12
theorem place_Places_Across_R (k : Nat) (a0 a1 a2 : Value) (h : Heap) : R (T k) F.place_Places_Across [a0, a1, a2] h = nrm .no h (place_Places_Across k (R (T k)) a0 a1 a2 h) :=
 (R_body (t := T k) (T_scott k) (by kernel_rfl) (by kernel_rfl) _ _).trans (by kernel_rfl)
def place_Places_side (k : Nat) (call : Caller) (a0 a1 : Value) (h : Heap) : Res Value :=
 (call F.place_Places_at [a0, a1] h).bind fun v1 h2 =>
 (nilR a0 h2).bind fun v3 h4 =>
 (fieldAddrR Prog 210 v3 0 h4).bind fun v5 h6 =>
 (loadR Prog 4 v5 h6).bind fun v7 h8 =>
 condV (some v7) (
 (nilR v1 h8).bind fun v9 h10 =>
 (fieldAddrR Prog 91 v9 1 h10).bind fun v11 h12 =>
 .ok v11 h12)
 (
 (nilR v1 h8).bind fun v13 h14 =>
 (fieldAddrR Prog 91 v13 2 h14).bind fun v15 h16 =>
 .ok v15 h16)
theorem place_Places_side_R (k : Nat) (a0 a1 : Value) (h : Heap) : R (T k) F.place_Places_side [a0, a1] h = nrm .no h (place_Places_side k (R (T k)) a0 a1 h) :=
 (R_body (t := T k) (T_scott k) (by kernel_rfl) (by kernel_rfl) _ _).trans (by kernel_rfl)
end
end Go.Sw
end
section
set_option maxRecDepth 100000
set_option linter.unusedVariables false
namespace Go.Sw
noncomputable section
end
end Go.Sw
end
section
namespace Go.Sw
def clampI (n : Int) : Int := if n > 2147483647 then 2147483647 else if n < -2147483648 then -2147483648 else n
theorem clampI_lo (n : Int) : -2147483648 ≤ clampI n := by unfold clampI; omega
theorem clampI_hi (n : Int) : clampI n ≤ 2147483647 := by unfold clampI; omega
@[simp] theorem Clamp_run (k : Nat) (x : Int) (H : Heap) : R (T k) F.place_Clamp [.int .i64 x] H = .ok (.int .i32 (clampI x)) H := by
 rw [place_Clamp_R]
 refine nrm_gc (Pure.of ?_) (.int _ _)
 simp only [place_Clamp, max_int, min_int, Res.bind_ok, cv_3_21, cvK_int]
 congr 2
 unfold clampI
 rw [wrap_i32] <;> omega
def addI (a n : Int) : Int := clampI (a + clampI n)
theorem addI_lo (a n : Int) : -2147483648 ≤ addI a n := clampI_lo _
theorem addI_hi (a n : Int) : addI a n ≤ 2147483647 := clampI_hi _
theorem Add_run (k : Nat) (a x : Int) (h1 : -2147483648 ≤ a) (h2 : a ≤ 2147483647) (H : Heap) : R (T k) F.place_Add [.int .i32 a, .int .i64 x] H = .ok (.int .i32 (addI a x)) H := by
 have := clampI_lo x
 have := clampI_hi x
 rw [place_Add_R]
 refine nrm_gc (Pure.of ?_) (.int _ _)
 simp (disch := omega) [place_Add, addI]
structure Pl where
 adv : Int
 x : Int
 y : Int
 deriving DecidableEq
def Pl.ok (p : Pl) : Prop := (-2147483648 ≤ p.adv ∧ p.adv ≤ 2147483647) ∧ (-2147483648 ≤ p.x ∧ p.x ≤ 2147483647) ∧ (-2147483648 ≤ p.y ∧ p.y ≤ 2147483647)
abbrev encP (p : Pl) : List Value := [.int .i32 p.adv, .int .i32 p.x, .int .i32 p.y]
theorem encP_len (p : Pl) : (encP p).length = 3 := rfl
theorem encP_still (l : List Pl) : ∀ p, p ∈ l → ∀ v, v ∈ encP p → Still v := by
 intro p _ v hv
 simp [encP] at hv
 rcases hv with rfl | rfl | rfl <;> trivial
theorem encP_flat (l : List Pl) : ∀ p, p ∈ l → Flats (encP p) := fun p _ => .cons (.int _ _) (.cons (.int _ _) (.cons (.int _ _) .nil))
end Go.Sw
end
section
namespace Go.Sw
def newPl (l : List Int) : List Pl := l.map fun n => ⟨clampI n, 0, 0⟩
def updPl (l : List Pl) (i : Int) (f : Pl → Pl) : List Pl := if 0 ≤ i then l.modify i.toNat f else l
def levelPl (l : List Pl) (down : Bool) (i : Int) : List Pl := updPl l i fun p => if down then ⟨p.adv, 0, p.y⟩ else ⟨p.adv, p.x, 0⟩
end Go.Sw
end
section
namespace Go.Sw
def PlAt (H : Heap) (p : Nat) (o : Option Nat) (down : Bool) (l : List Pl) : Prop :=
 (∀ b, o = some b → b ≠ p) ∧ ∃ s, H.get p = some ⟨[.bool down, s], 1, false⟩ ∧ OwnO H o 3 s encP l
theorem PlAt.up {H H' : Heap} {p : Nat} {o : Option Nat} {down : Bool} {l : List Pl} (h : PlAt H p o down l) (hp : H'.get p = H.get p) (ho : ∀ b, o = some b → H'.get b = H.get b) : PlAt H' p o down l := by
 obtain ⟨h1, s, h2, h3⟩ := h
 exact ⟨h1, s, by rw [hp]; exact h2, h3.up ho⟩
theorem PlAt.lt {H : Heap} {p : Nat} {o : Option Nat} {down : Bool} {l : List Pl} (h : PlAt H p o down l) : p < H.n := by
 obtain ⟨_, s, h2, _⟩ := h
 exact Heap.get_lt h2
theorem PlAt.lto {H : Heap} {p : Nat} {o : Option Nat} {down : Bool} {l : List Pl} (h : PlAt H p o down l) : ∀ b, o = some b → b < H.n := by
 obtain ⟨_, s, _, h3⟩ := h
 intro b hb
 rcases h3 with ⟨h4, _⟩ | ⟨c, h4, _, h5⟩
 ·rw [h4] at hb; cases hb
 ·rw [h4] at hb; injection hb with hb; subst hb; exact Heap.get_lt h5
theorem PlAt.ext {H H' : Heap} {p : Nat} {o : Option Nat} {down : Bool} {l : List Pl} (h : PlAt H p o down l) (hx : Ext H H') : PlAt H' p o down l :=
 h.up (hx.2 p h.lt (by simp)) fun b hb => hx.2 b (h.lto b hb) (by simp)
def fpP (p : Nat) (o : Option Nat) : List Nat := p :: o.toList
theorem plAt_run (k : Nat) {H : Heap} {p : Nat} {o : Option Nat} {down : Bool} {l : List Pl} (h : PlAt H p o down l) (hok : ∀ q, q ∈ l → q.ok) (i : Int) :
  ∃ H1 b j l' q e, R (T k) F.place_Places_at [.pointer (some ⟨p, 0, none⟩), .int .i64 i] H = .ok (.pointer (some ⟨b, j * 3, none⟩)) H1 ∧ b ≠ p ∧ H1.get b = some ⟨rows encP l', e, false⟩ ∧ l'[j]? = some q ∧ q.ok ∧ H1.get p = H.get p ∧
   ∀ (H2 : Heap) (f : Pl → Pl), H2.get b = some ⟨rows encP (l'.set j (f q)), e, false⟩ → (∀ c, c ≠ b → H2.get c = H1.get c) → H2.n = H1.n → PlAt H2 p o down (updPl l i f) ∧ Keeps (fpP p o) H H2 := by
 have hh := h
 have hlt := h.lt
 have hlto := h.lto
 obtain ⟨hne, s, h2, h3⟩ := h
 rw [place_Places_at_R]
 by_cases hi : 0 ≤ i ∧ i < l.length
 ·obtain ⟨n, rfl⟩ : ∃ n : Nat, i = n := ⟨i.toNat, by omega⟩
  have hn : n < l.length := by omega
  obtain ⟨q, hq⟩ : ∃ q, l[n]? = some q := ⟨l[n], List.getElem?_eq_getElem hn⟩
  obtain ⟨b, rfl, rfl, hb, hix⟩ := h3.ix .i64 n hn
  have h0 : ¬ (n : Int) < 0 := by omega
  have h1 : ¬ (l.length : Int) ≤ n := by omega
  refine ⟨H, b, n, l, q, 3, by simp -implicitDefEqProofs [place_Places_at, h2, h0, h1, hix], hne b rfl, hb, hq, hok q (List.mem_of_getElem? hq), rfl, fun H2 f g1 g2 g3 => ⟨⟨hne, _, by rw [g2 p (fun e => hne b rfl e.symm)]; exact h2, ?_⟩, by rw [g3]; exact Nat.le_refl _, fun c hc hs => g2 c fun e => hs (by simp [fpP, e])⟩⟩
  have : updPl l n f = l.set n (f q) := by
   unfold updPl
   rw [if_pos (by omega), Int.toNat_natCast, modify_set _ l n q hq]
  rw [this]
  exact .inr ⟨b, rfl, by simp, g1⟩
 ·refine ⟨H.push ⟨[.int .i32 0, .int .i32 0, .int .i32 0], 1, false⟩, H.n, 0, [⟨0, 0, 0⟩], ⟨0, 0, 0⟩, 1, ?_, by omega, by rw [Heap.get_push, if_pos rfl]; rfl, rfl, by unfold Pl.ok; simp, get_push_lt _ _ _ hlt, fun H2 f g1 g2 g3 => ?_⟩
  ·by_cases h0 : i < 0
   ·simp -implicitDefEqProofs [place_Places_at, h0]
   ·have h1 : (l.length : Int) ≤ i := by omega
    simp -implicitDefEqProofs [place_Places_at, h0, h2, h3.len, h1]
  ·have : updPl l i f = l := by
    unfold updPl
    split
    ·exact modify_none _ _ _ (by omega)
    ·rfl
   rw [this]
   have hx : Ext H H2 := ⟨by rw [g3]; simp, fun c hc hs => by rw [g2 c (by omega)]; exact get_push_lt _ _ _ hc⟩
   exact ⟨hh.ext hx, hx.1, fun c hc _ => hx.2 c hc (by simp)⟩
theorem Along_run (k : Nat) {H : Heap} {p : Nat} {o : Option Nat} {down : Bool} {l : List Pl} (h : PlAt H p o down l) (hok : ∀ q, q ∈ l → q.ok) (i n : Int) :
  ∃ H2, R (T k) F.place_Places_Along [.pointer (some ⟨p, 0, none⟩), .int .i64 i, .int .i64 n] H = .ok (.tuple #[]) H2 ∧ PlAt H2 p o down (updPl l i fun q => ⟨addI q.adv n, q.x, q.y⟩) ∧ Keeps (fpP p o) H H2 := by
 obtain ⟨H1, b, j, l', q, e, a1, _, a2, a3, a4, _, a5⟩ := plAt_run k h hok i
 have r1 := ld1_row encP_len a2 (c := 0) a3 (by decide) rfl
 obtain ⟨H2, s1, g1, k1, n1⟩ := st_row encP_len a2 (c := 0) (n := 1) ⟨addI q.adv n, q.x, q.y⟩ (v := .int .i32 (addI q.adv n)) a3 rfl rfl (by decide) rfl
 obtain ⟨b1, b2⟩ := a5 H2 (fun q => ⟨addI q.adv n, q.x, q.y⟩) g1 k1 n1
 refine ⟨H2, ?_, b1, b2⟩
 simp only [Nat.add_zero] at r1 s1
 rw [place_Places_Along_R]
 simp -implicitDefEqProofs [-ld1_ptr, -stR_ptr, place_Places_Along, a1, r1, s1, Add_run _ _ _ a4.1.1 a4.1.2]
theorem side_run (k : Nat) {H : Heap} {p : Nat} {o : Option Nat} {down : Bool} {l : List Pl} (h : PlAt H p o down l) (hok : ∀ q, q ∈ l → q.ok) (i : Int) :
  ∃ H1 b j l' q e, R (T k) F.place_Places_side [.pointer (some ⟨p, 0, none⟩), .int .i64 i] H = .ok (.pointer (some ⟨b, j * 3 + (if down then 1 else 2), none⟩)) H1 ∧ H1.get b = some ⟨rows encP l', e, false⟩ ∧ l'[j]? = some q ∧ q.ok ∧
   ∀ (H2 : Heap) (f : Pl → Pl), H2.get b = some ⟨rows encP (l'.set j (f q)), e, false⟩ → (∀ c, c ≠ b → H2.get c = H1.get c) → H2.n = H1.n → PlAt H2 p o down (updPl l i f) ∧ Keeps (fpP p o) H H2 := by
 obtain ⟨H1, b, j, l', q, e, a1, a0, a2, a3, a4, ap, a5⟩ := plAt_run k h hok i
 obtain ⟨_, s, h2, _⟩ := h
 refine ⟨H1, b, j, l', q, e, ?_, a2, a3, a4, a5⟩
 rw [place_Places_side_R]
 rw [← ap] at h2
 cases down <;> simp -implicitDefEqProofs [place_Places_side, a1, h2]
theorem Across_run (k : Nat) {H : Heap} {p : Nat} {o : Option Nat} {down : Bool} {l : List Pl} (h : PlAt H p o down l) (hok : ∀ q, q ∈ l → q.ok) (i n : Int) :
  ∃ H2, R (T k) F.place_Places_Across [.pointer (some ⟨p, 0, none⟩), .int .i64 i, .int .i64 n] H = .ok (.tuple #[]) H2 ∧ PlAt H2 p o down (updPl l i fun q => if down then ⟨q.adv, addI q.x n, q.y⟩ else ⟨q.adv, q.x, addI q.y n⟩) ∧ Keeps (fpP p o) H H2 := by
 obtain ⟨H1, b, j, l', q, e, a1, a2, a3, a4, a5⟩ := side_run k h hok i
 rw [place_Places_Across_R]
 cases down
 ·have r1 := ld1_row encP_len a2 (c := 2) a3 (by decide) rfl
  obtain ⟨H2, s1, g1, k1, n1⟩ := st_row encP_len a2 (c := 2) (n := 1) ⟨q.adv, q.x, addI q.y n⟩ (v := .int .i32 (addI q.y n)) a3 rfl rfl (by decide) rfl
  obtain ⟨b1, b2⟩ := a5 H2 (fun q => ⟨q.adv, q.x, addI q.y n⟩) g1 k1 n1
  refine ⟨H2, ?_, by simpa using b1, b2⟩
  simp only [Bool.false_eq_true, if_false] at a1
  simp -implicitDefEqProofs [-ld1_ptr, -stR_ptr, place_Places_Across, a1, r1, s1, Add_run _ _ _ a4.2.2.1 a4.2.2.2]
 ·have r1 := ld1_row encP_len a2 (c := 1) a3 (by decide) rfl
  obtain ⟨H2, s1, g1, k1, n1⟩ := st_row encP_len a2 (c := 1) (n := 1) ⟨q.adv, addI q.x n, q.y⟩ (v := .int .i32 (addI q.x n)) a3 rfl rfl (by decide) rfl
  obtain ⟨b1, b2⟩ := a5 H2 (fun q => ⟨q.adv, addI q.x n, q.y⟩) g1 k1 n1
  refine ⟨H2, ?_, by simpa using b1, b2⟩
  simp only [if_true] at a1
  simp -implicitDefEqProofs [-ld1_ptr, -stR_ptr, place_Places_Across, a1, r1, s1, Add_run _ _ _ a4.2.1.1 a4.2.1.2]
theorem Level_run (k : Nat) {H : Heap} {p : Nat} {o : Option Nat} {down : Bool} {l : List Pl} (h : PlAt H p o down l) (hok : ∀ q, q ∈ l → q.ok) (i : Int) :
  ∃ H2, R (T k) F.place_Places_Level [.pointer (some ⟨p, 0, none⟩), .int .i64 i] H = .ok (.tuple #[]) H2 ∧ PlAt H2 p o down (levelPl l down i) ∧ Keeps (fpP p o) H H2 := by
 obtain ⟨H1, b, j, l', q, e, a1, a2, a3, a4, a5⟩ := side_run k h hok i
 rw [place_Places_Level_R]
 cases down
 ·obtain ⟨H2, s1, g1, k1, n1⟩ := st_row encP_len a2 (c := 2) (n := 1) ⟨q.adv, q.x, 0⟩ (v := .int .i32 0) a3 rfl rfl (by decide) rfl
  obtain ⟨b1, b2⟩ := a5 H2 (fun q => ⟨q.adv, q.x, 0⟩) g1 k1 n1
  refine ⟨H2, ?_, by simpa [levelPl] using b1, b2⟩
  simp only [Bool.false_eq_true, if_false] at a1
  simp -implicitDefEqProofs [-ld1_ptr, -stR_ptr, place_Places_Level, a1, s1]
 ·obtain ⟨H2, s1, g1, k1, n1⟩ := st_row encP_len a2 (c := 1) (n := 1) ⟨q.adv, 0, q.y⟩ (v := .int .i32 0) a3 rfl rfl (by decide) rfl
  obtain ⟨b1, b2⟩ := a5 H2 (fun q => ⟨q.adv, 0, q.y⟩) g1 k1 n1
  refine ⟨H2, ?_, by simpa [levelPl] using b1, b2⟩
  simp only [if_true] at a1
  simp -implicitDefEqProofs [-ld1_ptr, -stR_ptr, place_Places_Level, a1, s1]
end Go.Sw
end
section
namespace Go.Sw
theorem cloneP_R (k : Nat) (a : Value) (H : Heap) : R (T k) F.slices_Clone_of_api_Place_api_Place [a] H = nrm .no H (cloneV 3 12 [a] H) :=
 R_sp (t := T k) (T_scott k) (s := fun _ args H => cloneV 3 12 args H) (by kernel_rfl) _ _
theorem All_run (k : Nat) (hk : k < 1000000) {H : Heap} {p : Nat} {o : Option Nat} {down : Bool} {l : List Pl} (h : PlAt H p o down l) (hl : l.length ≤ 2 ^ 20) : R (T k) F.place_Places_All [.pointer (some ⟨p, 0, none⟩)] H = .ok (lv encP l) H := by
 obtain ⟨_, s, h2, h3⟩ := h
 obtain ⟨s', H', e1, o1, x1⟩ := clone_own (bytes := 12) encP_len h3 (by omega) (by decide)
 have ho : own k = .fz := by unfold own; rw [show Nat.blt k 1000000 = true from Nat.ble_eq_true_of_le hk]; rfl
 rw [place_Places_All_R, ho]
 obtain ⟨L, hf⟩ := o1.freeze encP_len (encP_still _) 6
 refine nrm_fz (v := s') (H' := H') ?_ hf x1 (Flat.alive (Flat.lv (encP_flat _)))
 simp -implicitDefEqProofs [place_Places_All, h2, cloneP_R, e1]
theorem New_runG (k : Nat) (dir : Int) (l : List Int) (hl : l.length ≤ 2 ^ 20) (H : Heap) {av : Value} (hv : Sl H 1 av encI l) :
  ∃ H' o, R (T k) F.place_New [.int .i64 dir, av] H = .ok (.pointer (some ⟨H.n, 0, none⟩)) H' ∧ PlAt H' H.n o (dir == 2) (newPl l) ∧ (∀ b, o = some b → H.n < b) ∧ Ext H H' := by
 rw [place_New_R]
 obtain ⟨x, e', H1, hr, v, rfl, rfl, o, ho, hf, hx⟩ := loop_up (body := place_New_l1 k (R (T k))) l.length
  (fun i e H' => e = [(5, .pointer (some ⟨H.n, 0, none⟩)), (12, av), (13, .int .i64 l.length), (14, .int .i64 i)] ∧ ∃ o, PlAt H' H.n o (dir == 2) (newPl (l.take i)) ∧ (∀ b, o = some b → H.n < b) ∧ Ext H H')
  (fun x e H' => ∃ v, x = .exit 0 ∧ e = [(5, .pointer (some ⟨H.n, 0, none⟩)), (12, av), (13, .int .i64 l.length), (14, .int .i64 l.length), (15, v)] ∧ ∃ o, PlAt H' H.n o (dir == 2) (newPl l) ∧ (∀ b, o = some b → H.n < b) ∧ Ext H H')
  (e0 := [(5, .pointer (some ⟨H.n, 0, none⟩)), (12, av), (13, .int .i64 l.length), (14, .int .i64 0)]) (H0 := H.push ⟨[.bool (dir == 2), .slice none 0 0], 1, false⟩)
  ⟨rfl, none, ⟨(fun b hb => by cases hb), .slice none 0 0, by rw [Heap.get_push, if_pos rfl], .inl ⟨rfl, rfl, .inl rfl⟩⟩, (fun b hb => by cases hb), (Ext.refl H).push _⟩ (by omega)
  (fun i e H' hi ⟨he, o, ⟨hne, s, h2, h3⟩, hof, hx⟩ => by
   subst he
   obtain ⟨n, hg⟩ : ∃ n, l[i]? = some n := ⟨l[i], List.getElem?_eq_getElem hi⟩
   have hlt : (i : Int) < l.length := by omega
   have hpn : H.n < H'.n := Heap.get_lt h2
   have hlto : ∀ b, o = some b → b < H'.n := fun b hb => by
    rcases h3 with ⟨h4, _⟩ | ⟨c, h4, _, h5⟩
    ·rw [h4] at hb; cases hb
    ·rw [h4] at hb; injection hb with hb; subst hb; exact Heap.get_lt h5
   have hlen : (newPl (l.take i)).length < 2 ^ 31 := by simp [newPl]; omega
   obtain ⟨s', H2, e1, o1, n1, k1⟩ := ap1_ownO (bytes := 12) encP_len h3 hlto ⟨clampI n, 0, 0⟩ hlen (by decide)
   have k2 := k1 H.n hpn fun e => hne H.n e rfl
   rw [h2] at k2
   have hne2 : ¬ H.n = H'.n := by omega
   obtain ⟨pt, hix, hld⟩ := hv.ix1 encI_len i n hg _ rfl
   have hld := hld H' hx
   refine .inl ⟨_, H2.set H.n (some ⟨[.bool (dir == 2), s'], 1, false⟩), ?_, rfl, some (H'.n + 1), ⟨fun b hb => by injection hb; omega, s', by rw [Heap.get_set k2, if_pos rfl], ?_⟩, fun b hb => by injection hb; omega, ?_⟩
   ·rw [place_New_l1_eq]
    simp -implicitDefEqProofs (disch := omega) [hlt, hix, hld, h2, e1, k2, hne2, h3.veq, o1.storable, o1.cells]
   ·have := o1.up (H' := H2.set H.n (some ⟨[.bool (dir == 2), s'], 1, false⟩)) fun b hb => by
     injection hb with hb
     exact get_set_ne _ _ _ _ (by omega)
    have e : newPl (l.take (i + 1)) = newPl (l.take i) ++ [⟨clampI n, 0, 0⟩] := by
     rw [List.take_add_one, hg]; simp [newPl]
    rw [e]
    exact this
   ·refine ⟨by rw [Heap.n_set, n1]; have := hx.n; omega, fun c hc hs => ?_⟩
    rw [get_set_ne _ _ _ _ (by omega), k1 c (by omega) (fun e => by have := hof c e; omega)]
    exact hx.2 c hc hs)
  (fun e H' ⟨he, o, ho, hof, hx⟩ => by
   subst he
   rw [place_New_l1_eq]
   exact ⟨.exit 0, _, H', by simp -implicitDefEqProofs <;> rfl, by simp, _, rfl, rfl, o, by simpa using ho, hof, hx⟩)
 have hln := fun H' => hv.len H'
 refine ⟨H1, o, ?_, ho, hf, hx⟩
 simp -implicitDefEqProofs [place_New, hln, hr, place_New_l1k_x0]
end Go.Sw
end
section
namespace Go.Sw
open Go.RowKit
end Go.Sw
end
section
namespace Go.Sw
open Go.RowKit
theorem newPl_ok (l : List Int) : ∀ q, q ∈ newPl l → q.ok := by
 intro q hq
 obtain ⟨n, _, rfl⟩ := List.mem_map.1 hq
 have := clampI_lo n
 have := clampI_hi n
 unfold Pl.ok
 dsimp only
 omega
@[simp] theorem newPl_len (l : List Int) : (newPl l).length = l.length := by simp [newPl]
theorem addI_ok (a n : Int) : -2147483648 ≤ addI a n ∧ addI a n ≤ 2147483647 := ⟨addI_lo _ _, addI_hi _ _⟩
theorem updPl_ok {l : List Pl} (h : ∀ q, q ∈ l → q.ok) (i : Int) {f : Pl → Pl} (hf : ∀ q, q.ok → (f q).ok) : ∀ q, q ∈ updPl l i f → q.ok := by
 unfold updPl
 split
 ·intro q hq
  obtain ⟨j, hj⟩ := List.getElem?_of_mem hq
  rw [List.getElem?_modify] at hj
  cases hg : l[j]? with
  | none => rw [hg] at hj; simp at hj
  | some x =>
   have hx := h x (List.mem_of_getElem? hg)
   rw [hg] at hj
   simp at hj
   subst hj
   split
   ·exact hf x hx
   ·exact hx
 ·exact h
end Go.Sw
end
section
namespace Go.Sw
open Go.RowKit
def oddB (vs : List Int) (a : Int) : Bool := (List.range (vs.length / 2)).any fun i => decide (a ≤ (i : Int) ∧ gU vs (2 * (i : Int)) 2 % 2 = 1)
theorem oddB_iff {vs : List Int} {a : Int} : oddB vs a = true ↔ ∃ i : Nat, a ≤ i ∧ 2 * i + 2 ≤ vs.length ∧ gU vs (2 * (i : Int)) 2 % 2 = 1 := by
 unfold oddB
 rw [List.any_eq_true]
 constructor
 ·rintro ⟨i, hi, h⟩
  have := of_decide_eq_true h
  have hi := List.mem_range.1 hi
  exact ⟨i, this.1, by omega, this.2⟩
 ·rintro ⟨i, h1, h2, h3⟩
  exact ⟨i, List.mem_range.2 (by omega), decide_eq_true ⟨h1, h3⟩⟩
structure STab where
 m : Mach
 vals : List Int
def entOdd (vs : List Int) (e : En) : Bool := decide (e.a = 65535) || oddB vs e.a
def stackS (b : List Int) (g : Int) : Option STab := (machS b g 1).bind fun m => (uS b 16 4).bind fun p => (restS b p).bind fun vs => if m.ents.all (entOdd vs) then some ⟨m, vs⟩ else none
structure STab.ok (t : STab) : Prop where
 m : t.m.ok
 byt : Byt t.vals
 len : t.vals.length < 2 ^ 31
 has : ∀ e, e ∈ t.m.ents → e.a = 65535 ∨ oddB t.vals e.a = true
theorem stackS_ok {b : List Int} (hb : Byt b) {g : Int} (h1 : 1 ≤ g) (h2 : g ≤ 65535) (hl : b.length < 2 ^ 31) {t : STab} (h : stackS b g = some t) : t.ok := by
 unfold stackS at h
 obtain ⟨m, hm, h⟩ := Option.bind_eq_some_iff.1 h
 obtain ⟨p, hp, h⟩ := Option.bind_eq_some_iff.1 h
 obtain ⟨vs, hv, h⟩ := Option.bind_eq_some_iff.1 h
 split at h
 ·rename_i hc
  injection h with h
  subst h
  have := restS_len hv
  refine ⟨machS_ok hb h1 h2 (by omega) hm, hb.rest hv, by dsimp only; omega, fun e he => ?_⟩
  have := List.all_eq_true.1 hc e he
  unfold entOdd at this
  rw [Bool.or_eq_true, decide_eq_true_eq] at this
  exact this
 ·cases h
def valV (vs : List Int) (a : Int) : Int := s16 (gU vs (2 * a) 2) - s16 (gU vs (2 * a) 2) % 2
def lastS (vs : List Int) (a : Int) : Bool := decide (s16 (gU vs (2 * a) 2) % 2 = 1)
def onePl (down cross : Bool) (l : List Pl) (i v : Int) : List Pl := if cross = false then updPl l i fun p => ⟨addI p.adv v, p.x, p.y⟩ else if v = -32768 then levelPl l down i else updPl l i fun p => if down then ⟨p.adv, addI p.x v, p.y⟩ else ⟨p.adv, p.x, addI p.y v⟩
def moveS (vs : List Int) (down cross : Bool) : List Int → Int → List Pl → List Pl × List Int
 | [], _, l => (l, [])
 | i :: ks, a, l => if lastS vs a then (onePl down cross l i (valV vs a), ks) else moveS vs down cross ks (a + 1) (onePl down cross l i (valV vs a))
theorem onePl_len (down cross : Bool) (l : List Pl) (i v : Int) : (onePl down cross l i v).length = l.length := by
 unfold onePl levelPl updPl
 split <;> split <;> (try split) <;> simp
theorem moveS_len (vs : List Int) (down cross : Bool) : ∀ (ks : List Int) (a : Int) (l : List Pl), (moveS vs down cross ks a l).1.length = l.length
 | [], _, _ => rfl
 | i :: ks, a, l => by
  unfold moveS
  split
  ·exact onePl_len _ _ _ _ _
  ·rw [moveS_len vs down cross ks, onePl_len]
def doSt (t : STab) (n : Int) (down cross : Bool) (s : List Pl × List Int) (i : Int) (e : En) : List Pl × List Int :=
 let k1 := if e.flags / 8192 % 2 = 1 then [] else s.2
 let k2 := if e.flags ≥ 32768 ∧ i < n then (i :: k1).take 8 else k1
 if e.a = 65535 then (s.1, k2) else moveS t.vals down cross k2 e.a s.1
theorem doSt_len (t : STab) (n : Int) (down cross : Bool) (s : List Pl × List Int) (i : Int) (e : En) : (doSt t n down cross s i e).1.length = s.1.length := by
 unfold doSt
 dsimp only
 split
 ·rfl
 ·exact moveS_len _ _ _ _ _ _
theorem onePl_ok {l : List Pl} (h : ∀ q, q ∈ l → q.ok) (down cross : Bool) (i v : Int) : ∀ q, q ∈ onePl down cross l i v → q.ok := by
 unfold onePl levelPl
 split
 ·exact updPl_ok h i fun q hq => ⟨addI_ok _ _, hq.2⟩
 ·split
  ·refine updPl_ok h i fun q hq => ?_
   split
   ·exact ⟨hq.1, by dsimp only; omega, hq.2.2⟩
   ·exact ⟨hq.1, hq.2.1, by dsimp only; omega⟩
  ·refine updPl_ok h i fun q hq => ?_
   split
   ·exact ⟨hq.1, addI_ok _ _, hq.2.2⟩
   ·exact ⟨hq.1, hq.2.1, addI_ok _ _⟩
theorem moveS_ok (vs : List Int) (down cross : Bool) : ∀ (ks : List Int) (a : Int) {l : List Pl}, (∀ q, q ∈ l → q.ok) → ∀ q, q ∈ (moveS vs down cross ks a l).1 → q.ok
 | [], _, _, h => h
 | i :: ks, a, l, h => by
  unfold moveS
  split
  ·exact onePl_ok h _ _ _ _
  ·exact moveS_ok vs down cross ks (a + 1) (onePl_ok h _ _ _ _)
theorem doSt_ok (t : STab) (n : Int) (down cross : Bool) {s : List Pl × List Int} (h : ∀ q, q ∈ s.1 → q.ok) (i : Int) (e : En) : ∀ q, q ∈ (doSt t n down cross s i e).1 → q.ok := by
 unfold doSt
 dsimp only
 split
 ·exact h
 ·exact moveS_ok _ _ _ _ _ h
end Go.Sw
end
section
namespace Go.Sw
open Go.RowKit
def itPl (p : Nat) (o : Option Nat) (down : Bool) (l : List Pl) : It :=
 ⟨fpP p o, fun H => PlAt H p o down l, fun _ _ h hk => h.up (hk p (by simp [fpP])) fun b hb => hk b (by simp [fpP, hb])⟩
theorem Star.pl {H0 H : Heap} {L : List It} (h : Star H0 H L) (i : Nat) {p : Nat} {o : Option Nat} {down : Bool} {l : List Pl} (hi : L[i]? = some (itPl p o down l)) : PlAt H p o down l := h.at i hi
theorem Star.plStep {H0 H H2 : Heap} {L : List It} (h : Star H0 H L) (i : Nat) {p : Nat} {o : Option Nat} {down : Bool} {l l2 : List Pl} (hi : L[i]? = some (itPl p o down l)) (hp : PlAt H2 p o down l2) (hk : Keeps (fpP p o) H H2) : Star H0 H2 (L.set i (itPl p o down l2)) :=
 h.step i hi hk.1 (fun c hc hs => hk.2 c hc hs) _ hp fun b hb => .inl hb
theorem along_star (k : Nat) {H0 H : Heap} {L : List It} (h : Star H0 H L) (i : Nat) {p : Nat} {o : Option Nat} {down : Bool} {l : List Pl} (hi : L[i]? = some (itPl p o down l)) (hok : ∀ q, q ∈ l → q.ok) (j n : Int) :
  ∃ H2, R (T k) F.place_Places_Along [ptrV p, .int .i64 j, .int .i64 n] H = .ok (.tuple #[]) H2 ∧ Star H0 H2 (L.set i (itPl p o down (updPl l j fun q => ⟨addI q.adv n, q.x, q.y⟩))) := by
 obtain ⟨H2, e, h1, h2⟩ := Along_run k (h.pl i hi) hok j n
 exact ⟨H2, e, h.plStep i hi h1 h2⟩
theorem across_star (k : Nat) {H0 H : Heap} {L : List It} (h : Star H0 H L) (i : Nat) {p : Nat} {o : Option Nat} {down : Bool} {l : List Pl} (hi : L[i]? = some (itPl p o down l)) (hok : ∀ q, q ∈ l → q.ok) (j n : Int) :
  ∃ H2, R (T k) F.place_Places_Across [ptrV p, .int .i64 j, .int .i64 n] H = .ok (.tuple #[]) H2 ∧ Star H0 H2 (L.set i (itPl p o down (updPl l j fun q => if down then ⟨q.adv, addI q.x n, q.y⟩ else ⟨q.adv, q.x, addI q.y n⟩))) := by
 obtain ⟨H2, e, h1, h2⟩ := Across_run k (h.pl i hi) hok j n
 exact ⟨H2, e, h.plStep i hi h1 h2⟩
theorem level_star (k : Nat) {H0 H : Heap} {L : List It} (h : Star H0 H L) (i : Nat) {p : Nat} {o : Option Nat} {down : Bool} {l : List Pl} (hi : L[i]? = some (itPl p o down l)) (hok : ∀ q, q ∈ l → q.ok) (j : Int) :
  ∃ H2, R (T k) F.place_Places_Level [ptrV p, .int .i64 j] H = .ok (.tuple #[]) H2 ∧ Star H0 H2 (L.set i (itPl p o down (levelPl l down j))) := by
 obtain ⟨H2, e, h1, h2⟩ := Level_run k (h.pl i hi) hok j
 exact ⟨H2, e, h.plStep i hi h1 h2⟩
theorem placeNew_starG (k : Nat) {H0 H : Heap} {L : List It} (h : Star H0 H L) (dir : Int) (l : List Int) (hl : l.length ≤ 2 ^ 20) {av : Value} (hv : Sl H 1 av encI l) :
  ∃ o H', R (T k) F.place_New [.int .i64 dir, av] H = .ok (ptrV H.n) H' ∧ Star H0 H' (L ++ [itPl H.n o (dir == 2) (newPl l)]) := by
 obtain ⟨H', o, e, h1, h2, h3⟩ := New_runG k dir l hl H hv
 refine ⟨o, H', e, h.more h3 _ h1 fun b hb => ?_⟩
 have hlt := h1.lt
 rcases List.mem_cons.1 hb with rfl | hb
 ·omega
 ·have := h2 b (Option.mem_toList.1 hb)
  have := h1.lto b (Option.mem_toList.1 hb)
  omega
theorem placeAll_run (k : Nat) (hk : k < 1000000) {H0 H : Heap} {L : List It} (h : Star H0 H L) (i : Nat) {p : Nat} {o : Option Nat} {down : Bool} {l : List Pl} (hi : L[i]? = some (itPl p o down l)) (hl : l.length ≤ 2 ^ 20) : R (T k) F.place_Places_All [ptrV p] H = .ok (lv encP l) H := All_run k hk (h.pl i hi) hl
end Go.Sw
end
section
namespace Go.Sw
open Go.RowKit
theorem and_pow (n k : Nat) : n &&& 2 ^ k = if n.testBit k then 2 ^ k else 0 := by
 apply Nat.eq_of_testBit_eq
 intro i
 rw [Nat.testBit_and, Nat.testBit_two_pow]
 by_cases h : k = i
 ·subst h
  cases hb : n.testBit k
  ·simp
  ·simp
 ·cases hb : n.testBit k
  ·simp [h]
  ·simp only [h, decide_false, Bool.and_false, if_true, Nat.testBit_two_pow]
theorem bin_andP (P : Program) (t : TypeId) (H : Heap) (k : Nat) (hk : k < 62) {a : Int} (h0 : 0 ≤ a) (h1 : a < 2 ^ 62) (m : Int) (hm : m = ((2 ^ k : Nat) : Int)) :
  binR P .and t (.int .i64 a) (.int .i64 m) H = .ok (.int .i64 (if a / m % 2 = 1 then m else 0)) H := by
 obtain ⟨n, rfl⟩ := Int.eq_ofNat_of_zero_le h0
 have hp : 2 ^ k ≤ 2 ^ 61 := Nat.pow_le_pow_right (by decide) (by omega)
 have hp0 : 0 < 2 ^ k := Nat.two_pow_pos k
 have e : (BitVec.ofInt 64 (n : Int) &&& BitVec.ofInt 64 m).toNat = if n.testBit k then 2 ^ k else 0 := by
  rw [BitVec.toNat_and, BitVec.toNat_ofInt, BitVec.toNat_ofInt, hm]
  rw [show (((n : Int)) % ((2 ^ 64 : Nat) : Int)).toNat = n by omega, show ((((2 ^ k : Nat) : Int)) % ((2 ^ 64 : Nat) : Int)).toNat = 2 ^ k by omega, and_pow]
 have e1 : binV P .and t (.int .i64 (n : Int)) (.int .i64 m) = some (.int .i64 (IntKind.i64.wrap (BitVec.ofInt 64 (n : Int) &&& BitVec.ofInt 64 m).toNat)) := rfl
 unfold binR
 rw [e1, e, Nat.testBit_eq_decide_div_mod_eq]
 have hd : (n : Int) / m = ((n / 2 ^ k : Nat) : Int) := by rw [hm, Int.natCast_ediv]
 rw [hd]
 by_cases h : n / 2 ^ k % 2 = 1
 ·rw [decide_eq_true h, if_pos rfl, if_pos (by omega), wrap_i64 (by omega) (by omega), hm]; rfl
 ·rw [decide_eq_false h, if_neg (by simp), if_neg (by omega)]; rfl
theorem and13 (P : Program) (t : TypeId) (H : Heap) {a : Int} (h0 : 0 ≤ a) (h1 : a < 65536) : binR P .and t (.int .i64 a) (.int .i64 8192) H = .ok (.int .i64 (if a / 8192 % 2 = 1 then 8192 else 0)) H := bin_andP P t H 13 (by decide) h0 (by omega) 8192 rfl
end Go.Sw
end
section
set_option maxRecDepth 100000
set_option linter.unusedVariables false
namespace Go.Sw
noncomputable section
def stack_Read (k : Nat) (call : Caller) (a0 a1 : Value) (h : Heap) : Res Value :=
 (boxR a1 h).bind fun v1 h2 =>
 (allocR Prog 72 h2).bind fun v3 h4 =>
 (loadR Prog 3 v1 h4).bind fun v5 h6 =>
 (binR Prog .lss 3 v5 (.int .i64 1) h6).bind fun v7 h8 =>
 ((bif wantVal v7 false then loadR Prog 3 v1 h8 else Res.ok undef h8)).bind fun v9 h10 =>
 ((bif wantVal v7 false then binR Prog .gtr 3 v9 (.int .i64 65535) h10 else Res.ok undef h10)).bind fun v11 h12 =>
 (condV (some v7) (Res.ok (.bool true) h12) (Res.ok v11 h12)).bind fun v13 h14 =>
 condV (some v13) (
 (storeR Prog 72 v3 (.pointer none) h14).bind fun _v15 h16 =>
 (loadR Prog 72 v3 h16).bind fun v17 h18 =>
 .ok (.tuple #[v17, (.int .i64 1)]) h18)
 (
 (call F.view_Of [a0] h14).bind fun v19 h20 =>
 (call F.view_View_Bytes [v19] h20).bind fun v21 h22 =>
 (call F.view_Of [v21] h22).bind fun v23 h24 =>
 (allocR Prog 55 h24).bind fun v25 h26 =>
 (storeR Prog 55 v25 v23 h26).bind fun _v27 h28 =>
 (call F.view_Try [(.func (.func F.stack_Read_in1) #[] #[v25, v1, v3])] h28).bind fun v29 h30 =>
 (unR .not v29 h30).bind fun v31 h32 =>
 condV (some v31) (
 (storeR Prog 72 v3 (.pointer none) h32).bind fun _v33 h34 =>
 (loadR Prog 72 v3 h34).bind fun v35 h36 =>
 .ok (.tuple #[v35, (.int .i64 2)]) h36)
 (
 (loadR Prog 72 v3 h32).bind fun v37 h38 =>
 (storeR Prog 72 v3 v37 h38).bind fun _v39 h40 =>
 (loadR Prog 72 v3 h40).bind fun v41 h42 =>
 .ok (.tuple #[v41, (.int .i64 0)]) h42))
theorem stack_Read_R (k : Nat) (a0 a1 : Value) (h : Heap) : R (T k) F.stack_Read [a0, a1] h = nrm .fz h (stack_Read k (R (T k)) a0 a1 h) :=
 (R_body (t := T k) (T_scott k) (by kernel_rfl) (by kernel_rfl) _ _).trans (by kernel_rfl)
def stack_Table_Run (k : Nat) (call : Caller) (a0 a1 a2 a3 : Value) (h : Heap) : Res Value :=
 (boxR a0 h).bind fun v1 h2 =>
 (boxR a1 h2).bind fun v3 h4 =>
 (boxR a2 h4).bind fun v5 h6 =>
 (boxR a3 h6).bind fun v7 h8 =>
 (allocR Prog 225 h8).bind fun v9 h10 =>
 (loadR Prog 72 v1 h10).bindN fun v11 h12 =>
 (nilR v11 h12).bindN fun v13 h14 =>
 (fieldAddrR Prog 227 v13 0 h14).bindN fun v15 h16 =>
 (loadR Prog 180 v15 h16).bindN fun v17 h18 =>
 (loadR Prog 44 v3 h18).bindN fun v19 h20 =>
 (call F.drive_Plain [(.func (.func F.stack_Table_Run_in1) #[] #[v9, v3, v1, v5, v7])] h20).bindT (fun p23 h24 => .panic p23 h24) fun v21 h22 =>
 (call F.drive_Run [v17, v19, v21] h22).bindT (fun p27 h28 => chkR ((okVal (loadR Prog 72 v1 h22) v11 && true) && ((okVal (loadR Prog 180 v15 h22) v17 && true) && ((okVal (loadR Prog 44 v3 h22) v19 && true) && true))) (.panic p27 h28)) fun v25 h26 =>
 (extractR v25 0 h26).bindN fun v29 h30 =>
 (extractR v25 1 h30).bindN fun v31 h32 =>
 chkR ((okVal (loadR Prog 72 v1 h22) v11 && true) && ((okVal (loadR Prog 180 v15 h22) v17 && true) && ((okVal (loadR Prog 44 v3 h22) v19 && true) && true))) (
 .ok v31 h32)
theorem stack_Table_Run_R (k : Nat) (a0 a1 a2 a3 : Value) (h : Heap) : R (T k) F.stack_Table_Run [a0, a1, a2, a3] h = nrm .no h (stack_Table_Run k (R (T k)) a0 a1 a2 a3 h) :=
 (R_body (t := T k) (T_scott k) (by kernel_rfl) (by kernel_rfl) _ _).trans (by kernel_rfl)
def stack_Take_l1 (k : Nat) (call : Caller) : Env → Heap → Res (AExit × Env) := loopB (C k) call F.stack_Take [1, 1, 0, 1, 0, 0]
def stack_Take_l1k (k : Nat) (call : Caller) : Kont Value := kBlock 0 (kSeq (pieceK (C k) call F.stack_Take [1, 1, 1]) (kDone Prog (resOf Prog F.stack_Take)))
def stack_Take_l2 (k : Nat) (call : Caller) : Env → Heap → Res (AExit × Env) := loopB (C k) call F.stack_Take [1, 1, 0, 1, 0, 0, 1, 1, 0, 0, 1, 1, 0, 0]
def stack_Take_l2k (k : Nat) (call : Caller) : Kont (AExit × Env) := kBlock 2 (kBlock 1 (kSeq (pieceK (C k) call F.stack_Take [1, 1, 0, 1, 0, 0, 1, 1, 1]) (kRound (ownOf (C k) F.stack_Take [1, 1, 0, 1, 0, 0]))))
def stack_Take (k : Nat) (call : Caller) (a0 a1 : Value) (h : Heap) : Res Value :=
 (boxR a0 h).bind fun v1 h2 =>
 (loadR Prog 55 v1 h2).bindN fun v3 h4 =>
 (call F.state_Take [v3, a1, (.int .i64 1)] h4).bindT (fun p7 h8 => (loadR Prog 55 v1 h4).bindN fun v9 h10 => (loadR Prog 55 v1 h10).bindN fun v11 h12 => chkR ((okVal (loadR Prog 55 v1 h2) v9 && true) && ((okVal (loadR Prog 55 v1 h2) v11 && true) && true)) (.panic p7 h8)) fun v5 h6 =>
 (loadR Prog 55 v1 h6).bindN fun v13 h14 =>
 (loadR Prog 55 v1 h14).bindN fun v15 h16 =>
 (call F.view_View_U32 [v15, (.int .i64 16)] h16).bindT (fun p19 h20 => chkR ((okVal (loadR Prog 55 v1 h2) v13 && true) && ((okVal (loadR Prog 55 v1 h2) v15 && true) && true)) (.panic p19 h20)) fun v17 h18 =>
 (call F.view_View_Rest [v13, v17] h18).bindT (fun p23 h24 => chkR ((okVal (loadR Prog 55 v1 h2) v13 && (okVal (loadR Prog 55 v1 h18) v13 && true)) && ((okVal (loadR Prog 55 v1 h2) v15 && true) && true)) (.panic p23 h24)) fun v21 h22 =>
 (buildR Prog 227 [(0, v5), (1, v21)] h22).bindN fun v25 h26 =>
 (boxR v25 h26).bindN fun v27 h28 =>
 chkR ((okVal (loadR Prog 55 v1 h2) v13 && (okVal (loadR Prog 55 v1 h18) v13 && true)) && ((okVal (loadR Prog 55 v1 h2) v15 && true) && true)) (
 (nilR v27 h28).bind fun v29 h30 =>
 (fieldAddrR Prog 227 v29 0 h30).bind fun v31 h32 =>
 (loadR Prog 180 v31 h32).bind fun v33 h34 =>
 (call F.state_Machine_Entries [v33] h34).bind fun v35 h36 =>
 (builtinV Prog .len [24] [v35] h36).bind fun v37 h38 =>
 (loopN (stack_Take_l1 k call) loopFuel [(5, v27), (22, v35), (23, v37), (24, (.int .i64 0))] h38).bind fun r39 h40 =>
 stack_Take_l1k k call r39.1 r39.2 h40)
theorem stack_Take_R (k : Nat) (a0 a1 : Value) (h : Heap) : R (T k) F.stack_Take [a0, a1] h = nrm .fz h (stack_Take k (R (T k)) a0 a1 h) :=
 (R_body (t := T k) (T_scott k) (by kernel_rfl) (by kernel_rfl) _ _).trans (by kernel_rfl)
theorem stack_Take_l1_eq (k : Nat) (call : Caller) (a5 a22 a23 a24 : Value) (h : Heap) : stack_Take_l1 k call [(5, a5), (22, a22), (23, a23), (24, a24)] h =
 (binR Prog .lss 3 a24 a23 h).bind fun v41 h42 =>
 condV (some v41) (
 (indexAddrR Prog 24 a22 a24 h42).bind fun v43 h44 =>
 (loadR Prog 31 v43 h44).bind fun v45 h46 =>
 (allocR Prog 31 h46).bind fun v47 h48 =>
 (storeR Prog 31 v47 v45 h48).bind fun _v49 h50 =>
 (fieldAddrR Prog 31 v47 2 h50).bind fun v51 h52 =>
 (loadR Prog 3 v51 h52).bind fun v53 h54 =>
 (loopN (stack_Take_l2 k call) loopFuel [(5, a5), (7, v47), (8, v53), (22, a22), (23, a23), (24, a24)] h54).bind fun r55 h56 =>
 stack_Take_l2k k call r55.1 r55.2 h56)
 (
 .ok ((.exit 0), [(5, a5), (22, a22), (23, a23), (24, a24), (25, v41)]) h42) :=
 (loopB_eq _ _).trans (by kernel_rfl)
theorem stack_Take_l2_eq (k : Nat) (call : Caller) (a5 a7 a8 a22 a23 a24 : Value) (h : Heap) : stack_Take_l2 k call [(5, a5), (7, a7), (8, a8), (22, a22), (23, a23), (24, a24)] h =
 (fieldAddrR Prog 31 a7 2 h).bind fun v57 h58 =>
 (loadR Prog 3 v57 h58).bind fun v59 h60 =>
 (binR Prog .neq 3 v59 (.int .i64 65535) h60).bind fun v61 h62 =>
 ((bif wantVal v61 true then Res.ok a5 h62 else Res.ok undef h62)).bind fun v63 h64 =>
 ((bif wantVal v61 true then nilR v63 h64 else Res.ok undef h64)).bind fun v65 h66 =>
 ((bif wantVal v61 true then fieldAddrR Prog 227 v65 1 h66 else Res.ok undef h66)).bind fun v67 h68 =>
 ((bif wantVal v61 true then loadR Prog 55 v67 h68 else Res.ok undef h68)).bind fun v69 h70 =>
 ((bif wantVal v61 true then Res.ok a8 h70 else Res.ok undef h70)).bind fun v71 h72 =>
 ((bif wantVal v61 true then binR Prog .mul 3 (.int .i64 2) v71 h72 else Res.ok undef h72)).bind fun v73 h74 =>
 ((bif wantVal v61 true then call F.view_View_U16 [v69, v73] h74 else Res.ok undef h74)).bind fun v75 h76 =>
 ((bif wantVal v61 true then binR Prog .and 3 v75 (.int .i64 1) h76 else Res.ok undef h76)).bind fun v77 h78 =>
 ((bif wantVal v61 true then binR Prog .eql 3 v77 (.int .i64 0) h78 else Res.ok undef h78)).bind fun v79 h80 =>
 (condV (some v61) (Res.ok v79 h80) (Res.ok (.bool false) h80)).bind fun v81 h82 =>
 condV (some v81) (
 (binR Prog .add 3 a8 (.int .i64 1) h82).bind fun v83 h84 =>
 .ok (.normal, [(5, a5), (7, a7), (8, v83), (22, a22), (23, a23), (24, a24)]) h84)
 (
 .ok ((.exit 2), [(5, a5), (7, a7), (8, a8), (22, a22), (23, a23), (24, a24), (43, v81)]) h82) :=
 (loopB_eq _ _).trans (by kernel_rfl)
theorem stack_Take_l1k_x0 (k : Nat) (call : Caller) (a5 a22 a23 a24 a25 : Value) (h : Heap) : stack_Take_l1k k call (.exit 0) [(5, a5), (22, a22), (23, a23), (24, a24), (25, a25)] h =
 .ok a5 h := by kernel_rfl
theorem stack_Take_l2k_x2 (k : Nat) (call : Caller) (a5 a7 a8 a22 a23 a24 a43 : Value) (h : Heap) : stack_Take_l2k k call (.exit 2) [(5, a5), (7, a7), (8, a8), (22, a22), (23, a23), (24, a24), (43, a43)] h =
 (binR Prog .add 3 a24 (.int .i64 1) h).bind fun v85 h86 =>
 .ok (.normal, [(5, a5), (22, a22), (23, a23), (24, v85)]) h86 := by kernel_rfl
def stack_Read_in1 (k : Nat) (call : Caller) (a0 a1 a2 : Value) (h : Heap) : Res Value :=
 (loadR Prog 55 a0 h).bind fun v1 h2 =>
 (loadR Prog 3 a1 h2).bind fun v3 h4 =>
 (call F.stack_Take [v1, v3] h4).bind fun v5 h6 =>
 (storeR Prog 72 a2 v5 h6).bind fun _v7 h8 =>
 .ok (.tuple #[]) h8
theorem stack_Read_in1_R (k : Nat) (a0 a1 a2 : Value) (h : Heap) : R (T k) F.stack_Read_in1 [a0, a1, a2] h = nrm .no h (stack_Read_in1 k (R (T k)) a0 a1 a2 h) :=
 (R_body (t := T k) (T_scott k) (by kernel_rfl) (by kernel_rfl) _ _).trans (by kernel_rfl)
def stack_Table_Run_in1_j1 (k : Nat) (call : Caller) (a0 a2 a3 a4 a5 a6 a8 : Value) (h : Heap) : Res Value :=
 kSeq (pieceK (C k) call F.stack_Table_Run_in1 [1, 1]) (kDone Prog (resOf Prog F.stack_Table_Run_in1)) .normal [(0, a0), (2, a2), (3, a3), (4, a4), (5, a5), (6, a6), (8, a8)] h
def stack_Table_Run_in1_j2 (k : Nat) (call : Caller) (a0 a2 a3 a4 a5 a6 a8 a12 : Value) (h : Heap) : Res Value :=
 kSeq (pieceK (C k) call F.stack_Table_Run_in1 [1, 1]) (kDone Prog (resOf Prog F.stack_Table_Run_in1)) .normal [(0, a0), (2, a2), (3, a3), (4, a4), (5, a5), (6, a6), (8, a8), (12, a12)] h
def stack_Table_Run_in1_j3 (k : Nat) (call : Caller) (a2 a4 a5 a6 a8 : Value) (h : Heap) : Res Value :=
 kSeq (pieceK (C k) call F.stack_Table_Run_in1 [1, 1, 1]) (kDone Prog (resOf Prog F.stack_Table_Run_in1)) .normal [(2, a2), (4, a4), (5, a5), (6, a6), (8, a8)] h
def stack_Table_Run_in1_j4 (k : Nat) (call : Caller) (a0 a2 a4 a5 a6 a8 a23 : Value) (h : Heap) : Res Value :=
 kSeq (pieceK (C k) call F.stack_Table_Run_in1 [1, 1, 1]) (kDone Prog (resOf Prog F.stack_Table_Run_in1)) .normal [(0, a0), (2, a2), (4, a4), (5, a5), (6, a6), (8, a8), (23, a23)] h
def stack_Table_Run_in1 (k : Nat) (call : Caller) (a0 a1 a2 a3 a4 a5 a6 : Value) (h : Heap) : Res Value :=
 (boxR a1 h).bind fun v1 h2 =>
 (fieldAddrR Prog 31 v1 1 h2).bind fun v3 h4 =>
 (loadR Prog 3 v3 h4).bind fun v5 h6 =>
 (binR Prog .and 3 v5 (.int .i64 8192) h6).bind fun v7 h8 =>
 (binR Prog .neq 3 v7 (.int .i64 0) h8).bind fun v9 h10 =>
 condV (some v9) (
 (buildR Prog 225 [] h10).bind fun v11 h12 =>
 (storeR Prog 225 a2 v11 h12).bind fun _v13 h14 =>
 stack_Table_Run_in1_j1 k call a0 a2 a3 a4 a5 a6 v1 h14)
 (
 stack_Table_Run_in1_j2 k call a0 a2 a3 a4 a5 a6 v1 v9 h10)
theorem stack_Table_Run_in1_R (k : Nat) (a0 a1 a2 a3 a4 a5 a6 : Value) (h : Heap) : R (T k) F.stack_Table_Run_in1 [a0, a1, a2, a3, a4, a5, a6] h = nrm .no h (stack_Table_Run_in1 k (R (T k)) a0 a1 a2 a3 a4 a5 a6 h) :=
 (R_body (t := T k) (T_scott k) (by kernel_rfl) (by kernel_rfl) _ _).trans (by kernel_rfl)
theorem stack_Table_Run_in1_j1_eq (k : Nat) (call : Caller) (a0 a2 a3 a4 a5 a6 a8 : Value) (h : Heap) : stack_Table_Run_in1_j1 k call a0 a2 a3 a4 a5 a6 a8 h =
 (fieldAddrR Prog 31 a8 1 h).bind fun v15 h16 =>
 (loadR Prog 3 v15 h16).bind fun v17 h18 =>
 (binR Prog .and 3 v17 (.int .i64 32768) h18).bind fun v19 h20 =>
 (binR Prog .neq 3 v19 (.int .i64 0) h20).bind fun v21 h22 =>
 ((bif wantVal v21 true then Res.ok a0 h22 else Res.ok undef h22)).bind fun v23 h24 =>
 ((bif wantVal v21 true then loadR Prog 44 a3 h24 else Res.ok undef h24)).bind fun v25 h26 =>
 ((bif wantVal v21 true then call F.line_Line_Len [v25] h26 else Res.ok undef h26)).bind fun v27 h28 =>
 ((bif wantVal v21 true then binR Prog .lss 3 v23 v27 h28 else Res.ok undef h28)).bind fun v29 h30 =>
 (condV (some v21) (Res.ok v29 h30) (Res.ok (.bool false) h30)).bind fun v31 h32 =>
 condV (some v31) (
 (call F.stack_kept_push [a2, a0] h32).bind fun v33 h34 =>
 stack_Table_Run_in1_j3 k call a2 a4 a5 a6 a8 h34)
 (
 stack_Table_Run_in1_j4 k call a0 a2 a4 a5 a6 a8 v31 h32) := by kernel_rfl
theorem stack_Table_Run_in1_j2_eq (k : Nat) (call : Caller) (a0 a2 a3 a4 a5 a6 a8 a12 : Value) (h : Heap) : stack_Table_Run_in1_j2 k call a0 a2 a3 a4 a5 a6 a8 a12 h =
 (fieldAddrR Prog 31 a8 1 h).bind fun v35 h36 =>
 (loadR Prog 3 v35 h36).bind fun v37 h38 =>
 (binR Prog .and 3 v37 (.int .i64 32768) h38).bind fun v39 h40 =>
 (binR Prog .neq 3 v39 (.int .i64 0) h40).bind fun v41 h42 =>
 ((bif wantVal v41 true then Res.ok a0 h42 else Res.ok undef h42)).bind fun v43 h44 =>
 ((bif wantVal v41 true then loadR Prog 44 a3 h44 else Res.ok undef h44)).bind fun v45 h46 =>
 ((bif wantVal v41 true then call F.line_Line_Len [v45] h46 else Res.ok undef h46)).bind fun v47 h48 =>
 ((bif wantVal v41 true then binR Prog .lss 3 v43 v47 h48 else Res.ok undef h48)).bind fun v49 h50 =>
 (condV (some v41) (Res.ok v49 h50) (Res.ok (.bool false) h50)).bind fun v51 h52 =>
 condV (some v51) (
 (call F.stack_kept_push [a2, a0] h52).bind fun v53 h54 =>
 stack_Table_Run_in1_j3 k call a2 a4 a5 a6 a8 h54)
 (
 stack_Table_Run_in1_j4 k call a0 a2 a4 a5 a6 a8 v51 h52) := by kernel_rfl
theorem stack_Table_Run_in1_j3_eq (k : Nat) (call : Caller) (a2 a4 a5 a6 a8 : Value) (h : Heap) : stack_Table_Run_in1_j3 k call a2 a4 a5 a6 a8 h =
 (fieldAddrR Prog 31 a8 2 h).bind fun v55 h56 =>
 (loadR Prog 3 v55 h56).bind fun v57 h58 =>
 (binR Prog .neq 3 v57 (.int .i64 65535) h58).bind fun v59 h60 =>
 condV (some v59) (
 (loadR Prog 72 a4 h60).bind fun v61 h62 =>
 (loadR Prog 62 a5 h62).bind fun v63 h64 =>
 (fieldAddrR Prog 31 a8 2 h64).bind fun v65 h66 =>
 (loadR Prog 3 v65 h66).bind fun v67 h68 =>
 (loadR Prog 4 a6 h68).bind fun v69 h70 =>
 (call F.stack_Table_move [v61, a2, v63, v67, v69] h70).bind fun v71 h72 =>
 .ok (.tuple #[]) h72)
 (
 .ok (.tuple #[]) h60) := by kernel_rfl
theorem stack_Table_Run_in1_j4_eq (k : Nat) (call : Caller) (a0 a2 a4 a5 a6 a8 a23 : Value) (h : Heap) : stack_Table_Run_in1_j4 k call a0 a2 a4 a5 a6 a8 a23 h =
 (fieldAddrR Prog 31 a8 2 h).bind fun v73 h74 =>
 (loadR Prog 3 v73 h74).bind fun v75 h76 =>
 (binR Prog .neq 3 v75 (.int .i64 65535) h76).bind fun v77 h78 =>
 condV (some v77) (
 (loadR Prog 72 a4 h78).bind fun v79 h80 =>
 (loadR Prog 62 a5 h80).bind fun v81 h82 =>
 (fieldAddrR Prog 31 a8 2 h82).bind fun v83 h84 =>
 (loadR Prog 3 v83 h84).bind fun v85 h86 =>
 (loadR Prog 4 a6 h86).bind fun v87 h88 =>
 (call F.stack_Table_move [v79, a2, v81, v85, v87] h88).bind fun v89 h90 =>
 .ok (.tuple #[]) h90)
 (
 .ok (.tuple #[]) h78) := by kernel_rfl
def stack_kept_push_j1 (k : Nat) (call : Caller) (a0 a1 : Value) (h : Heap) : Res Value :=
 kSeq (pieceK (C k) call F.stack_kept_push [1]) (kDone Prog (resOf Prog F.stack_kept_push)) .normal [(0, a0), (1, a1)] h
def stack_kept_push_j2 (k : Nat) (call : Caller) (a0 a1 a8 : Value) (h : Heap) : Res Value :=
 kSeq (pieceK (C k) call F.stack_kept_push [1]) (kDone Prog (resOf Prog F.stack_kept_push)) .normal [(0, a0), (1, a1), (8, a8)] h
def stack_kept_push (k : Nat) (call : Caller) (a0 a1 : Value) (h : Heap) : Res Value :=
 (nilR a0 h).bind fun v1 h2 =>
 (fieldAddrR Prog 225 v1 1 h2).bind fun v3 h4 =>
 (loadR Prog 3 v3 h4).bind fun v5 h6 =>
 (binR Prog .eql 3 v5 (.int .i64 8) h6).bind fun v7 h8 =>
 condV (some v7) (
 (nilR a0 h8).bindN fun v9 h10 =>
 (fieldAddrR Prog 225 v9 0 h10).bindN fun v11 h12 =>
 (sliceR Prog 223 v11 none none none h12).bindN fun v13 h14 =>
 (nilR a0 h14).bindN fun v15 h16 =>
 (fieldAddrR Prog 225 v15 0 h16).bindN fun v17 h18 =>
 (sliceR Prog 223 v17 (some (.int .i64 1)) none none h18).bindN fun v19 h20 =>
 (builtinV Prog .copy [27, 27] [v13, v19] h20).bindN fun v21 h22 =>
 (nilR a0 h22).bind fun v23 h24 =>
 (fieldAddrR Prog 225 v23 1 h24).bind fun v25 h26 =>
 (loadR Prog 3 v25 h26).bind fun v27 h28 =>
 (binR Prog .sub 3 v27 (.int .i64 1) h28).bind fun v29 h30 =>
 (nilR a0 h30).bind fun v31 h32 =>
 (fieldAddrR Prog 225 v31 1 h32).bind fun v33 h34 =>
 (storeR Prog 3 v33 v29 h34).bind fun _v35 h36 =>
 stack_kept_push_j1 k call a0 a1 h36)
 (
 stack_kept_push_j2 k call a0 a1 v7 h8)
theorem stack_kept_push_R (k : Nat) (a0 a1 : Value) (h : Heap) : R (T k) F.stack_kept_push [a0, a1] h = nrm .no h (stack_kept_push k (R (T k)) a0 a1 h) :=
 (R_body (t := T k) (T_scott k) (by kernel_rfl) (by kernel_rfl) _ _).trans (by kernel_rfl)
theorem stack_kept_push_j1_eq (k : Nat) (call : Caller) (a0 a1 : Value) (h : Heap) : stack_kept_push_j1 k call a0 a1 h =
 (nilR a0 h).bindN fun v37 h38 =>
 (fieldAddrR Prog 225 v37 1 h38).bindN fun v39 h40 =>
 (loadR Prog 3 v39 h40).bindN fun v41 h42 =>
 (nilR a0 h42).bindN fun v43 h44 =>
 (fieldAddrR Prog 225 v43 0 h44).bindN fun v45 h46 =>
 (indexAddrR Prog 223 v45 v41 h46).bindN fun v47 h48 =>
 (storeR Prog 3 v47 a1 h48).bindN fun _v49 h50 =>
 (nilR a0 h50).bind fun v51 h52 =>
 (fieldAddrR Prog 225 v51 1 h52).bind fun v53 h54 =>
 (loadR Prog 3 v53 h54).bind fun v55 h56 =>
 (binR Prog .add 3 v55 (.int .i64 1) h56).bind fun v57 h58 =>
 (nilR a0 h58).bind fun v59 h60 =>
 (fieldAddrR Prog 225 v59 1 h60).bind fun v61 h62 =>
 (storeR Prog 3 v61 v57 h62).bind fun _v63 h64 =>
 .ok (.tuple #[]) h64 := by kernel_rfl
theorem stack_kept_push_j2_eq (k : Nat) (call : Caller) (a0 a1 a8 : Value) (h : Heap) : stack_kept_push_j2 k call a0 a1 a8 h =
 (nilR a0 h).bindN fun v65 h66 =>
 (fieldAddrR Prog 225 v65 1 h66).bindN fun v67 h68 =>
 (loadR Prog 3 v67 h68).bindN fun v69 h70 =>
 (nilR a0 h70).bindN fun v71 h72 =>
 (fieldAddrR Prog 225 v71 0 h72).bindN fun v73 h74 =>
 (indexAddrR Prog 223 v73 v69 h74).bindN fun v75 h76 =>
 (storeR Prog 3 v75 a1 h76).bindN fun _v77 h78 =>
 (nilR a0 h78).bind fun v79 h80 =>
 (fieldAddrR Prog 225 v79 1 h80).bind fun v81 h82 =>
 (loadR Prog 3 v81 h82).bind fun v83 h84 =>
 (binR Prog .add 3 v83 (.int .i64 1) h84).bind fun v85 h86 =>
 (nilR a0 h86).bind fun v87 h88 =>
 (fieldAddrR Prog 225 v87 1 h88).bind fun v89 h90 =>
 (storeR Prog 3 v89 v85 h90).bind fun _v91 h92 =>
 .ok (.tuple #[]) h92 := by kernel_rfl
def stack_Table_move_l1 (k : Nat) (call : Caller) : Env → Heap → Res (AExit × Env) := loopB (C k) call F.stack_Table_move [0, 0]
def stack_Table_move_l1k (k : Nat) (call : Caller) : Kont Value := kBlock 0 (kDone Prog (resOf Prog F.stack_Table_move))
def stack_Table_move_j1 (k : Nat) (call : Caller) (a0 a1 a2 a3 a4 a12 : Value) (h : Heap) : Res (AExit × Env) :=
 kSeq (pieceK (C k) call F.stack_Table_move [0, 0, 0, 0, 1, 1, 1, 1]) (kBlock 1 (kSeq (pieceK (C k) call F.stack_Table_move [0, 0, 1]) (kRound (ownOf (C k) F.stack_Table_move [0, 0])))) .normal [(0, a0), (1, a1), (2, a2), (3, a3), (4, a4), (12, a12)] h
def stack_Table_move (k : Nat) (call : Caller) (a0 a1 a2 a3 a4 : Value) (h : Heap) : Res Value :=
 (loopN (stack_Table_move_l1 k call) loopFuel [(0, a0), (1, a1), (2, a2), (3, a3), (4, a4)] h).bind fun r1 h2 =>
 stack_Table_move_l1k k call r1.1 r1.2 h2
theorem stack_Table_move_R (k : Nat) (a0 a1 a2 a3 a4 : Value) (h : Heap) : R (T k) F.stack_Table_move [a0, a1, a2, a3, a4] h = nrm .no h (stack_Table_move k (R (T k)) a0 a1 a2 a3 a4 h) :=
 (R_body (t := T k) (T_scott k) (by kernel_rfl) (by kernel_rfl) _ _).trans (by kernel_rfl)
theorem stack_Table_move_l1_eq (k : Nat) (call : Caller) (a0 a1 a2 a3 a4 : Value) (h : Heap) : stack_Table_move_l1 k call [(0, a0), (1, a1), (2, a2), (3, a3), (4, a4)] h =
 (call F.stack_kept_pop [a1] h).bind fun v3 h4 =>
 (extractR v3 0 h4).bind fun v5 h6 =>
 (extractR v3 1 h6).bind fun v7 h8 =>
 (unR .not v7 h8).bind fun v9 h10 =>
 condV (some v9) (
 .ok (.ret, [(0, a0), (1, a1), (2, a2), (3, a3), (4, a4), (10, v5), (22, v9)]) h10)
 (
 (nilR a0 h10).bind fun v11 h12 =>
 (fieldAddrR Prog 227 v11 1 h12).bind fun v13 h14 =>
 (loadR Prog 55 v13 h14).bind fun v15 h16 =>
 (binR Prog .mul 3 (.int .i64 2) a3 h16).bind fun v17 h18 =>
 (call F.view_View_I16 [v15, v17] h18).bind fun v19 h20 =>
 (binR Prog .andNot 3 v19 (.int .i64 1) h20).bind fun v21 h22 =>
 (unR .not a4 h22).bind fun v23 h24 =>
 condV (some v23) (
 (call F.place_Places_Along [a2, v5, v21] h24).bind fun v25 h26 =>
 stack_Table_move_j1 k call a0 a1 a2 a3 a4 v19 h26)
 (
 (binR Prog .eql 3 v21 (.int .i64 (-32768)) h24).bind fun v27 h28 =>
 condV (some v27) (
 (call F.place_Places_Level [a2, v5] h28).bind fun v29 h30 =>
 stack_Table_move_j1 k call a0 a1 a2 a3 a4 v19 h30)
 (
 (call F.place_Places_Across [a2, v5, v21] h28).bind fun v31 h32 =>
 stack_Table_move_j1 k call a0 a1 a2 a3 a4 v19 h32))) :=
 (loopB_eq _ _).trans (by kernel_rfl)
theorem stack_Table_move_j1_eq (k : Nat) (call : Caller) (a0 a1 a2 a3 a4 a12 : Value) (h : Heap) : stack_Table_move_j1 k call a0 a1 a2 a3 a4 a12 h =
 (binR Prog .and 3 a12 (.int .i64 1) h).bind fun v33 h34 =>
 (binR Prog .eql 3 v33 (.int .i64 1) h34).bind fun v35 h36 =>
 condV (some v35) (
 .ok (.ret, [(0, a0), (1, a1), (2, a2), (3, a3), (4, a4), (51, v35)]) h36)
 (
 (binR Prog .add 3 a3 (.int .i64 1) h36).bind fun v37 h38 =>
 .ok (.normal, [(0, a0), (1, a1), (2, a2), (3, v37), (4, a4)]) h38) := by kernel_rfl
theorem stack_Table_move_l1k_r (k : Nat) (call : Caller) (a0 a1 a2 a3 a4 a10 a22 : Value) (h : Heap) : stack_Table_move_l1k k call .ret [(0, a0), (1, a1), (2, a2), (3, a3), (4, a4), (10, a10), (22, a22)] h =
 .ok (.tuple #[]) h := by kernel_rfl
theorem stack_Table_move_l1k_r_1 (k : Nat) (call : Caller) (a0 a1 a2 a3 a4 a51 : Value) (h : Heap) : stack_Table_move_l1k k call .ret [(0, a0), (1, a1), (2, a2), (3, a3), (4, a4), (51, a51)] h =
 .ok (.tuple #[]) h := by kernel_rfl
def stack_kept_pop (k : Nat) (call : Caller) (a0 : Value) (h : Heap) : Res Value :=
 (nilR a0 h).bind fun v1 h2 =>
 (fieldAddrR Prog 225 v1 1 h2).bind fun v3 h4 =>
 (loadR Prog 3 v3 h4).bind fun v5 h6 =>
 (binR Prog .eql 3 v5 (.int .i64 0) h6).bind fun v7 h8 =>
 condV (some v7) (
 .ok (.tuple #[(.int .i64 0), (.bool false)]) h8)
 (
 (nilR a0 h8).bind fun v9 h10 =>
 (fieldAddrR Prog 225 v9 1 h10).bind fun v11 h12 =>
 (loadR Prog 3 v11 h12).bind fun v13 h14 =>
 (binR Prog .sub 3 v13 (.int .i64 1) h14).bind fun v15 h16 =>
 (nilR a0 h16).bind fun v17 h18 =>
 (fieldAddrR Prog 225 v17 1 h18).bind fun v19 h20 =>
 (storeR Prog 3 v19 v15 h20).bind fun _v21 h22 =>
 (nilR a0 h22).bindN fun v23 h24 =>
 (fieldAddrR Prog 225 v23 1 h24).bindN fun v25 h26 =>
 (loadR Prog 3 v25 h26).bindN fun v27 h28 =>
 (nilR a0 h28).bindN fun v29 h30 =>
 (fieldAddrR Prog 225 v29 0 h30).bindN fun v31 h32 =>
 (indexAddrR Prog 223 v31 v27 h32).bindN fun v33 h34 =>
 (loadR Prog 3 v33 h34).bindN fun v35 h36 =>
 .ok (.tuple #[v35, (.bool true)]) h36)
theorem stack_kept_pop_R (k : Nat) (a0 : Value) (h : Heap) : R (T k) F.stack_kept_pop [a0] h = nrm .no h (stack_kept_pop k (R (T k)) a0 h) :=
 (R_body (t := T k) (T_scott k) (by kernel_rfl) (by kernel_rfl) _ _).trans (by kernel_rfl)
end
end Go.Sw
end
section
namespace Go.Sw
open Go.RowKit
theorem Star.same {H0 H : Heap} {L : List It} (h : Star H0 H L) (i : Nat) {x : It} (hi : L[i]? = some x) (y : It) (hy : y.P H) (ho : ∀ b, b ∈ y.o → b ∈ x.o) : Star H0 H (L.set i y) :=
 h.step i hi (Nat.le_refl _) (fun _ _ _ => rfl) y hy fun b hb => .inl (ho b hb)
abbrev keptC (xs : List Int) (n : Nat) : List Value := xs.map (fun x => Value.int .i64 x) ++ [.int .i64 n]
def itKept (c : Nat) (ks : List Int) : It :=
 ⟨[c], fun H => ∃ xs : List Int, xs.length = 8 ∧ ks.length ≤ 8 ∧ xs.take ks.length = ks.reverse ∧ H.get c = some ⟨keptC xs ks.length, 1, false⟩, fun _ _ h hk => by
  obtain ⟨xs, h1, h2, h3, h4⟩ := h
  exact ⟨xs, h1, h2, h3, by rw [hk c (List.mem_singleton.2 rfl)]; exact h4⟩⟩
theorem ldCell {H : Heap} {c i : Nat} {cells : List Value} {v : Value} (hg : H.get c = some ⟨cells, 1, false⟩) (h : cells[i]? = some v) : ld1 (.pointer (some ⟨c, i, none⟩)) H = .ok v H := by
 simp [hg, h]
theorem keptC_at {xs : List Int} (h : xs.length = 8) (n : Nat) : (keptC xs n)[8]? = some (.int .i64 n) := by
 unfold keptC
 rw [List.getElem?_append_right (by simp; omega)]
 simp [h]
theorem keptC_get {xs : List Int} {n i : Nat} {x : Int} (h : xs[i]? = some x) : (keptC xs n)[i]? = some (.int .i64 x) := by
 have hi := (List.getElem?_eq_some_iff.1 h).1
 unfold keptC
 rw [List.getElem?_append_left (by simpa using hi), List.getElem?_map, h]
 rfl
theorem keptC_n {xs : List Int} (h : xs.length = 8) (n m : Nat) : (keptC xs n).set 8 (.int .i64 m) = keptC xs m := by
 unfold keptC
 rw [List.set_append_right _ _ (by simp; omega)]
 simp [h]
theorem keptC_set {xs : List Int} (n i : Nat) (x : Int) (h : i < xs.length) : (keptC xs n).set i (.int .i64 x) = keptC (xs.set i x) n := by
 unfold keptC
 rw [List.set_append_left _ _ (by simpa using h), List.map_set]
theorem keptPop_star (k : Nat) {H0 H : Heap} {L : List It} (g : Star H0 H L) (i : Nat) {c : Nat} {ks : List Int} (hi : L[i]? = some (itKept c ks)) :
  ∃ H', R (T k) F.stack_kept_pop [ptrV c] H = .ok (.tuple #[.int .i64 (ks.head?.getD 0), .bool (!ks.isEmpty)]) H' ∧ Star H0 H' (L.set i (itKept c ks.tail)) := by
 have hlt := (List.getElem?_eq_some_iff.1 hi).1
 obtain ⟨xs, h1, h2, h3, h4⟩ := g.at i hi
 rw [stack_kept_pop_R]
 have l8 := ldCell h4 (keptC_at h1 ks.length)
 cases ks with
 | nil =>
  refine ⟨H, nrm_of ?_, ?_⟩
  ·simp only [List.length_nil] at l8
   simp -implicitDefEqProofs (disch := omega) [-ld1_ptr, stack_kept_pop, l8]
  ·exact g.same i hi _ ⟨xs, h1, h2, h3, h4⟩ fun b hb => hb
 | cons j r =>
  have g1 := g.same i hi (itBlk c ⟨keptC xs (j :: r).length, 1, false⟩) h4 fun b hb => hb
  have hi1 : (L.set i (itBlk c ⟨keptC xs (j :: r).length, 1, false⟩))[i]? = some (itBlk c ⟨keptC xs (j :: r).length, 1, false⟩) := List.getElem?_set_self hlt
  obtain ⟨H', e1, g2, _⟩ := g1.stCell i hi1 8 (v := .int .i64 (r.length : Nat)) rfl rfl (by simp; omega)
  rw [List.set_set, keptC_n h1] at g2
  have hi2 : (L.set i (itBlk c ⟨keptC xs r.length, 1, false⟩))[i]? = some (itBlk c ⟨keptC xs r.length, 1, false⟩) := List.getElem?_set_self hlt
  have b2 := g2.get i hi2
  have m8 := ldCell b2 (keptC_at h1 r.length)
  have hx : xs[r.length]? = some j := by
   have := congrArg (fun l => l[r.length]?) h3
   simp only [List.length_cons] at this
   rw [List.getElem?_take, if_pos (by omega)] at this
   rw [this]
   simp
  have mj := ldCell b2 (keptC_get (n := r.length) hx)
  have g3 := g2.same i hi2 (itKept c r) ⟨xs, h1, by simp at h2; omega, by
   have := congrArg (List.take r.length) h3
   simp only [List.length_cons] at this
   rw [List.take_take, Nat.min_eq_left (by omega)] at this
   rw [this]
   simp, b2⟩ fun b hb => hb
  rw [List.set_set] at g3
  refine ⟨H', nrm_of ?_, g3⟩
  simp only [List.length_cons] at l8
  have hr8 : r.length < 8 := by simp at h2; omega
  have hix : ∀ H', ixA 8 1 (.pointer (some ⟨c, 0, none⟩)) (.int .i64 (r.length : Nat)) H' = .ok (.pointer (some ⟨c, r.length, none⟩)) H' := fun H' => by
   unfold ixA
   dsimp only
   rw [if_pos ⟨by omega, by omega⟩]
   simp
  have hne : ((r.length : Int) + 1 == 0) = false := by rw [beq_eq_false_iff_ne]; omega
  have hsub : (r.length : Int) + 1 - 1 = ((r.length : Nat) : Int) := by omega
  simp -implicitDefEqProofs (disch := omega) [-ld1_ptr, -stR_ptr, stack_kept_pop, l8, hne, hsub, e1, m8, hix, mj]
theorem keptPush_star (k : Nat) {H0 H : Heap} {L : List It} (g : Star H0 H L) (i : Nat) {c : Nat} {ks : List Int} (hi : L[i]? = some (itKept c ks)) (x : Int) :
  ∃ H', R (T k) F.stack_kept_push [ptrV c, .int .i64 x] H = .ok (.tuple #[]) H' ∧ Star H0 H' (L.set i (itKept c ((x :: ks).take 8))) := by
 have hlt := (List.getElem?_eq_some_iff.1 hi).1
 obtain ⟨xs, h1, h2, h3, h4⟩ := g.at i hi
 rw [stack_kept_push_R]
 have l8 := ldCell h4 (keptC_at h1 ks.length)
 have g1 := g.same i hi (itBlk c ⟨keptC xs ks.length, 1, false⟩) h4 fun b hb => hb
 have self : ∀ kk : Blk, (L.set i (itBlk c kk))[i]? = some (itBlk c kk) := fun kk => List.getElem?_set_self hlt
 have hix : ∀ (n : Nat) H', n < 8 → ixA 8 1 (.pointer (some ⟨c, 0, none⟩)) (.int .i64 n) H' = .ok (.pointer (some ⟨c, n, none⟩)) H' := fun n H' hn => by
  unfold ixA
  dsimp only
  rw [if_pos ⟨by omega, by omega⟩]
  simp
 by_cases c8 : ks.length = 8
 ·have h8 : ((ks.length : Int) == 8) = true := by rw [beq_iff_eq]; omega
  have hrev : xs = ks.reverse := by rw [← h3, List.take_of_length_le (by omega)]
  obtain ⟨x0, x1, x2, x3, x4, x5, x6, x7, hxs⟩ : ∃ x0 x1 x2 x3 x4 x5 x6 x7 : Int, xs = [x0, x1, x2, x3, x4, x5, x6, x7] := by
   match xs, h1 with
   | [x0, x1, x2, x3, x4, x5, x6, x7], _ => exact ⟨x0, x1, x2, x3, x4, x5, x6, x7, rfl⟩
  have hs1 : ∀ H', slA 8 1 (.pointer (some ⟨c, 0, none⟩)) none none none H' = .ok (.slice (some ⟨c, 0, none⟩) 8 8) H' := fun H' => by simp [slA, boundOf]
  have hs2 : ∀ H', slA 8 1 (.pointer (some ⟨c, 0, none⟩)) (some (.int .i64 1)) none none H' = .ok (.slice (some ⟨c, 1, none⟩) 7 7) H' := fun H' => by simp [slA, boundOf]
  rw [c8] at h4 l8 g1
  have hcp : cpR 1 (.slice (some ⟨c, 0, none⟩) 8 8) (.slice (some ⟨c, 1, none⟩) 7 7) H = .ok (.int .i64 7) (H.set c (some ⟨keptC [x1, x2, x3, x4, x5, x6, x7, x7] 8, 1, false⟩)) := by
   rw [hxs] at h4
   unfold cpR
   simp [lenV, firstV, cellsAt, h4, keptC, putCells, splice] <;> rfl
  have g2 := g1.setBlk i (self _) ⟨keptC [x1, x2, x3, x4, x5, x6, x7, x7] 8, 1, false⟩
  rw [List.set_set] at g2
  generalize H.set c (some ⟨keptC [x1, x2, x3, x4, x5, x6, x7, x7] 8, 1, false⟩) = H1 at hcp g2
  have b2 := g2.get i (self _)
  have m8 := ldCell b2 (keptC_at rfl 8)
  obtain ⟨H2, e2, g3, _⟩ := g2.stCell i (self _) 8 (v := .int .i64 7) rfl rfl (by simp)
  rw [List.set_set, show (keptC [x1, x2, x3, x4, x5, x6, x7, x7] 8).set 8 (.int .i64 7) = keptC [x1, x2, x3, x4, x5, x6, x7, x7] 7 from rfl] at g3
  have b3 := g3.get i (self _)
  have n8 := ldCell b3 (keptC_at rfl 7)
  obtain ⟨H3, e3, g4, _⟩ := g3.stCell i (self _) 7 (v := .int .i64 x) rfl rfl (by simp)
  rw [List.set_set, show (keptC [x1, x2, x3, x4, x5, x6, x7, x7] 7).set 7 (.int .i64 x) = keptC [x1, x2, x3, x4, x5, x6, x7, x] 7 from rfl] at g4
  have b4 := g4.get i (self _)
  have o8 := ldCell b4 (keptC_at rfl 7)
  obtain ⟨H4, e4, g5, _⟩ := g4.stCell i (self _) 8 (v := .int .i64 8) rfl rfl (by simp)
  rw [List.set_set, show (keptC [x1, x2, x3, x4, x5, x6, x7, x] 7).set 8 (.int .i64 8) = keptC [x1, x2, x3, x4, x5, x6, x7, x] 8 from rfl] at g5
  have b5 := g5.get i (self _)
  have hks : ks = [x7, x6, x5, x4, x3, x2, x1, x0] := by
   have := congrArg List.reverse hrev
   rw [List.reverse_reverse, hxs] at this
   rw [← this]
   rfl
  have g6 := g5.same i (self _) (itKept c ((x :: ks).take 8)) ⟨[x1, x2, x3, x4, x5, x6, x7, x], rfl, by simp; omega, by rw [hks]; rfl, by rw [hks]; exact b5⟩ fun b hb => hb
  rw [List.set_set] at g6
  refine ⟨H4, nrm_of ?_, g6⟩
  have hx7 := fun H' => hix 7 H' (by omega)
  have hx7 : ∀ H', ixA 8 1 (.pointer (some ⟨c, 0, none⟩)) (.int .i64 7) H' = .ok (.pointer (some ⟨c, 7, none⟩)) H' := hx7
  have l8 : ld1 (.pointer (some ⟨c, 8, none⟩)) H = .ok (.int .i64 8) H := l8
  have m8 : ld1 (.pointer (some ⟨c, 8, none⟩)) H1 = .ok (.int .i64 8) H1 := m8
  have n8 : ld1 (.pointer (some ⟨c, 8, none⟩)) H2 = .ok (.int .i64 7) H2 := n8
  have o8 : ld1 (.pointer (some ⟨c, 8, none⟩)) H3 = .ok (.int .i64 7) H3 := o8
  simp -implicitDefEqProofs (disch := omega) [-ld1_ptr, -stR_ptr, stack_kept_push, l8, hs1, hs2, hcp, m8, e2, stack_kept_push_j1_eq, n8, hx7, e3, o8, e4]
 ·have hne : ((ks.length : Int) == 8) = false := by rw [beq_eq_false_iff_ne]; omega
  have hx := hix ks.length
  obtain ⟨H1, e1, g2, _⟩ := g1.stCell i (self _) ks.length (v := .int .i64 x) rfl rfl (by simp; omega)
  rw [List.set_set, keptC_set _ _ _ (by omega)] at g2
  have b2 := g2.get i (self _)
  have m8 := ldCell b2 (keptC_at (by simpa using h1) ks.length)
  obtain ⟨H2, e2, g3, _⟩ := g2.stCell i (self _) 8 (v := .int .i64 ((ks.length + 1 : Nat) : Int)) rfl rfl (by simp; omega)
  rw [List.set_set, keptC_n (by simpa using h1)] at g3
  have b3 := g3.get i (self _)
  have htk : (x :: ks).take 8 = x :: ks := List.take_of_length_le (by simp; omega)
  have g4 := g3.same i (self _) (itKept c ((x :: ks).take 8)) ⟨xs.set ks.length x, by simpa using h1, by simp; omega, by
   rw [htk, List.length_cons, List.take_add_one, List.getElem?_set_self (by omega), List.take_set_of_le (Nat.le_refl _), h3]
   simp, by rw [htk]; exact b3⟩ fun b hb => hb
  rw [List.set_set] at g4
  refine ⟨H2, nrm_of ?_, g4⟩
  rw [show ((ks.length + 1 : Nat) : Int) = (ks.length : Int) + 1 by omega] at e2
  simp -implicitDefEqProofs (disch := omega) [-ld1_ptr, -stR_ptr, stack_kept_push, l8, hne, stack_kept_push_j2_eq, hx, e1, m8, e2]
end Go.Sw
end
