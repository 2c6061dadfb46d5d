/-
  Functions' forms, and what is proved of them, part 9.
-/
import Derived.Test.YtanfippcmdialaaSwW8
import Derived.Test.YtanfippcmdialaaSwCfg
import Derived.Test.YtanfippcmdialaaSwW5
import Derived.Test.YtanfippcmdialaaSwW3
import Derived.Test.YtanfippcmdialaaSwW6
set_option linter.unusedSimpArgs false
set_option linter.unusedVariables false
set_option linter.unusedSectionVars false
section
namespace Go.Sw
open Go.RowKit
abbrev compsG (j:Nat):List Int:=(List.range j).map fun (i:Nat) => ((i % 9:Nat):Int)
abbrev ligsG (j:Nat):List Int:=(List.range j).map fun (i:Nat) => ((i:Nat):Int)
abbrev putC (vC vR sE vA sC sL:Value):List Value:=[vC,vR,sE,.int .u8 2,vA,sC,sL]
set_option maxHeartbeats 1000000 in
theorem put_l1 (k:Nat) (a0 a4 a5 vC vR sE vA:Value) {H0 H:Heap} {L:List It} {b:Nat} (g:Star H0 H (L ++ [itBlk b ⟨putC vC vR sE vA (.slice none 0 0) (.slice none 0 0),1,false⟩])) :
  ∃ sC oC sL oL zz H',loopN (ζ2l k (R (T k))) loopFuel [(0,a0),(4,a4),(5,a5),(6,ptrV b),(44,.int .i64 0)] H =
   .ok (.exit 0,[(0,a0),(4,a4),(5,a5),(6,ptrV b),(44,zz),(45,.bool false)]) H' ∧ Star H0 H' (L ++ [itBlk b ⟨putC vC vR sE vA sC sL,1,false⟩,itRow oC 1 sC encH (compsG 10),itRow oL 1 sL encH (ligsG 10)]):=by
 have g0:=(g.more_row (Ext.refl _) (OwnO.nil encH _ 1) (fun b hb => by cases hb)).more_row (Ext.refl _) (OwnO.nil encH _ 1) (fun b hb => by cases hb);simp only [List.append_assoc,List.cons_append,List.nil_append] at g0;have s0:∀ a b c x:It,(L ++ [a,b,c]).set L.length x = L ++ [x,b,c]:=fun a b c x => by rw [List.set_append_right _ _ (by omega)]; simp
 have s1:∀ a b c x:It,(L ++ [a,b,c]).set (L.length + 1) x = L ++ [a,x,c]:=fun a b c x => by rw [List.set_append_right _ _ (by omega)]; simp
 have s2:∀ a b c x:It,(L ++ [a,b,c]).set (L.length + 2) x = L ++ [a,b,x]:=fun a b c x => by rw [List.set_append_right _ _ (by omega)]; simp
 have t0:∀ a b c:It,(L ++ [a,b,c])[L.length]? = some a:=fun a b c => by simp
 have t1:∀ a b c:It,(L ++ [a,b,c])[L.length + 1]? = some b:=fun a b c => by rw [List.getElem?_append_right (by omega)]; simp
 have t2:∀ a b c:It,(L ++ [a,b,c])[L.length + 2]? = some c:=fun a b c => by rw [List.getElem?_append_right (by omega)]; simp
 obtain ⟨xx,e',H1,hr1,rfl,sC,oC,sL,oL,rfl,g1⟩:=loop_up (body:=ζ2l k (R (T k))) 10
  (fun j e H' => ∃ sC oC sL oL,e = [(0,a0),(4,a4),(5,a5),(6,ptrV b),(44,.int .i64 j)] ∧ Star H0 H' (L ++ [itBlk b ⟨putC vC vR sE vA sC sL,1,false⟩,itRow oC 1 sC encH (compsG j),itRow oL 1 sL encH (ligsG j)]))
  (fun xx e H' => xx = .exit 0 ∧ ∃ sC oC sL oL,e = [(0,a0),(4,a4),(5,a5),(6,ptrV b),(44,.int .i64 10),(45,.bool false)] ∧ Star H0 H' (L ++ [itBlk b ⟨putC vC vR sE vA sC sL,1,false⟩,itRow oC 1 sC encH (compsG 10),itRow oL 1 sL encH (ligsG 10)]))
  (e0:=[(0,a0),(4,a4),(5,a5),(6,ptrV b),(44,.int .i64 0)]) (H0:=H) ⟨_,none,_,none,rfl,g0⟩ (by omega)
  (fun j e H' hj ⟨sC,oC,sL,oL,he,g⟩ => by
   subst he;have hjl:(j:Int) < 10:=by omega
   have hw3:IntKind.i64.wrap ((j:Int) + 1) = ((j + 1:Nat):Int):=by rw [wrap_i64 (by omega) (by omega)]; omega
   have hrem:=fun H => bin_rem Prog 3 H .i64 (j:Int) 9 (by decide);obtain ⟨c,hc⟩:∃ c:Int,c = ((j % 9:Nat):Int):=⟨_,rfl⟩
   rw [Int.tmod_eq_emod_of_nonneg (by omega),show (j:Int) % 9 = c by omega] at hrem;have u1:IntKind.u16.wrap c = c:=by unfold IntKind.wrap; simp [IntKind.signed,IntKind.bits]; omega
   have u2:IntKind.u16.wrap (j:Int) = (j:Int):=by unfold IntKind.wrap; simp [IntKind.signed,IntKind.bits]; omega
   have b0:=g.get _ (t0 _ _ _);obtain ⟨s3,o3,H3,e3,g⟩:=g.append1 (bytes:=2) (L.length + 1) encH_len (t1 _ _ _) c (by simp; omega) (by decide);rw [s1,show compsG j ++ [c] = compsG (j + 1) by rw [hc]; simp [compsG,List.range_succ]] at g;obtain ⟨H4,e4,g,_⟩:=g.stCell L.length (t0 _ _ _) 5 (v:=s3) (g.row _ (t1 _ _ _)).storable (g.row _ (t1 _ _ _)).cells (by simp);rw [s0] at g;simp only [List.set_cons_zero,List.set_cons_succ] at g;have b4:=g.get _ (t0 _ _ _);obtain ⟨s5,o5,H5,e5,g⟩:=g.append1 (bytes:=2) (L.length + 2) encH_len (t2 _ _ _) (j:Int) (by simp; omega) (by decide);rw [s2,show ligsG j ++ [(j:Int)] = ligsG (j + 1) by simp [ligsG,List.range_succ]] at g;obtain ⟨H6,e6,g,_⟩:=g.stCell L.length (t0 _ _ _) 6 (v:=s5) (g.row _ (t2 _ _ _)).storable (g.row _ (t2 _ _ _)).cells (by simp);rw [s0] at g;simp only [List.set_cons_zero,List.set_cons_succ] at g;refine .inl ⟨_,H6,?_,s3,o3,s5,o5,rfl,g⟩;rw [ζ4y];simp -implicitDefEqProofs (disch:=omega) [hjl,hrem,u1,u2,hw3,b0,e3,e4,b4,e5,e6])
  (fun e H' ⟨sC,oC,sL,oL,he,g⟩ => by
   subst he;refine ⟨.exit 0,_,H',?_,by simp,rfl,sC,oC,sL,oL,rfl,g⟩;rw [ζ4y];simp -implicitDefEqProofs)
 exact ⟨sC,oC,sL,oL,_,H1,hr1,g1⟩
end Go.Sw
end
section
set_option maxRecDepth 100000
set_option linter.unusedVariables false
namespace Go.Sw
noncomputable section
def ζ41 (k:Nat) (call:Caller):Env → Heap → Res (AExit × Env):=loopB (C k) call F.ζ1c [1,1,1,0,1,0,0]
def ζ7h (k:Nat) (call:Caller):Kont Value:=kBlock 0 (kSeq (pieceK (C k) call F.ζ1c [1,1,1,1]) (kDone Prog (resOf Prog F.ζ1c)))
def ζ1c (k:Nat) (call:Caller) (a0:Value) (h:Heap):Res Value :=
 (boxR a0 h).bind fun v1 h2 =>
 (fieldAddrR Prog 154 v1 0 h2).bind fun v3 h4 =>
 (loadR Prog 104 v3 h4).bind fun v5 h6 =>
 (call F.ζ3 [v5,(.int .i64 2),(.int .i64 4)] h6).bind fun v7 h8 =>
 (sliceR Prog 31 v7 (some (.int .i64 16)) (some (.int .i64 20)) none h8).bindN fun v9 h10 =>
 (builtinV Prog .len [31] [v7] h10).bindN fun v11 h12 =>
 (call F.ζ6 [(.slice none 0 0),v11,(.int .i64 4)] h12).bindT (fun p15 h16 => .panic p15 h16) fun v13 h14 =>
 (builtinV Prog .copy [31,31] [v9,v13] h14).bindN fun v17 h18 =>
 chkR ((okVal (sliceR Prog 31 v7 (some (.int .i64 16)) (some (.int .i64 20)) none h14) v9 && true) && true) (
 (fieldAddrR Prog 154 v1 1 h18).bind fun v19 h20 =>
 (loadR Prog 106 v19 h20).bind fun v21 h22 =>
 (builtinV Prog .len [106] [v21] h22).bind fun v23 h24 =>
 (loopN (ζ41 k call) loopFuel [(3,v7),(16,v21),(17,v23),(18,(.int .i64 0))] h24).bind fun r25 h26 =>
 ζ7h k call r25.1 r25.2 h26)
theorem ζfy (k:Nat) (a0:Value) (h:Heap):R (T k) F.ζ1c [a0] h = nrm .fz h (ζ1c k (R (T k)) a0 h) :=
 (R_body (t:=T k) (T_scott k) (by kernel_rfl) (by kernel_rfl) _ _).trans (by kernel_rfl)
theorem ζ6b (k:Nat) (call:Caller) (a3 a16 a17 a18:Value) (h:Heap):ζ41 k call [(3,a3),(16,a16),(17,a17),(18,a18)] h =
 (binR Prog .lss 3 a18 a17 h).bind fun v27 h28 =>
 condV (some v27) (
 (indexAddrR Prog 106 a16 a18 h28).bind fun v29 h30 =>
 (loadR Prog 80 v29 h30).bind fun v31 h32 =>
 (convR Prog 80 3 v31 h32).bind fun v33 h34 =>
 (call F.ζ6 [a3,v33,(.int .i64 2)] h34).bind fun v35 h36 =>
 (binR Prog .add 3 a18 (.int .i64 1) h36).bind fun v37 h38 =>
 .ok (.normal,[(3,v35),(16,a16),(17,a17),(18,v37)]) h38)
 (
 .ok ((.exit 0),[(3,a3),(16,a16),(17,a17),(18,a18),(19,v27)]) h28) :=
 (loopB_eq _ _).trans (by kernel_rfl)
theorem ζaa (k:Nat) (call:Caller) (a3 a16 a17 a18 a19:Value) (h:Heap):ζ7h k call (.exit 0) [(3,a3),(16,a16),(17,a17),(18,a18),(19,a19)] h =
 .ok a3 h:=by kernel_rfl
end
end Go.Sw
end
section
namespace Go.Sw
open Go.RowKit
theorem ζoy (p:Plan) (w:Int) (rm r x:List Int) (h:rm.length = r.length):((planRoom p w rm) ++ x).take 16 ++ (r ++ ((planRoom p w rm) ++ x).drop (16 + r.length)) = planRoom p w r ++ x:=by
 obtain ⟨hd,tl,h16,hs⟩:=ζpx p w r.length;rw [hs rm h,hs r rfl];rw [← h16,show hd ++ (rm ++ tl) ++ x = hd ++ (rm ++ (tl ++ x)) by simp,List.take_left,← h];rw [show hd ++ (rm ++ (tl ++ x)) = (hd ++ rm) ++ (tl ++ x) by simp,show hd.length + rm.length = (hd ++ rm).length by simp,List.drop_left];simp
theorem ζtv (s:List Int) {j:Nat} {x:Int} (h:s[j]? = some x):twos (s.take (j + 1)) = twos (s.take j) ++ bytesOf x 2:=by rw [ζ1x h,ζgu]
abbrev enc18i (n:Int):List Value:=[.int .u16 n]
theorem ζsq (n:Int):(enc18i n).length = 1:=rfl
theorem w18_l1 (k:Nat) {H0 H:Heap} {o:Option Nat} {s7:Value} {lk:List Int} (g:Star H0 H [itRow o 1 s7 encB lk]) {v:Value} {s:List Int} (hv:Sl H0 1 v enc18i s) (hb:∀ x,x ∈ s → 0 ≤ x ∧ x < 65536) (hl:lk.length + 2 * s.length < 2 ^ 29) :
  ∃ s' o' zz H',loopN (ζ41 k (R (T k))) loopFuel [(3,s7),(16,v),(17,.int .i64 s.length),(18,.int .i64 0)] H =
   .ok (.exit 0,[(3,s'),(16,v),(17,.int .i64 s.length),(18,zz),(19,.bool false)]) H' ∧ Star H0 H' [itRow o' 1 s' encB (lk ++ twos s)]:=by
 obtain ⟨xx,e',H1,hr1,rfl,s',o',rfl,g1⟩:=loop_up (body:=ζ41 k (R (T k))) s.length
  (fun j e H' => ∃ s' o',e = [(3,s'),(16,v),(17,.int .i64 s.length),(18,.int .i64 j)] ∧ Star H0 H' [itRow o' 1 s' encB (lk ++ twos (s.take j))])
  (fun xx e H' => xx = .exit 0 ∧ ∃ s' o',e = [(3,s'),(16,v),(17,.int .i64 s.length),(18,.int .i64 s.length),(19,.bool false)] ∧ Star H0 H' [itRow o' 1 s' encB (lk ++ twos s)])
  (e0:=[(3,s7),(16,v),(17,.int .i64 s.length),(18,.int .i64 0)]) (H0:=H) ⟨s7,o,rfl,by simpa [twos] using g⟩ (by omega)
  (fun j e H' hj ⟨s',o',he,g⟩ => by
   subst he;have hjl:(j:Int) < s.length:=by omega
   obtain ⟨x,hx⟩:∃ x,s[j]? = some x:=⟨_,List.getElem?_eq_getElem hj⟩
   have hxb:=hb x (List.mem_of_getElem? hx);obtain ⟨p,i1,i2⟩:=hv.ix1 ζsq j x hx _ rfl;have i2:=i2 H' g.ext;obtain ⟨s2,o2,H2,e2,g2⟩:=Put_star k g 0 rfl x 2 2 rfl hxb.1 (by omega) (by omega) (by rw [List.length_append,twos_len,List.length_take]; omega);simp only [List.set_cons_zero] at g2;rw [List.append_assoc,← ζtv _ hx] at g2;have hw64:IntKind.i64.wrap x = x:=wrap_i64 (by omega) (by omega);refine .inl ⟨_,H2,?_,s2,o2,rfl,g2⟩;rw [ζ6b];simp -implicitDefEqProofs (disch:=omega) [hjl,i1,i2,hw64,e2])
  (fun e H' ⟨s',o',he,g⟩ => by
   subst he;rw [List.take_length] at g;refine ⟨.exit 0,_,H',?_,by simp,rfl,s',o',rfl,g⟩;rw [ζ6b];simp -implicitDefEqProofs)
 exact ⟨s',o',_,H1,hr1,g1⟩
set_option maxRecDepth 20000 in
set_option maxHeartbeats 1000000 in
theorem ζql (k:Nat) (hW:ownW k = .no) (p:Plan) (hp:p.ok) (h1:p.cls.length ≤ 1000) (h2:p.rows.length ≤ 1000) (h3:p.ents.length ≤ 1000) {H:Heap} {vC vR sE:Value} {rv:List (List Int × Value)} (hP:PlanSl H p vC vR sE rv)
  {vV:Value} {vals:List Int} (hV:Sl H 1 vV enc18i vals) (hvb:∀ x,x ∈ vals → 0 ≤ x ∧ x < 65536) (h4:vals.length ≤ 1000) :
  ∃ s o H',ζ1c k (R (T k)) (.agg #[vC,vR,sE,.int .u8 p.wide,vV]) H = .ok s H' ∧ Star H H' [itRow o 1 s encB (roomB p 2 0 vals)]:=by
 obtain ⟨H1,hH1⟩:∃ H1,H1 = H.push ⟨[vC,vR,sE,.int .u8 p.wide,vV],1,false⟩:=⟨_,rfl⟩
 have hx1:Ext H H1:=by rw [hH1]; exact (Ext.refl H).push _
 have hg1:H1.get H.n = some ⟨[vC,vR,sE,.int .u8 p.wide,vV],1,false⟩:=by rw [hH1]; exact ζc _ _ _ rfl
 obtain ⟨N,hN⟩:∃ N,N = (planRoom p 2 (List.replicate 4 0)).length:=⟨_,rfl⟩
 have hNb:N ≤ 100000:=by rw [hN]; exact ζjm hp 2 (by simp) h1 h2 h3
 obtain ⟨s0,o0,J0,e0,g,_⟩:=ζn8 k hW p hp 2 (by omega) 4 (by omega) h1 h2 h3 (Star.nil H1) (hP.up hx1);rw [ζf7] at g;simp only [List.nil_append] at g;have gx0:=g.ext;have hln0:∀ H',lnS s0 H' = .ok (.int .i64 N) H':=by rw [hN]; exact (g.row 0 rfl).len
 have hlnV:∀ H',lnS vV H' = .ok (.int .i64 vals.length) H':=fun H' => hV.len H';have hN16:20 ≤ N:=by rw [hN]; unfold planRoom; simp; omega
 obtain ⟨c5,rfl,hs5,cut1⟩:=g.cut1 0 rfl 16 4 (by omega) (by omega) .i64 .i64;have g:=g.more_row (Ext.refl _) (OwnO.nil encB _ 1) (fun b hb => by cases hb);simp only [List.cons_append,List.nil_append] at g;obtain ⟨t6,u6,J6,f6,g⟩:=Put_star k g 1 rfl N 4 4 rfl (by omega) (by omega) (by omega) (by simp);simp only [List.set_cons_zero,List.set_cons_succ,List.nil_append] at g;obtain ⟨c6,h6,_,cut2⟩:=g.cut1 0 rfl 16 4 (by omega) (by omega) .i64 .i64;have h6:=Option.some.inj h6;subst h6;obtain ⟨J7,f7,g⟩:=g.copy1 0 1 rfl rfl 16 4 ((planRoom p 2 (List.replicate 4 0)).length - 16) (by simp) (by omega) (by omega);simp only [List.set_cons_zero] at g;have hcopy:=ζoy p 2 (List.replicate 4 0) (bytesOf (N:Int) 4) [] (by simp);rw [ζ84,List.append_nil,List.append_nil] at hcopy;rw [hcopy] at g;have hrl:(planRoom p 2 (bytesOf (N:Int) 4)).length = N:=by rw [hN]; exact ζ7s p 2 _ _ (by simp)
 have g0:=g.take 1;simp only [List.take_succ_cons,List.take_zero] at g0;have hv7:=g0.get;obtain ⟨s',o',zz,J8,f8,g8⟩:=w18_l1 k g0 (hV.up hx1) hvb (by rw [hrl]; omega);have hfin:planRoom p 2 (bytesOf (N:Int) 4) ++ twos vals = roomB p 2 0 vals:=by unfold roomB; rw [← hN,Int.zero_add]
 rw [hfin] at g8;have g1':J7.get H.n = some ⟨[vC,vR,sE,.int .u8 p.wide,vV],1,false⟩:=g.ext.get hg1;refine ⟨s',o',J8,?_,?_⟩;rotate_left
 ·have ho:=(g8.own 0 rfl).base hx1.n;obtain ⟨o2,ho2,hlt⟩:=ho.toO;have hst:Star H J8 ([] ++ [itRow o2 1 s' encB (roomB p 2 0 vals)]):=(Star.nil H).more_row (hx1.trans g8.ext) ho2 fun b hb => ⟨hlt b hb,ho2.lt b hb⟩
  have h7:o2 = o':=by
   have hr:=g8.row 0 rfl;rcases hr with ⟨r1,r2,r3⟩ | ⟨b,r1,r2,r3⟩
   ·exfalso;have:=congrArg List.length r2;unfold roomB at this;rw [List.length_append,ζpw,← hN] at this;simp at this;omega
   ·rcases ho2 with ⟨q1,q2,q3⟩ | ⟨b2,q1,q2,q3⟩
    ·exfalso;have:=congrArg List.length q2;unfold roomB at this;rw [List.length_append,ζpw,← hN] at this;simp at this;omega
    ·rw [r1,q1];rw [r2] at q2;injection q2 with q2;injection q2 with q2;injection q2 with q2;rw [q2]
  subst h7;simpa using hst
 have hv5:veq (.slice (some ⟨c5,16,none⟩) 4 ((planRoom p 2 (List.replicate 4 0)).length - 16)) (.slice (some ⟨c5,16,none⟩) 4 ((planRoom p 2 (List.replicate 4 0)).length - 16)) = true:=by simp
 generalize (planRoom p 2 (List.replicate 4 0)).length - 16 = cap at cut1 cut2 f7 hv5;have cut1:slS 1 s0 (some (.int .i64 16)) (some (.int .i64 20)) none J0 = .ok (.slice (some ⟨c5,16,none⟩) 4 cap) J0:=cut1;have cut2:slS 1 s0 (some (.int .i64 16)) (some (.int .i64 20)) none J6 = .ok (.slice (some ⟨c5,16,none⟩) 4 cap) J6:=cut2;rw [hH1] at e0;have e0:R (T k) F.ζ3 [.agg #[vC,vR,sE,.int .u8 p.wide],.int .i64 2,.int .i64 4] (H.push ⟨[vC,vR,sE,.int .u8 p.wide,vV],1,false⟩) = .ok s0 J0:=e0;simp -implicitDefEqProofs (disch:=omega) [ζ1c,e0,hln0,cut1,f6,cut2,f7,hv5,g1',hlnV,f8,ζaa]
theorem ζty (k:Nat) (hk:k < 1000000) (hW:ownW k = .no) (p:Plan) (hp:p.ok) (h1:p.cls.length ≤ 1000) (h2:p.rows.length ≤ 1000) (h3:p.ents.length ≤ 1000) {H:Heap} {vC vR sE:Value} {rv:List (List Int × Value)} (hP:PlanSl H p vC vR sE rv)
  {vV:Value} {vals:List Int} (hV:Sl H 1 vV enc18i vals) (hvb:∀ x,x ∈ vals → 0 ≤ x ∧ x < 65536) (h4:vals.length ≤ 1000) :
  R (T k) F.ζ1c [.agg #[vC,vR,sE,.int .u8 p.wide,vV]] H = .ok (lv encB (roomB p 2 0 vals)) H:=by
 obtain ⟨s,o,H',e,g⟩:=ζql k hW p hp h1 h2 h3 hP hV hvb h4;rw [ζfy];obtain ⟨L,hf⟩:=(g.own 0 rfl).freeze encB_len (fun n _ v hv => by simp at hv; subst hv; trivial) 6;exact nrm_fz (v:=s) (H':=H') e hf g.ext (Flat.B _).alive
structure IPlan where
 p:Plan
 vals:List Int
structure IPlan.ok (x:IPlan):Prop where
 p:x.p.ok
 vals:∀ n,n ∈ x.vals → 0 ≤ n ∧ n < 65536
def ISmall (x:IPlan) (n:Nat):Prop:=x.p.cls.length ≤ 40 ∧ x.p.rows.length ≤ 20 ∧ x.p.ents.length ≤ 40 ∧ x.vals.length ≤ 100 ∧ n ≤ 40
instance (x:IPlan) (n:Nat):Decidable (ISmall x n):=by unfold ISmall; exact inferInstance
end Go.Sw
end
section
namespace Go.Sw
open Go.RowKit
theorem ζqg (k:Nat) {H:Heap} {v:Value} {ids:List Int} (hv:Sl H 1 v encI ids) (hl:ids.length < 2 ^ 31) :
  ∃ c o H',R (T k) F.line_New [v] H = .ok (ptrV c) H' ∧ Star H H' [itLine c o (newG ids)]:=by
 have g:=((Star.nil H).more_row (Ext.refl _) (OwnO.nil encG _ 2) (fun b hb => by cases hb)).push ⟨[.slice none 0 0],1,false⟩;rw [List.append_assoc] at g
 obtain ⟨x,e',H1,hr,rfl,⟨a,rfl⟩,s,o,g⟩:=loop_up (body:=ζfp k (R (T k))) ids.length
  (fun j e H' => e = [(3,ptrV H.n),(8,v),(9,.int .i64 ids.length),(10,.int .i64 j)] ∧ ∃ s o,Star H H' ([] ++ [itRow o 2 s encG (newG (ids.take j)),itBlk H.n ⟨[s],1,false⟩]))
  (fun x e H' => x = .exit 0 ∧ (∃ a,e = [(3,ptrV H.n),(8,v),(9,.int .i64 ids.length),(10,.int .i64 ids.length),(11,a)]) ∧ ∃ s o,Star H H' ([] ++ [itRow o 2 s encG (newG ids),itBlk H.n ⟨[s],1,false⟩]))
  (e0:=[(3,ptrV H.n),(8,v),(9,.int .i64 ids.length),(10,.int .i64 0)]) (H0:=H.push ⟨[.slice none 0 0],1,false⟩) ⟨rfl,_,_,g⟩ (by omega)
  (fun j e H' hj ⟨he,s,o,g⟩ => by
   subst he;have hlt:(j:Int) < ids.length:=by omega
   obtain ⟨x,hx⟩:∃ x,ids[j]? = some x:=⟨_,List.getElem?_eq_getElem hj⟩
   obtain ⟨p,i1,i2⟩:=hv.ix1 encI_len j x hx _ rfl;have i2:=i2 H' g.ext;have hc:=g.get (List.length ([]:List It) + 1) (at2_1 _ _ _);have hcn:¬ H.n = H'.n:=by have:=Heap.get_lt hc; omega
   obtain ⟨s',o',H2,e1,g⟩:=g.append1 (bytes:=16) (List.length ([]:List It)) encG_len (at2_0 _ _ _) (⟨x,(j:Nat)⟩:Gl) (by simp; omega) (by decide);rw [set2_0] at g;have hc2:=g.get (List.length ([]:List It) + 1) (at2_1 _ _ _);have st:=(g.row (List.length ([]:List It)) (at2_0 _ _ _)).storable;have ce:=(g.row (List.length ([]:List It)) (at2_0 _ _ _)).cells;have g:=g.setBlk (List.length ([]:List It) + 1) (at2_1 _ _ _) ⟨[s'],1,false⟩;rw [set2_1] at g;refine .inl ⟨_,_,?_,rfl,s',o',by rw [ζ1x hx,ζv3,List.length_take,Nat.min_eq_left (by omega)]; exact g⟩;rw [ζf1];have e1:apR 2 16 s (.slice (some ⟨H'.n,0,none⟩) 1 1) (H'.push ⟨[.int .i64 x,.int .i64 (j:Nat)],2,false⟩) = .ok s' H2:=e1;simp -implicitDefEqProofs (disch:=omega) [hlt,i1,i2,hc,hcn,e1,hc2,st,ce])
  (fun e H' ⟨he,s,o,g⟩ => by
   subst he;refine ⟨.exit 0,_,H',?_,by simp,rfl,⟨.bool false,rfl⟩,s,o,by simpa using g⟩;rw [ζf1];simp -implicitDefEqProofs)
 have g:=Star.join2 [] g;refine ⟨H.n,o,H1,?_,g⟩;rw [ζte];refine nrm_of ?_;have hlv:=fun H' => hv.len H';simp -implicitDefEqProofs [line_New,hr,ζn0,hlv]
theorem ζpj (k:Nat) {H0 H:Heap} {L:List It} (h:Star H0 H L) {v:Value} {ids:List Int} (hv:Sl H 1 v encI ids) (hl:ids.length < 2 ^ 31) :
  ∃ c o H',R (T k) F.line_New [v] H = .ok (ptrV c) H' ∧ Star H0 H' (L ++ [itLine c o (newG ids)]):=by
 obtain ⟨c,o,H',e,g⟩:=ζqg k hv hl;exact ⟨c,o,H',e,h.more g.ext _ (g.at 0 rfl) fun b hb => g.lt 0 rfl b hb⟩
theorem set_same {L:List It} {i:Nat} {a:It} (h:L[i]? = some a):L.set i a = L:=by
 apply List.ext_getElem?;intro j;by_cases hj:i = j
 ·subst hj;rw [List.getElem?_set_self (List.getElem?_eq_some_iff.1 h).1,h]
 ·rw [List.getElem?_set_ne hj]
end Go.Sw
end
section
namespace Go.Sw
open Go.RowKit
theorem ζuu (k:Nat) {args:List Value} {s:Value} {H H':Heap} (h:insertV 2 16 args H = .ok s H'):R (T k) F.ζh args H = .ok s H' :=
 (R_sp (t:=T k) (T_scott k) (s:=fun _ args H => insertV 2 16 args H) (by kernel_rfl) args H).trans (by
  show nrm (mdS k F.ζh H.n) H _ = _;rw [show mdS k F.ζh H.n = .no from by kernel_rfl];exact nrm_of h)
set_option maxHeartbeats 2000000 in
theorem ζja (k:Nat) {H0 H:Heap} {L:List It} (h:Star H0 H L) (il:Nat) {c:Nat} {o:Option Nat} {l:List Gl} (hil:L[il]? = some (itLine c o l)) (i:Int) {vI:Value} {ids:List Int} (hv:∀ H' L',Star H0 H' (L ++ L') → Sl H' 1 vI encI ids) (hb:l.length + ids.length ≤ 2 ^ 30) :
  ∃ o' H',R (T k) F.ζg [ptrV c,.int .i64 i,vI] H = .ok (.bool (decide (0 ≤ i ∧ i ≤ l.length))) H' ∧ Star H0 H' (L.set il (itLine c o' (insertG l i ids))):=by
 have hlt:=(List.getElem?_eq_some_iff.1 hil).1;obtain ⟨_,s0,h1,h2⟩:=h.box il hil;simp at h1;have hlen:=h2.len;rw [ζfo];by_cases hi:0 ≤ i ∧ i ≤ l.length;rotate_left
 ·refine ⟨o,H,nrm_of ?_,?_⟩
  ·rw [decide_eq_false hi];by_cases d:i < 0
   ·simp -implicitDefEqProofs [ζg,d]
   ·have d2:i > (l.length:Int):=by omega
    simp -implicitDefEqProofs [ζg,d,h1,hlen,d2]
  ·unfold insertG;rw [if_neg hi,set_same hil];exact h
 rw [decide_eq_true hi];have d1:¬ i < 0:=by omega
 have d2:¬ i > (l.length:Int):=by omega
 obtain ⟨p,rfl⟩:=Int.eq_ofNat_of_zero_le hi.1;have hat:=ζd1 k h il hil (p:Int);have hcn:¬ c = H.n:=by have:=Heap.get_lt h1; omega
 -- whatever glyph stands there
 have key:∀ q:Gl,q.cl = insCl l p → ∃ o' H',(loopN (ζ32 k (R (T k))) loopFuel [(0,ptrV c),(1,.int .i64 p),(7,ptrV H.n),(9,.slice none 0 0),(38,vI),(39,.int .i64 ids.length),(40,.int .i64 0)] (H.push ⟨encG q,1,false⟩)).bind (fun r h' => ζ3o k (R (T k)) r.1 r.2 h') = .ok (.bool true) H' ∧ Star H0 H' (L.set il (itLine c o' (insertG l p ids))):=by
  intro q hq;have g:=(h.push ⟨encG q,1,false⟩).more_row (Ext.refl _) (OwnO.nil encG _ 2) (fun b hb => by cases hb)
  obtain ⟨xx,e',H1,hr,rfl,s,o1,rfl,g⟩:=loop_up (body:=ζ32 k (R (T k))) ids.length
   (fun j e H' => ∃ s o1,e = [(0,ptrV c),(1,.int .i64 p),(7,ptrV H.n),(9,s),(38,vI),(39,.int .i64 ids.length),(40,.int .i64 j)] ∧ Star H0 H' (L ++ [itBlk H.n ⟨encG q,1,false⟩] ++ [itRow o1 2 s encG ((ids.take j).map fun x => (⟨x,q.cl⟩:Gl))]))
   (fun xx e H' => xx = .exit 0 ∧ ∃ s o1,e = [(0,ptrV c),(1,.int .i64 p),(7,ptrV H.n),(9,s),(38,vI),(39,.int .i64 ids.length),(40,.int .i64 ids.length),(41,.bool false)] ∧ Star H0 H' (L ++ [itBlk H.n ⟨encG q,1,false⟩] ++ [itRow o1 2 s encG (ids.map fun x => (⟨x,q.cl⟩:Gl))]))
   (e0:=[(0,ptrV c),(1,.int .i64 p),(7,ptrV H.n),(9,.slice none 0 0),(38,vI),(39,.int .i64 ids.length),(40,.int .i64 0)]) (H0:=H.push ⟨encG q,1,false⟩) ⟨_,none,rfl,by simpa using g⟩ (by omega)
   (fun j e H' hj ⟨s,o1,he,g⟩ => by
    subst he;have hjl:(j:Int) < ids.length:=by omega
    obtain ⟨x,hx⟩:∃ x,ids[j]? = some x:=⟨_,List.getElem?_eq_getElem hj⟩
    obtain ⟨pp,i1,i2⟩:=(hv H' ([itBlk H.n ⟨encG q,1,false⟩] ++ [itRow o1 2 s encG ((ids.take j).map fun x => (⟨x,q.cl⟩:Gl))]) (by rw [← List.append_assoc]; exact g)).ix1 encI_len j x hx _ rfl;have i2:=i2 H' (Ext.refl _);have gb:=g.memBlk (c:=H.n) (k:=⟨encG q,1,false⟩) (by simp);have hne:¬ H.n = H'.n:=by have:=Heap.get_lt gb; omega
    have hrw:(L ++ [itBlk H.n ⟨encG q,1,false⟩] ++ [itRow o1 2 s encG ((ids.take j).map fun x => (⟨x,q.cl⟩:Gl))])[L.length + 1]? = some (itRow o1 2 s encG ((ids.take j).map fun x => (⟨x,q.cl⟩:Gl))):=by
     rw [List.getElem?_append_right (by simp),List.length_append,List.length_singleton,Nat.sub_self];rfl
    obtain ⟨s2,o2,H2,e2,g2⟩:=g.append1 (bytes:=16) (L.length + 1) encG_len hrw (⟨x,q.cl⟩:Gl) (by rw [List.length_map,List.length_take]; omega) (by decide);rw [List.set_append_right _ _ (by simp)] at g2;have hm:(ids.take j).map (fun x => (⟨x,q.cl⟩:Gl)) ++ [⟨x,q.cl⟩] = (ids.take (j + 1)).map fun x => (⟨x,q.cl⟩:Gl):=by rw [ζ1x hx,List.map_append]; rfl
    rw [hm] at g2;simp only [List.length_append,List.length_singleton,Nat.sub_self,List.set_cons_zero] at g2;refine .inl ⟨_,H2,?_,s2,o2,rfl,g2⟩;rw [ζ5z];have e2:apR 2 16 s (.slice (some ⟨H'.n,0,none⟩) 1 1) (H'.push ⟨[.int .i64 x,.int .i64 q.cl],2,false⟩) = .ok s2 H2:=e2;simp -implicitDefEqProofs (disch:=omega) [hjl,i1,i2,gb,hne,e2])
   (fun e H' ⟨s,o1,he,g⟩ => by
    subst he;rw [List.take_length] at g;refine ⟨.exit 0,_,H',?_,by simp,rfl,s,o1,rfl,g⟩;rw [ζ5z];simp -implicitDefEqProofs)
  have hil2:(L ++ [itBlk H.n ⟨encG q,1,false⟩] ++ [itRow o1 2 s encG (ids.map fun x => (⟨x,q.cl⟩:Gl))])[il]? = some (itLine c o l):=by rw [List.append_assoc,List.getElem?_append_left hlt]; exact hil
  obtain ⟨s3,g3⟩:=g.split il hil2;have hc3:=g3.memBlk (c:=c) (k:=⟨[s3],1,false⟩) (by simp);have hrow:((L ++ [itBlk H.n ⟨encG q,1,false⟩] ++ [itRow o1 2 s encG (ids.map fun x => (⟨x,q.cl⟩:Gl))]).set il (itRow o 2 s3 encG l) ++ [itBlk c ⟨[] ++ [s3],1,false⟩])[il]? = some (itRow o 2 s3 encG l):=by
   rw [List.getElem?_append_left (by simp; omega),List.getElem?_set_self (by simp; omega)]
  have hins:((L ++ [itBlk H.n ⟨encG q,1,false⟩] ++ [itRow o1 2 s encG (ids.map fun x => (⟨x,q.cl⟩:Gl))]).set il (itRow o 2 s3 encG l) ++ [itBlk c ⟨[] ++ [s3],1,false⟩])[L.length + 1]? = some (itRow o1 2 s encG (ids.map fun x => (⟨x,q.cl⟩:Gl))):=by
   rw [List.getElem?_append_left (by simp),List.getElem?_set_ne (by omega),List.getElem?_append_right (by simp)];simp
  obtain ⟨s4,o4,H4,e4,g4⟩:=g3.insertRow (bytes:=16) il (L.length + 1) encG_len (by omega) hrow hins (p:=p) (by omega) (by simp; omega) (by decide);have hblk:((((L ++ [itBlk H.n ⟨encG q,1,false⟩] ++ [itRow o1 2 s encG (ids.map fun x => (⟨x,q.cl⟩:Gl))]).set il (itRow o 2 s3 encG l) ++ [itBlk c ⟨[] ++ [s3],1,false⟩]).set il (itRow o4 2 s4 encG (l.take p ++ ((ids.map fun x => (⟨x,q.cl⟩:Gl)) ++ l.drop p)))))[L.length + 2]? = some (itBlk c ⟨[] ++ [s3],1,false⟩):=by
   rw [List.getElem?_set_ne (by omega),List.getElem?_append_right (by simp)];simp
  have hrow4:((((L ++ [itBlk H.n ⟨encG q,1,false⟩] ++ [itRow o1 2 s encG (ids.map fun x => (⟨x,q.cl⟩:Gl))]).set il (itRow o 2 s3 encG l) ++ [itBlk c ⟨[] ++ [s3],1,false⟩]).set il (itRow o4 2 s4 encG (l.take p ++ ((ids.map fun x => (⟨x,q.cl⟩:Gl)) ++ l.drop p)))))[il]? = some (itRow o4 2 s4 encG (l.take p ++ ((ids.map fun x => (⟨x,q.cl⟩:Gl)) ++ l.drop p))):=List.getElem?_set_self (by simp; omega);have hc4:=g4.get (L.length + 2) hblk;have st4:=(g4.row il hrow4).storable;have ce4:=(g4.row il hrow4).cells;have g5:=g4.setBlk (L.length + 2) hblk ⟨[] ++ [s4],1,false⟩;have g6:=g5.join il (L.length + 2) L.length hlt (by omega) (by rw [List.getElem?_set_ne (by omega)]; exact hrow4) (List.getElem?_set_self (by simp));have hfin:insertG l p ids = l.take p ++ ((ids.map fun x => (⟨x,q.cl⟩:Gl)) ++ l.drop p):=by
   unfold insertG;rw [if_pos hi,Int.toNat_natCast,hq]
  refine ⟨o4,H4.set c (some ⟨[] ++ [s4],1,false⟩),?_,?_⟩;rotate_left
  ·rw [hfin];have e:∀ (x y z z' R R4:It),(((L ++ [x] ++ [y]).set il R ++ [z]).set il R4).set (L.length + 2) z' = L.set il R4 ++ [x,y,z']:=by
    intro x y z z' R R4;rw [List.append_assoc L,List.set_append_left _ _ hlt,List.append_assoc (L.set il R),List.set_append_left _ _ (by simpa using hlt),List.set_set,List.set_append_right _ _ (by simp)];simp
   rw [e,List.take_left' (by simp),List.set_set] at g6;exact g6
  ·have e4:=ζuu k e4;simp -implicitDefEqProofs (disch:=omega) [hr,ζ9y,hc3,e4,hc4,st4,ce4]
 have hlv:=fun H' => (hv H [] (by rw [List.append_nil]; exact h)).len H';cases hq:atG l p with
 | some q =>
  rw [hq] at hat;obtain ⟨o',H',e1,g1⟩:=key q (by unfold insCl; rw [hq]);refine ⟨o',H',nrm_of ?_,g1⟩;simp -implicitDefEqProofs [ζg,d1,h1,hlen,d2,hat,encA,ζd3,hlv,e1]
 | none =>
  rw [hq] at hat;have hxp:Ext H (H.push ⟨[.int .i64 0,.int .i64 0],1,false⟩):=(Ext.refl H).push _;have hat2:=ζd1 k (h.rest hxp) il hil ((p:Int) - 1);obtain ⟨o',H',e1,g1⟩:=key ((atG l ((p:Int) - 1)).getD ⟨0,0⟩) (by unfold insCl; rw [hq]);refine ⟨o',H',nrm_of ?_,g1⟩;have hw:IntKind.i64.wrap ((p:Int) - 1) = (p:Int) - 1:=wrap_i64 (by omega) (by omega);simp -implicitDefEqProofs [ζg,d1,h1,hlen,d2,hat,encA,ζd2,hlv,hw,hat2,e1]
theorem ζmx (k:Nat) {H0 H:Heap} {L:List It} (h:Star H0 H L) (il:Nat) {c:Nat} {o:Option Nat} {l:List Gl} (hil:L[il]? = some (itLine c o l)) (i:Int) {vI:Value} {ids:List Int} (hv:Sl H0 1 vI encI ids) (hb:l.length + ids.length ≤ 2 ^ 30) :
  ∃ o' H',R (T k) F.ζg [ptrV c,.int .i64 i,vI] H = .ok (.bool (decide (0 ≤ i ∧ i ≤ l.length))) H' ∧ Star H0 H' (L.set il (itLine c o' (insertG l i ids))) :=
 ζja k h il hil i (fun _ _ g => hv.up g.ext) hb
end Go.Sw
end
section
namespace Go.Sw
open Go.RowKit
theorem uS_fits {b:List Int} {i n x:Int} (h:uS b i n = some x):0 ≤ i ∧ i + n ≤ b.length:=by
 unfold uS pieceS at h;split at h
 ·omega
 ·simp at h
end Go.Sw
end
