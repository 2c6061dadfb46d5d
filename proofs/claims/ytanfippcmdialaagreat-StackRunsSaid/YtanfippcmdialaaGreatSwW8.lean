/-
  Functions' forms, and what is proved of them, part 8.
-/
import Derived.Test.YtanfippcmdialaaGreatSwW7
import Derived.Test.YtanfippcmdialaaGreatSwW5
import Derived.Test.YtanfippcmdialaaGreatSwW1
import Derived.Test.YtanfippcmdialaaGreatSwLib8
import Derived.Test.YtanfippcmdialaaGreatSwCfg
import Derived.Tactics
import Derived.Tactics2
import Derived.Defers
import Derived.Recover
import Derived.Laws.Pointers
import Derived.Test.YtanfippcmdialaaGreatSwW2
set_option linter.unusedSimpArgs false
set_option linter.unusedVariables false
set_option linter.unusedSectionVars false
section
namespace Go.Sw
open Go.RowKit
theorem Star.stAll {H0 H:Heap} {L:List It} (h:Star H0 H L) (i:Nat) {c:Nat} {cells:List Value} {e:Nat} (hi:L[i]? = some (itBlk c ⟨cells,e,false⟩)) (vs:List Value) (n:Nat) (hn:cells.length = n) (hv:vs.length = n) :
  ∃ H',stR n (.pointer (some ⟨c,0,none⟩)) (.agg vs.toArray) H = .ok undef H' ∧ Star H0 H' (L.set i (itBlk c ⟨vs,e,false⟩)) ∧ H'.n = H.n:=by
 have hg:=h.get i hi;refine ⟨H.set c (some ⟨vs,e,false⟩),?_,h.step i hi (by simp) (fun d _ hd => ?_) _ ?_ fun b hb => .inl hb,by simp⟩
 ·have hd:cells.drop vs.length = []:=by rw [List.drop_eq_nil_iff]; omega
  simp [hg,hv,hd];rw [hv] at hd;rw [if_pos (by omega),hd];simp
 ·rw [ζ3m];exact fun e => hd (show d ∈ [c] by simp [e])
 ·exact ζ9l _ _ _ (by rw [hg]; rfl)
theorem ζp3 (k:Nat) (b:List Int) (hb:Byt b) (i step:Int) (n:Nat) (hi:0 ≤ i ∧ i < 2 ^ 32) (hs:0 ≤ step ∧ step ≤ 8) (hn:n < 2 ^ 33) (hl:b.length < 2 ^ 31) (H:Heap) :
  R (T k) F.ζ1j [lv encB b,.int .i64 i,.int .i64 n,.int .i64 step] H = .ok (.int .i64 (needsS b i step n)) H:=by
 have hU:=fun j H' => refU_run k (H:=H') (Sl.lv H' 1 b) hb j 2 (by omega) (by omega);rw [ζfc]
 obtain ⟨x,e',H1,hr,rfl,rfl,a,rfl⟩:=loop_up (body:=ζ68 k (R (T k))) n
  (fun j e H' => H' = H ∧ e = [(0,lv encB b),(1,.int .i64 i),(2,.int .i64 n),(3,.int .i64 step),(9,.int .i64 (needsS b i step j)),(10,.int .i64 j)])
  (fun x e H' => H' = H ∧ x = .exit 0 ∧ ∃ a,e = [(0,lv encB b),(1,.int .i64 i),(2,.int .i64 n),(3,.int .i64 step),(9,.int .i64 (needsS b i step n)),(10,a),(13,.bool false)])
  (e0:=[(0,lv encB b),(1,.int .i64 i),(2,.int .i64 n),(3,.int .i64 step),(9,.int .i64 0),(10,.int .i64 0)]) (H0:=H) ⟨rfl,rfl⟩ (by omega)
  (fun j e H' hj ⟨hH,he⟩ => by
   subst he hH;have hlt:(j:Int) < n:=by omega
   have hm0:0 ≤ (j:Int) * step:=Int.mul_nonneg (by omega) hs.1;have hm1:(j:Int) * step ≤ 8589934592 * 8:=Int.mul_le_mul (by omega) (by omega) (by omega) (by omega);have hu:∀ H',R (T k) F.ζ2 [lv encB b,.int .i64 (i + (j:Int) * step),.int .i64 2] H' = .ok (.int .i64 (gU b (i + (j:Int) * step) 2)) H':=fun H' => hU _ H';have hg:=gU_two hb (i + (j:Int) * step);have hN:needsS b i step (j + 1) = (if gU b (i + (j:Int) * step) 2 + 1 > needsS b i step j then gU b (i + (j:Int) * step) 2 + 1 else needsS b i step j):=by
    unfold needsS;rw [List.range_succ,List.map_append,List.map_singleton,ζjt];split <;> omega
   refine .inl ⟨_,H',?_,rfl,rfl⟩;rw [ζ7e,hN];generalize gU b (i + (j:Int) * step) 2 = y at *;simp -implicitDefEqProofs (disch:=omega) [hlt,hu])
  (fun e H' ⟨hH,he⟩ => by
   subst he hH;refine ⟨.exit 0,_,H',?_,by simp,rfl,rfl,.int .i64 n,rfl⟩;rw [ζ7e];simp -implicitDefEqProofs)
 refine nrm_gc (Pure.of ?_) (.int _ _);simp -implicitDefEqProofs [ζ1j,hr,ζb4]
abbrev rmCells (b:List Int) (n j q S N w:Int) (tb:List Int) (ps:List RP):List Value :=
 [lv encB b,.int .i64 n,.int .i64 j,.int .i64 q,.int .i64 S,.int .i64 N,.int .i64 w,lv encB tb,lv encRP ps]
abbrev rmV (r:RMach):Value:=.agg (rmCells r.b r.cl r.rowsAt r.entsAt r.states r.n r.words r.tb r.parts).toArray
theorem Flat.rm (r:RMach):Flat (rmV r):=.aggL (.cons (Flat.B _) (.cons (.int _ _) (.cons (.int _ _) (.cons (.int _ _) (.cons (.int _ _) (.cons (.int _ _) (.cons (.int _ _) (.cons (Flat.B _) (.cons (Flat.RPs _) .nil)))))))))
abbrev rmZ:RMach:=⟨[],0,0,0,0,0,0,[],[]⟩
def rmO (o:Option RMach):Value:=rmV (o.getD rmZ)
abbrev zCells:List Value:=[.slice none 0 0,.int .i64 0,.int .i64 0,.int .i64 0,.int .i64 0,.int .i64 0,.int .i64 0,.slice none 0 0,.slice none 0 0]
set_option maxHeartbeats 1000000 in
theorem ζtf (k:Nat) (b:List Int) (hb:Byt b) (hl:b.length < 2 ^ 31) {n w j q:Int} (hn:4 ≤ n ∧ n ≤ 65535) (hw:0 ≤ w ∧ w ≤ 2) {rv ev:List Int} (hrv:restS b j = some rv) (hev:restS b q = some ev) (tb:List Int) (ps:List RP) {H0 H:Heap} {z c:Nat}
  (g:Star H0 H [itBlk z ⟨zCells,1,false⟩,itBlk c ⟨rmCells b n j q 2 0 w tb ps,1,false⟩]) :
  match closeA rv ev n w 2 with
  | some x => ∃ H' S N,loopN (ζ2z k (R (T k))) loopFuel [(0,lv encB b),(6,ptrV z),(8,ptrV c),(11,.bool true),(12,.int .i64 (4 + 2 * w))] H = .ok (.ret,[(6,ptrV z),(7,.bool true)]) H' ∧ Ext H0 H' ∧ H'.get z = some ⟨rmCells b n j q S N w tb ps,1,false⟩ ∧ S = x.1.length ∧ N = x.2.length
  | none => ∃ H',loopN (ζ2z k (R (T k))) loopFuel [(0,lv encB b),(6,ptrV z),(8,ptrV c),(11,.bool true),(12,.int .i64 (4 + 2 * w))] H = .ok (.exit 0,[(0,lv encB b),(6,ptrV z),(8,ptrV c),(12,.int .i64 (4 + 2 * w)),(81,.bool false)]) H' ∧ Ext H0 H' ∧ H'.get z = some ⟨zCells,1,false⟩:=by
 have hj:=(ζ3i.1 hrv).1;have hq:=(ζ3i.1 hev).1;have hbE:=hb.rest hev;have hbR:=hb.rest hrv;obtain ⟨n,rfl⟩:=Int.eq_ofNat_of_zero_le (show 0 ≤ n by omega);have hRows:=fun i n z H' => ζ9o k b.length i n z (by omega) (by omega) H'
 obtain ⟨x,e',H1,hr,hQ⟩:=loopDec (body:=ζ2z k (R (T k)))
  (fun m e H' => ∃ (S N:Nat) (fl:Bool),e = [(0,lv encB b),(6,ptrV z),(8,ptrV c),(11,.bool fl),(12,.int .i64 (4 + 2 * w))] ∧ 2 ≤ S ∧ S ≤ 65536 ∧ N ≤ 65536 ∧ Star H0 H' [itBlk z ⟨zCells,1,false⟩,itBlk c ⟨rmCells b n j q S N w tb ps,1,false⟩] ∧
   (fl = true → m = (65537 - S) * 65538 + (65537 - N) + 1 ∧ closeA rv ev n w 2 = closeA rv ev n w S ∧ ∀ rs,rowsTo rv n S = some rs → (N:Int) ≤ needR rs) ∧ (fl = false → m = 0 ∧ closeA rv ev n w 2 = none))
  (fun x e H' => (∃ (y:List (List Int) × List En) (S N:Int),closeA rv ev n w 2 = some y ∧ x = .ret ∧ e = [(6,ptrV z),(7,.bool true)] ∧ Ext H0 H' ∧ H'.get z = some ⟨rmCells b n j q S N w tb ps,1,false⟩ ∧ S = y.1.length ∧ N = y.2.length) ∨
   (closeA rv ev n w 2 = none ∧ x = .exit 0 ∧ e = [(0,lv encB b),(6,ptrV z),(8,ptrV c),(12,.int .i64 (4 + 2 * w)),(81,.bool false)] ∧ Ext H0 H' ∧ H'.get z = some ⟨zCells,1,false⟩))
  ((65537 - 2) * 65538 + 65537 + 1) (e0:=[(0,lv encB b),(6,ptrV z),(8,ptrV c),(11,.bool true),(12,.int .i64 (4 + 2 * w))]) (H0:=H) ⟨2,0,true,rfl,by omega,by omega,by omega,g,fun _ => ⟨rfl,rfl,fun rs _ => ζ87 rs⟩,fun h => by cases h⟩ (by omega)
  (fun m e H' ⟨S,N,fl,he,hS2,hS6,hN6,g,ht,hf⟩ => by
   subst he;cases fl with
   | false =>
    obtain ⟨hm,hc⟩:=hf rfl;refine .inr ⟨.exit 0,_,H',?_,by simp,.inr ⟨hc,rfl,rfl,g.ext,g.get 0 rfl⟩⟩;rw [ζ1q];simp -implicitDefEqProofs
   | true =>
    obtain ⟨hm,hc,hNle⟩:=ht rfl;clear hf ht;have hcA:=ζog (rv:=rv) hbE (n:=(n:Int)) (w:=w) hS6;have hM:=g.get 1 rfl;have hcn:¬ c = H'.n:=by have:=Heap.get_lt hM; omega
    have e0:stR 9 (.pointer (some ⟨H'.n,0,none⟩)) (.agg (rmCells b n j q S N w tb ps).toArray) (H'.push ⟨zCells,1,false⟩) = .ok undef (H'.push ⟨rmCells b n j q S N w tb ps,1,false⟩):=by simp
    have g1:=g.push ⟨rmCells b n j q S N w tb ps,1,false⟩;obtain ⟨P,hP⟩:∃ P,P = H'.push ⟨rmCells b n j q S N w tb ps,1,false⟩:=⟨_,rfl⟩
    rw [← hP] at g1 e0;simp only [List.cons_append,List.nil_append] at g1;have hMP:=g1.get 1 rfl;have hWP:=g1.get 2 rfl;have hre:=ζrq hrv (show (0:Int) < n by omega) (s:=S) (by omega);have hR1:=fun H' => hRows j S (2 * n) H';cases hrt:rowsTo rv n S with
    | none =>
     rw [hrt] at hre;simp at hre;rw [hre] at hR1;rw [hrt] at hcA;refine .inl ⟨0,_,P,?_,by omega,S,N,false,rfl,hS2,hS6,hN6,g1.take 2,(fun h => by cases h),fun _ => ⟨rfl,by rw [hc,hcA]; rfl⟩⟩;rw [ζ1q];simp -implicitDefEqProofs (disch:=omega) [-stR_ptr,hM,e0,hMP,hR1,ζcm,ζ7t]
    | some rs =>
     rw [hrt] at hre;simp at hre;rw [hre] at hR1;rw [hrt,Option.bind_some] at hcA;have hrl:rs.length = S:=by have:=mapO_len hrt; simpa using this
     have hneed:=ζrp hrv (show (0:Int) < n by omega) hrt;have hNle:=hNle rs hrt;have hn6:=ζf4 hbR hrt;have hn0:=ζ87 rs;have hSn:(S:Int) * (n:Int) = ((S * n:Nat):Int):=by simp
     have hSnb:S * n ≤ 65536 * 65535:=Nat.mul_le_mul (by omega) (by omega);rw [Int.toNat_natCast] at hneed;have hnr:=fun H' => ζp3 k b hb j 2 (S * n) (by omega) (by omega) (by omega) hl H';rw [hneed,← hSn] at hnr;obtain ⟨N',hN'⟩:∃ N':Nat,(N':Int) = needR rs:=⟨(needR rs).toNat,by omega⟩
     have hmx:(if needR rs > N then needR rs else (N:Int)) = (N':Int):=by rw [hN']; split <;> omega
     obtain ⟨P2,e2,g2,_⟩:=g1.stCell 1 rfl 5 (v:=.int .i64 N') rfl rfl (by simp);simp only [List.set_cons_zero,List.set_cons_succ] at g2;have hMP2:=g2.get 1 rfl;have hWP2:=g2.get 2 rfl;have hR2:=fun H' => hRows q N' (4 + 2 * w) H';have hee:=ζr0 hev hw.1 N';have hb1:(S:Int) * (n:Int) ≤ 65536 * 65535:=by omega
     have hb0:0 ≤ (S:Int) * (n:Int):=by omega
     rw [show (needR rs).toNat = N' by omega] at hcA;cases het:entsTo ev w N' with
     | none =>
      rw [het] at hee;simp at hee;rw [hee] at hR2;rw [het] at hcA;refine .inl ⟨0,_,P2,?_,by omega,S,N',false,rfl,hS2,hS6,by omega,g2.take 2,(fun h => by cases h),fun _ => ⟨rfl,by rw [hc,hcA]; rfl⟩⟩;rw [ζ1q];simp -implicitDefEqProofs (disch:=omega) [-stR_ptr,hM,e0,hMP,hR1,hnr,hmx,e2,hMP2,hR2,ζ3l,ζ7t]
     | some es =>
      rw [het] at hee;simp at hee;rw [hee] at hR2;rw [het,Option.bind_some] at hcA;have hel:es.length = N':=by have:=mapO_len het; simpa using this
      have hE:=needE_le hbE het;have hneed2:=ζqz hev hw het;have hnr2:=fun H' => ζp3 k b hb q (4 + 2 * w) N' (by omega) (by omega) (by omega) hl H';rw [hneed2] at hnr2;obtain ⟨S',hS'⟩:∃ S':Nat,(S':Int) = max (S:Int) (needE es):=⟨(max (S:Int) (needE es)).toNat,by omega⟩
      have hEe:needE es = max 2 (needL (es.map En.next)):=rfl;have hmx2:(if needL (es.map En.next) > S then needL (es.map En.next) else (S:Int)) = (S':Int):=by rw [hS',hEe]; split <;> omega
      have hL6:needL (es.map En.next) ≤ 65536:=by omega
      obtain ⟨P3,e3,g3,_⟩:=g2.stCell 1 rfl 4 (v:=.int .i64 S') rfl rfl (by simp);simp only [List.set_cons_zero,List.set_cons_succ] at g3;have hMP3:=g3.get 1 rfl;have hWP3:=g3.get 2 rfl;by_cases hsame:S' = S ∧ N' = N
      ·obtain ⟨rfl,rfl⟩:=hsame;rw [if_pos (by omega)] at hcA;obtain ⟨P4,e4,g4,_⟩:=g3.stAll 0 rfl (rmCells b n j q S' N' w tb ps) 9 rfl rfl;simp only [List.set_cons_zero,List.set_cons_succ] at g4;refine .inr ⟨.ret,_,P4,?_,by simp,.inl ⟨_,S',N',by rw [hc,hcA],rfl,rfl,g4.ext,g4.get 0 rfl,by rw [hrl],by rw [hel]⟩⟩;rw [ζ1q];simp -implicitDefEqProofs (disch:=omega) [-stR_ptr,hM,e0,hMP,hR1,hnr,hmx,e2,hMP2,hR2,ζ3l,hnr2,hmx2,e3,hMP3,hWP3,ζ4s,e4]
      ·refine .inl ⟨(65537 - S') * 65538 + (65537 - N') + 1,_,P3,?_,?_,S',N',true,rfl,by omega,by omega,by omega,g3.take 2,fun _ => ⟨rfl,?_,?_⟩,fun h => by cases h⟩
       ·by_cases hs1:S' = S
        ·have hs2:((N':Int) == (N:Int)) = false:=by simp; omega
         subst hs1;rw [ζ1q];simp -implicitDefEqProofs (disch:=omega) [-stR_ptr,hM,e0,hMP,hR1,hnr,hmx,e2,hMP2,hR2,ζ3l,hnr2,hmx2,e3,hMP3,hWP3,ζ4s,hs2]
        ·have hs2:((S':Int) == (S:Int)) = false:=by simp; omega
         rw [ζ1q];simp -implicitDefEqProofs (disch:=omega) [-stR_ptr,hM,e0,hMP,hR1,hnr,hmx,e2,hMP2,hR2,ζ3l,hnr2,hmx2,e3,hMP3,hWP3,ζ4s,hs2]
       ·omega
       ·rw [hc];by_cases hcl:(needE es).toNat ≤ S
        ·rw [show S' = S by omega]
        ·rw [hcA,if_neg hcl,show S' = (needE es).toNat by omega]
       ·intro rt hrt2;have:=ζrd (s:=S) (t:=S') (by omega) hrt hrt2;omega)
 rcases hQ with ⟨y,S,N,h1,rfl,rfl,h2,h3,h4⟩ | ⟨h1,rfl,rfl,h2,h3⟩
 ·rw [h1]; exact ⟨H1,S,N,hr,h2,h3,h4⟩
 ·rw [h1]; exact ⟨H1,hr,h2,h3⟩
end Go.Sw
end
section
namespace Go.Sw
open Go.RowKit
theorem gU_four {b:List Int} (hb:Byt b) (i:Int):-1 ≤ gU b i 4 ∧ gU b i 4 < 4294967296:=by
 unfold gU;cases h:uS b i 4 with
 | none => simp
 | some x => have:=uS_four hb h; simp; omega
theorem gU_lt {b:List Int} {i:Int} (h:¬ gU b i 4 < 0):uS b i 4 = some (gU b i 4):=by
 unfold gU at h ⊢;cases hu:uS b i 4 with
 | none => rw [hu] at h; simp at h
 | some x => rfl
set_option maxHeartbeats 1000000 in
theorem ζo5 (k:Nat) (b:List Int) (hb:Byt b) (g w:Int) (hg:1 ≤ g ∧ g ≤ 65535) (hw:w = 0 ∨ w = 1 ∨ w = 2) (hl:b.length < 2 ^ 31) (H:Heap) :
  R (T k) F.ζ6 [lv encB b,.int .i64 g,.int .i64 w] H = .ok (.tuple #[rmO (refMachS b g w),.bool (refMachS b g w).isSome]) H:=by
 rw [ζil];have hU:=fun j H' => refU_run k (H:=H') (Sl.lv H' 1 b) hb j 4 (by omega) (by omega);have u0:∀ H',R (T k) F.ζ2 [lv encB b,.int .i64 0,.int .i64 4] H' = .ok (.int .i64 (gU b 0 4)) H':=fun H' => hU _ H';have u4:∀ H',R (T k) F.ζ2 [lv encB b,.int .i64 4,.int .i64 4] H' = .ok (.int .i64 (gU b 4 4)) H':=fun H' => hU _ H';have u8:∀ H',R (T k) F.ζ2 [lv encB b,.int .i64 8,.int .i64 4] H' = .ok (.int .i64 (gU b 8 4)) H':=fun H' => hU _ H';have u12:∀ H',R (T k) F.ζ2 [lv encB b,.int .i64 12,.int .i64 4] H' = .ok (.int .i64 (gU b 12 4)) H':=fun H' => hU _ H';have b0:=gU_four hb 0;have b4:=gU_four hb 4;have b8:=gU_four hb 8;have b12:=gU_four hb 12;have fl:∀ o:Option RMach,Flat (.tuple #[rmO o,.bool o.isSome]):=fun o => .tupleL (.cons (Flat.rm _) (.cons (.bool _) .nil));obtain ⟨n,hn⟩:∃ n,gU b 0 4 = n:=⟨_,rfl⟩
 obtain ⟨i,hi⟩:∃ i,gU b 4 4 = i:=⟨_,rfl⟩
 obtain ⟨j,hj⟩:∃ j,gU b 8 4 = j:=⟨_,rfl⟩
 obtain ⟨q,hq⟩:∃ q,gU b 12 4 = q:=⟨_,rfl⟩
 rw [hn] at u0 b0;rw [hi] at u4 b4;rw [hj] at u8 b8;rw [hq] at u12 b12;obtain ⟨M1,hM1⟩:∃ M1:Blk,M1 = ⟨[lv encB b,.int .i64 n,.int .i64 j,.int .i64 q,.int .i64 2,.int .i64 0,.int .i64 w,.slice none 0 0,.slice none 0 0],1,false⟩:=⟨_,rfl⟩
 have hx2:Ext H ((H.push ⟨zCells,1,false⟩).push M1):=((Ext.refl H).push _).push _
 -- one thing is not as it should be
 have no:machS b g w = none → ζ6 k (R (T k)) (lv encB b) (.int .i64 g) (.int .i64 w) H = .ok (.tuple #[.agg zCells.toArray,.bool false]) ((H.push ⟨zCells,1,false⟩).push M1) → nrm .fz H (ζ6 k (R (T k)) (lv encB b) (.int .i64 g) (.int .i64 w) H) = .ok (.tuple #[rmO (refMachS b g w),.bool (refMachS b g w).isSome]) H:=fun h1 h2 => by
  have:refMachS b g w = none:=by unfold refMachS; rw [h1]; rfl
  rw [this];exact nrm_fz (L:=[]) h2 rfl hx2 (fl none).alive
 have n0:∀ m,machS b g w = some m → (4 ≤ n ∧ n ≤ 65535) ∧ 0 ≤ i ∧ i ≤ b.length ∧ 0 ≤ j ∧ j ≤ b.length ∧ 0 ≤ q ∧ q ≤ b.length:=fun m hm => by
  obtain ⟨i',j',q',tb,rv,ev,x,h0,h1,h2,h3,h4,h5,h6,h7,h8,h9,_⟩:=ζez hm;have e0:=gU_some h0;have e3:=gU_some h3;have e6:=gU_some h6;have e8:=gU_some h8;rw [hn] at e0;rw [hi] at e3;rw [hj] at e6;rw [hq] at e8;have r4:=(ζ3i.1 h4).1;have r7:=(ζ3i.1 h7).1;have r9:=(ζ3i.1 h9).1;omega
 have nn:¬ ((4 ≤ n ∧ n ≤ 65535) ∧ 0 ≤ i ∧ i ≤ b.length ∧ 0 ≤ j ∧ j ≤ b.length ∧ 0 ≤ q ∧ q ≤ b.length) → machS b g w = none:=fun h => by
  cases hm:machS b g w with
  | none => rfl
  | some m => exact absurd (n0 m hm) h
 by_cases c1:n < 4
 ·refine no (nn (by omega)) ?_;rw [hM1];simp -implicitDefEqProofs (disch:=omega) [ζ6,u0,u4,u8,u12,c1]
 by_cases c2:n > 65535
 ·refine no (nn (by omega)) ?_;rw [hM1];simp -implicitDefEqProofs (disch:=omega) [ζ6,u0,u4,u8,u12,c1,c2]
 by_cases c3:j < 0
 ·refine no (nn (by omega)) ?_;rw [hM1];simp -implicitDefEqProofs (disch:=omega) [ζ6,u0,u4,u8,u12,c1,c2,c3]
 by_cases c4:q < 0
 ·refine no (nn (by omega)) ?_;rw [hM1];simp -implicitDefEqProofs (disch:=omega) [ζ6,u0,u4,u8,u12,c1,c2,c3,c4]
 by_cases c5:j > b.length
 ·refine no (nn (by omega)) ?_;rw [hM1];simp -implicitDefEqProofs (disch:=omega) [ζ6,u0,u4,u8,u12,c1,c2,c3,c4,c5]
 by_cases c6:q > b.length
 ·refine no (nn (by omega)) ?_;rw [hM1];simp -implicitDefEqProofs (disch:=omega) [ζ6,u0,u4,u8,u12,c1,c2,c3,c4,c5,c6]
 by_cases c7:i < 0
 ·refine no (nn (by omega)) ?_;rw [hM1];simp -implicitDefEqProofs (disch:=omega) [ζ6,u0,u4,u8,u12,c1,c2,c3,c4,c5,c6,c7]
 by_cases c8:i > b.length
 ·refine no (nn (by omega)) ?_;rw [hM1];simp -implicitDefEqProofs (disch:=omega) [ζ6,u0,u4,u8,u12,c1,c2,c3,c4,c5,c6,c7,c8]
 clear no nn n0;have hU0:=gU_lt (b:=b) (i:=0) (by omega);have hU4:=gU_lt (b:=b) (i:=4) (by omega);have hU8:=gU_lt (b:=b) (i:=8) (by omega);have hU12:=gU_lt (b:=b) (i:=12) (by omega);rw [hn] at hU0;rw [hi] at hU4;rw [hj] at hU8;rw [hq] at hU12;obtain ⟨tb,htb⟩:∃ tb,tb = b.drop i.toNat:=⟨_,rfl⟩
 have r4:restS b i = some tb:=ζ3i.2 ⟨by omega,htb⟩;have r8:restS b j = some (b.drop j.toNat):=ζ3i.2 ⟨by omega,rfl⟩;have r12:restS b q = some (b.drop q.toNat):=ζ3i.2 ⟨by omega,rfl⟩;have hsl:=fun H' => slS_lv encB_len b (some (.int .i64 i)) none none i.toNat b.length b.length (by unfold boundOf; dsimp only; rw [if_pos (by omega)]) rfl rfl (fun h => by cases h) (by omega) (Nat.le_refl _) (Nat.le_refl _) H';rw [List.take_length,← htb] at hsl;have htbb:Byt tb:=hb.rest r4;have htbl:tb.length < 2 ^ 31:=by rw [htb]; simp; omega
 have hrd:=fun H' => ζrh k tb htbb g 2 hg (.inl rfl) htbl H';have hlr:=look_ref htbb hg.1 hg.2 (.inl rfl:(2:Int) = 2 ∨ (2:Int) = 4);have hmach:machS b g w = (lookS tb g 2).bind fun tab => (closeA (b.drop j.toNat) (b.drop q.toNat) n w 2).map fun x => ⟨n,tab,x.1,x.2⟩:=by
  unfold machS;rw [hU0,Option.bind_some,if_pos (by omega),hU4,Option.bind_some,r4,Option.bind_some];congr 1;funext tab;rw [hU8,Option.bind_some,r8,Option.bind_some,hU12,Option.bind_some,r12,Option.bind_some]
 cases hlk:lookS tb g 2 with
 | none =>
  have hm:refMachS b g w = none:=by unfold refMachS; rw [hmach,hlk]; rfl
  rw [hm];have hrr:=hlr.2 hlk;rw [hrr] at hrd;simp only [tabRO,Option.isSome_none] at hrd
  obtain ⟨x,e',H1,hr,rfl,rfl,rfl⟩:=loopDec (body:=ζ2z k (R (T k)))
   (fun m e H' => H' = (((H.push ⟨zCells,1,false⟩).push ⟨rmCells b n j q 2 0 w [] [],1,false⟩).push ⟨[lv encB [],lv encRP []],1,false⟩) ∧ e = [(0,lv encB b),(6,ptrV H.n),(8,ptrV (H.n + 1)),(11,.bool false),(12,.int .i64 (4 + 2 * w))])
   (fun x e H' => H' = (((H.push ⟨zCells,1,false⟩).push ⟨rmCells b n j q 2 0 w [] [],1,false⟩).push ⟨[lv encB [],lv encRP []],1,false⟩) ∧ x = .exit 0 ∧ e = [(0,lv encB b),(6,ptrV H.n),(8,ptrV (H.n + 1)),(12,.int .i64 (4 + 2 * w)),(81,.bool false)])
   0 (e0:=[(0,lv encB b),(6,ptrV H.n),(8,ptrV (H.n + 1)),(11,.bool false),(12,.int .i64 (4 + 2 * w))]) (H0:=(((H.push ⟨zCells,1,false⟩).push ⟨rmCells b n j q 2 0 w [] [],1,false⟩).push ⟨[lv encB [],lv encRP []],1,false⟩)) ⟨rfl,rfl⟩ (by omega)
   (fun m e H' ⟨hH,he⟩ => by
    subst hH he;refine .inr ⟨.exit 0,_,_,?_,by simp,rfl,rfl,rfl⟩;rw [ζ1q];simp -implicitDefEqProofs)
  refine nrm_fz (L:=[]) (v:=.tuple #[.agg zCells.toArray,.bool false]) (H':=((H.push ⟨zCells,1,false⟩).push ⟨rmCells b n j q 2 0 w [] [],1,false⟩).push ⟨[lv encB [],lv encRP []],1,false⟩) ?_ rfl ((((Ext.refl H).push _).push _).push _) (fl none).alive;simp -implicitDefEqProofs (disch:=omega) [ζ6,u0,u4,u8,u12,c1,c2,c3,c4,c5,c6,c7,c8,hsl,hrd,hr,ζ7d]
 | some tab =>
  obtain ⟨ps,hps,hrel⟩:=hlr.1 tab hlk;rw [hps] at hrd;simp only [tabRO,Option.isSome_some] at hrd;have st:=((Star.nil H).push ⟨zCells,1,false⟩).push ⟨rmCells b n j q 2 0 w tb ps,1,false⟩;have st:=st.rest ((Ext.refl _).push ⟨[lv encB tb,lv encRP ps],1,false⟩);have hlp:=ζtf k b hb hl (n:=n) (w:=w) (by omega) (by omega) r8 r12 tb ps (by simpa using st);cases hcl:closeA (b.drop j.toNat) (b.drop q.toNat) n w 2 with
  | none =>
   have hm:refMachS b g w = none:=by unfold refMachS; rw [hmach,hlk,Option.bind_some,hcl]; rfl
   rw [hm];rw [hcl] at hlp;obtain ⟨H2,hr,hx,hz⟩:=hlp;have hgs:(H2.set H.n (some ⟨zCells,1,false⟩)).get H.n = some ⟨zCells,1,false⟩:=ζ9l _ _ _ (by rw [hz]; rfl);have hx3:Ext H (H2.set H.n (some ⟨zCells,1,false⟩)):=⟨by simpa using hx.1,fun d hd hs => by rw [ζ3m _ _ _ _ (by omega)]; exact hx.2 d hd hs⟩
   refine nrm_fz (L:=[]) (v:=.tuple #[.agg zCells.toArray,.bool false]) (H':=H2.set H.n (some ⟨zCells,1,false⟩)) ?_ rfl hx3 (fl none).alive;simp -implicitDefEqProofs (disch:=omega) [ζ6,u0,u4,u8,u12,c1,c2,c3,c4,c5,c6,c7,c8,hsl,hrd,hr,ζ7d,hz,hgs]
  | some x =>
   have hm:refMachS b g w = some (rmOf b g w ⟨n,tab,x.1,x.2⟩):=by unfold refMachS; rw [hmach,hlk,Option.bind_some,hcl]; rfl
   rw [hm];rw [hcl] at hlp;obtain ⟨H2,S,N,hr,hx,hz,rfl,rfl⟩:=hlp;have hrm:rmO (some (rmOf b g w ⟨n,tab,x.1,x.2⟩)) = .agg (rmCells b n j q x.1.length x.2.length w tb ps).toArray:=by
    unfold rmO rmOf;rw [hj,hq,hi,← htb,hps];rfl
   have fl2:=fl (some (rmOf b g w ⟨n,tab,x.1,x.2⟩));rw [hrm] at fl2 ⊢;refine nrm_fz (L:=[]) (v:=.tuple #[.agg (rmCells b n j q x.1.length x.2.length w tb ps).toArray,.bool true]) (H':=H2) ?_ rfl hx fl2.alive;simp -implicitDefEqProofs (disch:=omega) [ζ6,u0,u4,u8,u12,c1,c2,c3,c4,c5,c6,c7,c8,hsl,hrd,hr,ζcn,hz]
theorem mach_at {b:List Int} (hb:Byt b) {g w:Int} (hw:0 ≤ w ∧ w ≤ 2) {m:Mach} (h:machS b g w = some m) :
  (0 ≤ gU b 8 4 ∧ gU b 8 4 ≤ b.length) ∧ (0 ≤ gU b 12 4 ∧ gU b 12 4 ≤ b.length) ∧
  (∀ (i:Nat) e,m.ents[i]? = some e → e = ⟨gU b (gU b 12 4 + (i:Int) * (4 + 2 * w)) 2,gU b (gU b 12 4 + (i:Int) * (4 + 2 * w) + 2) 2,if 0 < w then gU b (gU b 12 4 + (i:Int) * (4 + 2 * w) + 4) 2 else 0,if 1 < w then gU b (gU b 12 4 + (i:Int) * (4 + 2 * w) + 6) 2 else 0⟩) ∧
  ∀ (s c:Nat) r x,m.rows[s]? = some r → r[c]? = some x → x = gU b (gU b 8 4 + (m.classes * s + (c:Nat)) * 2) 2:=by
 obtain ⟨i,j,q,tb,rv,ev,x,h0,h1,h2,h3,h4,h5,h6,h7,h8,h9,h10,h11,h12⟩:=ζez h;have e6:=gU_some h6;have e8:=gU_some h8;rw [e6,e8];obtain ⟨c1,c2,c3,c4,c5,c6,c7,_⟩:=ζlw (hb.rest h7) (hb.rest h9) (by omega) hw _ _ x (by omega) (by omega) h10;refine ⟨(ζ3i.1 h7).1,(ζ3i.1 h9).1,fun i e he => ?_,fun s c r x' hr hx => ?_⟩
 ·rw [h12] at he;obtain ⟨y,g1,g2⟩:=mapO_at c7 (List.getElem?_eq_some_iff.1 he).1;rw [he] at g2;injection g2 with g2;subst g2;exact ent_at h9 hw g1
 ·rw [h11] at hr;obtain ⟨y,g1,g2⟩:=mapO_at c6 (List.getElem?_eq_some_iff.1 hr).1;rw [hr] at g2;injection g2 with g2;subst g2;have hra:=row_at h7 (by omega) g1;have hlt:=(List.getElem?_eq_some_iff.1 hx).1;rw [hra] at hx hlt;simp at hlt;rw [List.getElem?_map,List.getElem?_range (by omega)] at hx;injection hx with hx;exact hx.symm
theorem ζms (k:Nat) {b:List Int} (hb:Byt b) {g w:Int} (hw:w = 0 ∨ w = 1 ∨ w = 2) (hl:b.length < 2 ^ 31) {m:Mach} (h:machS b g w = some m) {i:Int} (hi0:0 ≤ i) (hi6:i ≤ 65536) {e:En} (he:m.ents[i.toNat]? = some e) (H:Heap) :
  R (T k) F.ζi [rmV (rmOf b g w m),.int .i64 i] H = .ok (.agg (encEn e).toArray) H:=by
 obtain ⟨_,hq,hat,_⟩:=mach_at hb (by omega) h;have he:=hat _ _ he;clear hat;obtain ⟨i,rfl⟩:=Int.eq_ofNat_of_zero_le hi0;rw [Int.toNat_natCast] at he;obtain ⟨p,hp⟩:∃ p,p = gU b 12 4 + (i:Int) * (4 + 2 * w):=⟨_,rfl⟩
 have hm0:0 ≤ (i:Int) * (4 + 2 * w):=Int.mul_nonneg (by omega) (by omega);have hm1:(i:Int) * (4 + 2 * w) ≤ 65536 * 8:=Int.mul_le_mul (by omega) (by omega) (by omega) (by omega);have hU:=fun j H' => refU_run k (H:=H') (Sl.lv H' 1 b) hb j 2 (by omega) (by omega);have hu:∀ j H',R (T k) F.ζ2 [lv encB b,.int .i64 j,.int .i64 2] H' = .ok (.int .i64 (gU b j 2)) H':=fun j H' => hU j H';rw [ζfb];rw [← hp] at he;have hx:Ext H (((H.push ⟨rmCells b m.classes (gU b 8 4) (gU b 12 4) m.rows.length m.ents.length w (b.drop (gU b 4 4).toNat) ((refReadS (b.drop (gU b 4 4).toNat) g 2).getD []),1,false⟩).push ⟨encEn e,1,false⟩).push ⟨encEn e,1,false⟩):=(((Ext.refl H).push _).push _).push _;refine nrm_gc ⟨_,?_,hx⟩ (Flat.ofEn e).alive;subst he;unfold rmOf;rcases hw with rfl | rfl | rfl
 ·simp -implicitDefEqProofs at hm0 hm1 hp;simp -implicitDefEqProofs (disch:=omega) [ζi,← hp,hu,ζbl,ζ7c]
 ·simp -implicitDefEqProofs at hm0 hm1 hp;simp -implicitDefEqProofs (disch:=omega) [ζi,← hp,hu,ζ7b,ζ7c]
 ·simp -implicitDefEqProofs at hm0 hm1 hp;simp -implicitDefEqProofs (disch:=omega) [ζi,← hp,hu,ζ7b,ζbm]
theorem ζqr (k:Nat) {b:List Int} (hb:Byt b) {g w:Int} (hg:1 ≤ g ∧ g ≤ 65535) (hl:b.length < 2 ^ 31) {m:Mach} (hm:m.ok) (h:machS b g w = some m) (id:Int) (H:Heap) :
  R (T k) F.ζ20 [rmV (rmOf b g w m),.int .i64 id] H = .ok (.int .i64 (classS m id)) H:=by
 obtain ⟨i,j,q,tb,rv,ev,x,h0,h1,h2,h3,h4,h5,_⟩:=ζez h;have e3:=gU_some h3;obtain ⟨hi,htb⟩:=ζ3i.1 h4;have htbb:Byt tb:=hb.rest h4;have htbl:=ζai h4;obtain ⟨ps,hps,hrel⟩:=(look_ref htbb hg.1 hg.2 (.inl rfl:(2:Int) = 2 ∨ (2:Int) = 4)).1 _ h5;have hget:=fun H' => ζsz k tb htbb ps (ζrj htbb hg (.inl rfl) hps) (ζq6 htbb hg (.inl rfl) h5 hps) (by omega) id H';rw [← get_ref (id:=id) hrel hm.pts hm.rise] at hget;have hrm:rmV (rmOf b g w m) = .agg (rmCells b m.classes (gU b 8 4) (gU b 12 4) m.rows.length m.ents.length w tb ps).toArray:=by
  unfold rmOf;rw [e3,← htb,hps];rfl
 rw [hrm,ζfa];refine nrm_gc ⟨_,?_,(Ext.refl H).push ⟨rmCells b m.classes (gU b 8 4) (gU b 12 4) m.rows.length m.ents.length w tb ps,1,false⟩⟩ (.int _ _);unfold classS;by_cases h:id = 65535
 ·subst h;simp -implicitDefEqProofs (disch:=omega) [ζ20]
 ·have h':(id == 65535) = false:=by simpa using h
  rw [if_neg h];cases hg:getS m.tab.2 id with
  | none =>
   rw [hg] at hget;simp -implicitDefEqProofs (disch:=omega) [ζ20,h',hget]
  | some x =>
   rw [hg] at hget;dsimp only;by_cases hx:x < m.classes
   ·have hx':¬ x ≥ m.classes:=by omega
    simp -implicitDefEqProofs (disch:=omega) [ζ20,h',hget,hx,hx']
   ·have hx':x ≥ m.classes:=by omega
    simp -implicitDefEqProofs (disch:=omega) [ζ20,h',hget,hx,hx']
end Go.Sw
end
section
namespace Go.Sw
theorem row_I {r:List Da} {cs:List Value} (h:LayRow [.int .i64] r cs):∃ n:Int,cs = encI n ∧ (Lit.int .i64 n).wf = true:=by
 obtain ⟨d,v,ds,vs,rfl,h1,h2⟩:=h.head;obtain rfl:=h2.done;obtain ⟨n,rfl,w⟩:=h1.intv;exact ⟨n,rfl,w⟩
theorem wf_u8 {n:Int} (h:(Lit.int .u8 n).wf = true):0 ≤ n ∧ n < 256:=by
 simp [Lit.wf,IntKind.min,IntKind.max,IntKind.signed,IntKind.bits] at h;omega
theorem row_B {r:List Da} {cs:List Value} (h:LayRow [.int .u8] r cs):∃ n:Int,cs = encB n ∧ (0 ≤ n ∧ n < 256):=by
 obtain ⟨d,v,ds,vs,rfl,h1,h2⟩:=h.head;obtain rfl:=h2.done;obtain ⟨n,rfl,w⟩:=h1.intv;exact ⟨n,rfl,wf_u8 w⟩
theorem arg_I {v:Value} (h:ArgLay (.one (.slice [.int .i64])) v):∃ l,v = lv encI l ∧ ∀ n,n ∈ l → (Lit.int .i64 n).wf = true:=by
 obtain ⟨d,h1⟩:=h.cell;exact Lay.list (enc:=encI) (ok:=fun n => (Lit.int .i64 n).wf = true) (fun r cs h => row_I h) h1
end Go.Sw
end
section
namespace Go.Sw
open Go.RowKit
theorem veq_RP (l:List RP):veq (lv encRP l) (lv encRP l) = true:=veq_lv fun p _ v hv => by
 simp [encRP] at hv;rcases hv with rfl | rfl | rfl | rfl | rfl <;> simp
theorem veq_rm (r:RMach):veq (rmV r) (rmV r) = true:=veq_agg fun v hv => by
 simp [rmCells] at hv;rcases hv with rfl | rfl | rfl | rfl | rfl | rfl | rfl | rfl | rfl
 ·simp
 ·simp
 ·simp
 ·simp
 ·simp
 ·simp
 ·simp
 ·simp
 ·exact veq_RP _
theorem ζtt (k:Nat) {b:List Int} (hb:Byt b) {g w:Int} (hw:w = 0 ∨ w = 1 ∨ w = 2) (hl:b.length < 2 ^ 31) {m:Mach} (hm:m.ok) (h:machS b g w = some m) (s c:Int) (H:Heap) :
  R (T k) F.ζ1s [rmV (rmOf b g w m),.int .i64 s,.int .i64 c] H = .ok (.tuple #[encEA (stepS m s c),.bool (stepS m s c).isSome]) H:=by
 rw [ζim];have fl:Flat (.tuple #[encEA (stepS m s c),.bool (stepS m s c).isSome]):=.tupleL (.cons (ζjk _) (.cons (.bool _) .nil));have no:¬ (0 ≤ s ∧ s < m.rows.length ∧ 0 ≤ c ∧ c < m.classes) → stepS m s c = none:=fun h => by unfold stepS; rw [if_neg h]
 have hx1:Ext H (H.push ⟨rmCells b m.classes (gU b 8 4) (gU b 12 4) m.rows.length m.ents.length w (b.drop (gU b 4 4).toNat) ((refReadS (b.drop (gU b 4 4).toNat) g 2).getD []),1,false⟩):=(Ext.refl H).push _;have hx:=hx1.push ⟨[.int .i64 0,.int .i64 0,.int .i64 0,.int .i64 0],1,false⟩;obtain ⟨r,hr⟩:∃ r,r = rmOf b g w m:=⟨_,rfl⟩
 have hent:=fun i h0 h6 e he H => ζms k hb (g:=g) hw hl h (i:=i) h0 h6 (e:=e) he H;rw [← hr] at hent ⊢;have r1:r.states = m.rows.length:=by rw [hr]; rfl
 have r2:r.cl = m.classes:=by rw [hr]; rfl
 have r3:r.rowsAt = gU b 8 4:=by rw [hr]; rfl
 have r4:r.b = b:=by rw [hr]; rfl
 have hx1:Ext H (H.push ⟨rmCells r.b r.cl r.rowsAt r.entsAt r.states r.n r.words r.tb r.parts,1,false⟩):=(Ext.refl H).push _;have hx:=hx1.push ⟨[.int .i64 0,.int .i64 0,.int .i64 0,.int .i64 0],1,false⟩;have hcl:=hm.cl;by_cases h1:s < 0
 ·rw [no (by omega)] at fl ⊢;refine nrm_gc ⟨_,?_,hx⟩ fl.alive;simp -implicitDefEqProofs (disch:=omega) [ζ1s,h1,encEA]
 by_cases h2:s ≥ m.rows.length
 ·rw [no (by omega)] at fl ⊢;refine nrm_gc ⟨_,?_,hx⟩ fl.alive;simp -implicitDefEqProofs (disch:=omega) [ζ1s,h1,h2,r1,encEA]
 by_cases h3:c < 0
 ·rw [no (by omega)] at fl ⊢;refine nrm_gc ⟨_,?_,hx⟩ fl.alive;simp -implicitDefEqProofs (disch:=omega) [ζ1s,h1,h2,h3,r1,encEA]
 by_cases h4:c ≥ m.classes
 ·rw [no (by omega)] at fl ⊢;refine nrm_gc ⟨_,?_,hx⟩ fl.alive;simp -implicitDefEqProofs (disch:=omega) [ζ1s,h1,h2,h3,h4,r1,r2,encEA]
 obtain ⟨row,x,e,hrow,hxx,hx0,he,hs⟩:=ζkd hm (s:=s) (c:=c) (by omega);rw [hs] at fl ⊢;obtain ⟨hj,_,_,hat⟩:=mach_at hb (by omega) h;have hpos:=hat s.toNat c.toNat row x hrow hxx;have hxm:=(hm.row row (List.mem_of_getElem? hrow)).2 x (List.mem_of_getElem? hxx);have hel:=hm.elen;have htwo:=hm.two;obtain ⟨s,rfl⟩:=Int.eq_ofNat_of_zero_le (show 0 ≤ s by omega);obtain ⟨c,rfl⟩:=Int.eq_ofNat_of_zero_le (show 0 ≤ c by omega);simp only [Int.toNat_natCast] at hpos;have hm0:0 ≤ (s:Int) * m.classes:=Int.mul_nonneg (by omega) (by omega);have hm1:(s:Int) * m.classes ≤ 65536 * 65535:=Int.mul_le_mul (by omega) (by omega) (by omega) (by omega);have hpe:gU b 8 4 + (m.classes * (s:Int) + (c:Nat)) * 2 = gU b 8 4 + 2 * ((s:Int) * m.classes + (c:Int)):=by rw [Int.mul_comm m.classes]; omega
 rw [hpe] at hpos;have hU:=fun j H' => refU_run k (H:=H') (Sl.lv H' 1 b) hb j 2 (by omega) (by omega);have hu:∀ H',R (T k) F.ζ2 [lv encB b,.int .i64 (gU b 8 4 + 2 * ((s:Int) * m.classes + (c:Int))),.int .i64 2] H' = .ok (.int .i64 x) H':=fun H' => by
  rw [hU]; unfold gU at hpos; rw [hpos]; rfl
 have he':=hent x hx0 (by omega) e he;have hq:=veq_rm r;refine nrm_gc ⟨(H.push ⟨rmCells r.b r.cl r.rowsAt r.entsAt r.states r.n r.words r.tb r.parts,1,false⟩).push ⟨encEn e,1,false⟩,?_,hx1.push _⟩ fl.alive;simp only [rmV,rmCells,r1,r2,r3,r4] at he' hq ⊢;simp -implicitDefEqProofs (disch:=omega) at he' hq ⊢;simp -implicitDefEqProofs (disch:=omega) [ζ1s,h1,h2,h3,h4,hu,he',hq,encEA]
end Go.Sw
end
section
namespace Go.Sw
open Go.RowKit
theorem ζo3 {p:Plan} (hp:p.ok) (w:Int) {rm:List Int} (hrm:Byt rm):Byt (planRoom p w rm):=by
 have tw:∀ l,Byt (twos l):=fun l => Byt.flat fun r hr => by obtain ⟨c,_,rfl⟩:=List.mem_map.1 hr; exact ζ26 _ _
 unfold planRoom;refine (ζ26 _ _).app ((ζ26 _ _).app ((ζ26 _ _).app ((ζ26 _ _).app (hrm.app (Byt.app ?_ (Byt.app ?_ ?_))))))
 ·unfold ofS;exact (((ζ26 _ _).app (ζ26 _ _)).app (ζ26 _ _)).app (tw _)
 ·exact Byt.flat fun r hr => by obtain ⟨c,_,rfl⟩:=List.mem_map.1 hr; exact tw _
 ·refine Byt.flat fun r hr => ?_;obtain ⟨e,_,rfl⟩:=List.mem_map.1 hr;unfold entB;refine (((ζ26 _ _).app (ζ26 _ _)).app ?_).app ?_
  ·split
   ·exact ζ26 _ _
   ·exact Byt.nil
  ·split
   ·exact ζ26 _ _
   ·exact Byt.nil
theorem ζjy {p:Plan} (hp:p.ok) (w:Int) {rm:List Int} (hrm:rm.length ≤ 1000) (h1:p.cls.length ≤ 1000) (h2:p.rows.length ≤ 1000) (h3:p.ents.length ≤ 1000):(planRoom p w rm).length ≤ 100000:=by
 have hN:=planN_eq p hp.2.2;have hofl:(ofS p.cls).length = 6 + p.cls.length * 2:=by unfold ofS; simp [twos_len]; omega
 have hrl:(rowsL (planN p) p.rows).length ≤ 1000 * 22:=by rw [ζmd]; exact Nat.mul_le_mul h2 (by omega)
 have hel:=ζj6 w p.ents;unfold planRoom;simp;omega
theorem row_En {r:List Da} {cs:List Value} (h:LayRow [.int .i64,.int .i64,.int .i64,.int .i64] r cs):∃ p:En,cs = encEn p ∧ True:=by
 obtain ⟨_,v1,_,_,rfl,h1,h⟩:=h.head;obtain ⟨_,v2,_,_,rfl,h2,h⟩:=h.head;obtain ⟨_,v3,_,_,rfl,h3,h⟩:=h.head;obtain ⟨_,v4,_,_,rfl,h4,h⟩:=h.head;obtain rfl:=h.done;obtain ⟨a,rfl,_⟩:=h1.intv;obtain ⟨b,rfl,_⟩:=h2.intv;obtain ⟨c,rfl,_⟩:=h3.intv;obtain ⟨d,rfl,_⟩:=h4.intv;exact ⟨⟨a,b,c,d⟩,rfl,trivial⟩
theorem row_BR {r:List Da} {cs:List Value} (h:LayRow [.slice [.int .u8]] r cs):∃ b:List Int,cs = encBR b ∧ Byt b:=by
 obtain ⟨_,v1,_,_,rfl,h1,h⟩:=h.head;obtain rfl:=h.done;obtain ⟨b,rfl,hb⟩:=Lay.list (enc:=encB) (ok:=fun n => 0 ≤ n ∧ n < 256) (fun r cs h => row_B h) h1;exact ⟨b,rfl,hb⟩
end Go.Sw
end
section
namespace Go.Sw
open Go.RowKit
variable {σ:Type}
def DoOk (k:Nat) (m:Mach) (H0:Heap) (W:σ → List It) (Inv:σ → Prop) (a:Value) (g:σ → Int → En → σ):Prop :=
 ∀ s i e H X,Inv s → Star H0 H (W s ++ X) → 0 ≤ i → i < 2 ^ 50 → e ∈ m.ents →
  ∃ v H',callV (R (T k)) a [.int .i64 i,encE e] H = .ok v H' ∧ Star H0 H' (W (g s i e) ++ X) ∧ Inv (g s i e)
theorem plain_ok (k:Nat) {m:Mach} {H0:Heap} {W:σ → List It} {Inv:σ → Prop} {a:Value} {g:σ → Int → En → σ} (h:DoOk k m H0 W Inv a g) (p:Nat) :
  ActOk k m H0 (fun s => W s ++ [itBlk p ⟨[a],1,false⟩]) Inv (.func (.func F.ζ2b) #[] #[ptrV p]) (fun s i e => (g s i e,i,i + 1)):=by
 intro s i e H X hI st h0 h1 he;have st2:=st.push ⟨encEn e,1,false⟩;have hp:=st2.memBlk (c:=p) (k:=⟨[a],1,false⟩) (by simp);have hpn:¬ p = H.n:=by have:=Heap.get_lt (st.memBlk (c:=p) (k:=⟨[a],1,false⟩) (by simp)); omega
 obtain ⟨v,H',e1,st3,hI2⟩:=h s i e (H.push ⟨encEn e,1,false⟩) ([itBlk p ⟨[a],1,false⟩] ++ X ++ [itBlk H.n ⟨encEn e,1,false⟩]) hI (by simpa [List.append_assoc] using st2) h0 h1 he;have st4:Star H0 H' (W (g s i e) ++ [itBlk p ⟨[a],1,false⟩] ++ X):=by
  have:W (g s i e) ++ ([itBlk p ⟨[a],1,false⟩] ++ X ++ [itBlk H.n ⟨encEn e,1,false⟩]) = (W (g s i e) ++ [itBlk p ⟨[a],1,false⟩] ++ X) ++ [itBlk H.n ⟨encEn e,1,false⟩]:=by simp
  rw [this] at st3;exact st3.ζly
 refine ⟨H',?_,st4,hI2,by dsimp only; omega,by dsimp only; omega⟩;simp only [callV,List.nil_append,List.cons_append];rw [ζi5,nrm_of];simp -implicitDefEqProofs (disch:=omega) [ζ2b,hp,hpn,e1]
end Go.Sw
end
section
namespace Go.Sw
open Go.RowKit Go.Proofs
set_option maxRecDepth 20000 in
theorem ζpp (p:Addr) (b:Bool) (w:World) (hc:(w.alloc (.cells #[] 217)).cell? p = some (.bool b)) (hz:(w.alloc (.cells #[] 217)).frozen? p = false) :
  CallsD Prog 98 #[.pointer (some p)] (.panicking [{ v:=.iface 217 (.agg #[]),recovered:=false }]) w fun e u' w' =>
   e = .returned (.tuple #[]) ∧ u' = .panicking [{ v:=.iface 217 (.agg #[]),recovered:=true }] ∧ w' = (w.alloc (.cells #[] 217)).setCell p (.bool false):=by
 refine callsD_of_wpS Tryz.func98 rfl fun c₀ cs hu => ?_;apply wpS_seq;apply wpS_region;simp [wpOpsS,go_sem,recoverD,hu,Tryz.ntmps98,Exit.thenS];have hta:∀ w,(Instr.typeAssert (.iface 217 (.agg #[])) 20 217 true).run Prog w = .ok (.tuple #[.agg #[],.bool true]) w:=fun w => by kernel_rfl
 refine wpS_of_wp ?_
 go_wp2
 cases c₀;simp_all [bodyPostS,results,Tryz.results98]
theorem ζqp (p:Addr) (w:World) :
  CallsD Prog 98 #[.pointer (some p)] .returning w fun e u' w' => e = .returned (.tuple #[]) ∧ u' = .returning ∧ w' = w:=by
 refine callsD_of_wpS Tryz.func98 rfl fun c₀ cs hu => ?_;apply wpS_seq;apply wpS_region;simp [wpOpsS,go_sem,recoverD,hu,Tryz.ntmps98,Exit.thenS];refine wpS_of_wp ?_
 go_wp2
 cases c₀;simp_all [bodyPostS,results,Tryz.results98]
set_option maxRecDepth 20000 in
theorem try_walk (g:FuncId) (first cap:Array Value) (w:World) (R:Ending → World → Prop)
  (hcf:(callFunc g (first ++ cap)).run Prog (w.alloc (.cells #[.bool false] 4)) = .ok (.enter g (first ++ cap)) (w.alloc (.cells #[.bool false] 4)))
  (hcall:Calls Prog g (first ++ cap) (w.alloc (.cells #[.bool false] 4)) fun e w' => match e with
   | .returned _ => w'.heap[w.heap.size]? = some (.cells #[.bool false] 4 (0,0)) ∧ R (.returned (.bool true)) (w'.setCell ⟨w.heap.size,0,none⟩ (.bool true))
   | .panicked chain => chain = [{ v:=.iface 217 (.agg #[]),recovered:=false }] ∧ w'.heap[w.heap.size]? = some (.cells #[.bool false] 4 (0,0)) ∧ R (.returned (.bool false)) ((w'.alloc (.cells #[] 217)).setCell ⟨w.heap.size,0,none⟩ (.bool false))
   | .outgrown => False) :
  Calls Prog 47 #[.func (.func g) first cap] w R:=by
 have hmf:∀ (fn:Fn) (first cap:Array Value) (w:World),(Instr.makeFunc fn first cap).run Prog w = .ok (.func fn first cap) w:=fun _ _ _ _ => rfl
 go_enter_defers Tryz.func47,Tryz.ntmps47
 go_wp2
 rename_i K2 hK2 K1 hK1;refine hcall.mono fun e w' he => ?_;cases e with
 | returned v =>
  obtain ⟨h1,h2⟩:=he;have hc:w'.cell? ⟨w.heap.size,0,none⟩ = some (.bool false):=by simp [World.cell?,h1]
  have hz:w'.frozen? ⟨w.heap.size,0,none⟩ = false:=by simp [World.frozen?,h1]
  apply hK1;apply hK2
  go_wp2
  have hc2:(w'.setCell ⟨w.heap.size,0,none⟩ (.bool true)).cell? ⟨w.heap.size,0,none⟩ = some (.bool true):=World.cell?_setCell_same _ _ _ hc;refine leaves_cons (f:=98) (args:=#[.pointer (some ⟨w.heap.size,0,none⟩)]) (by simp) (by simp [go_sem]) ?_;refine (ζqp ⟨w.heap.size,0,none⟩ _).mono ?_;rintro e u' w'' ⟨rfl,rfl,rfl⟩;simp [Leaves,settle,results,Tryz.results47,go_sem,hc2];exact h2
 | panicked chain =>
  obtain ⟨h0,h1,h2⟩:=he;subst h0;have hlt:w.heap.size < w'.heap.size:=by
   rcases Nat.lt_or_ge w.heap.size w'.heap.size with h | h
   ·exact h
   ·rw [Array.getElem?_eq_none h] at h1; cases h1
  have h3:(w'.alloc (.cells #[] 217)).heap[w.heap.size]? = some (.cells #[.bool false] 4 (0,0)):=by
   rw [ζ38 _ _ _ hlt]; exact h1
  have hc:(w'.alloc (.cells #[] 217)).cell? ⟨w.heap.size,0,none⟩ = some (.bool false):=by simp only [World.cell?,h3]; rfl
  have hz:(w'.alloc (.cells #[] 217)).frozen? ⟨w.heap.size,0,none⟩ = false:=by simp [World.frozen?,h3]
  have hc2:((w'.alloc (.cells #[] 217)).setCell ⟨w.heap.size,0,none⟩ (.bool false)).cell? ⟨w.heap.size,0,none⟩ = some (.bool false):=World.cell?_setCell_same _ _ _ hc;show Leaves _ _ _ _ _ _ _;refine leaves_cons (f:=98) (args:=#[.pointer (some ⟨w.heap.size,0,none⟩)]) (by simp) (by simp [go_sem]) ?_;refine (ζpp ⟨w.heap.size,0,none⟩ false _ hc hz).mono ?_;rintro e u' w'' ⟨rfl,rfl,rfl⟩;simp [Leaves,settle,results,Tryz.results47,go_sem,hc2];exact h2
 | outgrown => exact he.elim
theorem try_is:SpIs Prog 47 (tryV 217):=try_of (bt:=4) Tryz.func47 rfl (by kernel_rfl) try_walk
end Go.Sw
end
section
namespace Go.Sw
open Go.RowKit
structure CTab.ok (t:CTab):Prop where
 m:t.m.ok
 subs:∀ x,x ∈ t.subs → (∀ p,p ∈ x.2 → p.ok) ∧ risesS x.2 = true ∧ x.2.length < 2 ^ 31
 has:∀ e,e ∈ t.m.ents → (e.a = 65535 ∨ e.a < t.subs.length) ∧ (e.b = 65535 ∨ e.b < t.subs.length)
end Go.Sw
end
section
namespace Go.Sw
open Go.RowKit
end Go.Sw
end
section
namespace Go.Sw
open Go.RowKit
variable {σ:Type}
theorem runD_inv (m:Mach) (hm:m.ok) (ln:σ → List Gl) (f:σ → Int → En → σ × Int × Int) (P:σ → Prop) (hf:∀ s i e,P s → 0 ≤ i → e ∈ m.ents → P (f s i e).1) (most:Int) :
  ∀ (n:Nat) (x:σ × Drv),P x.1 → 0 ≤ x.2.pl → 0 ≤ x.2.st → x.2.st < m.rows.length → P (runD m ln f most n x).2.2
 | 0,x,h,_,_,_ => h
 | n + 1,x,h,hp,h0,h1 => by
  have hmem:=entS_mem hm (ln x.1) x.2 ⟨h0,h1⟩;have hent:=hm.ent _ hmem;have hP:P (stepD m ln f x).1.1:=by unfold stepD; split <;> exact hf _ _ _ h hp hmem
  have hst:0 ≤ (stepD m ln f x).1.2.st ∧ (stepD m ln f x).1.2.st < m.rows.length:=by unfold stepD; split <;> exact ⟨hent.1,hent.2.1⟩
  have hpl:=stepD_pl m ln f x;unfold runD;split
  ·split
   ·exact hP
   ·split
    ·exact hP
    ·exact runD_inv m hm ln f P hf most n _ hP hpl hst.1 hst.2
  ·exact h
end Go.Sw
end
section
namespace Go.Sw
open Go.RowKit
theorem ζi1 (p:Plan) (w:Int) (rm rm':List Int) (h:rm.length = rm'.length):(planRoom p w rm).length = (planRoom p w rm').length:=by
 unfold planRoom;simp [h]
end Go.Sw
end
section
namespace Go.Sw
open Go.RowKit
theorem ζrn (p:Plan) (w:Int) (n:Nat):∃ hd tl:List Int,hd.length = 16 ∧ ∀ rm:List Int,rm.length = n → planRoom p w rm = hd ++ (rm ++ tl):=by
 refine ⟨bytesOf (planN p:Int) 4 ++ (bytesOf (16 + n:Int) 4 ++ (bytesOf (16 + n + (ofS p.cls).length:Int) 4 ++ bytesOf (16 + n + (ofS p.cls).length + (rowsL (planN p) p.rows).length:Int) 4)),ofS p.cls ++ (rowsL (planN p) p.rows ++ entsB w p.ents),by simp,fun rm h => ?_⟩;unfold planRoom;rw [h];simp only [List.append_assoc]
theorem twos_byt (l:List Int):Byt (twos l):=Byt.flat fun r hr => by
 obtain ⟨x,_,rfl⟩:=List.mem_map.1 hr;exact ζ26 _ _
def roomB (p:Plan) (w:Int) (hi:Int) (l:List Int):List Int:=planRoom p w (bytesOf (hi + (planRoom p w (List.replicate 4 0)).length:Int) 4) ++ twos l
theorem ζe2 (p:Plan) (w n:Int):(planRoom p w (bytesOf n 4)).length = (planRoom p w (List.replicate 4 0)).length:=ζi1 p w _ _ (by simp)
theorem ζth {p:Plan} (hp:p.ok) (w hi:Int) (l:List Int):Byt (roomB p w hi l):=(ζo3 hp w (ζ26 _ _)).app (twos_byt l)
theorem ζti {p:Plan} (hp:p.ok) (w hi:Int) {l:List Int} (h1:p.cls.length ≤ 1000) (h2:p.rows.length ≤ 1000) (h3:p.ents.length ≤ 1000) (h4:l.length ≤ 1000):(roomB p w hi l).length ≤ 102000:=by
 have:=ζjy hp w (rm:=List.replicate 4 0) (by simp) h1 h2 h3;unfold roomB;rw [List.length_append,ζe2,twos_len];omega
end Go.Sw
end
section
set_option maxRecDepth 100000
set_option linter.unusedVariables false
namespace Go.Sw
noncomputable section
def ζ34 (k:Nat) (call:Caller):Env → Heap → Res (AExit × Env):=loopB (C k) call F.ζ9 [1,1,1,1,1,1,1,1,0,1,0,0]
def ζ61 (k:Nat) (call:Caller):Kont Value:=kBlock 0 (kSeq (pieceK (C k) call F.ζ9 [1,1,1,1,1,1,1,1,1]) (kDone Prog (resOf Prog F.ζ9)))
def ζ35 (k:Nat) (call:Caller):Env → Heap → Res (AExit × Env):=loopB (C k) call F.ζ9 [1,1,1,1,1,1,1,1,1,1,0,1,0,0]
def ζ62 (k:Nat) (call:Caller):Kont Value:=kBlock 2 (kSeq (pieceK (C k) call F.ζ9 [1,1,1,1,1,1,1,1,1,1,1]) (kDone Prog (resOf Prog F.ζ9)))
def ζ36 (k:Nat) (call:Caller):Env → Heap → Res (AExit × Env):=loopB (C k) call F.ζ9 [1,1,1,1,1,1,1,1,1,1,1,1,1,0,1,0,0]
def ζ63 (k:Nat) (call:Caller):Kont Value:=kBlock 4 (kSeq (pieceK (C k) call F.ζ9 [1,1,1,1,1,1,1,1,1,1,1,1,1,1]) (kDone Prog (resOf Prog F.ζ9)))
def ζ9 (k:Nat) (call:Caller) (a0 a1 a2:Value) (h:Heap):Res Value :=
 (boxR a0 h).bind fun v1 h2 =>
 (boxR a2 h2).bind fun v3 h4 =>
 (call F.ζ2q [] h4).bind fun v5 h6 =>
 (unR .not v5 h6).bind fun v7 h8 =>
 condV (some v7) (
 .ok (.bool false) h8)
 (
 (loadR Prog 29 v1 h8).bind fun v9 h10 =>
 (call F.ζ1i [v9,a1] h10).bind fun v11 h12 =>
 (unR .not v11 h12).bind fun v13 h14 =>
 condV (some v13) (
 .ok (.bool true) h14)
 (
 (loadR Prog 29 v1 h14).bind fun v15 h16 =>
 (call F.ζ1c [v15] h16).bind fun v17 h18 =>
 (call F.ζ5t [v17,(.int .i64 40)] h18).bind fun v19 h20 =>
 (extractR v19 0 h20).bind fun v21 h22 =>
 (extractR v19 1 h22).bind fun v23 h24 =>
 (loadR Prog 29 v1 h24).bind fun v25 h26 =>
 (call F.ζ1c [v25] h26).bind fun v27 h28 =>
 (call F.ζy [v27,(.int .i64 40)] h28).bind fun v29 h30 =>
 (extractR v29 0 h30).bind fun v31 h32 =>
 (extractR v29 1 h32).bind fun v33 h34 =>
 (allocR Prog 46 h34).bind fun v35 h36 =>
 (storeR Prog 46 v35 v31 h36).bind fun _v37 h38 =>
 (unR .not v33 h38).bind fun v39 h40 =>
 condV (some v39) (
 (binR Prog .eql 37 v23 (.int .i64 2) h40).bind fun v41 h42 =>
 ((bif wantVal v41 true then Res.ok v21 h42 else Res.ok undef h42)).bind fun v43 h44 =>
 ((bif wantVal v41 true then binR Prog .eql 36 v43 (.pointer none) h44 else Res.ok undef h44)).bind fun v45 h46 =>
 (condV (some v41) (Res.ok v45 h46) (Res.ok (.bool false) h46)).bind fun v47 h48 =>
 .ok v47 h48)
 (
 (binR Prog .neq 37 v23 (.int .i64 0) h40).bind fun v49 h50 =>
 ((bif wantVal v49 false then Res.ok v21 h50 else Res.ok undef h50)).bind fun v51 h52 =>
 ((bif wantVal v49 false then binR Prog .eql 36 v51 (.pointer none) h52 else Res.ok undef h52)).bind fun v53 h54 =>
 (condV (some v49) (Res.ok (.bool true) h54) (Res.ok v53 h54)).bind fun v55 h56 =>
 condV (some v55) (
 .ok (.bool false) h56)
 (
 (builtinV Prog .len [22] [v17] h56).bind fun v57 h58 =>
 (loopN (ζ34 k call) loopFuel [(1,a1),(5,v3),(7,v17),(8,v21),(10,v35),(54,v57),(55,(.int .i64 0))] h58).bind fun r59 h60 =>
 ζ61 k call r59.1 r59.2 h60))))
theorem ζbj (k:Nat) (a0 a1 a2:Value) (h:Heap):R (T k) F.ζ9 [a0,a1,a2] h = nrm .gc h (ζ9 k (R (T k)) a0 a1 a2 h) :=
 (R_body (t:=T k) (T_scott k) (by kernel_rfl) (by kernel_rfl) _ _).trans (by kernel_rfl)
theorem ζ4x (k:Nat) (call:Caller) (a1 a5 a7 a8 a10 a54 a55:Value) (h:Heap):ζ34 k call [(1,a1),(5,a5),(7,a7),(8,a8),(10,a10),(54,a54),(55,a55)] h =
 (binR Prog .lss 3 a55 a54 h).bind fun v61 h62 =>
 condV (some v61) (
 (indexAddrR Prog 22 a7 a55 h62).bind fun v63 h64 =>
 (storeR Prog 5 v63 (.int .u8 119) h64).bind fun _v65 h66 =>
 (binR Prog .add 3 a55 (.int .i64 1) h66).bind fun v67 h68 =>
 .ok (.normal,[(1,a1),(5,a5),(7,a7),(8,a8),(10,a10),(54,a54),(55,v67)]) h68)
 (
 .ok ((.exit 0),[(1,a1),(5,a5),(7,a7),(8,a8),(10,a10),(54,a54),(55,a55),(56,v61)]) h62) :=
 (loopB_eq _ _).trans (by kernel_rfl)
theorem ζ8t (k:Nat) (call:Caller) (a1 a5 a7 a8 a10 a54 a55 a56:Value) (h:Heap):ζ61 k call (.exit 0) [(1,a1),(5,a5),(7,a7),(8,a8),(10,a10),(54,a54),(55,a55),(56,a56)] h =
 (fieldAddrR Prog 32 a5 0 h).bindN fun v69 h70 =>
 (loadR Prog 3 v69 h70).bindN fun v71 h72 =>
 (call F.ζ18 [a1] h72).bindT (fun p75 h76 => .panic p75 h76) fun v73 h74 =>
 (call F.ζ5r [v71,v73] h74).bindT (fun p79 h80 => chkR ((okVal (loadR Prog 3 v69 h74) v71 && true) && true) (.panic p79 h80)) fun v77 h78 =>
 (call F.line_New [a1] h78).bindT (fun p83 h84 => chkR ((okVal (loadR Prog 3 v69 h74) v71 && true) && true) (.panic p83 h84)) fun v81 h82 =>
 chkR ((okVal (loadR Prog 3 v69 h74) v71 && true) && true) (
 (builtinV Prog .len [30] [a1] h82).bind fun v85 h86 =>
 (loopN (ζ35 k call) loopFuel [(1,a1),(5,a5),(8,a8),(10,a10),(13,v77),(14,v81),(70,v85),(71,(.int .i64 0))] h86).bind fun r87 h88 =>
 ζ62 k call r87.1 r87.2 h88):=by kernel_rfl
theorem ζ4y (k:Nat) (call:Caller) (a1 a5 a8 a10 a13 a14 a70 a71:Value) (h:Heap):ζ35 k call [(1,a1),(5,a5),(8,a8),(10,a10),(13,a13),(14,a14),(70,a70),(71,a71)] h =
 (binR Prog .lss 3 a71 a70 h).bind fun v89 h90 =>
 condV (some v89) (
 (binR Prog .mul 3 (.int .i64 2) a71 h90).bind fun v91 h92 =>
 (call F.ζ28 [a13,a71,a71,v91] h92).bind fun v93 h94 =>
 (binR Prog .add 3 a71 (.int .i64 1) h94).bind fun v95 h96 =>
 .ok (.normal,[(1,a1),(5,a5),(8,a8),(10,a10),(13,a13),(14,a14),(70,a70),(71,v95)]) h96)
 (
 .ok ((.exit 2),[(1,a1),(5,a5),(8,a8),(10,a10),(13,a13),(14,a14),(70,a70),(71,a71),(72,v89)]) h90) :=
 (loopB_eq _ _).trans (by kernel_rfl)
theorem ζ8u (k:Nat) (call:Caller) (a1 a5 a8 a10 a13 a14 a70 a71 a72:Value) (h:Heap):ζ62 k call (.exit 2) [(1,a1),(5,a5),(8,a8),(10,a10),(13,a13),(14,a14),(70,a70),(71,a71),(72,a72)] h =
 (fieldAddrR Prog 32 a5 1 h).bind fun v97 h98 =>
 (loadR Prog 4 v97 h98).bind fun v99 h100 =>
 (call F.ζ45 [a8,a14,a13,v99] h100).bind fun v101 h102 =>
 (call F.ζ18 [a1] h102).bind fun v103 h104 =>
 (call F.ζ2u [v103] h104).bind fun v105 h106 =>
 (builtinV Prog .len [30] [a1] h106).bind fun v107 h108 =>
 (loopN (ζ36 k call) loopFuel [(1,a1),(5,a5),(10,a10),(13,a13),(14,a14),(16,v101),(17,v105),(91,v107),(92,(.int .i64 0))] h108).bind fun r109 h110 =>
 ζ63 k call r109.1 r109.2 h110:=by kernel_rfl
theorem ζ4z (k:Nat) (call:Caller) (a1 a5 a10 a13 a14 a16 a17 a91 a92:Value) (h:Heap):ζ36 k call [(1,a1),(5,a5),(10,a10),(13,a13),(14,a14),(16,a16),(17,a17),(91,a91),(92,a92)] h =
 (binR Prog .lss 3 a92 a91 h).bind fun v111 h112 =>
 condV (some v111) (
 (binR Prog .mul 3 (.int .i64 2) a92 h112).bind fun v113 h114 =>
 (call F.ζg [a17,a92,(.int .i64 0),a92,v113] h114).bind fun v115 h116 =>
 (binR Prog .add 3 a92 (.int .i64 1) h116).bind fun v117 h118 =>
 .ok (.normal,[(1,a1),(5,a5),(10,a10),(13,a13),(14,a14),(16,a16),(17,v115),(91,a91),(92,v117)]) h118)
 (
 .ok ((.exit 4),[(1,a1),(5,a5),(10,a10),(13,a13),(14,a14),(16,a16),(17,a17),(91,a91),(92,a92),(93,v111)]) h112) :=
 (loopB_eq _ _).trans (by kernel_rfl)
theorem ζ8v (k:Nat) (call:Caller) (a1 a5 a10 a13 a14 a16 a17 a91 a92 a93:Value) (h:Heap):ζ63 k call (.exit 4) [(1,a1),(5,a5),(10,a10),(13,a13),(14,a14),(16,a16),(17,a17),(91,a91),(92,a92),(93,a93)] h =
 (loadR Prog 46 a10 h).bindN fun v119 h120 =>
 (call F.ζ2f [a1] h120).bindT (fun p123 h124 => (fieldAddrR Prog 32 a5 0 h120).bindN fun v125 h126 => (loadR Prog 3 v125 h126).bindN fun v127 h128 => (binR Prog .eql 3 v127 (.int .i64 2) h128).bindN fun v129 h130 => (fieldAddrR Prog 32 a5 1 h130).bindN fun v131 h132 => (loadR Prog 4 v131 h132).bindN fun v133 h134 => chkR ((okVal (loadR Prog 3 v125 h) v127 && true) && ((okVal (loadR Prog 4 v131 h) v133 && true) && true)) (.panic p123 h124)) fun v121 h122 =>
 (fieldAddrR Prog 32 a5 0 h122).bindN fun v135 h136 =>
 (loadR Prog 3 v135 h136).bindN fun v137 h138 =>
 (binR Prog .eql 3 v137 (.int .i64 2) h138).bindN fun v139 h140 =>
 (fieldAddrR Prog 32 a5 1 h140).bindN fun v141 h142 =>
 (loadR Prog 4 v141 h142).bindN fun v143 h144 =>
 (call F.ζ0 [v119,v121,a17,v139,v143] h144).bindT (fun p147 h148 => chkR ((okVal (loadR Prog 46 a10 h122) v119 && true) && ((okVal (loadR Prog 3 v135 h) v137 && true) && ((okVal (loadR Prog 4 v141 h) v143 && true) && true))) (.panic p147 h148)) fun v145 h146 =>
 (extractR v145 0 h146).bindN fun v149 h150 =>
 (extractR v145 1 h150).bindN fun v151 h152 =>
 chkR ((okVal (loadR Prog 46 a10 h122) v119 && true) && ((okVal (loadR Prog 3 v135 h) v137 && true) && ((okVal (loadR Prog 4 v141 h) v143 && true) && true))) (
 (binR Prog .eql 3 a16 v151 h152).bind fun v153 h154 =>
 ((bif wantVal v153 true then Res.ok a13 h154 else Res.ok undef h154)).bind fun v155 h156 =>
 ((bif wantVal v153 true then call F.ζ31 [v155] h156 else Res.ok undef h156)).bind fun v157 h158 =>
 ((bif wantVal v153 true then Res.ok v149 h158 else Res.ok undef h158)).bind fun v159 h160 =>
 ((bif wantVal v153 true then call F.ζ1m [v157,v159] h160 else Res.ok undef h160)).bind fun v161 h162 =>
 (condV (some v153) (Res.ok v161 h162) (Res.ok (.bool false) h162)).bind fun v163 h164 =>
 ((bif wantVal v163 true then Res.ok a14 h164 else Res.ok undef h164)).bind fun v165 h166 =>
 ((bif wantVal v163 true then call F.ζ3n [v165] h166 else Res.ok undef h166)).bind fun v167 h168 =>
 ((bif wantVal v163 true then Res.ok a1 h168 else Res.ok undef h168)).bind fun v169 h170 =>
 ((bif wantVal v163 true then call F.ζ2f [v169] h170 else Res.ok undef h170)).bind fun v171 h172 =>
 ((bif wantVal v163 true then call F.ζ1t [v167,v171] h172 else Res.ok undef h172)).bind fun v173 h174 =>
 (condV (some v163) (Res.ok v173 h174) (Res.ok (.bool false) h174)).bind fun v175 h176 =>
 .ok v175 h176):=by kernel_rfl
def ζ1i (k:Nat) (call:Caller) (a0 a1:Value) (h:Heap):Res Value :=
 (boxR a0 h).bind fun v1 h2 =>
 (fieldAddrR Prog 29 v1 0 h2).bind fun v3 h4 =>
 (fieldAddrR Prog 26 v3 0 h4).bind fun v5 h6 =>
 (loadR Prog 22 v5 h6).bind fun v7 h8 =>
 (builtinV Prog .len [22] [v7] h8).bind fun v9 h10 =>
 (binR Prog .leq 3 v9 (.int .i64 40) h10).bind fun v11 h12 =>
 ((bif wantVal v11 true then fieldAddrR Prog 29 v1 0 h12 else Res.ok undef h12)).bind fun v13 h14 =>
 ((bif wantVal v11 true then fieldAddrR Prog 26 v13 1 h14 else Res.ok undef h14)).bind fun v15 h16 =>
 ((bif wantVal v11 true then loadR Prog 23 v15 h16 else Res.ok undef h16)).bind fun v17 h18 =>
 ((bif wantVal v11 true then builtinV Prog .len [23] [v17] h18 else Res.ok undef h18)).bind fun v19 h20 =>
 ((bif wantVal v11 true then binR Prog .leq 3 v19 (.int .i64 20) h20 else Res.ok undef h20)).bind fun v21 h22 =>
 (condV (some v11) (Res.ok v21 h22) (Res.ok (.bool false) h22)).bind fun v23 h24 =>
 ((bif wantVal v23 true then fieldAddrR Prog 29 v1 0 h24 else Res.ok undef h24)).bind fun v25 h26 =>
 ((bif wantVal v23 true then fieldAddrR Prog 26 v25 2 h26 else Res.ok undef h26)).bind fun v27 h28 =>
 ((bif wantVal v23 true then loadR Prog 24 v27 h28 else Res.ok undef h28)).bind fun v29 h30 =>
 ((bif wantVal v23 true then builtinV Prog .len [24] [v29] h30 else Res.ok undef h30)).bind fun v31 h32 =>
 ((bif wantVal v23 true then binR Prog .leq 3 v31 (.int .i64 40) h32 else Res.ok undef h32)).bind fun v33 h34 =>
 (condV (some v23) (Res.ok v33 h34) (Res.ok (.bool false) h34)).bind fun v35 h36 =>
 ((bif wantVal v35 true then fieldAddrR Prog 29 v1 1 h36 else Res.ok undef h36)).bind fun v37 h38 =>
 ((bif wantVal v35 true then loadR Prog 27 v37 h38 else Res.ok undef h38)).bind fun v39 h40 =>
 ((bif wantVal v35 true then builtinV Prog .len [27] [v39] h40 else Res.ok undef h40)).bind fun v41 h42 =>
 ((bif wantVal v35 true then binR Prog .leq 3 v41 (.int .i64 100) h42 else Res.ok undef h42)).bind fun v43 h44 =>
 (condV (some v35) (Res.ok v43 h44) (Res.ok (.bool false) h44)).bind fun v45 h46 =>
 ((bif wantVal v45 true then Res.ok a1 h46 else Res.ok undef h46)).bind fun v47 h48 =>
 ((bif wantVal v45 true then builtinV Prog .len [30] [v47] h48 else Res.ok undef h48)).bind fun v49 h50 =>
 ((bif wantVal v45 true then binR Prog .leq 3 v49 (.int .i64 60) h50 else Res.ok undef h50)).bind fun v51 h52 =>
 (condV (some v45) (Res.ok v51 h52) (Res.ok (.bool false) h52)).bind fun v53 h54 =>
 .ok v53 h54
theorem ζf8 (k:Nat) (a0 a1:Value) (h:Heap):R (T k) F.ζ1i [a0,a1] h = nrm .gc h (ζ1i k (R (T k)) a0 a1 h) :=
 (R_body (t:=T k) (T_scott k) (by kernel_rfl) (by kernel_rfl) _ _).trans (by kernel_rfl)
def ζ4b (k:Nat) (call:Caller):Env → Heap → Res (AExit × Env):=loopB (C k) call F.ζ1c [1,1,1,0,1,0,0]
def ζ8j (k:Nat) (call:Caller):Kont Value:=kBlock 0 (kSeq (pieceK (C k) call F.ζ1c [1,1,1,1]) (kDone Prog (resOf Prog F.ζ1c)))
def ζ1c (k:Nat) (call:Caller) (a0:Value) (h:Heap):Res Value :=
 (boxR a0 h).bind fun v1 h2 =>
 (fieldAddrR Prog 29 v1 0 h2).bind fun v3 h4 =>
 (loadR Prog 26 v3 h4).bind fun v5 h6 =>
 (call F.ζ1 [v5,(.int .i64 1),(.int .i64 4)] h6).bind fun v7 h8 =>
 (sliceR Prog 22 v7 (some (.int .i64 16)) (some (.int .i64 20)) none h8).bindN fun v9 h10 =>
 (builtinV Prog .len [22] [v7] h10).bindN fun v11 h12 =>
 (call F.ζ8 [(.slice none 0 0),v11,(.int .i64 4)] h12).bindT (fun p15 h16 => .panic p15 h16) fun v13 h14 =>
 (builtinV Prog .copy [22,22] [v9,v13] h14).bindN fun v17 h18 =>
 chkR ((okVal (sliceR Prog 22 v7 (some (.int .i64 16)) (some (.int .i64 20)) none h14) v9 && true) && true) (
 (fieldAddrR Prog 29 v1 1 h18).bind fun v19 h20 =>
 (loadR Prog 27 v19 h20).bind fun v21 h22 =>
 (builtinV Prog .len [27] [v21] h22).bind fun v23 h24 =>
 (loopN (ζ4b k call) loopFuel [(3,v7),(16,v21),(17,v23),(18,(.int .i64 0))] h24).bind fun r25 h26 =>
 ζ8j k call r25.1 r25.2 h26)
theorem ζ9s (k:Nat) (a0:Value) (h:Heap):R (T k) F.ζ1c [a0] h = nrm (ownP sP23 k h.n) h (ζ1c k (R (T k)) a0 h) :=
 (R_body (t:=T k) (T_scott k) (by kernel_rfl) (by kernel_rfl) _ _).trans (by kernel_rfl)
theorem ζ73 (k:Nat) (call:Caller) (a3 a16 a17 a18:Value) (h:Heap):ζ4b k call [(3,a3),(16,a16),(17,a17),(18,a18)] h =
 (binR Prog .lss 3 a18 a17 h).bind fun v27 h28 =>
 condV (some v27) (
 (indexAddrR Prog 27 a16 a18 h28).bind fun v29 h30 =>
 (loadR Prog 125 v29 h30).bind fun v31 h32 =>
 (convR Prog 125 135 v31 h32).bind fun v33 h34 =>
 (convR Prog 135 3 v33 h34).bind fun v35 h36 =>
 (call F.ζ8 [a3,v35,(.int .i64 2)] h36).bind fun v37 h38 =>
 (binR Prog .add 3 a18 (.int .i64 1) h38).bind fun v39 h40 =>
 .ok (.normal,[(3,v37),(16,a16),(17,a17),(18,v39)]) h40)
 (
 .ok ((.exit 0),[(3,a3),(16,a16),(17,a17),(18,a18),(19,v27)]) h28) :=
 (loopB_eq _ _).trans (by kernel_rfl)
theorem ζb2 (k:Nat) (call:Caller) (a3 a16 a17 a18 a19:Value) (h:Heap):ζ8j k call (.exit 0) [(3,a3),(16,a16),(17,a17),(18,a18),(19,a19)] h =
 .ok a3 h:=by kernel_rfl
def ζ4m (k:Nat) (call:Caller):Env → Heap → Res (AExit × Env):=loopB (C k) call F.ζ18 [1,1,0,1,0,0]
def ζ6f (k:Nat) (call:Caller):Kont Value:=kBlock 0 (kSeq (pieceK (C k) call F.ζ18 [1,1,1]) (kDone Prog (resOf Prog F.ζ18)))
def ζ18 (k:Nat) (call:Caller) (a0:Value) (h:Heap):Res Value :=
 (builtinV Prog .len [30] [a0] h).bind fun v1 h2 =>
 (loopN (ζ4m k call) loopFuel [(3,(.slice none 0 0)),(6,v1),(7,(.int .i64 0))] h2).bind fun r3 h4 =>
 ζ6f k call r3.1 r3.2 h4
theorem ζce (k:Nat) (a0:Value) (h:Heap):R (T k) F.ζ18 [a0] h = nrm .fz h (ζ18 k (R (T k)) a0 h) :=
 (R_body (t:=T k) (T_scott k) (by kernel_rfl) (by kernel_rfl) _ _).trans (by kernel_rfl)
theorem ζ5n (k:Nat) (call:Caller) (a3 a6 a7:Value) (h:Heap):ζ4m k call [(3,a3),(6,a6),(7,a7)] h =
 (binR Prog .lss 3 a7 a6 h).bind fun v5 h6 =>
 condV (some v5) (
 (binR Prog .mul 3 (.int .i64 100) a7 h6).bind fun v7 h8 =>
 (buildSliceR Prog 30 1 [(0,v7)] h8).bind fun v9 h10 =>
 (builtinV Prog .append [30,30] [a3,v9] h10).bind fun v11 h12 =>
 (binR Prog .add 3 a7 (.int .i64 1) h12).bind fun v13 h14 =>
 .ok (.normal,[(3,v11),(6,a6),(7,v13)]) h14)
 (
 .ok ((.exit 0),[(3,a3),(6,a6),(7,a7),(8,v5)]) h6) :=
 (loopB_eq _ _).trans (by kernel_rfl)
theorem ζ9d (k:Nat) (call:Caller) (a3 a6 a7 a8:Value) (h:Heap):ζ6f k call (.exit 0) [(3,a3),(6,a6),(7,a7),(8,a8)] h =
 .ok a3 h:=by kernel_rfl
end
end Go.Sw
end
section
namespace Go.Sw
open Go.RowKit
theorem ζmc (p:Plan) (w:Int) (rm r x:List Int) (h:rm.length = r.length):((planRoom p w rm) ++ x).take 16 ++ (r ++ ((planRoom p w rm) ++ x).drop (16 + r.length)) = planRoom p w r ++ x:=by
 obtain ⟨hd,tl,h16,hs⟩:=ζrn p w r.length;rw [hs rm h,hs r rfl];rw [← h16,show hd ++ (rm ++ tl) ++ x = hd ++ (rm ++ (tl ++ x)) by simp,List.take_left,← h];rw [show hd ++ (rm ++ (tl ++ x)) = (hd ++ rm) ++ (tl ++ x) by simp,show hd.length + rm.length = (hd ++ rm).length by simp,List.drop_left];simp
theorem ζs1 (s:List Int) {j:Nat} {x:Int} (h:s[j]? = some x):twos (s.take (j + 1)) = twos (s.take j) ++ bytesOf x 2:=by rw [ζ37 h,ζmg]
theorem wrap16 (x:Int):IntKind.u16.wrap x = m16 x:=by
 unfold IntKind.wrap m16;simp [IntKind.signed,IntKind.bits]
theorem m16_lt (x:Int):0 ≤ m16 x ∧ m16 x < 65536:=by unfold m16; omega
abbrev enc16 (n:Int):List Value:=[.int .i16 n]
theorem ζsr (n:Int):(enc16 n).length = 1:=rfl
theorem w23_l1 (k:Nat) {H0 H:Heap} {o:Option Nat} {s7:Value} {lk:List Int} (g:Star H0 H [itRow o 1 s7 encB lk]) {v:Value} {s:List Int} (hv:Sl H0 1 v enc16 s) (hl:lk.length + 2 * s.length < 2 ^ 29) :
  ∃ s' o' zz H',loopN (ζ4b k (R (T k))) loopFuel [(3,s7),(16,v),(17,.int .i64 s.length),(18,.int .i64 0)] H =
   .ok (.exit 0,[(3,s'),(16,v),(17,.int .i64 s.length),(18,zz),(19,.bool false)]) H' ∧ Star H0 H' [itRow o' 1 s' encB (lk ++ twos (s.map m16))]:=by
 obtain ⟨xx,e',H1,hr1,rfl,s',o',rfl,g1⟩:=loop_up (body:=ζ4b k (R (T k))) s.length
  (fun j e H' => ∃ s' o',e = [(3,s'),(16,v),(17,.int .i64 s.length),(18,.int .i64 j)] ∧ Star H0 H' [itRow o' 1 s' encB (lk ++ twos ((s.map m16).take j))])
  (fun xx e H' => xx = .exit 0 ∧ ∃ s' o',e = [(3,s'),(16,v),(17,.int .i64 s.length),(18,.int .i64 s.length),(19,.bool false)] ∧ Star H0 H' [itRow o' 1 s' encB (lk ++ twos (s.map m16))])
  (e0:=[(3,s7),(16,v),(17,.int .i64 s.length),(18,.int .i64 0)]) (H0:=H) ⟨s7,o,rfl,by simpa [twos] using g⟩ (by omega)
  (fun j e H' hj ⟨s',o',he,g⟩ => by
   subst he;have hjl:(j:Int) < s.length:=by omega
   obtain ⟨x,hx⟩:∃ x,s[j]? = some x:=⟨_,List.getElem?_eq_getElem hj⟩
   have hx2:(s.map m16)[j]? = some (m16 x):=by rw [List.getElem?_map,hx]; rfl
   have hxb:=m16_lt x;obtain ⟨p,i1,i2⟩:=hv.ix1 ζsr j x hx _ rfl;have i2:=i2 H' g.ext;have hw:=wrap16 x;obtain ⟨s2,o2,H2,e2,g2⟩:=Put_star k g 0 rfl (m16 x) 2 2 rfl hxb.1 (by omega) (by omega) (by rw [List.length_append,twos_len,List.length_take,List.length_map]; omega);simp only [List.set_cons_zero] at g2;rw [List.append_assoc,← ζs1 _ hx2] at g2;have hw64:IntKind.i64.wrap (m16 x) = m16 x:=wrap_i64 (by omega) (by omega);refine .inl ⟨_,H2,?_,s2,o2,rfl,g2⟩;rw [ζ73];simp -implicitDefEqProofs (disch:=omega) [hjl,i1,i2,hw,hw64,e2])
  (fun e H' ⟨s',o',he,g⟩ => by
   subst he;rw [List.take_of_length_le (by simp)] at g;refine ⟨.exit 0,_,H',?_,by simp,rfl,s',o',rfl,g⟩;rw [ζ73];simp -implicitDefEqProofs)
 exact ⟨s',o',_,H1,hr1,g1⟩
set_option maxRecDepth 20000 in
set_option maxHeartbeats 1000000 in
theorem ζkr (k:Nat) (hW:ownW k = .no) (p:Plan) (hp:p.ok) (h1:p.cls.length ≤ 1000) (h2:p.rows.length ≤ 1000) (h3:p.ents.length ≤ 1000) {H:Heap} {vC vR sE:Value} {rv:List (List Int × Value)} (hP:PlanSl H p vC vR sE rv)
  {vV:Value} {vals:List Int} (hV:Sl H 1 vV enc16 vals) (h4:vals.length ≤ 1000) :
  ∃ s o H',ζ1c k (R (T k)) (.agg #[vC,vR,sE,.int .u8 p.wide,vV]) H = .ok s H' ∧ Star H H' [itRow o 1 s encB (roomB p 1 0 (vals.map m16))]:=by
 obtain ⟨H1,hH1⟩:∃ H1,H1 = H.push ⟨[vC,vR,sE,.int .u8 p.wide,vV],1,false⟩:=⟨_,rfl⟩
 have hx1:Ext H H1:=by rw [hH1]; exact (Ext.refl H).push _
 have hg1:H1.get H.n = some ⟨[vC,vR,sE,.int .u8 p.wide,vV],1,false⟩:=by rw [hH1]; exact ζk _ _ _ rfl
 obtain ⟨N,hN⟩:∃ N,N = (planRoom p 1 (List.replicate 4 0)).length:=⟨_,rfl⟩
 have hNb:N ≤ 100000:=by rw [hN]; exact ζjy hp 1 (by simp) h1 h2 h3
 obtain ⟨s0,o0,J0,e0,g,_⟩:=ζpk k hW p hp 1 (by omega) 4 (by omega) h1 h2 h3 (Star.nil H1) (hP.up hx1);rw [ζmb] at g;simp only [List.nil_append] at g;have gx0:=g.ext;have hln0:∀ H',lnS s0 H' = .ok (.int .i64 N) H':=by rw [hN]; exact (g.row 0 rfl).len
 have hlnV:∀ H',lnS vV H' = .ok (.int .i64 vals.length) H':=fun H' => hV.len H';have hN16:20 ≤ N:=by rw [hN]; unfold planRoom; simp; omega
 obtain ⟨c5,rfl,hs5,cut1⟩:=g.cut1 0 rfl 16 4 (by omega) (by omega) .i64 .i64;have g:=g.more_row (Ext.refl _) (OwnO.nil encB _ 1) (fun b hb => by cases hb);simp only [List.cons_append,List.nil_append] at g;obtain ⟨t6,u6,J6,f6,g⟩:=Put_star k g 1 rfl N 4 4 rfl (by omega) (by omega) (by omega) (by simp);simp only [List.set_cons_zero,List.set_cons_succ,List.nil_append] at g;obtain ⟨c6,h6,_,cut2⟩:=g.cut1 0 rfl 16 4 (by omega) (by omega) .i64 .i64;have h6:=Option.some.inj h6;subst h6;obtain ⟨J7,f7,g⟩:=g.copy1 0 1 rfl rfl 16 4 ((planRoom p 1 (List.replicate 4 0)).length - 16) (by simp) (by omega) (by omega);simp only [List.set_cons_zero] at g;have hcopy:=ζmc p 1 (List.replicate 4 0) (bytesOf (N:Int) 4) [] (by simp);rw [ζbv,List.append_nil,List.append_nil] at hcopy;rw [hcopy] at g;have hrl:(planRoom p 1 (bytesOf (N:Int) 4)).length = N:=by rw [hN]; exact ζi1 p 1 _ _ (by simp)
 have g0:=g.take 1;simp only [List.take_succ_cons,List.take_zero] at g0;have hv7:=g0.get;obtain ⟨s',o',zz,J8,f8,g8⟩:=w23_l1 k g0 (hV.up hx1) (by rw [hrl]; omega);have hfin:planRoom p 1 (bytesOf (N:Int) 4) ++ twos (vals.map m16) = roomB p 1 0 (vals.map m16):=by unfold roomB; rw [← hN,Int.zero_add]
 rw [hfin] at g8;have g1':J7.get H.n = some ⟨[vC,vR,sE,.int .u8 p.wide,vV],1,false⟩:=g.ext.get hg1;refine ⟨s',o',J8,?_,?_⟩;rotate_left
 ·have ho:=(g8.own 0 rfl).base hx1.n;obtain ⟨o2,ho2,hlt⟩:=ho.toO;have hst:Star H J8 ([] ++ [itRow o2 1 s' encB (roomB p 1 0 (vals.map m16))]):=(Star.nil H).more_row (hx1.trans g8.ext) ho2 fun b hb => ⟨hlt b hb,ho2.lt b hb⟩
  have h7:o2 = o':=by
   have hr:=g8.row 0 rfl;rcases hr with ⟨r1,r2,r3⟩ | ⟨b,r1,r2,r3⟩
   ·exfalso;have:=congrArg List.length r2;unfold roomB at this;rw [List.length_append,ζe2,← hN] at this;simp at this;omega
   ·rcases ho2 with ⟨q1,q2,q3⟩ | ⟨b2,q1,q2,q3⟩
    ·exfalso;have:=congrArg List.length q2;unfold roomB at this;rw [List.length_append,ζe2,← hN] at this;simp at this;omega
    ·rw [r1,q1];rw [r2] at q2;injection q2 with q2;injection q2 with q2;injection q2 with q2;rw [q2]
  subst h7;simpa using hst
 have hv5:veq (.slice (some ⟨c5,16,none⟩) 4 ((planRoom p 1 (List.replicate 4 0)).length - 16)) (.slice (some ⟨c5,16,none⟩) 4 ((planRoom p 1 (List.replicate 4 0)).length - 16)) = true:=by simp
 generalize (planRoom p 1 (List.replicate 4 0)).length - 16 = cap at cut1 cut2 f7 hv5;have cut1:slS 1 s0 (some (.int .i64 16)) (some (.int .i64 20)) none J0 = .ok (.slice (some ⟨c5,16,none⟩) 4 cap) J0:=cut1;have cut2:slS 1 s0 (some (.int .i64 16)) (some (.int .i64 20)) none J6 = .ok (.slice (some ⟨c5,16,none⟩) 4 cap) J6:=cut2;rw [hH1] at e0;have e0:R (T k) F.ζ1 [.agg #[vC,vR,sE,.int .u8 p.wide],.int .i64 1,.int .i64 4] (H.push ⟨[vC,vR,sE,.int .u8 p.wide,vV],1,false⟩) = .ok s0 J0:=e0;simp -implicitDefEqProofs (disch:=omega) [ζ1c,e0,hln0,cut1,f6,cut2,f7,hv5,g1',hlnV,f8,ζb2]
theorem ζs3 (k:Nat) {H:Heap} (hP0:ownP sP23 k H.n = .fz) (hW:ownW k = .no) (p:Plan) (hp:p.ok) (h1:p.cls.length ≤ 1000) (h2:p.rows.length ≤ 1000) (h3:p.ents.length ≤ 1000) {vC vR sE:Value} {rv:List (List Int × Value)} (hP:PlanSl H p vC vR sE rv)
  {vV:Value} {vals:List Int} (hV:Sl H 1 vV enc16 vals) (h4:vals.length ≤ 1000) :
  R (T k) F.ζ1c [.agg #[vC,vR,sE,.int .u8 p.wide,vV]] H = .ok (lv encB (roomB p 1 0 (vals.map m16))) H:=by
 obtain ⟨s,o,H',e,g⟩:=ζkr k hW p hp h1 h2 h3 hP hV h4;rw [ζ9s];rw [hP0];obtain ⟨L,hf⟩:=(g.own 0 rfl).freeze encB_len (fun n _ v hv => by simp at hv; subst hv; trivial) 6;exact nrm_fz (v:=s) (H':=H') e hf g.ext (Flat.B _).alive
theorem ζqj (k:Nat) (hW:ownW k = .no) (p:Plan) (hp:p.ok) (h1:p.cls.length ≤ 1000) (h2:p.rows.length ≤ 1000) (h3:p.ents.length ≤ 1000) {H0 H:Heap} (hP0:ownP sP23 k H.n = .no) {L:List It} (st:Star H0 H L) {vC vR sE:Value} {rv:List (List Int × Value)} (hP:PlanSl H p vC vR sE rv)
  {vV:Value} {vals:List Int} (hV:Sl H 1 vV enc16 vals) (h4:vals.length ≤ 1000) :
  ∃ s o H',R (T k) F.ζ1c [.agg #[vC,vR,sE,.int .u8 p.wide,vV]] H = .ok s H' ∧ Star H0 H' (L ++ [itRow o 1 s encB (roomB p 1 0 (vals.map m16))]):=by
 obtain ⟨s,o,H',e,g⟩:=ζkr k hW p hp h1 h2 h3 hP hV h4;rw [ζ9s,hP0];obtain ⟨o',g'⟩:=st.more_own (g.own 0 rfl) g.ext;exact ⟨s,o',H',nrm_of e,g'⟩
structure SPlan where
 p:Plan
 vals:List Int
def SPlan.ok (x:SPlan):Prop:=x.p.ok
abbrev splC (x:SPlan):List Value:=[lv encB x.p.cls,lv encBR x.p.rows,lv encEn x.p.ents,.int .u8 x.p.wide,lv enc16 x.vals]
abbrev splV (x:SPlan):Value:=.agg (splC x).toArray
def SSmall (x:SPlan) (n:Nat):Prop:=x.p.cls.length ≤ 40 ∧ x.p.rows.length ≤ 20 ∧ x.p.ents.length ≤ 40 ∧ x.vals.length ≤ 100 ∧ n ≤ 60
instance (x:SPlan) (n:Nat):Decidable (SSmall x n):=by unfold SSmall; exact inferInstance
theorem ζo8 (k:Nat) (hk:k % 1000000 = F.ζ2q) (H:Heap):R (T k) F.ζ2q [] H = .ok (.bool true) H :=
 (R_sp (t:=T k) (T_scott k) (s:=constSp (.bool true)) (by unfold T C; dsimp only; rw [hk]; kernel_rfl) [] H).trans (nrm_gc (Pure.of rfl) (.bool _))
theorem ζqc (k:Nat) (x:SPlan) (ids:List Int) (H:Heap):R (T k) F.ζ1i [splV x,lv encI ids] H = .ok (.bool (decide (SSmall x ids.length))) H:=by
 rw [ζf8];refine nrm_gc ⟨_,?_,(Ext.refl H).push ⟨splC x,1,false⟩⟩ (.bool _);unfold SSmall;by_cases h1:x.p.cls.length ≤ 40
 ·have h1':(x.p.cls.length:Int) ≤ 40:=by omega
  by_cases h2:x.p.rows.length ≤ 20
  ·have h2':(x.p.rows.length:Int) ≤ 20:=by omega
   by_cases h3:x.p.ents.length ≤ 40
   ·have h3':(x.p.ents.length:Int) ≤ 40:=by omega
    by_cases h4:x.vals.length ≤ 100
    ·have h4':(x.vals.length:Int) ≤ 100:=by omega
     by_cases h5:ids.length ≤ 60
     ·have h5':(ids.length:Int) ≤ 60:=by omega
      simp -implicitDefEqProofs [ζ1i,h1,h2,h3,h4,h5,h1',h2',h3',h4',h5']
     ·have h5':¬ (ids.length:Int) ≤ 60:=by omega
      simp -implicitDefEqProofs [ζ1i,h1,h2,h3,h4,h5,h1',h2',h3',h4',h5']
    ·have h4':¬ (x.vals.length:Int) ≤ 100:=by omega
     simp -implicitDefEqProofs [ζ1i,h1,h2,h3,h4,h1',h2',h3',h4']
   ·have h3':¬ (x.p.ents.length:Int) ≤ 40:=by omega
    simp -implicitDefEqProofs [ζ1i,h1,h2,h3,h1',h2',h3']
  ·have h2':¬ (x.p.rows.length:Int) ≤ 20:=by omega
   simp -implicitDefEqProofs [ζ1i,h1,h2,h1',h2']
 ·have h1':¬ (x.p.cls.length:Int) ≤ 40:=by omega
  simp -implicitDefEqProofs [ζ1i,h1,h1']
def advL (n:Nat):List Int:=(List.range n).map fun (i:Nat) => 100 * (i:Int)
theorem advL_len (n:Nat):(advL n).length = n:=by simp [advL]
theorem ζsc (n:Nat):advL (n + 1) = advL n ++ [100 * (n:Int)]:=by simp [advL,List.range_succ]
theorem ζny (k:Nat) (ids:List Int) (hl:ids.length < 2 ^ 30) (H:Heap):R (T k) F.ζ18 [lv encI ids] H = .ok (lv encI (advL ids.length)) H:=by
 rw [ζce];have st:=(Star.nil H).more_row (Ext.refl H) (OwnO.nil encI H 1) (fun b hb => by cases hb);simp only [List.nil_append] at st
 obtain ⟨xx,e',H1,hr,rfl,s,o,rfl,g⟩:=loop_up (body:=ζ4m k (R (T k))) ids.length
  (fun j e H' => ∃ s o,e = [(3,s),(6,.int .i64 ids.length),(7,.int .i64 j)] ∧ Star H H' [itRow o 1 s encI (advL j)])
  (fun xx e H' => xx = .exit 0 ∧ ∃ s o,e = [(3,s),(6,.int .i64 ids.length),(7,.int .i64 ids.length),(8,.bool false)] ∧ Star H H' [itRow o 1 s encI (advL ids.length)])
  (e0:=[(3,.slice none 0 0),(6,.int .i64 ids.length),(7,.int .i64 0)]) (H0:=H) ⟨_,none,rfl,st⟩ (by omega)
  (fun j e H' hj ⟨s,o,he,g⟩ => by
   subst he;have hjl:(j:Int) < ids.length:=by omega
   obtain ⟨s2,o2,H2,e2,g2⟩:=g.append1 (bytes:=8) 0 encI_len rfl (100 * (j:Int)) (by rw [advL_len]; omega) (by decide);simp only [List.set_cons_zero] at g2;rw [← ζsc] at g2;refine .inl ⟨_,H2,?_,s2,o2,rfl,g2⟩;rw [ζ5n];simp -implicitDefEqProofs (disch:=omega) [hjl,e2])
  (fun e H' ⟨s,o,he,g⟩ => by
   subst he;refine ⟨.exit 0,_,H',?_,by simp,rfl,s,o,rfl,g⟩;rw [ζ5n];simp -implicitDefEqProofs)
 obtain ⟨L,hf⟩:=(g.own 0 rfl).freeze encI_len (fun n hn v hv => ζ9g _ n hn v hv) 6;refine nrm_fz (v:=s) (H':=H1) ?_ hf g.ext (Flat.I _).alive;simp -implicitDefEqProofs [ζ18,hr,ζ9d]
end Go.Sw
end
