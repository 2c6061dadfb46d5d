/-
  Functions' forms, and what is proved of them, part 8.
-/
import Derived.Test.YtanfippcmdialaaSwW7
import Derived.Test.YtanfippcmdialaaSwW5
import Derived.Test.YtanfippcmdialaaSwW1
import Derived.Test.YtanfippcmdialaaSwLib8
import Derived.Test.YtanfippcmdialaaSwCfg
import Derived.Tactics
import Derived.Tactics2
import Derived.Defers
import Derived.Recover
import Derived.Laws.Pointers
import Derived.Test.YtanfippcmdialaaSwW4
set_option linter.unusedSimpArgs false
set_option linter.unusedVariables false
set_option linter.unusedSectionVars false
section
namespace Go.Sw
open Go.RowKit
theorem Star.stAll {H0 H:Heap} {L:List It} (h:Star H0 H L) (i:Nat) {c:Nat} {cells:List Value} {e:Nat} (hi:L[i]? = some (itBlk c ⟨cells,e,false⟩)) (vs:List Value) (n:Nat) (hn:cells.length = n) (hv:vs.length = n) :
  ∃ H',stR n (.pointer (some ⟨c,0,none⟩)) (.agg vs.toArray) H = .ok undef H' ∧ Star H0 H' (L.set i (itBlk c ⟨vs,e,false⟩)) ∧ H'.n = H.n:=by
 have hg:=h.get i hi;refine ⟨H.set c (some ⟨vs,e,false⟩),?_,h.step i hi (by simp) (fun d _ hd => ?_) _ ?_ fun b hb => .inl hb,by simp⟩
 ·have hd:cells.drop vs.length = []:=by rw [List.drop_eq_nil_iff]; omega
  simp [hg,hv,hd];rw [hv] at hd;rw [if_pos (by omega),hd];simp
 ·rw [ζ29];exact fun e => hd (show d ∈ [c] by simp [e])
 ·exact ζ6d _ _ _ (by rw [hg]; rfl)
theorem ζp0 (k:Nat) (b:List Int) (hb:Byt b) (i step:Int) (n:Nat) (hi:0 ≤ i ∧ i < 2 ^ 32) (hs:0 ≤ step ∧ step ≤ 8) (hn:n < 2 ^ 33) (hl:b.length < 2 ^ 31) (H:Heap) :
  R (T k) F.ζ1g [lv encB b,.int .i64 i,.int .i64 n,.int .i64 step] H = .ok (.int .i64 (needsS b i step n)) H:=by
 have hU:=fun j H' => refU_run k (H:=H') (Sl.lv H' 1 b) hb j 2 (by omega) (by omega);rw [ζhs]
 obtain ⟨x,e',H1,hr,rfl,rfl,a,rfl⟩:=loop_up (body:=ζ5m k (R (T k))) n
  (fun j e H' => H' = H ∧ e = [(0,lv encB b),(1,.int .i64 i),(2,.int .i64 n),(3,.int .i64 step),(9,.int .i64 (needsS b i step j)),(10,.int .i64 j)])
  (fun x e H' => H' = H ∧ x = .exit 0 ∧ ∃ a,e = [(0,lv encB b),(1,.int .i64 i),(2,.int .i64 n),(3,.int .i64 step),(9,.int .i64 (needsS b i step n)),(10,a),(13,.bool false)])
  (e0:=[(0,lv encB b),(1,.int .i64 i),(2,.int .i64 n),(3,.int .i64 step),(9,.int .i64 0),(10,.int .i64 0)]) (H0:=H) ⟨rfl,rfl⟩ (by omega)
  (fun j e H' hj ⟨hH,he⟩ => by
   subst he hH;have hlt:(j:Int) < n:=by omega
   have hm0:0 ≤ (j:Int) * step:=Int.mul_nonneg (by omega) hs.1;have hm1:(j:Int) * step ≤ 8589934592 * 8:=Int.mul_le_mul (by omega) (by omega) (by omega) (by omega);have hu:∀ H',R (T k) F.ζ2 [lv encB b,.int .i64 (i + (j:Int) * step),.int .i64 2] H' = .ok (.int .i64 (gU b (i + (j:Int) * step) 2)) H':=fun H' => hU _ H';have hg:=gU_two hb (i + (j:Int) * step);have hN:needsS b i step (j + 1) = (if gU b (i + (j:Int) * step) 2 + 1 > needsS b i step j then gU b (i + (j:Int) * step) 2 + 1 else needsS b i step j):=by
    unfold needsS;rw [List.range_succ,List.map_append,List.map_singleton,ζjr];split <;> omega
   refine .inl ⟨_,H',?_,rfl,rfl⟩;rw [ζ70,hN];generalize gU b (i + (j:Int) * step) 2 = y at *;simp -implicitDefEqProofs (disch:=omega) [hlt,hu])
  (fun e H' ⟨hH,he⟩ => by
   subst he hH;refine ⟨.exit 0,_,H',?_,by simp,rfl,rfl,.int .i64 n,rfl⟩;rw [ζ70];simp -implicitDefEqProofs)
 refine nrm_gc (Pure.of ?_) (.int _ _);simp -implicitDefEqProofs [ζ1g,hr,ζbc]
abbrev rmCells (b:List Int) (n j q S N w:Int) (tb:List Int) (ps:List RP):List Value :=
 [lv encB b,.int .i64 n,.int .i64 j,.int .i64 q,.int .i64 S,.int .i64 N,.int .i64 w,lv encB tb,lv encRP ps]
abbrev rmV (r:RMach):Value:=.agg (rmCells r.b r.cl r.rowsAt r.entsAt r.states r.n r.words r.tb r.parts).toArray
theorem Flat.rm (r:RMach):Flat (rmV r):=.aggL (.cons (Flat.B _) (.cons (.int _ _) (.cons (.int _ _) (.cons (.int _ _) (.cons (.int _ _) (.cons (.int _ _) (.cons (.int _ _) (.cons (Flat.B _) (.cons (Flat.RPs _) .nil)))))))))
abbrev rmZ:RMach:=⟨[],0,0,0,0,0,0,[],[]⟩
def rmO (o:Option RMach):Value:=rmV (o.getD rmZ)
abbrev zCells:List Value:=[.slice none 0 0,.int .i64 0,.int .i64 0,.int .i64 0,.int .i64 0,.int .i64 0,.int .i64 0,.slice none 0 0,.slice none 0 0]
set_option maxHeartbeats 1000000 in
theorem ζt1 (k:Nat) (b:List Int) (hb:Byt b) (hl:b.length < 2 ^ 31) {n w j q:Int} (hn:4 ≤ n ∧ n ≤ 65535) (hw:0 ≤ w ∧ w ≤ 2) {rv ev:List Int} (hrv:restS b j = some rv) (hev:restS b q = some ev) (tb:List Int) (ps:List RP) {H0 H:Heap} {z c:Nat}
  (g:Star H0 H [itBlk z ⟨zCells,1,false⟩,itBlk c ⟨rmCells b n j q 2 0 w tb ps,1,false⟩]) :
  match closeA rv ev n w 2 with
  | some x => ∃ H' S N,loopN (ζ2n k (R (T k))) loopFuel [(0,lv encB b),(6,ptrV z),(8,ptrV c),(11,.bool true),(12,.int .i64 (4 + 2 * w))] H = .ok (.ret,[(6,ptrV z),(7,.bool true)]) H' ∧ Ext H0 H' ∧ H'.get z = some ⟨rmCells b n j q S N w tb ps,1,false⟩ ∧ S = x.1.length ∧ N = x.2.length
  | none => ∃ H',loopN (ζ2n k (R (T k))) loopFuel [(0,lv encB b),(6,ptrV z),(8,ptrV c),(11,.bool true),(12,.int .i64 (4 + 2 * w))] H = .ok (.exit 0,[(0,lv encB b),(6,ptrV z),(8,ptrV c),(12,.int .i64 (4 + 2 * w)),(81,.bool false)]) H' ∧ Ext H0 H' ∧ H'.get z = some ⟨zCells,1,false⟩:=by
 have hj:=(ζ30.1 hrv).1;have hq:=(ζ30.1 hev).1;have hbE:=hb.rest hev;have hbR:=hb.rest hrv;obtain ⟨n,rfl⟩:=Int.eq_ofNat_of_zero_le (show 0 ≤ n by omega);have hRows:=fun i n z H' => ζ9k k b.length i n z (by omega) (by omega) H'
 obtain ⟨x,e',H1,hr,hQ⟩:=loopDec (body:=ζ2n k (R (T k)))
  (fun m e H' => ∃ (S N:Nat) (fl:Bool),e = [(0,lv encB b),(6,ptrV z),(8,ptrV c),(11,.bool fl),(12,.int .i64 (4 + 2 * w))] ∧ 2 ≤ S ∧ S ≤ 65536 ∧ N ≤ 65536 ∧ Star H0 H' [itBlk z ⟨zCells,1,false⟩,itBlk c ⟨rmCells b n j q S N w tb ps,1,false⟩] ∧
   (fl = true → m = (65537 - S) * 65538 + (65537 - N) + 1 ∧ closeA rv ev n w 2 = closeA rv ev n w S ∧ ∀ rs,rowsTo rv n S = some rs → (N:Int) ≤ needR rs) ∧ (fl = false → m = 0 ∧ closeA rv ev n w 2 = none))
  (fun x e H' => (∃ (y:List (List Int) × List En) (S N:Int),closeA rv ev n w 2 = some y ∧ x = .ret ∧ e = [(6,ptrV z),(7,.bool true)] ∧ Ext H0 H' ∧ H'.get z = some ⟨rmCells b n j q S N w tb ps,1,false⟩ ∧ S = y.1.length ∧ N = y.2.length) ∨
   (closeA rv ev n w 2 = none ∧ x = .exit 0 ∧ e = [(0,lv encB b),(6,ptrV z),(8,ptrV c),(12,.int .i64 (4 + 2 * w)),(81,.bool false)] ∧ Ext H0 H' ∧ H'.get z = some ⟨zCells,1,false⟩))
  ((65537 - 2) * 65538 + 65537 + 1) (e0:=[(0,lv encB b),(6,ptrV z),(8,ptrV c),(11,.bool true),(12,.int .i64 (4 + 2 * w))]) (H0:=H) ⟨2,0,true,rfl,by omega,by omega,by omega,g,fun _ => ⟨rfl,rfl,fun rs _ => ζ80 rs⟩,fun h => by cases h⟩ (by omega)
  (fun m e H' ⟨S,N,fl,he,hS2,hS6,hN6,g,ht,hf⟩ => by
   subst he;cases fl with
   | false =>
    obtain ⟨hm,hc⟩:=hf rfl;refine .inr ⟨.exit 0,_,H',?_,by simp,.inr ⟨hc,rfl,rfl,g.ext,g.get 0 rfl⟩⟩;rw [ζ1m];simp -implicitDefEqProofs
   | true =>
    obtain ⟨hm,hc,hNle⟩:=ht rfl;clear hf ht;have hcA:=ζoc (rv:=rv) hbE (n:=(n:Int)) (w:=w) hS6;have hM:=g.get 1 rfl;have hcn:¬ c = H'.n:=by have:=Heap.get_lt hM; omega
    have e0:stR 9 (.pointer (some ⟨H'.n,0,none⟩)) (.agg (rmCells b n j q S N w tb ps).toArray) (H'.push ⟨zCells,1,false⟩) = .ok undef (H'.push ⟨rmCells b n j q S N w tb ps,1,false⟩):=by simp
    have g1:=g.push ⟨rmCells b n j q S N w tb ps,1,false⟩;obtain ⟨P,hP⟩:∃ P,P = H'.push ⟨rmCells b n j q S N w tb ps,1,false⟩:=⟨_,rfl⟩
    rw [← hP] at g1 e0;simp only [List.cons_append,List.nil_append] at g1;have hMP:=g1.get 1 rfl;have hWP:=g1.get 2 rfl;have hre:=ζri hrv (show (0:Int) < n by omega) (s:=S) (by omega);have hR1:=fun H' => hRows j S (2 * n) H';cases hrt:rowsTo rv n S with
    | none =>
     rw [hrt] at hre;simp at hre;rw [hre] at hR1;rw [hrt] at hcA;refine .inl ⟨0,_,P,?_,by omega,S,N,false,rfl,hS2,hS6,hN6,g1.take 2,(fun h => by cases h),fun _ => ⟨rfl,by rw [hc,hcA]; rfl⟩⟩;rw [ζ1m];simp -implicitDefEqProofs (disch:=omega) [-stR_ptr,hM,e0,hMP,hR1,ζf6,ζ7k]
    | some rs =>
     rw [hrt] at hre;simp at hre;rw [hre] at hR1;rw [hrt,Option.bind_some] at hcA;have hrl:rs.length = S:=by have:=mapO_len hrt; simpa using this
     have hneed:=ζrh hrv (show (0:Int) < n by omega) hrt;have hNle:=hNle rs hrt;have hn6:=ζhl hbR hrt;have hn0:=ζ80 rs;have hSn:(S:Int) * (n:Int) = ((S * n:Nat):Int):=by simp
     have hSnb:S * n ≤ 65536 * 65535:=Nat.mul_le_mul (by omega) (by omega);rw [Int.toNat_natCast] at hneed;have hnr:=fun H' => ζp0 k b hb j 2 (S * n) (by omega) (by omega) (by omega) hl H';rw [hneed,← hSn] at hnr;obtain ⟨N',hN'⟩:∃ N':Nat,(N':Int) = needR rs:=⟨(needR rs).toNat,by omega⟩
     have hmx:(if needR rs > N then needR rs else (N:Int)) = (N':Int):=by rw [hN']; split <;> omega
     obtain ⟨P2,e2,g2,_⟩:=g1.stCell 1 rfl 5 (v:=.int .i64 N') rfl rfl (by simp);simp only [List.set_cons_zero,List.set_cons_succ] at g2;have hMP2:=g2.get 1 rfl;have hWP2:=g2.get 2 rfl;have hR2:=fun H' => hRows q N' (4 + 2 * w) H';have hee:=ζqu hev hw.1 N';have hb1:(S:Int) * (n:Int) ≤ 65536 * 65535:=by omega
     have hb0:0 ≤ (S:Int) * (n:Int):=by omega
     rw [show (needR rs).toNat = N' by omega] at hcA;cases het:entsTo ev w N' with
     | none =>
      rw [het] at hee;simp at hee;rw [hee] at hR2;rw [het] at hcA;refine .inl ⟨0,_,P2,?_,by omega,S,N',false,rfl,hS2,hS6,by omega,g2.take 2,(fun h => by cases h),fun _ => ⟨rfl,by rw [hc,hcA]; rfl⟩⟩;rw [ζ1m];simp -implicitDefEqProofs (disch:=omega) [-stR_ptr,hM,e0,hMP,hR1,hnr,hmx,e2,hMP2,hR2,ζ33,ζ7k]
     | some es =>
      rw [het] at hee;simp at hee;rw [hee] at hR2;rw [het,Option.bind_some] at hcA;have hel:es.length = N':=by have:=mapO_len het; simpa using this
      have hE:=needE_le hbE het;have hneed2:=ζqt hev hw het;have hnr2:=fun H' => ζp0 k b hb q (4 + 2 * w) N' (by omega) (by omega) (by omega) hl H';rw [hneed2] at hnr2;obtain ⟨S',hS'⟩:∃ S':Nat,(S':Int) = max (S:Int) (needE es):=⟨(max (S:Int) (needE es)).toNat,by omega⟩
      have hEe:needE es = max 2 (needL (es.map En.next)):=rfl;have hmx2:(if needL (es.map En.next) > S then needL (es.map En.next) else (S:Int)) = (S':Int):=by rw [hS',hEe]; split <;> omega
      have hL6:needL (es.map En.next) ≤ 65536:=by omega
      obtain ⟨P3,e3,g3,_⟩:=g2.stCell 1 rfl 4 (v:=.int .i64 S') rfl rfl (by simp);simp only [List.set_cons_zero,List.set_cons_succ] at g3;have hMP3:=g3.get 1 rfl;have hWP3:=g3.get 2 rfl;by_cases hsame:S' = S ∧ N' = N
      ·obtain ⟨rfl,rfl⟩:=hsame;rw [if_pos (by omega)] at hcA;obtain ⟨P4,e4,g4,_⟩:=g3.stAll 0 rfl (rmCells b n j q S' N' w tb ps) 9 rfl rfl;simp only [List.set_cons_zero,List.set_cons_succ] at g4;refine .inr ⟨.ret,_,P4,?_,by simp,.inl ⟨_,S',N',by rw [hc,hcA],rfl,rfl,g4.ext,g4.get 0 rfl,by rw [hrl],by rw [hel]⟩⟩;rw [ζ1m];simp -implicitDefEqProofs (disch:=omega) [-stR_ptr,hM,e0,hMP,hR1,hnr,hmx,e2,hMP2,hR2,ζ33,hnr2,hmx2,e3,hMP3,hWP3,ζ4d,e4]
      ·refine .inl ⟨(65537 - S') * 65538 + (65537 - N') + 1,_,P3,?_,?_,S',N',true,rfl,by omega,by omega,by omega,g3.take 2,fun _ => ⟨rfl,?_,?_⟩,fun h => by cases h⟩
       ·by_cases hs1:S' = S
        ·have hs2:((N':Int) == (N:Int)) = false:=by simp; omega
         subst hs1;rw [ζ1m];simp -implicitDefEqProofs (disch:=omega) [-stR_ptr,hM,e0,hMP,hR1,hnr,hmx,e2,hMP2,hR2,ζ33,hnr2,hmx2,e3,hMP3,hWP3,ζ4d,hs2]
        ·have hs2:((S':Int) == (S:Int)) = false:=by simp; omega
         rw [ζ1m];simp -implicitDefEqProofs (disch:=omega) [-stR_ptr,hM,e0,hMP,hR1,hnr,hmx,e2,hMP2,hR2,ζ33,hnr2,hmx2,e3,hMP3,hWP3,ζ4d,hs2]
       ·omega
       ·rw [hc];by_cases hcl:(needE es).toNat ≤ S
        ·rw [show S' = S by omega]
        ·rw [hcA,if_neg hcl,show S' = (needE es).toNat by omega]
       ·intro rt hrt2;have:=ζr6 (s:=S) (t:=S') (by omega) hrt hrt2;omega)
 rcases hQ with ⟨y,S,N,h1,rfl,rfl,h2,h3,h4⟩ | ⟨h1,rfl,rfl,h2,h3⟩
 ·rw [h1]; exact ⟨H1,S,N,hr,h2,h3,h4⟩
 ·rw [h1]; exact ⟨H1,hr,h2,h3⟩
end Go.Sw
end
section
namespace Go.Sw
open Go.RowKit
theorem gU_four {b:List Int} (hb:Byt b) (i:Int):-1 ≤ gU b i 4 ∧ gU b i 4 < 4294967296:=by
 unfold gU;cases h:uS b i 4 with
 | none => simp
 | some x => have:=uS_four hb h; simp; omega
theorem gU_lt {b:List Int} {i:Int} (h:¬ gU b i 4 < 0):uS b i 4 = some (gU b i 4):=by
 unfold gU at h ⊢;cases hu:uS b i 4 with
 | none => rw [hu] at h; simp at h
 | some x => rfl
set_option maxHeartbeats 1000000 in
theorem ζo6 (k:Nat) (b:List Int) (hb:Byt b) (g w:Int) (hg:1 ≤ g ∧ g ≤ 65535) (hw:w = 0 ∨ w = 1 ∨ w = 2) (hl:b.length < 2 ^ 31) (H:Heap) :
  R (T k) F.ζ5 [lv encB b,.int .i64 g,.int .i64 w] H = .ok (.tuple #[rmO (refMachS b g w),.bool (refMachS b g w).isSome]) H:=by
 rw [ζie];have hU:=fun j H' => refU_run k (H:=H') (Sl.lv H' 1 b) hb j 4 (by omega) (by omega);have u0:∀ H',R (T k) F.ζ2 [lv encB b,.int .i64 0,.int .i64 4] H' = .ok (.int .i64 (gU b 0 4)) H':=fun H' => hU _ H';have u4:∀ H',R (T k) F.ζ2 [lv encB b,.int .i64 4,.int .i64 4] H' = .ok (.int .i64 (gU b 4 4)) H':=fun H' => hU _ H';have u8:∀ H',R (T k) F.ζ2 [lv encB b,.int .i64 8,.int .i64 4] H' = .ok (.int .i64 (gU b 8 4)) H':=fun H' => hU _ H';have u12:∀ H',R (T k) F.ζ2 [lv encB b,.int .i64 12,.int .i64 4] H' = .ok (.int .i64 (gU b 12 4)) H':=fun H' => hU _ H';have b0:=gU_four hb 0;have b4:=gU_four hb 4;have b8:=gU_four hb 8;have b12:=gU_four hb 12;have fl:∀ o:Option RMach,Flat (.tuple #[rmO o,.bool o.isSome]):=fun o => .tupleL (.cons (Flat.rm _) (.cons (.bool _) .nil));obtain ⟨n,hn⟩:∃ n,gU b 0 4 = n:=⟨_,rfl⟩
 obtain ⟨i,hi⟩:∃ i,gU b 4 4 = i:=⟨_,rfl⟩
 obtain ⟨j,hj⟩:∃ j,gU b 8 4 = j:=⟨_,rfl⟩
 obtain ⟨q,hq⟩:∃ q,gU b 12 4 = q:=⟨_,rfl⟩
 rw [hn] at u0 b0;rw [hi] at u4 b4;rw [hj] at u8 b8;rw [hq] at u12 b12;obtain ⟨M1,hM1⟩:∃ M1:Blk,M1 = ⟨[lv encB b,.int .i64 n,.int .i64 j,.int .i64 q,.int .i64 2,.int .i64 0,.int .i64 w,.slice none 0 0,.slice none 0 0],1,false⟩:=⟨_,rfl⟩
 have hx2:Ext H ((H.push ⟨zCells,1,false⟩).push M1):=((Ext.refl H).push _).push _
 -- one thing is not as it should be
 have no:machS b g w = none → ζ5 k (R (T k)) (lv encB b) (.int .i64 g) (.int .i64 w) H = .ok (.tuple #[.agg zCells.toArray,.bool false]) ((H.push ⟨zCells,1,false⟩).push M1) → nrm .fz H (ζ5 k (R (T k)) (lv encB b) (.int .i64 g) (.int .i64 w) H) = .ok (.tuple #[rmO (refMachS b g w),.bool (refMachS b g w).isSome]) H:=fun h1 h2 => by
  have:refMachS b g w = none:=by unfold refMachS; rw [h1]; rfl
  rw [this];exact nrm_fz (L:=[]) h2 rfl hx2 (fl none).alive
 have n0:∀ m,machS b g w = some m → (4 ≤ n ∧ n ≤ 65535) ∧ 0 ≤ i ∧ i ≤ b.length ∧ 0 ≤ j ∧ j ≤ b.length ∧ 0 ≤ q ∧ q ≤ b.length:=fun m hm => by
  obtain ⟨i',j',q',tb,rv,ev,x,h0,h1,h2,h3,h4,h5,h6,h7,h8,h9,_⟩:=ζhh hm;have e0:=gU_some h0;have e3:=gU_some h3;have e6:=gU_some h6;have e8:=gU_some h8;rw [hn] at e0;rw [hi] at e3;rw [hj] at e6;rw [hq] at e8;have r4:=(ζ30.1 h4).1;have r7:=(ζ30.1 h7).1;have r9:=(ζ30.1 h9).1;omega
 have nn:¬ ((4 ≤ n ∧ n ≤ 65535) ∧ 0 ≤ i ∧ i ≤ b.length ∧ 0 ≤ j ∧ j ≤ b.length ∧ 0 ≤ q ∧ q ≤ b.length) → machS b g w = none:=fun h => by
  cases hm:machS b g w with
  | none => rfl
  | some m => exact absurd (n0 m hm) h
 by_cases c1:n < 4
 ·refine no (nn (by omega)) ?_;rw [hM1];simp -implicitDefEqProofs (disch:=omega) [ζ5,u0,u4,u8,u12,c1]
 by_cases c2:n > 65535
 ·refine no (nn (by omega)) ?_;rw [hM1];simp -implicitDefEqProofs (disch:=omega) [ζ5,u0,u4,u8,u12,c1,c2]
 by_cases c3:j < 0
 ·refine no (nn (by omega)) ?_;rw [hM1];simp -implicitDefEqProofs (disch:=omega) [ζ5,u0,u4,u8,u12,c1,c2,c3]
 by_cases c4:q < 0
 ·refine no (nn (by omega)) ?_;rw [hM1];simp -implicitDefEqProofs (disch:=omega) [ζ5,u0,u4,u8,u12,c1,c2,c3,c4]
 by_cases c5:j > b.length
 ·refine no (nn (by omega)) ?_;rw [hM1];simp -implicitDefEqProofs (disch:=omega) [ζ5,u0,u4,u8,u12,c1,c2,c3,c4,c5]
 by_cases c6:q > b.length
 ·refine no (nn (by omega)) ?_;rw [hM1];simp -implicitDefEqProofs (disch:=omega) [ζ5,u0,u4,u8,u12,c1,c2,c3,c4,c5,c6]
 by_cases c7:i < 0
 ·refine no (nn (by omega)) ?_;rw [hM1];simp -implicitDefEqProofs (disch:=omega) [ζ5,u0,u4,u8,u12,c1,c2,c3,c4,c5,c6,c7]
 by_cases c8:i > b.length
 ·refine no (nn (by omega)) ?_;rw [hM1];simp -implicitDefEqProofs (disch:=omega) [ζ5,u0,u4,u8,u12,c1,c2,c3,c4,c5,c6,c7,c8]
 clear no nn n0;have hU0:=gU_lt (b:=b) (i:=0) (by omega);have hU4:=gU_lt (b:=b) (i:=4) (by omega);have hU8:=gU_lt (b:=b) (i:=8) (by omega);have hU12:=gU_lt (b:=b) (i:=12) (by omega);rw [hn] at hU0;rw [hi] at hU4;rw [hj] at hU8;rw [hq] at hU12;obtain ⟨tb,htb⟩:∃ tb,tb = b.drop i.toNat:=⟨_,rfl⟩
 have r4:restS b i = some tb:=ζ30.2 ⟨by omega,htb⟩;have r8:restS b j = some (b.drop j.toNat):=ζ30.2 ⟨by omega,rfl⟩;have r12:restS b q = some (b.drop q.toNat):=ζ30.2 ⟨by omega,rfl⟩;have hsl:=fun H' => slS_lv encB_len b (some (.int .i64 i)) none none i.toNat b.length b.length (by unfold boundOf; dsimp only; rw [if_pos (by omega)]) rfl rfl (fun h => by cases h) (by omega) (Nat.le_refl _) (Nat.le_refl _) H';rw [List.take_length,← htb] at hsl;have htbb:Byt tb:=hb.rest r4;have htbl:tb.length < 2 ^ 31:=by rw [htb]; simp; omega
 have hrd:=fun H' => ζrb k tb htbb g 2 hg (.inl rfl) htbl H';have hlr:=look_ref htbb hg.1 hg.2 (.inl rfl:(2:Int) = 2 ∨ (2:Int) = 4);have hmach:machS b g w = (lookS tb g 2).bind fun tab => (closeA (b.drop j.toNat) (b.drop q.toNat) n w 2).map fun x => ⟨n,tab,x.1,x.2⟩:=by
  unfold machS;rw [hU0,Option.bind_some,if_pos (by omega),hU4,Option.bind_some,r4,Option.bind_some];congr 1;funext tab;rw [hU8,Option.bind_some,r8,Option.bind_some,hU12,Option.bind_some,r12,Option.bind_some]
 cases hlk:lookS tb g 2 with
 | none =>
  have hm:refMachS b g w = none:=by unfold refMachS; rw [hmach,hlk]; rfl
  rw [hm];have hrr:=hlr.2 hlk;rw [hrr] at hrd;simp only [tabRO,Option.isSome_none] at hrd
  obtain ⟨x,e',H1,hr,rfl,rfl,rfl⟩:=loopDec (body:=ζ2n k (R (T k)))
   (fun m e H' => H' = (((H.push ⟨zCells,1,false⟩).push ⟨rmCells b n j q 2 0 w [] [],1,false⟩).push ⟨[lv encB [],lv encRP []],1,false⟩) ∧ e = [(0,lv encB b),(6,ptrV H.n),(8,ptrV (H.n + 1)),(11,.bool false),(12,.int .i64 (4 + 2 * w))])
   (fun x e H' => H' = (((H.push ⟨zCells,1,false⟩).push ⟨rmCells b n j q 2 0 w [] [],1,false⟩).push ⟨[lv encB [],lv encRP []],1,false⟩) ∧ x = .exit 0 ∧ e = [(0,lv encB b),(6,ptrV H.n),(8,ptrV (H.n + 1)),(12,.int .i64 (4 + 2 * w)),(81,.bool false)])
   0 (e0:=[(0,lv encB b),(6,ptrV H.n),(8,ptrV (H.n + 1)),(11,.bool false),(12,.int .i64 (4 + 2 * w))]) (H0:=(((H.push ⟨zCells,1,false⟩).push ⟨rmCells b n j q 2 0 w [] [],1,false⟩).push ⟨[lv encB [],lv encRP []],1,false⟩)) ⟨rfl,rfl⟩ (by omega)
   (fun m e H' ⟨hH,he⟩ => by
    subst hH he;refine .inr ⟨.exit 0,_,_,?_,by simp,rfl,rfl,rfl⟩;rw [ζ1m];simp -implicitDefEqProofs)
  refine nrm_fz (L:=[]) (v:=.tuple #[.agg zCells.toArray,.bool false]) (H':=((H.push ⟨zCells,1,false⟩).push ⟨rmCells b n j q 2 0 w [] [],1,false⟩).push ⟨[lv encB [],lv encRP []],1,false⟩) ?_ rfl ((((Ext.refl H).push _).push _).push _) (fl none).alive;simp -implicitDefEqProofs (disch:=omega) [ζ5,u0,u4,u8,u12,c1,c2,c3,c4,c5,c6,c7,c8,hsl,hrd,hr,ζ6z]
 | some tab =>
  obtain ⟨ps,hps,hrel⟩:=hlr.1 tab hlk;rw [hps] at hrd;simp only [tabRO,Option.isSome_some] at hrd;have st:=((Star.nil H).push ⟨zCells,1,false⟩).push ⟨rmCells b n j q 2 0 w tb ps,1,false⟩;have st:=st.rest ((Ext.refl _).push ⟨[lv encB tb,lv encRP ps],1,false⟩);have hlp:=ζt1 k b hb hl (n:=n) (w:=w) (by omega) (by omega) r8 r12 tb ps (by simpa using st);cases hcl:closeA (b.drop j.toNat) (b.drop q.toNat) n w 2 with
  | none =>
   have hm:refMachS b g w = none:=by unfold refMachS; rw [hmach,hlk,Option.bind_some,hcl]; rfl
   rw [hm];rw [hcl] at hlp;obtain ⟨H2,hr,hx,hz⟩:=hlp;have hgs:(H2.set H.n (some ⟨zCells,1,false⟩)).get H.n = some ⟨zCells,1,false⟩:=ζ6d _ _ _ (by rw [hz]; rfl);have hx3:Ext H (H2.set H.n (some ⟨zCells,1,false⟩)):=⟨by simpa using hx.1,fun d hd hs => by rw [ζ29 _ _ _ _ (by omega)]; exact hx.2 d hd hs⟩
   refine nrm_fz (L:=[]) (v:=.tuple #[.agg zCells.toArray,.bool false]) (H':=H2.set H.n (some ⟨zCells,1,false⟩)) ?_ rfl hx3 (fl none).alive;simp -implicitDefEqProofs (disch:=omega) [ζ5,u0,u4,u8,u12,c1,c2,c3,c4,c5,c6,c7,c8,hsl,hrd,hr,ζ6z,hz,hgs]
  | some x =>
   have hm:refMachS b g w = some (rmOf b g w ⟨n,tab,x.1,x.2⟩):=by unfold refMachS; rw [hmach,hlk,Option.bind_some,hcl]; rfl
   rw [hm];rw [hcl] at hlp;obtain ⟨H2,S,N,hr,hx,hz,rfl,rfl⟩:=hlp;have hrm:rmO (some (rmOf b g w ⟨n,tab,x.1,x.2⟩)) = .agg (rmCells b n j q x.1.length x.2.length w tb ps).toArray:=by
    unfold rmO rmOf;rw [hj,hq,hi,← htb,hps];rfl
   have fl2:=fl (some (rmOf b g w ⟨n,tab,x.1,x.2⟩));rw [hrm] at fl2 ⊢;refine nrm_fz (L:=[]) (v:=.tuple #[.agg (rmCells b n j q x.1.length x.2.length w tb ps).toArray,.bool true]) (H':=H2) ?_ rfl hx fl2.alive;simp -implicitDefEqProofs (disch:=omega) [ζ5,u0,u4,u8,u12,c1,c2,c3,c4,c5,c6,c7,c8,hsl,hrd,hr,ζf7,hz]
theorem mach_at {b:List Int} (hb:Byt b) {g w:Int} (hw:0 ≤ w ∧ w ≤ 2) {m:Mach} (h:machS b g w = some m) :
  (0 ≤ gU b 8 4 ∧ gU b 8 4 ≤ b.length) ∧ (0 ≤ gU b 12 4 ∧ gU b 12 4 ≤ b.length) ∧
  (∀ (i:Nat) e,m.ents[i]? = some e → e = ⟨gU b (gU b 12 4 + (i:Int) * (4 + 2 * w)) 2,gU b (gU b 12 4 + (i:Int) * (4 + 2 * w) + 2) 2,if 0 < w then gU b (gU b 12 4 + (i:Int) * (4 + 2 * w) + 4) 2 else 0,if 1 < w then gU b (gU b 12 4 + (i:Int) * (4 + 2 * w) + 6) 2 else 0⟩) ∧
  ∀ (s c:Nat) r x,m.rows[s]? = some r → r[c]? = some x → x = gU b (gU b 8 4 + (m.classes * s + (c:Nat)) * 2) 2:=by
 obtain ⟨i,j,q,tb,rv,ev,x,h0,h1,h2,h3,h4,h5,h6,h7,h8,h9,h10,h11,h12⟩:=ζhh h;have e6:=gU_some h6;have e8:=gU_some h8;rw [e6,e8];obtain ⟨c1,c2,c3,c4,c5,c6,c7,_⟩:=ζlx (hb.rest h7) (hb.rest h9) (by omega) hw _ _ x (by omega) (by omega) h10;refine ⟨(ζ30.1 h7).1,(ζ30.1 h9).1,fun i e he => ?_,fun s c r x' hr hx => ?_⟩
 ·rw [h12] at he;obtain ⟨y,g1,g2⟩:=mapO_at c7 (List.getElem?_eq_some_iff.1 he).1;rw [he] at g2;injection g2 with g2;subst g2;exact ent_at h9 hw g1
 ·rw [h11] at hr;obtain ⟨y,g1,g2⟩:=mapO_at c6 (List.getElem?_eq_some_iff.1 hr).1;rw [hr] at g2;injection g2 with g2;subst g2;have hra:=row_at h7 (by omega) g1;have hlt:=(List.getElem?_eq_some_iff.1 hx).1;rw [hra] at hx hlt;simp at hlt;rw [List.getElem?_map,List.getElem?_range (by omega)] at hx;injection hx with hx;exact hx.symm
theorem ζmr (k:Nat) {b:List Int} (hb:Byt b) {g w:Int} (hw:w = 0 ∨ w = 1 ∨ w = 2) (hl:b.length < 2 ^ 31) {m:Mach} (h:machS b g w = some m) {i:Int} (hi0:0 ≤ i) (hi6:i ≤ 65536) {e:En} (he:m.ents[i.toNat]? = some e) (H:Heap) :
  R (T k) F.ζi [rmV (rmOf b g w m),.int .i64 i] H = .ok (.agg (encEn e).toArray) H:=by
 obtain ⟨_,hq,hat,_⟩:=mach_at hb (by omega) h;have he:=hat _ _ he;clear hat;obtain ⟨i,rfl⟩:=Int.eq_ofNat_of_zero_le hi0;rw [Int.toNat_natCast] at he;obtain ⟨p,hp⟩:∃ p,p = gU b 12 4 + (i:Int) * (4 + 2 * w):=⟨_,rfl⟩
 have hm0:0 ≤ (i:Int) * (4 + 2 * w):=Int.mul_nonneg (by omega) (by omega);have hm1:(i:Int) * (4 + 2 * w) ≤ 65536 * 8:=Int.mul_le_mul (by omega) (by omega) (by omega) (by omega);have hU:=fun j H' => refU_run k (H:=H') (Sl.lv H' 1 b) hb j 2 (by omega) (by omega);have hu:∀ j H',R (T k) F.ζ2 [lv encB b,.int .i64 j,.int .i64 2] H' = .ok (.int .i64 (gU b j 2)) H':=fun j H' => hU j H';rw [ζhr];rw [← hp] at he;have hx:Ext H (((H.push ⟨rmCells b m.classes (gU b 8 4) (gU b 12 4) m.rows.length m.ents.length w (b.drop (gU b 4 4).toNat) ((refReadS (b.drop (gU b 4 4).toNat) g 2).getD []),1,false⟩).push ⟨encEn e,1,false⟩).push ⟨encEn e,1,false⟩):=(((Ext.refl H).push _).push _).push _;refine nrm_gc ⟨_,?_,hx⟩ (Flat.ofEn e).alive;subst he;unfold rmOf;rcases hw with rfl | rfl | rfl
 ·simp -implicitDefEqProofs at hm0 hm1 hp;simp -implicitDefEqProofs (disch:=omega) [ζi,← hp,hu,ζbt,ζ6y]
 ·simp -implicitDefEqProofs at hm0 hm1 hp;simp -implicitDefEqProofs (disch:=omega) [ζi,← hp,hu,ζ6x,ζ6y]
 ·simp -implicitDefEqProofs at hm0 hm1 hp;simp -implicitDefEqProofs (disch:=omega) [ζi,← hp,hu,ζ6x,ζbu]
theorem ζqn (k:Nat) {b:List Int} (hb:Byt b) {g w:Int} (hg:1 ≤ g ∧ g ≤ 65535) (hl:b.length < 2 ^ 31) {m:Mach} (hm:m.ok) (h:machS b g w = some m) (id:Int) (H:Heap) :
  R (T k) F.ζ20 [rmV (rmOf b g w m),.int .i64 id] H = .ok (.int .i64 (classS m id)) H:=by
 obtain ⟨i,j,q,tb,rv,ev,x,h0,h1,h2,h3,h4,h5,_⟩:=ζhh h;have e3:=gU_some h3;obtain ⟨hi,htb⟩:=ζ30.1 h4;have htbb:Byt tb:=hb.rest h4;have htbl:=ζ8v h4;obtain ⟨ps,hps,hrel⟩:=(look_ref htbb hg.1 hg.2 (.inl rfl:(2:Int) = 2 ∨ (2:Int) = 4)).1 _ h5;have hget:=fun H' => ζsk k tb htbb ps (ζrd htbb hg (.inl rfl) hps) (ζq6 htbb hg (.inl rfl) h5 hps) (by omega) id H';rw [← get_ref (id:=id) hrel hm.pts hm.rise] at hget;have hrm:rmV (rmOf b g w m) = .agg (rmCells b m.classes (gU b 8 4) (gU b 12 4) m.rows.length m.ents.length w tb ps).toArray:=by
  unfold rmOf;rw [e3,← htb,hps];rfl
 rw [hrm,ζhq];refine nrm_gc ⟨_,?_,(Ext.refl H).push ⟨rmCells b m.classes (gU b 8 4) (gU b 12 4) m.rows.length m.ents.length w tb ps,1,false⟩⟩ (.int _ _);unfold classS;by_cases h:id = 65535
 ·subst h;simp -implicitDefEqProofs (disch:=omega) [ζ20]
 ·have h':(id == 65535) = false:=by simpa using h
  rw [if_neg h];cases hg:getS m.tab.2 id with
  | none =>
   rw [hg] at hget;simp -implicitDefEqProofs (disch:=omega) [ζ20,h',hget]
  | some x =>
   rw [hg] at hget;dsimp only;by_cases hx:x < m.classes
   ·have hx':¬ x ≥ m.classes:=by omega
    simp -implicitDefEqProofs (disch:=omega) [ζ20,h',hget,hx,hx']
   ·have hx':x ≥ m.classes:=by omega
    simp -implicitDefEqProofs (disch:=omega) [ζ20,h',hget,hx,hx']
end Go.Sw
end
section
namespace Go.Sw
theorem row_I {r:List Da} {cs:List Value} (h:LayRow [.int .i64] r cs):∃ n:Int,cs = encI n ∧ (Lit.int .i64 n).wf = true:=by
 obtain ⟨d,v,ds,vs,rfl,h1,h2⟩:=h.head;obtain rfl:=h2.done;obtain ⟨n,rfl,w⟩:=h1.intv;exact ⟨n,rfl,w⟩
theorem wf_u8 {n:Int} (h:(Lit.int .u8 n).wf = true):0 ≤ n ∧ n < 256:=by
 simp [Lit.wf,IntKind.min,IntKind.max,IntKind.signed,IntKind.bits] at h;omega
theorem wf_u16 {n:Int} (h:(Lit.int .u16 n).wf = true):0 ≤ n ∧ n < 65536:=by
 simp [Lit.wf,IntKind.min,IntKind.max,IntKind.signed,IntKind.bits] at h;omega
theorem row_B {r:List Da} {cs:List Value} (h:LayRow [.int .u8] r cs):∃ n:Int,cs = encB n ∧ (0 ≤ n ∧ n < 256):=by
 obtain ⟨d,v,ds,vs,rfl,h1,h2⟩:=h.head;obtain rfl:=h2.done;obtain ⟨n,rfl,w⟩:=h1.intv;exact ⟨n,rfl,wf_u8 w⟩
theorem arg_I {v:Value} (h:ArgLay (.one (.slice [.int .i64])) v):∃ l,v = lv encI l ∧ ∀ n,n ∈ l → (Lit.int .i64 n).wf = true:=by
 obtain ⟨d,h1⟩:=h.cell;exact Lay.list (enc:=encI) (ok:=fun n => (Lit.int .i64 n).wf = true) (fun r cs h => row_I h) h1
end Go.Sw
end
section
namespace Go.Sw
open Go.RowKit
theorem veq_RP (l:List RP):veq (lv encRP l) (lv encRP l) = true:=veq_lv fun p _ v hv => by
 simp [encRP] at hv;rcases hv with rfl | rfl | rfl | rfl | rfl <;> simp
theorem veq_rm (r:RMach):veq (rmV r) (rmV r) = true:=veq_agg fun v hv => by
 simp [rmCells] at hv;rcases hv with rfl | rfl | rfl | rfl | rfl | rfl | rfl | rfl | rfl
 ·simp
 ·simp
 ·simp
 ·simp
 ·simp
 ·simp
 ·simp
 ·simp
 ·exact veq_RP _
theorem ζt9 (k:Nat) {b:List Int} (hb:Byt b) {g w:Int} (hw:w = 0 ∨ w = 1 ∨ w = 2) (hl:b.length < 2 ^ 31) {m:Mach} (hm:m.ok) (h:machS b g w = some m) (s c:Int) (H:Heap) :
  R (T k) F.ζ1s [rmV (rmOf b g w m),.int .i64 s,.int .i64 c] H = .ok (.tuple #[encEA (stepS m s c),.bool (stepS m s c).isSome]) H:=by
 rw [ζif];have fl:Flat (.tuple #[encEA (stepS m s c),.bool (stepS m s c).isSome]):=.tupleL (.cons (ζj5 _) (.cons (.bool _) .nil));have no:¬ (0 ≤ s ∧ s < m.rows.length ∧ 0 ≤ c ∧ c < m.classes) → stepS m s c = none:=fun h => by unfold stepS; rw [if_neg h]
 have hx1:Ext H (H.push ⟨rmCells b m.classes (gU b 8 4) (gU b 12 4) m.rows.length m.ents.length w (b.drop (gU b 4 4).toNat) ((refReadS (b.drop (gU b 4 4).toNat) g 2).getD []),1,false⟩):=(Ext.refl H).push _;have hx:=hx1.push ⟨[.int .i64 0,.int .i64 0,.int .i64 0,.int .i64 0],1,false⟩;obtain ⟨r,hr⟩:∃ r,r = rmOf b g w m:=⟨_,rfl⟩
 have hent:=fun i h0 h6 e he H => ζmr k hb (g:=g) hw hl h (i:=i) h0 h6 (e:=e) he H;rw [← hr] at hent ⊢;have r1:r.states = m.rows.length:=by rw [hr]; rfl
 have r2:r.cl = m.classes:=by rw [hr]; rfl
 have r3:r.rowsAt = gU b 8 4:=by rw [hr]; rfl
 have r4:r.b = b:=by rw [hr]; rfl
 have hx1:Ext H (H.push ⟨rmCells r.b r.cl r.rowsAt r.entsAt r.states r.n r.words r.tb r.parts,1,false⟩):=(Ext.refl H).push _;have hx:=hx1.push ⟨[.int .i64 0,.int .i64 0,.int .i64 0,.int .i64 0],1,false⟩;have hcl:=hm.cl;by_cases h1:s < 0
 ·rw [no (by omega)] at fl ⊢;refine nrm_gc ⟨_,?_,hx⟩ fl.alive;simp -implicitDefEqProofs (disch:=omega) [ζ1s,h1,encEA]
 by_cases h2:s ≥ m.rows.length
 ·rw [no (by omega)] at fl ⊢;refine nrm_gc ⟨_,?_,hx⟩ fl.alive;simp -implicitDefEqProofs (disch:=omega) [ζ1s,h1,h2,r1,encEA]
 by_cases h3:c < 0
 ·rw [no (by omega)] at fl ⊢;refine nrm_gc ⟨_,?_,hx⟩ fl.alive;simp -implicitDefEqProofs (disch:=omega) [ζ1s,h1,h2,h3,r1,encEA]
 by_cases h4:c ≥ m.classes
 ·rw [no (by omega)] at fl ⊢;refine nrm_gc ⟨_,?_,hx⟩ fl.alive;simp -implicitDefEqProofs (disch:=omega) [ζ1s,h1,h2,h3,h4,r1,r2,encEA]
 obtain ⟨row,x,e,hrow,hxx,hx0,he,hs⟩:=ζk8 hm (s:=s) (c:=c) (by omega);rw [hs] at fl ⊢;obtain ⟨hj,_,_,hat⟩:=mach_at hb (by omega) h;have hpos:=hat s.toNat c.toNat row x hrow hxx;have hxm:=(hm.row row (List.mem_of_getElem? hrow)).2 x (List.mem_of_getElem? hxx);have hel:=hm.elen;have htwo:=hm.two;obtain ⟨s,rfl⟩:=Int.eq_ofNat_of_zero_le (show 0 ≤ s by omega);obtain ⟨c,rfl⟩:=Int.eq_ofNat_of_zero_le (show 0 ≤ c by omega);simp only [Int.toNat_natCast] at hpos;have hm0:0 ≤ (s:Int) * m.classes:=Int.mul_nonneg (by omega) (by omega);have hm1:(s:Int) * m.classes ≤ 65536 * 65535:=Int.mul_le_mul (by omega) (by omega) (by omega) (by omega);have hpe:gU b 8 4 + (m.classes * (s:Int) + (c:Nat)) * 2 = gU b 8 4 + 2 * ((s:Int) * m.classes + (c:Int)):=by rw [Int.mul_comm m.classes]; omega
 rw [hpe] at hpos;have hU:=fun j H' => refU_run k (H:=H') (Sl.lv H' 1 b) hb j 2 (by omega) (by omega);have hu:∀ H',R (T k) F.ζ2 [lv encB b,.int .i64 (gU b 8 4 + 2 * ((s:Int) * m.classes + (c:Int))),.int .i64 2] H' = .ok (.int .i64 x) H':=fun H' => by
  rw [hU]; unfold gU at hpos; rw [hpos]; rfl
 have he':=hent x hx0 (by omega) e he;have hq:=veq_rm r;refine nrm_gc ⟨(H.push ⟨rmCells r.b r.cl r.rowsAt r.entsAt r.states r.n r.words r.tb r.parts,1,false⟩).push ⟨encEn e,1,false⟩,?_,hx1.push _⟩ fl.alive;simp only [rmV,rmCells,r1,r2,r3,r4] at he' hq ⊢;simp -implicitDefEqProofs (disch:=omega) at he' hq ⊢;simp -implicitDefEqProofs (disch:=omega) [ζ1s,h1,h2,h3,h4,hu,he',hq,encEA]
end Go.Sw
end
section
namespace Go.Sw
open Go.RowKit
theorem ζo5 {p:Plan} (hp:p.ok) (w:Int) {rm:List Int} (hrm:Byt rm):Byt (planRoom p w rm):=by
 have tw:∀ l,Byt (twos l):=fun l => Byt.flat fun r hr => by obtain ⟨c,_,rfl⟩:=List.mem_map.1 hr; exact ζ1q _ _
 unfold planRoom;refine (ζ1q _ _).app ((ζ1q _ _).app ((ζ1q _ _).app ((ζ1q _ _).app (hrm.app (Byt.app ?_ (Byt.app ?_ ?_))))))
 ·unfold ofS;exact (((ζ1q _ _).app (ζ1q _ _)).app (ζ1q _ _)).app (tw _)
 ·exact Byt.flat fun r hr => by obtain ⟨c,_,rfl⟩:=List.mem_map.1 hr; exact tw _
 ·refine Byt.flat fun r hr => ?_;obtain ⟨e,_,rfl⟩:=List.mem_map.1 hr;unfold entB;refine (((ζ1q _ _).app (ζ1q _ _)).app ?_).app ?_
  ·split
   ·exact ζ1q _ _
   ·exact Byt.nil
  ·split
   ·exact ζ1q _ _
   ·exact Byt.nil
theorem ζjw {p:Plan} (hp:p.ok) (w:Int) {rm:List Int} (hrm:rm.length ≤ 1000) (h1:p.cls.length ≤ 1000) (h2:p.rows.length ≤ 1000) (h3:p.ents.length ≤ 1000):(planRoom p w rm).length ≤ 100000:=by
 have hN:=planN_eq p hp.2.2;have hofl:(ofS p.cls).length = 6 + p.cls.length * 2:=by unfold ofS; simp [twos_len]; omega
 have hrl:(rowsL (planN p) p.rows).length ≤ 1000 * 22:=by rw [ζmf]; exact Nat.mul_le_mul h2 (by omega)
 have hel:=ζiq w p.ents;unfold planRoom;simp;omega
theorem row_En {r:List Da} {cs:List Value} (h:LayRow [.int .i64,.int .i64,.int .i64,.int .i64] r cs):∃ p:En,cs = encEn p ∧ True:=by
 obtain ⟨_,v1,_,_,rfl,h1,h⟩:=h.head;obtain ⟨_,v2,_,_,rfl,h2,h⟩:=h.head;obtain ⟨_,v3,_,_,rfl,h3,h⟩:=h.head;obtain ⟨_,v4,_,_,rfl,h4,h⟩:=h.head;obtain rfl:=h.done;obtain ⟨a,rfl,_⟩:=h1.intv;obtain ⟨b,rfl,_⟩:=h2.intv;obtain ⟨c,rfl,_⟩:=h3.intv;obtain ⟨d,rfl,_⟩:=h4.intv;exact ⟨⟨a,b,c,d⟩,rfl,trivial⟩
theorem row_BR {r:List Da} {cs:List Value} (h:LayRow [.slice [.int .u8]] r cs):∃ b:List Int,cs = encBR b ∧ Byt b:=by
 obtain ⟨_,v1,_,_,rfl,h1,h⟩:=h.head;obtain rfl:=h.done;obtain ⟨b,rfl,hb⟩:=Lay.list (enc:=encB) (ok:=fun n => 0 ≤ n ∧ n < 256) (fun r cs h => row_B h) h1;exact ⟨b,rfl,hb⟩
end Go.Sw
end
section
namespace Go.Sw
open Go.RowKit
variable {σ:Type}
end Go.Sw
end
section
namespace Go.Sw
open Go.RowKit Go.Proofs
set_option maxRecDepth 20000 in
theorem ζpj (p:Addr) (b:Bool) (w:World) (hc:(w.alloc (.cells #[] 190)).cell? p = some (.bool b)) (hz:(w.alloc (.cells #[] 190)).frozen? p = false) :
  CallsD Prog 100 #[.pointer (some p)] (.panicking [{ v:=.iface 190 (.agg #[]),recovered:=false }]) w fun e u' w' =>
   e = .returned (.tuple #[]) ∧ u' = .panicking [{ v:=.iface 190 (.agg #[]),recovered:=true }] ∧ w' = (w.alloc (.cells #[] 190)).setCell p (.bool false):=by
 refine callsD_of_wpS Try.func100 rfl fun c₀ cs hu => ?_;apply wpS_seq;apply wpS_region;simp [wpOpsS,go_sem,recoverD,hu,Try.ntmps100,Exit.thenS];have hta:∀ w,(Instr.typeAssert (.iface 190 (.agg #[])) 20 190 true).run Prog w = .ok (.tuple #[.agg #[],.bool true]) w:=fun w => by kernel_rfl
 refine wpS_of_wp ?_
 go_wp2
 cases c₀;simp_all [bodyPostS,results,Try.results100]
theorem ζql (p:Addr) (w:World) :
  CallsD Prog 100 #[.pointer (some p)] .returning w fun e u' w' => e = .returned (.tuple #[]) ∧ u' = .returning ∧ w' = w:=by
 refine callsD_of_wpS Try.func100 rfl fun c₀ cs hu => ?_;apply wpS_seq;apply wpS_region;simp [wpOpsS,go_sem,recoverD,hu,Try.ntmps100,Exit.thenS];refine wpS_of_wp ?_
 go_wp2
 cases c₀;simp_all [bodyPostS,results,Try.results100]
set_option maxRecDepth 20000 in
theorem try_walk (g:FuncId) (first cap:Array Value) (w:World) (R:Ending → World → Prop)
  (hcf:(callFunc g (first ++ cap)).run Prog (w.alloc (.cells #[.bool false] 4)) = .ok (.enter g (first ++ cap)) (w.alloc (.cells #[.bool false] 4)))
  (hcall:Calls Prog g (first ++ cap) (w.alloc (.cells #[.bool false] 4)) fun e w' => match e with
   | .returned _ => w'.heap[w.heap.size]? = some (.cells #[.bool false] 4 (0,0)) ∧ R (.returned (.bool true)) (w'.setCell ⟨w.heap.size,0,none⟩ (.bool true))
   | .panicked chain => chain = [{ v:=.iface 190 (.agg #[]),recovered:=false }] ∧ w'.heap[w.heap.size]? = some (.cells #[.bool false] 4 (0,0)) ∧ R (.returned (.bool false)) ((w'.alloc (.cells #[] 190)).setCell ⟨w.heap.size,0,none⟩ (.bool false))
   | .outgrown => False) :
  Calls Prog 40 #[.func (.func g) first cap] w R:=by
 have hmf:∀ (fn:Fn) (first cap:Array Value) (w:World),(Instr.makeFunc fn first cap).run Prog w = .ok (.func fn first cap) w:=fun _ _ _ _ => rfl
 go_enter_defers Try.func40,Try.ntmps40
 go_wp2
 rename_i K2 hK2 K1 hK1;refine hcall.mono fun e w' he => ?_;cases e with
 | returned v =>
  obtain ⟨h1,h2⟩:=he;have hc:w'.cell? ⟨w.heap.size,0,none⟩ = some (.bool false):=by simp [World.cell?,h1]
  have hz:w'.frozen? ⟨w.heap.size,0,none⟩ = false:=by simp [World.frozen?,h1]
  apply hK1;apply hK2
  go_wp2
  have hc2:(w'.setCell ⟨w.heap.size,0,none⟩ (.bool true)).cell? ⟨w.heap.size,0,none⟩ = some (.bool true):=World.cell?_setCell_same _ _ _ hc;refine leaves_cons (f:=100) (args:=#[.pointer (some ⟨w.heap.size,0,none⟩)]) (by simp) (by simp [go_sem]) ?_;refine (ζql ⟨w.heap.size,0,none⟩ _).mono ?_;rintro e u' w'' ⟨rfl,rfl,rfl⟩;simp [Leaves,settle,results,Try.results40,go_sem,hc2];exact h2
 | panicked chain =>
  obtain ⟨h0,h1,h2⟩:=he;subst h0;have hlt:w.heap.size < w'.heap.size:=by
   rcases Nat.lt_or_ge w.heap.size w'.heap.size with h | h
   ·exact h
   ·rw [Array.getElem?_eq_none h] at h1; cases h1
  have h3:(w'.alloc (.cells #[] 190)).heap[w.heap.size]? = some (.cells #[.bool false] 4 (0,0)):=by
   rw [ζ2r _ _ _ hlt]; exact h1
  have hc:(w'.alloc (.cells #[] 190)).cell? ⟨w.heap.size,0,none⟩ = some (.bool false):=by simp only [World.cell?,h3]; rfl
  have hz:(w'.alloc (.cells #[] 190)).frozen? ⟨w.heap.size,0,none⟩ = false:=by simp [World.frozen?,h3]
  have hc2:((w'.alloc (.cells #[] 190)).setCell ⟨w.heap.size,0,none⟩ (.bool false)).cell? ⟨w.heap.size,0,none⟩ = some (.bool false):=World.cell?_setCell_same _ _ _ hc;show Leaves _ _ _ _ _ _ _;refine leaves_cons (f:=100) (args:=#[.pointer (some ⟨w.heap.size,0,none⟩)]) (by simp) (by simp [go_sem]) ?_;refine (ζpj ⟨w.heap.size,0,none⟩ false _ hc hz).mono ?_;rintro e u' w'' ⟨rfl,rfl,rfl⟩;simp [Leaves,settle,results,Try.results40,go_sem,hc2];exact h2
 | outgrown => exact he.elim
theorem try_is:SpIs Prog 40 (tryV 190):=try_of (bt:=4) Try.func40 rfl (by kernel_rfl) try_walk
end Go.Sw
end
section
namespace Go.Sw
open Go.RowKit
structure CTab.ok (t:CTab):Prop where
 m:t.m.ok
 subs:∀ x,x ∈ t.subs → (∀ p,p ∈ x.2 → p.ok) ∧ risesS x.2 = true ∧ x.2.length < 2 ^ 31
 has:∀ e,e ∈ t.m.ents → (e.a = 65535 ∨ e.a < t.subs.length) ∧ (e.b = 65535 ∨ e.b < t.subs.length)
end Go.Sw
end
section
namespace Go.Sw
open Go.RowKit
end Go.Sw
end
section
namespace Go.Sw
open Go.RowKit
variable {σ:Type}
theorem runD_inv (m:Mach) (hm:m.ok) (ln:σ → List Gl) (f:σ → Int → En → σ × Int × Int) (P:σ → Prop) (hf:∀ s i e,P s → 0 ≤ i → e ∈ m.ents → P (f s i e).1) (most:Int) :
  ∀ (n:Nat) (x:σ × Drv),P x.1 → 0 ≤ x.2.pl → 0 ≤ x.2.st → x.2.st < m.rows.length → P (runD m ln f most n x).2.2
 | 0,x,h,_,_,_ => h
 | n + 1,x,h,hp,h0,h1 => by
  have hmem:=entS_mem hm (ln x.1) x.2 ⟨h0,h1⟩;have hent:=hm.ent _ hmem;have hP:P (stepD m ln f x).1.1:=by unfold stepD; split <;> exact hf _ _ _ h hp hmem
  have hst:0 ≤ (stepD m ln f x).1.2.st ∧ (stepD m ln f x).1.2.st < m.rows.length:=by unfold stepD; split <;> exact ⟨hent.1,hent.2.1⟩
  have hpl:=stepD_pl m ln f x;unfold runD;split
  ·split
   ·exact hP
   ·split
    ·exact hP
    ·exact runD_inv m hm ln f P hf most n _ hP hpl hst.1 hst.2
  ·exact h
end Go.Sw
end
section
namespace Go.Sw
open Go.RowKit
theorem ζ8u (p:Plan) (w:Int) (rm rm':List Int) (h:rm.length = rm'.length):(planRoom p w rm).length = (planRoom p w rm').length:=by
 unfold planRoom;simp [h]
end Go.Sw
end
section
namespace Go.Sw
open Go.RowKit
theorem ζrf (p:Plan) (w:Int) (n:Nat):∃ hd tl:List Int,hd.length = 16 ∧ ∀ rm:List Int,rm.length = n → planRoom p w rm = hd ++ (rm ++ tl):=by
 refine ⟨bytesOf (planN p:Int) 4 ++ (bytesOf (16 + n:Int) 4 ++ (bytesOf (16 + n + (ofS p.cls).length:Int) 4 ++ bytesOf (16 + n + (ofS p.cls).length + (rowsL (planN p) p.rows).length:Int) 4)),ofS p.cls ++ (rowsL (planN p) p.rows ++ entsB w p.ents),by simp,fun rm h => ?_⟩;unfold planRoom;rw [h];simp only [List.append_assoc]
theorem twos_byt (l:List Int):Byt (twos l):=Byt.flat fun r hr => by
 obtain ⟨x,_,rfl⟩:=List.mem_map.1 hr;exact ζ1q _ _
end Go.Sw
end
section
namespace Go.Sw
open Go.RowKit
end Go.Sw
end
section
namespace Go.Sw
open Go.RowKit
variable {σ:Type}
end Go.Sw
end
section
set_option maxRecDepth 100000
set_option linter.unusedVariables false
namespace Go.Sw
noncomputable section
end
end Go.Sw
end
section
set_option maxRecDepth 100000
set_option linter.unusedVariables false
namespace Go.Sw
noncomputable section
end
end Go.Sw
end
section
namespace Go.Sw
structure Pl where
 adv:Int
 x:Int
 y:Int
 deriving DecidableEq
def Pl.ok (p:Pl):Prop:=(-2147483648 ≤ p.adv ∧ p.adv ≤ 2147483647) ∧ (-2147483648 ≤ p.x ∧ p.x ≤ 2147483647) ∧ (-2147483648 ≤ p.y ∧ p.y ≤ 2147483647)
end Go.Sw
end
section
namespace Go.Sw
end Go.Sw
end
section
namespace Go.Sw
end Go.Sw
end
section
namespace Go.Sw
end Go.Sw
end
section
namespace Go.Sw
open Go.RowKit
end Go.Sw
end
section
namespace Go.Sw
open Go.RowKit
end Go.Sw
end
section
namespace Go.Sw
open Go.RowKit
def oddB (vs:List Int) (a:Int):Bool:=(List.range (vs.length / 2)).any fun i => decide (a ≤ (i:Int) ∧ gU vs (2 * (i:Int)) 2 % 2 = 1)
structure STab where
 m:Mach
 vals:List Int
structure STab.ok (t:STab):Prop where
 m:t.m.ok
 byt:Byt t.vals
 len:t.vals.length < 2 ^ 31
 has:∀ e,e ∈ t.m.ents → e.a = 65535 ∨ oddB t.vals e.a = true
end Go.Sw
end
section
namespace Go.Sw
open Go.RowKit
end Go.Sw
end
section
namespace Go.Sw
open Go.RowKit
theorem and_pow (n k:Nat):n &&& 2 ^ k = if n.testBit k then 2 ^ k else 0:=by
 apply Nat.eq_of_testBit_eq;intro i;rw [Nat.testBit_and,Nat.testBit_two_pow];by_cases h:k = i
 ·subst h;cases hb:n.testBit k
  ·simp
  ·simp
 ·cases hb:n.testBit k
  ·simp [h]
  ·simp only [h,decide_false,Bool.and_false,if_true,Nat.testBit_two_pow]
theorem bin_andP (P:Program) (t:TypeId) (H:Heap) (k:Nat) (hk:k < 62) {a:Int} (h0:0 ≤ a) (h1:a < 2 ^ 62) (m:Int) (hm:m = ((2 ^ k:Nat):Int)) :
  binR P .and t (.int .i64 a) (.int .i64 m) H = .ok (.int .i64 (if a / m % 2 = 1 then m else 0)) H:=by
 obtain ⟨n,rfl⟩:=Int.eq_ofNat_of_zero_le h0;have hp:2 ^ k ≤ 2 ^ 61:=Nat.pow_le_pow_right (by decide) (by omega);have hp0:0 < 2 ^ k:=Nat.two_pow_pos k;have e:(BitVec.ofInt 64 (n:Int) &&& BitVec.ofInt 64 m).toNat = if n.testBit k then 2 ^ k else 0:=by
  rw [BitVec.toNat_and,BitVec.toNat_ofInt,BitVec.toNat_ofInt,hm];rw [show (((n:Int)) % ((2 ^ 64:Nat):Int)).toNat = n by omega,show ((((2 ^ k:Nat):Int)) % ((2 ^ 64:Nat):Int)).toNat = 2 ^ k by omega,and_pow]
 have e1:binV P .and t (.int .i64 (n:Int)) (.int .i64 m) = some (.int .i64 (IntKind.i64.wrap (BitVec.ofInt 64 (n:Int) &&& BitVec.ofInt 64 m).toNat)):=rfl;unfold binR;rw [e1,e,Nat.testBit_eq_decide_div_mod_eq];have hd:(n:Int) / m = ((n / 2 ^ k:Nat):Int):=by rw [hm,Int.natCast_ediv]
 rw [hd];by_cases h:n / 2 ^ k % 2 = 1
 ·rw [decide_eq_true h,if_pos rfl,if_pos (by omega),wrap_i64 (by omega) (by omega),hm]; rfl
 ·rw [decide_eq_false h,if_neg (by simp),if_neg (by omega)]; rfl
theorem and13 (P:Program) (t:TypeId) (H:Heap) {a:Int} (h0:0 ≤ a) (h1:a < 65536):binR P .and t (.int .i64 a) (.int .i64 8192) H = .ok (.int .i64 (if a / 8192 % 2 = 1 then 8192 else 0)) H:=bin_andP P t H 13 (by decide) h0 (by omega) 8192 rfl
theorem and31 (P:Program) (t:TypeId) (H:Heap) {a:Int} (h0:0 ≤ a) (h1:a < 4294967296):binR P .and t (.int .i64 a) (.int .i64 2147483648) H = .ok (.int .i64 (if a ≥ 2147483648 then 2147483648 else 0)) H:=by
 rw [bin_andP P t H 31 (by decide) h0 (by omega) 2147483648 rfl];by_cases h:a ≥ 2147483648
 ·rw [if_pos h,if_pos (by omega)]
 ·rw [if_neg h,if_neg (by omega)]
end Go.Sw
end
section
namespace Go.Sw
open Go.RowKit
theorem Star.same {H0 H:Heap} {L:List It} (h:Star H0 H L) (i:Nat) {x:It} (hi:L[i]? = some x) (y:It) (hy:y.P H) (ho:∀ b,b ∈ y.o → b ∈ x.o):Star H0 H (L.set i y) :=
 h.step i hi (Nat.le_refl _) (fun _ _ _ => rfl) y hy fun b hb => .inl (ho b hb)
end Go.Sw
end
section
namespace Go.Sw
open Go.RowKit
end Go.Sw
end
section
namespace Go.Sw
open Go.RowKit
theorem ζs0 (n:Nat):n &&& 2 ^ 15 = if n.testBit 15 then 2 ^ 15 else 0:=by
 apply Nat.eq_of_testBit_eq;intro i;rw [Nat.testBit_and,Nat.testBit_two_pow];by_cases h:15 = i
 ·subst h;cases hb:n.testBit 15 <;> simp <;> decide
 ·cases hb:n.testBit 15
  ·simp [h]
  ·simp only [h,decide_false,Bool.and_false,if_true,Nat.testBit_two_pow]
theorem and15 (P:Program) (t:TypeId) (H:Heap) {a:Int} (h0:0 ≤ a) (h1:a < 65536):binR P .and t (.int .i64 a) (.int .i64 32768) H = .ok (.int .i64 (if a ≥ 32768 then 32768 else 0)) H:=by
 have e:(BitVec.ofInt 64 a &&& BitVec.ofInt 64 32768).toNat = (if a ≥ 32768 then 32768 else 0):=by
  rw [BitVec.toNat_and,BitVec.toNat_ofInt,BitVec.toNat_ofInt];rw [show ((32768:Int) % ((2 ^ 64:Nat):Int)).toNat = 2 ^ 15 from by decide,ζs0,Nat.testBit_eq_decide_div_mod_eq];obtain ⟨n,rfl⟩:=Int.eq_ofNat_of_zero_le h0;rw [show (((n:Int)) % ((2 ^ 64:Nat):Int)).toNat = n by omega];by_cases h:(n:Int) ≥ 32768
  ·rw [if_pos h,decide_eq_true (show n / 2 ^ 15 % 2 = 1 by omega)]; rfl
  ·rw [if_neg h,decide_eq_false (show ¬ n / 2 ^ 15 % 2 = 1 by omega)]; rfl
 have e1:binV P .and t (.int .i64 a) (.int .i64 32768) = some (.int .i64 (IntKind.i64.wrap (BitVec.ofInt 64 a &&& BitVec.ofInt 64 32768).toNat)):=rfl;unfold binR;rw [e1,e];by_cases h:a ≥ 32768
 ·simp [h]
 ·simp [h]
end Go.Sw
end
section
namespace Go.Sw
open Go.RowKit
theorem plainNew (k:Nat) (f:Fn) (a b:Array Value) (H:Heap):R (T k) F.ζ5v [.func f a b] H = .ok (.func (.func F.ζ25) #[] #[ptrV H.n]) (H.push ⟨[.func f a b],1,false⟩):=by
 rw [ζmq];have e:ζ5v k (R (T k)) (.func f a b) H = .ok (.func (.func F.ζ25) #[] #[ptrV H.n]) (H.push ⟨[.func f a b],1,false⟩):=by
  simp -implicitDefEqProofs [ζ5v]
 rw [e];have dead:¬ Alive H (.func (.func F.ζ25) #[] #[ptrV H.n]):=fun h => by
  cases h with
  | func fn xs ys h1 h2 =>
   have:=h2 0 (ptrV H.n) rfl;cases this with
   | ptr b off k hg => have:=Heap.get_lt hg; omega
 unfold nrm;exact if_neg fun hc => dead hc.2
end Go.Sw
end
section
namespace Go.Sw
open Go.RowKit
theorem veq_Ens (l:List En):veq (lv encEn l) (lv encEn l) = true:=veq_lv fun p _ v hv => by
 simp [encEn] at hv;rcases hv with rfl | rfl | rfl | rfl <;> simp
theorem veq_Is (l:List Int):veq (lv encI l) (lv encI l) = true:=veq_lv fun p _ v hv => by
 simp [encI] at hv;subst hv; simp
theorem veq_Rows (l:List (List Int)):veq (lv encRow l) (lv encRow l) = true:=veq_lv fun p _ v hv => by
 simp [encRow] at hv;subst hv; exact veq_Is p
theorem veq_mach (m:Mach):veq (machV m) (machV m) = true:=veq_boxV (l:=[.int .i64 m.classes,tabV m.tab,lv encRow m.rows,lv encEn m.ents]) fun v hv => by
 simp at hv;rcases hv with rfl | rfl | rfl | rfl
 ·simp
 ·exact veq_tab _
 ·exact veq_Rows _
 ·exact veq_Ens _
end Go.Sw
end
section
namespace Go.Sw
open Go.RowKit
theorem Star.perm {H0 H:Heap} {L L':List It} (h:Star H0 H L) (hp:L.Perm L'):Star H0 H L':=by
 have hpw:L.Pairwise fun x y => ∀ b,b ∈ x.o → b ∉ y.o:=List.pairwise_iff_getElem.2 fun i j hi hj hij b hb => h.2.2 i j _ _ (by omega) (List.getElem?_eq_getElem hi) (List.getElem?_eq_getElem hj) b hb;have hpw':=(hp.pairwise_iff (fun {x y} hxy b hb hb2 => hxy b hb2 hb)).1 hpw;refine ⟨h.1,fun i x hx => ?_,fun i j x y hij hx hy b hb => ?_⟩
 ·obtain ⟨j,hj⟩:=List.getElem?_of_mem (hp.mem_iff.2 (List.mem_of_getElem? hx));exact h.2.1 j x hj
 ·obtain ⟨hi,rfl⟩:=List.getElem?_eq_some_iff.1 hx;obtain ⟨hj,rfl⟩:=List.getElem?_eq_some_iff.1 hy;rcases Nat.lt_or_gt_of_ne hij with hlt | hgt
  ·exact List.pairwise_iff_getElem.1 hpw' i j hi hj hlt b hb
  ·exact fun hb2 => List.pairwise_iff_getElem.1 hpw' j i hj hi hgt b hb2 hb
end Go.Sw
end
section
namespace Go.Sw
open Go.RowKit
end Go.Sw
end
section
namespace Go.Sw
open Go.RowKit
def lastB (vs:List Int) (a:Int):Bool:=(List.range (vs.length / 4)).any fun i => decide (a ≤ (i:Int) ∧ gU vs (4 * (i:Int)) 4 ≥ 2147483648)
theorem ζ53 {vs:List Int} {a:Int}:lastB vs a = true ↔ ∃ i:Nat,a ≤ i ∧ 4 * i + 4 ≤ vs.length ∧ gU vs (4 * (i:Int)) 4 ≥ 2147483648:=by
 unfold lastB;rw [List.any_eq_true];constructor
 ·rintro ⟨i,hi,h⟩;have:=of_decide_eq_true h;have hi:=List.mem_range.1 hi;exact ⟨i,this.1,by omega,this.2⟩
 ·rintro ⟨i,h1,h2,h3⟩;exact ⟨i,List.mem_range.2 (by omega),decide_eq_true ⟨h1,h3⟩⟩
structure LTab where
 m:Mach
 acts:List Int
 comps:List Int
 ligs:List Int
def entLast (vs:List Int) (e:En):Bool:=decide (¬ e.flags / 8192 % 2 = 1) || lastB vs e.a
def listAt (b:List Int) (i:Int):Option (List Int):=(uS b i 4).bind (restS b)
def ligaS (b:List Int) (g:Int):Option LTab:=(machS b g 1).bind fun m => (listAt b 16).bind fun a => (listAt b 20).bind fun c => (listAt b 24).bind fun l => if m.ents.all (entLast a) then some ⟨m,a,c,l⟩ else none
theorem ζiu {b:List Int} (hb:Byt b) {i:Int} {l:List Int} (h:listAt b i = some l):Byt l ∧ l.length ≤ b.length:=by
 unfold listAt at h;obtain ⟨p,hp,h⟩:=Option.bind_eq_some_iff.1 h;exact ⟨hb.rest h,ζ8v h⟩
structure LTab.ok (t:LTab):Prop where
 m:t.m.ok
 byt:Byt t.acts ∧ Byt t.comps ∧ Byt t.ligs
 len:t.acts.length < 2 ^ 31 ∧ t.comps.length < 2 ^ 31 ∧ t.ligs.length < 2 ^ 31
 has:∀ e,e ∈ t.m.ents → ¬ e.flags / 8192 % 2 = 1 ∨ lastB t.acts e.a = true
theorem ligaS_ok {b:List Int} (hb:Byt b) {g:Int} (h1:1 ≤ g) (h2:g ≤ 65535) (hl:b.length < 2 ^ 31) {t:LTab} (h:ligaS b g = some t):t.ok:=by
 unfold ligaS at h;obtain ⟨m,hm,h⟩:=Option.bind_eq_some_iff.1 h;obtain ⟨a,ha,h⟩:=Option.bind_eq_some_iff.1 h;obtain ⟨c,hc,h⟩:=Option.bind_eq_some_iff.1 h;obtain ⟨l,hL,h⟩:=Option.bind_eq_some_iff.1 h;split at h
 ·rename_i hall;injection h with h;subst h;have a1:=ζiu hb ha;have c1:=ζiu hb hc;have l1:=ζiu hb hL;refine ⟨machS_ok hb h1 h2 (by omega) hm,⟨a1.1,c1.1,l1.1⟩,⟨by dsimp only; omega,by dsimp only; omega,by dsimp only; omega⟩,fun e he => ?_⟩;have:=List.all_eq_true.1 hall e he;unfold entLast at this;rw [Bool.or_eq_true,decide_eq_true_eq] at this;exact this
 ·cases h
def offS (a:Int):Int:=if a % 1073741824 ≥ 536870912 then a % 1073741824 - 1073741824 else a % 1073741824
def entryS (v:List Int) (i:Int):Option Int:=if 0 ≤ i ∧ i < (v.length:Int) / 2 then some (gU v (2 * i) 2) else none
def pushP (i:Int) (ps:List Int):List Int:=if ps.head? = some i then ps else (i :: ps).take 64
def join1 (i:Int) (l:List Gl) (k:Int):List Gl:=match atG l k with | some h => if 0 ≤ i ∧ i < l.length then l.modify i.toNat fun g => ⟨g.id,min g.cl h.cl⟩ else l | none => l
def joinG (l:List Gl) (i:Int) (ks:List Int):List Gl:=ks.foldl (join1 i) l
def delG (l:List Gl) (ks:List Int):List Gl:=ks.foldl (fun l k => setG l k 65535) l
theorem ζsm (i:Int) (l:List Gl) (k:Int):(join1 i l k).length = l.length:=by
 unfold join1;split
 ·split <;> simp
 ·rfl
theorem ζgp (i:Int):∀ (ks:List Int) (l:List Gl),(joinG l i ks).length = l.length
 | [],_ => rfl
 | k :: ks,l => by
  have:=ζgp i ks (join1 i l k);unfold joinG at this ⊢;rw [List.foldl_cons,this,ζsm]
theorem ζll (l:List Gl) (i id:Int):(setG l i id).length = l.length:=by unfold setG; split <;> simp
theorem delG_len:∀ (ks:List Int) (l:List Gl),(delG l ks).length = l.length
 | [],_ => rfl
 | k :: ks,l => by
  have:=delG_len ks (setG l k 65535);unfold delG at this ⊢;rw [List.foldl_cons,this,ζll]
def storeG (l:List Gl) (i id:Int) (gone:List Int):List Gl:=delG (joinG (setG l i id) i gone) gone
theorem ζk9 (l:List Gl) (i id:Int) (gone:List Int):(storeG l i id gone).length = l.length:=by unfold storeG; rw [delG_len,ζgp,ζll]
def perfS (t:LTab):List Int → Int → Int → List Int → List Gl → List Gl × List Int
 | [],_,_,_,l => (l,[])
 | i :: ps,a,sum,gone,l =>
  match entryS t.comps (IntKind.i64.wrap (((atG l i).getD ⟨0,0⟩).id + offS (gU t.acts (4 * a) 4))) with
  | none => (l,ps)
  | some part =>
   if gU t.acts (4 * a) 4 ≥ 1073741824 then
    match entryS t.ligs (sum + part) with
    | none => (l,ps)
    | some id => if gU t.acts (4 * a) 4 ≥ 2147483648 then (storeG l i id gone,pushP i ps) else perfS t ps (a + 1) (sum + part) [i] (storeG l i id gone)
   else perfS t ps (a + 1) (sum + part) (gone ++ [i]) l
def doLi (t:LTab) (s:List Gl × List Int) (i:Int) (e:En):List Gl × List Int :=
 let k:=if e.flags ≥ 32768 ∧ i < (s.1.length:Int) then pushP i s.2 else s.2
 if e.flags / 8192 % 2 = 1 then perfS t k e.a 0 [] s.1 else (s.1,k)
theorem ζmc (t:LTab):∀ (ps:List Int) (a sum:Int) (gone:List Int) (l:List Gl),(perfS t ps a sum gone l).1.length = l.length
 | [],_,_,_,_ => rfl
 | i :: ps,a,sum,gone,l => by
  unfold perfS;split
  ·rfl
  ·split
   ·split
    ·rfl
    ·split
     ·exact ζk9 _ _ _ _
     ·rw [ζmc t ps,ζk9]
   ·exact ζmc t ps _ _ _ _
theorem doLi_len (t:LTab) (s:List Gl × List Int) (i:Int) (e:En):(doLi t s i e).1.length = s.1.length:=by
 unfold doLi;dsimp only;split
 ·exact ζmc _ _ _ _ _ _
 ·rfl
def KeptOk (n:Int) (ps:List Int):Prop:=ps.length ≤ 64 ∧ ∀ x,x ∈ ps → 0 ≤ x ∧ x < n
theorem pushP_ok {n i:Int} {ps:List Int} (h:KeptOk n ps) (hi:0 ≤ i ∧ i < n):KeptOk n (pushP i ps):=by
 unfold pushP;split
 ·exact h
 ·refine ⟨by rw [List.length_take]; omega,fun x hx => ?_⟩;rcases List.mem_cons.1 (List.mem_of_mem_take hx) with rfl | hx
  ·exact hi
  ·exact h.2 x hx
theorem KeptOk.tail {n i:Int} {ps:List Int} (h:KeptOk n (i :: ps)):KeptOk n ps:=⟨by have:=h.1; simp at this; omega,fun x hx => h.2 x (by simp [hx])⟩
theorem ζju (t:LTab) {n:Int}:∀ (ps:List Int) (a sum:Int) (gone:List Int) (l:List Gl),KeptOk n ps → KeptOk n (perfS t ps a sum gone l).2
 | [],_,_,_,_,h => h
 | i :: ps,a,sum,gone,l,h => by
  unfold perfS;split
  ·exact h.tail
  ·split
   ·split
    ·exact h.tail
    ·split
     ·exact pushP_ok h.tail (h.2 i (by simp))
     ·exact ζju t ps _ _ _ _ h.tail
   ·exact ζju t ps _ _ _ _ h.tail
theorem ζoi (t:LTab) {n:Int} {s:List Gl × List Int} (hn:(s.1.length:Int) = n) (h:KeptOk n s.2) {i:Int} (hi:0 ≤ i) (e:En):KeptOk n (doLi t s i e).2:=by
 have k1:KeptOk n (if e.flags ≥ 32768 ∧ i < (s.1.length:Int) then pushP i s.2 else s.2):=by
  split
  ·rename_i hc; exact pushP_ok h ⟨hi,by omega⟩
  ·exact h
 unfold doLi;dsimp only;split
 ·exact ζju t _ _ _ _ _ k1
 ·exact k1
end Go.Sw
end
section
namespace Go.Sw
open Go.RowKit
def runLr (t:LTab) (l:List Gl):Int × Int × (List Gl × List Int) :=
 runD t.m (fun s:List Gl × List Int => s.1) (fun s i e => (doLi t s i e,i,i + 1)) (2 * (l.length:Int) + 128) (2 * l.length + 128) ((l,[]),⟨0,0,0,0⟩)
def runL (t:LTab) (l:List Gl):List Gl × Int:=((runLr t l).2.2.1,(runLr t l).2.1)
set_option maxRecDepth 10000 in
theorem runL_inv (t:LTab) (ht:t.m.ok) (l:List Gl) (P:List Gl × List Int → Prop) (h0:P (l,[])) (hs:∀ s i e,P s → 0 ≤ i → e ∈ t.m.ents → P (doLi t s i e)):P (runLr t l).2.2:=by
 unfold runLr;exact runD_inv t.m ht (fun s:List Gl × List Int => s.1) (fun s i e => (doLi t s i e,i,i + 1)) P (fun s i e h1 h2 h3 => hs s i e h1 h2 h3) (2 * (l.length:Int) + 128) (2 * l.length + 128) ((l,[]),⟨0,0,0,0⟩) h0 (Int.le_refl _) (Int.le_refl _) (by have:=ht.two; dsimp only; omega)
set_option maxRecDepth 10000 in
theorem runL_len (t:LTab) (ht:t.m.ok) (l:List Gl):(runL t l).1.length = l.length :=
 runL_inv t ht l (fun s => s.1.length = l.length) rfl fun s i e h _ _ => (doLi_len t s i e).trans h
def fours (l:List Int):List Int:=(l.map fun c => bytesOf c 4).flatten
theorem ζgl (l:List Int):(fours l).length = l.length * 4:=flat_len (z:=4) (fun r hr => by obtain ⟨p,_,rfl⟩:=List.mem_map.1 hr; simp) |>.trans (by simp)
theorem ζqw (l:List Int) (x:Int):fours (l ++ [x]) = fours l ++ bytesOf x 4:=by simp [fours]
theorem ζsh (l:List Int):Byt (fours l):=Byt.flat fun r hr => by
 obtain ⟨x,_,rfl⟩:=List.mem_map.1 hr;exact ζ1q _ _
end Go.Sw
end
section
namespace Go.Sw
open Go.RowKit
def ligN (p:Plan):Nat:=(planRoom p 1 (List.replicate 12 0)).length
def ligRm (N a c:Nat):List Int:=bytesOf (N:Int) 4 ++ (bytesOf ((N + 4 * a:Nat):Int) 4 ++ bytesOf ((N + 4 * a + 2 * c:Nat):Int) 4)
def ligB (p:Plan) (a c l:List Int):List Int:=planRoom p 1 (ligRm (ligN p) a.length c.length) ++ (fours a ++ (twos c ++ twos l))
theorem ζm2 (N a c:Nat):(ligRm N a c).length = 12:=by simp [ligRm]
theorem ligN_eq (p:Plan) (N a c:Nat):(planRoom p 1 (ligRm N a c)).length = ligN p:=ζ8u p 1 _ _ (by rw [ζm2]; simp)
theorem ligN_le {p:Plan} (hp:p.ok) (h1:p.cls.length ≤ 1000) (h2:p.rows.length ≤ 1000) (h3:p.ents.length ≤ 1000):ligN p ≤ 100000:=ζjw hp 1 (rm:=List.replicate 12 0) (by simp) h1 h2 h3
theorem ligB_byt {p:Plan} (hp:p.ok) (a c l:List Int):Byt (ligB p a c l):=by
 refine (ζo5 hp 1 ?_).app ((ζsh a).app ((twos_byt c).app (twos_byt l)));exact (ζ1q _ _).app ((ζ1q _ _).app (ζ1q _ _))
theorem ligB_len {p:Plan} (hp:p.ok) {a c l:List Int} (h1:p.cls.length ≤ 1000) (h2:p.rows.length ≤ 1000) (h3:p.ents.length ≤ 1000) (h4:a.length ≤ 1000) (h5:c.length ≤ 1000) (h6:l.length ≤ 1000):(ligB p a c l).length ≤ 108000:=by
 have:=ligN_le hp h1 h2 h3;unfold ligB;rw [List.length_append,List.length_append,List.length_append,ligN_eq,ζgl,twos_len,twos_len];omega
end Go.Sw
end
