/-
  Functions' forms, and what is proved of them, part 13.
-/
import Derived.Test.YtanfippcmdialaaSwW10
import Derived.Test.YtanfippcmdialaaSwW8
import Derived.Test.YtanfippcmdialaaSwW12
import Derived.Test.YtanfippcmdialaaSwW2
import Derived.Test.YtanfippcmdialaaSwW11
import Derived.Test.YtanfippcmdialaaSwW1
set_option linter.unusedSimpArgs false
set_option linter.unusedVariables false
set_option linter.unusedSectionVars false
section
namespace Go.Sw
open Go.RowKit
abbrev r17C (r:RMach) (a c l:List Int):List Value:=[lv encB r.b,.int .i64 r.cl,.int .i64 r.rowsAt,.int .i64 r.entsAt,.int .i64 r.states,.int .i64 r.n,.int .i64 r.words,lv encB r.tb,lv encRP r.parts,lv encB a,lv encB c,lv encB l]
abbrev zC12:List Value:=[.slice none 0 0,.int .i64 0,.int .i64 0,.int .i64 0,.int .i64 0,.int .i64 0,.int .i64 0,.slice none 0 0,.slice none 0 0,.slice none 0 0,.slice none 0 0,.slice none 0 0]
theorem ζes (k:Nat) (b:List Int) (g:Int) (H:Heap):R (T k) F.ζ9 [lv encB b,.int .i64 g] H = nrm .fz H (ζ9 k (R (T k)) (lv encB b) (.int .i64 g) H) :=
 ζik k _ _ _ _ H [] (ζ7y fun v hv => by simp at hv; rcases hv with rfl | rfl <;> trivial) rfl
theorem ζmx (k:Nat) (x:Int) (H:Heap):R (T k) F.ζ1h [.int .i64 x] H = .ok (.bool (decide (x ≥ 2147483648))) H:=by
 rw [ζil];refine nrm_gc ⟨H,?_,Ext.refl H⟩ (.bool _);simp -implicitDefEqProofs [ζ1h]
theorem r17_l3 (k:Nat) {vs:List Int} (hb:Byt vs) (hl:vs.length < 2 ^ 31) {p4 p8:Nat} (a:Int) (ha:0 ≤ a ∧ a < 65536) (a6 a13:Value) {z:List Value} (hz:z.length = 12) {r:RMach} {c l:List Int} {H:Heap} (hp:H.get p4 = some ⟨z,1,false⟩) (h8:H.get p8 = some ⟨r17C r vs c l,1,false⟩) :
  (∃ zz,loopN (ζ3f k (R (T k))) loopFuel [(4,ptrV p4),(6,a6),(8,ptrV p8),(13,a13),(15,.int .i64 a)] H = .ok (.exit 4,[(4,ptrV p4),(6,a6),(8,ptrV p8),(13,a13),(15,zz),(84,.bool false)]) H ∧ lastB vs a = true) ∨
  (loopN (ζ3f k (R (T k))) loopFuel [(4,ptrV p4),(6,a6),(8,ptrV p8),(13,a13),(15,.int .i64 a)] H = .ok (.ret,[(4,ptrV p4),(5,.bool false)]) (H.set p4 (some ⟨zC12,1,false⟩)) ∧ lastB vs a = false):=by
 have hdz:z.drop 12 = []:=List.drop_eq_nil_of_le (by omega);have hU:=fun i H' => refU_run k (H:=H') (Sl.lv H' 1 vs) hb i 4 (by omega) (by omega);have hla:=fun x H' => ζmx k x H'
 obtain ⟨xx,e',H1,hr1,hQ⟩:=loop_up (body:=ζ3f k (R (T k))) vs.length
  (fun j e' H' => e' = [(4,ptrV p4),(6,a6),(8,ptrV p8),(13,a13),(15,.int .i64 (a + j))] ∧ H' = H ∧ ∀ i:Nat,a ≤ i → (i:Int) < a + j → ¬ gU vs (4 * (i:Int)) 4 ≥ 2147483648)
  (fun xx e' H' => (xx = .exit 4 ∧ (∃ w,e' = [(4,ptrV p4),(6,a6),(8,ptrV p8),(13,a13),(15,w),(84,.bool false)]) ∧ H' = H ∧ lastB vs a = true) ∨ (xx = .ret ∧ e' = [(4,ptrV p4),(5,.bool false)] ∧ H' = H.set p4 (some ⟨zC12,1,false⟩) ∧ lastB vs a = false))
  (e0:=[(4,ptrV p4),(6,a6),(8,ptrV p8),(13,a13),(15,.int .i64 a)]) (H0:=H) ⟨by simp,rfl,fun i i1 i2 => by omega⟩ (by omega)
  (fun j e' H' hj ⟨he',hH,hno⟩ => by
   subst he' hH;cases hu:uS vs (4 * (a + j)) 4 with
   | none =>
    have h16:=hU (4 * (a + j)) H';rw [hu] at h16;have h16:R (T k) F.ζ2 [lv encB vs,.int .i64 (4 * (a + j)),.int .i64 4] H' = .ok (.int .i64 (-1)) H':=h16;refine .inr ⟨.ret,_,_,?_,by simp,.inr ⟨rfl,rfl,rfl,?_⟩⟩
    ·rw [ζ35];simp -implicitDefEqProofs (disch:=omega) [h8,h16,hla,hp,hz,hdz]
    ·rw [Bool.eq_false_iff];intro ho;obtain ⟨i,i1,i2,i3⟩:=ζ53.1 ho;by_cases hij:(i:Int) < a + j
     ·exact hno i i1 hij i3
     ·unfold uS pieceS at hu;rw [if_pos ⟨by omega,by omega,by omega,by omega⟩] at hu;simp at hu
   | some x =>
    have h16:=hU (4 * (a + j)) H';rw [hu] at h16;have h16:R (T k) F.ζ2 [lv encB vs,.int .i64 (4 * (a + j)),.int .i64 4] H' = .ok (.int .i64 x) H':=h16;have hg:=gU_some hu;have hxb:=uS_four hb hu;have hnn:¬ x < 0:=by omega
    by_cases d:x ≥ 2147483648
    ·refine .inr ⟨.exit 4,_,H',?_,by simp,.inl ⟨rfl,⟨.int .i64 (a + j),rfl⟩,rfl,?_⟩⟩
     ·rw [ζ35];simp -implicitDefEqProofs (disch:=omega) [h8,h16,hla,d]
     ·refine ζ53.2 ⟨(a + j).toNat,by omega,?_,?_⟩
      ·have:=uS_fits hu;omega
      ·rw [show (((a + j).toNat:Nat):Int) = a + j by omega,hg];exact d
    ·have hj1:a + ((j + 1:Nat):Int) = a + j + 1:=by omega
     refine .inl ⟨_,H',?_,rfl,rfl,fun i i1 i2 => ?_⟩
     ·rw [ζ35,hj1];simp -implicitDefEqProofs (disch:=omega) [h8,h16,hla,d,hnn]
     ·by_cases hij:(i:Int) < a + j
      ·exact hno i i1 hij
      ·rw [show (i:Int) = a + j by omega,hg];exact d)
  (fun e' H' ⟨he',hH,hno⟩ => by
   subst he' hH;have hu:uS vs (4 * (a + vs.length)) 4 = none:=by
    cases h:uS vs (4 * (a + vs.length)) 4 with
    | none => rfl
    | some x =>
     have:=uS_fits h;omega
   have h16:=hU (4 * (a + vs.length)) H';rw [hu] at h16;have h16:R (T k) F.ζ2 [lv encB vs,.int .i64 (4 * (a + vs.length)),.int .i64 4] H' = .ok (.int .i64 (-1)) H':=h16;refine ⟨.ret,_,_,?_,by simp,.inr ⟨rfl,rfl,rfl,?_⟩⟩
   ·rw [ζ35];simp -implicitDefEqProofs (disch:=omega) [h8,h16,hla,hp,hz,hdz]
   ·rw [Bool.eq_false_iff];intro ho;obtain ⟨i,i1,i2,i3⟩:=ζ53.1 ho;exact hno i i1 (by omega) i3)
 rcases hQ with ⟨rfl,⟨w,rfl⟩,rfl,hE⟩ | ⟨rfl,rfl,rfl,hE⟩
 ·exact .inl ⟨w,hr1,hE⟩
 ·exact .inr ⟨hr1,hE⟩
theorem r17_l2 (k:Nat) {vs:List Int} (hb:Byt vs) (hl:vs.length < 2 ^ 31) {r:RMach} {es:List En} (hes:∀ e,e ∈ es → (0 ≤ e.a ∧ e.a < 65536) ∧ 0 ≤ e.flags ∧ e.flags < 65536) (hel:es.length < 65537) (hn:r.n = es.length) (hent:∀ (i:Nat) (e:En),es[i]? = some e → ∀ H',R (T k) F.ζi [rmV r,.int .i64 i] H' = .ok (.agg (encEn e).toArray) H')
  {p4 p6 p8:Nat} {z:List Value} (hz:z.length = 12) {c l:List Int} {H0 H:Heap} (st:Star H0 H [itBlk p4 ⟨z,1,false⟩,itBlk p6 ⟨rmC r,1,false⟩,itBlk p8 ⟨r17C r vs c l,1,false⟩]) :
  (∃ a b H',loopN (ζ2o k (R (T k))) loopFuel [(4,ptrV p4),(6,ptrV p6),(8,ptrV p8),(13,.int .i64 0)] H = .ok (.exit 2,[(4,ptrV p4),(6,ptrV p6),(8,ptrV p8),(13,a),(65,b)]) H' ∧ Star H0 H' [itBlk p4 ⟨z,1,false⟩,itBlk p6 ⟨rmC r,1,false⟩,itBlk p8 ⟨r17C r vs c l,1,false⟩] ∧ es.all (entLast vs) = true) ∨
  (∃ H',loopN (ζ2o k (R (T k))) loopFuel [(4,ptrV p4),(6,ptrV p6),(8,ptrV p8),(13,.int .i64 0)] H = .ok (.ret,[(4,ptrV p4),(5,.bool false)]) H' ∧ Star H0 H' [itBlk p4 ⟨zC12,1,false⟩,itBlk p6 ⟨rmC r,1,false⟩,itBlk p8 ⟨r17C r vs c l,1,false⟩] ∧ es.all (entLast vs) = false):=by
 obtain ⟨rb,rc,ra,re,rs,rn,rw,rt,rp⟩:=r;dsimp only at hn;subst hn
 obtain ⟨xx,e',H1,hr1,hQ⟩:=loop_up (body:=ζ2o k (R (T k))) es.length
  (fun j e' H' => e' = [(4,ptrV p4),(6,ptrV p6),(8,ptrV p8),(13,.int .i64 j)] ∧ Star H0 H' [itBlk p4 ⟨z,1,false⟩,itBlk p6 ⟨rmC ⟨rb,rc,ra,re,rs,(es.length:Int),rw,rt,rp⟩,1,false⟩,itBlk p8 ⟨r17C ⟨rb,rc,ra,re,rs,(es.length:Int),rw,rt,rp⟩ vs c l,1,false⟩] ∧ (es.take j).all (entLast vs) = true)
  (fun xx e' H' => (xx = .exit 2 ∧ (∃ a b,e' = [(4,ptrV p4),(6,ptrV p6),(8,ptrV p8),(13,a),(65,b)]) ∧ Star H0 H' [itBlk p4 ⟨z,1,false⟩,itBlk p6 ⟨rmC ⟨rb,rc,ra,re,rs,(es.length:Int),rw,rt,rp⟩,1,false⟩,itBlk p8 ⟨r17C ⟨rb,rc,ra,re,rs,(es.length:Int),rw,rt,rp⟩ vs c l,1,false⟩] ∧ es.all (entLast vs) = true) ∨ (xx = .ret ∧ e' = [(4,ptrV p4),(5,.bool false)] ∧ Star H0 H' [itBlk p4 ⟨zC12,1,false⟩,itBlk p6 ⟨rmC ⟨rb,rc,ra,re,rs,(es.length:Int),rw,rt,rp⟩,1,false⟩,itBlk p8 ⟨r17C ⟨rb,rc,ra,re,rs,(es.length:Int),rw,rt,rp⟩ vs c l,1,false⟩] ∧ es.all (entLast vs) = false))
  (e0:=[(4,ptrV p4),(6,ptrV p6),(8,ptrV p8),(13,.int .i64 0)]) (H0:=H) ⟨rfl,st,rfl⟩ (by omega)
  (fun j e' H' hj ⟨he',st,hall⟩ => by
   subst he';have hjl:(j:Int) < es.length:=by omega
   obtain ⟨en,hen⟩:∃ en,es[j]? = some en:=⟨_,List.getElem?_eq_getElem hj⟩
   have hmem:=List.mem_of_getElem? hen;have hE:=hent j en hen;have hfl:=hes en hmem;have g4:=st.get 0 rfl;have g6:=st.get 1 rfl;have st2:=st.push ⟨encEn en,1,false⟩;simp only [List.cons_append,List.nil_append] at st2;have hne:¬ p6 = H'.n:=by have:=Heap.get_lt g6; omega
   have gq:=st2.get 3 rfl;have q1:=fun H => bin_quo Prog 3 H .i64 en.flags 8192 (by decide);rw [Int.tdiv_eq_ediv_of_nonneg hfl.2.1] at q1;have q2:=fun H => bin_rem Prog 3 H .i64 (en.flags / 8192) 2 (by decide);rw [Int.tmod_eq_emod_of_nonneg (by omega)] at q2;by_cases d:en.flags / 8192 % 2 = 1
   ·have hEv:entLast vs en = lastB vs en.a:=by unfold entLast; rw [decide_eq_false (fun hh => hh d)]; rfl
    have d':(en.flags / 8192 % 2 == 0) = false:=by rw [d]; rfl
    rcases r17_l3 k hb hl en.a hfl.1 (p4:=p4) (p8:=p8) (ptrV p6) (.int .i64 j) hz (st2.get 0 rfl) (st2.get 2 rfl) with ⟨zz,e2,hO⟩ | ⟨e2,hO⟩
    ·refine .inl ⟨_,_,?_,rfl,by simpa using st2.take 3,?_⟩
     ·rw [ζ34];simp -implicitDefEqProofs (disch:=omega) [g6,hjl,hE,q1,q2,d',e2,ζc0,ζfe]
     ·rw [ζ1v hen,List.all_append,hall];simp [hEv,hO]
    ·have st3:=st2.setBlk 0 rfl ⟨zC12,1,false⟩;simp only [List.set_cons_zero] at st3;refine .inr ⟨.ret,_,_,?_,by simp,.inr ⟨rfl,rfl,by simpa using st3.take 3,?_⟩⟩
     ·rw [ζ34];simp -implicitDefEqProofs (disch:=omega) [g6,hjl,hE,q1,q2,d',e2,ζfg]
     ·rw [Bool.eq_false_iff];intro h;have:=List.all_eq_true.1 h en hmem;rw [hEv,hO] at this;cases this
   ·have hEv:entLast vs en = true:=by unfold entLast; rw [decide_eq_true d]; rfl
    have d':(en.flags / 8192 % 2 == 0) = true:=by rw [beq_iff_eq]; omega
    refine .inl ⟨_,_,?_,rfl,by simpa using st2.take 3,?_⟩
    ·rw [ζ34];simp -implicitDefEqProofs (disch:=omega) [g6,hjl,hE,q1,q2,d',ζfd]
    ·rw [ζ1v hen,List.all_append,hall];simp [hEv])
  (fun e' H' ⟨he',st,hall⟩ => by
   subst he';have g6:=st.get 1 rfl;rw [List.take_length] at hall;refine ⟨.exit 2,_,H',?_,by simp,.inl ⟨rfl,⟨.int .i64 es.length,.bool false,rfl⟩,st,hall⟩⟩;rw [ζ34];simp -implicitDefEqProofs [g6])
 rcases hQ with ⟨rfl,⟨a,b,rfl⟩,st,hE⟩ | ⟨rfl,rfl,st,hE⟩
 ·exact .inl ⟨a,b,H1,hr1,st,hE⟩
 ·exact .inr ⟨H1,hr1,st,hE⟩
def list17 (b:List Int) (j:Nat):List Int:=(listAt b (16 + 4 * (j:Int))).getD []
def has17 (b:List Int) (ok0:Bool):Nat → Bool
 | 0 => ok0
 | j + 1 => has17 b ok0 j && (listAt b (16 + 4 * (j:Int))).isSome
theorem ζpy (b:List Int) (i:Int):listAt b i = restS b ((uS b i 4).getD (-1)):=by
 unfold listAt;cases uS b i 4 with
 | none => rw [Option.getD_none,ζt2]; rfl
 | some p => rfl
theorem r17_l1 (k:Nat) {b:List Int} (hb:Byt b) (hbl:b.length < 2 ^ 31) (ok0:Bool) {p4 p6 p8:Nat} {z1 z2 z3:List Value} {H0 H:Heap} (st:Star H0 H [itBlk p4 ⟨z1,1,false⟩,itBlk p6 ⟨z2,1,false⟩,itBlk p8 ⟨z3,1,false⟩]) :
  ∃ s o a10 a29 H',loopN (ζ49 k (R (T k))) loopFuel [(0,lv encB b),(4,ptrV p4),(6,ptrV p6),(7,.bool ok0),(8,ptrV p8),(9,bareV),(10,.int .i64 0)] H =
   .ok (.exit 0,[(0,lv encB b),(4,ptrV p4),(6,ptrV p6),(7,.bool (has17 b ok0 3)),(8,ptrV p8),(9,s),(10,a10),(29,a29)]) H' ∧ ∃ ls,Star H0 H' [itBlk p4 ⟨z1,1,false⟩,itBlk p6 ⟨z2,1,false⟩,itBlk p8 ⟨z3,1,false⟩,itRow o 1 s encBR ls] ∧ (has17 b ok0 3 = true → ls = [list17 b 0,list17 b 1,list17 b 2]):=by
 have st:=st.more_row (Ext.refl _) (OwnO.bare encBR _ 1) (fun b hb => by cases hb);simp only [List.cons_append,List.nil_append] at st;have hU:=fun i H' => refU_run k (H:=H') (Sl.lv H' 1 b) hb i 4 (by omega) (by omega);have hF:=fun a H' => ζq3 k b a H'
 obtain ⟨xx,e',H1,hr1,rfl,s,o,a10,a29,rfl,ls,g1,hls⟩:=loop_up (body:=ζ49 k (R (T k))) 3
  (fun j e H' => ∃ s o,e = [(0,lv encB b),(4,ptrV p4),(6,ptrV p6),(7,.bool (has17 b ok0 j)),(8,ptrV p8),(9,s),(10,.int .i64 j)] ∧ Star H0 H' [itBlk p4 ⟨z1,1,false⟩,itBlk p6 ⟨z2,1,false⟩,itBlk p8 ⟨z3,1,false⟩,itRow o 1 s encBR ((List.range j).map (list17 b))])
  (fun xx e H' => xx = .exit 0 ∧ ∃ s o a10 a29,e = [(0,lv encB b),(4,ptrV p4),(6,ptrV p6),(7,.bool (has17 b ok0 3)),(8,ptrV p8),(9,s),(10,a10),(29,a29)] ∧ ∃ ls,Star H0 H' [itBlk p4 ⟨z1,1,false⟩,itBlk p6 ⟨z2,1,false⟩,itBlk p8 ⟨z3,1,false⟩,itRow o 1 s encBR ls] ∧ (has17 b ok0 3 = true → ls = [list17 b 0,list17 b 1,list17 b 2]))
  (e0:=[(0,lv encB b),(4,ptrV p4),(6,ptrV p6),(7,.bool ok0),(8,ptrV p8),(9,bareV),(10,.int .i64 0)]) (H0:=H) ⟨bareV,none,rfl,st⟩ (by omega)
  (fun j e H' hj ⟨s,o,he,g⟩ => by
   subst he;have hjl:(j:Int) < 3:=by omega
   cases hh:has17 b ok0 j with
   | false =>
    have h3:has17 b ok0 3 = false:=by
     have up:∀ i,has17 b ok0 i = false → has17 b ok0 (i + 1) = false:=fun i hi => by unfold has17; rw [hi]; rfl
     have hjj:j = 0 ∨ j = 1 ∨ j = 2:=by omega
     rcases hjj with rfl | rfl | rfl
     ·exact up _ (up _ (up _ hh))
     ·exact up _ (up _ hh)
     ·exact up _ hh
    refine .inr ⟨.exit 0,_,H',?_,by simp,rfl,s,o,.int .i64 j,.bool false,by rw [h3],_,g,fun h => by rw [h3] at h; cases h⟩;rw [ζ4g];simp -implicitDefEqProofs (disch:=omega) [hjl]
   | true =>
    have h1:=hU (16 + 4 * (j:Int)) H';have h2:=hF ((uS b (16 + 4 * (j:Int)) 4).getD (-1)) H';rw [← ζpy] at h2;obtain ⟨s2,o2,H2,e2,g2⟩:=g.append1 3 (bytes:=24) ζsb rfl (list17 b j) (by simp; omega) (by decide);simp only [List.set_cons_zero,List.set_cons_succ] at g2;have hls:(List.range j).map (list17 b) ++ [list17 b j] = (List.range (j + 1)).map (list17 b):=by rw [List.range_succ,List.map_append]; rfl
    rw [hls] at g2;have hnx:has17 b ok0 (j + 1) = (listAt b (16 + 4 * (j:Int))).isSome:=by unfold has17; rw [hh]; rfl
    have hl17:(listAt b (16 + 4 * (j:Int))).getD [] = list17 b j:=rfl;rw [hl17] at h2;refine .inl ⟨_,H2,?_,s2,o2,rfl,g2⟩;rw [ζ4g,hnx];simp -implicitDefEqProofs (disch:=omega) [hjl,h1,h2,e2])
  (fun e H' ⟨s,o,he,g⟩ => by
   subst he;refine ⟨.exit 0,_,H',?_,by simp,rfl,s,o,.int .i64 3,.bool false,rfl,_,g,fun _ => rfl⟩;rw [ζ4g];simp -implicitDefEqProofs)
 exact ⟨s,o,a10,a29,H1,hr1,ls,g1,hls⟩
theorem flat17 (r:RMach) (a c l:List Int) (x:Bool):Flat (.tuple #[.agg (r17C r a c l).toArray,.bool x]) :=
 .tupleL (l:=[.agg (r17C r a c l).toArray,.bool x]) (.cons (.aggL (l:=r17C r a c l) (.cons (Flat.B _) (.cons (.int _ _) (.cons (.int _ _) (.cons (.int _ _) (.cons (.int _ _) (.cons (.int _ _) (.cons (.int _ _) (.cons (Flat.B _) (.cons (Flat.RPs _) (.cons (Flat.B _) (.cons (Flat.B _) (.cons (Flat.B _) .nil))))))))))))) (.cons (.bool _) .nil))
abbrev rN17 (r:RMach):List Value:=[lv encB r.b,.int .i64 r.cl,.int .i64 r.rowsAt,.int .i64 r.entsAt,.int .i64 r.states,.int .i64 r.n,.int .i64 r.words,lv encB r.tb,lv encRP r.parts,.slice none 0 0,.slice none 0 0,.slice none 0 0]
set_option maxRecDepth 10000 in
set_option maxHeartbeats 1000000 in
theorem ζhz (k:Nat) (b:List Int) (hb:Byt b) (g:Int) (hg:1 ≤ g ∧ g ≤ 65535) (hl:b.length < 2 ^ 31) (H:Heap) :
  ∃ (r:RMach) (a c l:List Int),R (T k) F.ζ9 [lv encB b,.int .i64 g] H = .ok (.tuple #[.agg (r17C r a c l).toArray,.bool (ligaS b g).isSome]) H ∧ ∀ t,ligaS b g = some t → r = rmOf b g 1 t.m ∧ a = t.acts ∧ c = t.comps ∧ l = t.ligs:=by
 have hrm:=fun H' => ζo6 k b hb g 1 hg (.inr (.inl rfl)) hl H';unfold refMachS at hrm;have fz0:∀ H',fzV H.n H' fzDepth (.tuple #[.agg zC12.toArray,.bool false]) = some (.tuple #[.agg (r17C rmZ [] [] []).toArray,.bool false],[]):=fun H' => rfl;have fl0:Flat (.tuple #[.agg (r17C rmZ [] [] []).toArray,.bool false]):=flat17 rmZ [] [] [] false;have g0:=fun (r:RMach) => (((Star.nil H).push ⟨zC12,1,false⟩).push ⟨rmC r,1,false⟩).push ⟨rN17 r,1,false⟩;simp only [List.nil_append,List.cons_append,hn_push] at g0
 -- the machine, and whether there is one
 obtain ⟨r,ok0,hrd,hr1,hr2⟩:∃ (r:RMach) (ok0:Bool),(∀ H',R (T k) F.ζ5 [lv encB b,.int .i64 g,.int .i64 1] H' = .ok (.tuple #[rmV r,.bool ok0]) H') ∧ ok0 = (machS b g 1).isSome ∧ ∀ m,machS b g 1 = some m → r = rmOf b g 1 m:=by
  cases hm:machS b g 1 with
  | none =>
   rw [hm] at hrm;exact ⟨rmZ,false,fun H' => hrm H',rfl,fun m h => by cases h⟩
  | some m =>
   rw [hm] at hrm;exact ⟨rmOf b g 1 m,true,fun H' => hrm H',rfl,fun m' h => by injection h with h; rw [h]⟩
 obtain ⟨s,o,a10,a29,H1,e1,ls,g1,hls⟩:=r17_l1 k hb hl ok0 (g0 r);have hh3:has17 b ok0 3 = (((ok0 && (listAt b 16).isSome) && (listAt b 20).isSome) && (listAt b 24).isSome):=rfl;have hS:ligaS b g = (machS b g 1).bind fun m => (listAt b 16).bind fun a => (listAt b 20).bind fun c => (listAt b 24).bind fun l => if m.ents.all (entLast a) then some ⟨m,a,c,l⟩ else none:=rfl
 have hfl:Flat (rmV r):=Flat.rm _;have x1:∀ H',Ext H' (H'.push ⟨zC12,1,false⟩):=fun H' => (Ext.refl _).push _;cases h3:has17 b ok0 3 with
 | false =>
  have hN:ligaS b g = none:=by
   rw [hS];rw [h3] at hh3;cases hm:machS b g 1 with
   | none => rfl
   | some m =>
    rw [hm] at hr1;rw [hr1] at hh3;cases ha:listAt b 16 with
    | none => rfl
    | some a =>
     cases hc:listAt b 20 with
     | none => rfl
     | some c =>
      cases hd:listAt b 24 with
      | none => rfl
      | some l => rw [ha,hc,hd] at hh3; cases hh3
  rw [hN];refine ⟨rmZ,[],[],[],?_,fun t h => by cases h⟩;rw [h3] at e1;have b0:=g1.get 0 rfl;have b0s:(H1.get H.n).isSome = true:=by rw [b0]; rfl
  have g2:=g1.setBlk 0 rfl ⟨zC12,1,false⟩;simp only [List.set_cons_zero] at g2;rw [ζes];refine nrm_fz (H':=H1.set H.n (some ⟨zC12,1,false⟩)) ?_ (fz0 _) g2.ext fl0.alive;simp -implicitDefEqProofs (disch:=omega) [ζ9,hrd,e1,ζ71,b0,b0s]
 | true =>
  have hls:=hls h3;subst hls;rw [h3] at hh3 e1;obtain ⟨m,hm⟩:∃ m,machS b g 1 = some m:=by
   cases hm:machS b g 1 with
   | some m => exact ⟨m,rfl⟩
   | none => rw [hm] at hr1; rw [hr1] at hh3; cases hh3
  have hr2:=hr2 m hm;obtain ⟨a,ha⟩:∃ a,listAt b 16 = some a:=by
   cases ha:listAt b 16 with
   | some a => exact ⟨a,rfl⟩
   | none => rw [ha] at hh3; cases ok0 <;> cases hh3
  obtain ⟨c,hc⟩:∃ c,listAt b 20 = some c:=by
   cases hc:listAt b 20 with
   | some c => exact ⟨c,rfl⟩
   | none => rw [ha,hc] at hh3; cases ok0 <;> cases hh3
  obtain ⟨l,hd⟩:∃ l,listAt b 24 = some l:=by
   cases hd:listAt b 24 with
   | some l => exact ⟨l,rfl⟩
   | none => rw [ha,hc,hd] at hh3; cases ok0 <;> cases hh3
  have l0:list17 b 0 = a:=by unfold list17; rw [show (16:Int) + 4 * ((0:Nat):Int) = 16 from rfl,ha]; rfl
  have l1:list17 b 1 = c:=by unfold list17; rw [show (16:Int) + 4 * ((1:Nat):Int) = 20 from rfl,hc]; rfl
  have l2:list17 b 2 = l:=by unfold list17; rw [show (16:Int) + 4 * ((2:Nat):Int) = 24 from rfl,hd]; rfl
  rw [l0,l1,l2] at g1;rw [hm,ha,hc,hd] at hS;have hS:ligaS b g = if m.ents.all (entLast a) then some ⟨m,a,c,l⟩ else none:=hS
  have hok:=machS_ok hb hg.1 hg.2 (by omega) hm;have ab:=ζiu hb ha;have hn:r.n = m.ents.length:=by rw [hr2]; rfl
  have hent:=fun (i:Nat) (e:En) (he:m.ents[i]? = some e) (hi:i ≤ 65536) H' => ζmr k hb (.inr (.inl rfl)) hl hm (i:=(i:Int)) (by omega) (by omega) (e:=e) (by simpa using he) H';rw [← hr2] at hent;have helen:=hok.elen;have hes:∀ e,e ∈ m.ents → (0 ≤ e.a ∧ e.a < 65536) ∧ 0 ≤ e.flags ∧ e.flags < 65536:=fun e he => by have:=hok.ent e he; omega
  -- the lists are laid into the table
  obtain ⟨bb,hbb,hgb,_⟩:=g1.ix 3 rfl .i64 0 (by simp);subst hbb;have i0:∀ H',ixS 1 s (.int .i64 0) H' = .ok (.pointer (some ⟨bb,0,none⟩)) H':=fun H' => by
   obtain ⟨b',h1,_,h4⟩:=g1.ix 3 rfl .i64 0 (by simp);have h1:=Option.some.inj h1;subst h1;simpa using h4 H'
  have i1:∀ H',ixS 1 s (.int .i64 1) H' = .ok (.pointer (some ⟨bb,1,none⟩)) H':=fun H' => by
   obtain ⟨b',h1,_,h4⟩:=g1.ix 3 rfl .i64 1 (by simp);have h1:=Option.some.inj h1;subst h1;simpa using h4 H'
  have i2:∀ H',ixS 1 s (.int .i64 2) H' = .ok (.pointer (some ⟨bb,2,none⟩)) H':=fun H' => by
   obtain ⟨b',h1,_,h4⟩:=g1.ix 3 rfl .i64 2 (by simp);have h1:=Option.some.inj h1;subst h1;simpa using h4 H'
  have b8:=g1.get 2 rfl;have hbn:¬ H.n + 1 + 1 = bb:=fun h => by
   have:=g1.ne 2 3 (by decide) rfl rfl (b:=H.n + 1 + 1) (by simp [itBlk]);exact this (by simp [itRow,h])
  have hbn':¬ bb = H.n + 1 + 1:=fun h => hbn h.symm;have hrw:rows encBR [a,c,l] = [lv encB a,lv encB c,lv encB l]:=rfl;rw [hrw] at hgb;have g2:=g1.setBlk 2 rfl ⟨r17C r a c l,1,false⟩;simp only [List.set_cons_zero,List.set_cons_succ] at g2;obtain ⟨H2,hH2⟩:∃ H2,H2 = H1.set (H.n + 1 + 1) (some ⟨r17C r a c l,1,false⟩):=⟨_,rfl⟩
  rw [← hH2] at g2;have gs:∀ (k1:Blk) d,(H1.set (H.n + 1 + 1) (some k1)).get d = if d = H.n + 1 + 1 then some k1 else H1.get d:=fun k1 d => Heap.get_set b8 _ _
  have fin:ζ5o k (R (T k)) (.exit 0) [(0,lv encB b),(4,ptrV H.n),(6,ptrV (H.n + 1)),(7,.bool true),(8,ptrV (H.n + 1 + 1)),(9,s),(10,a10),(29,a29)] H1 =
    (loopN (ζ2o k (R (T k))) loopFuel [(4,ptrV H.n),(6,ptrV (H.n + 1)),(8,ptrV (H.n + 1 + 1)),(13,.int .i64 0)] H2).bind fun r81 h82 => ζ3x k (R (T k)) r81.1 r81.2 h82:=by
   rw [ζ71];simp -implicitDefEqProofs (disch:=omega) [i0,i1,i2,hgb,b8,gs,hbn',← hH2]
  rcases r17_l2 k ab.1 (by omega) hes (by omega) hn (fun i e he H' => hent i e he (by have:=(List.getElem?_eq_some_iff.1 he).1; omega) H') (p4:=H.n) (p6:=H.n + 1) (p8:=H.n + 1 + 1) (z:=zC12) rfl (by simpa using g2.take 3) with ⟨a13,b65,H',e2,st,hall⟩ | ⟨H',e2,st,hall⟩
  ·rw [hall,if_pos rfl] at hS;rw [hS];refine ⟨r,a,c,l,?_,fun t h => by injection h with h; subst h; exact ⟨hr2,rfl,rfl,rfl⟩⟩;have q4:=st.get 0 rfl;have q4s:(H'.get H.n).isSome = true:=by rw [q4]; rfl
   have q8:=st.get 2 rfl;have st2:=st.setBlk 0 rfl ⟨r17C r a c l,1,false⟩;rw [ζes];refine nrm_fz (H':=H'.set H.n (some ⟨r17C r a c l,1,false⟩)) (v:=.tuple #[.agg (r17C r a c l).toArray,.bool true]) (L:=[]) ?_ rfl st2.ext (flat17 r a c l true).alive;simp -implicitDefEqProofs (disch:=omega) [ζ9,hrd,e1,fin,e2,ζbz,q4,q4s,q8]
  ·rw [hall,if_neg (by decide)] at hS;rw [hS];refine ⟨rmZ,[],[],[],?_,fun t h => by cases h⟩;have q4:=st.get 0 rfl;rw [ζes];refine nrm_fz (H':=H') ?_ (fz0 _) st.ext fl0.alive;simp -implicitDefEqProofs (disch:=omega) [ζ9,hrd,e1,fin,e2,ζff,q4]
end Go.Sw
end
section
namespace Go.Sw
open Go.RowKit
theorem ζo4 (k:Nat) (a:Int) (h0:0 ≤ a) (h1:a < 4294967296) (H:Heap):R (T k) F.ζ23 [.int .i64 a] H = .ok (.int .i64 (offS a)) H:=by
 rw [ζh7];refine nrm_gc ⟨H,?_,Ext.refl H⟩ (.int _ _);have q2:=fun H => bin_rem Prog 3 H .i64 a 1073741824 (by decide);rw [Int.tmod_eq_emod_of_nonneg h0] at q2;unfold offS;have hw:IntKind.i64.wrap (a % 1073741824 - 1073741824) = a % 1073741824 - 1073741824:=wrap_i64 (by omega) (by omega);by_cases d:a % 1073741824 ≥ 536870912
 ·rw [if_pos d];simp -implicitDefEqProofs (disch:=omega) [ζ23,q2,d,hw]
 ·rw [if_neg d];simp -implicitDefEqProofs (disch:=omega) [ζ23,q2,d]
theorem at17_run (k:Nat) (b:List Int) (hb:Byt b) (hl:b.length < 2 ^ 31) (i:Int) (H:Heap):R (T k) F.ζ2c [lv encB b,.int .i64 i] H = .ok (.int .i64 ((entryS b i).getD (-1))) H:=by
 rw [ζkz];refine nrm_gc ⟨H,?_,Ext.refl H⟩ (.int _ _);unfold entryS;by_cases d1:i < 0
 ·rw [if_neg (by omega)];simp -implicitDefEqProofs (disch:=omega) [ζ2c,d1]
 ·by_cases d2:i > (b.length:Int)
  ·rw [if_neg (by omega)];simp -implicitDefEqProofs (disch:=omega) [ζ2c,d1,d2]
  ·have hw:IntKind.i64.wrap (2 * i) = 2 * i:=wrap_i64 (by omega) (by omega);have hU:=refU_run k (H:=H) (Sl.lv H 1 b) hb (2 * i) 2 (by omega) (by omega);have he:(uS b (2 * i) 2).getD (-1) = (if 0 ≤ i ∧ i < (b.length:Int) / 2 then some (gU b (2 * i) 2) else none).getD (-1):=by
    cases h:uS b (2 * i) 2 with
    | some z =>
     have hin:0 ≤ i ∧ i < (b.length:Int) / 2:=by
      have h':=h;unfold uS pieceS at h';split at h'
      ·omega
      ·cases h'
     rw [if_pos hin,gU_some h]
    | none =>
     have hno:¬ (0 ≤ i ∧ i < (b.length:Int) / 2):=by
      intro hin;obtain ⟨z,hz⟩:∃ z,uS b (2 * i) 2 = some z:=uS_of_in (by unfold inS; rw [decide_eq_true_eq]; omega);rw [h] at hz;cases hz
     rw [if_neg hno]
   rw [he] at hU;simp -implicitDefEqProofs (disch:=omega) [ζ2c,d1,d2,hw,hU]
theorem ζpq (l:List Gl) (i:Nat) {g:Gl} (hg:l[i]? = some g):∀ ks:List Int,(∀ x:Nat,x ≠ i → (joinG l (i:Int) ks)[x]? = l[x]?) ∧ ∃ c,(joinG l (i:Int) ks)[i]? = some ⟨g.id,c⟩ ∧ c ≤ g.cl:=by
 intro ks
 induction hn:ks.length generalizing ks with
 | zero =>
  obtain rfl:=List.eq_nil_of_length_eq_zero hn;exact ⟨fun x _ => rfl,g.cl,hg,Int.le_refl _⟩
 | succ n ih =>
  obtain ⟨ks',z,rfl⟩:∃ ks' z,ks = ks' ++ [z]:=⟨ks.dropLast,ks.getLast (by intro h; rw [h] at hn; cases hn),(List.dropLast_concat_getLast _).symm⟩
  rw [ζjb];obtain ⟨a1,c,a2,a3⟩:=ih ks' (by simpa using hn);have hil:i < (joinG l (i:Int) ks').length:=(List.getElem?_eq_some_iff.1 a2).1;unfold join1;cases hz:atG (joinG l (i:Int) ks') z with
  | none => exact ⟨a1,c,a2,a3⟩
  | some q =>
   dsimp only;rw [if_pos ⟨by omega,by omega⟩,Int.toNat_natCast];refine ⟨fun x hx => ?_,min c q.cl,?_,by omega⟩
   ·rw [List.getElem?_modify];simp only [if_neg (fun h:i = x => hx h.symm)];simpa using a1 x hx
   ·rw [List.getElem?_modify,a2];simp
set_option maxHeartbeats 1000000 in
theorem ζq4 (k:Nat) (l:List Gl) (hl:l.length < 2 ^ 30) (i:Int) {H:Heap} {v:Value} {ks:List Int} (hv:Sl H 1 v encI ks) (hkl:ks.length < 2 ^ 30):R (T k) F.ζy [lv encG l,.int .i64 i,v] H = .ok (lv encG (joinG l i ks)) H:=by
 rw [ζig];have g:=(Star.nil H).more_row (Ext.refl _) (OwnO.bare encG _ 2) (fun b hb => by cases hb);obtain ⟨s1,o1,H1,e1,g⟩:=g.append (bytes:=16) 0 encG_len rfl (b:=lv encG l) (l2:=l) rfl (lv_first encG_len l _) (by simp; omega) (by decide);simp only [List.nil_append,List.set_cons_zero] at g;have hln:∀ H',lnS v H' = .ok (.int .i64 ks.length) H':=fun H' => hv.len H'
 obtain ⟨xx,e',H2,hr,rfl,zz,yy,rfl,g2⟩:=loop_up (body:=ζ66 k (R (T k))) ks.length
  (fun j e H' => e = [(0,lv encG l),(1,.int .i64 i),(2,v),(7,s1),(8,.int .i64 j)] ∧ Star H H' [itRow o1 2 s1 encG (joinG l i (ks.take j))])
  (fun xx e H' => xx = .exit 0 ∧ ∃ zz yy,e = [(0,lv encG l),(1,.int .i64 i),(2,v),(7,s1),(8,zz),(26,yy)] ∧ Star H H' [itRow o1 2 s1 encG (joinG l i ks)])
  (e0:=[(0,lv encG l),(1,.int .i64 i),(2,v),(7,s1),(8,.int .i64 0)]) (H0:=H1) ⟨rfl,g⟩ (by omega)
  (fun j e H' hj ⟨he,g⟩ => by
   subst he;have hjl:(j:Int) < ks.length:=by omega
   obtain ⟨z,hz⟩:∃ z,ks[j]? = some z:=⟨_,List.getElem?_eq_getElem hj⟩
   obtain ⟨p,i1,i2⟩:=hv.ix1 encI_len j z hz _ rfl;have i2:=i2 H' g.ext;by_cases d1:i ≥ 0;rotate_left
   ·rw [ζep (by omega)] at g;refine .inr ⟨.exit 0,_,H',?_,by simp,rfl,.int .i64 j,.bool false,rfl,by rw [ζep (by omega)]; exact g⟩;rw [ζ1n];simp -implicitDefEqProofs (disch:=omega) [hln,hjl,d1]
   by_cases d2:i < (l.length:Int)
   rotate_left
   ·rw [ζep (by omega)] at g;refine .inr ⟨.exit 0,_,H',?_,by simp,rfl,.int .i64 j,.bool false,rfl,by rw [ζep (by omega)]; exact g⟩;rw [ζ1n];simp -implicitDefEqProofs (disch:=omega) [hln,hjl,d1,d2]
   obtain ⟨n,rfl⟩:=Int.eq_ofNat_of_zero_le d1;have hn:n < l.length:=by omega
   obtain ⟨gl,hgl⟩:∃ gl,l[n]? = some gl:=⟨_,List.getElem?_eq_getElem hn⟩
   obtain ⟨f1,c,f2,f3⟩:=ζpq l n hgl (ks.take j);have hnl:n < (joinG l (n:Int) (ks.take j)).length:=(List.getElem?_eq_some_iff.1 f2).1;have hlen:=ζgp (n:Int) (ks.take j) l;have hsn:joinG l (n:Int) (ks.take (j + 1)) = join1 (n:Int) (joinG l (n:Int) (ks.take j)) z:=by rw [ζ1v hz,ζjb]
   obtain ⟨cc,hc,hgc,ix⟩:=g.ix 0 rfl .i64 n hnl;subst hc;have l1:=ld1_row encG_len hgc (i:=n) (c:=1) f2 (by decide) rfl;have a1:atG (joinG l (n:Int) (ks.take j)) z = if 0 ≤ z ∧ z < l.length then (joinG l (n:Int) (ks.take j))[z.toNat]? else none:=by unfold atG; rw [hlen]
   by_cases d3:z ≥ 0;rotate_left
   ·have hj1:joinG l (n:Int) (ks.take (j + 1)) = joinG l (n:Int) (ks.take j):=by
     rw [hsn];unfold join1;rw [a1,if_neg (by omega)]
    refine .inl ⟨_,H',?_,rfl,by rw [hj1]; exact g⟩;rw [ζ1n];simp -implicitDefEqProofs (disch:=omega) [hln,hjl,d1,d2,i1,i2,d3,ζ4e]
   by_cases d4:z < (l.length:Int)
   rotate_left
   ·have hj1:joinG l (n:Int) (ks.take (j + 1)) = joinG l (n:Int) (ks.take j):=by
     rw [hsn];unfold join1;rw [a1,if_neg (by omega)]
    refine .inl ⟨_,H',?_,rfl,by rw [hj1]; exact g⟩;rw [ζ1n];simp -implicitDefEqProofs (disch:=omega) [hln,hjl,d1,d2,i1,i2,d3,d4,ζ4e]
   obtain ⟨m,rfl⟩:=Int.eq_ofNat_of_zero_le d3;have hm:m < l.length:=by omega
   obtain ⟨q,hq⟩:∃ q,l[m]? = some q:=⟨_,List.getElem?_eq_getElem hm⟩
   have ixl:=fun H' => ixS_lvN encG_len l .i64 m q hq H';rw [if_pos ⟨d3,d4⟩,Int.toNat_natCast] at a1;by_cases d5:q.cl < c
   ·have hmn:m ≠ n:=by
     intro h;subst h;rw [hgl] at hq;injection hq with hq;subst hq;omega
    rw [f1 m hmn,hq] at a1;have hj1:joinG l (n:Int) (ks.take (j + 1)) = (joinG l (n:Int) (ks.take j)).set n ⟨gl.id,q.cl⟩:=by
     rw [hsn];unfold join1;rw [a1];dsimp only;rw [if_pos ⟨by omega,by omega⟩,Int.toNat_natCast];apply List.ext_getElem?;intro x;rw [List.getElem?_modify,List.getElem?_set];by_cases hx:n = x
     ·subst hx;rw [f2,if_pos rfl,if_pos hnl];simp;omega
     ·simp [hx]
    obtain ⟨H3,e3,g3,_⟩:=g.stRow 0 rfl encG_len (j:=n) (c:=1) (n:=1) (⟨gl.id,q.cl⟩:Gl) (v:=.int .i64 q.cl) f2 rfl rfl (by decide) rfl;simp only [List.set_cons_zero] at g3;rw [← hj1] at g3;refine .inl ⟨_,H3,?_,rfl,g3⟩;rw [ζ1n];simp -implicitDefEqProofs (disch:=omega) [-stR_ptr,-ld1_ptr,hln,hjl,d1,d2,i1,i2,d3,d4,ixl,ix,l1,d5,e3,ζf8]
   ·have hj1:joinG l (n:Int) (ks.take (j + 1)) = joinG l (n:Int) (ks.take j):=by
     rw [hsn];obtain ⟨q',hq',hqc⟩:∃ q',(joinG l (n:Int) (ks.take j))[m]? = some q' ∧ c ≤ q'.cl:=by
      by_cases hmn:m = n
      ·subst hmn;exact ⟨_,f2,Int.le_refl _⟩
      ·exact ⟨q,by rw [f1 m hmn]; exact hq,by omega⟩
     rw [hq'] at a1;unfold join1;rw [a1];dsimp only;rw [if_pos ⟨by omega,by omega⟩,Int.toNat_natCast];apply List.ext_getElem?;intro x;rw [List.getElem?_modify];by_cases hx:n = x
     ·subst hx;rw [f2];simp;omega
     ·simp [hx]
    refine .inl ⟨_,H',?_,rfl,by rw [hj1]; exact g⟩;rw [ζ1n];simp -implicitDefEqProofs (disch:=omega) [-ld1_ptr,hln,hjl,d1,d2,i1,i2,d3,d4,ixl,ix,l1,d5,ζ4e])
  (fun e H' ⟨he,g⟩ => by
   subst he;rw [List.take_length] at g;refine ⟨.exit 0,_,H',?_,by simp,rfl,.int .i64 ks.length,.bool false,rfl,g⟩;rw [ζ1n];simp -implicitDefEqProofs [hln])
 obtain ⟨L,hf⟩:=(g2.own 0 rfl).freeze encG_len (ζgh _) 6;refine nrm_fz (v:=s1) (H':=H2) ?_ hf g2.ext (Flat.Gls _).alive;simp -implicitDefEqProofs [ζy,e1,hr,ζbv]
end Go.Sw
end
section
namespace Go.Sw
open Go.RowKit
structure SPlan where
 p:Plan
 vals:List Int
def SPlan.ok (x:SPlan):Prop:=x.p.ok
def SSmall (x:SPlan) (n:Nat):Prop:=x.p.cls.length ≤ 40 ∧ x.p.rows.length ≤ 20 ∧ x.p.ents.length ≤ 40 ∧ x.vals.length ≤ 100 ∧ n ≤ 60
instance (x:SPlan) (n:Nat):Decidable (SSmall x n):=by unfold SSmall; exact inferInstance
end Go.Sw
end
section
namespace Go.Sw
open Go.RowKit
end Go.Sw
end
section
namespace Go.Sw
open Go.RowKit
end Go.Sw
end
section
namespace Go.Sw
open Go.RowKit
theorem fzS {α:Type} {enc:α → List Value} {m n0 d b off n cap:Nat} {H:Heap} {k:Blk} {l:List α} (hb:n0 ≤ b) (hg:H.get b = some k) (hro:k.ro = false) (hesz:k.esz = m) (hfit:off + n * m ≤ k.cells.length) (hl:n = l.length) (hc:(k.cells.drop off).take (n * m) = rows enc l) (hs:∀ x,x ∈ l → ∀ v,v ∈ enc x → Still v) :
  fzV n0 H (d + 2) (.slice (some ⟨b,off,none⟩) n cap) = some (lv enc l,[b]):=by
 have hlt:Nat.blt b n0 = false:=by
  cases hb':Nat.blt b n0 with
  | false => rfl
  | true => have:=Nat.le_of_ble_eq_true hb'; omega
 unfold fzV;dsimp only;rw [hlt,cond_false,hg];dsimp only;rw [hro,hesz,show (false || !Nat.ble (off + n * m) k.cells.length) = false from by simp; exact hfit,cond_false,hc,ζ7y (ζgy hs),hl];rfl
end Go.Sw
end
section
namespace Go.Sw
open Go.RowKit
abbrev kep17C (l:List Gl) (ps:List Int):List Value:=[lv encG l,lv encI ps.reverse]
abbrev kep17V (l:List Gl) (ps:List Int):Value:=.agg (kep17C l ps).toArray
theorem Flat.kept (l:List Gl) (ps:List Int):Flat (kep17V l ps):=.aggL (l:=kep17C l ps) (.cons (Flat.Gls l) (.cons (Flat.I _) .nil))
theorem slS_rest {H:Heap} {b N:Nat} {k:Blk} (hg:H.get b = some k) (hk:k.esz = 1) (hN:1 ≤ N):slS 1 (.slice (some ⟨b,0,none⟩) N N) (some (.int .i64 1)) none none H = .ok (.slice (some ⟨b,1,none⟩) (N - 1) (N - 1)) H:=by
 have hb:boundOf (some (.int .i64 1)) 0 = some 1:=by simp [boundOf]
 unfold slS;dsimp only;rw [hb];simp only [boundOf];rw [if_pos ⟨by omega,by omega,by omega,by simp⟩,if_pos (by unfold openOk; rw [hg]; simp [hk])]
set_option maxHeartbeats 1000000 in
theorem ζnc (k:Nat) (l:List Gl) (ps:List Int) (hps:ps.length ≤ 64) (i:Int) (H:Heap):R (T k) F.ζg [kep17V l ps,.int .i64 i] H = .ok (kep17V l (pushP i ps)) H:=by
 rw [ζay];have st:=((Star.nil H).push ⟨kep17C l ps,1,false⟩).push ⟨[.slice none 0 0,.slice none 0 0],1,false⟩;simp only [List.nil_append,List.cons_append,hn_push] at st;have hhead:(ps.length > 0 → ∃ x,ps.head? = some x ∧ ps.reverse[ps.length - 1]? = some x):=fun hp => by
  cases ps with
  | nil => simp at hp
  | cons x ps => exact ⟨x,rfl,by rw [List.reverse_cons,List.getElem?_append_right (by simp)]; simp⟩
 by_cases d1:ps.head? = some i
 ·have hp:pushP i ps = ps:=by unfold pushP; rw [if_pos d1]
  rw [hp];have hpl:0 < ps.length:=by
   cases ps with
   | nil => cases d1
   | cons => simp
  obtain ⟨x,hx,hx2⟩:=hhead hpl;rw [d1] at hx;have hx:=Option.some.inj hx;subst hx;have ix:=fun H' => ixS_lvN encI_len ps.reverse .i64 (ps.length - 1) i hx2 H';have hpl':(ps.length:Int) > 0:=by omega
  have hw:IntKind.i64.wrap ((ps.length:Int) - 1) = ((ps.length - 1:Nat):Int):=by rw [wrap_i64 (by omega) (by omega)]; omega
  have g2:=st.setBlk 1 rfl ⟨kep17C l ps,1,false⟩;refine nrm_fz (v:=kep17V l ps) (L:=[]) ?_ rfl g2.ext (Flat.kept l ps).alive;simp -implicitDefEqProofs (disch:=omega) [ζg,hpl,hw,ix]
 ·have hp:pushP i ps = (i :: ps).take 64:=by unfold pushP; rw [if_neg d1]
  have g:=st.more_row (Ext.refl _) (OwnO.bare encI _ 1) (fun b hb => by cases hb);simp only [List.nil_append,List.cons_append] at g;obtain ⟨s1,o1,H1,e1,g⟩:=g.append (bytes:=8) 2 encI_len rfl (b:=lv encI ps.reverse) (l2:=ps.reverse) rfl (lv_first encI_len ps.reverse _) (by simp; omega) (by decide);simp only [List.nil_append,List.set_cons_zero,List.set_cons_succ] at g;obtain ⟨s2,o2,H2,e2,g⟩:=g.append1 2 (bytes:=8) encI_len rfl i (by rw [List.length_reverse]; omega) (by decide);simp only [List.set_cons_zero,List.set_cons_succ] at g;have b0:=g.get 0 rfl;have b1:=g.get 1 rfl;have hrow:=g.row 2 rfl;rcases hrow with ⟨_,h2,_⟩ | ⟨b,rfl,rfl,hgb⟩
  ·simp at h2
  have hlen:(ps.reverse ++ [i]).length = ps.length + 1:=by simp
  have e2:=e2;have g3:=g.setBlk 0 rfl ⟨[lv encG l,.slice (some ⟨b,0,none⟩) (ps.reverse ++ [i]).length (ps.reverse ++ [i]).length],1,false⟩;simp only [List.set_cons_zero,List.set_cons_succ] at g3;rw [hlen] at e2 g3;obtain ⟨H3,hH3⟩:∃ H3,H3 = H2.set H.n (some ⟨[lv encG l,.slice (some ⟨b,0,none⟩) (ps.length + 1) (ps.length + 1)],1,false⟩):=⟨_,rfl⟩
  rw [← hH3] at g3;have q3:=g3.get 0 rfl;have q31:=g3.get 1 rfl;have hlt64:(((ps.length + 1:Nat):Int)) = (ps.length:Int) + 1:=rfl;by_cases d2:ps.length + 1 > 64
  ·have g4:=g3.setBlk 0 rfl ⟨[lv encG l,.slice (some ⟨b,1,none⟩) (ps.length) (ps.length)],1,false⟩;simp only [List.set_cons_zero,List.set_cons_succ] at g4;obtain ⟨H4,hH4⟩:∃ H4,H4 = H3.set H.n (some ⟨[lv encG l,.slice (some ⟨b,1,none⟩) (ps.length) (ps.length)],1,false⟩):=⟨_,rfl⟩
   rw [← hH4] at g4;have q4:=g4.get 0 rfl;have q41:=g4.get 1 rfl;have g5:=g4.setBlk 1 rfl ⟨[lv encG l,.slice (some ⟨b,1,none⟩) (ps.length) (ps.length)],1,false⟩;simp only [List.set_cons_zero,List.set_cons_succ] at g5;obtain ⟨H5,hH5⟩:∃ H5,H5 = H4.set (H.n + 1) (some ⟨[lv encG l,.slice (some ⟨b,1,none⟩) (ps.length) (ps.length)],1,false⟩):=⟨_,rfl⟩
   rw [← hH5] at g5;have q5:=g5.get 1 rfl;have hb3:∀ {H':Heap} {L:List It},Star H H' L → L[2]? = some (itRow (some b) 1 (.slice (some ⟨b,0,none⟩) (ps.length + 1) (ps.length + 1)) encI (ps.reverse ++ [i])) → H'.get b = some ⟨rows encI (ps.reverse ++ [i]),1,false⟩:=fun {H' L} hh hi => by
    rcases hh.row 2 hi with ⟨h,_⟩ | ⟨b',hb',_,hg'⟩
    ·cases h
    ·injection hb' with hb';subst hb';exact hg'
   have hs:=slS_rest (hb3 g3 rfl) rfl (N:=ps.length + 1) (by omega);rw [Nat.add_sub_cancel] at hs;have hlist:(ps.reverse ++ [i]).drop 1 = ((i :: ps).take 64).reverse:=by
    rw [show ps.reverse ++ [i] = (i :: ps).reverse by simp,List.drop_reverse];congr 2;simp;omega
   have hfz:=fzS (n0:=H.n) (H:=H5) (d:=5) (cap:=ps.length) (off:=1) (n:=ps.length) (enc:=encI) (m:=1) (l:=((i :: ps).take 64).reverse) (g5.lt 2 rfl b (by simp [itRow])).1 (hb3 g5 rfl) rfl rfl (by dsimp only; rw [ζ52]; simp; omega) (by rw [← hlist]; simp) (by dsimp only; rw [← hlist,ζ52,ζ52,← List.map_drop,List.take_of_length_le (by simp)]) (fun x hx v hv => ζ6c _ x hx v hv);rw [hp];have hfa:fzV H.n _ fzDepth (.agg #[lv encG l,.slice (some ⟨b,1,none⟩) (ps.length) (ps.length)]) = some (kep17V l ((i :: ps).take 64),[] ++ ([b] ++ [])):=fz_agg (l:=[lv encG l,_]) (r:=kep17C l ((i :: ps).take 64)) (ζw rfl (ζw hfz mapF_nil));refine nrm_fz (H':=H5) ?_ hfa g5.ext (Flat.kept l _).alive;by_cases d3:ps.length > 0
   ·obtain ⟨x,hx,hx2⟩:=hhead d3;have ix:=fun H' => ixS_lvN encI_len ps.reverse .i64 (ps.length - 1) x hx2 H';have hdd:decide (0 < ps.length) = true:=decide_eq_true d3;have hw:IntKind.i64.wrap ((ps.length:Int) - 1) = ((ps.length - 1:Nat):Int):=by rw [wrap_i64 (by omega) (by omega)]; omega
    have hxi:(x == i) = false:=by
     rw [beq_eq_false_iff_ne];intro h;rw [hx,h] at d1;exact d1 rfl
    have d2':(ps.length:Int) + 1 > 64:=by omega
    simp -implicitDefEqProofs (disch:=omega) [ζg,d3,hdd,hw,ix,hxi,e1,e2,b0,b1,hlt64,← hH3,q3,q31,d2',hs,← hH4,q4,q41,← hH5,q5,ζfs]
   ·omega
  ·have g5:=g3.setBlk 1 rfl ⟨[lv encG l,.slice (some ⟨b,0,none⟩) (ps.length + 1) (ps.length + 1)],1,false⟩;simp only [List.set_cons_zero,List.set_cons_succ] at g5;obtain ⟨H5,hH5⟩:∃ H5,H5 = H3.set (H.n + 1) (some ⟨[lv encG l,.slice (some ⟨b,0,none⟩) (ps.length + 1) (ps.length + 1)],1,false⟩):=⟨_,rfl⟩
   rw [← hH5] at g5;have q5:=g5.get 1 rfl;have ht:(i :: ps).take 64 = i :: ps:=List.take_of_length_le (by simp; omega);rw [hp,ht];obtain ⟨L,hf⟩:=(g5.own 2 rfl).freeze encI_len (fun n hn v hv => ζ6c _ n hn v hv) 5;have hfa:fzV H.n _ fzDepth (.agg #[lv encG l,.slice (some ⟨b,0,none⟩) (ps.length + 1) (ps.length + 1)]) = some (kep17V l (i :: ps),[] ++ (L ++ [])):=fz_agg (l:=[lv encG l,_]) (r:=kep17C l (i :: ps)) (ζw rfl (ζw (by rw [List.reverse_cons]; exact hf) mapF_nil));refine nrm_fz (H':=H5) ?_ hfa g5.ext (Flat.kept l _).alive;have d2':¬ (ps.length:Int) + 1 > 64:=by omega
   by_cases d3:ps.length > 0
   ·obtain ⟨x,hx,hx2⟩:=hhead d3;have ix:=fun H' => ixS_lvN encI_len ps.reverse .i64 (ps.length - 1) x hx2 H';have hdd:decide (0 < ps.length) = true:=decide_eq_true d3;have hw:IntKind.i64.wrap ((ps.length:Int) - 1) = ((ps.length - 1:Nat):Int):=by rw [wrap_i64 (by omega) (by omega)]; omega
    have hxi:(x == i) = false:=by
     rw [beq_eq_false_iff_ne];intro h;rw [hx,h] at d1;exact d1 rfl
    simp -implicitDefEqProofs (disch:=omega) [ζg,d3,hdd,hw,ix,hxi,e1,e2,b0,b1,hlt64,← hH3,q3,q31,d2',← hH5,q5,ζ4h]
   ·have hdd:decide (0 < ps.length) = false:=decide_eq_false d3;simp -implicitDefEqProofs (disch:=omega) [ζg,hdd,e1,e2,b0,b1,hlt64,← hH3,q3,q31,d2',← hH5,q5,ζ4h]
set_option maxHeartbeats 1000000 in
theorem ζr9 (k:Nat) (l:List Gl) (i:Int) (H:Heap):R (T k) F.ζg [.agg #[lv encG l,.slice none 0 0],.int .i64 i] H = .ok (kep17V l (pushP i [])) H:=by
 rw [ζay];have st:=((Star.nil H).push ⟨[lv encG l,.slice none 0 0],1,false⟩).push ⟨[.slice none 0 0,.slice none 0 0],1,false⟩;simp only [List.nil_append,List.cons_append,hn_push] at st;have g:=st.more_row (Ext.refl _) (OwnO.bare encI _ 1) (fun b hb => by cases hb);simp only [List.nil_append,List.cons_append] at g;have hnil:Sl H 1 (.slice none 0 0) encI []:=Sl.nil H 1;obtain ⟨s1,o1,H1,e1,g⟩:=g.append (bytes:=8) 2 encI_len rfl (b:=.slice none 0 0) (l2:=[]) (ζit hnil.lenL) ((hnil.up st.ext).first encI_len) (by simp) (by decide);simp only [List.nil_append,List.set_cons_zero,List.set_cons_succ] at g;obtain ⟨s2,o2,H2,e2,g⟩:=g.append1 2 (bytes:=8) encI_len rfl i (by simp) (by decide);simp only [List.set_cons_zero,List.set_cons_succ,List.nil_append] at g;have b0:=g.get 0 rfl;have b1:=g.get 1 rfl;rcases g.row 2 rfl with ⟨_,h2,_⟩ | ⟨b,rfl,rfl,hgb⟩
 ·simp at h2
 have g3:=g.setBlk 0 rfl ⟨[lv encG l,.slice (some ⟨b,0,none⟩) 1 1],1,false⟩;simp only [List.set_cons_zero,List.set_cons_succ] at g3;have e2:apR 1 8 s1 (.slice (some ⟨H1.n,0,none⟩) 1 1) (H1.push ⟨[.int .i64 i],1,false⟩) = .ok (.slice (some ⟨b,0,none⟩) 1 1) H2:=e2;obtain ⟨H3,hH3⟩:∃ H3,H3 = H2.set H.n (some ⟨[lv encG l,.slice (some ⟨b,0,none⟩) 1 1],1,false⟩):=⟨_,rfl⟩
 rw [← hH3] at g3;have q3:=g3.get 0 rfl;have q31:=g3.get 1 rfl;have g5:=g3.setBlk 1 rfl ⟨[lv encG l,.slice (some ⟨b,0,none⟩) 1 1],1,false⟩;simp only [List.set_cons_zero,List.set_cons_succ] at g5;obtain ⟨H5,hH5⟩:∃ H5,H5 = H3.set (H.n + 1) (some ⟨[lv encG l,.slice (some ⟨b,0,none⟩) 1 1],1,false⟩):=⟨_,rfl⟩
 rw [← hH5] at g5;have q5:=g5.get 1 rfl;obtain ⟨L,hf⟩:=(g5.own 2 rfl).freeze encI_len (fun n hn v hv => ζ6c _ n hn v hv) 5;have hfa:fzV H.n _ fzDepth (.agg #[lv encG l,.slice (some ⟨b,0,none⟩) 1 1]) = some (kep17V l (pushP i []),[] ++ (L ++ [])):=fz_agg (l:=[lv encG l,_]) (r:=kep17C l (pushP i [])) (ζw rfl (ζw (by exact hf) mapF_nil));refine nrm_fz (H':=H5) ?_ hfa g5.ext (Flat.kept l _).alive;simp -implicitDefEqProofs (disch:=omega) [ζg,e1,e2,b0,b1,← hH3,q3,q31,← hH5,q5,ζ4h]
def PK (v:Value) (ps:List Int):Prop:=v = lv encI ps.reverse ∨ (ps = [] ∧ v = .slice none 0 0)
theorem PK.len {v:Value} {ps:List Int} (h:PK v ps) (H:Heap):lnS v H = .ok (.int .i64 ps.length) H:=by
 rcases h with rfl | ⟨rfl,rfl⟩
 ·rw [(Sl.lv H 1 ps.reverse).len H,List.length_reverse]
 ·rfl
theorem ζsz (k:Nat) (l:List Gl) {P:Value} {ps:List Int} (hP:PK P ps) (hps:ps.length ≤ 64) (i:Int) (H:Heap):R (T k) F.ζg [.agg #[lv encG l,P],.int .i64 i] H = .ok (.agg #[lv encG l,lv encI (pushP i ps).reverse]) H:=by
 rcases hP with rfl | ⟨rfl,rfl⟩
 ·exact ζnc k l ps hps i H
 ·exact ζr9 k l i H
end Go.Sw
end
section
namespace Go.Sw
open Go.RowKit
theorem veq_Gls (l:List Gl):veq (lv encG l) (lv encG l) = true:=veq_lv fun p _ v hv => by
 simp at hv;rcases hv with rfl | rfl <;> simp
theorem p17_l2 (k:Nat) {H0 H:Heap} {tb kb rb:Nat} {tc rc:List Value} {l:List Gl} {P s:Value} {o:Option Nat} {gone:List Int} (v55 v87 v33 v53:Value) (hl:l.length < 2 ^ 30) (hgl:gone.length < 2 ^ 30)
  (g:Star H0 H [itBlk tb ⟨tc,1,false⟩,itBlk kb ⟨[lv encG l,P],1,false⟩,itBlk rb ⟨rc,1,false⟩,itRow o 1 s encI gone]) :
  ∃ H',loopN (ζ2h k (R (T k))) loopFuel [(2,v55),(3,ptrV tb),(4,ptrV kb),(6,ptrV rb),(7,v87),(8,s),(10,v33),(11,v53),(15,.int .i64 0)] H =
   .ok (.exit 2,[(2,v55),(3,ptrV tb),(4,ptrV kb),(6,ptrV rb),(7,v87),(8,s),(10,v33),(11,v53),(15,.int .i64 gone.length),(95,.bool false)]) H' ∧ Star H0 H' [itBlk tb ⟨tc,1,false⟩,itBlk kb ⟨[lv encG (delG l gone),P],1,false⟩,itBlk rb ⟨rc,1,false⟩,itRow o 1 s encI gone]:=by
 obtain ⟨xx,e',H1,hr1,rfl,rfl,g1⟩:=loop_up (body:=ζ2h k (R (T k))) gone.length
  (fun j e H' => e = [(2,v55),(3,ptrV tb),(4,ptrV kb),(6,ptrV rb),(7,v87),(8,s),(10,v33),(11,v53),(15,.int .i64 j)] ∧ Star H0 H' [itBlk tb ⟨tc,1,false⟩,itBlk kb ⟨[lv encG (delG l (gone.take j)),P],1,false⟩,itBlk rb ⟨rc,1,false⟩,itRow o 1 s encI gone])
  (fun xx e H' => xx = .exit 2 ∧ e = [(2,v55),(3,ptrV tb),(4,ptrV kb),(6,ptrV rb),(7,v87),(8,s),(10,v33),(11,v53),(15,.int .i64 gone.length),(95,.bool false)] ∧ Star H0 H' [itBlk tb ⟨tc,1,false⟩,itBlk kb ⟨[lv encG (delG l gone),P],1,false⟩,itBlk rb ⟨rc,1,false⟩,itRow o 1 s encI gone])
  (e0:=[(2,v55),(3,ptrV tb),(4,ptrV kb),(6,ptrV rb),(7,v87),(8,s),(10,v33),(11,v53),(15,.int .i64 0)]) (H0:=H) ⟨rfl,g⟩ (by omega)
  (fun j e H' hj ⟨he,g⟩ => by
   subst he;have hjl:(j:Int) < gone.length:=by omega
   obtain ⟨z,hz⟩:∃ z,gone[j]? = some z:=⟨_,List.getElem?_eq_getElem hj⟩
   have hsl:=(g.row 3 rfl).sl encI_len;have hln:=hsl.len;obtain ⟨p,i1,i2⟩:=hsl.ix1 encI_len j z hz _ rfl;have i2:=i2 H' (Ext.refl _);have b1:=g.get 1 rfl;have hset:=fun H' => ζnd k (delG l (gone.take j)) (by rw [delG_len]; exact hl) z 65535 H';have hd:delG l (gone.take (j + 1)) = setG (delG l (gone.take j)) z 65535:=by rw [ζ1v hz,ζoh]
   have g2:=g.setBlk 1 rfl ⟨[lv encG (delG l (gone.take (j + 1))),P],1,false⟩;simp only [List.set_cons_zero,List.set_cons_succ] at g2;refine .inl ⟨_,_,?_,rfl,g2⟩;rw [ζ5r,hd];simp -implicitDefEqProofs (disch:=omega) [hln,hjl,b1,i1,i2,hset])
  (fun e H' ⟨he,g⟩ => by
   subst he;have hln:=((g.row 3 rfl).sl encI_len).len;rw [List.take_length] at g;refine ⟨.exit 2,_,H',?_,by simp,rfl,rfl,g⟩;rw [ζ5r];simp -implicitDefEqProofs [hln])
 exact ⟨H1,hr1,g1⟩
theorem ζj6 {v:List Int} (hb:Byt v) {i x:Int} (h:entryS v i = some x):0 ≤ x ∧ x < 65536:=by
 unfold entryS at h;split at h
 ·rename_i hc;injection h with h;obtain ⟨z,hz⟩:∃ z,uS v (2 * i) 2 = some z:=uS_of_in (by unfold inS; rw [decide_eq_true_eq]; omega);rw [gU_some hz] at h;subst h;exact uS_two hb hz
 ·cases h
set_option maxRecDepth 20000 in
set_option maxHeartbeats 4000000 in
theorem ζna (k:Nat) (t:LTab) (ht:t.ok) (r:RMach) (l:List Gl) (hl:l.length < 2 ^ 30) {P:Value} {ps:List Int} (hP:PK P ps) (hkept:KeptOk l.length ps) (a:Int) (ha:0 ≤ a ∧ a < 65536) (hlast:lastB t.acts a = true) (H:Heap) :
  R (T k) F.ζ0 [.agg (r17C r t.acts t.comps t.ligs).toArray,.agg #[lv encG l,P],.int .i64 a] H = .ok (kep17V (perfS t ps a 0 [] l).1 (perfS t ps a 0 [] l).2) H:=by
 obtain ⟨res,hres⟩:∃ res,res = perfS t ps a 0 [] l:=⟨_,rfl⟩
 rw [← hres];have g:=(((Star.nil H).push ⟨r17C r t.acts t.comps t.ligs,1,false⟩).push ⟨[lv encG l,P],1,false⟩).push ⟨[.slice none 0 0,.slice none 0 0],1,false⟩;simp only [List.nil_append,List.cons_append,hn_push] at g;obtain ⟨H3,hH3⟩:∃ H3,H3 = ((H.push ⟨r17C r t.acts t.comps t.ligs,1,false⟩).push ⟨[lv encG l,P],1,false⟩).push ⟨[.slice none 0 0,.slice none 0 0],1,false⟩:=⟨_,rfl⟩
 rw [← hH3] at g;have g:=g.more_row (Ext.refl _) (OwnO.bare encI _ 1) (fun b hb => by cases hb);simp only [List.nil_append,List.cons_append] at g;have hUa:=fun i H' => refU_run k (H:=H') (Sl.lv H' 1 t.acts) ht.byt.1 i 4 (by have:=ht.len; omega) (by omega);have hAc:=fun i H' => at17_run k t.comps ht.byt.2.1 ht.len.2.1 i H';have hAl:=fun i H' => at17_run k t.ligs ht.byt.2.2 ht.len.2.2 i H';have hla:=fun x H' => ζmx k x H';have hvc:=veq_B t.comps
 obtain ⟨xx,e',H1,hr1,hQ⟩:=loop_up (body:=ζ37 k (R (T k))) ps.length
  (fun j e H' => ∃ (l':List Gl) (P' s:Value) (o:Option Nat) (gone:List Int) (sum:Int),e = [(2,.int .i64 (a + j)),(3,ptrV H.n),(4,ptrV (H.n + 1)),(6,ptrV (H.n + 1 + 1)),(7,.int .i64 sum),(8,s)] ∧
   Star H H' [itBlk H.n ⟨r17C r t.acts t.comps t.ligs,1,false⟩,itBlk (H.n + 1) ⟨[lv encG l',P'],1,false⟩,itBlk (H.n + 1 + 1) ⟨[.slice none 0 0,.slice none 0 0],1,false⟩,itRow o 1 s encI gone] ∧
   PK P' (ps.drop j) ∧ perfS t (ps.drop j) (a + j) sum gone l' = res ∧ 0 ≤ sum ∧ sum ≤ 65536 * j ∧ gone.length ≤ j ∧ l'.length = l.length ∧ (j < ps.length → lastB t.acts (a + j) = true))
  (fun xx e H' => (xx = .exit 0 ∧ ∃ (v2 v7 v8 P':Value),e = [(2,v2),(3,ptrV H.n),(4,ptrV (H.n + 1)),(6,ptrV (H.n + 1 + 1)),(7,v7),(8,v8),(20,.bool false)] ∧ Star H H' [itBlk H.n ⟨r17C r t.acts t.comps t.ligs,1,false⟩,itBlk (H.n + 1) ⟨[lv encG res.1,P'],1,false⟩,itBlk (H.n + 1 + 1) ⟨[.slice none 0 0,.slice none 0 0],1,false⟩] ∧ PK P' res.2) ∨
   (xx = .ret ∧ ∃ P':Value,e = [(6,ptrV (H.n + 1 + 1))] ∧ H'.get (H.n + 1 + 1) = some ⟨[lv encG res.1,P'],1,false⟩ ∧ Ext H H' ∧ PK P' res.2))
  (e0:=[(2,.int .i64 a),(3,ptrV H.n),(4,ptrV (H.n + 1)),(6,ptrV (H.n + 1 + 1)),(7,.int .i64 0),(8,bareV)]) (H0:=H3) ⟨l,P,bareV,none,[],0,by simp,g,by simpa using hP,by simpa using hres.symm,Int.le_refl _,by simp,by simp,rfl,fun _ => by simpa using hlast⟩ (by have:=hkept.1; omega)
  (fun j e H' hj ⟨l',P',s,o,gone,sum,he,g,hPj,hpf,hs0,hs1,hgl,hll,hlb⟩ => by
   subst he;have h64:=hkept.1;have hlb:=hlb hj;obtain ⟨i,hi⟩:∃ i,ps[j]? = some i:=⟨_,List.getElem?_eq_getElem hj⟩
   have hd:ps.drop j = i :: ps.drop (j + 1):=by rw [List.drop_eq_getElem_cons hj,(List.getElem?_eq_some_iff.1 hi).2]
   have hib:=hkept.2 i (List.mem_of_getElem? hi);obtain ⟨m,rfl⟩:=Int.eq_ofNat_of_zero_le hib.1;have hm:m < l'.length:=by omega
   obtain ⟨q,hq⟩:∃ q,l'[m]? = some q:=⟨_,List.getElem?_eq_getElem hm⟩
   have hat:atG l' (m:Int) = some q:=by unfold atG; rw [if_pos ⟨by omega,by omega⟩,Int.toNat_natCast]; exact hq
   rw [hd] at hPj hpf;obtain ⟨rest,hrest⟩:∃ rest,rest = ps.drop (j + 1):=⟨_,rfl⟩
   have hrl:rest.length = ps.length - (j + 1):=by rw [hrest,List.length_drop]
   rw [← hrest] at hPj hpf;have hP':P' = lv encI (rest.reverse ++ [(m:Int)]):=by
    rcases hPj with h | ⟨h,_⟩
    ·rw [h,List.reverse_cons]
    ·cases h
   subst hP';have b0:=g.get 0 rfl;have b1:=g.get 1 rfl;have b2:=g.get 2 rfl;have hlp:∀ H',lnS (lv encI (rest.reverse ++ [(m:Int)])) H' = .ok (.int .i64 ((rest.length:Int) + 1)) H':=fun H' => by
    rw [(Sl.lv H' 1 (rest.reverse ++ [(m:Int)])).len H',List.length_append,List.length_reverse,List.length_singleton]; rfl
   have ixp:=fun H' => ixS_lvN encI_len (rest.reverse ++ [(m:Int)]) .i64 rest.length (m:Int) (by rw [List.getElem?_append_right (by simp)]; simp) H';have slp:=fun H' => slS_lv encI_len (rest.reverse ++ [(m:Int)]) none (some (.int .i64 (rest.length:Int))) none 0 rest.length (rest.length + 1) rfl (by simp [boundOf]) (by simp [boundOf]) (by simp) (by omega) (by omega) (by simp) H';have htk:((rest.reverse ++ [(m:Int)]).take rest.length).drop 0 = rest.reverse:=by rw [List.drop_zero,List.take_left' (by simp)]
   rw [htk] at slp;have hw0:IntKind.i64.wrap ((rest.length:Int) + 1 - 1) = (rest.length:Int):=by rw [wrap_i64 (by omega) (by omega)]; omega
   have hgt:(rest.length:Int) + 1 > 0:=by omega
   have hw1:IntKind.i64.wrap (4 * (a + j)) = 4 * (a + j):=wrap_i64 (by omega) (by omega);have hw2:IntKind.i64.wrap (a + j + 1) = a + j + 1:=wrap_i64 (by omega) (by omega);obtain ⟨z,z1,z2,z3⟩:=ζ53.1 hlb;obtain ⟨act,hact⟩:∃ act,uS t.acts (4 * (a + j)) 4 = some act:=uS_of_in (by unfold inS; rw [decide_eq_true_eq]; omega);have hab:=uS_four ht.byt.1 hact;have hga:=gU_some hact;have hua:=hUa (4 * (a + j));rw [hact] at hua;simp only [Option.getD_some] at hua;have hoff:=fun H' => ζo4 k act hab.1 (by omega) H';have ixg:=fun H' => ixS_lvN encG_len l' .i64 m q hq H';have hvg:=veq_Gls l';have g1:=g.setBlk 1 rfl ⟨[lv encG l',lv encI rest.reverse],1,false⟩;simp only [List.set_cons_zero,List.set_cons_succ] at g1;obtain ⟨H4,hH4⟩:∃ H4,H4 = H'.set (H.n + 1) (some ⟨[lv encG l',lv encI rest.reverse],1,false⟩):=⟨_,rfl⟩
   rw [← hH4] at g1;have c0:=g1.get 0 rfl;have c1:=g1.get 1 rfl;have c2:=g1.get 2 rfl;unfold perfS at hpf;rw [hat,hga] at hpf;simp only [Option.getD_some] at hpf
   -- it ends with what is there
   have stop:(l',rest) = res → ∀ H5,H5 = H4.set (H.n + 1 + 1) (some ⟨[lv encG l',lv encI rest.reverse],1,false⟩) → H5.get (H.n + 1 + 1) = some ⟨[lv encG res.1,lv encI rest.reverse],1,false⟩ ∧ Ext H H5 ∧ PK (lv encI rest.reverse) res.2:=fun hh H5 h5 => by
    have g2:=g1.setBlk 2 rfl ⟨[lv encG l',lv encI rest.reverse],1,false⟩;rw [← h5] at g2;rw [← hh];exact ⟨g2.get 2 rfl,g2.ext,.inl rfl⟩
   have q1:=fun H => bin_quo Prog 3 H .i64 act 1073741824 (by decide);rw [show IntKind.i64.wrap (act.tdiv 1073741824) = act / 1073741824 by rw [Int.tdiv_eq_ediv_of_nonneg hab.1]; exact wrap_i64 (by omega) (by omega)] at q1;have q2:=fun H => bin_rem Prog 3 H .i64 (act / 1073741824) 2 (by decide);rw [show (act / 1073741824).tmod 2 = act / 1073741824 % 2 from Int.tmod_eq_emod_of_nonneg (by omega)] at q2;cases hE:entryS t.comps (IntKind.i64.wrap (q.id + offS act)) with
   | none =>
    rw [hE] at hpf;have hac:=fun H' => hAc (IntKind.i64.wrap (q.id + offS act)) H';rw [hE] at hac;simp only [Option.getD_none] at hac;obtain ⟨f1,f2,f3⟩:=stop hpf _ rfl;refine .inr ⟨.ret,_,_,?_,by simp,.inr ⟨rfl,_,rfl,f1,f2,f3⟩⟩;rw [ζ1j];simp -implicitDefEqProofs (disch:=omega) [b0,b1,b2,hlp,hgt,hw0,ixp,slp,← hH4,c0,c1,c2,hw1,hw2,hua,ixg,hoff,hac,hvc,hvg]
   | some part =>
    rw [hE] at hpf;have hac:=fun H' => hAc (IntKind.i64.wrap (q.id + offS act)) H';rw [hE] at hac;simp only [Option.getD_some] at hac;have hpb:=ζj6 ht.byt.2.1 hE;have hpn:¬ part < 0:=by omega
    have hw3:IntKind.i64.wrap (sum + part) = sum + part:=wrap_i64 (by omega) (by omega);dsimp only at hpf;by_cases d:act ≥ 1073741824
    ·rw [if_pos d] at hpf;cases hL:entryS t.ligs (sum + part) with
     | none =>
      rw [hL] at hpf;have hal:=fun H' => hAl (sum + part) H';rw [hL] at hal;simp only [Option.getD_none] at hal;obtain ⟨f1,f2,f3⟩:=stop hpf _ rfl;refine .inr ⟨.ret,_,_,?_,by simp,.inr ⟨rfl,_,rfl,f1,f2,f3⟩⟩;rw [ζ1j];by_cases dl:act ≥ 2147483648
      ·simp -implicitDefEqProofs (disch:=omega) [b0,b1,b2,hlp,hgt,hw0,ixp,slp,← hH4,c0,c1,c2,hw1,hw2,hua,ixg,hoff,hac,hvc,hvg,hpn,hw3,hla,dl,hal]
      ·have hb:(act / 1073741824 % 2 == 1) = true:=by rw [beq_iff_eq]; omega
       simp -implicitDefEqProofs (disch:=omega) [b0,b1,b2,hlp,hgt,hw0,ixp,slp,← hH4,c0,c1,c2,hw1,hw2,hua,ixg,hoff,hac,hvc,hvg,hpn,hw3,hla,dl,q1,q2,hb,hal]
     | some id =>
      rw [hL] at hpf;dsimp only at hpf;have hal:=fun H' => hAl (sum + part) H';rw [hL] at hal;simp only [Option.getD_some] at hal;have hib2:=ζj6 ht.byt.2.2 hL;have hidn:¬ id < 0:=by omega
      have hset:=fun H' => ζnd k l' (by omega) (m:Int) id H';have g2:=g1.setBlk 1 rfl ⟨[lv encG (setG l' (m:Int) id),lv encI rest.reverse],1,false⟩;simp only [List.set_cons_zero,List.set_cons_succ] at g2;obtain ⟨H5,hH5⟩:∃ H5,H5 = H4.set (H.n + 1) (some ⟨[lv encG (setG l' (m:Int) id),lv encI rest.reverse],1,false⟩):=⟨_,rfl⟩
      rw [← hH5] at g2;have c5:=g2.get 1 rfl;have hjoin:=ζq4 k (setG l' (m:Int) id) (by rw [setG_len]; omega) (m:Int) ((g2.row 3 rfl).sl encI_len) (by omega);have g3:=g2.setBlk 1 rfl ⟨[lv encG (joinG (setG l' (m:Int) id) (m:Int) gone),lv encI rest.reverse],1,false⟩;simp only [List.set_cons_zero,List.set_cons_succ] at g3;obtain ⟨H6,hH6⟩:∃ H6,H6 = H5.set (H.n + 1) (some ⟨[lv encG (joinG (setG l' (m:Int) id) (m:Int) gone),lv encI rest.reverse],1,false⟩):=⟨_,rfl⟩
      rw [← hH6] at g3;obtain ⟨H7,e7,g4⟩:=p17_l2 k (.int .i64 (a + j + 1)) (.int .i64 (sum + part)) (.int .i64 (m:Int)) (.int .i64 act) (by rw [ζgp,setG_len]; omega) (by omega) g3;have hst:delG (joinG (setG l' (m:Int) id) (m:Int) gone) gone = storeG l' (m:Int) id gone:=rfl;rw [hst] at g4;have c7:=g4.get 1 rfl;have c72:=g4.get 2 rfl;by_cases dl:act ≥ 2147483648
      ·rw [if_pos dl] at hpf;have hpush:=fun H' => ζnc k (storeG l' (m:Int) id gone) rest (by omega) (m:Int) H';have g5:=g4.setBlk 2 rfl ⟨kep17C (storeG l' (m:Int) id gone) (pushP (m:Int) rest),1,false⟩;refine .inr ⟨.ret,_,H7.set (H.n + 1 + 1) (some ⟨kep17C (storeG l' (m:Int) id gone) (pushP (m:Int) rest),1,false⟩),?_,by simp,.inr ⟨rfl,lv encI (pushP (m:Int) rest).reverse,rfl,?_,g5.ext,?_⟩⟩
       ·rw [ζ1j];simp -implicitDefEqProofs (disch:=omega) [b0,b1,b2,hlp,hgt,hw0,ixp,slp,← hH4,c0,c1,c2,hw1,hw2,hua,ixg,hoff,hac,hvc,hvg,hpn,hw3,hla,dl,hal,hidn,hset,← hH5,c5,hjoin,← hH6,e7,ζ4z,ζ5q,c7,c72,hpush]
       ·rw [← hpf]; exact g5.get 2 rfl
       ·rw [← hpf]; exact .inl rfl
      ·rw [if_neg dl] at hpf;have hb:(act / 1073741824 % 2 == 1) = true:=by rw [beq_iff_eq]; omega
       have g5:=(g4.take 3).more_row (Ext.refl _) (OwnO.bare encI _ 1) (fun b hb => by cases hb);simp only [List.take_succ_cons,List.take_zero,List.cons_append,List.nil_append] at g5;obtain ⟨s8,o8,H8,e8,g8⟩:=g5.append1 3 (bytes:=8) encI_len rfl (m:Int) (by simp) (by decide);simp only [List.set_cons_zero,List.set_cons_succ,List.nil_append] at g8;refine .inl ⟨_,H8,?_,storeG l' (m:Int) id gone,lv encI rest.reverse,s8,o8,[(m:Int)],sum + part,rfl,g8,.inl (by rw [hrest]),?_,by omega,by omega,by simp,by rw [ζk9,hll],fun hj2 => ?_⟩
       ·rw [ζ1j];simp -implicitDefEqProofs (disch:=omega) [b0,b1,b2,hlp,hgt,hw0,ixp,slp,← hH4,c0,c1,c2,hw1,hw2,hua,ixg,hoff,hac,hvc,hvg,hpn,hw3,hla,dl,q1,q2,hb,hal,hidn,hset,← hH5,c5,hjoin,← hH6,e7,ζ4z,ζ5q,e8];omega
       ·rw [← hpf,hrest];congr 1;omega
       ·refine ζ53.2 ⟨z,?_,z2,z3⟩;by_cases hz:(z:Int) = a + j
        ·rw [hz,hga] at z3; omega
        ·omega
    ·rw [if_neg d] at hpf;have dl:¬ act ≥ 2147483648:=by omega
     have hb:(act / 1073741824 % 2 == 1) = false:=by rw [beq_eq_false_iff_ne]; omega
     obtain ⟨s8,o8,H8,e8,g8⟩:=g1.append1 3 (bytes:=8) encI_len rfl (m:Int) (by omega) (by decide);simp only [List.set_cons_zero,List.set_cons_succ] at g8;refine .inl ⟨_,H8,?_,l',lv encI rest.reverse,s8,o8,gone ++ [(m:Int)],sum + part,rfl,g8,.inl (by rw [hrest]),?_,by omega,by omega,by simp; omega,hll,fun hj2 => ?_⟩
     ·rw [ζ1j];simp -implicitDefEqProofs (disch:=omega) [b0,b1,b2,hlp,hgt,hw0,ixp,slp,← hH4,c0,c1,c2,hw1,hw2,hua,ixg,hoff,hac,hvc,hvg,hpn,hw3,hla,dl,q1,q2,hb,ζar,e8];omega
     ·rw [← hpf,hrest];congr 1;omega
     ·refine ζ53.2 ⟨z,?_,z2,z3⟩;by_cases hz:(z:Int) = a + j
      ·rw [hz,hga] at z3; omega
      ·omega)
  (fun e H' ⟨l',P',s,o,gone,sum,he,g,hPj,hpf,hs0,hs1,hgl,hll,hlb⟩ => by
   subst he;rw [List.drop_length] at hPj hpf;have b1:=g.get 1 rfl;have hlp:=hPj.len;have hr:(l',([]:List Int)) = res:=hpf;rw [← hr];refine ⟨.exit 0,_,H',?_,by simp,.inl ⟨rfl,.int .i64 (a + (ps.length:Int)),.int .i64 sum,s,P',rfl,by simpa using g.take 3,hPj⟩⟩;rw [ζ1j];simp -implicitDefEqProofs (disch:=omega) [b1,hlp])
 rw [ζge];have fin:∀ P':Value,PK P' res.2 → ∀ H':Heap,fzV H.n H' fzDepth (.agg #[lv encG res.1,P']) = some (kep17V res.1 res.2,[]):=fun P' hP' H' => by
  rcases hP' with rfl | ⟨h,rfl⟩
  ·rfl
  ·rw [h];exact fz_agg (l:=[lv encG res.1,.slice none 0 0]) (r:=kep17C res.1 []) (ζw (L1:=[]) rfl (ζw (L1:=[]) (by simp [fzV,lv,rows]) mapF_nil))
 have al:Alive H (kep17V res.1 res.2):=(Flat.kept res.1 res.2).alive;rcases hQ with ⟨rfl,v2,v7,v8,P',rfl,g1,hP'⟩ | ⟨rfl,P',rfl,hg,hx,hP'⟩
 ·have c1:=g1.get 1 rfl;have c2:=g1.get 2 rfl;have g2:=g1.setBlk 2 rfl ⟨[lv encG res.1,P'],1,false⟩;obtain ⟨H5,hH5⟩:∃ H5,H5 = H1.set (H.n + 1 + 1) (some ⟨[lv encG res.1,P'],1,false⟩):=⟨_,rfl⟩
  rw [← hH5] at g2;have c5:=g2.get 2 rfl;refine nrm_fz (v:=.agg #[lv encG res.1,P']) (H':=H5) ?_ (fin P' hP' _) g2.ext al;rw [hH3] at hr1;simp -implicitDefEqProofs (disch:=omega) [ζ0,hr1,ζa9,c1,c2,← hH5,c5]
 ·refine nrm_fz (v:=.agg #[lv encG res.1,P']) (H':=H1) ?_ (fin P' hP' _) hx al;rw [hH3] at hr1;simp -implicitDefEqProofs (disch:=omega) [ζ0,hr1,ζas,hg]
end Go.Sw
end
section
namespace Go.Sw
open Go.RowKit
set_option maxRecDepth 20000 in
set_option maxHeartbeats 4000000 in
theorem ζt6 (k:Nat) {b:List Int} (hb:Byt b) (hbl:b.length < 2 ^ 31) {g:Int} (hg:1 ≤ g ∧ g ≤ 65535) (t:LTab) (ht:t.ok) (h:machS b g 1 = some t.m) (gl:List Gl) (hgl:gl.length < 2 ^ 24) (H:Heap) :
  R (T k) F.ζs [.agg (r17C (rmOf b g 1 t.m) t.acts t.comps t.ligs).toArray,lv encG gl] H = .ok (.tuple #[lv encG (runL t gl).1,.int .i64 (runL t gl).2]) H:=by
 rw [ζke];obtain ⟨N,hN⟩:∃ N,N = 2 * gl.length + 128:=⟨_,rfl⟩
 have hpure:=doc_runG t.m (fun s:List Gl × List Int => s.1) (fun s i e => (doLi t s i e,i,i + 1)) (N:Int) N (gl,[]) ⟨0,0,0,0,N,false,0⟩ rfl rfl (Int.le_refl _) rfl (by dsimp only; omega) (by dsimp only; omega);have hrun:runL t gl = ((docRG t.m (fun s:List Gl × List Int => s.1) (fun s i e => (doLi t s i e,i,i + 1)) N ((gl,[]),⟨0,0,0,0,N,false,0⟩)).1.1,(docRG t.m (fun s:List Gl × List Int => s.1) (fun s i e => (doLi t s i e,i,i + 1)) N ((gl,[]),⟨0,0,0,0,N,false,0⟩)).2.code):=by
  unfold runL runLr;rw [show (2 * (gl.length:Int) + 128) = (N:Int) by omega,← hN];have:runD t.m (fun s:List Gl × List Int => s.1) (fun s i e => (doLi t s i e,i,i + 1)) (N:Int) N ((gl,[]),⟨0,0,0,0⟩) = _:=hpure;rw [this]
 rw [hrun];clear hrun hpure;have hnext:=fun y hy hp l hl H' => Next_run k hb hg (.inr (.inl rfl)) hbl ht.m h y hy hp l hl H';have hbegin:=fun H' => ζrt k gl.length (by omega) (by omega) H';rw [show (2 * (gl.length:Int) + 128) = (N:Int) by omega] at hbegin;generalize rmOf b g 1 t.m = rm at hnext ⊢;have st:=(((Star.nil H).push ⟨r17C rm t.acts t.comps t.ligs,1,false⟩).push ⟨wayC ⟨0,0,0,0,N,false,0⟩,1,false⟩).push ⟨[lv encG gl,.slice none 0 0],1,false⟩;simp only [List.nil_append,List.cons_append,hn_push] at st
 obtain ⟨xx,e',H1,hr1,rfl,rfl,P1,g1⟩:=doc_loop (body:=ζ7a k (R (T k))) t.m ht.m (fun s:List Gl × List Int => s.1) (fun s i e => (doLi t s i e,i,i + 1)) N (by omega) (by omega)
  (fun x e H' => ∃ P,e = [(2,ptrV H.n),(6,ptrV (H.n + 1)),(7,ptrV (H.n + 1 + 1))] ∧ PK P x.1.2 ∧ Star H H' [itBlk H.n ⟨r17C rm t.acts t.comps t.ligs,1,false⟩,itBlk (H.n + 1) ⟨wayC x.2,1,false⟩,itBlk (H.n + 1 + 1) ⟨[lv encG x.1.1,P],1,false⟩])
  (fun s => s.1.length = gl.length ∧ KeptOk (gl.length:Int) s.2)
  (fun x xx e H' => xx = .exit 0 ∧ e = [(2,ptrV H.n),(6,ptrV (H.n + 1)),(7,ptrV (H.n + 1 + 1)),(17,.bool false)] ∧ ∃ P,Star H H' [itBlk H.n ⟨r17C rm t.acts t.comps t.ligs,1,false⟩,itBlk (H.n + 1) ⟨wayC x.2,1,false⟩,itBlk (H.n + 1 + 1) ⟨[lv encG x.1.1,P],1,false⟩])
  (fun x e H' ⟨P,he,_,g⟩ _ hov => by
   subst he;have b2:=g.get 1 rfl;refine ⟨.exit 0,_,H',?_,by simp,rfl,rfl,P,g⟩;rw [ζ4q];simp -implicitDefEqProofs (disch:=omega) [b2,hov])
  (fun s y en e H' ⟨P,he,hP,g⟩ hI hov n1 n2 n3 n4 n5 n6 hmem hen => by
   subst he;obtain ⟨lj,ks⟩:=s;obtain ⟨k1,kk2⟩:=hI;dsimp only at k1 kk2 g hen hP ⊢;have i1:=doLi_len t (lj,ks) y.pl en;have i2:=ζoi t (n:=(gl.length:Int)) (s:=(lj,ks)) (by dsimp only; omega) kk2 n1 en;dsimp only at i1;have hent:=ht.m.ent _ hmem;have hhas:=ht.has _ hmem;have hne:=hnext y hov n1 lj (by omega);have hee:encEA (stepS t.m y.st (clsS t.m lj y.pl).1) = encE (entS t.m lj (drvW y)):=rfl;rw [hee,← hen] at hne;generalize (stepS t.m y.st (clsS t.m lj y.pl).1).isSome = zz at hne;have b1:=g.get 0 rfl;have b2:=g.get 1 rfl;have b3:=g.get 2 rfl;have hgo:=fun H' => Go_run k y en (gl.length:Int) y.pl (y.pl + 1) (by omega) ⟨hent.2.2.1,hent.2.2.2.1⟩ H';have q1:=fun H => bin_quo Prog 3 H .i64 en.flags 8192 (by decide);rw [Int.tdiv_eq_ediv_of_nonneg hent.2.2.1] at q1;have q2:=fun H => bin_rem Prog 3 H .i64 (en.flags / 8192) 2 (by decide);rw [Int.tmod_eq_emod_of_nonneg (by omega)] at q2;have hst:0 ≤ en.a ∧ en.a < 65536:=by have:=hent; omega
   obtain ⟨z,hz⟩:∃ z,z = goS y en (gl.length:Int) y.pl (y.pl + 1):=⟨_,rfl⟩
   rw [show (lj.length:Int) = (gl.length:Int) by rw [k1],← hz];rw [← hz] at hgo;have st2:=g.push ⟨encEn en,1,false⟩;simp only [List.cons_append,List.nil_append] at st2;have hnn:¬ H.n + 1 = H'.n:=by have:=Heap.get_lt b2; omega
   have hnm:¬ H.n = H'.n:=by have:=Heap.get_lt b1; omega
   have hno:¬ H.n + 1 + 1 = H'.n:=by have:=Heap.get_lt b3; omega
   have hov':(!y.over) = true:=by rw [hov]; rfl
   have hw1:IntKind.i64.wrap (y.pl + 1) = y.pl + 1:=wrap_i64 (by omega) (by omega);have hlnj:∀ H',lnS (lv encG lj) H' = .ok (.int .i64 gl.length) H':=fun H' => by rw [(Sl.lv H' 2 lj).len H',k1]
   obtain ⟨kp,hkp⟩:∃ kp,kp = if en.flags ≥ 32768 ∧ y.pl < (lj.length:Int) then pushP y.pl ks else ks:=⟨_,rfl⟩
   have hdo:doLi t (lj,ks) y.pl en = if en.flags / 8192 % 2 = 1 then perfS t kp en.a 0 [] lj else (lj,kp):=by
    unfold doLi;rw [hkp]
   have hkok:KeptOk (gl.length:Int) kp:=by
    rw [hkp];split
    ·rename_i hc; exact pushP_ok kk2 ⟨n1,by omega⟩
    ·exact kk2
   have fin:∀ (H2:Heap) (P2:Value),PK P2 kp → Star H H2 [itBlk H.n ⟨r17C rm t.acts t.comps t.ligs,1,false⟩,itBlk (H.n + 1) ⟨wayC y,1,false⟩,itBlk (H.n + 1 + 1) ⟨[lv encG lj,P2],1,false⟩,itBlk H'.n ⟨encEn en,1,false⟩] →
     ∃ H3 P3,ζ76 k (R (T k)) (ptrV H.n) (ptrV (H.n + 1)) (ptrV (H.n + 1 + 1)) (ptrV H'.n) H2 = .ok (.normal,[(2,ptrV H.n),(6,ptrV (H.n + 1)),(7,ptrV (H.n + 1 + 1))]) H3 ∧
      (∀ a37,ζ77 k (R (T k)) (ptrV H.n) (ptrV (H.n + 1)) (ptrV (H.n + 1 + 1)) (ptrV H'.n) a37 H2 = .ok (.normal,[(2,ptrV H.n),(6,ptrV (H.n + 1)),(7,ptrV (H.n + 1 + 1))]) H3) ∧
      PK P3 (doLi t (lj,ks) y.pl en).2 ∧ Star H H3 [itBlk H.n ⟨r17C rm t.acts t.comps t.ligs,1,false⟩,itBlk (H.n + 1) ⟨wayC z,1,false⟩,itBlk (H.n + 1 + 1) ⟨[lv encG (doLi t (lj,ks) y.pl en).1,P3],1,false⟩]:=by
    intro H2 P2 hP2 g2;have c0:=g2.get 0 rfl;have c1:=g2.get 1 rfl;have c2:=g2.get 2 rfl;have c3:=g2.get 3 rfl;rw [hdo] at i1 i2 ⊢;by_cases d2:en.flags / 8192 % 2 = 1
    ·rw [if_pos d2] at i1 i2 ⊢;have d2':(en.flags / 8192 % 2 == 1) = true:=beq_iff_eq.2 d2;have hperf:=fun H' => ζna k t ht rm lj (by omega) hP2 (by rw [k1]; exact hkok) en.a hst (hhas.resolve_left (fun hh => hh d2)) H';obtain ⟨res,hres⟩:∃ res,res = perfS t kp en.a 0 [] lj:=⟨_,rfl⟩
     rw [← hres] at i1 i2 hperf ⊢;have hlnr:∀ H',lnS (lv encG res.1) H' = .ok (.int .i64 gl.length) H':=fun H' => by rw [(Sl.lv H' 2 res.1).len H',i1,k1]
     have g3:=g2.setBlk 2 rfl ⟨kep17C res.1 res.2,1,false⟩;simp only [List.set_cons_zero,List.set_cons_succ] at g3;obtain ⟨H3,hH3⟩:∃ H3,H3 = H2.set (H.n + 1 + 1) (some ⟨kep17C res.1 res.2,1,false⟩):=⟨_,rfl⟩
     rw [← hH3] at g3;have e1:=g3.get 1 rfl;have e2:=g3.get 2 rfl;have e3:=g3.get 3 rfl;have g4:=(g3.setBlk 1 rfl ⟨wayC z,1,false⟩).take 3;simp only [List.set_cons_zero,List.set_cons_succ,List.take_succ_cons,List.take_zero] at g4;refine ⟨_,_,?_,fun a37 => ?_,.inl rfl,g4⟩
     ·rw [ζ8m];simp -implicitDefEqProofs (disch:=omega) [c0,c1,c2,c3,q1,q2,d2',hperf,← hH3,e1,e2,e3,ζ8o,hlnr,hw1,hgo]
     ·rw [ζ8n];simp -implicitDefEqProofs (disch:=omega) [c0,c1,c2,c3,q1,q2,d2',hperf,← hH3,e1,e2,e3,ζ8o,hlnr,hw1,hgo]
    ·rw [if_neg d2] at i1 i2 ⊢;have d2':(en.flags / 8192 % 2 == 1) = false:=beq_eq_false_iff_ne.2 d2;have g4:=(g2.setBlk 1 rfl ⟨wayC z,1,false⟩).take 3;simp only [List.set_cons_zero,List.set_cons_succ,List.take_succ_cons,List.take_zero] at g4;refine ⟨_,_,?_,fun a37 => ?_,hP2,g4⟩
     ·rw [ζ8m];simp -implicitDefEqProofs (disch:=omega) [c0,c1,c2,c3,q1,q2,d2',ζ8p,hlnj,hw1,hgo]
     ·rw [ζ8n];simp -implicitDefEqProofs (disch:=omega) [c0,c1,c2,c3,q1,q2,d2',ζ8p,hlnj,hw1,hgo]
   by_cases d1:en.flags ≥ 32768 ∧ y.pl < (lj.length:Int)
   ·rw [if_pos d1] at hkp;obtain ⟨d1a,d1b⟩:=d1;rw [k1] at d1b;have hpush:=fun H' => ζsz k lj hP kk2.1 y.pl H';rw [← hkp] at hpush;have g3:=st2.setBlk 2 rfl ⟨[lv encG lj,lv encI kp.reverse],1,false⟩;simp only [List.set_cons_zero,List.set_cons_succ] at g3;rw [ζnm,if_neg hno] at g3;obtain ⟨H3,P3,f1,_,f3,f4⟩:=fin _ _ (.inl rfl) g3;refine ⟨_,H3,?_,⟨P3,rfl,f3,f4⟩,⟨by rw [i1,k1],i2⟩,by omega,by omega⟩;rw [ζ4q];simp -implicitDefEqProofs (disch:=omega) [b1,b2,b3,hnn,hnm,hno,hov',hne,d1a,hlnj,d1b,hpush,f1]
   ·rw [if_neg d1] at hkp;rw [← hkp] at hP;obtain ⟨H3,P3,_,f2,f3,f4⟩:=fin _ P hP st2;refine ⟨_,H3,?_,⟨P3,rfl,f3,f4⟩,⟨by rw [i1,k1],i2⟩,by omega,by omega⟩;rw [ζ4q];by_cases d1a:en.flags ≥ 32768
    ·have d1b:¬ y.pl < (gl.length:Int):=fun hh => d1 ⟨d1a,by rw [k1]; exact hh⟩;simp -implicitDefEqProofs (disch:=omega) [b1,b2,b3,hnn,hnm,hno,hov',hne,d1a,hlnj,d1b,f2]
    ·simp -implicitDefEqProofs (disch:=omega) [b1,b2,b3,hnn,hnm,hno,hov',hne,d1a,hlnj,f2])
  (gl,[]) (H0:=((H.push ⟨r17C rm t.acts t.comps t.ligs,1,false⟩).push ⟨wayC ⟨0,0,0,0,N,false,0⟩,1,false⟩).push ⟨[lv encG gl,.slice none 0 0],1,false⟩)
  (e0:=[(2,ptrV H.n),(6,ptrV (H.n + 1)),(7,ptrV (H.n + 1 + 1))]) ⟨_,rfl,.inr ⟨rfl,rfl⟩,st⟩ ⟨rfl,by simp,fun x hx => by simp at hx⟩
 generalize docRG t.m (fun s:List Gl × List Int => s.1) (fun s i e => (doLi t s i e,i,i + 1)) N ((gl,[]),⟨0,0,0,0,N,false,0⟩) = r at hr1 g1 ⊢;have b2:=g1.get 1 rfl;have b3:=g1.get 2 rfl;have hv:=veq_Gls r.1.1;refine nrm_fz (v:=.tuple #[lv encG r.1.1,.int .i64 r.2.code]) (L:=[]) (H':=H1) ?_ rfl g1.ext (Flat.tupleL (.cons (Flat.Gls _) (.cons (.int _ _) .nil))).alive;simp -implicitDefEqProofs (disch:=omega) [ζs,hbegin,hr1,ζfh,b2,b3,hv]
end Go.Sw
end
section
namespace Go.Sw
open Go.RowKit
theorem ζpt {b:List Int} {g:Int} {t:LTab} (h:ligaS b g = some t):machS b g 1 = some t.m:=by
 unfold ligaS at h;obtain ⟨m,hm,h⟩:=Option.bind_eq_some_iff.1 h;obtain ⟨a,ha,h⟩:=Option.bind_eq_some_iff.1 h;obtain ⟨c,hc,h⟩:=Option.bind_eq_some_iff.1 h;obtain ⟨l,hL,h⟩:=Option.bind_eq_some_iff.1 h;split at h
 ·injection h with h;subst h;exact hm
 ·cases h
theorem veq_17 (r:RMach) (a c l:List Int):veq (.agg (r17C r a c l).toArray) (.agg (r17C r a c l).toArray) = true:=veq_agg (l:=r17C r a c l) fun v hv => by
 simp at hv;rcases hv with rfl | rfl | rfl | rfl | rfl | rfl | rfl | rfl | rfl | rfl | rfl | rfl <;> first | exact veq_B _ | exact veq_RP _ | simp
end Go.Sw
end
section
namespace Go.Sw
open Go.RowKit
theorem ownP_own {s k n:Nat} (h:k = s) (hn:n ≤ 2):ownP s k n = .no:=by
 unfold ownP;subst h;have h1:Nat.beq k k = true:=Nat.beq_refl k;have h2:Nat.ble n 2 = true:=Nat.ble_eq_true_of_le hn;rw [h1,h2];rfl
theorem ownP_fz {s k n:Nat} (h:k < 1000000) (hn:2 < n):ownP s k n = .fz:=by
 unfold ownP;have h2:Nat.ble n 2 = false:=by
  cases hb:Nat.ble n 2 with
  | false => rfl
  | true => exact absurd (Nat.le_of_ble_eq_true hb) (by omega)
 rw [h2,Bool.and_false,cond_false];unfold own;rw [show Nat.blt k 1000000 = true from Nat.ble_eq_true_of_le h];rfl
theorem OwnO.frz1 {α:Type} {enc:α → List Value} {H:Heap} {o:Option Nat} {m:Nat} {s:Value} {l:List α} (he:∀ x,(enc x).length = m) (h:OwnO H o m s enc l) (hs:∀ x,x ∈ l → ∀ v,v ∈ enc x → Still v) (d:Nat) (hl:0 < l.length):∃ b,fzV 0 H (d + 2) s = some (lv enc l,[b]):=by
 rcases h with ⟨h0,rfl,hsv⟩ | ⟨b,rfl,rfl,h2⟩
 ·cases hl
 ·refine ⟨b,?_⟩;have hlt:Nat.blt b 0 = false:=by
   cases hb:Nat.blt b 0 with
   | false => rfl
   | true => have:=Nat.le_of_ble_eq_true hb; omega
  unfold fzV;dsimp only;rw [hlt,cond_false,h2];dsimp only;have hlen:(rows enc l).length = l.length * m:=ζk he l;rw [show (false || !Nat.ble (0 + l.length * m) (rows enc l).length) = false from by rw [hlen,Nat.zero_add]; simp,cond_false,List.drop_zero,List.take_of_length_le (by rw [hlen]; exact Nat.le_refl _)];rw [ζ7y (ζgy hs)];rfl
end Go.Sw
end
