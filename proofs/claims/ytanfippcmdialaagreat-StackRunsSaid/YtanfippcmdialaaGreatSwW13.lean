/-
  Functions' forms, and what is proved of them, part 13.
-/
import Derived.Test.YtanfippcmdialaaGreatSwW11
import Derived.Test.YtanfippcmdialaaGreatSwW12
import Derived.Test.YtanfippcmdialaaGreatSwW10
import Derived.Test.YtanfippcmdialaaGreatSwW9
import Derived.Test.YtanfippcmdialaaGreatSwW1
import Derived.Test.YtanfippcmdialaaGreatSwCfg
import Derived.Test.YtanfippcmdialaaGreatSwLib10
import Derived.RangeFuncKeeps
import Derived.RangeFuncLeaves
import Derived.Shelf.Abstract
import Derived.WalkKit
import Derived.OwnWalkIn
import Derived.TacticsInMore
import Derived.LoopNIn
import Derived.LoopIn
import Derived.Tactics
import Derived.Tactics2
import Derived.Defers
import Derived.Recover
import Derived.Laws.Pointers
import Derived.Laws.IdiomCopy
import Derived.Lib.Walk
import Derived.Lib.SliceRun
import Derived.Lib.JoinLaws
import Derived.Lib.AppendZeros
import Derived.Lib.AppendZerosOnto
import Derived.Lib.Overlaps
import Derived.Laws.Externs
import Derived.Laws.NewBlocks
import Derived.Deep.RegionLaw
import Derived.Test.YtanfippcmdialaaGreatSwW4
import Derived.Test.YtanfippcmdialaaGreatSwW8
import Derived.Test.YtanfippcmdialaaGreatSwLib8
import Derived.Eval
set_option linter.unusedSimpArgs false
set_option linter.unusedVariables false
set_option linter.unusedSectionVars false
section
namespace Go.Sw
open Go.RowKit
abbrev r23C (r:RMach) (vs:List Int):List Value:=[lv encB r.b,.int .i64 r.cl,.int .i64 r.rowsAt,.int .i64 r.entsAt,.int .i64 r.states,.int .i64 r.n,.int .i64 r.words,lv encB r.tb,lv encRP r.parts,lv encB vs]
theorem ζc5 (k:Nat) (b:List Int) (g:Int) (H:Heap):R (T k) F.ζy [lv encB b,.int .i64 g] H = nrm .fz H (ζy k (R (T k)) (lv encB b) (.int .i64 g) H) :=
 ζir k _ _ _ _ H [] (ζdw fun v hv => by simp at hv; rcases hv with rfl | rfl <;> trivial)
theorem r23_l2 (k:Nat) {vs:List Int} (hb:Byt vs) (hl:vs.length < 2 ^ 31) {p4 q:Nat} {e:En} (he:0 ≤ e.a ∧ e.a < 65536) (a6 a10:Value) {z:List Value} (hz:z.length = 10) {H:Heap} (hp:H.get p4 = some ⟨z,1,false⟩) (hq:H.get q = some ⟨encEn e,1,false⟩) :
  (∃ env,loopN (ζ30 k (R (T k))) loopFuel [(4,ptrV p4),(6,a6),(8,lv encB vs),(10,a10),(11,ptrV q),(12,.int .i64 e.a)] H = .ok (.exit 2,env) H ∧ entOdd vs e = true ∧
   ((∃ w,env = [(4,ptrV p4),(6,a6),(8,lv encB vs),(10,a10),(11,ptrV q),(12,w),(59,.bool true)]) ∨ (∃ w,env = [(4,ptrV p4),(6,a6),(8,lv encB vs),(10,a10),(11,ptrV q),(12,w),(47,.bool false)]))) ∨
  (loopN (ζ30 k (R (T k))) loopFuel [(4,ptrV p4),(6,a6),(8,lv encB vs),(10,a10),(11,ptrV q),(12,.int .i64 e.a)] H = .ok (.ret,[(4,ptrV p4),(5,.bool false)]) (H.set p4 (some ⟨zC10,1,false⟩)) ∧ entOdd vs e = false):=by
 have hdz:z.drop 10 = []:=List.drop_eq_nil_of_le (by omega);by_cases c:e.a = 65535
 ·left;have hE:entOdd vs e = true:=by unfold entOdd; rw [decide_eq_true c]; rfl
  have c':(e.a != 65535) = false:=by rw [c]; rfl
  obtain ⟨xx,e',H1,hr1,rfl,rfl,rfl⟩:=loop_up (body:=ζ30 k (R (T k))) 0
   (fun j e' H' => e' = [(4,ptrV p4),(6,a6),(8,lv encB vs),(10,a10),(11,ptrV q),(12,.int .i64 e.a)] ∧ H' = H)
   (fun xx e' H' => xx = .exit 2 ∧ e' = [(4,ptrV p4),(6,a6),(8,lv encB vs),(10,a10),(11,ptrV q),(12,.int .i64 e.a),(47,.bool false)] ∧ H' = H)
   (e0:=[(4,ptrV p4),(6,a6),(8,lv encB vs),(10,a10),(11,ptrV q),(12,.int .i64 e.a)]) (H0:=H) ⟨rfl,rfl⟩ (by omega) (fun j e' H' hj _ => by omega)
   (fun e' H' ⟨he',hH⟩ => by
    subst he' hH;refine ⟨.exit 2,_,_,?_,by simp,rfl,rfl,rfl⟩;rw [ζ2s];simp -implicitDefEqProofs (disch:=omega) [hq,c'])
  exact ⟨_,hr1,hE,.inr ⟨_,rfl⟩⟩
 ·have c':(e.a != 65535) = true:=by rw [bne_iff_ne]; exact c
  have hU:=fun i H' => refU_run k (H:=H') (Sl.lv H' 1 vs) hb i 2 (by omega) (by omega);have hEv:entOdd vs e = oddB vs e.a:=by unfold entOdd; rw [decide_eq_false c]; rfl
  obtain ⟨xx,e',H1,hr1,hQ⟩:=loop_up (body:=ζ30 k (R (T k))) vs.length
   (fun j e' H' => e' = [(4,ptrV p4),(6,a6),(8,lv encB vs),(10,a10),(11,ptrV q),(12,.int .i64 (e.a + j))] ∧ H' = H ∧ ∀ i:Nat,e.a ≤ i → (i:Int) < e.a + j → ¬ gU vs (2 * (i:Int)) 2 % 2 = 1)
   (fun xx e' H' => (xx = .exit 2 ∧ (∃ w,e' = [(4,ptrV p4),(6,a6),(8,lv encB vs),(10,a10),(11,ptrV q),(12,w),(59,.bool true)]) ∧ H' = H ∧ entOdd vs e = true) ∨ (xx = .ret ∧ e' = [(4,ptrV p4),(5,.bool false)] ∧ H' = H.set p4 (some ⟨zC10,1,false⟩) ∧ entOdd vs e = false))
   (e0:=[(4,ptrV p4),(6,a6),(8,lv encB vs),(10,a10),(11,ptrV q),(12,.int .i64 e.a)]) (H0:=H) ⟨by simp,rfl,fun i i1 i2 => by omega⟩ (by omega)
   (fun j e' H' hj ⟨he',hH,hno⟩ => by
    subst he' hH;cases hu:uS vs (2 * (e.a + j)) 2 with
    | none =>
     have h16:=hU (2 * (e.a + j)) H';rw [hu] at h16;have h16:R (T k) F.ζ2 [lv encB vs,.int .i64 (2 * (e.a + j)),.int .i64 2] H' = .ok (.int .i64 (-1)) H':=h16;refine .inr ⟨.ret,_,_,?_,by simp,.inr ⟨rfl,rfl,rfl,?_⟩⟩
     ·rw [ζ2s];simp -implicitDefEqProofs (disch:=omega) [hq,c',h16,hp,hz,hdz]
     ·rw [hEv,Bool.eq_false_iff];intro ho;obtain ⟨i,i1,i2,i3⟩:=oddB_iff.1 ho;by_cases hij:(i:Int) < e.a + j
      ·exact hno i i1 hij i3
      ·unfold uS pieceS at hu;rw [if_pos ⟨by omega,by omega,by omega,by omega⟩] at hu;simp at hu
    | some x =>
     have h16:=hU (2 * (e.a + j)) H';rw [hu] at h16;have h16:R (T k) F.ζ2 [lv encB vs,.int .i64 (2 * (e.a + j)),.int .i64 2] H' = .ok (.int .i64 x) H':=h16;have hg:=gU_some hu;have hxb:=uS_two hb hu;have hnn:¬ x < 0:=by omega
     have hr:=fun H => bin_rem Prog 3 H .i64 x 2 (by decide);rw [Int.tmod_eq_emod_of_nonneg hxb.1] at hr;by_cases d:x % 2 = 1
     ·refine .inr ⟨.exit 2,_,H',?_,by simp,.inl ⟨rfl,⟨.int .i64 (e.a + j),rfl⟩,rfl,?_⟩⟩
      ·rw [ζ2s];simp -implicitDefEqProofs (disch:=omega) [hq,c',h16,hnn,hr,d]
      ·rw [hEv];refine oddB_iff.2 ⟨(e.a + j).toNat,by omega,?_,?_⟩
       ·have:=uS_fits hu;omega
       ·rw [show (((e.a + j).toNat:Nat):Int) = e.a + j by omega,hg];exact d
     ·have d':(x % 2 == 1) = false:=by rw [beq_eq_false_iff_ne]; exact d
      have hj1:e.a + ((j + 1:Nat):Int) = e.a + j + 1:=by omega
      refine .inl ⟨_,H',?_,rfl,rfl,fun i i1 i2 => ?_⟩
      ·rw [ζ2s,hj1];simp -implicitDefEqProofs (disch:=omega) [hq,c',h16,hnn,hr,d']
      ·by_cases hij:(i:Int) < e.a + j
       ·exact hno i i1 hij
       ·rw [show (i:Int) = e.a + j by omega,hg];exact d)
   (fun e' H' ⟨he',hH,hno⟩ => by
    subst he' hH;have hu:uS vs (2 * (e.a + vs.length)) 2 = none:=by
     cases h:uS vs (2 * (e.a + vs.length)) 2 with
     | none => rfl
     | some x =>
      have:=uS_fits h;omega
    have h16:=hU (2 * (e.a + vs.length)) H';rw [hu] at h16;have h16:R (T k) F.ζ2 [lv encB vs,.int .i64 (2 * (e.a + vs.length)),.int .i64 2] H' = .ok (.int .i64 (-1)) H':=h16;refine ⟨.ret,_,_,?_,by simp,.inr ⟨rfl,rfl,rfl,?_⟩⟩
    ·rw [ζ2s];simp -implicitDefEqProofs (disch:=omega) [hq,c',h16,hp,hz,hdz]
    ·rw [hEv,Bool.eq_false_iff];intro ho;obtain ⟨i,i1,i2,i3⟩:=oddB_iff.1 ho;exact hno i i1 (by omega) i3)
  rcases hQ with ⟨rfl,⟨w,rfl⟩,rfl,hE⟩ | ⟨rfl,rfl,rfl,hE⟩
  ·exact .inl ⟨_,hr1,hE,.inl ⟨w,rfl⟩⟩
  ·exact .inr ⟨hr1,hE⟩
theorem r23_l1 (k:Nat) {vs:List Int} (hb:Byt vs) (hl:vs.length < 2 ^ 31) {r:RMach} {es:List En} (hes:∀ e,e ∈ es → 0 ≤ e.a ∧ e.a < 65536) (hel:es.length < 65537) (hn:r.n = es.length) (hent:∀ (i:Nat) (e:En),es[i]? = some e → ∀ H',R (T k) F.ζi [rmV r,.int .i64 i] H' = .ok (.agg (encEn e).toArray) H')
  {p4 p6:Nat} {z:List Value} (hz:z.length = 10) {H0 H:Heap} (st:Star H0 H [itBlk p4 ⟨z,1,false⟩,itBlk p6 ⟨rmC r,1,false⟩]) :
  (∃ a b H',loopN (ζ3v k (R (T k))) loopFuel [(4,ptrV p4),(6,ptrV p6),(8,lv encB vs),(10,.int .i64 0)] H = .ok (.exit 0,[(4,ptrV p4),(6,ptrV p6),(8,lv encB vs),(10,a),(37,b)]) H' ∧ Star H0 H' [itBlk p4 ⟨z,1,false⟩,itBlk p6 ⟨rmC r,1,false⟩] ∧ es.all (entOdd vs) = true) ∨
  (∃ H',loopN (ζ3v k (R (T k))) loopFuel [(4,ptrV p4),(6,ptrV p6),(8,lv encB vs),(10,.int .i64 0)] H = .ok (.ret,[(4,ptrV p4),(5,.bool false)]) H' ∧ Star H0 H' [itBlk p4 ⟨zC10,1,false⟩,itBlk p6 ⟨rmC r,1,false⟩] ∧ es.all (entOdd vs) = false):=by
 obtain ⟨rb,rc,ra,re,rs,rn,rw,rt,rp⟩:=r;dsimp only at hn;subst hn
 obtain ⟨xx,e',H1,hr1,hQ⟩:=loop_up (body:=ζ3v k (R (T k))) es.length
  (fun j e' H' => e' = [(4,ptrV p4),(6,ptrV p6),(8,lv encB vs),(10,.int .i64 j)] ∧ Star H0 H' [itBlk p4 ⟨z,1,false⟩,itBlk p6 ⟨rmC ⟨rb,rc,ra,re,rs,(es.length:Int),rw,rt,rp⟩,1,false⟩] ∧ (es.take j).all (entOdd vs) = true)
  (fun xx e' H' => (xx = .exit 0 ∧ (∃ a b,e' = [(4,ptrV p4),(6,ptrV p6),(8,lv encB vs),(10,a),(37,b)]) ∧ Star H0 H' [itBlk p4 ⟨z,1,false⟩,itBlk p6 ⟨rmC ⟨rb,rc,ra,re,rs,(es.length:Int),rw,rt,rp⟩,1,false⟩] ∧ es.all (entOdd vs) = true) ∨ (xx = .ret ∧ e' = [(4,ptrV p4),(5,.bool false)] ∧ Star H0 H' [itBlk p4 ⟨zC10,1,false⟩,itBlk p6 ⟨rmC ⟨rb,rc,ra,re,rs,(es.length:Int),rw,rt,rp⟩,1,false⟩] ∧ es.all (entOdd vs) = false))
  (e0:=[(4,ptrV p4),(6,ptrV p6),(8,lv encB vs),(10,.int .i64 0)]) (H0:=H) ⟨rfl,st,rfl⟩ (by omega)
  (fun j e' H' hj ⟨he',st,hall⟩ => by
   subst he';have hjl:(j:Int) < es.length:=by omega
   obtain ⟨en,hen⟩:∃ en,es[j]? = some en:=⟨_,List.getElem?_eq_getElem hj⟩
   have hmem:=List.mem_of_getElem? hen;have hE:=hent j en hen;have g4:=st.get 0 rfl;have g6:=st.get 1 rfl;have st2:=st.push ⟨encEn en,1,false⟩;simp only [List.cons_append,List.nil_append] at st2;have hne:¬ p6 = H'.n:=by have:=Heap.get_lt g6; omega
   rcases r23_l2 k hb hl (hes en hmem) (p4:=p4) (q:=H'.n) (ptrV p6) (.int .i64 j) hz (st2.get 0 rfl) (st2.get 2 rfl) with ⟨env,e2,hO,hcase⟩ | ⟨e2,hO⟩
   ·refine .inl ⟨_,_,?_,rfl,by simpa using st2.take 2,?_⟩
    ·rw [ζ4u];rcases hcase with ⟨w,rfl⟩ | ⟨w,rfl⟩
     ·simp -implicitDefEqProofs (disch:=omega) [g6,hjl,hE,e2,ζbs]
     ·simp -implicitDefEqProofs (disch:=omega) [g6,hjl,hE,e2,ζar]
    ·rw [ζ37 hen,List.all_append,hall];simp [hO]
   ·have st3:=st2.setBlk 0 rfl ⟨zC10,1,false⟩;simp only [List.set_cons_zero] at st3;refine .inr ⟨.ret,_,_,?_,by simp,.inr ⟨rfl,rfl,by simpa using st3.take 2,?_⟩⟩
    ·rw [ζ4u];simp -implicitDefEqProofs (disch:=omega) [g6,hjl,hE,e2,ζcw]
    ·rw [Bool.eq_false_iff];intro h;have:=List.all_eq_true.1 h en hmem;rw [hO] at this;cases this)
  (fun e' H' ⟨he',st,hall⟩ => by
   subst he';have g6:=st.get 1 rfl;rw [List.take_length] at hall;refine ⟨.exit 0,_,H',?_,by simp,.inl ⟨rfl,⟨.int .i64 es.length,.bool false,rfl⟩,st,hall⟩⟩;rw [ζ4u];simp -implicitDefEqProofs [g6])
 rcases hQ with ⟨rfl,⟨a,b,rfl⟩,st,hE⟩ | ⟨rfl,rfl,st,hE⟩
 ·exact .inl ⟨a,b,H1,hr1,st,hE⟩
 ·exact .inr ⟨H1,hr1,st,hE⟩
theorem flat23 (r:RMach) (vs:List Int) (x:Bool):Flat (.tuple #[.agg (r23C r vs).toArray,.bool x]) :=
 .tupleL (l:=[.agg (r23C r vs).toArray,.bool x]) (.cons (.aggL (l:=r23C r vs) (.cons (Flat.B _) (.cons (.int _ _) (.cons (.int _ _) (.cons (.int _ _) (.cons (.int _ _) (.cons (.int _ _) (.cons (.int _ _) (.cons (Flat.B _) (.cons (Flat.RPs _) (.cons (Flat.B _) .nil))))))))))) (.cons (.bool _) .nil))
theorem ζtg {b:List Int}:restS b (-1) = none:=by unfold restS; rw [if_neg (by omega)]
set_option maxRecDepth 10000 in
theorem ζnd (k:Nat) (b:List Int) (hb:Byt b) (g:Int) (hg:1 ≤ g ∧ g ≤ 65535) (hl:b.length < 2 ^ 31) (H:Heap) :
  ∃ (r:RMach) (vs:List Int),R (T k) F.ζy [lv encB b,.int .i64 g] H = .ok (.tuple #[.agg (r23C r vs).toArray,.bool (stackS b g).isSome]) H ∧ ∀ t,stackS b g = some t → r = rmOf b g 1 t.m ∧ vs = t.vals:=by
 have u16:=fun H' => refU_run k (H:=H') (Sl.lv H' 1 b) hb 16 4 (by omega) (by omega);have hrm:=fun H' => ζo5 k b hb g 1 hg (.inr (.inl rfl)) hl H';unfold refMachS at hrm;obtain ⟨a16,ha16⟩:∃ a16,a16 = (uS b 16 4).getD (-1):=⟨_,rfl⟩
 rw [← ha16] at u16;have hfr:=fun H' => ζq4 k b a16 H';have hS:stackS b g = (machS b g 1).bind fun m => (restS b a16).bind fun vs => if m.ents.all (entOdd vs) then some ⟨m,vs⟩ else none:=by
  unfold stackS;congr 1;funext m;rw [ha16];cases hu:uS b 16 4 with
  | none =>
   rw [Option.getD_none,ζtg];rfl
  | some p => rfl
 have fl0:Flat (.tuple #[.agg (r23C rmZ []).toArray,.bool false]):=flat23 rmZ [] false;have fz0:∀ H',fzV H.n H' fzDepth (.tuple #[.agg zC10.toArray,.bool false]) = some (.tuple #[.agg (r23C rmZ []).toArray,.bool false],[]):=fun H' => rfl;have g0:=fun (r:RMach) => ((Star.nil H).push ⟨zC10,1,false⟩).push ⟨rmC r,1,false⟩;simp only [List.nil_append,List.cons_append,hn_push] at g0;cases hm:machS b g 1 with
 | none =>
  rw [hm] at hS hrm;simp only [Option.map_none,rmO,Option.getD_none,Option.isSome_none] at hrm;have hS:stackS b g = none:=hS;rw [hS];refine ⟨rmZ,[],?_,fun t h => by cases h⟩;rw [ζc5];refine nrm_fz (H':=(H.push ⟨zC10,1,false⟩).push ⟨rmC rmZ,1,false⟩) ?_ (fz0 _) (g0 rmZ).ext fl0.alive;simp -implicitDefEqProofs (disch:=omega) [ζy,hrm,u16,hfr]
 | some m =>
  have hok:=machS_ok hb hg.1 hg.2 (by omega) hm;have hent:=fun (i:Nat) (e:En) (he:m.ents[i]? = some e) (hi:i ≤ 65536) H' => ζms k hb (.inr (.inl rfl)) hl hm (i:=(i:Int)) (by omega) (by omega) (e:=e) (by simpa using he) H';rw [hm] at hS hrm;simp only [Option.map_some,rmO,Option.getD_some,Option.isSome_some] at hrm;have hn:(rmOf b g 1 m).n = m.ents.length:=rfl;have hfl:Flat (rmV (rmOf b g 1 m)):=Flat.rm _;cases hr:restS b a16 with
  | none =>
   rw [hr] at hS hfr;simp only [Option.getD_none,Option.isSome_none] at hfr;have hS:stackS b g = none:=hS;rw [hS];refine ⟨rmZ,[],?_,fun t h => by cases h⟩;rw [ζc5];generalize rmOf b g 1 m = r at hrm;refine nrm_fz (H':=(H.push ⟨zC10,1,false⟩).push ⟨rmC r,1,false⟩) ?_ (fz0 _) (g0 r).ext fl0.alive;simp -implicitDefEqProofs (disch:=omega) [ζy,hrm,u16,hfr]
  | some vs =>
   rw [hr] at hS hfr;simp only [Option.getD_some,Option.isSome_some] at hfr;have hS:stackS b g = if m.ents.all (entOdd vs) then some ⟨m,vs⟩ else none:=hS
   have hvb:Byt vs:=hb.rest hr;have hvl:vs.length < 2 ^ 31:=by have:=ζai hr; omega
   have hes:∀ e,e ∈ m.ents → 0 ≤ e.a ∧ e.a < 65536:=fun e he => by have:=hok.ent e he; omega
   have helen:=hok.elen;rcases r23_l1 k hvb hvl hes (by omega) hn (fun i e he H' => hent i e he (by have:=(List.getElem?_eq_some_iff.1 he).1; omega) H') (p4:=H.n) (p6:=H.n + 1) (z:=zC10) rfl (g0 (rmOf b g 1 m)) with ⟨a,b',H',e1,st,hall⟩ | ⟨H',e1,st,hall⟩
   ·rw [hall,if_pos rfl] at hS;rw [hS];refine ⟨rmOf b g 1 m,vs,?_,fun t h => by injection h with h; subst h; exact ⟨rfl,rfl⟩⟩
    ·rw [ζc5];generalize rmOf b g 1 m = r at hrm e1 st;have g4:=st.get 0 rfl;have g6:=st.get 1 rfl;have g4s:(H'.get H.n).isSome = true:=by rw [g4]; rfl
     have st2:=st.setBlk 0 rfl ⟨r23C r vs,1,false⟩;refine nrm_fz (H':=H'.set H.n (some ⟨r23C r vs,1,false⟩)) (v:=.tuple #[.agg (r23C r vs).toArray,.bool true]) (L:=[]) ?_ rfl st2.ext ?_
     ·simp -implicitDefEqProofs (disch:=omega) [ζy,hrm,u16,hfr,e1,ζbr,g4,g6,g4s]
     ·exact (flat23 r vs true).alive
   ·rw [hall,if_neg (by decide)] at hS;rw [hS];refine ⟨rmZ,[],?_,fun t h => by cases h⟩;rw [ζc5];generalize rmOf b g 1 m = r at hrm e1 st;have g4:=st.get 0 rfl;refine nrm_fz (H':=H') ?_ (fz0 _) st.ext fl0.alive;simp -implicitDefEqProofs (disch:=omega) [ζy,hrm,u16,hfr,e1,ζcv,g4]
end Go.Sw
end
section
namespace Go.Sw
open Go.RowKit
def KS (c:Nat) (H:Heap) (v:Value) (l:List Int):Prop :=
 (l = [] ∧ v = bareV) ∨ ∃ b off cap k,v = .slice (some ⟨b,off,none⟩) l.length cap ∧ l.length ≤ cap ∧ H.get b = some k ∧ k.esz = 1 ∧ b ≠ c ∧ (k.cells.drop off).take (l.length * 1) = rows encI l
theorem KS.sl {c:Nat} {H:Heap} {v:Value} {l:List Int} (h:KS c H v l):Sl H 1 v encI l:=by
 rcases h with ⟨h1,h2⟩ | ⟨b,off,cap,k,h1,h2,h3,_,_,h4⟩
 ·exact .inr (.inl ⟨h1,.inr (.inl h2)⟩)
 ·exact .inr (.inr ⟨b,off,cap,k,h1,h2,h3,h4⟩)
theorem KS.up {c:Nat} {H H':Heap} {v:Value} {l:List Int} (h:KS c H v l) (he:Ext H H'):KS c H' v l:=by
 rcases h with h | ⟨b,off,cap,k,h1,h2,h3,h4⟩
 ·exact .inl h
 ·exact .inr ⟨b,off,cap,k,h1,h2,he.get h3,h4⟩
theorem KS.set {c:Nat} {H:Heap} {v:Value} {l:List Int} (h:KS c H v l) {k0:Blk} (hc:H.get c = some k0) (k:Option Blk):KS c (H.set c k) v l:=by
 rcases h with h | ⟨b,off,cap,k',h1,h2,h3,h4,hbc,h5⟩
 ·exact .inl h
 ·exact .inr ⟨b,off,cap,k',h1,h2,by rw [Heap.get_set hc,if_neg hbc]; exact h3,h4,hbc,h5⟩
theorem ζbz:∀ l:List Int,rows encI l = l.map (Value.int .i64)
 | [] => rfl
 | a :: l => by rw [List.map_cons,← ζbz l]; rfl
theorem KS.init {c:Nat} {H:Heap} {v:Value} {l:List Int} {x:Int} (h:KS c H v (l ++ [x])):∃ v',slS 1 v none (some (.int .i64 l.length)) none H = .ok v' H ∧ KS c H v' l:=by
 rcases h with ⟨h,_⟩ | ⟨b,off,cap,k,rfl,h2,h3,h4,hbc,h5⟩
 ·simp at h
 ·rw [List.length_append,List.length_singleton] at h2 h5 ⊢;refine ⟨.slice (some ⟨b,off,none⟩) l.length cap,?_,.inr ⟨b,off,cap,k,rfl,by omega,h3,h4,hbc,?_⟩⟩
  ·have hb:boundOf (some (.int .i64 (l.length:Int))) (l.length + 1) = some l.length:=by simp [boundOf]
   unfold slS;dsimp only;rw [hb];simp only [boundOf];rw [if_pos ⟨by omega,by omega,by omega,by simp⟩,if_pos (by unfold openOk; rw [h3]; simp [h4])];simp
  ·have:=congrArg (List.take l.length) h5;rw [ζbz,List.map_append,List.take_take,List.take_left' (by simp),Nat.min_eq_left (by omega)] at this;rw [Nat.mul_one,ζbz];exact this
theorem KS.tail {c:Nat} {H:Heap} {v:Value} {l:List Int} {x:Int} (h:KS c H v (x :: l)):∃ v',slS 1 v (some (.int .i64 1)) none none H = .ok v' H ∧ KS c H v' l:=by
 rcases h with ⟨h,_⟩ | ⟨b,off,cap,k,rfl,h2,h3,h4,hbc,h5⟩
 ·simp at h
 ·rw [List.length_cons] at h2 h5 ⊢;refine ⟨.slice (some ⟨b,off + 1,none⟩) l.length (cap - 1),?_,.inr ⟨b,off + 1,cap - 1,k,rfl,by omega,h3,h4,hbc,?_⟩⟩
  ·have hb:boundOf (some (.int .i64 1)) 0 = some 1:=by simp [boundOf]
   unfold slS;dsimp only;rw [hb];simp only [boundOf];rw [if_pos ⟨by omega,by omega,by omega,by simp⟩,if_pos (by unfold openOk; rw [h3]; simp [h4])];simp
  ·have:=congrArg (List.drop 1) h5;rw [List.drop_take,List.drop_drop,ζbz,List.map_cons,List.drop_succ_cons,List.drop_zero,show (l.length + 1) * 1 - 1 = l.length by omega] at this;rw [Nat.mul_one,ζbz];exact this
theorem OwnO.ks {c:Nat} {H:Heap} {o:Option Nat} {s:Value} {l:List Int} (h:OwnO H o 1 s encI l) (hl:l ≠ []) (hc:∀ b,o = some b → b ≠ c):KS c H s l:=by
 rcases h with ⟨_,h,_⟩ | ⟨b,hb,h1,h2⟩
 ·exact absurd h hl
 ·exact .inr ⟨b,0,_,_,h1,Nat.le_refl _,h2,rfl,hc b hb,by rw [List.drop_zero,Nat.mul_one,List.take_of_length_le (by rw [ζbz]; simp)]⟩
theorem KS.push {c:Nat} {H:Heap} {v:Value} {l:List Int} (h:KS c H v l) (hcn:c < H.n) (hl:l.length ≤ 2 ^ 20) (x:Int) :
  ∃ s1 H1 s2 H2,apR 1 8 bareV v H = .ok s1 H1 ∧ Ext H H1 ∧ apR 1 8 s1 (.slice (some ⟨H1.n,0,none⟩) 1 1) (H1.push ⟨[.int .i64 x],1,false⟩) = .ok s2 H2 ∧ Ext H H2 ∧ KS c H2 s2 (l ++ [x]):=by
 have g:=(Star.nil H).more_row (Ext.refl _) (.inl ⟨rfl,rfl,.inr (.inl rfl)⟩:OwnO H none 1 bareV encI []) (fun b hb => by cases hb);simp only [List.nil_append] at g;obtain ⟨s1,o1,H1,e1,g1⟩:=g.append 0 (bytes:=8) encI_len rfl (ζj9 h.sl.lenL) (h.sl.first encI_len) (by simp; omega) (by decide);simp only [List.set_cons_zero,List.nil_append] at g1;obtain ⟨s2,o2,H2,e2,g2⟩:=g1.append1 0 (bytes:=8) encI_len rfl x (by omega) (by decide);simp only [List.set_cons_zero] at g2;exact ⟨s1,H1,s2,H2,e1,g1.ext,e2,g2.ext,(g2.row 0 rfl).ks (by simp) fun b hb => by have:=(g2.lt 0 rfl b (by subst hb; exact List.mem_singleton.2 rfl)).1; omega⟩
theorem ζte (k:Nat) {vs:List Int} (hbt:Byt vs) (hvl:vs.length < 2 ^ 31) {r:RMach} {c5 c12:Nat} (down cross:Bool) {H:Heap} (h5:H.get c5 = some ⟨r23C r vs,1,false⟩) (a1 a12 a14:Value) (ks:List Int) (hks:ks.length ≤ 8) (v:Value) (hv:KS c12 H v ks.reverse) (l:List Pl) (hll:l.length ≤ 2 ^ 20) (hok:∀ q,q ∈ l → q.ok) (a:Int) (ha:0 ≤ a ∧ a < 65536) (odd:Bool) (res:List Pl × List Int)
  (h1:odd = true → (l,ks) = res) (h2:odd = false → oddB vs a = true ∧ moveS vs down cross ks a l = res) :
  ∃ v' zz,loopN (ζ2r k (R (T k))) loopFuel [(1,a1),(2,lv encP l),(3,.bool down),(4,.bool cross),(5,ptrV c5),(12,a12),(13,v),(14,a14),(16,.bool odd),(17,.int .i64 a)] H =
   .ok (.exit 2,[(1,a1),(2,lv encP res.1),(3,.bool down),(4,.bool cross),(5,ptrV c5),(12,a12),(13,v'),(14,a14),(17,zz),(74,.bool false)]) H ∧ KS c12 H v' res.2.reverse:=by
 obtain ⟨xx,e',H1,hr1,rfl,rfl,v',zz,rfl,hv'⟩:=loop_up (body:=ζ2r k (R (T k))) ks.length
  (fun j e H' => H' = H ∧ ∃ (l':List Pl) (od:Bool) (v':Value),e = [(1,a1),(2,lv encP l'),(3,.bool down),(4,.bool cross),(5,ptrV c5),(12,a12),(13,v'),(14,a14),(16,.bool od),(17,.int .i64 (a + j))] ∧ l'.length ≤ 2 ^ 20 ∧ (∀ q,q ∈ l' → q.ok) ∧ KS c12 H v' (ks.drop j).reverse ∧ (od = true → (l',ks.drop j) = res) ∧ (od = false → oddB vs (a + j) = true ∧ moveS vs down cross (ks.drop j) (a + j) l' = res))
  (fun xx e H' => xx = .exit 2 ∧ H' = H ∧ ∃ v' zz,e = [(1,a1),(2,lv encP res.1),(3,.bool down),(4,.bool cross),(5,ptrV c5),(12,a12),(13,v'),(14,a14),(17,zz),(74,.bool false)] ∧ KS c12 H v' res.2.reverse)
  (e0:=[(1,a1),(2,lv encP l),(3,.bool down),(4,.bool cross),(5,ptrV c5),(12,a12),(13,v),(14,a14),(16,.bool odd),(17,.int .i64 a)]) (H0:=H) ⟨rfl,l,odd,v,by simp,hll,hok,by simpa using hv,by simpa using h1,by simpa using h2⟩ (by omega)
  (fun j e H' hj ⟨hH,l',od,v',he,hl',hq,hkv,i1,i2⟩ => by
   subst he hH;cases od with
   | true =>
    have:=i1 rfl;subst this;refine .inr ⟨.exit 2,_,H',?_,by simp,rfl,rfl,v',.int .i64 (a + j),rfl,hkv⟩;rw [ζ41];simp -implicitDefEqProofs
   | false =>
    obtain ⟨ho,hm⟩:=i2 rfl;obtain ⟨x,hx⟩:∃ x,ks[j]? = some x:=⟨_,List.getElem?_eq_getElem hj⟩
    have hd:ks.drop j = x :: ks.drop (j + 1):=by rw [List.drop_eq_getElem_cons hj,(List.getElem?_eq_some_iff.1 hx).2]
    rw [hd] at hm hkv;rw [List.reverse_cons] at hkv;obtain ⟨n,hn⟩:∃ n,n = (ks.drop (j + 1)).reverse.length:=⟨_,rfl⟩
    have hn8:n ≤ 8:=by rw [hn,List.length_reverse,List.length_drop]; omega
    have hwn:IntKind.i64.wrap (n:Int) = n:=wrap_i64 (by omega) (by omega);have hlen:=hkv.sl.len;rw [List.length_append,List.length_singleton,← hn] at hlen;have hlen:∀ H',lnS v' H' = .ok (.int .i64 ((n:Int) + 1)) H':=by
     intro H';have:=hlen H'
     rwa [show ((n + 1:Nat):Int) = (n:Int) + 1 from rfl] at this
    obtain ⟨p,p1,p2⟩:=hkv.sl.ix1 encI_len n x (by rw [hn,List.getElem?_append_right (Nat.le_refl _),Nat.sub_self]; rfl) _ rfl;have p2:=p2 H' (Ext.refl _);obtain ⟨v2,s1,hkv2⟩:=hkv.init;rw [← hn] at s1;obtain ⟨o1,o2,o3,o4⟩:=odd_next hbt (by omega) ho;have hu:=fun H' => refU_run k (H:=H') (Sl.lv H' 1 vs) hbt (2 * (a + j)) 2 (by omega) (by omega);rw [o2] at hu;simp only [Option.getD_some] at hu;have hvv:valV vs (a + j) = s16 (gU vs (2 * (a + j)) 2) - s16 (gU vs (2 * (a + j)) 2) % 2:=rfl;have hlv:lastS vs (a + j) = decide (s16 (gU vs (2 * (a + j)) 2) % 2 = 1):=rfl;have hub:=uS_two hbt o2;have hpar:s16 (gU vs (2 * (a + j)) 2) % 2 = gU vs (2 * (a + j)) 2 % 2:=by unfold s16; split <;> omega
    have hlen0:(n:Int) + 1 > 0:=by omega
    have hm:(if lastS vs (a + j) then (onePl down cross l' x (valV vs (a + j)),ks.drop (j + 1)) else moveS vs down cross (ks.drop (j + 1)) (a + j + 1) (onePl down cross l' x (valV vs (a + j)))) = res:=hm;have hq3:=onePl_ok hq down cross x (valV vs (a + j));have hl3:(onePl down cross l' x (valV vs (a + j))).length ≤ 2 ^ 20:=by rw [ζm7]; exact hl'
    have hvb:-32770 ≤ valV vs (a + j) ∧ valV vs (a + j) < 32768:=by rw [hvv]; omega
    have hs16:=fun H' => ζrk k (gU vs (2 * (a + j)) 2) (by omega) (by omega) H';have q1:=fun H => bin_rem Prog 3 H .i64 (gU vs (2 * (a + j)) 2) 2 (by decide);rw [Int.tmod_eq_emod_of_nonneg (by omega)] at q1;have hmore:=fun y H' => ζc6 k l' x y 0 0 hl' hq H';have hlev:=fun H' => ζo6 k l' down x hl' H';have hac:=fun y H' => ζne k l' down x y hl' hq H';have hone:∀ (vx:Int),(cross = false → onePl down cross l' x vx = updPl l' x fun p => ⟨addI p.adv vx,addI p.x 0,addI p.y 0⟩) ∧ (cross = true → vx = -32768 → onePl down cross l' x vx = levelPl l' down x) ∧ (cross = true → vx ≠ -32768 → onePl down cross l' x vx = acrossPl l' down x vx):=by
     intro vx;refine ⟨fun c => ?_,fun c c2 => ?_,fun c c2 => ?_⟩
     ·unfold onePl;rw [if_pos c];exact ζhy hq x fun p hp => by rw [addI_0 hp.2.1,addI_0 hp.2.2]
     ·unfold onePl;rw [if_neg (by rw [c]; decide),if_pos c2]
     ·unfold onePl acrossPl;rw [if_neg (by rw [c]; decide),if_neg c2];cases down with
      | true => rw [if_pos rfl]; exact ζhy hq x fun p hp => by rw [if_pos rfl,addI_0 hp.1,addI_0 hp.2.2]
      | false => rw [if_neg (by decide)]; exact ζhy hq x fun p hp => by rw [if_neg (by decide),addI_0 hp.1,addI_0 hp.2.1]
    obtain ⟨w1,w2,w3⟩:=hone (valV vs (a + j));generalize valV vs (a + j) = vv at hm hq3 hl3 hvb hvv w1 w2 w3;generalize onePl down cross l' x vv = lN at hm hq3 hl3 w1 w2 w3;generalize gU vs (2 * (a + j)) 2 = uu at *;generalize hsv:s16 uu = sv at *;have hj1:a + ((j + 1:Nat):Int) = a + j + 1:=by omega
    by_cases d:sv % 2 = 1
    ·have d1:uu % 2 = 1:=by omega
     rw [hlv,decide_eq_true d,if_pos rfl] at hm;have hvs:sv - 1 = vv:=by omega
     refine .inl ⟨_,H',?_,rfl,lN,true,v2,rfl,hl3,hq3,hkv2,fun _ => hm,fun h => by cases h⟩;rw [ζ41];cases cross with
     | false =>
      have hmo:∀ H',R (T k) F.ζg [lv encP l',.int .i64 x,.int .i64 vv,.int .i64 0,.int .i64 0] H' = .ok (lv encP lN) H':=fun H' => by rw [hmore vv,← w1 rfl]
      simp -implicitDefEqProofs (disch:=omega) [hlen,hlen0,hwn,p1,p2,s1,h5,hu,hs16,q1,d1,hvs,ζ5a,ζ29,Int.add_assoc,hmo]
     | true =>
      by_cases c2:vv = -32768
      ·have hle:∀ H',R (T k) F.ζj [lv encP l',.bool down,.int .i64 x] H' = .ok (lv encP lN) H':=fun H' => by rw [hlev,← w2 rfl c2]
       have c2':(vv == -32768) = true:=by rw [beq_iff_eq]; exact c2
       simp -implicitDefEqProofs (disch:=omega) [hlen,hlen0,hwn,p1,p2,s1,h5,hu,hs16,q1,d1,hvs,ζ5a,ζ29,Int.add_assoc,hle,c2']
      ·have hao:∀ H',R (T k) F.ζ14 [lv encP l',.bool down,.int .i64 x,.int .i64 vv] H' = .ok (lv encP lN) H':=fun H' => by rw [hac vv,← w3 rfl c2]
       have c2':(vv == -32768) = false:=by rw [beq_eq_false_iff_ne]; exact c2
       simp -implicitDefEqProofs (disch:=omega) [hlen,hlen0,hwn,p1,p2,s1,h5,hu,hs16,q1,d1,hvs,ζ5a,ζ29,Int.add_assoc,hao,c2']
    ·have d1:uu % 2 ≠ 1:=by omega
     have d1':(uu % 2 == 1) = false:=by rw [beq_eq_false_iff_ne]; exact d1
     rw [hlv,decide_eq_false d,if_neg (by simp)] at hm;have hvs:sv = vv:=by omega
     refine .inl ⟨_,H',?_,rfl,lN,false,v2,rfl,hl3,hq3,hkv2,(fun h => by cases h),fun _ => ⟨by rw [hj1]; exact o4 (by rw [hlv,decide_eq_false d]),by rw [hj1]; exact hm⟩⟩;rw [ζ41];cases cross with
     | false =>
      have hmo:∀ H',R (T k) F.ζg [lv encP l',.int .i64 x,.int .i64 vv,.int .i64 0,.int .i64 0] H' = .ok (lv encP lN) H':=fun H' => by rw [hmore vv,← w1 rfl]
      simp -implicitDefEqProofs (disch:=omega) [hlen,hlen0,hwn,p1,p2,s1,h5,hu,hs16,q1,d1',hvs,ζ5b,ζ29,Int.add_assoc,hmo]
     | true =>
      by_cases c2:vv = -32768
      ·have hle:∀ H',R (T k) F.ζj [lv encP l',.bool down,.int .i64 x] H' = .ok (lv encP lN) H':=fun H' => by rw [hlev,← w2 rfl c2]
       have c2':(vv == -32768) = true:=by rw [beq_iff_eq]; exact c2
       simp -implicitDefEqProofs (disch:=omega) [hlen,hlen0,hwn,p1,p2,s1,h5,hu,hs16,q1,d1',hvs,ζ5b,ζ29,Int.add_assoc,hle,c2']
      ·have hao:∀ H',R (T k) F.ζ14 [lv encP l',.bool down,.int .i64 x,.int .i64 vv] H' = .ok (lv encP lN) H':=fun H' => by rw [hac vv,← w3 rfl c2]
       have c2':(vv == -32768) = false:=by rw [beq_eq_false_iff_ne]; exact c2
       simp -implicitDefEqProofs (disch:=omega) [hlen,hlen0,hwn,p1,p2,s1,h5,hu,hs16,q1,d1',hvs,ζ5b,ζ29,Int.add_assoc,hao,c2'])
  (fun e H' ⟨hH,l',od,v',he,hl',hq,hkv,i1,i2⟩ => by
   subst he hH;rw [List.drop_length] at hkv i1 i2;have hres:res = (l',[]):=by
    cases od with
    | true => exact (i1 rfl).symm
    | false => exact (i2 rfl).2.symm
   subst hres;have hlen:=hkv.sl.len;refine ⟨.exit 2,_,H',?_,by simp,rfl,rfl,v',.int .i64 (a + ks.length),rfl,hkv⟩;rw [ζ41];cases od with
   | true => simp -implicitDefEqProofs
   | false =>
    have hlen:∀ H',lnS v' H' = .ok (.int .i64 0) H':=hlen;simp -implicitDefEqProofs [hlen])
 exact ⟨v',zz,hr1,hv'⟩
end Go.Sw
end
section
namespace Go.Sw
open Go.RowKit
theorem ζqw (t:STab) (n:Int) (down cross:Bool) (s:List Pl × List Int) (h:s.2.length ≤ 8) (i:Int) (e:En):(doSt t n down cross s i e).2.length ≤ 8:=by
 have h1:(if e.flags / 8192 % 2 = 1 then ([]:List Int) else s.2).length ≤ 8:=by
  split
  ·exact Nat.zero_le _
  ·exact h
 have h2:(if e.flags ≥ 32768 ∧ i < n then (i :: (if e.flags / 8192 % 2 = 1 then ([]:List Int) else s.2)).take 8 else (if e.flags / 8192 % 2 = 1 then ([]:List Int) else s.2)).length ≤ 8:=by
  split
  ·rw [List.length_take]; omega
  ·exact h1
 unfold doSt;dsimp only;split
 ·exact h2
 ·obtain ⟨z,hz⟩:=ζn3 t.vals down cross (if e.flags ≥ 32768 ∧ i < n then (i :: (if e.flags / 8192 % 2 = 1 then ([]:List Int) else s.2)).take 8 else (if e.flags / 8192 % 2 = 1 then ([]:List Int) else s.2)) e.a s.1;rw [hz,List.length_drop];omega
set_option maxHeartbeats 2000000 in
theorem ζtm (k:Nat) {b:List Int} (hb:Byt b) (hbl:b.length < 2 ^ 31) {g:Int} (hg:1 ≤ g ∧ g ≤ 65535) (t:STab) (ht:t.ok) (h:machS b g 1 = some t.m) (gl:List Gl) (hgl:gl.length < 2 ^ 24) (l:List Pl) (hl:l.length ≤ 2 ^ 20) (hok:∀ q,q ∈ l → q.ok) (down cross:Bool) (H:Heap) :
  R (T k) F.ζ0 [.agg (r23C (rmOf b g 1 t.m) t.vals).toArray,lv encG gl,lv encP l,.bool down,.bool cross] H = .ok (.tuple #[lv encP (runSt t gl down cross l).1,.int .i64 (runSt t gl down cross l).2]) H:=by
 rw [ζkk];obtain ⟨N,hN⟩:∃ N,N = 2 * gl.length + 128:=⟨_,rfl⟩
 have hpure:=doc_runG t.m (fun _:List Pl × List Int => gl) (fun s i e => (doSt t (gl.length:Int) down cross s i e,i,i + 1)) (N:Int) N (l,[]) ⟨0,0,0,0,N,false,0⟩ rfl rfl (Int.le_refl _) rfl (by dsimp only; omega) (by dsimp only; omega);have hrun:runSt t gl down cross l = ((docRG t.m (fun _:List Pl × List Int => gl) (fun s i e => (doSt t (gl.length:Int) down cross s i e,i,i + 1)) N ((l,[]),⟨0,0,0,0,N,false,0⟩)).1.1,(docRG t.m (fun _:List Pl × List Int => gl) (fun s i e => (doSt t (gl.length:Int) down cross s i e,i,i + 1)) N ((l,[]),⟨0,0,0,0,N,false,0⟩)).2.code):=by
  unfold runSt runStr;rw [show (2 * (gl.length:Int) + 128) = (N:Int) by omega,← hN];have:runD t.m (fun _:List Pl × List Int => gl) (fun s i e => (doSt t (gl.length:Int) down cross s i e,i,i + 1)) (N:Int) N ((l,[]),⟨0,0,0,0⟩) = _:=hpure;rw [this]
 rw [hrun];clear hrun hpure;have hnext:=fun y hy hp l hl H' => Next_run k hb hg (.inr (.inl rfl)) hbl ht.m h y hy hp l hl H';have hbegin:=fun H' => ζs5 k gl.length (by omega) (by omega) H';rw [show (2 * (gl.length:Int) + 128) = (N:Int) by omega] at hbegin;generalize rmOf b g 1 t.m = rm at hnext ⊢;have st:=((Star.nil H).push ⟨r23C rm t.vals,1,false⟩).push ⟨wayC ⟨0,0,0,0,N,false,0⟩,1,false⟩;simp only [List.nil_append,List.cons_append,hn_push] at st
 obtain ⟨xx,e',H1,hr1,rfl,⟨v',rfl⟩,g1⟩:=doc_loop (body:=ζ54 k (R (T k))) t.m ht.m (fun _:List Pl × List Int => gl) (fun s i e => (doSt t (gl.length:Int) down cross s i e,i,i + 1)) N (by omega) (by omega)
  (fun x e H' => ∃ v,e = [(1,lv encG gl),(2,lv encP x.1.1),(3,.bool down),(4,.bool cross),(5,ptrV H.n),(12,ptrV (H.n + 1)),(13,v)] ∧ KS (H.n + 1) H' v x.1.2.reverse ∧ Star H H' [itBlk H.n ⟨r23C rm t.vals,1,false⟩,itBlk (H.n + 1) ⟨wayC x.2,1,false⟩])
  (fun s => s.1.length ≤ 2 ^ 20 ∧ (∀ q,q ∈ s.1 → q.ok) ∧ s.2.length ≤ 8)
  (fun x xx e H' => xx = .exit 0 ∧ (∃ v,e = [(1,lv encG gl),(2,lv encP x.1.1),(3,.bool down),(4,.bool cross),(5,ptrV H.n),(12,ptrV (H.n + 1)),(13,v),(26,.bool false)]) ∧ Star H H' [itBlk H.n ⟨r23C rm t.vals,1,false⟩,itBlk (H.n + 1) ⟨wayC x.2,1,false⟩])
  (fun x e H' ⟨v,he,_,g⟩ _ hov => by
   subst he;have b2:=g.get 1 rfl;refine ⟨.exit 0,_,H',?_,by simp,rfl,⟨v,rfl⟩,g⟩;rw [ζ2a];simp -implicitDefEqProofs (disch:=omega) [b2,hov])
  (fun s y en e H' ⟨v,he,hkv,g⟩ hI hov n1 n2 n3 n4 n5 n6 hmem hen => by
   subst he;obtain ⟨lj,ks⟩:=s;obtain ⟨k1,kk2,k3⟩:=hI;dsimp only at k1 kk2 k3 g hen hkv ⊢;have i1:=doSt_len t (gl.length:Int) down cross (lj,ks) y.pl en;have i2:=doSt_ok t (gl.length:Int) down cross (s:=(lj,ks)) kk2 y.pl en;have i3:=ζqw t (gl.length:Int) down cross (lj,ks) k3 y.pl en;dsimp only at i1;have hent:=ht.m.ent _ hmem;have hhas:=ht.has _ hmem;have hne:=hnext y hov n1 gl (by omega);have hee:encEA (stepS t.m y.st (clsS t.m gl y.pl).1) = encE (entS t.m gl (drvW y)):=rfl;rw [hee,← hen] at hne;generalize (stepS t.m y.st (clsS t.m gl y.pl).1).isSome = zz at hne;have b1:=g.get 0 rfl;have b2:=g.get 1 rfl;have hgo:=fun H' => Go_run k y en (gl.length:Int) y.pl (y.pl + 1) (by omega) ⟨hent.2.2.1,hent.2.2.2.1⟩ H';have q1:=fun H => bin_quo Prog 3 H .i64 en.flags 8192 (by decide);rw [Int.tdiv_eq_ediv_of_nonneg hent.2.2.1] at q1;have q2:=fun H => bin_rem Prog 3 H .i64 (en.flags / 8192) 2 (by decide);rw [Int.tmod_eq_emod_of_nonneg (by omega)] at q2;have hst:0 ≤ en.a ∧ en.a < 65536:=by have:=hent; omega
   obtain ⟨z,hz⟩:∃ z,z = goS y en (gl.length:Int) y.pl (y.pl + 1):=⟨_,rfl⟩
   rw [← hz] at hgo ⊢;have hnn:¬ H.n + 1 = H'.n:=by have:=Heap.get_lt b2; omega
   have hnm:¬ H.n = H'.n:=by have:=Heap.get_lt b1; omega
   have hxp:Ext H' (H'.push ⟨encEn en,1,false⟩):=(Ext.refl H').push _;have hov':(!y.over) = true:=by rw [hov]; rfl
   have fin:∀ (H2:Heap) (v2:Value) (k2:List Int),k2.length ≤ 8 → KS (H.n + 1) H2 v2 k2.reverse → Ext (H'.push ⟨encEn en,1,false⟩) H2 → ∃ v',KS (H.n + 1) (H2.set (H.n + 1) (some ⟨wayC z,1,false⟩)) v' (if en.a = 65535 then (lj,k2) else moveS t.vals down cross k2 en.a lj).2.reverse ∧ Star H (H2.set (H.n + 1) (some ⟨wayC z,1,false⟩)) [itBlk H.n ⟨r23C rm t.vals,1,false⟩,itBlk (H.n + 1) ⟨wayC z,1,false⟩] ∧
     ζ10 k (R (T k)) (lv encG gl) (lv encP lj) (.bool down) (.bool cross) (ptrV H.n) (ptrV (H.n + 1)) v2 (ptrV H'.n) H2 = .ok (.normal,[(1,lv encG gl),(2,lv encP (if en.a = 65535 then (lj,k2) else moveS t.vals down cross k2 en.a lj).1),(3,.bool down),(4,.bool cross),(5,ptrV H.n),(12,ptrV (H.n + 1)),(13,v')]) (H2.set (H.n + 1) (some ⟨wayC z,1,false⟩)) ∧
     ∀ a60,ζ11 k (R (T k)) (lv encG gl) (lv encP lj) (.bool down) (.bool cross) (ptrV H.n) (ptrV (H.n + 1)) v2 (ptrV H'.n) a60 H2 = .ok (.normal,[(1,lv encG gl),(2,lv encP (if en.a = 65535 then (lj,k2) else moveS t.vals down cross k2 en.a lj).1),(3,.bool down),(4,.bool cross),(5,ptrV H.n),(12,ptrV (H.n + 1)),(13,v')]) (H2.set (H.n + 1) (some ⟨wayC z,1,false⟩)):=by
    intro H2 v2 k2 hk2 hkv2 hx2;have c1:=(hxp.trans hx2).get b1;have c2:=(hxp.trans hx2).get b2;have c3:=hx2.get (show (H'.push ⟨encEn en,1,false⟩).get H'.n = some ⟨encEn en,1,false⟩ by simp)
    obtain ⟨v',zz2,e2,hkv'⟩:=ζte k ht.byt ht.len down cross c1 (lv encG gl) (ptrV (H.n + 1)) (ptrV H'.n) k2 hk2 v2 hkv2 lj k1 kk2 en.a hst (en.a == 65535) (if en.a = 65535 then (lj,k2) else moveS t.vals down cross k2 en.a lj)
     (fun hh => by rw [if_pos (beq_iff_eq.1 hh)])
     (fun hh => by
      have hh:=beq_eq_false_iff_ne.1 hh;rw [if_neg hh];exact ⟨hhas.resolve_left hh,rfl⟩)
    generalize (if en.a = 65535 then (lj,k2) else moveS t.vals down cross k2 en.a lj) = res at e2 hkv' ⊢;have gg:=(g.rest (hxp.trans hx2)).setBlk 1 rfl ⟨wayC z,1,false⟩;simp only [List.set_cons_zero,List.set_cons_succ] at gg;refine ⟨v',hkv'.set c2 _,gg,?_,fun a60 => ?_⟩
    ·rw [ζdl];simp -implicitDefEqProofs (disch:=omega) [c3,e2,ζ7w,c2,hgo]
    ·rw [ζdm];simp -implicitDefEqProofs (disch:=omega) [c3,e2,ζ7w,c2,hgo]
   have hdo:doSt t (gl.length:Int) down cross (lj,ks) y.pl en = (if en.a = 65535 then (lj,if en.flags ≥ 32768 ∧ y.pl < (gl.length:Int) then (y.pl :: (if en.flags / 8192 % 2 = 1 then [] else ks)).take 8 else (if en.flags / 8192 % 2 = 1 then [] else ks)) else moveS t.vals down cross (if en.flags ≥ 32768 ∧ y.pl < (gl.length:Int) then (y.pl :: (if en.flags / 8192 % 2 = 1 then [] else ks)).take 8 else (if en.flags / 8192 % 2 = 1 then [] else ks)) en.a lj):=rfl;rw [hdo] at i1 i2 i3 ⊢;have hg3:(H'.push ⟨encEn en,1,false⟩).get H'.n = some ⟨encEn en,1,false⟩:=by simp
   have bp2:=hxp.get b2;have hcn:H.n + 1 < (H'.push ⟨encEn en,1,false⟩).n:=Heap.get_lt bp2;by_cases d2:en.flags / 8192 % 2 = 1
   ·rw [if_pos d2] at i1 i2 i3 ⊢;have hk1:KS (H.n + 1) (H'.push ⟨encEn en,1,false⟩) bareV ([]:List Int).reverse:=.inl ⟨rfl,rfl⟩;by_cases d1:en.flags ≥ 32768 ∧ y.pl < (gl.length:Int)
    ·rw [if_pos d1] at i1 i2 i3 ⊢;obtain ⟨d1a,d1b⟩:=d1;obtain ⟨s1,H1,s2,H2,e1,x1,e2,x2,hk2⟩:=hk1.push hcn (by first | omega | (simp; done) | (simp; omega)) y.pl;rw [← List.reverse_cons] at hk2;have bh1:=x1.get bp2;have hlen:=hk2.sl.len;have hlen:∀ H',lnS s2 H' = .ok (.int .i64 ((([]:List Int).length:Int) + 1)) H':=fun H' => by rw [hlen H',List.length_reverse,List.length_cons]; rfl
     have c8:¬ (([]:List Int).length:Int) + 1 > 8:=by simp
     have ht8:(y.pl :: ([]:List Int)).take 8 = y.pl :: []:=List.take_of_length_le (by first | omega | (simp; done) | (simp; omega));rw [ht8] at i1 i2 i3 ⊢;obtain ⟨v',f1,f2,f3,f4⟩:=fin H2 s2 (y.pl :: []) (by first | omega | (simp; done) | (simp; omega)) hk2 x2;refine ⟨_,_,?_,⟨v',rfl,f1,f2⟩,⟨by omega,i2,i3⟩,by omega,by omega⟩;rw [ζ2a];simp -implicitDefEqProofs (disch:=omega) [b1,b2,hnn,hnm,hov',hne,q1,q2,d1a,d1b,d2,ζ58,e1,bh1,e2,ζ59,hlen,c8,f4]
    ·rw [if_neg d1] at i1 i2 i3 ⊢;obtain ⟨v',f1,f2,f3,f4⟩:=fin _ bareV [] (by first | omega | (simp; done) | (simp; omega)) hk1 (Ext.refl _);have hlen:=hk1.sl.len;have hlen:∀ H',lnS bareV H' = .ok (.int .i64 ([]:List Int).length) H':=fun H' => by rw [hlen H',List.length_reverse]
     have c8:¬ (([]:List Int).length:Int) > 8:=by simp
     refine ⟨_,_,?_,⟨v',rfl,f1,f2⟩,⟨by omega,i2,i3⟩,by omega,by omega⟩;rw [ζ2a];by_cases d1a:en.flags ≥ 32768
     ·have d1b:¬ y.pl < (gl.length:Int):=fun hh => d1 ⟨d1a,hh⟩;simp -implicitDefEqProofs (disch:=omega) [b1,b2,hnn,hnm,hov',hne,q1,q2,d1a,d1b,d2,ζ58,ζ40,hlen,c8,f4]
     ·simp -implicitDefEqProofs (disch:=omega) [b1,b2,hnn,hnm,hov',hne,q1,q2,d1a,d2,ζ58,ζ40,hlen,c8,f4]
   ·have d2':(en.flags / 8192 % 2 == 1) = false:=by rw [beq_eq_false_iff_ne]; exact d2
    rw [if_neg d2] at i1 i2 i3 ⊢;have hk1:KS (H.n + 1) (H'.push ⟨encEn en,1,false⟩) v (ks:List Int).reverse:=hkv.up hxp;by_cases d1:en.flags ≥ 32768 ∧ y.pl < (gl.length:Int)
    ·rw [if_pos d1] at i1 i2 i3 ⊢;obtain ⟨d1a,d1b⟩:=d1;obtain ⟨s1,H1,s2,H2,e1,x1,e2,x2,hk2⟩:=hk1.push hcn (by first | omega | (simp; done) | (simp; omega)) y.pl;rw [← List.reverse_cons] at hk2;have bh1:=x1.get bp2;have hlen:=hk2.sl.len;have hlen:∀ H',lnS s2 H' = .ok (.int .i64 (((ks:List Int).length:Int) + 1)) H':=fun H' => by rw [hlen H',List.length_reverse,List.length_cons]; rfl
     by_cases c8:(ks.length:Int) + 1 > 8
     ·have hy:∃ yy,y.pl :: ks = (y.pl :: ks).take 8 ++ [yy]:=by
       have hd:((y.pl :: ks).drop 8).length = 1:=by rw [List.length_drop,List.length_cons]; omega
       obtain ⟨yy,hyy⟩:=List.length_eq_one_iff.1 hd;exact ⟨yy,by rw [← hyy,List.take_append_drop]⟩
      obtain ⟨yy,hyy⟩:=hy;rw [hyy,List.reverse_append,List.reverse_singleton,List.singleton_append] at hk2;obtain ⟨s3,e3,hk3⟩:=hk2.tail;obtain ⟨v',f1,f2,f3,f4⟩:=fin H2 s3 ((y.pl :: ks).take 8) (by rw [List.length_take]; omega) hk3 x2;refine ⟨_,_,?_,⟨v',rfl,f1,f2⟩,⟨by omega,i2,i3⟩,by omega,by omega⟩;rw [ζ2a];simp -implicitDefEqProofs (disch:=omega) [b1,b2,hnn,hnm,hov',hne,q1,q2,d1a,d1b,d2',ζ3z,e1,bh1,e2,ζ59,hlen,c8,e3,f3]
     ·have ht8:(y.pl :: (ks:List Int)).take 8 = y.pl :: ks:=List.take_of_length_le (by first | omega | (simp; done) | (simp; omega));rw [ht8] at i1 i2 i3 ⊢;obtain ⟨v',f1,f2,f3,f4⟩:=fin H2 s2 (y.pl :: ks) (by first | omega | (simp; done) | (simp; omega)) hk2 x2;refine ⟨_,_,?_,⟨v',rfl,f1,f2⟩,⟨by omega,i2,i3⟩,by omega,by omega⟩;rw [ζ2a];simp -implicitDefEqProofs (disch:=omega) [b1,b2,hnn,hnm,hov',hne,q1,q2,d1a,d1b,d2',ζ3z,e1,bh1,e2,ζ59,hlen,c8,f4]
    ·rw [if_neg d1] at i1 i2 i3 ⊢;obtain ⟨v',f1,f2,f3,f4⟩:=fin _ v ks (by first | omega | (simp; done) | (simp; omega)) hk1 (Ext.refl _);have hlen:=hk1.sl.len;have hlen:∀ H',lnS v H' = .ok (.int .i64 (ks:List Int).length) H':=fun H' => by rw [hlen H',List.length_reverse]
     have c8:¬ ((ks:List Int).length:Int) > 8:=by omega
     refine ⟨_,_,?_,⟨v',rfl,f1,f2⟩,⟨by omega,i2,i3⟩,by omega,by omega⟩;rw [ζ2a];by_cases d1a:en.flags ≥ 32768
     ·have d1b:¬ y.pl < (gl.length:Int):=fun hh => d1 ⟨d1a,hh⟩;simp -implicitDefEqProofs (disch:=omega) [b1,b2,hnn,hnm,hov',hne,q1,q2,d1a,d1b,d2',ζ3z,ζ40,hlen,c8,f4]
     ·simp -implicitDefEqProofs (disch:=omega) [b1,b2,hnn,hnm,hov',hne,q1,q2,d1a,d2',ζ3z,ζ40,hlen,c8,f4])
  (l,[]) (H0:=(H.push ⟨r23C rm t.vals,1,false⟩).push ⟨wayC ⟨0,0,0,0,N,false,0⟩,1,false⟩)
  (e0:=[(1,lv encG gl),(2,lv encP l),(3,.bool down),(4,.bool cross),(5,ptrV H.n),(12,ptrV (H.n + 1)),(13,bareV)]) ⟨_,rfl,.inl ⟨rfl,rfl⟩,st⟩ ⟨hl,hok,by simp⟩
 generalize docRG t.m (fun _:List Pl × List Int => gl) (fun s i e => (doSt t (gl.length:Int) down cross s i e,i,i + 1)) N ((l,[]),⟨0,0,0,0,N,false,0⟩) = r at hr1 g1 ⊢;have b2:=g1.get 1 rfl;refine nrm_fz (v:=.tuple #[lv encP r.1.1,.int .i64 r.2.code]) (L:=[]) (H':=H1) ?_ rfl g1.ext (Flat.tupleL (.cons (Flat.lv (ζ90 _)) (.cons (.int _ _) .nil))).alive;simp -implicitDefEqProofs (disch:=omega) [ζ0,hbegin,hr1,ζcx,b2]
end Go.Sw
end
section
namespace Go.Sw
open Go.RowKit
theorem ζqf {b:List Int} {g:Int} {t:STab} (h:stackS b g = some t):machS b g 1 = some t.m:=by
 unfold stackS at h;obtain ⟨m,hm,h⟩:=Option.bind_eq_some_iff.1 h;obtain ⟨p,hp,h⟩:=Option.bind_eq_some_iff.1 h;obtain ⟨vs,hv,h⟩:=Option.bind_eq_some_iff.1 h;split at h
 ·injection h with h;subst h;exact hm
 ·cases h
theorem veq_23 (r:RMach) (vs:List Int):veq (.agg (r23C r vs).toArray) (.agg (r23C r vs).toArray) = true:=veq_agg (l:=r23C r vs) fun v hv => by
 simp at hv;rcases hv with rfl | rfl | rfl | rfl | rfl | rfl | rfl | rfl | rfl | rfl <;> first | exact veq_B _ | exact veq_RP _ | simp
end Go.Sw
end
section
namespace Go.Sw
open Go.RowKit
theorem ownP_own {s k n:Nat} (h:k = s) (hn:n ≤ 2):ownP s k n = .no:=by
 unfold ownP;subst h;have h1:Nat.beq k k = true:=Nat.beq_refl k;have h2:Nat.ble n 2 = true:=Nat.ble_eq_true_of_le hn;rw [h1,h2];rfl
theorem ownP_fz {s k n:Nat} (h:k < 1000000) (hn:2 < n):ownP s k n = .fz:=by
 unfold ownP;have h2:Nat.ble n 2 = false:=by
  cases hb:Nat.ble n 2 with
  | false => rfl
  | true => exact absurd (Nat.le_of_ble_eq_true hb) (by omega)
 rw [h2,Bool.and_false,cond_false];unfold own;rw [show Nat.blt k 1000000 = true from Nat.ble_eq_true_of_le h];rfl
end Go.Sw
end
section
namespace Go.Sw
open Go.RowKit
theorem ζto (k:Nat) {H0 H:Heap} {L:List It} {i:Nat} {o:Option Nat} {s:Value} {b:List Int} (hi:L[i]? = some (itRow o 1 s encB b)) (g:Star H0 H L) (hb:b.length < 2 ^ 40) (a1 a5 a8 a10:Value) :
  ∃ z H',loopN (ζ34 k (R (T k))) loopFuel [(1,a1),(5,a5),(7,s),(8,a8),(10,a10),(54,.int .i64 b.length),(55,.int .i64 0)] H = .ok (.exit 0,[(1,a1),(5,a5),(7,s),(8,a8),(10,a10),(54,.int .i64 b.length),(55,z),(56,.bool false)]) H' ∧ ∃ b',Star H0 H' (L.set i (itRow o 1 s encB b')):=by
 have hlt:=(List.getElem?_eq_some_iff.1 hi).1;have same:L.set i (itRow o 1 s encB b) = L:=by
  obtain ⟨hlt,hx⟩:=List.getElem?_eq_some_iff.1 hi;rw [← hx,List.set_getElem_self]
 obtain ⟨xx,e',H1,hr1,rfl,⟨z,rfl⟩,b',_,g⟩:=loop_up (body:=ζ34 k (R (T k))) b.length
  (fun j e H' => e = [(1,a1),(5,a5),(7,s),(8,a8),(10,a10),(54,.int .i64 b.length),(55,.int .i64 j)] ∧ ∃ b':List Int,b'.length = b.length ∧ Star H0 H' (L.set i (itRow o 1 s encB b')))
  (fun xx e H' => xx = .exit 0 ∧ (∃ z,e = [(1,a1),(5,a5),(7,s),(8,a8),(10,a10),(54,.int .i64 b.length),(55,z),(56,.bool false)]) ∧ ∃ b':List Int,b'.length = b.length ∧ Star H0 H' (L.set i (itRow o 1 s encB b')))
  (e0:=[(1,a1),(5,a5),(7,s),(8,a8),(10,a10),(54,.int .i64 b.length),(55,.int .i64 0)]) (H0:=H) ⟨rfl,b,rfl,by rw [same]; exact g⟩ (by omega)
  (fun j e H' hj ⟨he,b',hl,g⟩ => by
   subst he;have hjl:(j:Int) < b.length:=by omega
   have hself:(L.set i (itRow o 1 s encB b'))[i]? = some (itRow o 1 s encB b'):=List.getElem?_set_self hlt;obtain ⟨c,hc,_,i2⟩:=g.ix i hself .i64 j (by omega);subst hc;obtain ⟨x,hx⟩:∃ x,b'[j]? = some x:=⟨_,List.getElem?_eq_getElem (by omega)⟩
   obtain ⟨H2,e2,g2,_⟩:=g.stRow i hself encB_len (j:=j) (c:=0) (n:=1) 119 (v:=.int .u8 119) hx rfl rfl (by decide) rfl;rw [List.set_set] at g2;rw [Nat.add_zero] at e2;refine .inl ⟨_,H2,?_,rfl,_,by rw [List.length_set]; exact hl,g2⟩;rw [ζ4x];simp -implicitDefEqProofs (disch:=omega) [-stR_ptr,hjl,i2];simp only [Nat.mul_one] at e2;simp -implicitDefEqProofs (disch:=omega) [-stR_ptr,e2])
  (fun e H' ⟨he,b',hl,g⟩ => by
   subst he;refine ⟨.exit 0,_,H',?_,by simp,rfl,⟨.int .i64 b.length,rfl⟩,b',hl,g⟩;rw [ζ4x];simp -implicitDefEqProofs)
 exact ⟨z,H1,hr1,b',g⟩
def shN (l:List Pl):Nat → List Pl
 | 0 => l
 | j + 1 => updPl (shN l j) (j:Int) fun q => ⟨q.adv,addI q.x (j:Int),addI q.y (2 * (j:Int))⟩
theorem shN_ok {l:List Pl} (h:∀ q,q ∈ l → q.ok):∀ j q,q ∈ shN l j → q.ok
 | 0 => h
 | j + 1 => updPl_ok (shN_ok h j) _ fun q hq => ⟨hq.1,addI_ok _ _,addI_ok _ _⟩
theorem shN_len (l:List Pl):∀ j,(shN l j).length = l.length
 | 0 => rfl
 | j + 1 => by
  unfold shN updPl;split
  ·rw [List.length_modify,shN_len l j]
  ·exact shN_len l j
theorem ζpz {α:Type} {l:List α} {i:Nat} {f g:α → α} (h:∀ x,l[i]? = some x → f x = g x):l.modify i f = l.modify i g:=by
 apply List.ext_getElem?;intro n;rw [List.getElem?_modify,List.getElem?_modify];by_cases hn:i = n
 ·subst hn;simp only [if_true];cases hx:l[i]? with
  | none => rfl
  | some x => simp [h x hx]
 ·simp [hn]
theorem shN_more {l:List Pl} (h:∀ q,q ∈ l → q.ok) (j:Nat):shN l (j + 1) = updPl (shN l j) (j:Int) fun p => ⟨addI p.adv 0,addI p.x (j:Int),addI p.y (2 * (j:Int))⟩:=by
 show updPl (shN l j) (j:Int) _ = _;unfold updPl;rw [if_pos (by omega),if_pos (by omega)];refine ζpz fun x hx => ?_;have:=shN_ok h j x (List.mem_of_getElem? hx);rw [addI_0 this.1]
theorem ζtp (k:Nat) {H0 H:Heap} {L:List It} {i:Nat} {p:Nat} {o:Option Nat} {down:Bool} {l:List Pl} (hi:L[i]? = some (itPl p o down l)) (g:Star H0 H L) (hok:∀ q,q ∈ l → q.ok) (n:Nat) (hn:n < 2 ^ 30) (ids:List Int) (hids:ids.length = n) (a5 a8 a10 a14:Value) :
  ∃ z H',loopN (ζ35 k (R (T k))) loopFuel [(1,lv encI ids),(5,a5),(8,a8),(10,a10),(13,ptrV p),(14,a14),(70,.int .i64 n),(71,.int .i64 0)] H = .ok (.exit 2,[(1,lv encI ids),(5,a5),(8,a8),(10,a10),(13,ptrV p),(14,a14),(70,.int .i64 n),(71,z),(72,.bool false)]) H' ∧ Star H0 H' (L.set i (itPl p o down (shN l n))):=by
 have hlt:=(List.getElem?_eq_some_iff.1 hi).1;have same:L.set i (itPl p o down l) = L:=by
  obtain ⟨hlt,hx⟩:=List.getElem?_eq_some_iff.1 hi;rw [← hx,List.set_getElem_self]
 obtain ⟨xx,e',H1,hr1,rfl,rfl,g⟩:=loop_up (body:=ζ35 k (R (T k))) n
  (fun j e H' => e = [(1,lv encI ids),(5,a5),(8,a8),(10,a10),(13,ptrV p),(14,a14),(70,.int .i64 n),(71,.int .i64 j)] ∧ Star H0 H' (L.set i (itPl p o down (shN l j))))
  (fun xx e H' => xx = .exit 2 ∧ e = [(1,lv encI ids),(5,a5),(8,a8),(10,a10),(13,ptrV p),(14,a14),(70,.int .i64 n),(71,.int .i64 n),(72,.bool false)] ∧ Star H0 H' (L.set i (itPl p o down (shN l n))))
  (e0:=[(1,lv encI ids),(5,a5),(8,a8),(10,a10),(13,ptrV p),(14,a14),(70,.int .i64 n),(71,.int .i64 0)]) (H0:=H) ⟨rfl,by show Star H0 H (L.set i (itPl p o down l)); rw [same]; exact g⟩ (by omega)
  (fun j e H' hj ⟨he,g⟩ => by
   subst he;have hjl:(j:Int) < n:=by omega
   have hself:(L.set i (itPl p o down (shN l j)))[i]? = some (itPl p o down (shN l j)):=List.getElem?_set_self hlt;obtain ⟨H2,e2,g2⟩:=ζrs k g i hself (shN_ok hok j) (j:Int) (j:Int) (2 * (j:Int));rw [List.set_set] at g2;refine .inl ⟨_,H2,?_,rfl,g2⟩;rw [ζ4y];simp -implicitDefEqProofs (disch:=omega) [hjl,e2])
  (fun e H' ⟨he,g⟩ => by
   subst he;refine ⟨.exit 2,_,H',?_,by simp,rfl,rfl,g⟩;rw [ζ4y];simp -implicitDefEqProofs)
 exact ⟨_,H1,hr1,g⟩
theorem ζtq (k:Nat) {H:Heap} {l:List Pl} (hl:l.length ≤ 2 ^ 20) (hok:∀ q,q ∈ l → q.ok) (n:Nat) (hn:n < 2 ^ 30) (a1 a5 a10 a13 a14 a16:Value) :
  ∃ z,loopN (ζ36 k (R (T k))) loopFuel [(1,a1),(5,a5),(10,a10),(13,a13),(14,a14),(16,a16),(17,lv encP l),(91,.int .i64 n),(92,.int .i64 0)] H = .ok (.exit 4,[(1,a1),(5,a5),(10,a10),(13,a13),(14,a14),(16,a16),(17,lv encP (shN l n)),(91,.int .i64 n),(92,z),(93,.bool false)]) H:=by
 obtain ⟨xx,e',H1,hr1,rfl,rfl,rfl⟩:=loop_up (body:=ζ36 k (R (T k))) n
  (fun j e H' => H' = H ∧ e = [(1,a1),(5,a5),(10,a10),(13,a13),(14,a14),(16,a16),(17,lv encP (shN l j)),(91,.int .i64 n),(92,.int .i64 j)])
  (fun xx e H' => xx = .exit 4 ∧ H' = H ∧ e = [(1,a1),(5,a5),(10,a10),(13,a13),(14,a14),(16,a16),(17,lv encP (shN l n)),(91,.int .i64 n),(92,.int .i64 n),(93,.bool false)])
  (e0:=[(1,a1),(5,a5),(10,a10),(13,a13),(14,a14),(16,a16),(17,lv encP l),(91,.int .i64 n),(92,.int .i64 0)]) (H0:=H) ⟨rfl,rfl⟩ (by omega)
  (fun j e H' hj ⟨hH,he⟩ => by
   subst he hH;have hjl:(j:Int) < n:=by omega
   have hm:=ζc6 k (shN l j) (j:Int) 0 (j:Int) (2 * (j:Int)) (by rw [shN_len]; exact hl) (shN_ok hok j) H';rw [← shN_more hok] at hm;refine .inl ⟨_,_,?_,rfl,rfl⟩;rw [ζ4z];simp -implicitDefEqProofs (disch:=omega) [hjl,hm])
  (fun e H' ⟨hH,he⟩ => by
   subst he hH;refine ⟨.exit 4,_,_,?_,by simp,rfl,rfl,rfl⟩;rw [ζ4z];simp -implicitDefEqProofs)
 exact ⟨_,hr1⟩
set_option maxHeartbeats 4000000 in
theorem ζmi (x:SPlan) (hp:x.ok) (ids:List Int) (dir:Int) (cross:Bool):R (T F.ζ2q) F.ζ9 [splV x,lv encI ids,.agg #[.int .i64 dir,.bool cross]] Heap.empty = .ok (.bool true) Heap.empty:=by
 generalize hk:F.ζ2q = k;have hs:=ζo8 k (by subst hk; rfl);have hW:ownW k = .no:=by subst hk; rfl
 have hk6:k < 1000000:=by subst hk; decide
 have hkP:k = sP23:=by subst hk; rfl
 clear hk;rw [ζbj];obtain ⟨H,hH,hHn⟩:∃ H,H = Heap.empty ∧ H.n = 0:=⟨_,rfl,rfl⟩
 rw [← hH];clear hH;have g:=((Star.nil H).push ⟨splC x,1,false⟩).push ⟨[.int .i64 dir,.bool cross],1,false⟩;simp only [List.nil_append,List.cons_append,hn_push] at g;have hsm:=fun H => ζqc k x ids H;by_cases c1:SSmall x ids.length;rotate_left
 ·refine nrm_gc ⟨_,?_,g.ext⟩ (.bool _);rw [decide_eq_false c1] at hsm;simp -implicitDefEqProofs (disch:=omega) [ζ9,hs,hsm]
 rw [decide_eq_true c1] at hsm;unfold SSmall at c1;obtain ⟨s1,o1,H1,w1,g⟩:=ζqj k hW x.p hp (by omega) (by omega) (by omega) (ownP_own hkP (by simp only [hn_push]; omega)) g (PlanSl.lv _ x.p (Sl.lv _ 4 x.p.ents)) (Sl.lv _ 1 x.vals) (by omega);simp only [List.nil_append,List.cons_append] at g;have hcb:Byt (roomB x.p 1 0 (x.vals.map m16)):=ζth hp 1 0 _;have hcl:=ζti hp 1 0 (l:=x.vals.map m16) (by omega) (by omega) (by omega) (by simp; omega);have hpos:20 ≤ (roomB x.p 1 0 (x.vals.map m16)).length:=by
  unfold roomB;rw [List.length_append,ζe2];unfold planRoom;simp;omega
 have hn1:2 < H1.n:=by
  obtain ⟨c,hc,hg,_⟩:=g.ix 2 rfl .i64 0 (by omega);subst hc;have h0:¬ H.n = c:=fun h => g.ne 0 2 (by decide) rfl rfl (b:=H.n) (by simp [itBlk]) (by simp [itRow,h]);have h1:¬ H.n + 1 = c:=fun h => g.ne 1 2 (by decide) rfl rfl (b:=H.n + 1) (by simp [itBlk]) (by simp [itRow,h]);have:=Heap.get_lt hg;omega
 have hw2:=ζs3 k (H:=H1) (ownP_fz hk6 hn1) hW x.p hp (by omega) (by omega) (by omega) (PlanSl.lv H1 x.p (Sl.lv H1 4 x.p.ents)) (Sl.lv H1 1 x.vals) (by omega);generalize roomB x.p 1 0 (x.vals.map m16) = b at g hw2 hcb hcl hpos;have hrd:=ζno k ((g.row 2 rfl).sl encB_len) hcb 40 (by omega) (fun _ H' => ζnq k hk6 b hcb 40 (by omega) (by omega) H');unfold stackO stackN at hrd;rw [if_pos (by omega),if_pos (by omega)] at hrd;obtain ⟨r,vs,hrr,hrs⟩:=ζnd k b hcb 40 (by omega) (by omega) H1;have b0:=g.get 0 rfl;have hn0:¬ H.n = H1.n:=by have:=Heap.get_lt b0; omega
 have g:=g.push ⟨r23C r vs,1,false⟩;simp only [List.nil_append,List.cons_append] at g;cases h:stackS b 40 with
 | none =>
  rw [h] at hrd hrr;simp only [stackP,Option.isSome_none,Bool.false_eq_true,if_false] at hrd hrr;refine nrm_gc ⟨_,?_,g.ext⟩ (.bool _);simp -implicitDefEqProofs (disch:=omega) [ζ9,hs,hsm,w1,hrd,b0,hn0,hw2,hrr]
 | some t =>
  obtain ⟨hr1,hr2⟩:=hrs t h;rw [h] at hrd hrr;simp only [stackP,Option.isSome_some,if_true] at hrd hrr;have hok:=ζts hcb (by omega) (by omega) (by omega) h;have hln:∀ H',lnS s1 H' = .ok (.int .i64 b.length) H':=(g.row 2 rfl).len;obtain ⟨z2,H2,e2,b',g⟩:=ζto k (i:=2) rfl g (by omega) (lv encI ids) (ptrV (H.n + 1)) (stackV t) (ptrV H1.n);simp only [List.set_cons_zero,List.set_cons_succ] at g;have hadv:=fun H => ζny k ids (by omega) H;have q2:=g.get 1 rfl;obtain ⟨o3,H3,e3,g⟩:=ζna k g dir (advL ids.length) (by rw [advL_len]; omega);simp only [List.nil_append,List.cons_append] at g;have q3:=g.get 1 rfl;obtain ⟨c4,o4,H4,e4,g⟩:=ζo0 k g ids (by omega);simp only [List.nil_append,List.cons_append] at g;have q4:=g.get 1 rfl;obtain ⟨z5,H5,e5,g⟩:=ζtp k (i:=4) rfl g (newPl_ok _) ids.length (by omega) ids rfl (ptrV (H.n + 1)) (stackV t) (ptrV H1.n) (ptrV c4);simp only [List.set_cons_zero,List.set_cons_succ] at g;have q5:=g.get 1 rfl;have hokS:=shN_ok (newPl_ok (advL ids.length)) ids.length;obtain ⟨H6,e6,g⟩:=ζnp k t hok g 5 4 (by decide) cross rfl rfl (by simp; omega) hokS;simp only [List.set_cons_zero,List.set_cons_succ] at g;have q6:=g.get 1 rfl;have q7:=g.get 3 rfl;have hn11:=fun H' => ζri k ids (by omega) H';have hn21:=fun H' => ζo4 k (advL ids.length) (by rw [advL_len]; omega) H';obtain ⟨z8,e8⟩:=ζtq k (H:=H6) (l:=newPl (advL ids.length)) (by rw [ζp5,advL_len]; omega) (newPl_ok _) ids.length (by omega) (lv encI ids) (ptrV (H.n + 1)) (ptrV H1.n) (ptrV H2.n) (ptrV c4) (.int .i64 (runSt t (newG ids) (dir == 2) cross (shN (newPl (advL ids.length)) ids.length)).2);have hlenS:(shN (newPl (advL ids.length)) ids.length).length = ids.length:=by rw [shN_len,ζp5,advL_len]
  generalize shN (newPl (advL ids.length)) ids.length = sl at e5 e6 g e8 hokS hlenS;have hrun:∀ H',R (T k) F.ζ0 [.agg (r23C r vs).toArray,lv encG (newG ids),lv encP sl,.bool (dir == 2),.bool cross] H' = .ok (.tuple #[lv encP (runSt t (newG ids) (dir == 2) cross sl).1,.int .i64 (runSt t (newG ids) (dir == 2) cross sl).2]) H':=fun H' => by
   rw [hr1,hr2];exact ζtm k hcb (by omega) (by omega) t hok (ζqf h) (newG ids) (by rw [newG_len]; omega) sl (by omega) hokS (dir == 2) cross H'
  have hlen:=ζtn t hok.m (newG ids) (dir == 2) cross sl;generalize runSt t (newG ids) (dir == 2) cross sl = rr at e6 e8 g hrun hlen;have a1:=ζo2 k hk6 g 4 rfl (by omega);have hsame:=fun H' => ζq7 k rr.1 rr.1 (by omega) H';have hgl:=ζm3 k hk6 g 5 rfl (by rw [newG_len]; omega);have hsameG:=fun H' => Same_run k (Rd.lv encG_len H' (newG ids)) (Rd.lv encG_len H' (newG ids)) (by rw [newG_len]; omega) (by rw [newG_len]; omega);have hveq:=veq_23 r vs;refine nrm_gc ⟨H6,?_,g.ext⟩ (.bool _);simp -implicitDefEqProofs (disch:=omega) [ζ9,hs,hsm,w1,hrd,b0,hn0,hw2,hrr,hln,e2,ζ8t,q2,hadv,e3,q3,e4,q4,e5,ζ8u,q5,e6,hn21,e8,ζ8v,q6,q7,hn11,hrun,a1,hsame,hgl,hsameG,hveq]
theorem ζls (vs:List Value) (h:ArgsLay [splSh,.one (.slice [.int .i64]),.agg [.int .i64,.bool]] vs):∃ H',R (T F.ζ2q) F.ζ9 vs Heap.empty = .ok (.bool true) H':=by
 obtain ⟨v1,_,rfl,h1,h⟩:=h.head;obtain ⟨v2,_,rfl,h2,h⟩:=h.head;obtain ⟨v3,_,rfl,h3,h⟩:=h.head;obtain rfl:=h.done;obtain ⟨x,rfl,hx⟩:=arg_spl h1;obtain ⟨ids,rfl,_⟩:=arg_I h2;obtain ⟨a,c,rfl⟩:=arg_way h3;exact ⟨_,ζmi x hx ids a c⟩
end Go.Sw
end
section
namespace Go.Sw
open Go.RowKit Go.Proofs Go.Shelf
attribute [local go_sem] Oper.semAt_some
end Go.Sw
end
section
namespace Go.Sw
open Go.RowKit
theorem names_ok:NamesOk Prog:=NamesOk.of (by kernel_rfl)
theorem mixed_ok:Prog.follows .mixedOrders = true:=Checked.mixed Go.Proofs.Tryz.checked
theorem laid_ok:laidOutB Prog = true:=by kernel_rfl
theorem ζmn:SpIs Prog F.ζe fun _ args H => cloneV 3 12 args H :=
 clone_is (c:={ P:=Prog,kp:=kpS,sp:=fun _ => none }) (fun _ _ => rfl) names_ok mixed_ok (t:=56) (e:=93) (by kernel_rfl) fun call a H => (ζ4h 0 _ call a H).trans (by
  unfold ζe cloneF;simp only [be_56_0,ap_56,beR_bare])
theorem ζmm:SpIs Prog F.ζ7 fun _ args H => cloneV 2 16 args H :=
 clone_is (c:={ P:=Prog,kp:=kpS,sp:=fun _ => none }) (fun _ _ => rfl) names_ok mixed_ok (t:=61) (e:=150) (by kernel_rfl) fun call a H => (ζ4g 0 _ call a H).trans (by
  unfold ζ7 cloneF;simp only [be_61_0,ap_61,beR_bare])
theorem more_is (f:FuncId) (s:Sp) (h:moreS f = some s):SpIs Prog f s:=by
 unfold moreS at h;cases h47:Nat.beq f 47 with
 | true => have:=Nat.eq_of_beq_eq_true h47; subst this; rw [h47,cond_true] at h; injection h with h; subst h; exact try_is
 | false =>
 rw [h47,cond_false] at h;cases h78:Nat.beq f 78 with
 | true => have:=Nat.eq_of_beq_eq_true h78; subst this; rw [h78,cond_true] at h; injection h with h; subst h; exact ζmn
 | false =>
 rw [h78,cond_false] at h;cases h79:Nat.beq f 79 with
 | true => have:=Nat.eq_of_beq_eq_true h79; subst this; rw [h79,cond_true] at h; injection h with h; subst h; exact ζmm
 | false =>
 rw [h79,cond_false] at h;cases h84:Nat.beq f 84 with
 | true => have:=Nat.eq_of_beq_eq_true h84; subst this; rw [h84,cond_true] at h; injection h with h; subst h; exact SpIs.stuck _ _
 | false =>
 rw [h84,cond_false] at h;cases h97:Nat.beq f 97 with
 | true => have:=Nat.eq_of_beq_eq_true h97; subst this; rw [h97,cond_true] at h; injection h with h; subst h; exact SpIs.stuck _ _
 | false =>
 rw [h97,cond_false] at h;cases h
theorem T_prog (k:Nat):(T k).c.P = Prog:=by unfold T C; rfl
theorem told_ok {k m:Nat} (hsp:okTrue (run (baseCfg Prog kpS moreS) m (k % 1000000) [] Heap.empty) = true):SpOk (T k).c:=by
 have h0:CallOk Prog (run (baseCfg Prog kpS moreS) m):=run_ok (c:=baseCfg Prog kpS moreS) names_ok mixed_ok (SpOk.base more_is) m;have h1:SpOk (C k):=by
  unfold C;exact SpOk.of (P:=Prog) (kp:=kpS) (speaks:=speaksT) (more:=moreS) (k:=k % 1000000) h0 hsp more_is
 exact h1
end Go.Sw
end
