/-
  Functions' forms, and what is proved of them, part 11.
-/
import Derived.Test.YtanfippcmdialaaSwW10
import Derived.Test.YtanfippcmdialaaSwCfg
import Derived.Test.YtanfippcmdialaaSwW8
import Derived.Test.YtanfippcmdialaaSwW6
import Derived.Test.YtanfippcmdialaaSwW7
import Derived.Test.YtanfippcmdialaaSwW9
import Derived.Test.YtanfippcmdialaaSwW4
import Derived.Test.YtanfippcmdialaaSwW5
set_option linter.unusedSimpArgs false
set_option linter.unusedVariables false
set_option linter.unusedSectionVars false
section
namespace Go.Sw
open Go.RowKit
def ptOk (d:List Int) (n:Int):Bool:=((uS d n 4).bind fun m => rowsS d (n + 4) m 4).isSome
def ankS (b:List Int) (g:Int):Option ATab:=(uS b 0 2).bind fun z => if z = 0 then (uS b 4 4).bind fun w => (restS b w).bind fun of => (lookS of g 2).bind fun tab => (uS b 8 4).bind fun w2 => (restS b w2).bind fun d =>
 if (tab.2.flatMap ptL).all (fun x => ptOk d (x.getD 1 0)) then some ⟨tab,d⟩ else none else none
theorem Flat.ank (t:ATab):Flat (ankV t):=.boxV (.cons (Flat.tab t.of) (.cons (Flat.B _) .nil))
theorem ptL_mem {ps:List Pt} (hok:∀ p,p ∈ ps → p.ok) {x:List Int} (h:x ∈ ps.flatMap ptL):∃ id n,x = [id,n] ∧ 0 ≤ n ∧ n < 4294967296:=by
 obtain ⟨p,hp,hx⟩:=List.mem_flatMap.1 h;unfold ptL at hx;obtain ⟨j,hj,rfl⟩:=List.mem_map.1 hx;obtain ⟨x,hx,h0,h1⟩:=Pt.num_some (hok p hp) (id:=p.first + (j:Nat)) (by omega);exact ⟨_,_,rfl,by rw [hx]; exact ⟨h0,h1⟩⟩
theorem ptL_has {ps:List Pt} {id n:Int} (h:getS ps id = some n):[id,n] ∈ ps.flatMap ptL:=by
 unfold getS at h;obtain ⟨p,hp,h⟩:=Option.bind_eq_some_iff.1 h;split at h
 ·rename_i hf;have hm:=List.mem_of_find?_eq_some hp;have hl:=List.find?_some hp;simp at hl;refine List.mem_flatMap.2 ⟨p,hm,List.mem_map.2 ⟨(id - p.first).toNat,List.mem_range.2 (by omega),?_⟩⟩;rw [show p.first + (((id - p.first).toNat:Nat):Int) = id by omega,h];rfl
 ·cases h
theorem ζfa (k:Nat) (a4:Value) (pM pT pB G:Nat) (tab:Int × List Pt) (d:List Int) (hd:Byt d) (hl:d.length < 2 ^ 31):∀ (l:List (List Int)),(∀ x,x ∈ l → ∃ id n,x = [id,n] ∧ 0 ≤ n ∧ n < 4294967296) → ∀ (ks:List Int),(∀ n,n ∈ ks → ptOk d n = true) → ∀ (H:Heap),
  H.get pM = some ⟨[.map (some G)],1,false⟩ → H.get pT = some ⟨[ptrV pB],1,false⟩ → H.get pB = some ⟨[tabV tab,lv encB d],1,false⟩ →
  (l.all (fun x => ptOk d (x.getD 1 0)) = true ∧ ∃ H',rangeM (takeRound (R (T k))) [33,34] [(4,a4),(5,ptrV pT),(6,ptrV pM)] l H (some (G,ks)) = .ok (.normal,[(4,a4),(5,ptrV pT),(6,ptrV pM)]) H' ∧ Ext H H') ∨
  (l.all (fun x => ptOk d (x.getD 1 0)) = false ∧ ∃ H',rangeM (takeRound (R (T k))) [33,34] [(4,a4),(5,ptrV pT),(6,ptrV pM)] l H (some (G,ks)) = .panic failV H' ∧ Ext H H')
 | [],_,ks,_,H,_,_,_ => .inl ⟨rfl,H,rfl,Ext.refl H⟩
 | x :: l,hx,ks,hks,H,hM,hT,hB => by
  obtain ⟨id,n,rfl,h0,h1⟩:=hx x (by simp);have hx1:Ext H (H.push ⟨[],1,false⟩):=(Ext.refl H).push _;have ih:=fun ks hks => ζfa k a4 pM pT pB G tab d hd hl l (fun y hy => hx y (by simp [hy])) ks hks (H.push ⟨[],1,false⟩) (hx1.get hM) (hx1.get hT) (hx1.get hB);have hput:putAll [(4,a4),(5,ptrV pT),(6,ptrV pM)] [33,34] [id,n] = [(4,a4),(5,ptrV pT),(6,ptrV pM),(33,.int .i64 id),(34,.int .i64 n)]:=rfl;have hlen:Nat.beq [id,n].length [33,34].length = true:=rfl;unfold rangeM;rw [hlen,cond_true,hput];by_cases hn:n ∈ ks
  ·rw [ζo2 k a4 (ptrV pT) (.int .i64 id) pM G n ks hn H hM];have hp:=hks n hn;rw [Res.bind_ok];rcases ih ks hks with ⟨i1,H',i2,i3⟩ | ⟨i1,H',i2,i3⟩
   ·exact .inl ⟨by simp only [List.all_cons,i1]; simpa using hp,H',i2,hx1.trans i3⟩
   ·exact .inr ⟨by simp only [List.all_cons,i1,Bool.and_false],H',i2,hx1.trans i3⟩
  ·rw [ζo1 k a4 (.int .i64 id) pM pT pB G n ⟨h0,h1⟩ ks hn tab d hd hl H hM hT hB];cases hp:(uS d n 4).bind fun m => rowsS d (n + 4) m 4 with
   | none => exact .inr ⟨by simp [ptOk,hp],_,rfl,hx1⟩
   | some r =>
    have hpn:ptOk d n = true:=by unfold ptOk; rw [hp]; rfl
    rw [Res.bind_ok];rcases ih (n :: ks) (fun m hm => by rcases List.mem_cons.1 hm with rfl | hm; exact hpn; exact hks m hm) with ⟨i1,H',i2,i3⟩ | ⟨i1,H',i2,i3⟩
    ·exact .inl ⟨by simp only [List.all_cons,i1]; simpa using hpn,H',i2,hx1.trans i3⟩
    ·exact .inr ⟨by simp only [List.all_cons,i1,Bool.and_false],H',i2,hx1.trans i3⟩
theorem Ext.dead {H0 H:Heap} (h:Ext H0 H):Ext H0 (deadH H):=⟨Nat.le_succ_of_le h.1,fun c hc hs => (ζao H c).trans (h.2 c hc hs)⟩
theorem ζkz (k:Nat) (a0 a1:Value) (h:Heap):R (T k) F.ζ0 [a0,a1] h = nrm .fz h (bodyF CI (R (T k)) F.ζ0 [a0,a1] h) :=
 (R_sp (t:=T k) (T_scott k) (s:=fun call args H => bodyF CI call F.ζ0 args H) (by kernel_rfl) [a0,a1] h).trans (by
  show nrm ((T k).md F.ζ0) h _ = _;rfl)
theorem ζhv (k:Nat) (b:List Int) (hb:Byt b) (g:Int) (hg:1 ≤ g ∧ g ≤ 65535) (hl:b.length < 2 ^ 31) (H:Heap):R (T k) F.ζ0 [vwB b,.int .i64 g] H = orF (ankS b g) ankV H:=by
 rw [ζkz];refine fz_orF ?_ fun _ _ => (Flat.ank _).alive;have hx:Ext H (H.push ⟨[lv encB b],1,false⟩):=(Ext.refl H).push _;have hvb:veq (vwB b) (vwB b) = true:=veq_agg (l:=[lv encB b]) fun u hu => by simp at hu; subst hu; exact veq_B b
 have gH:(H.push ⟨[lv encB b],1,false⟩).get H.n = some ⟨[lv encB b],1,false⟩:=ζb _ _ _ rfl;rw [ζof,tF0,tM0,ζhx k];simp -implicitDefEqProofs (disch:=omega) only [boxR_vw,newP,Res.bind_ok,kSeqF];rw [tF1,tM1,ζhy k];unfold ankS;simp -implicitDefEqProofs (disch:=omega) [kSeqF];refine Cp.call (U16_run k (Sl.lv _ 1 b) hb 0 (by omega)) hx fun z hz => ?_;have hzb:=uS_two hb hz;rw [bin_eql,Res.bind_ok,show (z == 0) = decide (z = 0) from rfl];refine Cp.need hx fun h0 => ?_;simp -implicitDefEqProofs (disch:=omega) only [kSeqF];rw [tF2,tM2,ζhz k];simp -implicitDefEqProofs (disch:=omega) [gH,hvb];refine Cp.callT (U32_run k (Sl.lv _ 1 b) hb 4 (by omega)) (fun _ => ⟨_,by simp -implicitDefEqProofs (disch:=omega) [gH,hvb],hx⟩) fun w hw => ?_;have hwb:=uS_four hb hw;simp -implicitDefEqProofs (disch:=omega) [gH,hvb];refine Cp.callT (Rest_lv k b w (by omega) (by omega) _) (fun _ => ⟨_,by simp -implicitDefEqProofs (disch:=omega) [gH,hvb],hx⟩) fun of hof => ?_;have lof:=ζ4w hof;simp -implicitDefEqProofs (disch:=omega) [gH,hvb];refine Cp.callT (ζda k (Sl.lv _ 1 of) (hb.rest hof) g 2 hg.1 hg.2 (.inl rfl) (by omega)) (fun _ => ⟨_,by simp -implicitDefEqProofs (disch:=omega) [gH,hvb],hx⟩) fun tab htab => ?_;have hok:=lookS_ok (hb.rest hof) hg.1 hg.2 (.inl rfl) htab;have hpl:=ζft (hb.rest hof) htab;simp -implicitDefEqProofs (disch:=omega) [gH,hvb];refine Cp.callT (U32_run k (Sl.lv _ 1 b) hb 8 (by omega)) (fun _ => ⟨_,by simp -implicitDefEqProofs (disch:=omega) [gH,hvb],hx⟩) fun w2 hw2 => ?_;have hwb2:=uS_four hb hw2;simp -implicitDefEqProofs (disch:=omega) [gH,hvb];refine Cp.callT (Rest_lv k b w2 (by omega) (by omega) _) (fun _ => ⟨_,by simp -implicitDefEqProofs (disch:=omega) [gH,hvb],hx⟩) fun d hd => ?_;have ld:=ζ4w hd;simp -implicitDefEqProofs (disch:=omega) [gH,hvb];have hx3:Ext H (((H.push ⟨[lv encB b],1,false⟩).push ⟨[tabV tab,lv encB d],1,false⟩).push ⟨[ptrV (H.n + 1)],1,false⟩):=(hx.push _).push _;have hB:(((H.push ⟨[lv encB b],1,false⟩).push ⟨[tabV tab,lv encB d],1,false⟩).push ⟨[ptrV (H.n + 1)],1,false⟩).get (H.n + 1) = some ⟨[tabV tab,lv encB d],1,false⟩:=by simp
 have hT:(((H.push ⟨[lv encB b],1,false⟩).push ⟨[tabV tab,lv encB d],1,false⟩).push ⟨[ptrV (H.n + 1)],1,false⟩).get (H.n + 2) = some ⟨[ptrV (H.n + 1)],1,false⟩:=by simp
 generalize hH3:((H.push ⟨[lv encB b],1,false⟩).push ⟨[tabV tab,lv encB d],1,false⟩).push ⟨[ptrV (H.n + 1)],1,false⟩ = H3 at hx3 hB hT ⊢;simp -implicitDefEqProofs only [kSeqF];rw [tF3,pM3];have e1:∀ h:Heap,newP [.map none] h = .ok (ptrV h.n) (h.push ⟨[.map none],1,false⟩):=fun _ => rfl;have e2:stR 1 (ptrV (deadH H3).n) (.map (some H3.n)) ((deadH H3).push ⟨[.map none],1,false⟩) = .ok undef ((deadH H3).push ⟨[.map (some H3.n)],1,false⟩):=by
  have c1:(Value.map (some H3.n)).cells = #[.map (some H3.n)]:=rfl;have c2:storable (.map (some H3.n)) = true:=rfl;simp [c1,c2]
 simp only [mapMk,plM,Res.bind_ok,e1,e2,endM];show Cp failV (Ext H) ((kSeqF _ _) .normal [(4,.pointer none),(5,ptrV (H.n + 2)),(6,ptrV (deadH H3).n)] _ _) _ _;have hx4:Ext H3 ((deadH H3).push ⟨[.map (some H3.n)],1,false⟩):=(Ext.refl H3).dead.push _;have hM:((deadH H3).push ⟨[.map (some H3.n)],1,false⟩).get (deadH H3).n = some ⟨[.map (some H3.n)],1,false⟩:=ζb _ _ _ rfl;have hB:=hx4.get hB;have hT:=hx4.get hT;have hx4:=hx3.trans hx4;generalize ((deadH H3).push ⟨[.map (some H3.n)],1,false⟩) = H4 at hx4 hM hB hT ⊢;simp -implicitDefEqProofs only [kSeqF];rw [tF4,tF5,tM4,ζgd k];have hall:=fun H' => ζkc k tab H';simp -implicitDefEqProofs (disch:=omega) [hT,hB,hall];have hx5:Ext H4 (H4.push ⟨[tabV tab],1,false⟩):=(Ext.refl H4).push _;have hit:=itS_tab tab hok.2.1 hpl H4.n (H4.push ⟨[tabV tab],1,false⟩) (ζb _ _ _ rfl);simp -implicitDefEqProofs only [kSeqF];rw [tF6,tF7,hit];simp only [opt,Res.bind_ok];have hrd:=ζfa k (.pointer none) (deadH H3).n (H.n + 2) (H.n + 1) H3.n tab d (hb.rest hd) (by omega) (tab.2.flatMap ptL) (fun x hx => ptL_mem hok.2.1 hx) [] (fun n hn => by cases hn) (H4.push ⟨[tabV tab],1,false⟩) (hx5.get hM) (hx5.get hT) (hx5.get hB);have hiff:((tab.2.flatMap ptL).all (fun x => ptOk d (x.getD 1 0)) = true) ↔ (∀ (x:Pt),x ∈ tab.snd → ∀ (x_1:List Int),x_1 ∈ ptL x → ptOk d (x_1[1]?.getD 0) = true):=by simp
 rcases hrd with ⟨h1,H',h2,h3⟩ | ⟨h1,H',h2,h3⟩
 ·rw [if_pos (hiff.1 h1)];show Cp failV (Ext H) ((rangeM (takeRound (R (T k))) [33,34] [(4,.pointer none),(5,ptrV (H.n + 2)),(6,ptrV (deadH H3).n)] _ _ _).bind _) _ _;rw [h2,Res.bind_ok];have hT':=h3.get (hx5.get hT);have hB':=h3.get (hx5.get hB);have hx6:=(hx4.trans hx5).trans h3;unfold kBlock kSeq;dsimp only;rw [ζgi k,ζgj k];simp -implicitDefEqProofs (disch:=omega) [hT'];unfold kSeq;dsimp only;rw [ζgk k,ζgl];refine .ok hx6 ?_;exact ⟨_,fz_box (by omega) hB' (ζ1b (v:=tabV tab) (u:=tabV tab) (L1:=[]) rfl (mapF_one (v:=lv encB d) (u:=lv encB d) (L:=[]) rfl))⟩
 ·rw [if_neg (fun hc => by rw [hiff.2 hc] at h1; cases h1)];show Cp failV (Ext H) ((rangeM (takeRound (R (T k))) [33,34] [(4,.pointer none),(5,ptrV (H.n + 2)),(6,ptrV (deadH H3).n)] _ _ _).bind _) _ _;rw [h2];exact ⟨H',rfl,(hx4.trans hx5).trans h3⟩
theorem ankS_ok {b:List Int} (hb:Byt b) {g:Int} (h1:1 ≤ g) (h2:g ≤ 65535) (hl:b.length < 2 ^ 31) {t:ATab} (h:ankS b g = some t):t.ok:=by
 unfold ankS at h;obtain ⟨z,hz,h⟩:=Option.bind_eq_some_iff.1 h;split at h
 ·obtain ⟨w,hw,h⟩:=Option.bind_eq_some_iff.1 h;obtain ⟨of,hof,h⟩:=Option.bind_eq_some_iff.1 h;obtain ⟨tab,htab,h⟩:=Option.bind_eq_some_iff.1 h;obtain ⟨w2,hw2,h⟩:=Option.bind_eq_some_iff.1 h;obtain ⟨d,hd,h⟩:=Option.bind_eq_some_iff.1 h;split at h
  ·rename_i hall;injection h with h;subst h;have hok:=lookS_ok (hb.rest hof) h1 h2 (.inl rfl) htab;have:=ζ4w hof;have ld:=ζ4w hd;refine ⟨hok.2.1,hok.2.2,ζft (hb.rest hof) htab,hb.rest hd,by dsimp only; omega,fun id at_ hg => ?_⟩;dsimp only at hg ⊢;have hm:=ptL_has hg;obtain ⟨id',n,e,b0,b1⟩:=ptL_mem hok.2.1 hm;injection e with e1 e2;injection e2 with e2 _;subst e1 e2;have hp:=List.all_eq_true.1 hall _ hm;unfold ptOk at hp;obtain ⟨r,hr⟩:=Option.isSome_iff_exists.1 hp;obtain ⟨m,hm,hr⟩:=Option.bind_eq_some_iff.1 hr;have hr:rowsS d (at_ + 4) m 4 = some r:=hr;have hr:=(ζ8b (by decide)).1 hr;have hm':uS d at_ 4 = some m:=hm;exact ⟨b0,m,hm',by omega⟩
  ·cases h
 ·cases h
end Go.Sw
end
section
namespace Go.Sw
open Go.RowKit
def ankrP (o:Option ATab):Value:=match o with | some t => ankV t | none => .pointer none
theorem ζky (o:Option ATab):Flat (ankrP o):=by
 cases o with
 | none => exact .nilPtr
 | some t => exact Flat.ank t
theorem ζi0 (k:Nat) {H:Heap} (b:List Int) (hb:Byt b) (g:Int) (hg:1 ≤ g ∧ g ≤ 65535) (hl:b.length < 2 ^ 31) (p2 p3 p4:Nat) (old:Value)
  (h2:H.get p2 = some ⟨[lv encB b],1,false⟩) (h3:H.get p3 = some ⟨[.int .i64 g],1,false⟩) (h4:H.get p4 = some ⟨[old],1,false⟩) (ht:∀ H',R (T k) F.ζ0 [vwB b,.int .i64 g] H' = orF (ankS b g) ankV H') :
  R (T k) F.ζ23 [ptrV p2,ptrV p3,ptrV p4] H = match ankS b g with
   | some t => .ok (.tuple #[]) (H.set p4 (some ⟨[ankV t],1,false⟩))
   | none => .panic failV H:=by
 rw [ζe5];have ht:=ht H;cases h:ankS b g with
 | none =>
  rw [h] at ht;refine ζz ⟨H,?_,Ext.refl H⟩ Flat.fail.alive;simp -implicitDefEqProofs (disch:=omega) [ζ23,h2,h3,ht]
 | some x =>
  rw [h] at ht;simp -implicitDefEqProofs (disch:=omega) [ζ23,h2,h3,h4,ht]
def ankrO (b:List Int) (g:Int):Option ATab:=if 1 ≤ g ∧ g ≤ 65535 then ankS b g else none
def ankrN (b:List Int) (g:Int):Int:=if 1 ≤ g ∧ g ≤ 65535 then (if (ankS b g).isSome then 0 else 2) else 1
theorem ζhu (k:Nat) {H:Heap} {v:Value} {b:List Int} (hv:Sl H 1 v encB b) (hb:Byt b) (g:Int) (hl:b.length ≤ 2 ^ 30) (ht:(1 ≤ g ∧ g ≤ 65535) → ∀ H',R (T k) F.ζ0 [vwB b,.int .i64 g] H' = orF (ankS b g) ankV H') :
  R (T k) F.ζ5t [v,.int .i64 g] H = .ok (.tuple #[ankrP (ankrO b g),.int .i64 (ankrN b g)]) H:=by
 rw [ζjt];have hx2:=(Ext.refl H).push ⟨[.int .i64 g],1,false⟩;have al:∀ o n,Alive H (.tuple #[ankrP o,.int .i64 n]):=fun o n => (Flat.tupleL (l:=[ankrP o,.int .i64 n]) (.cons (ζky o) (.cons (.int _ _) .nil))).alive;have fz:∀ H' o n,fzV H.n H' fzDepth (.tuple #[ankrP o,.int .i64 n]) = some (.tuple #[ankrP o,.int .i64 n],[]):=fun H' o n => by
  cases o <;> rfl
 by_cases hgg:1 ≤ g ∧ g ≤ 65535
 ·have c1:¬ g < 1:=by omega
  have c2:¬ g > 65535:=by omega
  have hx3:=hx2.push ⟨[.pointer none],1,false⟩;have o3:=Of_run k (hv.up hx3);have by3:=ζik k (hv.up hx3) hl;have o4:=fun H => Of_lv k b H;have hin:=ζi0 k (H:=((H.push ⟨[.int .i64 g],1,false⟩).push ⟨[.pointer none],1,false⟩).push ⟨[lv encB b],1,false⟩) b hb g hgg (by omega) (H.n + 2) H.n (H.n + 1) (.pointer none) (by simp) (by simp) (by simp) (ht hgg);cases hlk:ankS b g with
  | none =>
   rw [hlk] at hin;have ht:=Try_no k F.ζ23 #[ptrV (H.n + 2),ptrV H.n,ptrV (H.n + 1)] hin;refine nrm_fz (H':=((H.push ⟨[.int .i64 g],1,false⟩).push ⟨[.pointer none],1,false⟩).push ⟨[lv encB b],1,false⟩) (v:=.tuple #[ankrP none,.int .i64 2]) ?_ (by unfold ankrO ankrN; rw [if_pos hgg,if_pos hgg,hlk]; exact fz _ _ _) (hx3.push _) (al _ _);simp -implicitDefEqProofs (disch:=omega) [ζ5t,c1,c2,o3,by3,o4,ht,ankrP]
  | some x =>
   rw [hlk] at hin;have ht:=Try_ok k F.ζ23 #[ptrV (H.n + 2),ptrV H.n,ptrV (H.n + 1)] hin;refine nrm_fz (H':=((H.push ⟨[.int .i64 g],1,false⟩).push ⟨[ankV x],1,false⟩).push ⟨[lv encB b],1,false⟩) (v:=.tuple #[ankrP (some x),.int .i64 0]) ?_ (by unfold ankrO ankrN; rw [if_pos hgg,if_pos hgg,hlk]; exact fz _ _ _) ((hx2.push _).push _) (al _ _);simp at ht;simp -implicitDefEqProofs (disch:=omega) [ζ5t,c1,c2,o3,by3,o4,ht,ankrP]
 ·refine nrm_fz (H':=(H.push ⟨[.int .i64 g],1,false⟩).push ⟨[.pointer none],1,false⟩) (v:=.tuple #[ankrP none,.int .i64 1]) ?_ (by unfold ankrO ankrN; rw [if_neg hgg,if_neg hgg]; exact fz _ _ _) (hx2.push _) (al _ _);by_cases c1:g < 1
  ·simp -implicitDefEqProofs (disch:=omega) [ζ5t,c1,ankrP]
  ·have c2:g > 65535:=by omega
   simp -implicitDefEqProofs (disch:=omega) [ζ5t,c1,c2,ankrP]
end Go.Sw
end
section
set_option maxRecDepth 100000
set_option linter.unusedVariables false
namespace Go.Sw
noncomputable section
def ζ48 (k:Nat) (call:Caller):Env → Heap → Res (AExit × Env):=loopB (C k) call F.ζq [1,1,1,1,0,1,0,0]
def ζ6k (k:Nat) (call:Caller):Kont Value:=kBlock 0 (kSeq (pieceK (C k) call F.ζq [1,1,1,1,1]) (kDone Prog (resOf Prog F.ζq)))
def ζ2v (k:Nat) (call:Caller):Env → Heap → Res (AExit × Env):=loopB (C k) call F.ζq [1,1,1,1,0,1,0,0,1,1,0,0,1,1,1,1,0,0]
def ζ6l (k:Nat) (call:Caller):Kont (AExit × Env):=kBlock 2 (kBlock 1 (kSeq (pieceK (C k) call F.ζq [1,1,1,1,0,1,0,0,1,1,1]) (kRound (ownOf (C k) F.ζq [1,1,1,1,0,1,0,0]))))
def ζq (k:Nat) (call:Caller) (a0:Value) (h:Heap):Res Value :=
 (buildSliceR Prog 31 4 [(0,(.int .u8 0)),(1,(.int .u8 0)),(2,(.int .u8 0)),(3,(.int .u8 0))] h).bind fun v1 h2 =>
 (buildSliceR Prog 31 4 [(0,(.int .u8 0)),(1,(.int .u8 0)),(2,(.int .u8 0)),(3,(.int .u8 12))] h2).bind fun v3 h4 =>
 (builtinV Prog .append [31,31] [v1,v3] h4).bind fun v5 h6 =>
 (call F.ζ2 [(.slice none 0 0),(.int .i64 8),(.int .i64 2)] h6).bind fun v7 h8 =>
 (call F.ζ2 [v7,(.int .i64 0),(.int .i64 2)] h8).bind fun v9 h10 =>
 (builtinV Prog .len [61] [a0] h10).bind fun v11 h12 =>
 (call F.ζ2 [v9,v11,(.int .i64 2)] h12).bind fun v13 h14 =>
 (builtinV Prog .len [61] [a0] h14).bind fun v15 h16 =>
 (loopN (ζ48 k call) loopFuel [(3,v5),(4,v13),(5,(.slice none 0 0)),(18,a0),(19,v15),(20,(.int .i64 0))] h16).bind fun r17 h18 =>
 ζ6k k call r17.1 r17.2 h18
theorem ζbm (k:Nat) (a0:Value) (h:Heap):R (T k) F.ζq [a0] h = nrm (own k) h (ζq k (R (T k)) a0 h) :=
 (R_body (t:=T k) (T_scott k) (by kernel_rfl) (by kernel_rfl) _ _).trans (by kernel_rfl)
theorem ζ55 (k:Nat) (call:Caller) (a3 a4 a5 a18 a19 a20:Value) (h:Heap):ζ48 k call [(3,a3),(4,a4),(5,a5),(18,a18),(19,a19),(20,a20)] h =
 (binR Prog .lss 3 a20 a19 h).bind fun v19 h20 =>
 condV (some v19) (
 (indexAddrR Prog 61 a18 a20 h20).bind fun v21 h22 =>
 (loadR Prog 62 v21 h22).bind fun v23 h24 =>
 (builtinV Prog .len [31] [a5] h24).bind fun v25 h26 =>
 (call F.ζ2 [a4,v25,(.int .i64 2)] h26).bind fun v27 h28 =>
 (builtinV Prog .len [62] [v23] h28).bind fun v29 h30 =>
 (call F.ζ2 [a5,v29,(.int .i64 4)] h30).bind fun v31 h32 =>
 (builtinV Prog .len [62] [v23] h32).bind fun v33 h34 =>
 (loopN (ζ2v k call) loopFuel [(3,a3),(4,v27),(5,v31),(18,a18),(19,a19),(20,a20),(32,v23),(33,v33),(34,(.int .i64 0))] h34).bind fun r35 h36 =>
 ζ6l k call r35.1 r35.2 h36)
 (
 .ok ((.exit 0),[(3,a3),(4,a4),(5,a5),(18,a18),(19,a19),(20,a20),(21,v19)]) h20) :=
 (loopB_eq _ _).trans (by kernel_rfl)
theorem ζ56 (k:Nat) (call:Caller) (a3 a4 a5 a18 a19 a20 a32 a33 a34:Value) (h:Heap):ζ2v k call [(3,a3),(4,a4),(5,a5),(18,a18),(19,a19),(20,a20),(32,a32),(33,a33),(34,a34)] h =
 (binR Prog .lss 3 a34 a33 h).bind fun v37 h38 =>
 condV (some v37) (
 (indexAddrR Prog 62 a32 a34 h38).bind fun v39 h40 =>
 (loadR Prog 69 v39 h40).bind fun v41 h42 =>
 (allocR Prog 69 h42).bind fun v43 h44 =>
 (storeR Prog 69 v43 v41 h44).bind fun _v45 h46 =>
 (indexAddrR Prog 69 v43 (.int .i64 0) h46).bindN fun v47 h48 =>
 (loadR Prog 68 v47 h48).bindN fun v49 h50 =>
 (convR Prog 68 80 v49 h50).bindN fun v51 h52 =>
 (convR Prog 80 3 v51 h52).bindN fun v53 h54 =>
 (call F.ζ2 [a5,v53,(.int .i64 2)] h54).bindT (fun p57 h58 => (indexAddrR Prog 69 v43 (.int .i64 1) h54).bindN fun v59 h60 => (loadR Prog 68 v59 h60).bindN fun v61 h62 => (convR Prog 68 80 v61 h62).bindN fun v63 h64 => (convR Prog 80 3 v63 h64).bindN fun v65 h66 => chkR ((okVal (loadR Prog 68 v59 h46) v61 && true) && true) (.panic p57 h58)) fun v55 h56 =>
 (indexAddrR Prog 69 v43 (.int .i64 1) h56).bindN fun v67 h68 =>
 (loadR Prog 68 v67 h68).bindN fun v69 h70 =>
 (convR Prog 68 80 v69 h70).bindN fun v71 h72 =>
 (convR Prog 80 3 v71 h72).bindN fun v73 h74 =>
 (call F.ζ2 [v55,v73,(.int .i64 2)] h74).bindT (fun p77 h78 => chkR ((okVal (loadR Prog 68 v67 h46) v69 && true) && true) (.panic p77 h78)) fun v75 h76 =>
 chkR ((okVal (loadR Prog 68 v67 h46) v69 && true) && true) (
 (binR Prog .add 3 a34 (.int .i64 1) h76).bind fun v79 h80 =>
 .ok (.normal,[(3,a3),(4,a4),(5,v75),(18,a18),(19,a19),(20,a20),(32,a32),(33,a33),(34,v79)]) h80))
 (
 .ok ((.exit 2),[(3,a3),(4,a4),(5,a5),(18,a18),(19,a19),(20,a20),(32,a32),(33,a33),(34,a34),(35,v37)]) h38) :=
 (loopB_eq _ _).trans (by kernel_rfl)
theorem ζ8u (k:Nat) (call:Caller) (a3 a4 a5 a18 a19 a20 a21:Value) (h:Heap):ζ6k k call (.exit 0) [(3,a3),(4,a4),(5,a5),(18,a18),(19,a19),(20,a20),(21,a21)] h =
 (builtinV Prog .len [31] [a4] h).bind fun v81 h82 =>
 (binR Prog .add 3 (.int .i64 12) v81 h82).bind fun v83 h84 =>
 (call F.ζ2 [a3,v83,(.int .i64 4)] h84).bind fun v85 h86 =>
 (builtinV Prog .append [31,31] [v85,a4] h86).bind fun v87 h88 =>
 (builtinV Prog .append [31,31] [v87,a5] h88).bind fun v89 h90 =>
 .ok v89 h90:=by kernel_rfl
theorem ζ8v (k:Nat) (call:Caller) (a3 a4 a5 a18 a19 a20 a32 a33 a34 a35:Value) (h:Heap):ζ6l k call (.exit 2) [(3,a3),(4,a4),(5,a5),(18,a18),(19,a19),(20,a20),(32,a32),(33,a33),(34,a34),(35,a35)] h =
 (binR Prog .add 3 a20 (.int .i64 1) h).bind fun v91 h92 =>
 .ok (.normal,[(3,a3),(4,a4),(5,a5),(18,a18),(19,a19),(20,v91)]) h92:=by kernel_rfl
end
end Go.Sw
end
section
namespace Go.Sw
open Go.RowKit
end Go.Sw
end
section
namespace Go.Sw
open Go.RowKit
abbrev enc2 (p:Int × Int):List Value:=[.int .i16 p.1,.int .i16 p.2]
theorem enc2_len (p:Int × Int):(enc2 p).length = 2:=rfl
def ptB (p:Int × Int):List Int:=bytesOf (m16 p.1) 2 ++ bytesOf (m16 p.2) 2
def ptsB (l:List (Int × Int)):List Int:=(l.map ptB).flatten
def glB (l:List (Int × Int)):List Int:=bytesOf l.length 4 ++ ptsB l
def dataB (ls:List (List (Int × Int))):List Int:=(ls.map glB).flatten
def offB (ls:List (List (Int × Int))) (j:Nat):List Int:=bytesOf ((dataB (ls.take j)).length:Nat) 2
def aoffB (ls:List (List (Int × Int))) (n:Nat):List Int:=((List.range n).map (offB ls)).flatten
def ofA (ls:List (List (Int × Int))) (n:Nat):List Int:=(bytesOf 8 2 ++ bytesOf 0 2 ++ bytesOf ls.length 2) ++ aoffB ls n
def ankB (ls:List (List (Int × Int))):List Int:=[0,0,0,0,0,0,0,12] ++ bytesOf (12 + (ofA ls ls.length).length:Nat) 4 ++ ofA ls ls.length ++ dataB ls
theorem ptB_len (p:Int × Int):(ptB p).length = 4:=by simp [ptB]
theorem ptsB_len (l:List (Int × Int)):(ptsB l).length = 4 * l.length:=by
 unfold ptsB;rw [flat_len (z:=4) (fun r hr => by obtain ⟨p,_,rfl⟩:=List.mem_map.1 hr; exact ptB_len p),List.length_map];omega
theorem glB_len (l:List (Int × Int)):(glB l).length = 4 + 4 * l.length:=by unfold glB; rw [List.length_append,ptsB_len,ζ2o]
theorem ζnv (l:List (Int × Int)) (p:Int × Int):ptsB (l ++ [p]) = ptsB l ++ ptB p:=by simp [ptsB]
theorem ζlc (ls:List (List (Int × Int))) (l:List (Int × Int)):dataB (ls ++ [l]) = dataB ls ++ glB l:=by simp [dataB]
theorem ζan:∀ (ls:List (List (Int × Int))),(∀ l,l ∈ ls → l.length ≤ 30) → (dataB ls).length ≤ ls.length * 124
 | [],_ => by simp [dataB]
 | l :: ls,h => by
  have h1:=ζan ls fun x hx => h x (by simp [hx]);have h2:=h l (by simp);have h3:=glB_len l;unfold dataB at h1 ⊢;simp only [List.map_cons,List.flatten_cons,List.length_append,List.length_cons];omega
theorem ζl0 (ls:List (List (Int × Int))) (n:Nat):aoffB ls (n + 1) = aoffB ls n ++ offB ls n:=by simp [aoffB,List.range_succ]
theorem ζim (ls:List (List (Int × Int))) (n:Nat):(aoffB ls n).length = n * 2:=by
 unfold aoffB;rw [flat_len (z:=2) (fun r hr => by obtain ⟨p,_,rfl⟩:=List.mem_map.1 hr; simp [offB]),List.length_map,List.length_range]
theorem ixA2_0 (b:Nat) (h:Heap):ixA 2 1 (.pointer (some ⟨b,0,none⟩)) (.int .i64 0) h = .ok (.pointer (some ⟨b,0,none⟩)) h:=by simp [ixA]
theorem ixA2_1 (b:Nat) (h:Heap):ixA 2 1 (.pointer (some ⟨b,0,none⟩)) (.int .i64 1) h = .ok (.pointer (some ⟨b,1,none⟩)) h:=by simp [ixA]
theorem w24_l2 (k:Nat) {H0 H:Heap} {A B:It} {o:Option Nat} {s5:Value} {lk:List Int} (a3 a4 a18 a19 a20:Value) {v:Value} {l:List (Int × Int)} (hv:Sl H0 2 v enc2 l) (hl:l.length ≤ 30) (hk:lk.length < 2 ^ 29)
  (g:Star H0 H [A,B,itRow o 1 s5 encB lk]) :
  ∃ s' o' zz H',loopN (ζ2v k (R (T k))) loopFuel [(3,a3),(4,a4),(5,s5),(18,a18),(19,a19),(20,a20),(32,v),(33,.int .i64 l.length),(34,.int .i64 0)] H =
   .ok (.exit 2,[(3,a3),(4,a4),(5,s'),(18,a18),(19,a19),(20,a20),(32,v),(33,.int .i64 l.length),(34,zz),(35,.bool false)]) H' ∧ Star H0 H' [A,B,itRow o' 1 s' encB (lk ++ ptsB l)]:=by
 obtain ⟨xx,e',H1,hr1,rfl,s',o',rfl,g1⟩:=loop_up (body:=ζ2v k (R (T k))) l.length
  (fun j e H' => ∃ s' o',e = [(3,a3),(4,a4),(5,s'),(18,a18),(19,a19),(20,a20),(32,v),(33,.int .i64 l.length),(34,.int .i64 j)] ∧ Star H0 H' [A,B,itRow o' 1 s' encB (lk ++ ptsB (l.take j))])
  (fun xx e H' => xx = .exit 2 ∧ ∃ s' o',e = [(3,a3),(4,a4),(5,s'),(18,a18),(19,a19),(20,a20),(32,v),(33,.int .i64 l.length),(34,.int .i64 l.length),(35,.bool false)] ∧ Star H0 H' [A,B,itRow o' 1 s' encB (lk ++ ptsB l)])
  (e0:=[(3,a3),(4,a4),(5,s5),(18,a18),(19,a19),(20,a20),(32,v),(33,.int .i64 l.length),(34,.int .i64 0)]) (H0:=H) ⟨s5,o,rfl,by simpa [ptsB] using g⟩ (by omega)
  (fun j e H' hj ⟨s',o',he,g⟩ => by
   subst he;have hjl:(j:Int) < l.length:=by omega
   obtain ⟨p,hp⟩:∃ p,l[j]? = some p:=⟨_,List.getElem?_eq_getElem hj⟩
   obtain ⟨q,i1,i2⟩:=((hv.up g.ext).rd (by decide) enc2_len).2 j p hp;have hlen:(lk ++ ptsB (l.take j)).length < 2 ^ 30:=by rw [List.length_append,ptsB_len,List.length_take]; omega
   have g:=g.push ⟨enc2 p,1,false⟩;simp only [List.cons_append,List.nil_append] at g;have b1:=m16_lt p.1;have b2:=m16_lt p.2;have hw1:=wrap16 p.1;have hw2:=wrap16 p.2;have hb:=g.get 3 rfl;obtain ⟨s1,o1,H1,e1,g1⟩:=Put_star k g 2 rfl (m16 p.1) 2 2 rfl b1.1 (by omega) (by omega) hlen;simp only [List.set_cons_zero,List.set_cons_succ] at g1;have hb1:=g1.get 3 rfl;obtain ⟨s2,o2,H2,e2,g2⟩:=Put_star k g1 2 rfl (m16 p.2) 2 2 rfl b2.1 (by omega) (by omega) (by rw [List.length_append,List.length_append,ptsB_len,List.length_take,ζ2o]; omega);simp only [List.set_cons_zero,List.set_cons_succ] at g2;have w1:IntKind.i64.wrap (m16 p.1) = m16 p.1:=wrap_i64 (by omega) (by omega);have w2:IntKind.i64.wrap (m16 p.2) = m16 p.2:=wrap_i64 (by omega) (by omega);have hb2:=g2.get 3 rfl;refine .inl ⟨_,H2,?_,s2,o2,rfl,by rw [ζ1o hp,ζnv]; simpa [ptB] using g2.take 3⟩;rw [ζ56];simp -implicitDefEqProofs (disch:=omega) [hjl,i1,i2,hb,hb1,hb2,ixA2_0,ixA2_1,hw1,hw2,w1,w2,e1,e2])
  (fun e H' ⟨s',o',he,g⟩ => by
   subst he;rw [List.take_length] at g;refine ⟨.exit 2,_,H',?_,by simp,rfl,s',o',rfl,g⟩;rw [ζ56];simp -implicitDefEqProofs)
 exact ⟨s',o',_,H1,hr1,g1⟩
abbrev encV (x:List (Int × Int) × Value):List Value:=[x.2]
theorem encV_len (x:List (Int × Int) × Value):(encV x).length = 1:=rfl
structure PtsSl (H:Heap) (ls:List (List (Int × Int))) (v:Value) (rv:List (List (Int × Int) × Value)):Prop where
 fst:rv.map Prod.fst = ls
 each:∀ x,x ∈ rv → Sl H 2 x.2 enc2 x.1
 all:Sl H 1 v encV rv
theorem PtsSl.up {H H':Heap} {ls:List (List (Int × Int))} {v:Value} {rv:List (List (Int × Int) × Value)} (h:PtsSl H ls v rv) (he:Ext H H'):PtsSl H' ls v rv:=⟨h.fst,fun x hx => (h.each x hx).up he,h.all.up he⟩
set_option maxHeartbeats 1000000 in
theorem ζii (k:Nat) {H:Heap} {ls:List (List (Int × Int))} {v:Value} {rv:List (List (Int × Int) × Value)} (hP:PtsSl H ls v rv) (hn:ls.length ≤ 30) (hl:∀ l,l ∈ ls → l.length ≤ 30) :
  ∃ s o H',ζq k (R (T k)) v H = .ok s H' ∧ Star H H' [itRow o 1 s encB (ankB ls)]:=by
 have hrvl:rv.length = ls.length:=by rw [← hP.fst]; simp
 have hvl:=fun H' => hP.all.len H';rw [hrvl] at hvl;have dl:=fun j => ζan (ls.take j) fun l h => hl l (List.mem_of_mem_take h);have ho1:OwnO (H.push ⟨[.int .u8 0,.int .u8 0,.int .u8 0,.int .u8 0],1,false⟩) (some H.n) 1 (.slice (some ⟨H.n,0,none⟩) 4 4) encB [0,0,0,0]:=.inr ⟨H.n,rfl,rfl,ζb _ _ _ rfl⟩;have g:=(Star.nil H).more_row ((Ext.refl H).push ⟨[.int .u8 0,.int .u8 0,.int .u8 0,.int .u8 0],1,false⟩) ho1 (fun b hb => by injection hb with hb; subst hb; simp);have ho2:OwnO ((H.push ⟨[.int .u8 0,.int .u8 0,.int .u8 0,.int .u8 0],1,false⟩).push ⟨[.int .u8 0,.int .u8 0,.int .u8 0,.int .u8 12],1,false⟩) (some (H.n + 1)) 1 (.slice (some ⟨H.n + 1,0,none⟩) 4 4) encB [0,0,0,12]:=.inr ⟨H.n + 1,rfl,rfl,ζb _ _ _ (by simp)⟩;have g:=g.more_row ((Ext.refl _).push ⟨[.int .u8 0,.int .u8 0,.int .u8 0,.int .u8 12],1,false⟩) ho2 (fun b hb => by injection hb with hb; subst hb; simp);simp only [List.nil_append,List.cons_append] at g;obtain ⟨s0,o0,H1,e0,g⟩:=g.appendRow (bytes:=1) 0 1 encB_len rfl rfl (by simp) (by decide);simp only [List.set_cons_zero,List.set_cons_succ] at g;have g:=g.take 1;simp only [List.take_succ_cons,List.take_zero] at g;have g:=g.more_row (Ext.refl _) (OwnO.nil encB _ 1) (fun b hb => by cases hb);simp only [List.nil_append,List.cons_append] at g;obtain ⟨t1,u1,J1,f1,g⟩:=Put_star k g 1 rfl 8 2 2 rfl (by omega) (by omega) (by omega) (by simp);simp only [List.set_cons_zero,List.set_cons_succ] at g;obtain ⟨t2,u2,J2,f2,g⟩:=Put_star k g 1 rfl 0 2 2 rfl (by omega) (by omega) (by omega) (by simp);simp only [List.set_cons_zero,List.set_cons_succ] at g;obtain ⟨t3,u3,J3,f3,g⟩:=Put_star k g 1 rfl ls.length 2 2 rfl (by omega) (by omega) (by omega) (by simp);simp only [List.set_cons_zero,List.set_cons_succ,List.nil_append] at g;have g:=g.more_row (Ext.refl _) (OwnO.nil encB _ 1) (fun b hb => by cases hb);simp only [List.nil_append,List.cons_append] at g
 obtain ⟨xx,e',J4,hr4,rfl,z4,s4,o4,s5,o5,rfl,g⟩:=loop_up (body:=ζ48 k (R (T k))) ls.length
  (fun j e H' => ∃ s o s5 o5,e = [(3,s0),(4,s),(5,s5),(18,v),(19,.int .i64 ls.length),(20,.int .i64 j)] ∧ Star H H' [itRow o0 1 s0 encB ([0,0,0,0] ++ [0,0,0,12]),itRow o 1 s encB (ofA ls j),itRow o5 1 s5 encB (dataB (ls.take j))])
  (fun xx e H' => xx = .exit 0 ∧ ∃ z s o s5 o5,e = [(3,s0),(4,s),(5,s5),(18,v),(19,.int .i64 ls.length),(20,z),(21,.bool false)] ∧ Star H H' [itRow o0 1 s0 encB ([0,0,0,0] ++ [0,0,0,12]),itRow o 1 s encB (ofA ls ls.length),itRow o5 1 s5 encB (dataB ls)])
  (e0:=[(3,s0),(4,t3),(5,.slice none 0 0),(18,v),(19,.int .i64 ls.length),(20,.int .i64 0)]) (H0:=J3) ⟨t3,u3,.slice none 0 0,none,rfl,by simpa [ofA,aoffB,dataB] using g⟩ (by omega)
  (fun j e H' hj ⟨s,o,s5,o5,he,g⟩ => by
   subst he;have hlt:(j:Int) < ls.length:=by omega
   obtain ⟨l,hl2⟩:∃ l,ls[j]? = some l:=⟨_,List.getElem?_eq_getElem hj⟩
   obtain ⟨x,hx⟩:∃ x,rv[j]? = some x:=⟨_,List.getElem?_eq_getElem (by omega)⟩
   have hxr:x.1 = l:=by
    have h0:(rv.map Prod.fst)[j]? = some x.1:=by rw [List.getElem?_map,hx]; rfl
    rw [hP.fst,hl2] at h0;exact (Option.some.inj h0).symm
   obtain ⟨pp,i1,i2⟩:=hP.all.ix1 encV_len j x hx _ rfl;have i2:=i2 H' g.ext;have hxs:=hP.each x (List.mem_of_getElem? hx);rw [hxr] at hxs;have hll:=hl l (List.mem_of_getElem? hl2);have hln:=fun H' => hxs.len H';have d1:=dl j;rw [List.length_take] at d1;have hofl:(ofA ls j).length = 6 + j * 2:=by unfold ofA; rw [List.length_append,ζim]; simp
   have q5:∀ H',lnS s5 H' = .ok (.int .i64 (dataB (ls.take j)).length) H':=(g.row 2 rfl).len;obtain ⟨s1,o1,H1,e1,g1⟩:=Put_star k g 1 rfl (dataB (ls.take j)).length 2 2 rfl (by omega) (by omega) (by omega) (by omega);simp only [List.set_cons_zero,List.set_cons_succ] at g1;obtain ⟨s2,o2,H2,e2,g2⟩:=Put_star k g1 2 rfl l.length 4 4 rfl (by omega) (by omega) (by omega) (by omega);simp only [List.set_cons_zero,List.set_cons_succ] at g2;obtain ⟨s3,o3,zz,H3,e3,g3⟩:=w24_l2 k s0 s1 v (.int .i64 ls.length) (.int .i64 j) hxs hll (by rw [List.length_append,ζ2o]; omega) g2;refine .inl ⟨_,H3,?_,s1,o1,s3,o3,rfl,?_⟩
   ·rw [ζ55];simp -implicitDefEqProofs (disch:=omega) [hlt,i1,i2,hln,q5,e1,e2,e3,ζ8v]
   ·have h1:ofA ls (j + 1) = ofA ls j ++ bytesOf ((dataB (ls.take j)).length:Nat) 2:=by unfold ofA; rw [ζl0,← List.append_assoc]; rfl
    have h2:dataB (ls.take (j + 1)) = dataB (ls.take j) ++ bytesOf l.length 4 ++ ptsB l:=by rw [ζ1o hl2,ζlc]; unfold glB; rw [List.append_assoc]
    rw [h1,h2];exact g3)
  (fun e H' ⟨s,o,s5,o5,he,g⟩ => by
   subst he;rw [List.take_length] at g;refine ⟨.exit 0,_,H',?_,by simp,rfl,.int .i64 ls.length,s,o,s5,o5,rfl,g⟩;rw [ζ55];simp -implicitDefEqProofs)
 have hofl:(ofA ls ls.length).length = 6 + ls.length * 2:=by unfold ofA; rw [List.length_append,ζim]; simp
 have hdl:=dl ls.length;rw [List.take_length] at hdl;have q4:∀ H',lnS s4 H' = .ok (.int .i64 (ofA ls ls.length).length) H':=(g.row 1 rfl).len;obtain ⟨t6,u6,J6,f6,g⟩:=Put_star k g 0 rfl (12 + (ofA ls ls.length).length:Nat) 4 4 rfl (by omega) (by omega) (by omega) (by simp);simp only [List.set_cons_zero,List.set_cons_succ] at g;obtain ⟨t7,u7,J7,f7,g⟩:=g.appendRow (bytes:=1) 0 1 encB_len rfl rfl (by simp; omega) (by decide);simp only [List.set_cons_zero,List.set_cons_succ] at g;obtain ⟨t8,u8,J8,f8,g⟩:=g.appendRow (bytes:=1) 0 2 encB_len rfl rfl (by simp; omega) (by decide);simp only [List.set_cons_zero,List.set_cons_succ] at g;have g:=g.take 1;simp only [List.take_succ_cons,List.take_zero] at g;refine ⟨t8,u8,J8,?_,by unfold ankB; simpa using g⟩;have w1:IntKind.i64.wrap (12 + ((ofA ls ls.length).length:Int)) = 12 + (ofA ls ls.length).length:=wrap_i64 (by omega) (by omega)
 push_cast at f6
 simp -implicitDefEqProofs (disch:=omega) [ζq,e0,f1,f2,f3,hvl,hr4,ζ8u,q4,w1,f6,f7,f8]
theorem ζmk (k:Nat) (hk:k < 1000000) {H:Heap} {ls:List (List (Int × Int))} {v:Value} {rv:List (List (Int × Int) × Value)} (hP:PtsSl H ls v rv) (hn:ls.length ≤ 30) (hl:∀ l,l ∈ ls → l.length ≤ 30) :
  R (T k) F.ζq [v] H = .ok (lv encB (ankB ls)) H:=by
 obtain ⟨s,o,H',e,g⟩:=ζii k hP hn hl;rw [ζbm];have ho:own k = .fz:=by
  unfold own;rw [show Nat.blt k 1000000 = true from Nat.ble_eq_true_of_le hk];rfl
 rw [ho];obtain ⟨L,hf⟩:=(g.own 0 rfl).freeze encB_len (fun n _ v hv => by simp at hv; subst hv; trivial) 6;exact nrm_fz (v:=s) (H':=H') e hf g.ext (Flat.B _).alive
end Go.Sw
end
section
namespace Go.Sw
open Go.RowKit
def aoffs (ls:List (List (Int × Int))):List Int:=(List.range ls.length).map fun j => ((dataB (ls.take j)).length:Int)
theorem ζ4s (ls:List (List (Int × Int))):(aoffs ls).length = ls.length:=by simp [aoffs]
theorem ofA_twos (ls:List (List (Int × Int))):ofA ls ls.length = ofS (aoffs ls):=by
 unfold ofA ofS aoffs aoffB twos offB;rw [List.map_map,List.length_map,List.length_range];rfl
theorem ζmt (ls:List (List (Int × Int))) {j:Nat} (hj:j < ls.length):(aoffs ls)[j]? = some ((dataB (ls.take j)).length:Int):=by
 unfold aoffs;rw [List.getElem?_map,List.getElem?_range hj];rfl
theorem ζeo (ls:List (List (Int × Int))) {j:Nat} {l:List (Int × Int)} (h:ls[j]? = some l):dataB ls = dataB (ls.take j) ++ (glB l ++ dataB (ls.drop (j + 1))):=by
 obtain ⟨hj,hl⟩:=List.getElem?_eq_some_iff.1 h;have:ls = ls.take j ++ (l :: ls.drop (j + 1)):=by
  rw [← hl,← List.drop_eq_getElem_cons,List.take_append_drop]
 conv => lhs; rw [this]
 simp [dataB]
theorem ζju {ls:List (List (Int × Int))} (hn:ls.length ≤ 30) (hl:∀ l,l ∈ ls → l.length ≤ 30):∀ x,x ∈ aoffs ls → 0 ≤ x ∧ x < 65536:=fun x hx => by
 unfold aoffs at hx;obtain ⟨j,hj,rfl⟩:=List.mem_map.1 hx;have h1:=ζan (ls.take j) fun l h => hl l (List.mem_of_mem_take h);rw [List.length_take] at h1;omega
theorem ptB_byt (p:Int × Int):Byt (ptB p):=(ζt _ _).app (ζt _ _)
theorem ζn1 (ls:List (List (Int × Int))):Byt (dataB ls):=Byt.flat fun r hr => by
 obtain ⟨l,_,rfl⟩:=List.mem_map.1 hr;exact (ζt _ _).app (Byt.flat fun r hr => by obtain ⟨p,_,rfl⟩:=List.mem_map.1 hr; exact ptB_byt p)
theorem data_cnt (ls:List (List (Int × Int))) {j:Nat} {l:List (Int × Int)} (h:ls[j]? = some l) (hl:l.length ≤ 30):uS (dataB ls) ((dataB (ls.take j)).length:Int) 4 = some (l.length:Int):=by
 rw [ζeo ls h];unfold glB;rw [List.append_assoc];exact uS_at _ _ _ _ rfl rfl (by omega) (by omega)
theorem data_fit (ls:List (List (Int × Int))) {j:Nat} {l:List (Int × Int)} (h:ls[j]? = some l):(dataB (ls.take j)).length + 4 + 4 * l.length ≤ (dataB ls).length:=by
 conv => rhs; rw [ζeo ls h]
 simp only [List.length_append,glB_len];omega
theorem ζcu (ls:List (List (Int × Int))) (hn:ls.length ≤ 30):uS (ankB ls) 0 2 = some 0 ∧ uS (ankB ls) 4 4 = some 12 ∧ uS (ankB ls) 8 4 = some (12 + ((ofS (aoffs ls)).length:Int)) ∧ (ankB ls).drop 12 = ofS (aoffs ls) ++ dataB ls ∧ (ankB ls).drop (12 + (ofS (aoffs ls)).length) = dataB ls ∧ (ankB ls).length = 12 + (ofS (aoffs ls)).length + (dataB ls).length:=by
 have hol:(ofS (aoffs ls)).length = 6 + ls.length * 2:=by unfold ofS; simp [twos_len,ζ4s]; omega
 have e:ankB ls = [0,0,0,0,0,0,0,12] ++ (bytesOf ((12 + (ofS (aoffs ls)).length:Nat):Int) 4 ++ (ofS (aoffs ls) ++ dataB ls)):=by unfold ankB; rw [ofA_twos]; simp only [List.append_assoc]
 have e3:ankB ls = ([0,0,0,0,0,0,0,12] ++ bytesOf ((12 + (ofS (aoffs ls)).length:Nat):Int) 4) ++ (ofS (aoffs ls) ++ dataB ls):=by rw [e]; simp only [List.append_assoc]
 refine ⟨?_,?_,?_,?_,?_,?_⟩
 ·rw [e,show ([0,0,0,0,0,0,0,12]:List Int) = [] ++ (bytesOf 0 2 ++ [0,0,0,0,0,12]) by decide,List.append_assoc,List.append_assoc];exact uS_at _ _ _ _ (by simp) rfl (by omega) (by omega)
 ·rw [e,show ([0,0,0,0,0,0,0,12]:List Int) = [0,0,0,0] ++ (bytesOf 12 4 ++ []) by decide,List.append_assoc,List.append_assoc];exact uS_at _ _ _ _ (by simp) rfl (by omega) (by omega)
 ·rw [e];have:=uS_at [0,0,0,0,0,0,0,12] (ofS (aoffs ls) ++ dataB ls) (n:=((12 + (ofS (aoffs ls)).length:Nat):Int)) (k:=4) 8 4 (by simp) rfl (by omega) (by omega);rw [this]; simp
 ·rw [e3,List.drop_append_of_le_length (by simp)];rw [List.drop_of_length_le (by simp)];rfl
 ·rw [e3,← List.append_assoc,List.drop_append_of_le_length (by simp; omega),List.drop_of_length_le (by simp; omega)];rfl
 ·rw [e]; simp; omega
theorem ankB_byt (ls:List (List (Int × Int))):Byt (ankB ls):=by
 unfold ankB;rw [ofA_twos];refine (((Byt.app ?_ (ζt _ _)).app ?_)).app (ζn1 ls)
 ·intro x hx;simp at hx;omega
 ·unfold ofS;exact (((ζt _ _).app (ζt _ _)).app (ζt _ _)).app (twos_byt _)
abbrev tabA (ls:List (List (Int × Int))):ATab:=⟨tabOf (aoffs ls),dataB ls⟩
theorem ζil (ls:List (List (Int × Int))) (hn:ls.length ≤ 30) (hl:∀ l,l ∈ ls → l.length ≤ 30) (g:Int):ankS (ankB ls) g = some (tabA ls):=by
 obtain ⟨p1,p2,p3,p4,p5,p6⟩:=ζcu ls hn;have hb:=ζju hn hl;have hlk:=look_ofS (aoffs ls) hb (by rw [ζ4s]; omega) (dataB ls) g;unfold ankS;have r1:restS (ankB ls) 12 = some (ofS (aoffs ls) ++ dataB ls):=by
  unfold restS;rw [if_pos ⟨by omega,by omega⟩];exact congrArg some p4
 have r2:restS (ankB ls) (12 + (ofS (aoffs ls)).length) = some (dataB ls):=by
  unfold restS;rw [if_pos ⟨by omega,by omega⟩];rw [show (12 + ((ofS (aoffs ls)).length:Int)).toNat = 12 + (ofS (aoffs ls)).length by omega,p5]
 simp only [p1,p2,r1,hlk,p3,r2,Option.bind_some,if_true];rw [if_pos];rw [List.all_eq_true];intro x hx;have hok:∀ p,p ∈ (tabOf (aoffs ls)).2 → p.ok:=by
  intro p hp;unfold tabOf at hp;dsimp only at hp;split at hp
  ·cases hp
  ·rename_i hne;simp only [List.mem_singleton] at hp;subst hp;have:0 < (aoffs ls).length:=List.length_pos_iff.2 hne;rw [ζ4s] at this;refine ⟨by simp,by simp [ζ4s]; omega,by simp [ζ4s]; omega,hne,by simp [ζ4s]; omega,fun x hx => ?_⟩;have:=hb x hx;omega
 obtain ⟨p,hp,hx⟩:=List.mem_flatMap.1 hx;unfold tabOf at hp;dsimp only at hp;split at hp
 ·cases hp
 ·simp only [List.mem_singleton] at hp;subst hp;unfold ptL at hx;obtain ⟨j,hj,rfl⟩:=List.mem_map.1 hx;have hj:=List.mem_range.1 hj;dsimp only at hj;rw [ζ4s] at hj;have hj:j < ls.length:=by omega
  have hnum:Pt.num ⟨0,((aoffs ls).length:Int) - 1,aoffs ls⟩ (0 + (j:Nat)) = some ((dataB (ls.take j)).length:Int):=by
   unfold Pt.num;dsimp only;rw [ζ4s,show (min (0 + (j:Int) - 0) ((ls.length:Int) - 1)).toNat = j by omega];exact ζmt ls hj
  obtain ⟨l,hl2⟩:∃ l,ls[j]? = some l:=⟨_,List.getElem?_eq_getElem hj⟩
  have h30:=hl l (List.mem_of_getElem? hl2);dsimp only;rw [hnum];show ptOk (dataB ls) ((dataB (ls.take j)).length:Int) = true;unfold ptOk;rw [data_cnt ls hl2 h30,Option.bind_some];have hf:=data_fit ls hl2;rw [(ζ8b (r:=((dataB ls).drop (((dataB (ls.take j)).length:Int) + 4).toNat).take ((l.length:Int) * 4).toNat) (by decide)).2 ⟨⟨by omega,by omega,by omega,by omega⟩,rfl⟩];rfl
end Go.Sw
end
section
namespace Go.Sw
open Go.RowKit
abbrev encPs (l:List (Int × Int)):List Value:=[lv enc2 l]
theorem ζn4 (l:List (Int × Int)):(encPs l).length = 1:=rfl
theorem ptsSl_lv (H:Heap) (ls:List (List (Int × Int))):PtsSl H ls (lv encPs ls) (ls.map fun l => (l,lv enc2 l)):=by
 refine ⟨by rw [List.map_map]; simp [Function.comp_def],fun x hx => by obtain ⟨l,_,rfl⟩:=List.mem_map.1 hx; exact Sl.lv _ 2 _,?_⟩;have:lv encPs ls = lv encV (ls.map fun l => (l,lv enc2 l)):=by
  unfold lv;rw [List.length_map];congr 2;unfold rows;rw [List.flatMap_map];rfl
 rw [this];exact Sl.lv _ 1 _
theorem tabA_ok (ls:List (List (Int × Int))) (hn:ls.length ≤ 30) (hl:∀ l,l ∈ ls → l.length ≤ 30):(tabA ls).ok:=by
 obtain ⟨p1,p2,p3,p4,p5,p6⟩:=ζcu ls hn;have hdl:=ζan ls hl;have hol:(ofS (aoffs ls)).length = 6 + ls.length * 2:=by unfold ofS; simp [twos_len,ζ4s]; omega
 exact ankS_ok (ankB_byt ls) (g:=60) (by omega) (by omega) (by omega) (ζil ls hn hl 60)
theorem wf_i16 {n:Int} (h:(Lit.int .i16 n).wf = true):-32768 ≤ n ∧ n < 32768:=by
 simp [Lit.wf,IntKind.min,IntKind.max,IntKind.signed,IntKind.bits] at h;omega
theorem row_2 {r:List Da} {cs:List Value} (h:LayRow [.int .i16,.int .i16] r cs):∃ p:Int × Int,cs = enc2 p ∧ ((-32768 ≤ p.1 ∧ p.1 < 32768) ∧ (-32768 ≤ p.2 ∧ p.2 < 32768)):=by
 obtain ⟨d,v,ds,vs,rfl,h1,h2⟩:=h.head;obtain ⟨d',v',ds',vs',rfl,g2,h3⟩:=h2.head;obtain rfl:=h3.done;obtain ⟨n,rfl,w⟩:=h1.intv;obtain ⟨m,rfl,w2⟩:=g2.intv;exact ⟨(n,m),rfl,wf_i16 w,wf_i16 w2⟩
theorem row_Ps {r:List Da} {cs:List Value} (h:LayRow [.slice [.int .i16,.int .i16]] r cs):∃ l:List (Int × Int),cs = encPs l ∧ ∀ p,p ∈ l → ((-32768 ≤ p.1 ∧ p.1 < 32768) ∧ (-32768 ≤ p.2 ∧ p.2 < 32768)):=by
 obtain ⟨d,v,ds,vs,rfl,h1,h2⟩:=h.head;obtain rfl:=h2.done;obtain ⟨l,rfl,hl⟩:=Lay.list (enc:=enc2) (ok:=fun p => (-32768 ≤ p.1 ∧ p.1 < 32768) ∧ (-32768 ≤ p.2 ∧ p.2 < 32768)) (fun r cs h => row_2 h) h1;exact ⟨l,rfl,hl⟩
end Go.Sw
end
section
namespace Go.Sw
open Go.RowKit
end Go.Sw
end
section
namespace Go.Sw
open Go.RowKit
end Go.Sw
end
section
set_option maxRecDepth 100000
set_option linter.unusedVariables false
namespace Go.Sw
noncomputable section
end
end Go.Sw
end
section
namespace Go.Sw
open Go.RowKit
end Go.Sw
end
section
namespace Go.Sw
open Go.RowKit
end Go.Sw
end
section
namespace Go.Sw
open Go.RowKit
end Go.Sw
end
section
namespace Go.Sw
open Go.RowKit
variable {σ:Type}
end Go.Sw
end
section
namespace Go.Sw
open Go.RowKit
end Go.Sw
end
section
namespace Go.Sw
open Go.RowKit
end Go.Sw
end
section
namespace Go.Sw
open Go.RowKit
abbrev rmC (r:RMach):List Value:=rmCells r.b r.cl r.rowsAt r.entsAt r.states r.n r.words r.tb r.parts
end Go.Sw
end
section
namespace Go.Sw
open Go.RowKit
end Go.Sw
end
section
set_option maxRecDepth 100000
set_option linter.unusedVariables false
namespace Go.Sw
noncomputable section
def ζ2i (k:Nat) (call:Caller):Env → Heap → Res (AExit × Env):=loopB (C k) call F.ζn [1,1,1,1,1,1,1,1,0,1,0,0]
def ζ77 (k:Nat) (call:Caller):Kont Value:=kBlock 0 (kSeq (pieceK (C k) call F.ζn [1,1,1,1,1,1,1,1,1]) (kDone Prog (resOf Prog F.ζn)))
def ζn (k:Nat) (call:Caller) (a0 a1:Value) (h:Heap):Res Value :=
 (allocR Prog 133 h).bind fun v1 h2 =>
 (call F.ζ7 [a0,a1,(.int .i64 1)] h2).bind fun v3 h4 =>
 (extractR v3 0 h4).bind fun v5 h6 =>
 (extractR v3 1 h6).bind fun v7 h8 =>
 (allocR Prog 115 h8).bind fun v9 h10 =>
 (storeR Prog 115 v9 v5 h10).bind fun _v11 h12 =>
 (call F.ζ3 [a0,(.int .i64 16),(.int .i64 4)] h12).bind fun v13 h14 =>
 (unR .not v7 h14).bind fun v15 h16 =>
 ((bif wantVal v15 false then Res.ok v13 h16 else Res.ok undef h16)).bind fun v17 h18 =>
 ((bif wantVal v15 false then binR Prog .lss 3 v17 (.int .i64 0) h18 else Res.ok undef h18)).bind fun v19 h20 =>
 (condV (some v15) (Res.ok (.bool true) h20) (Res.ok v19 h20)).bind fun v21 h22 =>
 condV (some v21) (
 (buildR Prog 133 [] h22).bind fun v23 h24 =>
 (storeR Prog 133 v1 v23 h24).bind fun _v25 h26 =>
 (loadR Prog 133 v1 h26).bind fun v27 h28 =>
 .ok (.tuple #[v27,(.bool false)]) h28)
 (
 (loadR Prog 115 v9 h22).bind fun v29 h30 =>
 (binR Prog .quo 3 v13 (.int .i64 1073741824) h30).bind fun v31 h32 =>
 (buildR Prog 133 [(0,v29),(1,v31)] h32).bind fun v33 h34 =>
 (allocR Prog 133 h34).bind fun v35 h36 =>
 (storeR Prog 133 v35 v33 h36).bind fun _v37 h38 =>
 (fieldAddrR Prog 133 v35 1 h38).bind fun v39 h40 =>
 (loadR Prog 3 v39 h40).bind fun v41 h42 =>
 (binR Prog .neq 3 v41 (.int .i64 1) h42).bind fun v43 h44 =>
 ((bif wantVal v43 true then fieldAddrR Prog 133 v35 1 h44 else Res.ok undef h44)).bind fun v45 h46 =>
 ((bif wantVal v43 true then loadR Prog 3 v45 h46 else Res.ok undef h46)).bind fun v47 h48 =>
 ((bif wantVal v43 true then binR Prog .neq 3 v47 (.int .i64 2) h48 else Res.ok undef h48)).bind fun v49 h50 =>
 (condV (some v43) (Res.ok v49 h50) (Res.ok (.bool false) h50)).bind fun v51 h52 =>
 condV (some v51) (
 (loadR Prog 133 v35 h52).bind fun v53 h54 =>
 (storeR Prog 133 v1 v53 h54).bind fun _v55 h56 =>
 (loadR Prog 133 v1 h56).bind fun v57 h58 =>
 .ok (.tuple #[v57,(.bool true)]) h58)
 (
 (binR Prog .rem 3 v13 (.int .i64 16777216) h52).bind fun v59 h60 =>
 (call F.ζ1u [a0,v59] h60).bind fun v61 h62 =>
 (extractR v61 0 h62).bind fun v63 h64 =>
 (extractR v61 1 h64).bind fun v65 h66 =>
 (fieldAddrR Prog 133 v35 2 h66).bind fun v67 h68 =>
 (storeR Prog 31 v67 v63 h68).bind fun _v69 h70 =>
 (loopN (ζ2i k call) loopFuel [(4,v1),(6,v9),(9,v35),(10,v63),(11,v65),(12,(.int .i64 0))] h70).bind fun r71 h72 =>
 ζ77 k call r71.1 r71.2 h72))
theorem ζcf (k:Nat) (a0 a1:Value) (b0 b1:Value) (h:Heap) (L:List Nat) (hf:mapF (fzV 0 h fzDepth) [a0,a1] = some ([b0,b1],L)):R (T k) F.ζn [a0,a1] h = nrm .fz (killAll h L) (ζn k (R (T k)) b0 b1 (killAll h L)) :=
 (R_bodyA (t:=T k) (T_scott k) (by kernel_rfl) (by kernel_rfl) hf).trans (by kernel_rfl)
theorem ζ2d (k:Nat) (call:Caller) (a4 a6 a9 a10 a11 a12:Value) (h:Heap):ζ2i k call [(4,a4),(6,a6),(9,a9),(10,a10),(11,a11),(12,a12)] h =
 (fieldAddrR Prog 115 a6 5 h).bind fun v73 h74 =>
 (loadR Prog 3 v73 h74).bind fun v75 h76 =>
 (binR Prog .lss 3 a12 v75 h76).bind fun v77 h78 =>
 ((bif wantVal v77 true then Res.ok a11 h78 else Res.ok undef h78)).bind fun v79 h80 =>
 (condV (some v77) (Res.ok v79 h80) (Res.ok (.bool false) h80)).bind fun v81 h82 =>
 condV (some v81) (
 (loadR Prog 115 a6 h82).bind fun v83 h84 =>
 (call F.ζi [v83,a12] h84).bind fun v85 h86 =>
 (fieldR Prog 130 v85 2 h86).bind fun v87 h88 =>
 (binR Prog .eql 3 v87 (.int .i64 65535) h88).bind fun v89 h90 =>
 ((bif wantVal v89 false then Res.ok a10 h90 else Res.ok undef h90)).bind fun v91 h92 =>
 ((bif wantVal v89 false then builtinV Prog .len [31] [v91] h92 else Res.ok undef h92)).bind fun v93 h94 =>
 ((bif wantVal v89 false then fieldAddrR Prog 133 a9 1 h94 else Res.ok undef h94)).bind fun v95 h96 =>
 ((bif wantVal v89 false then loadR Prog 3 v95 h96 else Res.ok undef h96)).bind fun v97 h98 =>
 ((bif wantVal v89 false then binR Prog .mul 3 (.int .i64 4) v97 h98 else Res.ok undef h98)).bind fun v99 h100 =>
 ((bif wantVal v89 false then Res.ok v87 h100 else Res.ok undef h100)).bind fun v101 h102 =>
 ((bif wantVal v89 false then binR Prog .mul 3 v99 v101 h102 else Res.ok undef h102)).bind fun v103 h104 =>
 ((bif wantVal v89 false then fieldAddrR Prog 133 a9 1 h104 else Res.ok undef h104)).bind fun v105 h106 =>
 ((bif wantVal v89 false then loadR Prog 3 v105 h106 else Res.ok undef h106)).bind fun v107 h108 =>
 ((bif wantVal v89 false then binR Prog .mul 3 (.int .i64 4) v107 h108 else Res.ok undef h108)).bind fun v109 h110 =>
 ((bif wantVal v89 false then call F.ζ1m [v93,v103,v109] h110 else Res.ok undef h110)).bind fun v111 h112 =>
 (condV (some v89) (Res.ok (.bool true) h112) (Res.ok v111 h112)).bind fun v113 h114 =>
 (binR Prog .add 3 a12 (.int .i64 1) h114).bind fun v115 h116 =>
 .ok (.normal,[(4,a4),(6,a6),(9,a9),(10,a10),(11,v113),(12,v115)]) h116)
 (
 .ok ((.exit 0),[(4,a4),(6,a6),(9,a9),(10,a10),(11,a11),(12,a12),(57,v81)]) h82) :=
 (loopB_eq _ _).trans (by kernel_rfl)
theorem ζ5j (k:Nat) (call:Caller) (a4 a6 a9 a10 a11 a12 a57:Value) (h:Heap):ζ77 k call (.exit 0) [(4,a4),(6,a6),(9,a9),(10,a10),(11,a11),(12,a12),(57,a57)] h =
 (loadR Prog 133 a9 h).bind fun v117 h118 =>
 (storeR Prog 133 a4 v117 h118).bind fun _v119 h120 =>
 (loadR Prog 133 a4 h120).bind fun v121 h122 =>
 .ok (.tuple #[v121,a11]) h122:=by kernel_rfl
end
end Go.Sw
end
section
namespace Go.Sw
open Go.RowKit
theorem ζ7k (k:Nat) (b:List Int) (g:Int) (H:Heap):R (T k) F.ζn [lv encB b,.int .i64 g] H = nrm .fz H (ζn k (R (T k)) (lv encB b) (.int .i64 g) H) :=
 ζcf k _ _ _ _ H [] rfl
abbrev r25C (r:RMach) (kd:Int) (vs:List Int):List Value:=[lv encB r.b,.int .i64 r.cl,.int .i64 r.rowsAt,.int .i64 r.entsAt,.int .i64 r.states,.int .i64 r.n,.int .i64 r.words,lv encB r.tb,lv encRP r.parts,.int .i64 kd,lv encB vs]
abbrev zC11:List Value:=[.slice none 0 0,.int .i64 0,.int .i64 0,.int .i64 0,.int .i64 0,.int .i64 0,.int .i64 0,.slice none 0 0,.slice none 0 0,.int .i64 0,.slice none 0 0]
abbrev r25N (r:RMach) (kd:Int):List Value:=[lv encB r.b,.int .i64 r.cl,.int .i64 r.rowsAt,.int .i64 r.entsAt,.int .i64 r.states,.int .i64 r.n,.int .i64 r.words,lv encB r.tb,lv encRP r.parts,.int .i64 kd,.slice none 0 0]
theorem r25_l1 (k:Nat) {vs:List Int} (hl:vs.length < 2 ^ 31) {r:RMach} {kd:Int} (hkd:kd = 1 ∨ kd = 2) {es:List En} (hes:∀ e,e ∈ es → 0 ≤ e.a ∧ e.a < 65536) (hel:es.length < 65537) (hn:r.n = es.length) (hent:∀ (i:Nat) (e:En),es[i]? = some e → ∀ H',R (T k) F.ζi [rmV r,.int .i64 i] H' = .ok (.agg (encEn e).toArray) H')
  {p4 p6 p9:Nat} {H0 H:Heap} {z:Blk} (st:Star H0 H [itBlk p4 z,itBlk p6 ⟨rmC r,1,false⟩,itBlk p9 ⟨r25C r kd vs,1,false⟩]) :
  ∃ a b,loopN (ζ2i k (R (T k))) loopFuel [(4,ptrV p4),(6,ptrV p6),(9,ptrV p9),(10,lv encB vs),(11,.bool true),(12,.int .i64 0)] H = .ok (.exit 0,[(4,ptrV p4),(6,ptrV p6),(9,ptrV p9),(10,lv encB vs),(11,.bool (es.all (entAct kd vs))),(12,a),(57,b)]) H:=by
 obtain ⟨rb,rc,ra,re,rs,rn,rw,rt,rp⟩:=r;dsimp only at hn;subst hn;have hin:=fun i n H' => ζg3 k (vs.length:Int) i n (by omega) (by omega) H';have g6:=st.get 1 rfl;have g9:=st.get 2 rfl;have hvr:veq (rmV ⟨rb,rc,ra,re,rs,(es.length:Int),rw,rt,rp⟩) (rmV ⟨rb,rc,ra,re,rs,(es.length:Int),rw,rt,rp⟩) = true:=veq_rm _
 obtain ⟨xx,e',H1,hr1,rfl,rfl,a,b,rfl⟩:=loop_up (body:=ζ2i k (R (T k))) (es.length)
  (fun j e' H' => H' = H ∧ e' = [(4,ptrV p4),(6,ptrV p6),(9,ptrV p9),(10,lv encB vs),(11,.bool ((es.take j).all (entAct kd vs))),(12,.int .i64 j)])
  (fun xx e' H' => xx = .exit 0 ∧ H' = H ∧ ∃ a b,e' = [(4,ptrV p4),(6,ptrV p6),(9,ptrV p9),(10,lv encB vs),(11,.bool (es.all (entAct kd vs))),(12,a),(57,b)])
  (e0:=[(4,ptrV p4),(6,ptrV p6),(9,ptrV p9),(10,lv encB vs),(11,.bool true),(12,.int .i64 0)]) (H0:=H) ⟨rfl,rfl⟩ (by omega)
  (fun j e' H' hj ⟨hH,he'⟩ => by
   subst he' hH;have hjl:(j:Int) < es.length:=by omega
   obtain ⟨en,hen⟩:∃ en,es[j]? = some en:=⟨_,List.getElem?_eq_getElem hj⟩
   have hmem:=List.mem_of_getElem? hen;have hE:=hent j en hen;have hb:=hes en hmem;cases hall:(es.take j).all (entAct kd vs) with
   | false =>
    have hf:es.all (entAct kd vs) = false:=by
     rw [Bool.eq_false_iff];intro h;have h2:(es.take j).all (entAct kd vs) = true:=List.all_eq_true.2 fun x hx => List.all_eq_true.1 h x (List.mem_of_mem_take hx);rw [hall] at h2;cases h2
    refine .inr ⟨.exit 0,_,_,?_,by simp,rfl,rfl,.int .i64 j,.bool false,by rw [hf]⟩;rw [ζ2d];simp -implicitDefEqProofs (disch:=omega) [g6,hjl]
   | true =>
    have hnx:(es.take (j + 1)).all (entAct kd vs) = entAct kd vs en:=by
     rw [ζ1o hen,List.all_append,hall];simp
    have hw1:IntKind.i64.wrap (4 * kd) = 4 * kd:=wrap_i64 (by omega) (by omega);have hw2:IntKind.i64.wrap (4 * kd * en.a) = 4 * kd * en.a:=by rcases hkd with rfl | rfl <;> exact wrap_i64 (by omega) (by omega)
    have hO:entAct kd vs en = (decide (en.a = 65535) || inS vs.length (4 * kd * en.a) (4 * kd)):=by unfold entAct; rw [ζav]
    refine .inl ⟨_,_,?_,rfl,by rw [hnx]⟩;rw [ζ2d,hO];by_cases c1:en.a = 65535
    ·have c1':(en.a == 65535) = true:=by rw [c1]; rfl
     simp -implicitDefEqProofs (disch:=omega) [g6,g9,hjl,hvr,hE,c1',c1]
    ·have c1':(en.a == 65535) = false:=by rw [beq_eq_false_iff_ne]; exact c1
     simp -implicitDefEqProofs (disch:=omega) [g6,g9,hjl,hvr,hE,c1',c1,hw1,hw2,hin])
  (fun e' H' ⟨hH,he'⟩ => by
   subst he' hH;rw [List.take_length];refine ⟨.exit 0,_,_,?_,by simp,rfl,rfl,.int .i64 es.length,.bool false,rfl⟩;rw [ζ2d];simp -implicitDefEqProofs [g6])
 exact ⟨a,b,hr1⟩
theorem flat25 (r:RMach) (kd:Int) (vs:List Int) (x:Bool):Flat (.tuple #[.agg (r25C r kd vs).toArray,.bool x]) :=
 .tupleL (l:=[.agg (r25C r kd vs).toArray,.bool x]) (.cons (.aggL (l:=r25C r kd vs) (.cons (Flat.B _) (.cons (.int _ _) (.cons (.int _ _) (.cons (.int _ _) (.cons (.int _ _) (.cons (.int _ _) (.cons (.int _ _) (.cons (Flat.B _) (.cons (Flat.RPs _) (.cons (.int _ _) (.cons (Flat.B _) .nil)))))))))))) (.cons (.bool _) .nil))
set_option maxRecDepth 10000 in
theorem ζhd (k:Nat) (b:List Int) (hb:Byt b) (g:Int) (hg:1 ≤ g ∧ g ≤ 65535) (hl:b.length < 2 ^ 31) (H:Heap) :
  ∃ (r:RMach) (kd:Int) (vs:List Int),R (T k) F.ζn [lv encB b,.int .i64 g] H = .ok (.tuple #[.agg (r25C r kd vs).toArray,.bool (bindS b g).isSome]) H ∧ ∀ t,bindS b g = some t → r = rmOf b g 1 t.m ∧ kd = t.kind ∧ vs = t.acts:=by
 have u16:=fun H' => refU_run k (H:=H') (Sl.lv H' 1 b) hb 16 4 (by omega) (by omega);have hrm:=fun H' => ζid k b hb g 1 hg (.inr (.inl rfl)) hl H';unfold refMachS at hrm;have fz0:∀ H',fzV H.n H' fzDepth (.tuple #[.agg zC11.toArray,.bool false]) = some (.tuple #[.agg (r25C rmZ 0 []).toArray,.bool false],[]):=fun H' => rfl;have g0:=fun (r:RMach) => ((Star.nil H).push ⟨zC11,1,false⟩).push ⟨rmC r,1,false⟩;simp only [List.nil_append,List.cons_append,hn_push] at g0;have n2:H.n + 1 + 1 = H.n + 2:=rfl;cases hm:machS b g 1 with
 | none =>
  rw [hm] at hrm;simp only [Option.map_none,rmO,Option.getD_none,Option.isSome_none] at hrm;have hS:bindS b g = none:=by unfold bindS; rw [hm]; rfl
  rw [hS];refine ⟨rmZ,0,[],?_,fun t h => by cases h⟩;rw [ζ7k];refine nrm_fz (H':=(H.push ⟨zC11,1,false⟩).push ⟨rmC rmZ,1,false⟩) ?_ (fz0 _) (g0 rmZ).ext (flat25 _ _ _ _).alive;simp -implicitDefEqProofs (disch:=omega) [ζn,hrm,u16]
 | some m =>
  have hok:=machS_ok hb hg.1 hg.2 (by omega) hm;have hent:=fun (i:Nat) (e:En) (he:m.ents[i]? = some e) (hi:i ≤ 65536) H' => ζlh k hb (.inr (.inl rfl)) hl hm (i:=(i:Int)) (by omega) (by omega) (e:=e) (by simpa using he) H';rw [hm] at hrm;simp only [Option.map_some,rmO,Option.getD_some,Option.isSome_some] at hrm;have hn:(rmOf b g 1 m).n = m.ents.length:=rfl;cases hu:uS b 16 4 with
  | none =>
   have hS:bindS b g = none:=by unfold bindS; rw [hm,hu]; rfl
   rw [hS];rw [hu] at u16;simp only [Option.getD_none] at u16;refine ⟨rmZ,0,[],?_,fun t h => by cases h⟩;rw [ζ7k];generalize rmOf b g 1 m = r at hrm;refine nrm_fz (H':=(H.push ⟨zC11,1,false⟩).push ⟨rmC r,1,false⟩) ?_ (fz0 _) (g0 r).ext (flat25 _ _ _ _).alive;simp -implicitDefEqProofs (disch:=omega) [ζn,hrm,u16]
  | some w =>
   have hwb:=uS_four hb hu;rw [hu] at u16;simp only [Option.getD_some] at u16;have hw0:¬ w < 0:=by omega
   have hq:=fun H => bin_quo Prog 3 H .i64 w 1073741824 (by decide);rw [Int.tdiv_eq_ediv_of_nonneg hwb.1,wrap_i64 (by omega) (by omega)] at hq;have hrem:=fun H => bin_rem Prog 3 H .i64 w 16777216 (by decide);rw [Int.tmod_eq_emod_of_nonneg hwb.1] at hrem;have hfr:=fun H' => ζkl k b (w % 16777216) H';have hS:bindS b g = if w / 1073741824 = 1 ∨ w / 1073741824 = 2 then (restS b (w % 16777216)).bind fun a => if m.ents.all (entAct (w / 1073741824) a) then some ⟨m,w / 1073741824,a⟩ else none else some ⟨m,w / 1073741824,[]⟩:=by unfold bindS; rw [hm,hu]; rfl
   have hkb:0 ≤ w / 1073741824 ∧ w / 1073741824 < 4:=by omega
   generalize w / 1073741824 = kd at hq hS hkb;have hvr:=veq_rm (rmOf b g 1 m);by_cases hc:kd = 1 ∨ kd = 2;rotate_left
   ·rw [if_neg hc] at hS;rw [hS];have c1:(kd != 1) = true:=by rw [bne_iff_ne]; omega
    have c2:(kd != 2) = true:=by rw [bne_iff_ne]; omega
    refine ⟨rmOf b g 1 m,kd,[],?_,fun t h => by injection h with h; subst h; exact ⟨rfl,rfl,rfl⟩⟩;rw [ζ7k];generalize rmOf b g 1 m = r at hrm hvr;refine nrm_fz (H':=((H.push ⟨r25N r kd,1,false⟩).push ⟨rmC r,1,false⟩).push ⟨r25N r kd,1,false⟩) (v:=.tuple #[.agg (r25N r kd).toArray,.bool true]) (L:=[]) ?_ rfl ((((Ext.refl H).push _).push _).push _) (flat25 _ _ _ _).alive;simp -implicitDefEqProofs (disch:=omega) [ζn,hrm,u16,hw0,hq,c1,c2,hvr]
   rw [if_pos hc] at hS;have d:(kd = 1 ∧ (kd != 1) = false) ∨ (kd = 2 ∧ (kd != 1) = true ∧ (kd != 2) = false):=by
    rcases hc with rfl | rfl
    ·exact .inl ⟨rfl,rfl⟩
    ·exact .inr ⟨rfl,rfl,rfl⟩
   cases hr:restS b (w % 16777216) with
   | none =>
    rw [hr] at hS hfr;simp only [Option.getD_none,Option.isSome_none] at hfr;have hS:bindS b g = none:=hS;rw [hS];refine ⟨rmOf b g 1 m,kd,[],?_,fun t h => by cases h⟩;rw [ζ7k];generalize rmOf b g 1 m = r at hrm hvr;have st:=((((Star.nil H).push ⟨r25C r kd [],1,false⟩).push ⟨rmC r,1,false⟩).push ⟨r25C r kd [],1,false⟩)
    have hlp:∀ H' v:Heap,H'.get (H.n + 1) = some ⟨rmC r,1,false⟩ → ∃ a b',loopN (ζ2i k (R (T k))) loopFuel [(4,ptrV H.n),(6,ptrV (H.n + 1)),(9,ptrV (H.n + 2)),(10,lv encB []),(11,.bool false),(12,.int .i64 0)] H' = .ok (.exit 0,[(4,ptrV H.n),(6,ptrV (H.n + 1)),(9,ptrV (H.n + 2)),(10,lv encB []),(11,.bool false),(12,a),(57,b')]) H':=fun H' _ hg6 => by
     refine ⟨.int .i64 0,.bool false,?_⟩;unfold loopFuel;rw [show (2:Nat) ^ 64 = (2 ^ 64 - 1) + 1 from rfl,loopN,ζ2d];by_cases c:0 < r.n
     ·simp -implicitDefEqProofs [hg6,c]
     ·simp -implicitDefEqProofs [hg6,c]
    obtain ⟨a,b',hlp⟩:=hlp (((H.push ⟨zC11,1,false⟩).push ⟨rmC r,1,false⟩).push ⟨r25C r kd [],1,false⟩) H (by simp);refine nrm_fz (H':=((H.push ⟨r25C r kd [],1,false⟩).push ⟨rmC r,1,false⟩).push ⟨r25C r kd [],1,false⟩) (v:=.tuple #[.agg (r25C r kd []).toArray,.bool false]) (L:=[]) ?_ rfl ((((Ext.refl H).push _).push _).push _) (flat25 _ _ _ _).alive
    rcases d with ⟨rfl,d1⟩ | ⟨rfl,d1,d2⟩ <;>
     simp -implicitDefEqProofs (disch:=omega) [ζn,hrm,u16,hw0,hq,hrem,hfr,hvr,n2,hlp,ζ5j]
   | some vs =>
    rw [hr] at hS hfr;simp only [Option.getD_some,Option.isSome_some] at hfr;have hS:bindS b g = if m.ents.all (entAct kd vs) then some ⟨m,kd,vs⟩ else none:=hS
    have hvl:vs.length < 2 ^ 31:=by have:=ζ4w hr; omega
    have hes:∀ e,e ∈ m.ents → 0 ≤ e.a ∧ e.a < 65536:=fun e he => by have:=hok.ent e he; omega
    have helen:=hok.elen;have st:=(g0 (rmOf b g 1 m)).push ⟨r25C (rmOf b g 1 m) kd vs,1,false⟩;simp only [List.nil_append,List.cons_append,hn_push] at st;obtain ⟨a,b',e1⟩:=r25_l1 k hvl hc hes (by omega) hn (fun i e he H' => hent i e he (by have:=(List.getElem?_eq_some_iff.1 he).1; omega) H') (p4:=H.n) (p6:=H.n + 1) (p9:=H.n + 2) st;have hsome:(bindS b g).isSome = m.ents.all (entAct kd vs):=by rw [hS]; cases m.ents.all (entAct kd vs) <;> rfl
    rw [hsome];refine ⟨rmOf b g 1 m,kd,vs,?_,fun t h => by
     rw [hS] at h;split at h
     ·injection h with h; subst h; exact ⟨rfl,rfl,rfl⟩
     ·cases h⟩
    rw [ζ7k];generalize rmOf b g 1 m = r at hrm hvr e1 st;generalize m.ents.all (entAct kd vs) = ok at e1;refine nrm_fz (H':=((H.push ⟨r25C r kd vs,1,false⟩).push ⟨rmC r,1,false⟩).push ⟨r25C r kd vs,1,false⟩) (v:=.tuple #[.agg (r25C r kd vs).toArray,.bool ok]) (L:=[]) ?_ rfl ((((Ext.refl H).push _).push _).push _) (flat25 _ _ _ _).alive
    rcases d with ⟨rfl,d1⟩ | ⟨rfl,d1,d2⟩ <;>
     simp -implicitDefEqProofs (disch:=omega) [ζn,hrm,u16,hw0,hq,hrem,hfr,hvr,n2,e1,ζ5j]
end Go.Sw
end
