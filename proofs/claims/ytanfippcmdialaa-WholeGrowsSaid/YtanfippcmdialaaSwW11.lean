/-
  Functions' forms, and what is proved of them, part 11.
-/
import Derived.Test.YtanfippcmdialaaSwW9
import Derived.Test.YtanfippcmdialaaSwW5
import Derived.Test.YtanfippcmdialaaSwW6
import Derived.Test.YtanfippcmdialaaSwW10
import Derived.Test.YtanfippcmdialaaSwW4
set_option linter.unusedSimpArgs false
set_option linter.unusedVariables false
set_option linter.unusedSectionVars false
section
namespace Go.Sw
open Go.RowKit
abbrev insC (t:ITab):List Value:=[machV t.m,lv encB t.list]
abbrev insV (t:ITab):Value:=boxV (insC t).toArray
theorem Flat.insT (t:ITab):Flat (insV t):=.boxV (.cons (Flat.mach t.m) (.cons (Flat.B _) .nil))
theorem shr5 (P:Program) (t:TypeId) (H:Heap) (a:Int):binR P .shr t (.int .i64 a) (.int .u64 5) H = .ok (.int .i64 (a / 32)) H:=by
 have h:a / 32 = a.fdiv 32:=(Int.fdiv_eq_ediv_of_nonneg a (by decide)).symm;rw [h];rfl
theorem ζp8 (k:Nat) (e:En) (hf:0 ≤ e.flags ∧ e.flags < 65536) (H:Heap):R (T k) F.ζ28 [encE e] H = .ok (.tuple #[.int .i64 (hereS e),.int .i64 (markS e)]) H:=by
 rw [ζqa];have hx:Ext H (H.push ⟨encEn e,1,false⟩):=(Ext.refl H).push _;have a1:=fun H => and5 Prog 3 H hf.1 hf.2;have a2:=fun H => and5 Prog 3 H (a:=e.flags / 32) (by omega) (by omega);refine nrm_gc ⟨_,?_,hx⟩ (Flat.tupleL (l:=[.int .i64 (hereS e),.int .i64 (markS e)]) (.cons (.int _ _) (.cons (.int _ _) .nil))).alive;unfold hereS markS;by_cases c1:e.a = 65535
 ·have c1':(e.a != 65535) = false:=by rw [c1]; rfl
  by_cases c2:e.b = 65535
  ·have c2':(e.b != 65535) = false:=by rw [c2]; rfl
   simp -implicitDefEqProofs (disch:=omega) [ζ28,c1',ζcw,c2',ζd0,c1,c2]
  ·have c2':(e.b != 65535) = true:=by rw [bne_iff_ne]; exact c2
   simp -implicitDefEqProofs (disch:=omega) [ζ28,c1',ζcw,c2',a1,ζcy,c1,c2]
 ·have c1':(e.a != 65535) = true:=by rw [bne_iff_ne]; exact c1
  by_cases c2:e.b = 65535
  ·have c2':(e.b != 65535) = false:=by rw [c2]; rfl
   simp -implicitDefEqProofs (disch:=omega) [ζ28,c1',shr5,a2,ζcv,c2',ζd0,c1,c2]
  ·have c2':(e.b != 65535) = true:=by rw [bne_iff_ne]; exact c2
   simp -implicitDefEqProofs (disch:=omega) [ζ28,c1',shr5,a2,ζcv,c2',a1,ζcy,c1,c2]
theorem hereS_le {e:En} (hf:0 ≤ e.flags):0 ≤ hereS e ∧ hereS e ≤ 31:=by unfold hereS; split <;> omega
theorem markS_le {e:En} (hf:0 ≤ e.flags):0 ≤ markS e ∧ markS e ≤ 31:=by unfold markS; split <;> omega
set_option maxHeartbeats 1000000 in
theorem ζt3 (k:Nat) {ls:List Int} (hl:ls.length < 2 ^ 31) {p:Nat} {es:List En} (hes:∀ e,e ∈ es → (0 ≤ e.a ∧ e.a < 65536) ∧ (0 ≤ e.flags ∧ e.flags < 65536) ∧ 0 ≤ e.b ∧ e.b < 65536) (hel:es.length < 2 ^ 40) {m:Value} {H:Heap} (hp:H.get p = some ⟨[m,lv encB ls],1,false⟩) :
  (∃ H',loopN (ζ8b k (R (T k))) loopFuel [(5,ptrV p),(23,lv encEn es),(24,.int .i64 es.length),(25,.int .i64 0)] H = .ok (.exit 0,[(5,ptrV p),(23,lv encEn es),(24,.int .i64 es.length),(25,.int .i64 es.length),(26,.bool false)]) H' ∧ Ext H H' ∧ es.all (entIn ls) = true) ∨
  (∃ H',loopN (ζ8b k (R (T k))) loopFuel [(5,ptrV p),(23,lv encEn es),(24,.int .i64 es.length),(25,.int .i64 0)] H = .panic failV H' ∧ Ext H H' ∧ es.all (entIn ls) = false):=by
 rcases loop_upP (body:=ζ8b k (R (T k))) es.length
  (fun j e' H' => e' = [(5,ptrV p),(23,lv encEn es),(24,.int .i64 es.length),(25,.int .i64 j)] ∧ Ext H H' ∧ (es.take j).all (entIn ls) = true)
  (fun xx e' H' => xx = .exit 0 ∧ e' = [(5,ptrV p),(23,lv encEn es),(24,.int .i64 es.length),(25,.int .i64 es.length),(26,.bool false)] ∧ Ext H H' ∧ es.all (entIn ls) = true)
  (fun v H' => v = failV ∧ Ext H H' ∧ es.all (entIn ls) = false)
  (fun j e' H' hj ⟨he',hx,hall⟩ => by
   subst he';have hjl:(j:Int) < es.length:=by omega
   obtain ⟨en,hen⟩:∃ en,es[j]? = some en:=⟨_,List.getElem?_eq_getElem hj⟩
   have hmem:=List.mem_of_getElem? hen;obtain ⟨hea,hf,heb⟩:=hes en hmem;have i1:=fun H' => ixS_lvN ζ52 es .i64 j en hen H';have hx2:Ext H (H'.push ⟨encEn en,1,false⟩):=hx.push _;have hpg:=hx2.get hp;have hcn:¬ p = H'.n:=by have:=Heap.get_lt (hx.get hp); omega
   have hp':=hx.get hp;have hcnt:=fun H => ζp8 k en hf H;have r1:=fun H => Rows_lv k ls (2 * en.a) (hereS en) 2 (by omega) H;have r2:=fun H => Rows_lv k ls (2 * en.b) (markS en) 2 (by omega) H;have no:entIn ls en = false → es.all (entIn ls) = false:=fun h => by
    rw [Bool.eq_false_iff];intro h2;have:=List.all_eq_true.1 h2 en hmem;rw [h] at this;cases this
   have yes:entIn ls en = true → (es.take (j + 1)).all (entIn ls) = true:=fun h => by
    rw [ζ1x hen,List.all_append,hall];simp [h]
   have hE:entIn ls en = ((decide (hereS en ≤ 0) || (rowsS ls (2 * en.a) (hereS en) 2).isSome) && (decide (markS en ≤ 0) || (rowsS ls (2 * en.b) (markS en) 2).isSome)):=rfl;by_cases c1:hereS en > 0
   ·rw [decide_eq_false (show ¬ hereS en ≤ 0 by omega)] at hE;cases h1:rowsS ls (2 * en.a) (hereS en) 2 with
    | none =>
     rw [h1] at hE r1;refine .inr (.inr ⟨failV,_,?_,rfl,hx2,no (by rw [hE]; rfl)⟩);rw [ζ30];simp -implicitDefEqProofs (disch:=omega) [hjl,i1,hcnt,c1,hp',hcn,r1,orF]
    | some x1 =>
     rw [h1] at hE r1;by_cases c2:markS en > 0
     ·rw [decide_eq_false (show ¬ markS en ≤ 0 by omega)] at hE;cases h2:rowsS ls (2 * en.b) (markS en) 2 with
      | none =>
       rw [h2] at hE r2;refine .inr (.inr ⟨failV,_,?_,rfl,hx2,no (by rw [hE]; rfl)⟩);rw [ζ30];simp -implicitDefEqProofs (disch:=omega) [hjl,i1,hcnt,c1,hp',hcn,r1,orF,ζ8i,c2,r2]
      | some x2 =>
       rw [h2] at hE r2;refine .inl ⟨_,_,?_,rfl,hx2,yes (by rw [hE]; rfl)⟩;rw [ζ30];simp -implicitDefEqProofs (disch:=omega) [hjl,i1,hcnt,c1,hp',hcn,r1,orF,ζ8i,c2,r2,ζex]
     ·rw [decide_eq_true (show markS en ≤ 0 by omega)] at hE;refine .inl ⟨_,_,?_,rfl,hx2,yes (by rw [hE]; rfl)⟩;rw [ζ30];simp -implicitDefEqProofs (disch:=omega) [hjl,i1,hcnt,c1,hp',hcn,r1,orF,ζ8i,c2,ζey]
   ·rw [decide_eq_true (show hereS en ≤ 0 by omega)] at hE;by_cases c2:markS en > 0
    ·rw [decide_eq_false (show ¬ markS en ≤ 0 by omega)] at hE;cases h2:rowsS ls (2 * en.b) (markS en) 2 with
     | none =>
      rw [h2] at hE r2;refine .inr (.inr ⟨failV,_,?_,rfl,hx2,no (by rw [hE]; rfl)⟩);rw [ζ30];simp -implicitDefEqProofs (disch:=omega) [hjl,i1,hcnt,c1,hp',hcn,orF,ζ8j,c2,r2]
     | some x2 =>
      rw [h2] at hE r2;refine .inl ⟨_,_,?_,rfl,hx2,yes (by rw [hE]; rfl)⟩;rw [ζ30];simp -implicitDefEqProofs (disch:=omega) [hjl,i1,hcnt,c1,hp',hcn,orF,ζ8j,c2,r2,ζex]
    ·rw [decide_eq_true (show markS en ≤ 0 by omega)] at hE;refine .inl ⟨_,_,?_,rfl,hx2,yes (by rw [hE]; rfl)⟩;rw [ζ30];simp -implicitDefEqProofs (disch:=omega) [hjl,i1,hcnt,c1,hp',hcn,ζ8j,c2,ζey])
  (fun e' H' ⟨he',hx,hall⟩ => by
   subst he';rw [List.take_length] at hall;refine .inl ⟨.exit 0,_,H',?_,by simp,rfl,rfl,hx,hall⟩;rw [ζ30];simp -implicitDefEqProofs) loopFuel 0 [(5,ptrV p),(23,lv encEn es),(24,.int .i64 es.length),(25,.int .i64 0)] H (Nat.zero_le _) (by unfold loopFuel; omega) ⟨rfl,Ext.refl _,rfl⟩ with ⟨xx,e',H1,hr,rfl,rfl,hx,hE⟩ | ⟨v,H1,hr,rfl,hx,hE⟩
 ·exact .inl ⟨H1,hr,hx,hE⟩
 ·exact .inr ⟨H1,hr,hx,hE⟩
theorem ζrw (k:Nat) (hk:k < 1000000) (b:List Int) (hb:Byt b) (g:Int) (hg:1 ≤ g ∧ g ≤ 65535) (hl:b.length < 2 ^ 31) (H:Heap):R (T k) F.ins_Take [vwB b,.int .i64 g] H = orF (insS b g) insV H:=by
 rw [ζt5];have hx:Ext H (H.push ⟨[lv encB b],1,false⟩):=(Ext.refl H).push _;have hvb:veq (vwB b) (vwB b) = true:=veq_agg (l:=[lv encB b]) fun u hu => by simp at hu; subst hu; exact veq_B b
 refine fz_orF ?_ fun _ _ => (Flat.insT _).alive;unfold insS;simp -implicitDefEqProofs (disch:=omega) [ins_Take];refine Cp.callT (ζg7 k (Sl.lv _ 1 b) hb g 2 hg.1 hg.2 (.inr (.inr rfl)) hl) (fun _ => ⟨_,by simp -implicitDefEqProofs (disch:=omega) [hvb],hx⟩) fun m hm => ?_;have hok:=machS_ok hb hg.1 hg.2 (by omega) hm;simp -implicitDefEqProofs (disch:=omega) [hvb];refine Cp.callT (U32_run k (Sl.lv _ 1 b) hb 16 (by omega)) (fun _ => ⟨_,by simp -implicitDefEqProofs (disch:=omega) [hvb],hx⟩) fun p hp => ?_;have hp:=uS_four hb hp;simp -implicitDefEqProofs (disch:=omega) [hvb];refine Cp.callT (Rest_lv k b p (by omega) (by omega) _) (fun _ => ⟨_,by simp -implicitDefEqProofs (disch:=omega) [hvb],hx⟩) fun ls hls => ?_;have lls:=ζ6o hls;have hent:=fun H' => ζn7 k hk m hok.elen H';have hes:∀ e,e ∈ m.ents → (0 ≤ e.a ∧ e.a < 65536) ∧ (0 ≤ e.flags ∧ e.flags < 65536) ∧ 0 ≤ e.b ∧ e.b < 65536:=fun e he => by have:=hok.ent e he; omega
 have hx2:Ext H ((H.push ⟨[lv encB b],1,false⟩).push ⟨[machV m,lv encB ls],1,false⟩):=hx.push _;have hpg:((H.push ⟨[lv encB b],1,false⟩).push ⟨[machV m,lv encB ls],1,false⟩).get (H.n + 1) = some ⟨[machV m,lv encB ls],1,false⟩:=ζc _ _ _ (by simp);simp -implicitDefEqProofs (disch:=omega) [hvb,hent];rcases ζt3 k (ls:=ls) (by omega) hes (by have:=hok.elen; omega) hpg with ⟨H2,e2,hx3,hall⟩ | ⟨H2,e2,hx3,hall⟩
 ·rw [if_pos (List.all_eq_true.1 hall)];simp -implicitDefEqProofs (disch:=omega) [e2,ζkb];refine .ok (hx2.trans hx3) ?_;exact ⟨_,fz_box (by omega) (hx3.get hpg) (ζ4a (v:=machV m) (u:=machV m) (L1:=[]) rfl (mapF_one (v:=lv encB ls) (u:=lv encB ls) (L:=[]) rfl))⟩
 ·rw [if_neg (fun hc => by rw [List.all_eq_true.2 hc] at hall; cases hall)];simp -implicitDefEqProofs (disch:=omega) [e2];exact ⟨H2,rfl,hx2.trans hx3⟩
end Go.Sw
end
section
namespace Go.Sw
open Go.RowKit
theorem ζsz (k:Nat) (t:ITab) (hb:Byt t.list) (hl:t.list.length < 2 ^ 31) (a n:Int) (ha:0 ≤ a) (hn:0 < n ∧ n ≤ 31) (hf:2 * a + n * 2 ≤ t.list.length) (H:Heap):R (T k) F.ζ27 [insV t,.int .i64 a,.int .i64 n] H = .ok (lv encI (listN t.list a n)) H:=by
 rw [ζfi];obtain ⟨N,rfl⟩:=Int.eq_ofNat_of_zero_le (show 0 ≤ n by omega);have st:=(Star.nil H).more_row (Ext.refl H) (OwnO.nil encI H 1) (fun b hb => by cases hb);simp only [List.nil_append] at st;have hlN:(listN t.list a N).length = N:=by rw [ζgq]; omega
 obtain ⟨xx,e',H1,hr,rfl,s,o,rfl,g⟩:=loop_up (body:=ζ53 k (R (T k))) N
  (fun j e H' => ∃ s o,e = [(0,insV t),(1,.int .i64 a),(7,s),(9,.int .i64 N),(10,.int .i64 j)] ∧ Star H H' [itRow o 1 s encI ((listN t.list a N).take j)])
  (fun xx e H' => xx = .exit 0 ∧ ∃ s o,e = [(0,insV t),(1,.int .i64 a),(7,s),(9,.int .i64 N),(10,.int .i64 N),(11,.bool false)] ∧ Star H H' [itRow o 1 s encI (listN t.list a N)])
  (e0:=[(0,insV t),(1,.int .i64 a),(7,.slice none 0 0),(9,.int .i64 N),(10,.int .i64 0)]) (H0:=H) ⟨_,none,rfl,by simpa using st⟩ (by omega)
  (fun j e H' hj ⟨s,o,he,g⟩ => by
   subst he;have hjl:(j:Int) < N:=by omega
   obtain ⟨x,hx⟩:∃ x,uS t.list (2 * (a + (j:Int))) 2 = some x:=uS_of_in (by unfold inS; rw [decide_eq_true_eq]; omega);have hq:(listN t.list a N)[j]? = some x:=by
    unfold listN;rw [List.getElem?_map,Int.toNat_natCast,List.getElem?_range hj];show some (gU t.list (2 * (a + (j:Int))) 2) = _;rw [gU_some hx]
   have hu:=fun H' => U16_run k (H:=H') (Sl.lv H' 1 t.list) hb (2 * (a + (j:Int))) (by omega);rw [hx] at hu;obtain ⟨s2,o2,H2,e2,g2⟩:=g.append1 (bytes:=8) 0 encI_len rfl x (by rw [List.length_take]; omega) (by decide);simp only [List.set_cons_zero] at g2;rw [← ζ1x hq] at g2;refine .inl ⟨_,H2,?_,s2,o2,rfl,g2⟩;rw [ζ5x];simp -implicitDefEqProofs (disch:=omega) [hjl,hu,orF,e2])
  (fun e H' ⟨s,o,he,g⟩ => by
   subst he;rw [List.take_of_length_le (by omega)] at g;refine ⟨.exit 0,_,H',?_,by simp,rfl,s,o,rfl,g⟩;rw [ζ5x];simp -implicitDefEqProofs)
 obtain ⟨L,hfz⟩:=(g.own 0 rfl).freeze encI_len (fun n hn v hv => ζeo _ n hn v hv) 6;refine nrm_fz (v:=s) (H':=H1) ?_ hfz g.ext (Flat.I _).alive;simp -implicitDefEqProofs [ζ27,hr,ζ9w]
abbrev run18 (t:ITab) (c:Nat) (s:InsSt):List Value:=[insV t,ptrV c,.int .i64 s.mark,.int .i64 s.left,.int .i64 s.done,.bool s.broke]
set_option maxHeartbeats 1000000 in
theorem put_star (k:Nat) (t:ITab) (ht:t.ok) {H0 H:Heap} {L:List It} (h:Star H0 H L) (il iq:Nat) (hne:il ≠ iq) {c q:Nat} {o:Option Nat} {s:InsSt} (hil:L[il]? = some (itLine c o s.l)) (hiq:L[iq]? = some (itBlk q ⟨run18 t c s,1,false⟩)) (place a n:Int) (ha:0 ≤ a) (hn:0 < n ∧ n ≤ 31) (hf:2 * a + n * 2 ≤ t.list.length)
  (hs:-2 ^ 30 ≤ s.left ∧ s.left ≤ 2 ^ 30 ∧ 0 ≤ s.done ∧ s.done ≤ 2 ^ 30 ∧ s.l.length ≤ 2 ^ 29) :
  ∃ o' H',R (T k) F.ζ2o [ptrV q,.int .i64 place,.int .i64 a,.int .i64 n] H = .ok (.bool (putS t.list s place a n).2) H' ∧ Star H0 H' ((L.set il (itLine c o' (putS t.list s place a n).1.l)).set iq (itBlk q ⟨run18 t c (putS t.list s place a n).1,1,false⟩)):=by
 have hltl:=(List.getElem?_eq_some_iff.1 hil).1;have hltq:=(List.getElem?_eq_some_iff.1 hiq).1;have hq:=h.get iq hiq;have hqs:(H.get q).isSome = true:=by rw [hq]; rfl
 rw [ζpf];unfold putS;by_cases d:n > s.left
 ·rw [if_pos d];have g:=h.setBlk iq hiq ⟨run18 t c { s with broke:=true },1,false⟩;refine ⟨o,H.set q (some ⟨run18 t c { s with broke:=true },1,false⟩),nrm_of ?_,?_⟩
  ·simp -implicitDefEqProofs (disch:=omega) [ζ2o,hq,hqs,d]
  ·dsimp only;rw [set_same hil];exact g
 ·rw [if_neg d];dsimp only;have g:=h.setBlk iq hiq ⟨[insV t,ptrV c,.int .i64 s.mark,.int .i64 (s.left - n),.int .i64 (s.done + n),.bool s.broke],1,false⟩;obtain ⟨H1,hH1⟩:∃ H1,H1 = H.set q (some ⟨[insV t,ptrV c,.int .i64 s.mark,.int .i64 (s.left - n),.int .i64 (s.done + n),.bool s.broke],1,false⟩):=⟨_,rfl⟩
  rw [← hH1] at g;have hq1:=g.get iq (List.getElem?_set_self hltq);have hil1:(L.set iq (itBlk q ⟨[insV t,ptrV c,.int .i64 s.mark,.int .i64 (s.left - n),.int .i64 (s.done + n),.bool s.broke],1,false⟩))[il]? = some (itLine c o s.l):=by rw [List.getElem?_set_ne (fun h => hne h.symm)]; exact hil
  have hgl:=fun H => ζsz k t ht.byt ht.len a n ha hn hf H;obtain ⟨o',H2,e2,g2⟩:=ζmx k g il hil1 place (Sl.lv H0 1 (listN t.list a n)) (by rw [ζgq]; omega);have hw1:IntKind.i64.wrap (s.left - n) = s.left - n:=wrap_i64 (by omega) (by omega);have hw2:IntKind.i64.wrap (s.done + n) = s.done + n:=wrap_i64 (by omega) (by omega);have hq2:=g2.get iq (by rw [List.getElem?_set_ne hne]; exact List.getElem?_set_self hltq);refine ⟨o',H2,nrm_of ?_,?_⟩
  ·simp -implicitDefEqProofs (disch:=omega) [ζ2o,hq,hqs,d,hw1,hw2,← hH1,hq1,hgl,e2]
  ·rw [List.set_comm _ _ (fun h => hne h)];exact g2
end Go.Sw
end
section
namespace Go.Sw
open Go.RowKit
variable {σ ω:Type}
def ActOkG (k:Nat) (m:Mach) (H0:Heap) (W:σ → ω → List It) (Inv:σ → Prop) (a:Value) (f:σ → Int → En → σ × Int × Int):Prop :=
 ∀ s w i e H X,Inv s → Star H0 H (W s w ++ X) → 0 ≤ i → i < 2 ^ 50 → e ∈ m.ents →
  ∃ H' w',callV (R (T k)) a [.int .i64 i,encE e] H = .ok (.tuple #[.int .i64 (f s i e).2.1,.int .i64 (f s i e).2.2]) H' ∧ Star H0 H' (W (f s i e).1 w' ++ X) ∧ Inv (f s i e).1 ∧ (f s i e).2.1 ≤ i + 128 ∧ (f s i e).2.2 ≤ i + 128
set_option maxHeartbeats 2000000 in
theorem ζk8 (k:Nat) (m:Mach) (hm:m.ok) {H0 H:Heap} (W:σ → ω → List It) (Inv:σ → Prop) (ln:σ → List Gl) (c:Nat) (hW:∀ s w,∃ (i:Nat) (o:Option Nat),(W s w)[i]? = some (itLine c o (ln s))) (a:Value) (f:σ → Int → En → σ × Int × Int) (ha:ActOkG k m H0 W Inv a f)
  (X:List It) (q:Nat) (s:σ) (w:ω) (d:Drv) (hI:Inv s) (h:Star H0 H (W s w ++ X ++ [itBlk q ⟨drvC m c d,1,false⟩])) (hp:0 ≤ d.pl ∧ d.pl < 2 ^ 50) (hst:0 ≤ d.stp ∧ d.stp < 2 ^ 50) (hr:0 ≤ d.rest ∧ d.rest < 2 ^ 50) (hse:0 ≤ d.st ∧ d.st < m.rows.length) :
  ∃ H' w',R (T k) F.ζ2p [ptrV q,a] H = .ok (.bool (stepD m ln f (s,d)).2) H' ∧ Star H0 H' (W (stepD m ln f (s,d)).1.1 w' ++ X ++ [itBlk q ⟨drvC m c (stepD m ln f (s,d)).1.2,1,false⟩]) ∧ Inv (stepD m ln f (s,d)).1.1 ∧ (stepD m ln f (s,d)).1.2.pl ≤ d.pl + 128 ∧ 0 ≤ (stepD m ln f (s,d)).1.2.st ∧ (stepD m ln f (s,d)).1.2.st < m.rows.length:=by
 obtain ⟨i,o,ho⟩:=hW s w;have hq:=h.memBlk (c:=q) (k:=⟨drvC m c d,1,false⟩) (by simp);have hline:(W s w ++ X ++ [itBlk q ⟨drvC m c d,1,false⟩])[i]? = some (itLine c o (ln s)):=by
  have h0:i < (W s w).length:=(List.getElem?_eq_some_iff.1 ho).1;rw [List.append_assoc,List.getElem?_append_left h0];exact ho
 have hcls:=ζk7 k m hm h i hline hq;have hstep:=fun H' => Step_run k m hm d.st (clsS m (ln s) d.pl).1 H';have heb:=ζsu hm (ln s) d;have hmem:=entS_mem hm (ln s) d hse;have hnx:=hm.ent _ hmem;have hee:encEA (stepS m d.st (clsS m (ln s) d.pl).1) = encE (entS m (ln s) d):=rfl;rw [hee] at hstep;have hx:=ha s w d.pl (entS m (ln s) d);unfold stepD;dsimp only;generalize (stepS m d.st (clsS m (ln s) d.pl).1).isSome = z at hstep;generalize (clsS m (ln s) d.pl) = cl at hcls hstep;generalize entS m (ln s) d = e at hstep heb hx hmem hnx ⊢;dsimp only at heb;generalize f s d.pl e = r at hx ⊢;have g:=h.push ⟨encEn e,1,false⟩;rw [List.append_assoc,List.singleton_append] at g;have hqn:¬ q = H.n:=by have:=Heap.get_lt hq; omega
 obtain ⟨H2,e2,g⟩:=g.stEnd 4 (v:=.int .i64 (d.stp + 1)) rfl rfl (by simp);simp only [List.set_cons_zero,List.set_cons_succ] at g;have he2:=g.memBlk (c:=H.n) (k:=⟨encEn e,1,false⟩) (by simp);have hq2:=g.memBlk (c:=q) (k:=⟨[machV m,ptrV c,.int .i64 d.st,.int .i64 d.pl,.int .i64 (d.stp + 1),.int .i64 d.rest],1,false⟩) (by simp);obtain ⟨H3,e3,g⟩:=g.stEnd 2 (v:=.int .i64 e.next) rfl rfl (by simp);simp only [List.set_cons_zero,List.set_cons_succ] at g;have hq3:=g.memBlk (c:=q) (k:=⟨[machV m,ptrV c,.int .i64 e.next,.int .i64 d.pl,.int .i64 (d.stp + 1),.int .i64 d.rest],1,false⟩) (by simp);have he3:=g.memBlk (c:=H.n) (k:=⟨encEn e,1,false⟩) (by simp);rw [List.append_assoc] at g;obtain ⟨H4,w4,e4,g4,hI4,hs4,ho4⟩:=hx H3 _ hI g hp.1 hp.2 hmem;rw [← List.append_assoc] at g4;have hq4:=g4.memBlk (c:=q) (k:=⟨[machV m,ptrV c,.int .i64 e.next,.int .i64 d.pl,.int .i64 (d.stp + 1),.int .i64 d.rest],1,false⟩) (by simp);have he4:=g4.memBlk (c:=H.n) (k:=⟨encEn e,1,false⟩) (by simp);have han:=fun H => and14 Prog 3 H heb.2.2.1 heb.2.2.2.1;rw [List.append_assoc] at g4;by_cases hfl:e.flags / 16384 % 2 = 1
 ·rw [if_pos hfl];rw [if_pos hfl] at han;have hmx:(if 0 > r.2.1 then 0 else r.2.1) = max r.2.1 0:=by split <;> omega
  obtain ⟨H5,e5,g5⟩:=Star.stEnd (A:=W r.1 w4 ++ X) (by simpa using g4) 3 (v:=.int .i64 (max r.2.1 0)) rfl rfl (by simp);simp only [List.set_cons_zero,List.set_cons_succ] at g5;have hq5:=g5.memBlk (c:=q) (k:=⟨[machV m,ptrV c,.int .i64 e.next,.int .i64 (max r.2.1 0),.int .i64 (d.stp + 1),.int .i64 d.rest],1,false⟩) (by simp);obtain ⟨H6,e6,g6⟩:=g5.stEnd 5 (v:=.int .i64 (d.rest + 1)) rfl rfl (by simp);simp only [List.set_cons_zero,List.set_cons_succ] at g6;refine ⟨H6,w4,?_,?_,hI4,by dsimp only; omega,hnx.1,hnx.2.1⟩
  ·rw [ζ7n];simp -implicitDefEqProofs (disch:=omega) [-stR_ptr,ζ2p,hcls,hq,hqn,hstep,stR_ptr 4 H.n 0,e2,hq2,he2,e3,hq3,he3,e4,hq4,he4,han,hmx,e5,hq5,e6]
  ·have:=g6.take ((W r.1 w4 ++ X).length + 1);rw [take_mid] at this;exact this
 ·rw [if_neg hfl];rw [if_neg hfl] at han;have hmx:(if 0 > r.2.2 then 0 else r.2.2) = max r.2.2 0:=by split <;> omega
  obtain ⟨H5,e5,g5⟩:=Star.stEnd (A:=W r.1 w4 ++ X) (by simpa using g4) 3 (v:=.int .i64 (max r.2.2 0)) rfl rfl (by simp);simp only [List.set_cons_zero,List.set_cons_succ] at g5;have hq5:=g5.memBlk (c:=q) (k:=⟨[machV m,ptrV c,.int .i64 e.next,.int .i64 (max r.2.2 0),.int .i64 (d.stp + 1),.int .i64 d.rest],1,false⟩) (by simp);obtain ⟨H6,e6,g6⟩:=g5.stEnd 5 (v:=.int .i64 0) rfl rfl (by simp);simp only [List.set_cons_zero,List.set_cons_succ] at g6;refine ⟨H6,w4,?_,?_,hI4,by dsimp only; omega,hnx.1,hnx.2.1⟩
  ·rw [ζ7n];simp -implicitDefEqProofs (disch:=omega) [-stR_ptr,ζ2p,hcls,hq,hqn,hstep,stR_ptr 4 H.n 0,e2,hq2,he2,e3,hq3,he3,e4,hq4,he4,han,hmx,bne,e5,hq5,e6]
  ·have:=g6.take ((W r.1 w4 ++ X).length + 1);rw [take_mid] at this;exact this
set_option maxHeartbeats 1000000 in
theorem ζen (k:Nat) (m:Mach) (hm:m.ok) {H0 H:Heap} (W:σ → ω → List It) (Inv:σ → Prop) (ln:σ → List Gl) (c:Nat) (hW:∀ s w,∃ (i:Nat) (o:Option Nat),(W s w)[i]? = some (itLine c o (ln s))) (a:Value) (f:σ → Int → En → σ × Int × Int) (ha:ActOkG k m H0 W Inv a f)
  (X:List It) (s:σ) (w:ω) (hI:Inv s) (h:Star H0 H (W s w ++ X)) (hl:(ln s).length < 2 ^ 40) :
  ∃ H' w',R (T k) F.ζ4j [machV m,ptrV c,a] H = .ok (.tuple #[.int .i64 (runD m ln f (2 * (ln s).length + 128) (2 * (ln s).length + 128) (s,⟨0,0,0,0⟩)).1,.int .i64 (runD m ln f (2 * (ln s).length + 128) (2 * (ln s).length + 128) (s,⟨0,0,0,0⟩)).2.1]) H' ∧
   Star H0 H' (W (runD m ln f (2 * (ln s).length + 128) (2 * (ln s).length + 128) (s,⟨0,0,0,0⟩)).2.2 w' ++ X) ∧ Inv (runD m ln f (2 * (ln s).length + 128) (2 * (ln s).length + 128) (s,⟨0,0,0,0⟩)).2.2:=by
 rw [ζrp];obtain ⟨N,hN⟩:∃ N,N = 2 * (ln s).length + 128:=⟨_,rfl⟩
 have hNi:(2 * ((ln s).length:Int) + 128) = (N:Int):=by omega
 obtain ⟨x0,hx0⟩:∃ x0:σ × Drv,x0 = (s,⟨0,0,0,0⟩):=⟨_,rfl⟩
 rw [← hN,hNi,← hx0];generalize hR0:runD m ln f (N:Int) N x0 = R0;have g:=h.push ⟨drvC m c ⟨0,0,0,0⟩,1,false⟩;obtain ⟨i,o,ho⟩:=hW s w;have hline:(W s w ++ X ++ [itBlk H.n ⟨drvC m c ⟨0,0,0,0⟩,1,false⟩])[i]? = some (itLine c o (ln s)):=by
  have h0:i < (W s w).length:=(List.getElem?_eq_some_iff.1 ho).1;rw [List.append_assoc,List.getElem?_append_left h0];exact ho
 have hlen:=ζ8c k g i hline
 obtain ⟨e,eE,H1,hr1,hQ⟩:=loop_up (body:=ζea k (R (T k))) N
  (fun j e H' => e = [(2,a),(8,ptrV H.n),(9,.int .i64 N)] ∧ ∃ (x:σ × Drv) (w:ω),Star H0 H' (W x.1 w ++ X ++ [itBlk H.n ⟨drvC m c x.2,1,false⟩]) ∧ Inv x.1 ∧ x.2.stp = j ∧ 0 ≤ x.2.pl ∧ x.2.pl ≤ 128 * j ∧ 0 ≤ x.2.rest ∧ x.2.rest ≤ j ∧ (0 ≤ x.2.st ∧ x.2.st < m.rows.length) ∧ runD m ln f N (N - j) x = R0)
  (fun x' e H' => ∃ r:Int × Int × σ,r = R0 ∧ ∃ (d:Drv) (w:ω),Star H0 H' (W r.2.2 w ++ X ++ [itBlk H.n ⟨drvC m c d,1,false⟩]) ∧ Inv r.2.2 ∧
   ((x' = .ret ∧ e = [(6,.int .i64 r.1),(7,.int .i64 0)] ∧ r.2.1 = 0) ∨ (x' = .exit 0 ∧ d.stp = r.1 ∧ r.2.1 = 4 ∧ (e = [(2,a),(8,ptrV H.n),(9,.int .i64 N),(35,.bool true)] ∨ e = [(2,a),(8,ptrV H.n),(9,.int .i64 N),(23,.bool false)]))))
  (e0:=[(2,a),(8,ptrV H.n),(9,.int .i64 N)]) (H0:=H.push ⟨drvC m c ⟨0,0,0,0⟩,1,false⟩)
  ⟨rfl,x0,w,by rw [hx0]; exact g,by rw [hx0]; exact hI,by rw [hx0]; rfl,by rw [hx0]; exact Int.le_refl _,by rw [hx0]; exact Int.le_refl _,by rw [hx0]; exact Int.le_refl _,by rw [hx0]; exact Int.le_refl _,by rw [hx0]; have:=hm.two; dsimp only; omega,by rw [Nat.sub_zero]; exact hR0⟩ (by omega)
  (fun j e H' hj ⟨he,x,w,g,hI,h1,h2,h3,h4,h5,hse,hrun⟩ => by
   subst he;obtain ⟨H2,w2,e2,g2,hI2,h6,h7⟩:=ζk8 k m hm W Inv ln c hW a f ha X H.n x.1 w x.2 hI g (by omega) (by omega) (by omega) hse;have hq:=g.memBlk (c:=H.n) (k:=⟨drvC m c x.2,1,false⟩) (by simp);have p1:=ζve m ln f x;have p2:=stepD_pl m ln f x;have p3:=ζtq m ln f x h4;have hlt:x.2.stp < (N:Int):=by omega
   have hNj:N - j = (N - (j + 1)) + 1:=by omega
   rw [hNj] at hrun;unfold runD at hrun;rw [if_pos hlt] at hrun;have hxx:(x.1,x.2) = x:=rfl;rw [hxx] at e2 g2 hI2 h6 h7;generalize stepD m ln f x = y at *;have hq2:=g2.memBlk (c:=H.n) (k:=⟨drvC m c y.1.2,1,false⟩) (by simp);cases hy:y.2 with
   | true =>
    rw [hy] at hrun e2;simp only [if_true] at hrun;refine .inr ⟨.ret,_,H2,?_,by simp,_,hrun,y.1.2,w2,g2,hI2,.inl ⟨rfl,rfl,rfl⟩⟩;rw [ζ5s];simp -implicitDefEqProofs (disch:=omega) [hq,hlt,e2,hq2]
   | false =>
    rw [hy] at hrun e2;simp only [Bool.false_eq_true,if_false] at hrun;by_cases hr:y.1.2.rest > 64
    ·rw [if_pos hr] at hrun;refine .inr ⟨.exit 0,_,H2,?_,by simp,_,hrun,y.1.2,w2,g2,hI2,.inr ⟨rfl,rfl,rfl,.inl rfl⟩⟩;rw [ζ5s];simp -implicitDefEqProofs (disch:=omega) [hq,hlt,e2,hq2,hr]
    ·rw [if_neg hr] at hrun;refine .inl ⟨_,H2,?_,rfl,y.1,w2,g2,hI2,by omega,p2,by omega,p3.1,by omega,h7,hrun⟩;rw [ζ5s];simp -implicitDefEqProofs (disch:=omega) [hq,hlt,e2,hq2,hr])
  (fun e H' ⟨he,x,w,g,hI,h1,h2,h3,h4,h5,hse,hrun⟩ => by
   subst he;rw [Nat.sub_self] at hrun;have hq:=g.memBlk (c:=H.n) (k:=⟨drvC m c x.2,1,false⟩) (by simp);refine ⟨.exit 0,_,H',?_,by simp,_,hrun,x.2,w,g,hI,.inr ⟨rfl,rfl,rfl,.inr rfl⟩⟩;have hnl:¬ x.2.stp < (N:Int):=by omega
   rw [ζ5s];simp -implicitDefEqProofs (disch:=omega) [hq,hnl])
 obtain ⟨r,hr,d,w3,g,hIr,hcase⟩:=hQ;subst hr;have hq:=g.memBlk (c:=H.n) (k:=⟨drvC m c d,1,false⟩) (by simp);have gX:Star H0 H1 (W r.2.2 w3 ++ X):=g.ζdr;refine ⟨H1,w3,?_,gX,hIr⟩;rcases hcase with ⟨rfl,rfl,hc⟩ | ⟨rfl,hd,hc,rfl | rfl⟩
 ·rw [hc];simp -implicitDefEqProofs (disch:=omega) [ζ4j,hlen,hNi,hr1,ζk6]
 ·rw [hc];simp -implicitDefEqProofs (disch:=omega) [ζ4j,hlen,hNi,hr1,ζh1,hq,hd]
 ·rw [hc];simp -implicitDefEqProofs (disch:=omega) [ζ4j,hlen,hNi,hr1,ζfh,hq,hd]
def DoOkG (k:Nat) (m:Mach) (H0:Heap) (W:σ → ω → List It) (Inv:σ → Prop) (a:Value) (g:σ → Int → En → σ):Prop :=
 ∀ s w i e H X,Inv s → Star H0 H (W s w ++ X) → 0 ≤ i → i < 2 ^ 50 → e ∈ m.ents →
  ∃ v H' w',callV (R (T k)) a [.int .i64 i,encE e] H = .ok v H' ∧ Star H0 H' (W (g s i e) w' ++ X) ∧ Inv (g s i e)
theorem ζv8 (k:Nat) {m:Mach} {H0:Heap} {W:σ → ω → List It} {Inv:σ → Prop} {a:Value} {g:σ → Int → En → σ} (h:DoOkG k m H0 W Inv a g) (p:Nat) :
  ActOkG k m H0 (fun s w => W s w ++ [itBlk p ⟨[a],1,false⟩]) Inv (.func (.func F.ζ2g) #[] #[ptrV p]) (fun s i e => (g s i e,i,i + 1)):=by
 intro s w i e H X hI st h0 h1 he;have st2:=st.push ⟨encEn e,1,false⟩;have hp:=st2.memBlk (c:=p) (k:=⟨[a],1,false⟩) (by simp);have hpn:¬ p = H.n:=by have:=Heap.get_lt (st.memBlk (c:=p) (k:=⟨[a],1,false⟩) (by simp)); omega
 obtain ⟨v,H',w',e1,st3,hI2⟩:=h s w i e (H.push ⟨encEn e,1,false⟩) ([itBlk p ⟨[a],1,false⟩] ++ X ++ [itBlk H.n ⟨encEn e,1,false⟩]) hI (by simpa [List.append_assoc] using st2) h0 h1 he;have st4:Star H0 H' (W (g s i e) w' ++ [itBlk p ⟨[a],1,false⟩] ++ X):=by
  have:W (g s i e) w' ++ ([itBlk p ⟨[a],1,false⟩] ++ X ++ [itBlk H.n ⟨encEn e,1,false⟩]) = (W (g s i e) w' ++ [itBlk p ⟨[a],1,false⟩] ++ X) ++ [itBlk H.n ⟨encEn e,1,false⟩]:=by simp
  rw [this] at st3;exact st3.ζdr
 refine ⟨H',w',?_,st4,hI2,by dsimp only; omega,by dsimp only; omega⟩;simp only [callV,List.nil_append,List.cons_append];rw [ζg9,nrm_of];simp -implicitDefEqProofs (disch:=omega) [ζ2g,hp,hpn,e1]
end Go.Sw
end
section
namespace Go.Sw
open Go.RowKit
structure InsOk (n left:Int) (s:InsSt):Prop where
 sum:s.left + s.done = left
 done:0 ≤ s.done ∧ (s.done = 0 ∨ s.done ≤ left)
 len:(s.l.length:Int) ≤ n + s.done
 mark:-1 ≤ s.mark ∧ s.mark ≤ s.l.length
theorem ζt7 (l:List Gl) (i:Int) (ids:List Int):l.length ≤ (insertG l i ids).length ∧ (insertG l i ids).length ≤ l.length + ids.length:=by
 unfold insertG;split
 ·simp; omega
 ·omega
theorem InsOk.put {n left:Int} {s:InsSt} (h:InsOk n left s) (list:List Int) (place a m:Int) (hm:0 < m):InsOk n left (putS list s place a m).1:=by
 unfold putS;have h1:=ζt7 s.l place (listN list a m);rw [ζgq] at h1;split
 ·exact ⟨h.sum,h.done,h.len,h.mark⟩
 ·have h2:=h.sum;have h3:=h.done;have h4:=h.len;have h5:=h.mark;exact ⟨by dsimp only; omega,by dsimp only; omega,by dsimp only; omega,by dsimp only; omega⟩
theorem putS_len {list:List Int} {s:InsSt} {place a m:Int} (hm:0 < m) (h:(putS list s place a m).2 = true):((putS list s place a m).1.l.length:Int) = s.l.length + m ∧ (putS list s place a m).1.mark = s.mark ∧ 0 ≤ place ∧ place ≤ s.l.length:=by
 unfold putS at h ⊢;split
 ·rename_i hc;rw [if_pos hc] at h;cases h
 ·rename_i hc;rw [if_neg hc] at h;have h:=of_decide_eq_true h;dsimp only;rw [ζry _ _ _ h,ζgq];exact ⟨by omega,rfl,h⟩
theorem InsOk.act1 {n left:Int} {s:InsSt} (h:InsOk n left s) (list:List Int) (i:Int) (e:En):InsOk n left (Go.Sw.act1 list s i e).1:=by
 unfold Go.Sw.act1;split
 ·rename_i hc;have hp:=h.put list (markPlace s e) e.b (markS e) hc.1;dsimp only;split
  ·exact hp
  ·rename_i h2;obtain ⟨l1,l2,l3,l4⟩:=putS_len hc.1 ((Bool.not_eq_false _).mp h2);have hm:=h.mark;refine ⟨hp.sum,hp.done,hp.len,?_⟩;dsimp only;rw [l2];split
   ·unfold markPlace at *;split at l4 <;> omega
   ·omega
 ·exact h
theorem InsOk.act2 {n left:Int} {s:InsSt} (h:InsOk n left s) (list:List Int) (i:Int) (hi:0 ≤ i) (e:En) (hf:0 ≤ e.flags):InsOk n left (Go.Sw.act2 list s i e).1:=by
 have hh:=hereS_le hf;have hm:=h.mark;unfold Go.Sw.act2;dsimp only;split
 ·rename_i hc;have hp:=fun pl => h.put list pl e.a (hereS e) hc;generalize (if e.flags / 2048 % 2 = 1 then i else min (i + 1) (s.l.length:Int)) = pl;have hp:=hp pl;by_cases h2:(putS list s pl e.a (hereS e)).2 = false
  ·rw [if_pos h2];exact hp
  ·rw [if_neg h2];obtain ⟨l1,l2,l3,l4⟩:=putS_len hc ((Bool.not_eq_false _).mp h2);refine ⟨hp.sum,hp.done,hp.len,?_⟩;dsimp only;rw [l2];split
   ·rename_i hfo;have:=of_decide_eq_false hfo.2;split <;> omega
   ·split <;> omega
 ·rename_i hc;refine ⟨h.sum,h.done,h.len,?_⟩;dsimp only;split
  ·rename_i hfo;have:=of_decide_eq_false hfo.2;rw [if_neg (fun hh => hc hh.1)];omega
  ·exact hm
theorem act1_i {list:List Int} {s:InsSt} {i:Int} {e:En} (hf:0 ≤ e.flags):i ≤ (act1 list s i e).2.1 ∧ (act1 list s i e).2.1 ≤ i + 31:=by
 have hm:=markS_le hf;unfold act1;split
 ·dsimp only;split
  ·dsimp only; omega
  ·dsimp only;split <;> omega
 ·dsimp only; omega
theorem InsOk.act {n left:Int} {s:InsSt} (h:InsOk n left s) (list:List Int) (i:Int) (hi:0 ≤ i) (e:En) (hf:0 ≤ e.flags):InsOk n left (actI list s i e).1:=by
 have h1:=act1_i (list:=list) (s:=s) (i:=i) hf;unfold actI;split
 ·exact h
 ·dsimp only;split
  ·exact h.act1 list i e
  ·exact (h.act1 list i e).act2 list _ (by omega) e hf
def insW (t:ITab) (L:List It) (il c q:Nat) (s:InsSt) (o:Option Nat):List It:=L.set il (itLine c o s.l) ++ [itBlk q ⟨run18 t c s,1,false⟩]
end Go.Sw
end
section
namespace Go.Sw
open Go.RowKit
theorem act2_i {list:List Int} {s:InsSt} {i:Int} {e:En} (hf:0 ≤ e.flags):(act2 list s i e).2.1 = i ∧ (act2 list s i e).2.2 ≤ i + 32:=by
 have hm:=hereS_le hf;unfold act2;dsimp only;generalize (if e.flags / 2048 % 2 = 1 then i else min (i + 1) (s.l.length:Int)) = pl;by_cases hc:hereS e > 0
 ·rw [if_pos hc];by_cases hr:(putS list s pl e.a (hereS e)).2 = false
  ·rw [if_pos hr];dsimp only; omega
  ·rw [if_neg hr];dsimp only; omega
 ·rw [if_neg hc];dsimp only; omega
theorem actI_i {list:List Int} {s:InsSt} {i:Int} {e:En} (hf:0 ≤ e.flags):(actI list s i e).2.1 ≤ i + 128 ∧ (actI list s i e).2.2 ≤ i + 128:=by
 have h1:=act1_i (list:=list) (s:=s) (i:=i) hf;have h2:=act2_i (list:=list) (s:=(act1 list s i e).1) (i:=(act1 list s i e).2.1) hf;unfold actI;split
 ·dsimp only; omega
 ·dsimp only;split
  ·dsimp only; omega
  ·omega
set_option maxHeartbeats 8000000 in
theorem ζur (k:Nat) (t:ITab) (ht:t.ok) (L:List It) (il c q:Nat) (hil:il < L.length) (n left:Int) (hn:0 ≤ n ∧ n ≤ 2 ^ 20) (hleft:-2 ^ 20 ≤ left ∧ left ≤ 2 ^ 20) {H0:Heap} :
  ActOkG k t.m H0 (insW t L il c q) (InsOk n left) (.func (.func F.ζ1) #[ptrV q] #[]) (fun s i e => actI t.list s i e):=by
 intro s w i e H X hI st h0 h1 he;dsimp only;have heb:=ht.m.ent e he;have hhas:=ht.has e he;have hI':=hI.act t.list i h0 e heb.2.2.1;have hhl:=hereS_le (e:=e) heb.2.2.1;have hml:=markS_le (e:=e) heb.2.2.1;unfold insW at st;obtain ⟨B,hB⟩:∃ B:List It,B = X ++ [itBlk H.n ⟨encEn e,1,false⟩]:=⟨_,rfl⟩
 obtain ⟨S,hS⟩:∃ S:InsSt → Option Nat → List It,S = fun s o => L.set il (itLine c o s.l) ++ itBlk q ⟨run18 t c s,1,false⟩ :: B:=⟨_,rfl⟩
 have hSv:∀ s o,S s o = L.set il (itLine c o s.l) ++ itBlk q ⟨run18 t c s,1,false⟩ :: B:=fun _ _ => by rw [hS]
 clear hS;have hqx:∀ s o,(S s o)[L.length]? = some (itBlk q ⟨run18 t c s,1,false⟩):=fun s o => by
  rw [hSv,List.getElem?_append_right (by simp)];simp
 have hlx:∀ s o,(S s o)[il]? = some (itLine c o s.l):=fun s o => by
  rw [hSv,List.getElem?_append_left (by simpa using hil),List.getElem?_set_self hil]
 have setB:∀ s o s2 o2,((S s o).set il (itLine c o2 s2.l)).set L.length (itBlk q ⟨run18 t c s2,1,false⟩) = S s2 o2:=fun s o s2 o2 => by
  rw [hSv,hSv,List.set_append_left _ _ (by simpa using hil),List.set_set,List.set_append_right _ _ (by simp)];simp
 have setQ:∀ s o s2,s2.l = s.l → (S s o).set L.length (itBlk q ⟨run18 t c s2,1,false⟩) = S s2 o:=fun s o s2 hl => by
  rw [hSv,hSv,List.set_append_right _ _ (by simp),hl];simp
 have hqlt:q < H.n:=Heap.get_lt (st.memBlk (c:=q) (k:=⟨run18 t c s,1,false⟩) (by simp));have look:∀ {H':Heap} {s o},Star H0 H' (S s o) → H'.get q = some ⟨run18 t c s,1,false⟩ ∧ H'.get H.n = some ⟨encEn e,1,false⟩ ∧ R (T k) F.ζd [ptrV c] H' = .ok (.int .i64 s.l.length) H' ∧ ¬ q = H.n:=fun {H' s o} h => by
  have hl:=ζ8c k h il (hlx _ _);have hq:=h.get _ (hqx s o);have hneq:¬ q = H.n:=by omega
  rw [hSv,hB] at h;exact ⟨hq,h.memBlk (by simp),hl,hneq⟩
 have st2:Star H0 (H.push ⟨encEn e,1,false⟩) (S s w):=by
  have:=st.push ⟨encEn e,1,false⟩;rw [hSv,hB];simpa using this
 have fin:∀ {H':Heap} {s o},Star H0 H' (S s o) → Star H0 H' (insW t L il c q s o ++ X):=fun {H' s o} h => by
  rw [hSv,hB] at h;have e1:L.set il (itLine c o s.l) ++ itBlk q ⟨run18 t c s,1,false⟩ :: (X ++ [itBlk H.n ⟨encEn e,1,false⟩]) = (insW t L il c q s o ++ X) ++ [itBlk H.n ⟨encEn e,1,false⟩]:=by
   unfold insW;simp
  rw [e1] at h;exact h.ζdr
 have ha15:=fun H => and15 Prog 3 H heb.2.2.1 heb.2.2.2.1;have ha11:=fun H => and11 Prog 3 H heb.2.2.1 heb.2.2.2.1;have ha10:=fun H => and10 Prog 3 H heb.2.2.1 heb.2.2.2.1;have hcnt:=fun H => ζp8 k e ⟨heb.2.2.1,heb.2.2.2.1⟩ H;have bnd:∀ s:InsSt,InsOk n left s → -2 ^ 30 ≤ s.left ∧ s.left ≤ 2 ^ 30 ∧ 0 ≤ s.done ∧ s.done ≤ 2 ^ 30 ∧ s.l.length ≤ 2 ^ 29:=fun s h => by
  have h1:=h.sum; have h2:=h.done; have h3:=h.len;omega
 clear st
 -- the mark
 have mark:∀ (s:InsSt) (o:Option Nat) (H':Heap) (i here own:Int) (over:Bool),Star H0 H' (S s o) → 0 ≤ i → i < 2 ^ 55 → 0 ≤ here → here ≤ 31 →
   ∃ H2,(∀ a87,ζt k (R (T k)) (ptrV q) (.int .i64 i) (ptrV H.n) (.int .i64 here) (.bool over) (.int .i64 own) a87 H' = .ok (.tuple #[.int .i64 i,.int .i64 (i + here + 1)]) H2) ∧
    ζ1d k (R (T k)) (ptrV q) (.int .i64 i) (ptrV H.n) (.int .i64 here) (.bool over) (.int .i64 own) H' = .ok (.tuple #[.int .i64 i,.int .i64 (i + here + 1)]) H2 ∧
    (∀ a119,ζ1e k (R (T k)) (ptrV q) (.int .i64 i) (ptrV H.n) (.int .i64 here) (.bool over) (.int .i64 own) a119 H' = .ok (.tuple #[.int .i64 i,.int .i64 (i + here + 1)]) H2) ∧
    Star H0 H2 (S { s with mark:=if e.flags ≥ 32768 ∧ over = false then own else s.mark } o):=by
  intro s o H' i here own over h i0 i1 p0 p1;obtain ⟨w1,w2,w3,w4⟩:=look h;have hw1:IntKind.i64.wrap (i + here) = i + here:=wrap_i64 (by omega) (by omega);have hw2:IntKind.i64.wrap (i + here + 1) = i + here + 1:=wrap_i64 (by omega) (by omega);by_cases d:e.flags ≥ 32768
  ·rw [if_pos d] at ha15;cases over with
   | false =>
    rw [if_pos ⟨d,rfl⟩];have g:=h.setBlk _ (hqx s o) ⟨run18 t c { s with mark:=own },1,false⟩;rw [setQ s o { s with mark:=own } rfl] at g;refine ⟨_,fun a87 => ?_,?_,fun a119 => ?_,g⟩
    ·rw [ζ6f];simp -implicitDefEqProofs (disch:=omega) [w2,ha15,bne,w1,ζ5q,hw1,hw2]
    ·rw [ζ5o];simp -implicitDefEqProofs (disch:=omega) [w2,ha15,bne,w1,ζ5q,hw1,hw2]
    ·rw [ζ5p];simp -implicitDefEqProofs (disch:=omega) [w2,ha15,bne,w1,ζ5q,hw1,hw2]
   | true =>
    rw [if_neg (fun hh => by cases hh.2)];refine ⟨H',fun a87 => ?_,?_,fun a119 => ?_,h⟩
    ·rw [ζ6f];simp -implicitDefEqProofs (disch:=omega) [w2,ha15,bne,w1,ζ2s,hw1,hw2]
    ·rw [ζ5o];simp -implicitDefEqProofs (disch:=omega) [w2,ha15,bne,w1,ζ2s,hw1,hw2]
    ·rw [ζ5p];simp -implicitDefEqProofs (disch:=omega) [w2,ha15,bne,w1,ζ2s,hw1,hw2]
  ·rw [if_neg d] at ha15;rw [if_neg (fun hh => d hh.1)];refine ⟨H',fun a87 => ?_,?_,fun a119 => ?_,h⟩
   ·rw [ζ6f];simp -implicitDefEqProofs (disch:=omega) [w2,ha15,bne,w1,ζ2s,hw1,hw2]
   ·rw [ζ5o];simp -implicitDefEqProofs (disch:=omega) [w2,ha15,bne,w1,ζ2s,hw1,hw2]
   ·rw [ζ5p];simp -implicitDefEqProofs (disch:=omega) [w2,ha15,bne,w1,ζ2s,hw1,hw2]
 -- glyphs put here
 have here:∀ (s:InsSt) (o:Option Nat) (H':Heap) (i own place:Int) (over:Bool),Star H0 H' (S s o) → InsOk n left s → 0 ≤ i → i < 2 ^ 55 → hereS e > 0 →
   ∃ H2 o2 s2 j2,((putS t.list s place e.a (hereS e)).2 = false → s2 = (putS t.list s place e.a (hereS e)).1 ∧ j2 = i + 1) ∧
    ((putS t.list s place e.a (hereS e)).2 = true → s2 = { (putS t.list s place e.a (hereS e)).1 with mark:=if e.flags ≥ 32768 ∧ over = false then own else (if place ≤ (putS t.list s place e.a (hereS e)).1.mark then (putS t.list s place e.a (hereS e)).1.mark + hereS e else (putS t.list s place e.a (hereS e)).1.mark) } ∧ j2 = i + hereS e + 1) ∧
    ζr k (R (T k)) (ptrV q) (.int .i64 i) (ptrV H.n) (.int .i64 (hereS e)) (.bool over) (.int .i64 own) (.int .i64 place) H' = .ok (.tuple #[.int .i64 i,.int .i64 j2]) H2 ∧
    (∀ a99,ζs k (R (T k)) (ptrV q) (.int .i64 i) (ptrV H.n) (.int .i64 (hereS e)) (.bool over) (.int .i64 own) (.int .i64 place) a99 H' = .ok (.tuple #[.int .i64 i,.int .i64 j2]) H2) ∧
    Star H0 H2 (S s2 o2):=by
  intro s o H' i own place over h hI i0 i1 hc;obtain ⟨w1,w2,w3,w4⟩:=look h;obtain ⟨o2,H2,e2,g2⟩:=put_star k t ht h il L.length (by omega) (hlx _ _) (hqx _ _) place e.a (hereS e) heb.2.2.2.2.1 ⟨hc,hhl.2⟩ (by have:=hhas.1 hc; omega) (bnd s hI);rw [setB] at g2;have hIp:=hI.put t.list place e.a (hereS e) hc;have hw0:IntKind.i64.wrap (i + 1) = i + 1:=wrap_i64 (by omega) (by omega);generalize putS t.list s place e.a (hereS e) = r at e2 g2 hIp;obtain ⟨r1,r2⟩:=r;dsimp only at e2 g2 hIp ⊢;obtain ⟨u1,u2,u3,u4⟩:=look g2;cases r2 with
  | false =>
   refine ⟨H2,o2,r1,i + 1,fun _ => ⟨rfl,rfl⟩,(fun h => by cases h),?_,fun a99 => ?_,g2⟩
   ·rw [ζ6d];simp -implicitDefEqProofs (disch:=omega) [w2,e2,hw0]
   ·rw [ζ6e];simp -implicitDefEqProofs (disch:=omega) [w2,e2,hw0]
  | true =>
   have hm:=hIp.mark;have hb:=bnd r1 hIp;by_cases d:place ≤ r1.mark
   ·have hw3:IntKind.i64.wrap (r1.mark + hereS e) = r1.mark + hereS e:=wrap_i64 (by omega) (by omega);have g3:=g2.setBlk _ (hqx r1 o2) ⟨run18 t c { r1 with mark:=r1.mark + hereS e },1,false⟩;rw [setQ r1 o2 { r1 with mark:=r1.mark + hereS e } rfl] at g3;obtain ⟨H4,_,m2,_,m4⟩:=mark { r1 with mark:=r1.mark + hereS e } o2 _ i (hereS e) own over g3 i0 i1 hhl.1 hhl.2;dsimp only at m4;refine ⟨H4,o2,_,i + hereS e + 1,(fun h => by cases h),fun _ => ⟨rfl,rfl⟩,?_,fun a99 => ?_,?_⟩
    ·rw [ζ6d];simp -implicitDefEqProofs (disch:=omega) [w2,e2,u1,d,hw3,m2]
    ·rw [ζ6e];simp -implicitDefEqProofs (disch:=omega) [w2,e2,u1,d,hw3,m2]
    ·rw [if_pos d];exact m4
   ·obtain ⟨H4,_,_,m2,m4⟩:=mark r1 o2 _ i (hereS e) own over g2 i0 i1 hhl.1 hhl.2;refine ⟨H4,o2,_,i + hereS e + 1,(fun h => by cases h),fun _ => ⟨rfl,rfl⟩,?_,fun a99 => ?_,?_⟩
    ·rw [ζ6d];simp -implicitDefEqProofs (disch:=omega) [w2,e2,u1,d,m2]
    ·rw [ζ6e];simp -implicitDefEqProofs (disch:=omega) [w2,e2,u1,d,m2]
    ·rw [if_neg d];exact m4
 -- at the place
 have at2:∀ (s:InsSt) (o:Option Nat) (H':Heap) (i:Int),Star H0 H' (S s o) → InsOk n left s → 0 ≤ i → i < 2 ^ 55 →
   ∃ H2 o2,(∀ a9 a34,ζk k (R (T k)) (ptrV q) (.int .i64 i) (ptrV H.n) (.int .i64 (hereS e)) a9 a34 H' = .ok (.tuple #[.int .i64 (act2 t.list s i e).2.1,.int .i64 (act2 t.list s i e).2.2]) H2) ∧
    ζ18 k (R (T k)) (ptrV q) (.int .i64 i) (ptrV H.n) (.int .i64 (hereS e)) H' = .ok (.tuple #[.int .i64 (act2 t.list s i e).2.1,.int .i64 (act2 t.list s i e).2.2]) H2 ∧
    (∀ a9 a74,ζu k (R (T k)) (ptrV q) (.int .i64 i) (ptrV H.n) (.int .i64 (hereS e)) a9 a74 H' = .ok (.tuple #[.int .i64 (act2 t.list s i e).2.1,.int .i64 (act2 t.list s i e).2.2]) H2) ∧
    Star H0 H2 (S (act2 t.list s i e).1 o2):=by
  intro s o H' i h hI i0 i1;obtain ⟨w1,w2,w3,w4⟩:=look h;have hb:=bnd s hI;have hw0:IntKind.i64.wrap (i + 1) = i + 1:=wrap_i64 (by omega) (by omega);have hw1:IntKind.i64.wrap (i + hereS e) = i + hereS e:=wrap_i64 (by omega) (by omega);have hgeq:(i ≥ (s.l.length:Int)) = (i ≥ (s.l.length:Int)):=rfl;by_cases hc:hereS e > 0
  ·by_cases d:e.flags / 2048 % 2 = 1
   ·rw [if_pos d] at ha11;obtain ⟨H2,o2,s2,j2,a1,a2,b1,b2,g2⟩:=here s o H' i (i + hereS e) i (decide (i ≥ s.l.length)) h hI i0 i1 hc;have hres:act2 t.list s i e = (s2,i,j2):=by
     unfold act2;dsimp only;rw [if_pos hc,if_pos d,if_pos (show hereS e > 0 ∧ e.flags / 2048 % 2 = 1 from ⟨hc,d⟩)];by_cases hr:(putS t.list s i e.a (hereS e)).2 = false
     ·obtain ⟨q1,q2⟩:=a1 hr;simp only [if_pos hr,q1,q2]
     ·obtain ⟨q1,q2⟩:=a2 ((Bool.not_eq_false _).mp hr);simp only [if_neg hr,q1,q2]
    rw [hres];refine ⟨H2,o2,fun a9 a34 => ?_,?_,fun a9 a74 => ?_,g2⟩
    ·rw [ζ6c];simp -implicitDefEqProofs (disch:=omega) [w1,w3,hc,w2,ha11,bne,hw0,hw1,b1]
    ·rw [ζ6g];simp -implicitDefEqProofs (disch:=omega) [w1,w3,hc,w2,ha11,bne,hw0,hw1,b1]
    ·rw [ζ5n];simp -implicitDefEqProofs (disch:=omega) [w1,w3,hc,w2,ha11,bne,hw0,hw1,b1]
   ·rw [if_neg d] at ha11;obtain ⟨H2,o2,s2,j2,a1,a2,b1,b2,g2⟩:=here s o H' i i (min (i + 1) s.l.length) (decide (i ≥ s.l.length)) h hI i0 i1 hc;have hres:act2 t.list s i e = (s2,i,j2):=by
     unfold act2;dsimp only;rw [if_pos hc,if_neg d,if_neg (show ¬ (hereS e > 0 ∧ e.flags / 2048 % 2 = 1) from fun hh => d hh.2)];by_cases hr:(putS t.list s (min (i + 1) s.l.length) e.a (hereS e)).2 = false
     ·obtain ⟨q1,q2⟩:=a1 hr;simp only [if_pos hr,q1,q2]
     ·obtain ⟨q1,q2⟩:=a2 ((Bool.not_eq_false _).mp hr);simp only [if_neg hr,q1,q2]
    rw [hres];have hmin:(if (s.l.length:Int) < i + 1 then (s.l.length:Int) else i + 1) = min (i + 1) (s.l.length:Int):=by rw [Int.min_def]; split <;> split <;> omega
    refine ⟨H2,o2,fun a9 a34 => ?_,?_,fun a9 a74 => ?_,g2⟩
    ·rw [ζ6c];simp -implicitDefEqProofs (disch:=omega) [w1,w3,hc,w2,ha11,bne,hw0,hw1,hmin,b2]
    ·rw [ζ6g];simp -implicitDefEqProofs (disch:=omega) [w1,w3,hc,w2,ha11,bne,hw0,hw1,hmin,b2]
    ·rw [ζ5n];simp -implicitDefEqProofs (disch:=omega) [w1,w3,hc,w2,ha11,bne,hw0,hw1,hmin,b2]
  ·obtain ⟨H2,m1,_,_,m4⟩:=mark s o H' i (hereS e) i (decide (i ≥ s.l.length)) h i0 i1 hhl.1 hhl.2;have hres:act2 t.list s i e = ({ s with mark:=if e.flags ≥ 32768 ∧ decide (i ≥ s.l.length) = false then i else s.mark },i,i + hereS e + 1):=by
    unfold act2;dsimp only;rw [if_neg hc,if_neg (show ¬ (hereS e > 0 ∧ e.flags / 2048 % 2 = 1) from fun hh => hc hh.1)]
   rw [hres];refine ⟨H2,o,fun a9 a34 => ?_,?_,fun a9 a74 => ?_,m4⟩
   ·rw [ζ6c];simp -implicitDefEqProofs (disch:=omega) [w1,w3,hc,m1]
   ·rw [ζ6g];simp -implicitDefEqProofs (disch:=omega) [w1,w3,hc,m1]
   ·rw [ζ5n];simp -implicitDefEqProofs (disch:=omega) [w1,w3,hc,m1]
 have hil3:=hI';obtain ⟨w1,w2,w3,w4⟩:=look st2;have hw0:IntKind.i64.wrap (i + 1) = i + 1:=wrap_i64 (by omega) (by omega);have hres2:(actI t.list s i e).2.1 ≤ i + 128 ∧ (actI t.list s i e).2.2 ≤ i + 128:=actI_i heb.2.2.1;by_cases hbr:s.broke = true
 ·have hr:actI t.list s i e = (s,i,i + 1):=by unfold actI; rw [if_pos hbr]
  rw [hr];refine ⟨_,w,?_,fin st2,hI,by dsimp only; omega,by dsimp only; omega⟩;simp only [callV,List.nil_append,List.cons_append];rw [ζ7p,nrm_of];simp -implicitDefEqProofs (disch:=omega) [ζ1,hcnt,w1,w4,hbr,hw0]
 have hbf:s.broke = false:=by
  cases h:s.broke with
  | false => rfl
  | true => exact absurd h hbr
 have hA:actI t.list s i e = (let r:=act1 t.list s i e; if r.2.2 = false then (r.1,i,i + 1) else act2 t.list r.1 r.2.1 e):=by unfold actI; rw [if_neg hbr]
 have hI1:=hI.act1 t.list i e;by_cases hm:markS e > 0 ∧ s.mark ≥ 0;rotate_left
 ·have hr:actI t.list s i e = act2 t.list s i e:=by
   rw [hA];unfold act1;rw [if_neg hm];rfl
  obtain ⟨H2,o2,a1,_,_,g2⟩:=at2 s w _ i st2 hI h0 (by omega);rw [hr] at hI' hres2 ⊢;refine ⟨H2,o2,?_,fin g2,hI',hres2⟩;simp only [callV,List.nil_append,List.cons_append];rw [ζ7p,nrm_of];by_cases d:markS e > 0
  ·have d2:¬ s.mark ≥ 0:=fun h => hm ⟨d,h⟩;simp -implicitDefEqProofs (disch:=omega) [ζ1,hcnt,w1,w4,hbf,d,d2,a1]
  ·simp -implicitDefEqProofs (disch:=omega) [ζ1,hcnt,w1,w4,hbf,d,a1]
 obtain ⟨hm1,hm2⟩:=hm;have hbb:=bnd s hI;have hmk:=hI.mark
 have atm:∀ place,place = markPlace s e → ∃ H2 o2,ζi k (R (T k)) (ptrV q) (.int .i64 i) (ptrV H.n) (.int .i64 (hereS e)) (.int .i64 (markS e)) (.int .i64 place) (H.push ⟨encEn e,1,false⟩) = .ok (.tuple #[.int .i64 (actI t.list s i e).2.1,.int .i64 (actI t.list s i e).2.2]) H2 ∧
   (∀ a43,ζj k (R (T k)) (ptrV q) (.int .i64 i) (ptrV H.n) (.int .i64 (hereS e)) (.int .i64 (markS e)) (.int .i64 place) a43 (H.push ⟨encEn e,1,false⟩) = .ok (.tuple #[.int .i64 (actI t.list s i e).2.1,.int .i64 (actI t.list s i e).2.2]) H2) ∧ Star H0 H2 (S (actI t.list s i e).1 o2):=by
  intro place hpl;have hC:act1 t.list s i e = (let r:=putS t.list s place e.b (markS e); if r.2 = false then (r.1,i,false) else ({ r.1 with mark:=if place ≤ r.1.mark then r.1.mark + markS e else r.1.mark },if place ≤ i then i + markS e else i,true)):=by
   unfold act1;rw [if_pos ⟨hm1,hm2⟩,hpl]
  obtain ⟨o2,H2,e2,g2⟩:=put_star k t ht st2 il L.length (by omega) (hlx _ _) (hqx _ _) place e.b (markS e) (by have:=ht.m.ent e he; omega) ⟨hm1,hml.2⟩ (by have:=hhas.2 hm1; omega) hbb;rw [setB] at g2;have hIp:=hI.put t.list place e.b (markS e) hm1;rw [hC] at hI1 hA;generalize putS t.list s place e.b (markS e) = r at e2 g2 hIp hI1 hA;obtain ⟨r1,r2⟩:=r;dsimp only at e2 g2 hIp hI1 hA;obtain ⟨u1,u2,u3,u4⟩:=look g2;cases r2 with
  | false =>
   have hA:actI t.list s i e = (r1,i,i + 1):=hA;rw [hA];refine ⟨H2,o2,?_,fun a43 => ?_,g2⟩
   ·rw [ζ3q];simp -implicitDefEqProofs (disch:=omega) [w2,e2,hw0]
   ·rw [ζ3r];simp -implicitDefEqProofs (disch:=omega) [w2,e2,hw0]
  | true =>
   rw [if_neg (show ¬ (true = false) by decide)] at hA hI1;dsimp only at hA hI1;have hmr:=hIp.mark;have hbr1:=bnd r1 hIp;have hwi:IntKind.i64.wrap (i + markS e) = i + markS e:=wrap_i64 (by omega) (by omega);by_cases d:place ≤ r1.mark
   ·rw [if_pos d] at hA hI1;have hw3:IntKind.i64.wrap (r1.mark + markS e) = r1.mark + markS e:=wrap_i64 (by omega) (by omega);have g3:=g2.setBlk _ (hqx r1 o2) ⟨run18 t c { r1 with mark:=r1.mark + markS e },1,false⟩;rw [setQ r1 o2 { r1 with mark:=r1.mark + markS e } rfl] at g3;by_cases d2:place ≤ i
    ·rw [if_pos d2] at hA;have hA:actI t.list s i e = act2 t.list { r1 with mark:=r1.mark + markS e } (i + markS e) e:=hA;obtain ⟨H4,o4,_,b2,_,g4⟩:=at2 { r1 with mark:=r1.mark + markS e } o2 _ (i + markS e) g3 hI1 (by omega) (by omega);rw [hA];refine ⟨H4,o4,?_,fun a43 => ?_,g4⟩
     ·rw [ζ3q];simp -implicitDefEqProofs (disch:=omega) [w2,e2,u1,d,hw3,ζ4k,d2,hwi,b2]
     ·rw [ζ3r];simp -implicitDefEqProofs (disch:=omega) [w2,e2,u1,d,hw3,ζ4k,d2,hwi,b2]
    ·rw [if_neg d2] at hA;have hA:actI t.list s i e = act2 t.list { r1 with mark:=r1.mark + markS e } i e:=hA;obtain ⟨H4,o4,_,_,b2,g4⟩:=at2 { r1 with mark:=r1.mark + markS e } o2 _ i g3 hI1 h0 (by omega);rw [hA];refine ⟨H4,o4,?_,fun a43 => ?_,g4⟩
     ·rw [ζ3q];simp -implicitDefEqProofs (disch:=omega) [w2,e2,u1,d,hw3,ζ4k,d2,b2]
     ·rw [ζ3r];simp -implicitDefEqProofs (disch:=omega) [w2,e2,u1,d,hw3,ζ4k,d2,b2]
   ·rw [if_neg d] at hA hI1;by_cases d2:place ≤ i
    ·rw [if_pos d2] at hA;have hA:actI t.list s i e = act2 t.list r1 (i + markS e) e:=hA;obtain ⟨H4,o4,_,b2,_,g4⟩:=at2 r1 o2 _ (i + markS e) g2 hIp (by omega) (by omega);rw [hA];refine ⟨H4,o4,?_,fun a43 => ?_,g4⟩
     ·rw [ζ3q];simp -implicitDefEqProofs (disch:=omega) [w2,e2,u1,d,ζ4l,d2,hwi,b2]
     ·rw [ζ3r];simp -implicitDefEqProofs (disch:=omega) [w2,e2,u1,d,ζ4l,d2,hwi,b2]
    ·rw [if_neg d2] at hA;have hA:actI t.list s i e = act2 t.list r1 i e:=hA;obtain ⟨H4,o4,_,_,b2,g4⟩:=at2 r1 o2 _ i g2 hIp h0 (by omega);rw [hA];refine ⟨H4,o4,?_,fun a43 => ?_,g4⟩
     ·rw [ζ3q];simp -implicitDefEqProofs (disch:=omega) [w2,e2,u1,d,ζ4l,d2,b2]
     ·rw [ζ3r];simp -implicitDefEqProofs (disch:=omega) [w2,e2,u1,d,ζ4l,d2,b2]
 by_cases d:e.flags / 1024 % 2 = 1
 ·rw [if_pos d] at ha10;obtain ⟨H2,o2,a1,_,g2⟩:=atm s.mark (by unfold markPlace; rw [if_pos d]);refine ⟨H2,o2,?_,fin g2,hI',hres2⟩;simp only [callV,List.nil_append,List.cons_append];rw [ζ7p,nrm_of];simp -implicitDefEqProofs (disch:=omega) [ζ1,hcnt,w1,w4,hbf,hm1,hm2,w2,ha10,bne,a1]
 ·rw [if_neg d] at ha10;obtain ⟨H2,o2,_,a1,g2⟩:=atm (s.mark + 1) (by unfold markPlace; rw [if_neg d]);have hw5:IntKind.i64.wrap (s.mark + 1) = s.mark + 1:=wrap_i64 (by omega) (by omega);refine ⟨H2,o2,?_,fin g2,hI',hres2⟩;simp only [callV,List.nil_append,List.cons_append];rw [ζ7p,nrm_of];simp -implicitDefEqProofs (disch:=omega) [ζ1,hcnt,w1,w4,hbf,hm1,hm2,w2,ha10,bne,hw5,a1]
end Go.Sw
end
section
namespace Go.Sw
open Go.RowKit
theorem veq_ins (t:ITab):veq (insV t) (insV t) = true:=veq_boxV (l:=insC t) fun v hv => by
 simp [insC] at hv;rcases hv with rfl | rfl
 ·exact veq_mach _
 ·exact veq_B _
set_option maxRecDepth 20000 in
set_option maxHeartbeats 1000000 in
theorem ζrv (k:Nat) (t:ITab) (ht:t.ok) {H0 H:Heap} {L:List It} (h:Star H0 H L) (il:Nat) {c:Nat} {o:Option Nat} {l:List Gl} (hil:L[il]? = some (itLine c o l)) (hl:l.length ≤ 2 ^ 20) (left:Int) (hleft:-2 ^ 20 ≤ left ∧ left ≤ 2 ^ 20) :
  ∃ H' o',R (T k) F.ζ2b [insV t,ptrV c,.int .i64 left] H = .ok (.tuple #[.int .i64 (runIr t l left).2.2.done,.int .i64 (codeI (runIr t l left))]) H' ∧ Star H0 H' (L.set il (itLine c o' (runIr t l left).2.2.l)) ∧ InsOk l.length left (runIr t l left).2.2:=by
 have hll:=(List.getElem?_eq_some_iff.1 hil).1;have st:=h.push ⟨run18 t c ⟨l,-1,left,0,false⟩,1,false⟩;have st:Star H0 (H.push ⟨run18 t c ⟨l,-1,left,0,false⟩,1,false⟩) (insW t L il c H.n ⟨l,-1,left,0,false⟩ o ++ []):=by
  unfold insW;dsimp only;rw [set_same hil,List.append_nil];exact st
 have hact:=ζur k t ht L il c H.n hll (l.length:Int) left ⟨by omega,by omega⟩ hleft (H0:=H0)
 obtain ⟨H7,w7,eR,st5,hok⟩:=ζen k t.m ht.m (insW t L il c H.n) (InsOk (l.length:Int) left) (fun s:InsSt => s.l) c
  (fun s ob => ⟨il,ob,by
   unfold insW;rw [List.getElem?_append_left (by simpa using hll),List.getElem?_set_self hll]⟩) _ _ hact [] ⟨l,-1,left,0,false⟩ o ⟨by simp,by simp,by simp,by dsimp only; omega⟩ st (by dsimp only; omega)
 have hr:runD t.m (fun s:InsSt => s.l) (fun s i e => actI t.list s i e) (2 * (l.length:Int) + 128) (2 * l.length + 128) (⟨l,-1,left,0,false⟩,⟨0,0,0,0⟩) = runIr t l left:=by unfold runIr; rfl
 dsimp only at eR st5 hok;rw [hr] at eR st5 hok;have hq:=st5.memBlk (c:=H.n) (k:=⟨run18 t c (runIr t l left).2.2,1,false⟩) (by unfold insW; simp);refine ⟨H7,w7,?_,?_,hok⟩
 ·rw [ζka,nrm_of];have v1:=veq_ins t;have v2:=veq_mach t.m;unfold codeI;generalize runIr t l left = r at eR hq ⊢;cases hb:r.2.2.broke with
  | true =>
   simp only [run18,hb] at hq;simp -implicitDefEqProofs (disch:=omega) [ζ2b,eR,v1,v2,hq,ζev]
  | false =>
   simp only [run18,hb] at hq;simp -implicitDefEqProofs (disch:=omega) [ζ2b,eR,v1,v2,hq,ζew]
 ·generalize runIr t l left = r at st5 ⊢;unfold insW at st5;have:=st5.take L.length;rw [List.append_nil,List.take_append_of_le_length (by simp),List.take_of_length_le (by simp)] at this;exact this
end Go.Sw
end
