/-
  Functions' forms, and what is proved of them, part 10.
-/
import Derived.Test.YtanfippcmdialaaSwW9
import Derived.Test.YtanfippcmdialaaSwW8
import Derived.Test.YtanfippcmdialaaSwW5
import Derived.Test.YtanfippcmdialaaSwW4
import Derived.Test.YtanfippcmdialaaSwCfg
import Derived.Test.YtanfippcmdialaaSwW7
import Derived.Test.YtanfippcmdialaaSwW2
set_option linter.unusedSimpArgs false
set_option linter.unusedVariables false
set_option linter.unusedSectionVars false
section
namespace Go.Sw
open Go.RowKit
abbrev ligaC (t:LTab):List Value:=[machV t.m,lv encB t.acts,lv encB t.comps,lv encB t.ligs]
abbrev ligaV (t:LTab):Value:=boxV (ligaC t).toArray
theorem Flat.liga (t:LTab):Flat (ligaV t):=.boxV (.cons (Flat.mach t.m) (.cons (Flat.B _) (.cons (Flat.B _) (.cons (Flat.B _) .nil))))
theorem ζpv (k:Nat) {vs:List Int} (hb:Byt vs) (hl:vs.length < 2 ^ 31) {p:Nat} (a:Int) (ha:0 ≤ a ∧ a < 65536) {m c2 c3:Value} (a30 a31 a32:Value) {H:Heap} (hp:H.get p = some ⟨[m,lv encB vs,c2,c3],1,false⟩) :
  (∃ z,loopN (ζ7v k (R (T k))) loopFuel [(5,ptrV p),(8,.int .i64 a),(30,a30),(31,a31),(32,a32)] H = .ok (.exit 2,[(5,ptrV p),(8,z),(30,a30),(31,a31),(32,a32),(50,.bool false)]) H ∧ lastB vs a = true) ∨
  (loopN (ζ7v k (R (T k))) loopFuel [(5,ptrV p),(8,.int .i64 a),(30,a30),(31,a31),(32,a32)] H = .panic failV H ∧ lastB vs a = false):=by
 have hU:=fun i H' => U32_run k (H:=H') (Sl.lv H' 1 vs) hb i (by omega)
 rcases loop_upP (body:=ζ7v k (R (T k))) vs.length
  (fun j e' H' => e' = [(5,ptrV p),(8,.int .i64 (a + j)),(30,a30),(31,a31),(32,a32)] ∧ H' = H ∧ ∀ i:Nat,a ≤ i → (i:Int) < a + j → ¬ gU vs (4 * (i:Int)) 4 ≥ 2147483648)
  (fun xx e' H' => xx = .exit 2 ∧ (∃ z,e' = [(5,ptrV p),(8,z),(30,a30),(31,a31),(32,a32),(50,.bool false)]) ∧ H' = H ∧ lastB vs a = true)
  (fun v H' => v = failV ∧ H' = H ∧ lastB vs a = false)
  (fun j e' H' hj ⟨he',hH,hno⟩ => by
   subst he' hH;cases hu:uS vs (4 * (a + j)) 4 with
   | none =>
    have h32:=hU (4 * (a + j)) H';rw [hu] at h32;refine .inr (.inr ⟨failV,H',?_,rfl,rfl,?_⟩)
    ·rw [ζ6a];simp -implicitDefEqProofs (disch:=omega) [hp,h32,orF]
    ·rw [Bool.eq_false_iff];intro ho;obtain ⟨i,i1,i2,i3⟩:=ζ53.1 ho;by_cases hij:(i:Int) < a + j
     ·exact hno i i1 hij i3
     ·unfold uS pieceS at hu;rw [if_pos ⟨by omega,by omega,by omega,by omega⟩] at hu;simp at hu
   | some x =>
    have h32:=hU (4 * (a + j)) H';rw [hu] at h32;have hg:=gU_some hu;have hxb:=uS_four hb hu;have an:=fun H => and31 Prog 3 H hxb.1 hxb.2;by_cases d:x ≥ 2147483648
    ·rw [if_pos d] at an;refine .inr (.inl ⟨.exit 2,_,H',?_,by simp,rfl,⟨.int .i64 (a + j),rfl⟩,rfl,?_⟩)
     ·rw [ζ6a];simp -implicitDefEqProofs (disch:=omega) [hp,h32,orF,an]
     ·refine ζ53.2 ⟨(a + j).toNat,by omega,?_,?_⟩
      ·have:=uS_fits hu;omega
      ·rw [show (((a + j).toNat:Nat):Int) = a + j by omega,hg];exact d
    ·rw [if_neg d] at an;have hj1:a + ((j + 1:Nat):Int) = a + j + 1:=by omega
     refine .inl ⟨_,H',?_,rfl,rfl,fun i i1 i2 => ?_⟩
     ·rw [ζ6a,hj1];simp -implicitDefEqProofs (disch:=omega) [hp,h32,orF,an]
     ·by_cases hij:(i:Int) < a + j
      ·exact hno i i1 hij
      ·rw [show (i:Int) = a + j by omega,hg];exact d)
  (fun e' H' ⟨he',hH,hno⟩ => by
   subst he' hH;have hu:uS vs (4 * (a + vs.length)) 4 = none:=by
    cases h:uS vs (4 * (a + vs.length)) 4 with
    | none => rfl
    | some x =>
     have:=uS_fits h;omega
   have h32:=hU (4 * (a + vs.length)) H';rw [hu] at h32;refine .inr ⟨failV,H',?_,rfl,rfl,?_⟩
   ·rw [ζ6a];simp -implicitDefEqProofs (disch:=omega) [hp,h32,orF]
   ·rw [Bool.eq_false_iff];intro ho;obtain ⟨i,i1,i2,i3⟩:=ζ53.1 ho;exact hno i i1 (by omega) i3) loopFuel 0 [(5,ptrV p),(8,.int .i64 a),(30,a30),(31,a31),(32,a32)] H (Nat.zero_le _) (by unfold loopFuel; omega) ⟨by simp,rfl,fun i i1 i2 => by omega⟩ with ⟨xx,e',H1,hr,rfl,⟨z,rfl⟩,rfl,hE⟩ | ⟨v,H1,hr,rfl,rfl,hE⟩
 ·exact .inl ⟨z,hr,hE⟩
 ·exact .inr ⟨hr,hE⟩
theorem ζpu (k:Nat) {vs:List Int} (hb:Byt vs) (hl:vs.length < 2 ^ 31) {p:Nat} {es:List En} (hes:∀ e,e ∈ es → (0 ≤ e.a ∧ e.a < 65536) ∧ 0 ≤ e.flags ∧ e.flags < 65536) (hel:es.length < 2 ^ 40) {m c2 c3:Value} {H:Heap} (hp:H.get p = some ⟨[m,lv encB vs,c2,c3],1,false⟩) :
  (∃ z H',loopN (ζ7u k (R (T k))) loopFuel [(5,ptrV p),(30,lv encEn es),(31,.int .i64 es.length),(32,.int .i64 0)] H = .ok (.exit 0,[(5,ptrV p),(30,lv encEn es),(31,.int .i64 es.length),(32,z),(33,.bool false)]) H' ∧ Ext H H' ∧ es.all (entLast vs) = true) ∨
  (∃ H',loopN (ζ7u k (R (T k))) loopFuel [(5,ptrV p),(30,lv encEn es),(31,.int .i64 es.length),(32,.int .i64 0)] H = .panic failV H' ∧ Ext H H' ∧ es.all (entLast vs) = false):=by
 rcases loop_upP (body:=ζ7u k (R (T k))) es.length
  (fun j e' H' => e' = [(5,ptrV p),(30,lv encEn es),(31,.int .i64 es.length),(32,.int .i64 j)] ∧ Ext H H' ∧ (es.take j).all (entLast vs) = true)
  (fun xx e' H' => xx = .exit 0 ∧ (∃ z,e' = [(5,ptrV p),(30,lv encEn es),(31,.int .i64 es.length),(32,z),(33,.bool false)]) ∧ Ext H H' ∧ es.all (entLast vs) = true)
  (fun v H' => v = failV ∧ Ext H H' ∧ es.all (entLast vs) = false)
  (fun j e' H' hj ⟨he',hx,hall⟩ => by
   subst he';have hjl:(j:Int) < es.length:=by omega
   obtain ⟨en,hen⟩:∃ en,es[j]? = some en:=⟨_,List.getElem?_eq_getElem hj⟩
   have hmem:=List.mem_of_getElem? hen;obtain ⟨hea,hf0,hf1⟩:=hes en hmem;have i1:=fun H' => ixS_lvN ζ8t es .i64 j en hen H';have hx2:Ext H (H'.push ⟨encEn en,1,false⟩):=hx.push _;have an:=fun H => and13 Prog 3 H hf0 hf1;by_cases c:en.flags / 8192 % 2 = 1
   ·rw [if_pos c] at an;have hEv:entLast vs en = lastB vs en.a:=by unfold entLast; rw [decide_eq_false (fun hh => hh c)]; rfl
    rcases ζpv k hb hl en.a hea (p:=p) (m:=m) (c2:=c2) (c3:=c3) (lv encEn es) (.int .i64 es.length) (.int .i64 j) (hx2.get hp) with ⟨z,e2,hE⟩ | ⟨e2,hE⟩
    ·refine .inl ⟨_,_,?_,rfl,hx2,?_⟩
     ·rw [ζ69];simp -implicitDefEqProofs (disch:=omega) [hjl,i1,an,e2,ζji,ζkr]
     ·rw [ζ1v hen,List.all_append,hall];simp [hEv,hE]
    ·refine .inr (.inr ⟨failV,_,?_,rfl,hx2,?_⟩)
     ·rw [ζ69];simp -implicitDefEqProofs (disch:=omega) [hjl,i1,an,e2]
     ·rw [Bool.eq_false_iff];intro h;have:=List.all_eq_true.1 h en hmem;rw [hEv,hE] at this;cases this
   ·rw [if_neg c] at an;have hEv:entLast vs en = true:=by unfold entLast; rw [decide_eq_true c]; rfl
    refine .inl ⟨_,_,?_,rfl,hx2,?_⟩
    ·rw [ζ69];simp -implicitDefEqProofs (disch:=omega) [hjl,i1,an,ζkq]
    ·rw [ζ1v hen,List.all_append,hall];simp [hEv])
  (fun e' H' ⟨he',hx,hall⟩ => by
   subst he';rw [List.take_length] at hall;refine .inl ⟨.exit 0,_,H',?_,by simp,rfl,⟨.int .i64 es.length,rfl⟩,hx,hall⟩;rw [ζ69];simp -implicitDefEqProofs) loopFuel 0 [(5,ptrV p),(30,lv encEn es),(31,.int .i64 es.length),(32,.int .i64 0)] H (Nat.zero_le _) (by unfold loopFuel; omega) ⟨rfl,Ext.refl _,rfl⟩ with ⟨xx,e',H1,hr,rfl,⟨z,rfl⟩,hx,hE⟩ | ⟨v,H1,hr,rfl,hx,hE⟩
 ·exact .inl ⟨z,H1,hr,hx,hE⟩
 ·exact .inr ⟨H1,hr,hx,hE⟩
theorem ζnz (k:Nat) (hk:k < 1000000) (b:List Int) (hb:Byt b) (g:Int) (hg:1 ≤ g ∧ g ≤ 65535) (hl:b.length < 2 ^ 31) (H:Heap):R (T k) F.ζ2p [vwB b,.int .i64 g] H = orF (ligaS b g) ligaV H:=by
 rw [ζpx];have hx:Ext H (H.push ⟨[lv encB b],1,false⟩):=(Ext.refl H).push _;have hvb:veq (vwB b) (vwB b) = true:=veq_agg (l:=[lv encB b]) fun u hu => by simp at hu; subst hu; exact veq_B b
 refine fz_orF ?_ fun _ _ => (Flat.liga _).alive;unfold ligaS listAt;simp only [Option.bind_assoc];simp -implicitDefEqProofs (disch:=omega) [ζ2p];refine Cp.callT (ζnn k (Sl.lv _ 1 b) hb g 1 hg.1 hg.2 (.inr (.inl rfl)) hl) (fun _ => ⟨_,by simp -implicitDefEqProofs (disch:=omega) [hvb],hx⟩) fun m hm => ?_;have hok:=machS_ok hb hg.1 hg.2 (by omega) hm;simp -implicitDefEqProofs (disch:=omega) [hvb];refine Cp.callT (U32_run k (Sl.lv _ 1 b) hb 16 (by omega)) (fun _ => ⟨_,by simp -implicitDefEqProofs (disch:=omega) [hvb],hx⟩) fun p hp => ?_;have hp:=uS_four hb hp;simp -implicitDefEqProofs (disch:=omega) [hvb];refine Cp.callT (Rest_lv k b p (by omega) (by omega) _) (fun _ => ⟨_,by simp -implicitDefEqProofs (disch:=omega) [hvb],hx⟩) fun sa hsa => ?_;have lsa:=ζ8v hsa;simp -implicitDefEqProofs (disch:=omega) [hvb];refine Cp.callT (U32_run k (Sl.lv _ 1 b) hb 20 (by omega)) (fun _ => ⟨_,by simp -implicitDefEqProofs (disch:=omega) [hvb],hx⟩) fun p2 hp2 => ?_;have hp2:=uS_four hb hp2;simp -implicitDefEqProofs (disch:=omega) [hvb];refine Cp.callT (Rest_lv k b p2 (by omega) (by omega) _) (fun _ => ⟨_,by simp -implicitDefEqProofs (disch:=omega) [hvb],hx⟩) fun sc hsc => ?_;have lsc:=ζ8v hsc;simp -implicitDefEqProofs (disch:=omega) [hvb];refine Cp.callT (U32_run k (Sl.lv _ 1 b) hb 24 (by omega)) (fun _ => ⟨_,by simp -implicitDefEqProofs (disch:=omega) [hvb],hx⟩) fun p3 hp3 => ?_;have hp3:=uS_four hb hp3;simp -implicitDefEqProofs (disch:=omega) [hvb];refine Cp.callT (Rest_lv k b p3 (by omega) (by omega) _) (fun _ => ⟨_,by simp -implicitDefEqProofs (disch:=omega) [hvb],hx⟩) fun sl hsl => ?_;have lsl:=ζ8v hsl;have hent:=fun H' => ζpd k hk m hok.elen H';have hes:∀ e,e ∈ m.ents → (0 ≤ e.a ∧ e.a < 65536) ∧ 0 ≤ e.flags ∧ e.flags < 65536:=fun e he => by have:=hok.ent e he; omega
 have hx2:Ext H ((H.push ⟨[lv encB b],1,false⟩).push ⟨[machV m,lv encB sa,lv encB sc,lv encB sl],1,false⟩):=hx.push _;have hpg:((H.push ⟨[lv encB b],1,false⟩).push ⟨[machV m,lv encB sa,lv encB sc,lv encB sl],1,false⟩).get (H.n + 1) = some ⟨[machV m,lv encB sa,lv encB sc,lv encB sl],1,false⟩:=ζe _ _ _ (by simp);simp -implicitDefEqProofs (disch:=omega) [hvb,hent];rcases ζpu k (hb.rest hsa) (by omega) hes (by have:=hok.elen; omega) hpg with ⟨z,H2,e2,hx3,hall⟩ | ⟨H2,e2,hx3,hall⟩
 ·rw [if_pos (List.all_eq_true.1 hall)];simp -implicitDefEqProofs (disch:=omega) [e2,ζjh];refine .ok (hx2.trans hx3) ?_;exact ⟨_,fz_box (by omega) (hx3.get hpg) (ζw (v:=machV m) (u:=machV m) (L1:=[]) rfl (ζw (v:=lv encB sa) (u:=lv encB sa) (L1:=[]) rfl (ζw (v:=lv encB sc) (u:=lv encB sc) (L1:=[]) rfl (mapF_one (v:=lv encB sl) (u:=lv encB sl) (L:=[]) rfl))))⟩
 ·rw [if_neg (fun hc => by rw [List.all_eq_true.2 hc] at hall; cases hall)];simp -implicitDefEqProofs (disch:=omega) [e2];exact ⟨H2,rfl,hx2.trans hx3⟩
end Go.Sw
end
section
namespace Go.Sw
open Go.RowKit
def ligaP (o:Option LTab):Value:=match o with | some t => ligaV t | none => .pointer none
theorem ζr2 (o:Option LTab):Flat (ligaP o):=by
 cases o with
 | none => exact .nilPtr
 | some t => exact Flat.liga t
theorem ζo1 (k:Nat) {H:Heap} (b:List Int) (hb:Byt b) (g:Int) (hg:1 ≤ g ∧ g ≤ 65535) (hl:b.length < 2 ^ 31) (p2 p3 p4:Nat) (old:Value)
  (h2:H.get p2 = some ⟨[lv encB b],1,false⟩) (h3:H.get p3 = some ⟨[.int .i64 g],1,false⟩) (h4:H.get p4 = some ⟨[old],1,false⟩) (ht:∀ H',R (T k) F.ζ2p [vwB b,.int .i64 g] H' = orF (ligaS b g) ligaV H') :
  R (T k) F.ζ2s [ptrV p2,ptrV p3,ptrV p4] H = match ligaS b g with
   | some t => .ok (.tuple #[]) (H.set p4 (some ⟨[ligaV t],1,false⟩))
   | none => .panic failV H:=by
 rw [ζkp];have ht:=ht H;cases h:ligaS b g with
 | none =>
  rw [h] at ht;refine ζ1o ⟨H,?_,Ext.refl H⟩ Flat.fail.alive;simp -implicitDefEqProofs (disch:=omega) [ζ2s,h2,h3,ht]
 | some x =>
  rw [h] at ht;simp -implicitDefEqProofs (disch:=omega) [ζ2s,h2,h3,h4,ht]
def ligaO (b:List Int) (g:Int):Option LTab:=if 1 ≤ g ∧ g ≤ 65535 then ligaS b g else none
def ligaN (b:List Int) (g:Int):Int:=if 1 ≤ g ∧ g ≤ 65535 then (if (ligaS b g).isSome then 0 else 2) else 1
theorem ζnx (k:Nat) {H:Heap} {v:Value} {b:List Int} (hv:Sl H 1 v encB b) (hb:Byt b) (g:Int) (hl:b.length ≤ 2 ^ 30) (ht:(1 ≤ g ∧ g ≤ 65535) → ∀ H',R (T k) F.ζ2p [vwB b,.int .i64 g] H' = orF (ligaS b g) ligaV H') :
  R (T k) F.ζ7m [v,.int .i64 g] H = .ok (.tuple #[ligaP (ligaO b g),.int .i64 (ligaN b g)]) H:=by
 rw [ζpw];have hx2:=(Ext.refl H).push ⟨[.int .i64 g],1,false⟩;have al:∀ o n,Alive H (.tuple #[ligaP o,.int .i64 n]):=fun o n => (Flat.tupleL (l:=[ligaP o,.int .i64 n]) (.cons (ζr2 o) (.cons (.int _ _) .nil))).alive;have fz:∀ H' o n,fzV H.n H' fzDepth (.tuple #[ligaP o,.int .i64 n]) = some (.tuple #[ligaP o,.int .i64 n],[]):=fun H' o n => by
  cases o <;> rfl
 by_cases hgg:1 ≤ g ∧ g ≤ 65535
 ·have c1:¬ g < 1:=by omega
  have c2:¬ g > 65535:=by omega
  have hx3:=hx2.push ⟨[.pointer none],1,false⟩;have o3:=Of_run k (hv.up hx3);have by3:=ζru k (hv.up hx3) hl;have o4:=fun H => Of_lv k b H;have hin:=ζo1 k (H:=((H.push ⟨[.int .i64 g],1,false⟩).push ⟨[.pointer none],1,false⟩).push ⟨[lv encB b],1,false⟩) b hb g hgg (by omega) (H.n + 2) H.n (H.n + 1) (.pointer none) (by simp) (by simp) (by simp) (ht hgg);cases hlk:ligaS b g with
  | none =>
   rw [hlk] at hin;have ht:=Try_no k F.ζ2s #[ptrV (H.n + 2),ptrV H.n,ptrV (H.n + 1)] hin;refine nrm_fz (H':=((H.push ⟨[.int .i64 g],1,false⟩).push ⟨[.pointer none],1,false⟩).push ⟨[lv encB b],1,false⟩) (v:=.tuple #[ligaP none,.int .i64 2]) ?_ (by unfold ligaO ligaN; rw [if_pos hgg,if_pos hgg,hlk]; exact fz _ _ _) (hx3.push _) (al _ _);simp -implicitDefEqProofs (disch:=omega) [ζ7m,c1,c2,o3,by3,o4,ht,ligaP]
  | some x =>
   rw [hlk] at hin;have ht:=Try_ok k F.ζ2s #[ptrV (H.n + 2),ptrV H.n,ptrV (H.n + 1)] hin;refine nrm_fz (H':=((H.push ⟨[.int .i64 g],1,false⟩).push ⟨[ligaV x],1,false⟩).push ⟨[lv encB b],1,false⟩) (v:=.tuple #[ligaP (some x),.int .i64 0]) ?_ (by unfold ligaO ligaN; rw [if_pos hgg,if_pos hgg,hlk]; exact fz _ _ _) ((hx2.push _).push _) (al _ _);simp at ht;simp -implicitDefEqProofs (disch:=omega) [ζ7m,c1,c2,o3,by3,o4,ht,ligaP]
 ·refine nrm_fz (H':=(H.push ⟨[.int .i64 g],1,false⟩).push ⟨[.pointer none],1,false⟩) (v:=.tuple #[ligaP none,.int .i64 1]) ?_ (by unfold ligaO ligaN; rw [if_neg hgg,if_neg hgg]; exact fz _ _ _) (hx2.push _) (al _ _);by_cases c1:g < 1
  ·simp -implicitDefEqProofs (disch:=omega) [ζ7m,c1,ligaP]
  ·have c2:g > 65535:=by omega
   simp -implicitDefEqProofs (disch:=omega) [ζ7m,c1,c2,ligaP]
end Go.Sw
end
section
namespace Go.Sw
open Go.RowKit
end Go.Sw
end
section
namespace Go.Sw
open Go.RowKit
theorem ζnd (k:Nat) (l:List Gl) (hl:l.length < 2 ^ 30) (j id:Int) (H:Heap) :
  R (T k) F.ζ21 [lv encG l,.int .i64 j,.int .i64 id] H = .ok (.tuple #[lv encG (setG l j id),.bool (decide (0 ≤ j ∧ j < l.length))]) H:=by
 rw [ζkd];have fl:∀ (l:List Gl) b,Flat (.tuple #[lv encG l,.bool b]):=fun l b => .tupleL (.cons (Flat.Gls l) (.cons (.bool _) .nil));by_cases hj:0 ≤ j ∧ j < l.length
 ·rw [decide_eq_true hj];obtain ⟨n,rfl⟩:=Int.eq_ofNat_of_zero_le hj.1;have hn:n < l.length:=by omega
  obtain ⟨gl,hgl⟩:∃ gl,l[n]? = some gl:=⟨_,List.getElem?_eq_getElem hn⟩
  have c1:¬ (n:Int) ≥ l.length:=by omega
  have c0:¬ (n:Int) < 0:=by omega
  have g:=(Star.nil H).more_row (Ext.refl _) (OwnO.bare encG _ 2) (fun b hb => by cases hb);obtain ⟨s1,o1,H1,e1,g⟩:=g.append (bytes:=16) 0 encG_len rfl (b:=lv encG l) (l2:=l) rfl (lv_first encG_len l _) (by simp; omega) (by decide);simp only [List.nil_append,List.set_cons_zero] at g;obtain ⟨c,hc,hgc,i2⟩:=g.ix 0 rfl .i64 n hn;subst hc;obtain ⟨H2,e2,g,_⟩:=g.stRow 0 rfl encG_len (j:=n) (c:=0) (n:=1) (⟨id,gl.cl⟩:Gl) (v:=.int .i64 id) hgl rfl rfl (by decide) rfl;simp only [Nat.add_zero,List.set_cons_zero] at e2 g;obtain ⟨L,hf⟩:=(g.own 0 rfl).freeze encG_len (ζgh _) 5;have hs:setG l (n:Int) id = l.set n ⟨id,gl.cl⟩:=by
   unfold setG;rw [if_pos hj,Int.toNat_natCast];apply List.ext_getElem?;intro i;rw [List.getElem?_modify,List.getElem?_set];by_cases hin:n = i
   ·subst hin; simp [hn,(List.getElem?_eq_some_iff.1 hgl).2]
   ·simp [hin]
  rw [hs];have hft:fzV H.n H2 fzDepth (.tuple #[s1,.bool true]) = some (.tuple #[lv encG (l.set n ⟨id,gl.cl⟩),.bool true],L ++ []) :=
   fz_tuple (l:=[s1,.bool true]) (r:=[lv encG (l.set n ⟨id,gl.cl⟩),.bool true]) (ζw hf (ζ7y fun v hv => by simp at hv; subst hv; trivial))
  refine nrm_fz (v:=.tuple #[s1,.bool true]) (H':=H2) ?_ hft g.ext (fl _ _).alive;simp -implicitDefEqProofs (disch:=omega) [-stR_ptr,ζ21,c0,c1,e1,i2,e2]
 ·have hs:setG l j id = l:=by unfold setG; rw [if_neg hj]
  rw [decide_eq_false hj,hs];refine nrm_fz (v:=.tuple #[lv encG l,.bool false]) (L:=[]) (H':=H) ?_ rfl (Ext.refl H) (fl _ _).alive;by_cases c1:j < 0
  ·simp -implicitDefEqProofs (disch:=omega) [ζ21,c1]
  ·have c2:j ≥ l.length:=by omega
   simp -implicitDefEqProofs (disch:=omega) [ζ21,c1,c2]
theorem ζrc (k:Nat) (ids:List Int) (hl:ids.length < 2 ^ 30) (H:Heap):R (T k) F.ζ2i [lv encI ids] H = .ok (lv encG (newG ids)) H:=by
 rw [ζkc];have g:=(Star.nil H).more_row (Ext.refl _) (OwnO.bare encG _ 2) (fun b hb => by cases hb);simp only [List.nil_append] at g
 obtain ⟨x,e',H1,hr1,rfl,z,s,o,rfl,g⟩:=loop_up (body:=ζ75 k (R (T k))) ids.length
  (fun j e H' => ∃ s o,e = [(0,lv encI ids),(3,s),(4,.int .i64 j)] ∧ Star H H' [itRow o 2 s encG (newG (ids.take j))])
  (fun x e H' => x = .exit 0 ∧ ∃ z s o,e = [(0,lv encI ids),(3,s),(4,z),(9,.bool false)] ∧ Star H H' [itRow o 2 s encG (newG ids)])
  (e0:=[(0,lv encI ids),(3,bareV),(4,.int .i64 0)]) (H0:=H) ⟨bareV,none,rfl,g⟩ (by omega)
  (fun j e H' hj ⟨s,o,he,g⟩ => by
   subst he;have hlt:(j:Int) < ids.length:=by omega
   obtain ⟨x,hx⟩:∃ x,ids[j]? = some x:=⟨_,List.getElem?_eq_getElem hj⟩
   have i1:=fun H' => ixS_lvN encI_len ids .i64 j x hx H';have hlen:(ids.take j).length = j:=by rw [List.length_take]; omega
   obtain ⟨s',o',H2,e2,g2⟩:=g.append1 (bytes:=16) 0 encG_len rfl (⟨x,j⟩:Gl) (by rw [newG_len]; omega) (by decide);simp only [List.set_cons_zero] at g2;simp only [encG] at e2;refine .inl ⟨_,H2,?_,s',o',rfl,by rw [ζ1v hx,ζp1,hlen]; exact g2⟩;rw [ζ8j];simp -implicitDefEqProofs (disch:=omega) [hlt,i1,e2])
  (fun e H' ⟨s,o,he,g⟩ => by
   subst he;rw [List.take_length] at g;refine ⟨.exit 0,_,H',?_,by simp,rfl,.int .i64 ids.length,s,o,rfl,g⟩;rw [ζ8j];simp -implicitDefEqProofs)
 obtain ⟨L,hf⟩:=(g.own 0 rfl).freeze encG_len (ζgh _) 6;refine nrm_fz (v:=s) (H':=H1) ?_ hf g.ext (Flat.Gls _).alive;simp -implicitDefEqProofs (disch:=omega) [ζ2i,hr1,ζf9]
end Go.Sw
end
section
set_option maxRecDepth 100000
set_option linter.unusedVariables false
namespace Go.Sw
noncomputable section
def ζ3e (k:Nat) (call:Caller) (a0:Value) (h:Heap):Res Value :=
 (allocR Prog 232 h).bind fun v1 h2 =>
 (binR Prog .mul 3 (.int .i64 2) a0 h2).bind fun v3 h4 =>
 (binR Prog .add 3 v3 (.int .i64 128) h4).bind fun v5 h6 =>
 (buildR Prog 232 [(4,v5)] h6).bind fun v7 h8 =>
 (storeR Prog 232 v1 v7 h8).bind fun _v9 h10 =>
 (loadR Prog 232 v1 h10).bind fun v11 h12 =>
 .ok v11 h12
theorem ζht (k:Nat) (a0:Value) (h:Heap):R (T k) F.ζ3e [a0] h = nrm .gc h (ζ3e k (R (T k)) a0 h) :=
 (R_body (t:=T k) (T_scott k) (by kernel_rfl) (by kernel_rfl) _ _).trans (by kernel_rfl)
def ζa4 (k:Nat) (call:Caller) (a3 a4 a6 a8:Value) (h:Heap):Res Value :=
 kSeq (pieceK (C k) call F.ζ1u [1,1,1,1]) (kDone Prog (resOf Prog F.ζ1u)) .normal [(3,a3),(4,a4),(6,a6),(8,a8)] h
def ζa5 (k:Nat) (call:Caller) (a2 a3 a4 a6 a8 a18:Value) (h:Heap):Res Value :=
 kSeq (pieceK (C k) call F.ζ1u [1,1,1,1]) (kDone Prog (resOf Prog F.ζ1u)) .normal [(2,a2),(3,a3),(4,a4),(6,a6),(8,a8),(18,a18)] h
def ζ1u (k:Nat) (call:Caller) (a0 a1 a2:Value) (h:Heap):Res Value :=
 (boxR a0 h).bind fun v1 h2 =>
 (boxR a1 h2).bind fun v3 h4 =>
 (allocR Prog 130 h4).bind fun v5 h6 =>
 (fieldAddrR Prog 232 v3 5 h6).bind fun v7 h8 =>
 (loadR Prog 4 v7 h8).bind fun v9 h10 =>
 condV (some v9) (
 (buildR Prog 130 [] h10).bind fun v11 h12 =>
 (storeR Prog 130 v5 v11 h12).bind fun _v13 h14 =>
 (loadR Prog 130 v5 h14).bind fun v15 h16 =>
 .ok (.tuple #[v15,(.bool false)]) h16)
 (
 (fieldAddrR Prog 232 v3 1 h10).bind fun v17 h18 =>
 (loadR Prog 3 v17 h18).bind fun v19 h20 =>
 (builtinV Prog .len [22] [a2] h20).bind fun v21 h22 =>
 (binR Prog .lss 3 v19 v21 h22).bind fun v23 h24 =>
 condV (some v23) (
 (loadR Prog 115 v1 h24).bindN fun v25 h26 =>
 (fieldAddrR Prog 232 v3 1 h26).bindN fun v27 h28 =>
 (loadR Prog 3 v27 h28).bindN fun v29 h30 =>
 (indexAddrR Prog 22 a2 v29 h30).bindN fun v31 h32 =>
 (fieldAddrR Prog 57 v31 0 h32).bindN fun v33 h34 =>
 (loadR Prog 3 v33 h34).bindN fun v35 h36 =>
 (call F.ζ20 [v25,v35] h36).bindT (fun p39 h40 => .panic p39 h40) fun v37 h38 =>
 ζa4 k call v1 v3 v5 v37 h38)
 (
 ζa5 k call a2 v1 v3 v5 (.int .i64 0) v23 h24))
theorem ζii (k:Nat) (a0 a1 a2:Value) (h:Heap):R (T k) F.ζ1u [a0,a1,a2] h = nrm .gc h (ζ1u k (R (T k)) a0 a1 a2 h) :=
 (R_body (t:=T k) (T_scott k) (by kernel_rfl) (by kernel_rfl) _ _).trans (by kernel_rfl)
theorem ζfb (k:Nat) (call:Caller) (a3 a4 a6 a8:Value) (h:Heap):ζa4 k call a3 a4 a6 a8 h =
 (loadR Prog 115 a3 h).bind fun v41 h42 =>
 (fieldAddrR Prog 232 a4 0 h42).bind fun v43 h44 =>
 (loadR Prog 3 v43 h44).bind fun v45 h46 =>
 (call F.ζ1s [v41,v45,a8] h46).bind fun v47 h48 =>
 (extractR v47 0 h48).bind fun v49 h50 =>
 (extractR v47 1 h50).bind fun v51 h52 =>
 (allocR Prog 130 h52).bind fun v53 h54 =>
 (storeR Prog 130 v53 v49 h54).bind fun _v55 h56 =>
 (loadR Prog 130 v53 h56).bind fun v57 h58 =>
 (storeR Prog 130 a6 v57 h58).bind fun _v59 h60 =>
 (loadR Prog 130 a6 h60).bind fun v61 h62 =>
 .ok (.tuple #[v61,v51]) h62:=by kernel_rfl
theorem ζfc (k:Nat) (call:Caller) (a2 a3 a4 a6 a8 a18:Value) (h:Heap):ζa5 k call a2 a3 a4 a6 a8 a18 h =
 (loadR Prog 115 a3 h).bind fun v63 h64 =>
 (fieldAddrR Prog 232 a4 0 h64).bind fun v65 h66 =>
 (loadR Prog 3 v65 h66).bind fun v67 h68 =>
 (call F.ζ1s [v63,v67,a8] h68).bind fun v69 h70 =>
 (extractR v69 0 h70).bind fun v71 h72 =>
 (extractR v69 1 h72).bind fun v73 h74 =>
 (allocR Prog 130 h74).bind fun v75 h76 =>
 (storeR Prog 130 v75 v71 h76).bind fun _v77 h78 =>
 (loadR Prog 130 v75 h78).bind fun v79 h80 =>
 (storeR Prog 130 a6 v79 h80).bind fun _v81 h82 =>
 (loadR Prog 130 a6 h82).bind fun v83 h84 =>
 .ok (.tuple #[v83,v73]) h84:=by kernel_rfl
def ζ8k (k:Nat) (call:Caller) (a5 a10 a11:Value) (h:Heap):Res Value :=
 kSeq (pieceK (C k) call F.ζd [1,1,1,1,1]) (kDone Prog (resOf Prog F.ζd)) .normal [(5,a5),(10,a10),(11,a11)] h
def ζbx (k:Nat) (call:Caller) (a5 a10 a11:Value) (h:Heap):Res Value :=
 kSeq (pieceK (C k) call F.ζd [1,1,1,1,1,1]) (kDone Prog (resOf Prog F.ζd)) .normal [(5,a5),(10,a10),(11,a11)] h
def ζby (k:Nat) (call:Caller) (a5 a10 a11 a39:Value) (h:Heap):Res Value :=
 kSeq (pieceK (C k) call F.ζd [1,1,1,1,1,1]) (kDone Prog (resOf Prog F.ζd)) .normal [(5,a5),(10,a10),(11,a11),(39,a39)] h
def ζ44 (k:Nat) (call:Caller) (a5 a10:Value) (h:Heap):Res Value :=
 kSeq (pieceK (C k) call F.ζd [1,1,1,1,1,1,1]) (kDone Prog (resOf Prog F.ζd)) .normal [(5,a5),(10,a10)] h
def ζ8l (k:Nat) (call:Caller) (a5 a10 a52:Value) (h:Heap):Res Value :=
 kSeq (pieceK (C k) call F.ζd [1,1,1,1,1,1,1]) (kDone Prog (resOf Prog F.ζd)) .normal [(5,a5),(10,a10),(52,a52)] h
def ζd (k:Nat) (call:Caller) (a0 a1 a2 a3 a4:Value) (h:Heap):Res Value :=
 (boxR a0 h).bind fun v1 h2 =>
 (boxR a1 h2).bind fun v3 h4 =>
 (allocR Prog 232 h4).bind fun v5 h6 =>
 (fieldAddrR Prog 232 v1 1 h6).bind fun v7 h8 =>
 (loadR Prog 3 v7 h8).bind fun v9 h10 =>
 (binR Prog .geq 3 v9 a2 h10).bind fun v11 h12 =>
 (fieldAddrR Prog 232 v1 2 h12).bind fun v13 h14 =>
 (loadR Prog 3 v13 h14).bind fun v15 h16 =>
 (binR Prog .add 3 v15 (.int .i64 1) h16).bind fun v17 h18 =>
 (fieldAddrR Prog 232 v1 2 h18).bind fun v19 h20 =>
 (storeR Prog 3 v19 v17 h20).bind fun _v21 h22 =>
 (fieldAddrR Prog 130 v3 0 h22).bind fun v23 h24 =>
 (loadR Prog 3 v23 h24).bind fun v25 h26 =>
 (fieldAddrR Prog 232 v1 0 h26).bind fun v27 h28 =>
 (storeR Prog 3 v27 v25 h28).bind fun _v29 h30 =>
 (fieldAddrR Prog 130 v3 1 h30).bind fun v31 h32 =>
 (loadR Prog 3 v31 h32).bind fun v33 h34 =>
 (binR Prog .quo 3 v33 (.int .i64 16384) h34).bind fun v35 h36 =>
 (binR Prog .rem 3 v35 (.int .i64 2) h36).bind fun v37 h38 =>
 (binR Prog .eql 3 v37 (.int .i64 1) h38).bind fun v39 h40 =>
 condV (some v39) (
 (fieldAddrR Prog 232 v1 3 h40).bind fun v41 h42 =>
 (loadR Prog 3 v41 h42).bind fun v43 h44 =>
 (binR Prog .add 3 v43 (.int .i64 1) h44).bind fun v45 h46 =>
 (fieldAddrR Prog 232 v1 3 h46).bind fun v47 h48 =>
 (storeR Prog 3 v47 v45 h48).bind fun _v49 h50 =>
 (fieldAddrR Prog 232 v1 1 h50).bind fun v51 h52 =>
 (storeR Prog 3 v51 a3 h52).bind fun _v53 h54 =>
 ζ8k k call v1 v5 (.bool false) h54)
 (
 (fieldAddrR Prog 232 v1 3 h40).bind fun v55 h56 =>
 (storeR Prog 3 v55 (.int .i64 0) h56).bind fun _v57 h58 =>
 (fieldAddrR Prog 232 v1 1 h58).bind fun v59 h60 =>
 (storeR Prog 3 v59 a4 h60).bind fun _v61 h62 =>
 ζ8k k call v1 v5 v11 h62)
theorem ζky (k:Nat) (a0 a1 a2 a3 a4:Value) (h:Heap):R (T k) F.ζd [a0,a1,a2,a3,a4] h = nrm .gc h (ζd k (R (T k)) a0 a1 a2 a3 a4 h) :=
 (R_body (t:=T k) (T_scott k) (by kernel_rfl) (by kernel_rfl) _ _).trans (by kernel_rfl)
theorem ζm (k:Nat) (call:Caller) (a5 a10 a11:Value) (h:Heap):ζ8k k call a5 a10 a11 h =
 (fieldAddrR Prog 232 a5 1 h).bind fun v63 h64 =>
 (loadR Prog 3 v63 h64).bind fun v65 h66 =>
 (binR Prog .lss 3 v65 (.int .i64 0) h66).bind fun v67 h68 =>
 condV (some v67) (
 (fieldAddrR Prog 232 a5 1 h68).bind fun v69 h70 =>
 (storeR Prog 3 v69 (.int .i64 0) h70).bind fun _v71 h72 =>
 ζbx k call a5 a10 a11 h72)
 (
 ζby k call a5 a10 a11 v67 h68):=by kernel_rfl
theorem ζ2d (k:Nat) (call:Caller) (a5 a10 a11:Value) (h:Heap):ζbx k call a5 a10 a11 h =
 condV (some a11) (
 (fieldAddrR Prog 232 a5 5 h).bind fun v73 h74 =>
 (storeR Prog 4 v73 (.bool true) h74).bind fun _v75 h76 =>
 ζ44 k call a5 a10 h76)
 (
 (fieldAddrR Prog 232 a5 2 h).bind fun v77 h78 =>
 (loadR Prog 3 v77 h78).bind fun v79 h80 =>
 (fieldAddrR Prog 232 a5 4 h80).bind fun v81 h82 =>
 (loadR Prog 3 v81 h82).bind fun v83 h84 =>
 (binR Prog .geq 3 v79 v83 h84).bind fun v85 h86 =>
 ((bif wantVal v85 false then fieldAddrR Prog 232 a5 3 h86 else Res.ok undef h86)).bind fun v87 h88 =>
 ((bif wantVal v85 false then loadR Prog 3 v87 h88 else Res.ok undef h88)).bind fun v89 h90 =>
 ((bif wantVal v85 false then binR Prog .gtr 3 v89 (.int .i64 64) h90 else Res.ok undef h90)).bind fun v91 h92 =>
 (condV (some v85) (Res.ok (.bool true) h92) (Res.ok v91 h92)).bind fun v93 h94 =>
 condV (some v93) (
 (fieldAddrR Prog 232 a5 5 h94).bind fun v95 h96 =>
 (storeR Prog 4 v95 (.bool true) h96).bind fun _v97 h98 =>
 (fieldAddrR Prog 232 a5 6 h98).bind fun v99 h100 =>
 (storeR Prog 3 v99 (.int .i64 4) h100).bind fun _v101 h102 =>
 ζ44 k call a5 a10 h102)
 (
 ζ8l k call a5 a10 v93 h94)):=by kernel_rfl
theorem ζ2e (k:Nat) (call:Caller) (a5 a10 a11 a39:Value) (h:Heap):ζby k call a5 a10 a11 a39 h =
 condV (some a11) (
 (fieldAddrR Prog 232 a5 5 h).bind fun v103 h104 =>
 (storeR Prog 4 v103 (.bool true) h104).bind fun _v105 h106 =>
 ζ44 k call a5 a10 h106)
 (
 (fieldAddrR Prog 232 a5 2 h).bind fun v107 h108 =>
 (loadR Prog 3 v107 h108).bind fun v109 h110 =>
 (fieldAddrR Prog 232 a5 4 h110).bind fun v111 h112 =>
 (loadR Prog 3 v111 h112).bind fun v113 h114 =>
 (binR Prog .geq 3 v109 v113 h114).bind fun v115 h116 =>
 ((bif wantVal v115 false then fieldAddrR Prog 232 a5 3 h116 else Res.ok undef h116)).bind fun v117 h118 =>
 ((bif wantVal v115 false then loadR Prog 3 v117 h118 else Res.ok undef h118)).bind fun v119 h120 =>
 ((bif wantVal v115 false then binR Prog .gtr 3 v119 (.int .i64 64) h120 else Res.ok undef h120)).bind fun v121 h122 =>
 (condV (some v115) (Res.ok (.bool true) h122) (Res.ok v121 h122)).bind fun v123 h124 =>
 condV (some v123) (
 (fieldAddrR Prog 232 a5 5 h124).bind fun v125 h126 =>
 (storeR Prog 4 v125 (.bool true) h126).bind fun _v127 h128 =>
 (fieldAddrR Prog 232 a5 6 h128).bind fun v129 h130 =>
 (storeR Prog 3 v129 (.int .i64 4) h130).bind fun _v131 h132 =>
 ζ44 k call a5 a10 h132)
 (
 ζ8l k call a5 a10 v123 h124)):=by kernel_rfl
theorem ζ1p (k:Nat) (call:Caller) (a5 a10:Value) (h:Heap):ζ44 k call a5 a10 h =
 (loadR Prog 232 a5 h).bind fun v133 h134 =>
 (storeR Prog 232 a10 v133 h134).bind fun _v135 h136 =>
 (loadR Prog 232 a10 h136).bind fun v137 h138 =>
 .ok v137 h138:=by kernel_rfl
theorem ζ3w (k:Nat) (call:Caller) (a5 a10 a52:Value) (h:Heap):ζ8l k call a5 a10 a52 h =
 (loadR Prog 232 a5 h).bind fun v139 h140 =>
 (storeR Prog 232 a10 v139 h140).bind fun _v141 h142 =>
 (loadR Prog 232 a10 h142).bind fun v143 h144 =>
 .ok v143 h144:=by kernel_rfl
end
end Go.Sw
end
section
namespace Go.Sw
open Go.RowKit
structure Way where
 st:Int
 pl:Int
 stp:Int
 rest:Int
 most:Int
 over:Bool
 code:Int
abbrev wayC (w:Way):List Value:=[.int .i64 w.st,.int .i64 w.pl,.int .i64 w.stp,.int .i64 w.rest,.int .i64 w.most,.bool w.over,.int .i64 w.code]
abbrev wayV (w:Way):Value:=.agg (wayC w).toArray
theorem Flat.way (w:Way):Flat (wayV w):=.aggL (.cons (.int _ _) (.cons (.int _ _) (.cons (.int _ _) (.cons (.int _ _) (.cons (.int _ _) (.cons (.bool _) (.cons (.int _ _) .nil)))))))
theorem ζrt (k:Nat) (n:Int) (h0:0 ≤ n) (h1:n < 2 ^ 40) (H:Heap):R (T k) F.ζ3e [.int .i64 n] H = .ok (wayV ⟨0,0,0,0,2 * n + 128,false,0⟩) H:=by
 rw [ζht];refine nrm_gc ⟨H.push ⟨wayC ⟨0,0,0,0,2 * n + 128,false,0⟩,1,false⟩,?_,(Ext.refl H).push _⟩ (Flat.way _).alive;simp -implicitDefEqProofs (disch:=omega) [ζ3e]
def goS (w:Way) (e:En) (n stay on:Int):Way :=
 let s:Bool:=decide (e.flags / 16384 % 2 = 1)
 let rest:=if s then w.rest + 1 else 0
 let pl:=max (if s then stay else on) 0
 let fin:Bool:=!s && decide (w.pl ≥ n)
 if fin then ⟨e.next,pl,w.stp + 1,rest,w.most,true,w.code⟩
 else if w.stp + 1 ≥ w.most ∨ rest > 64 then ⟨e.next,pl,w.stp + 1,rest,w.most,true,4⟩
 else ⟨e.next,pl,w.stp + 1,rest,w.most,w.over,w.code⟩
set_option maxHeartbeats 1000000 in
theorem Go_run (k:Nat) (w:Way) (e:En) (n stay on:Int) (hw:0 ≤ w.stp ∧ w.stp < 2 ^ 50 ∧ 0 ≤ w.rest ∧ w.rest < 2 ^ 50) (he:0 ≤ e.flags ∧ e.flags < 65536) (H:Heap) :
  R (T k) F.ζd [wayV w,encE e,.int .i64 n,.int .i64 stay,.int .i64 on] H = .ok (wayV (goS w e n stay on)) H:=by
 rw [ζky];have q1:=fun H => bin_quo Prog 3 H .i64 e.flags 16384 (by decide);rw [Int.tdiv_eq_ediv_of_nonneg he.1] at q1;have hq:0 ≤ e.flags / 16384:=Int.ediv_nonneg he.1 (by decide);have q2:=fun H => bin_rem Prog 3 H .i64 (e.flags / 16384) 2 (by decide);rw [Int.tmod_eq_emod_of_nonneg hq] at q2;refine nrm_gc ⟨((H.push ⟨wayC (goS w e n stay on),1,false⟩).push ⟨encEn e,1,false⟩).push ⟨wayC (goS w e n stay on),1,false⟩,?_,(((Ext.refl H).push _).push _).push _⟩ (Flat.way _).alive;unfold goS;by_cases c1:e.flags / 16384 % 2 = 1
 ·have m1:max stay 0 = if stay < 0 then 0 else stay:=by split <;> omega
  by_cases c2:stay < 0
  ·by_cases c3:w.stp + 1 ≥ w.most
   ·simp -implicitDefEqProofs (disch:=omega) [ζd,q1,q2,c1,m1,c2,c3,ζm,ζ2d,ζ1p]
   ·by_cases c4:w.rest + 1 > 64
    ·simp -implicitDefEqProofs (disch:=omega) [ζd,q1,q2,c1,m1,c2,c3,c4,ζm,ζ2d,ζ1p]
    ·simp -implicitDefEqProofs (disch:=omega) [ζd,q1,q2,c1,m1,c2,c3,c4,ζm,ζ2d,ζ3w]
  ·by_cases c3:w.stp + 1 ≥ w.most
   ·simp -implicitDefEqProofs (disch:=omega) [ζd,q1,q2,c1,m1,c2,c3,ζm,ζ2e,ζ1p]
   ·by_cases c4:w.rest + 1 > 64
    ·simp -implicitDefEqProofs (disch:=omega) [ζd,q1,q2,c1,m1,c2,c3,c4,ζm,ζ2e,ζ1p]
    ·simp -implicitDefEqProofs (disch:=omega) [ζd,q1,q2,c1,m1,c2,c3,c4,ζm,ζ2e,ζ3w]
 ·have c1':(e.flags / 16384 % 2 == 1) = false:=by simpa using c1
  have m1:max on 0 = if on < 0 then 0 else on:=by split <;> omega
  by_cases c5:w.pl ≥ n
  ·by_cases c2:on < 0
   ·simp -implicitDefEqProofs (disch:=omega) [ζd,q1,q2,c1,c1',m1,c2,c5,ζm,ζ2d,ζ1p]
   ·simp -implicitDefEqProofs (disch:=omega) [ζd,q1,q2,c1,c1',m1,c2,c5,ζm,ζ2e,ζ1p]
  ·by_cases c3:w.stp + 1 ≥ w.most
   ·by_cases c2:on < 0
    ·simp -implicitDefEqProofs (disch:=omega) [ζd,q1,q2,c1,c1',m1,c2,c3,c5,ζm,ζ2d,ζ1p]
    ·simp -implicitDefEqProofs (disch:=omega) [ζd,q1,q2,c1,c1',m1,c2,c3,c5,ζm,ζ2e,ζ1p]
   ·by_cases c2:on < 0
    ·simp -implicitDefEqProofs (disch:=omega) [ζd,q1,q2,c1,c1',m1,c2,c3,c5,ζm,ζ2d,ζ3w]
    ·simp -implicitDefEqProofs (disch:=omega) [ζd,q1,q2,c1,c1',m1,c2,c3,c5,ζm,ζ2e,ζ3w]
end Go.Sw
end
section
namespace Go.Sw
open Go.RowKit
theorem ζs3 (m:Mach) (l:List Gl) (pl:Int) (h:0 ≤ pl):(clsS m l pl).1 = if pl < l.length then (match l[pl.toNat]? with | some g => classS m g.id | none => 0) else 0:=by
 unfold clsS atG;by_cases h2:pl < l.length
 ·rw [if_pos ⟨h,h2⟩,if_pos h2];obtain ⟨g,hg⟩:∃ g,l[pl.toNat]? = some g:=⟨_,List.getElem?_eq_getElem (by omega)⟩
  rw [hg]
 ·rw [if_neg (fun hc => h2 hc.2),if_neg h2]
set_option maxHeartbeats 1000000 in
theorem Next_run (k:Nat) {b:List Int} (hb:Byt b) {g w:Int} (hg:1 ≤ g ∧ g ≤ 65535) (hw:w = 0 ∨ w = 1 ∨ w = 2) (hl:b.length < 2 ^ 31) {m:Mach} (hm:m.ok) (h:machS b g w = some m) (y:Way) (hy:y.over = false) (hp:0 ≤ y.pl) (l:List Gl) (hll:l.length < 2 ^ 40) (H:Heap) :
  R (T k) F.ζ1u [rmV (rmOf b g w m),wayV y,lv encG l] H = .ok (.tuple #[encEA (stepS m y.st (clsS m l y.pl).1),.bool (stepS m y.st (clsS m l y.pl).1).isSome]) H:=by
 rw [ζii];have hstep:=fun c H' => ζt9 k hb hw hl hm h y.st c H';have hcls:=fun id H' => ζqn k hb hg hl hm h id H';have hc:=ζs3 m l y.pl hp;obtain ⟨st,pl,stp,rest,most,over,code⟩:=y;dsimp only at hy hp hstep hc ⊢;subst hy;generalize rmOf b g w m = r at hstep hcls ⊢;have fl:∀ o:Option En,Flat (.tuple #[encEA o,.bool o.isSome]):=fun o => .tupleL (.cons (ζj5 _) (.cons (.bool _) .nil));by_cases h2:pl < l.length
 ·rw [if_pos h2] at hc;obtain ⟨gl,hgl⟩:∃ gl,l[pl.toNat]? = some gl:=⟨_,List.getElem?_eq_getElem (by omega)⟩
  rw [hgl] at hc;dsimp only at hc;have i1:=fun H' => ixS_lv encG_len l .i64 pl gl hp hgl H';rw [hc];generalize hs:stepS m st (classS m gl.id) = o;have hst:=fun H' => hstep (classS m gl.id) H';rw [hs] at hst;have fo:=fl o;unfold encEA at hst fo ⊢;generalize o.isSome = z at hst fo ⊢;generalize o.getD ⟨0,0,0,0⟩ = e at hst fo ⊢;refine nrm_gc ⟨((((H.push ⟨rmCells r.b r.cl r.rowsAt r.entsAt r.states r.n r.words r.tb r.parts,1,false⟩).push ⟨[.int .i64 st,.int .i64 pl,.int .i64 stp,.int .i64 rest,.int .i64 most,.bool false,.int .i64 code],1,false⟩).push ⟨encEn e,1,false⟩).push ⟨encEn e,1,false⟩),?_,((((Ext.refl H).push _).push _).push _).push _⟩ fo.alive;simp -implicitDefEqProofs (disch:=omega) [ζ1u,h2,i1,hcls,ζfb,hst]
 ·rw [if_neg h2] at hc;rw [hc];generalize hs:stepS m st 0 = o;have hst:=fun H' => hstep 0 H';rw [hs] at hst;have fo:=fl o;unfold encEA at hst fo ⊢;generalize o.isSome = z at hst fo ⊢;generalize o.getD ⟨0,0,0,0⟩ = e at hst fo ⊢;refine nrm_gc ⟨((((H.push ⟨rmCells r.b r.cl r.rowsAt r.entsAt r.states r.n r.words r.tb r.parts,1,false⟩).push ⟨[.int .i64 st,.int .i64 pl,.int .i64 stp,.int .i64 rest,.int .i64 most,.bool false,.int .i64 code],1,false⟩).push ⟨encEn e,1,false⟩).push ⟨encEn e,1,false⟩),?_,((((Ext.refl H).push _).push _).push _).push _⟩ fo.alive;simp -implicitDefEqProofs (disch:=omega) [ζ1u,h2,ζfc,hst]
end Go.Sw
end
section
namespace Go.Sw
open Go.RowKit
end Go.Sw
end
section
namespace Go.Sw
open Go.RowKit
variable {σ:Type}
abbrev drvW (y:Way):Drv:=⟨y.st,y.pl,y.stp,y.rest⟩
def docStepG (m:Mach) (ln:σ → List Gl) (f:σ → Int → En → σ × Int × Int) (x:σ × Way):σ × Way :=
 ((f x.1 x.2.pl (entS m (ln x.1) (drvW x.2))).1,goS x.2 (entS m (ln x.1) (drvW x.2)) ((ln x.1).length:Int) (f x.1 x.2.pl (entS m (ln x.1) (drvW x.2))).2.1 (f x.1 x.2.pl (entS m (ln x.1) (drvW x.2))).2.2)
def docRG (m:Mach) (ln:σ → List Gl) (f:σ → Int → En → σ × Int × Int):Nat → σ × Way → σ × Way
 | 0,x => x
 | n + 1,x => if x.2.over = true then x else docRG m ln f n (docStepG m ln f x)
theorem ζbg (m:Mach) (ln:σ → List Gl) (f:σ → Int → En → σ × Int × Int) (n:Nat) (x:σ × Way) (h:x.2.over = true):docRG m ln f n x = x:=by
 cases n with
 | zero => rfl
 | succ n => unfold docRG; rw [if_pos h]
theorem clsS_end (m:Mach) (l:List Gl) (p:Int) (h:0 ≤ p):(clsS m l p).2 = decide (p ≥ l.length):=by
 unfold clsS atG;by_cases h2:p < l.length
 ·obtain ⟨g,hg⟩:∃ g,l[p.toNat]? = some g:=⟨_,List.getElem?_eq_getElem (by omega)⟩
  rw [if_pos ⟨h,h2⟩,hg,decide_eq_false (by omega)]
 ·rw [if_neg (fun hc => h2 hc.2),decide_eq_true (by omega)]
theorem doc_runG (m:Mach) (ln:σ → List Gl) (f:σ → Int → En → σ × Int × Int) (N:Int):∀ (n:Nat) (s:σ) (y:Way),y.over = false → y.code = 0 → 0 ≤ y.pl → y.most = N → y.stp < N → N - y.stp ≤ n →
  runD m ln f N n (s,drvW y) = ((docRG m ln f n (s,y)).2.stp,(docRG m ln f n (s,y)).2.code,(docRG m ln f n (s,y)).1)
 | 0,s,y,_,_,_,_,h1,h2 => by omega
 | n + 1,s,y,hov,hc0,hp,hN,hlt,hn => by
  have hend:=clsS_end m (ln s) y.pl hp;have hd:docRG m ln f (n + 1) (s,y) = docRG m ln f n (docStepG m ln f (s,y)):=by
   show (if y.over = true then (s,y) else docRG m ln f n (docStepG m ln f (s,y))) = _;rw [if_neg (by rw [hov]; simp)]
  rw [hd];unfold runD;rw [if_pos hlt];unfold docStepG stepD;dsimp only;generalize entS m (ln s) (drvW y) = e;generalize f s y.pl e = r;rw [hend];unfold goS;dsimp only;by_cases c1:e.flags / 16384 % 2 = 1
  ·rw [if_pos c1,decide_eq_true c1];simp only [Bool.not_true,Bool.false_and,Bool.false_eq_true,if_false,if_true];by_cases c2:y.rest + 1 > 64
   ·rw [if_pos c2,if_pos (Or.inr c2)];rw [ζbg _ _ _ _ _ rfl]
   ·rw [if_neg c2];by_cases c3:y.stp + 1 ≥ y.most
    ·rw [if_pos (Or.inl c3),ζbg _ _ _ _ _ rfl];cases n with
     | zero => rfl
     | succ n => unfold runD; dsimp only; rw [if_neg (by omega)]
    ·rw [if_neg (by omega)];exact doc_runG m ln f N n _ ⟨e.next,max r.2.1 0,y.stp + 1,y.rest + 1,y.most,y.over,y.code⟩ hov hc0 (by dsimp only; omega) hN (by dsimp only; omega) (by dsimp only; omega)
  ·rw [if_neg c1,decide_eq_false c1];simp only [Bool.not_false,Bool.true_and,Bool.false_eq_true,if_false];by_cases c4:y.pl ≥ (ln s).length
   ·rw [decide_eq_true c4];simp only [if_true];rw [ζbg _ _ _ _ _ rfl,hc0]
   ·rw [decide_eq_false c4];simp only [Bool.false_eq_true,if_false];rw [if_neg (show ¬ (0:Int) > 64 by decide)];by_cases c3:y.stp + 1 ≥ y.most
    ·rw [if_pos (Or.inl c3),ζbg _ _ _ _ _ rfl];cases n with
     | zero => rfl
     | succ n => unfold runD; dsimp only; rw [if_neg (by omega)]
    ·rw [if_neg (by omega)];exact doc_runG m ln f N n _ ⟨e.next,max r.2.2 0,y.stp + 1,0,y.most,y.over,y.code⟩ hov hc0 (by dsimp only; omega) hN (by dsimp only; omega) (by dsimp only; omega)
theorem goS_all (y:Way) (e:En) (n stay on:Int) (hr:0 ≤ y.rest):let z:=goS y e n stay on
  z.most = y.most ∧ z.stp = y.stp + 1 ∧ z.st = e.next ∧ 0 ≤ z.pl ∧ z.pl ≤ max (max stay on) 0 ∧ 0 ≤ z.rest ∧ z.rest ≤ y.rest + 1 ∧ (z.over = false → z.stp < z.most ∧ z.rest ≤ 64):=by
 intro z;have hz:z = goS y e n stay on:=rfl
 clear_value z
 unfold goS at hz;dsimp only at hz;by_cases c1:e.flags / 16384 % 2 = 1
 ·rw [decide_eq_true c1] at hz;simp only [Bool.not_true,Bool.false_and,Bool.false_eq_true,if_false,if_true] at hz;split at hz <;> subst hz <;> dsimp only <;> refine ⟨rfl,rfl,rfl,by omega,by omega,by omega,by omega,fun h => ?_⟩
  ·cases h
  ·omega
 ·rw [decide_eq_false c1] at hz;simp only [Bool.not_false,Bool.true_and,Bool.false_eq_true,if_false] at hz;split at hz
  ·subst hz; dsimp only; exact ⟨rfl,rfl,rfl,by omega,by omega,by omega,by omega,fun h => by cases h⟩
  ·split at hz <;> subst hz <;> dsimp only <;> refine ⟨rfl,rfl,rfl,by omega,by omega,by omega,by omega,fun h => ?_⟩
   ·cases h
   ·omega
def WayOk (m:Mach) (N j:Nat) (y:Way):Prop:=y.over = false → y.stp = j ∧ y.stp < N ∧ y.most = N ∧ 0 ≤ y.pl ∧ y.pl ≤ 128 * j ∧ 0 ≤ y.rest ∧ y.rest ≤ j ∧ 0 ≤ y.st ∧ y.st < m.rows.length
theorem doc_loop {body:Env → Heap → Res (AExit × Env)} (m:Mach) (hm:m.ok) (ln:σ → List Gl) (f:σ → Int → En → σ × Int × Int) (N:Nat) (h0N:0 < N) (hN:N < 2 ^ 42)
  (At:σ × Way → Env → Heap → Prop) (Inv:σ → Prop) (Q:σ × Way → AExit → Env → Heap → Prop)
  (hover:∀ x e H,At x e H → Inv x.1 → x.2.over = true → ∃ xx e' H',body e H = .ok (xx,e') H' ∧ xx ≠ .normal ∧ Q x xx e' H')
  (hstep:∀ s y en e H,At (s,y) e H → Inv s → y.over = false → 0 ≤ y.pl → y.pl < 2 ^ 50 → 0 ≤ y.stp → y.stp < 2 ^ 50 → 0 ≤ y.rest → y.rest < 2 ^ 50 → en ∈ m.ents → en = entS m (ln s) (drvW y) →
   ∃ e' H',body e H = .ok (.normal,e') H' ∧ At ((f s y.pl en).1,goS y en ((ln s).length:Int) (f s y.pl en).2.1 (f s y.pl en).2.2) e' H' ∧ Inv (f s y.pl en).1 ∧ (f s y.pl en).2.1 ≤ y.pl + 128 ∧ (f s y.pl en).2.2 ≤ y.pl + 128)
  (s0:σ) {e0:Env} {H0:Heap} (hA:At (s0,⟨0,0,0,0,N,false,0⟩) e0 H0) (hI:Inv s0) :
  ∃ xx e' H',loopN body loopFuel e0 H0 = .ok (xx,e') H' ∧ Q (docRG m ln f N (s0,⟨0,0,0,0,N,false,0⟩)) xx e' H':=by
 generalize hr0:docRG m ln f N (s0,⟨0,0,0,0,N,false,0⟩) = r
 exact loop_up (body:=body) N
  (fun j e H' => ∃ x:σ × Way,At x e H' ∧ Inv x.1 ∧ docRG m ln f (N - j) x = r ∧ WayOk m N j x.2)
  (fun xx e H' => Q r xx e H')
  ⟨_,hA,hI,by rw [Nat.sub_zero]; exact hr0,fun _ => by have:=hm.two; dsimp only; omega⟩ (by omega)
  (fun j e H' hj ⟨x,hA,hI,hd,hnot⟩ => by
   obtain ⟨s,y⟩:=x;dsimp only at hI hnot;cases hov:y.over with
   | true =>
    rw [ζbg _ _ _ _ _ hov] at hd;subst hd;obtain ⟨xx,e',H2,h1,h2,h3⟩:=hover (s,y) e H' hA hI hov;exact .inr ⟨xx,e',H2,h1,h2,h3⟩
   | false =>
    obtain ⟨n1,n2,n3,n4,n5,n6,n7,n8,n9⟩:=hnot hov;have hNj:N - j = (N - (j + 1)) + 1:=by omega
    rw [hNj] at hd;have hd2:docRG m ln f (N - (j + 1)) (docStepG m ln f (s,y)) = r:=by
     rw [← hd];show _ = (if y.over = true then _ else docRG m ln f (N - (j + 1)) (docStepG m ln f (s,y)))
     rw [if_neg (by rw [hov]; simp)]
    unfold docStepG at hd2;dsimp only at hd2;have hmem:=entS_mem hm (ln s) (drvW y) ⟨n8,n9⟩;have hent:=hm.ent _ hmem;obtain ⟨e',H2,h1,h2,h3,h4,h5⟩:=hstep s y _ e H' hA hI hov n4 (by omega) (by omega) (by omega) n6 (by omega) hmem rfl;refine .inl ⟨e',H2,h1,_,h2,h3,hd2,fun hz => ?_⟩;have g:=goS_all y (entS m (ln s) (drvW y)) ((ln s).length:Int) (f s y.pl (entS m (ln s) (drvW y))).2.1 (f s y.pl (entS m (ln s) (drvW y))).2.2 n6;dsimp only at g hz ⊢;obtain ⟨g1,g2,g3,g4,g5,g6,g7,g8⟩:=g;have:=g8 hz;refine ⟨by omega,by omega,by omega,g4,by omega,g6,by omega,by omega,by omega⟩)
  (fun e H' ⟨x,hA,hI,hd,hnot⟩ => by
   rw [Nat.sub_self] at hd;have hd:x = r:=hd;subst hd;have hov:x.2.over = true:=by
    cases h:x.2.over with
    | true => rfl
    | false => have:=hnot h; omega
   exact hover x e H' hA hI hov)
end Go.Sw
end
section
namespace Go.Sw
open Go.RowKit
end Go.Sw
end
section
namespace Go.Sw
open Go.RowKit
end Go.Sw
end
section
namespace Go.Sw
open Go.RowKit
abbrev rmC (r:RMach):List Value:=rmCells r.b r.cl r.rowsAt r.entsAt r.states r.n r.words r.tb r.parts
end Go.Sw
end
section
namespace Go.Sw
open Go.RowKit
theorem ζt2 {b:List Int}:restS b (-1) = none:=by unfold restS; rw [if_neg (by omega)]
end Go.Sw
end
section
namespace Go.Sw
open Go.RowKit
theorem ζ52:∀ l:List Int,rows encI l = l.map (Value.int .i64)
 | [] => rfl
 | a :: l => by rw [List.map_cons,← ζ52 l]; rfl
end Go.Sw
end
section
namespace Go.Sw
open Go.RowKit
end Go.Sw
end
section
namespace Go.Sw
open Go.RowKit
end Go.Sw
end
section
namespace Go.Sw
open Go.RowKit
end Go.Sw
end
section
namespace Go.Sw
open Go.RowKit
end Go.Sw
end
section
namespace Go.Sw
open Go.RowKit
structure CPlan where
 m:Plan
 subs:List (List Int)
def CPlan.ok (p:CPlan):Prop:=(p.m.ok ∧ p.subs.length < 2 ^ 63) ∧ ∀ s,s ∈ p.subs → ∀ n,n ∈ s → 0 ≤ n ∧ n < 65536
def CSmall (p:CPlan) (n:Nat):Prop:=(∀ s,s ∈ p.subs → s.length ≤ 60) ∧ p.m.cls.length ≤ 40 ∧ p.m.rows.length ≤ 20 ∧ p.m.ents.length ≤ 40 ∧ p.subs.length ≤ 20 ∧ n ≤ 60
instance (p:CPlan) (n:Nat):Decidable (CSmall p n):=by unfold CSmall; infer_instance
end Go.Sw
end
section
namespace Go.Sw
open Go.RowKit
end Go.Sw
end
section
namespace Go.Sw
open Go.RowKit
theorem Sl.blk {α:Type} {enc:α → List Value} {H:Heap} {m b:Nat} {k:Blk} (l:List α) (hg:H.get b = some k) (hk:k.cells = rows enc l) (he:∀ x,(enc x).length = m):Sl H m (.slice (some ⟨b,0,none⟩) l.length l.length) enc l :=
 .inr (.inr ⟨b,0,_,_,rfl,Nat.le_refl _,hg,by rw [List.drop_zero,hk,List.take_of_length_le (by rw [ζk he]; exact Nat.le_refl _)]⟩)
end Go.Sw
end
section
namespace Go.Sw
open Go.RowKit
def LPv (H:Heap) (c:Nat) (ob:Option Nat) (v:Value) (ps:List Int):Prop :=
 (ob = none ∧ ps = [] ∧ v = .slice none 0 0) ∨ ∃ b off cap k,ob = some b ∧ b ≠ c ∧ v = .slice (some ⟨b,off,none⟩) ps.length cap ∧ ps.length ≤ cap ∧ H.get b = some k ∧ k.esz = 1 ∧ k.ro = false ∧ off + cap ≤ k.cells.length ∧ (k.cells.drop off).take ps.length = rows encI ps.reverse
theorem LPv.up {H H':Heap} {c:Nat} {ob:Option Nat} {v:Value} {ps:List Int} (h:LPv H c ob v ps) (hk:∀ b,ob = some b → H'.get b = H.get b):LPv H' c ob v ps:=by
 rcases h with h | ⟨b,off,cap,k,h0,h1,h2,h3,h4,h5⟩
 ·exact .inl h
 ·exact .inr ⟨b,off,cap,k,h0,h1,h2,h3,by rw [hk b h0]; exact h4,h5⟩
def itLP (c:Nat) (ob:Option Nat) (ps:List Int):It :=
 ⟨c :: ob.toList,fun H => ∃ v,H.get c = some ⟨[v],1,false⟩ ∧ LPv H c ob v ps,fun H H' ⟨v,h1,h2⟩ hk =>
  ⟨v,by rw [hk c (by simp)]; exact h1,h2.up fun b hb => hk b (by simp [hb])⟩⟩
theorem LPv.len {H:Heap} {c:Nat} {ob:Option Nat} {v:Value} {ps:List Int} (h:LPv H c ob v ps) (H':Heap):lnS v H' = .ok (.int .i64 ps.length) H':=by
 rcases h with ⟨_,rfl,rfl⟩ | ⟨b,off,cap,k,_,_,rfl,_⟩ <;> rfl
theorem LPv.sl {H:Heap} {c:Nat} {ob:Option Nat} {v:Value} {ps:List Int} (h:LPv H c ob v ps):Sl H 1 v encI ps.reverse:=by
 rcases h with ⟨_,rfl,rfl⟩ | ⟨b,off,cap,k,_,_,rfl,h3,h4,_,_,_,h5⟩
 ·exact Sl.nil _ _
 ·exact .inr (.inr ⟨b,off,cap,k,by rw [List.length_reverse],by rw [List.length_reverse]; exact h3,h4,by rw [List.length_reverse,Nat.mul_one]; exact h5⟩)
theorem LPv.pop {H:Heap} {c:Nat} {ob:Option Nat} {v:Value} {i:Int} {ps:List Int} (h:LPv H c ob v (i :: ps)):∃ b off cap,ob = some b ∧ v = .slice (some ⟨b,off,none⟩) (ps.length + 1) cap ∧ (∀ H',(H'.get b).map (fun k => k.esz) = some 1 → slS 1 v none (some (.int .i64 ps.length)) none H' = .ok (.slice (some ⟨b,off,none⟩) ps.length cap) H') ∧ LPv H c ob (.slice (some ⟨b,off,none⟩) ps.length cap) ps:=by
 rcases h with ⟨_,h,_⟩ | ⟨b,off,cap,k,h0,h1,rfl,h3,h4,h5,h6,h7,h8⟩
 ·cases h
 ·rw [List.length_cons] at h3 h8 ⊢;refine ⟨b,off,cap,h0,rfl,fun H' hg => ?_,.inr ⟨b,off,cap,k,h0,h1,rfl,by omega,h4,h5,h6,h7,?_⟩⟩
  ·have hb:boundOf (some (.int .i64 (ps.length:Int))) (ps.length + 1) = some ps.length:=by simp [boundOf]
   unfold slS;dsimp only;rw [hb];simp only [boundOf];have ho:openOk H' b 1 none = true:=by
    unfold openOk;cases hh:H'.get b with
    | none => rw [hh] at hg; cases hg
    | some k' =>
     rw [hh] at hg;have:k'.esz = 1:=by simpa using hg
     simp [this]
   rw [if_pos ⟨by omega,by omega,by omega,by simp⟩,if_pos ho];simp
  ·have:=congrArg (List.take ps.length) h8;rw [ζ52,List.reverse_cons,List.map_append,List.take_take,List.take_left' (by simp),Nat.min_eq_left (by omega)] at this;rw [ζ52];exact this
theorem ζjd (k:Nat) {H0 H:Heap} {L:List It} (g:Star H0 H L) (n:Nat) {c:Nat} {ob:Option Nat} {ps:List Int} (hps:ps.length ≤ 1000) (hi:L[n]? = some (itLP c ob ps)) :
  ∃ H',R (T k) F.ζ2y [ptrV c] H = .ok (.tuple #[.int .i64 (ps.head?.getD 0),.bool (!ps.isEmpty)]) H' ∧ Star H0 H' (L.set n (itLP c ob ps.tail)):=by
 obtain ⟨v,h1,h2⟩:=g.at n hi;rw [ζi4];cases ps with
 | nil =>
  refine ⟨H,nrm_of ?_,?_⟩
  ·have hl:=h2.len;have hl:∀ H',lnS v H' = .ok (.int .i64 0) H':=hl;simp -implicitDefEqProofs (disch:=omega) [ζ2y,h1,hl]
  ·exact g.step n hi (Nat.le_refl _) (fun _ _ _ => rfl) _ ⟨v,h1,h2⟩ fun b hb => .inl hb
 | cons i ps =>
  have hl:=h2.len;have hl:∀ H',lnS v H' = .ok (.int .i64 ((ps.length:Int) + 1)) H':=hl;obtain ⟨p,i1,i2⟩:=h2.sl.ix1 encI_len ps.length i (by rw [List.reverse_cons,List.getElem?_append_right (by simp)]; simp) _ rfl;have i2:=i2 H (Ext.refl _);obtain ⟨b,off,cap,hob,rfl,hs,h3⟩:=h2.pop;have hbk:∃ k',H.get b = some k' ∧ k'.esz = 1 ∧ b ≠ c:=by
   rcases h3 with ⟨_,_,hh⟩ | ⟨b',off',cap',k',e0,e1,e2,e3,e4,e5,_⟩
   ·cases hh
   ·rw [hob] at e0;injection e0 with e0;subst e0;exact ⟨k',e4,e5,e1⟩
  obtain ⟨k',hk',hk1,hbc⟩:=hbk;have hs:=hs H (by rw [hk']; simp [hk1]);have hw:IntKind.i64.wrap (ps.length:Int) = ps.length:=by
   rw [List.length_cons] at hps;exact wrap_i64 (by omega) (by omega)
  refine ⟨H.set c (some ⟨[.slice (some ⟨b,off,none⟩) ps.length cap],1,false⟩),nrm_of ?_,?_⟩
  ·rw [List.length_cons] at hps;have hne:((ps.length:Int) + 1 == 0) = false:=by rw [beq_eq_false_iff_ne]; omega
   simp -implicitDefEqProofs (disch:=omega) [ζ2y,h1,hl,hne,hw,i1,i2,hs]
  ·have hP:(itLP c ob ps).P (H.set c (some ⟨[.slice (some ⟨b,off,none⟩) ps.length cap],1,false⟩)):=⟨_,by rw [Heap.get_set h1,if_pos rfl],h3.up fun b' hb' => by
     rw [hob] at hb';injection hb' with hb';subst hb';rw [Heap.get_set h1,if_neg hbc]⟩
   exact g.step (H':=H.set c (some ⟨[.slice (some ⟨b,off,none⟩) ps.length cap],1,false⟩)) n hi (by simp) (fun d _ hd => by
    rw [Heap.get_set h1,if_neg (fun h => hd (by subst h; simp [itLP]))]) (itLP c ob ps) hP fun d hd => .inl hd
theorem LPv.append {H:Heap} {c:Nat} {ob:Option Nat} {v:Value} {ps:List Int} (h:LPv H c ob v ps) (hl:ps.length ≤ 1000) (hc:c < H.n) (hob:∀ b,ob = some b → b < H.n) (i:Int) :
  ∃ H',apR 1 8 v (.slice (some ⟨H.n,0,none⟩) 1 1) (H.push ⟨[.int .i64 i],1,false⟩) = .ok (.slice (some ⟨H.n + 1,0,none⟩) (ps.length + 1) (ps.length + 1)) H' ∧ H'.n = H.n + 2 ∧ (∀ d,d < H.n → ob ≠ some d → H'.get d = H.get d) ∧
   LPv H' c (some (H.n + 1)) (.slice (some ⟨H.n + 1,0,none⟩) (ps.length + 1) (ps.length + 1)) (i :: ps):=by
 have hf:firstV 1 1 (.slice (some ⟨H.n,0,none⟩) 1 1) (H.push ⟨[.int .i64 i],1,false⟩) = some [.int .i64 i]:=by
  have:=(Sl.first (enc:=encI) (m:=1) encI_len (Sl.blk (enc:=encI) (m:=1) [i] (ζe _ _ _ rfl:(H.push ⟨[.int .i64 i],1,false⟩).get H.n = _) rfl encI_len))
  exact this
 have hlv:lenV (.slice (some ⟨H.n,0,none⟩) 1 1) = some 1:=rfl;rcases h with ⟨rfl,rfl,rfl⟩ | ⟨b,off,cap,k,rfl,h1,rfl,h3,h4,h5,h6,h7,h8⟩
 ·refine ⟨(H.push ⟨[.int .i64 i],1,false⟩).push ⟨[.int .i64 i],1,false⟩,?_,by simp,fun d hd _ => by rw [ζ1x _ _ _ (by simp; omega),ζ1x _ _ _ hd],.inr ⟨H.n + 1,0,1,⟨[.int .i64 i],1,false⟩,rfl,by omega,rfl,by simp,ζe _ _ _ (by simp),rfl,rfl,by simp,rfl⟩⟩;unfold apR;simp only [hlv];unfold appendK;rw [if_neg (by decide),if_pos ⟨by decide,by decide,rfl⟩,hf];rfl
 ·have hb:b < H.n:=hob b rfl;have hg:(H.push ⟨[.int .i64 i],1,false⟩).get b = some k:=by rw [ζ1x _ _ _ hb]; exact h4
  refine ⟨((H.push ⟨[.int .i64 i],1,false⟩).set b none).push ⟨((k.cells.drop off).take (ps.length * 1)) ++ [.int .i64 i],1,false⟩,?_,by simp,fun d hd hne => ?_,.inr ⟨H.n + 1,0,ps.length + 1,⟨((k.cells.drop off).take (ps.length * 1)) ++ [.int .i64 i],1,false⟩,rfl,by omega,rfl,by simp,ζe _ _ _ (by simp),rfl,rfl,?_,?_⟩⟩
  ·unfold apR;simp only [hlv];unfold appendK;rw [if_neg (by decide),if_pos ⟨by omega,by decide,rfl⟩,hf];simp only [hg];rw [if_pos (by simp [h5,h6]; omega)];simp
  ·rw [ζ1x _ _ _ (by simp; omega),ζ29 _ _ _ _ (fun e => hne (by rw [e])),ζ1x _ _ _ hd]
  ·simp;omega
  ·rw [Nat.mul_one,h8,List.drop_zero,List.take_of_length_le (by rw [ζ52]; simp),List.reverse_cons,ζ52,ζ52,List.map_append];rfl
theorem LPv.tail {H:Heap} {c b off m cap:Nat} {l:List Int} (h:LPv H c (some b) (.slice (some ⟨b,off,none⟩) (m + 1) cap) l) (hl:l.length = m + 1) :
  slS 1 (.slice (some ⟨b,off,none⟩) (m + 1) cap) (some (.int .i64 1)) none none H = .ok (.slice (some ⟨b,off + 1,none⟩) m (cap - 1)) H ∧ LPv H c (some b) (.slice (some ⟨b,off + 1,none⟩) m (cap - 1)) (l.take m):=by
 rcases h with ⟨h,_⟩ | ⟨b',off',cap',k,h0,h1,h2,h3,h4,h5,h6,h7,h8⟩
 ·cases h
 ·injection h0 with h0;subst h0;injection h2 with e1 e2 e3;injection e1 with e1;injection e1 with _ e4;subst e3 e4;have hb:boundOf (some (.int .i64 1)) 0 = some 1:=by simp [boundOf]
  refine ⟨?_,.inr ⟨b,off + 1,cap - 1,k,rfl,h1,by rw [List.length_take,Nat.min_eq_left (by omega)],by rw [List.length_take]; omega,h4,h5,h6,by omega,?_⟩⟩
  ·unfold slS;dsimp only;rw [hb];simp only [boundOf];rw [if_pos ⟨by omega,by omega,by omega,by simp⟩,if_pos (by unfold openOk; rw [h4]; simp [h5])];simp
  ·rw [hl] at h8;have:=congrArg (List.drop 1) h8;rw [List.drop_take,List.drop_drop,show m + 1 - 1 = m by omega] at this;rw [List.length_take,Nat.min_eq_left (by omega),this,ζ52,ζ52,List.drop_one];have hne:l ≠ []:=fun h => by rw [h] at hl; simp at hl
   have:l.take m = l.dropLast:=by rw [List.dropLast_eq_take,hl]; rfl
   rw [this,List.map_reverse,List.map_reverse,List.tail_reverse,List.map_dropLast]
set_option maxHeartbeats 1000000 in
theorem ζhv (k:Nat) {H0 H:Heap} {L:List It} (g:Star H0 H L) (n:Nat) {c:Nat} {ob:Option Nat} {ps:List Int} (hps:ps.length ≤ 64) (hi:L[n]? = some (itLP c ob ps)) (i:Int) :
  ∃ ob' H',R (T k) F.ζ1e [ptrV c,.int .i64 i] H = .ok (.tuple #[]) H' ∧ Star H0 H' (L.set n (itLP c ob' (pushP i ps))):=by
 obtain ⟨v,h1,h2⟩:=g.at n hi;have hown:=g.lt n hi;have hcn:=Heap.get_lt h1;have hl:=h2.len;rw [ζhb];have hlast:∀ j,ps.head? = some j → ∃ p,(∀ H',ixS 1 v (.int .i64 ((ps.length:Int) - 1)) H' = .ok p H') ∧ ld1 p H = .ok (.int .i64 j) H:=by
  intro j hj;cases ps with
  | nil => cases hj
  | cons a ps =>
   injection hj with hj;subst hj;obtain ⟨p,i1,i2⟩:=h2.sl.ix1 encI_len ps.length a (by rw [List.reverse_cons,List.getElem?_append_right (by simp)]; simp) _ rfl;exact ⟨p,fun H' => by rw [show (((a :: ps).length:Nat):Int) - 1 = (ps.length:Int) by rw [List.length_cons]; omega]; exact i1 _ _,i2 H (Ext.refl _)⟩
 by_cases hhead:ps.head? = some i
 ·refine ⟨ob,H,nrm_of ?_,?_⟩
  ·obtain ⟨p,i1,i2⟩:=hlast i hhead;have hpos:0 < ps.length:=by
    cases ps with
    | nil => cases hhead
    | cons a ps => rw [List.length_cons]; omega
   simp -implicitDefEqProofs (disch:=omega) [ζ1e,h1,hl,hpos,i1,i2]
  ·have:pushP i ps = ps:=by unfold pushP; rw [if_pos hhead]
   rw [this];exact g.step n hi (Nat.le_refl _) (fun _ _ _ => rfl) _ ⟨v,h1,h2⟩ fun b hb => .inl hb
 ·have hpp:pushP i ps = (i :: ps).take 64:=by unfold pushP; rw [if_neg hhead]
  obtain ⟨H1,e1,hn1,hk1,h3⟩:=h2.append (by omega) hcn (fun b hb => (hown b (by subst hb; simp [itLP])).2) i;have hoc:ob ≠ some c:=by
   rcases h2 with ⟨rfl,_⟩ | ⟨b,_,_,_,rfl,hbc,_⟩
   ·simp
   ·exact fun h => hbc (by injection h)
  have h1':H1.get c = some ⟨[v],1,false⟩:=by rw [hk1 c hcn hoc]; exact h1
  have hs1:(H1.get c).isSome = true:=by rw [h1']; rfl
  have hcne:¬ H.n + 1 = c:=by omega
  have h3':LPv (H1.set c (some ⟨[.slice (some ⟨H.n + 1,0,none⟩) (ps.length + 1) (ps.length + 1)],1,false⟩)) c (some (H.n + 1)) (.slice (some ⟨H.n + 1,0,none⟩) (ps.length + 1) (ps.length + 1)) (i :: ps):=h3.up fun b hb => by
   injection hb with hb;subst hb;exact ζ29 _ _ _ _ hcne
  have hhd:(0 < ps.length) → ∃ j p,(∀ H',ixS 1 v (.int .i64 ((ps.length:Int) - 1)) H' = .ok p H') ∧ ld1 p H = .ok (.int .i64 j) H ∧ (j == i) = false:=fun hp => by
   cases hps':ps with
   | nil => rw [hps'] at hp; simp at hp
   | cons a qs =>
    rw [hps'] at hhead hlast;obtain ⟨p,i1,i2⟩:=hlast a rfl;exact ⟨a,p,i1,i2,by rw [beq_eq_false_iff_ne]; intro h; exact hhead (by rw [h]; rfl)⟩
  have fin:∀ (X:Heap) (w:Value),X.n = H1.n → (∀ d,d < H.n → d ≠ c → X.get d = H1.get d) → (∃ k',X.get c = some ⟨[w],1,false⟩ ∧ k' = w) → LPv X c (some (H.n + 1)) w ((i :: ps).take 64) → Star H0 X (L.set n (itLP c (some (H.n + 1)) (pushP i ps))):=fun X w hXn hX ⟨_,hXc,_⟩ hL => by
   rw [hpp];have hP:(itLP c (some (H.n + 1)) ((i :: ps).take 64)).P X:=⟨w,hXc,hL⟩
   exact g.step (H':=X) n hi (by omega) (fun d hd hdx => by
    have hdc:d ≠ c:=fun h => hdx (by subst h; simp [itLP]);rw [hX d hd hdc,hk1 d hd (fun h => hdx (by rw [h]; simp [itLP]))]) _ hP fun b hb => by
     have hb:b = c ∨ b = H.n + 1:=by simpa [itLP] using hb
     rcases hb with rfl | rfl
     ·exact .inl (by simp [itLP])
     ·exact .inr ⟨by omega,by omega⟩
  have hw1:(i :: ps).length = ps.length + 1:=rfl;by_cases h64:ps.length = 64
  ·rw [h64] at h3' e1;obtain ⟨t1,t2⟩:=h3'.tail (by rw [hw1,h64]);refine ⟨some (H.n + 1),(H1.set c (some ⟨[.slice (some ⟨H.n + 1,0 + 1,none⟩) 64 (64 + 1 - 1)],1,false⟩)),nrm_of ?_,?_⟩
   ·have hp:0 < ps.length:=by omega
    obtain ⟨j,p,i1,i2,hji⟩:=hhd hp;rw [h64] at hl i1;have hl:∀ H',lnS v H' = .ok (.int .i64 64) H':=hl;have i1:∀ H',ixS 1 v (.int .i64 63) H' = .ok p H':=i1;simp -implicitDefEqProofs (disch:=omega) [ζ1e,h1,hl,i1,i2,hji,e1,h1',hs1,t1]
   ·exact fin _ _ (by simp) (fun d hd hdc => ζ29 _ _ _ _ hdc) ⟨_,by rw [ζ6d _ _ _ (by rw [h1']; rfl)],rfl⟩ (t2.up fun b hb => by
     injection hb with hb;subst hb;rw [ζ29 _ _ _ _ hcne,ζ29 _ _ _ _ hcne])
  ·have h65:¬ (ps.length:Int) + 1 > 64:=by omega
   have ht:(i :: ps).take 64 = i :: ps:=List.take_of_length_le (by rw [hw1]; omega);refine ⟨some (H.n + 1),(H1.set c (some ⟨[.slice (some ⟨H.n + 1,0,none⟩) (ps.length + 1) (ps.length + 1)],1,false⟩)),nrm_of ?_,?_⟩
   ·by_cases hp:0 < ps.length
    ·obtain ⟨j,p,i1,i2,hji⟩:=hhd hp;simp -implicitDefEqProofs (disch:=omega) [ζ1e,h1,hl,hp,i1,i2,hji,e1,h1',hs1,h65]
    ·simp -implicitDefEqProofs (disch:=omega) [ζ1e,h1,hl,hp,e1,h1',hs1,h65]
   ·exact fin _ _ (by simp) (fun d hd hdc => ζ29 _ _ _ _ hdc) ⟨_,by rw [ζ6d _ _ _ (by rw [h1']; rfl)],rfl⟩ (by rw [ht]; exact h3')
end Go.Sw
end
section
namespace Go.Sw
open Go.RowKit
theorem ζqf (k:Nat) (b:List Int) (H:Heap):R (T k) F.ζ50 [vwB b] H = .ok (.int .i64 b.length) H:=by
 rw [ζl1];have hx:Ext H (H.push ⟨[lv encB b],1,false⟩):=(Ext.refl H).push _;refine nrm_gc ⟨_,?_,hx⟩ (.int _ _);simp -implicitDefEqProofs (disch:=omega) [ζ50]
theorem ζhu (k:Nat) (b:List Int) (hb:Byt b) (hl:b.length < 2 ^ 31) (i:Int) (H:Heap) :
  R (T k) F.ζ58 [vwB b,.int .i64 i] H = .ok (.tuple #[.int .i64 ((entryS b i).getD 0),.bool (entryS b i).isSome]) H:=by
 rw [ζo0];have hx:Ext H (H.push ⟨[lv encB b],1,false⟩):=(Ext.refl H).push _;have hlen:=fun H' => ζqf k b H';have q1:=fun H => bin_quo Prog 3 H .i64 b.length 2 (by decide);rw [Int.tdiv_eq_ediv_of_nonneg (by omega)] at q1;have fl:∀ n x,Flat (.tuple #[.int .i64 n,.bool x]):=fun n x => Flat.tupleL (l:=[.int .i64 n,.bool x]) (.cons (.int _ _) (.cons (.bool _) .nil));unfold entryS;by_cases c1:i < 0
 ·rw [if_neg (by omega)];refine nrm_gc ⟨_,?_,hx⟩ (fl _ _).alive;simp -implicitDefEqProofs (disch:=omega) [ζ58,c1]
 by_cases c2:i ≥ (b.length:Int) / 2
 ·rw [if_neg (by omega)];refine nrm_gc ⟨_,?_,hx⟩ (fl _ _).alive;simp -implicitDefEqProofs (disch:=omega) [ζ58,c1,hlen,q1,c2]
 rw [if_pos (by omega)];have hu:=fun H' => U16_run k (H:=H') (Sl.lv H' 1 b) hb (2 * i) (by omega);obtain ⟨x,hx2⟩:∃ x,uS b (2 * i) 2 = some x:=uS_of_in (by unfold inS; rw [decide_eq_true_eq]; omega);rw [hx2] at hu;have hg:=gU_some hx2;refine nrm_gc ⟨_,?_,hx⟩ (fl _ _).alive;simp -implicitDefEqProofs (disch:=omega) [ζ58,c1,hlen,q1,c2,hu,orF,hg]
theorem off_shl (P:Program) (t:TypeId) (H:Heap) (a:Int):binR P .shl t (.int .u32 a) (.int .u64 2) H = .ok (.int .u32 (IntKind.u32.wrap (a * 4))) H:=by
 rfl
theorem off_shr (P:Program) (t:TypeId) (H:Heap) (a:Int):binR P .shr t (.int .i64 a) (.int .u64 2) H = .ok (.int .i64 (a / 4)) H:=by
 have h:a / 4 = a.fdiv 4:=(Int.fdiv_eq_ediv_of_nonneg a (by decide)).symm;rw [h];rfl
theorem ζm3 (k:Nat) (a:Int) (h0:0 ≤ a) (h1:a < 4294967296) (H:Heap):R (T k) F.ζ7q [.int .i64 a] H = .ok (.int .i64 (offS a)) H:=by
 rw [ζmz];refine nrm_gc ⟨_,?_,Ext.refl H⟩ (.int _ _);simp -implicitDefEqProofs (disch:=omega) [ζ7q,off_shl,off_shr];unfold offS IntKind.wrap;simp [IntKind.signed,IntKind.bits];split <;> omega
end Go.Sw
end
section
namespace Go.Sw
open Go.RowKit
theorem set_same {L:List It} {i:Nat} {a:It} (h:L[i]? = some a):L.set i a = L:=by
 apply List.ext_getElem?;intro j;by_cases hj:i = j
 ·subst hj;rw [List.getElem?_set_self (List.getElem?_eq_some_iff.1 h).1,h]
 ·rw [List.getElem?_set_ne hj]
end Go.Sw
end
section
namespace Go.Sw
open Go.RowKit
theorem and_high (n:Nat) (h:n < 2 ^ 32):n &&& 3221225472 = n / 1073741824 * 1073741824:=by
 have e:n / 1073741824 * 1073741824 = (n >>> 30) <<< 30:=by rw [Nat.shiftLeft_eq,Nat.shiftRight_eq_div_pow]
 rw [e];apply Nat.eq_of_testBit_eq;intro j;rw [Nat.testBit_and,Nat.testBit_shiftLeft,Nat.testBit_shiftRight,show (3221225472:Nat) = 3 <<< 30 by rfl,Nat.testBit_shiftLeft];by_cases h1:j ≥ 30
 ·rw [show 30 + (j - 30) = j by omega];by_cases h2:j < 32
  ·have:j = 30 ∨ j = 31:=by omega
   have e1:Nat.testBit 3 1 = true:=by decide
   rcases this with rfl | rfl
   ·simp
   ·simp [e1]
  ·rw [Nat.testBit_lt_two_pow (Nat.lt_of_lt_of_le h (Nat.pow_le_pow_right (by decide) (by omega)))];simp
 ·simp [h1]
theorem and3031 (P:Program) (t:TypeId) (H:Heap) {a:Int} (h0:0 ≤ a) (h1:a < 4294967296):binR P .and t (.int .i64 a) (.int .i64 3221225472) H = .ok (.int .i64 (a / 1073741824 * 1073741824)) H:=by
 obtain ⟨n,rfl⟩:=Int.eq_ofNat_of_zero_le h0;have e:(BitVec.ofInt 64 (n:Int) &&& BitVec.ofInt 64 3221225472).toNat = n / 1073741824 * 1073741824:=by
  rw [BitVec.toNat_and,BitVec.toNat_ofInt,BitVec.toNat_ofInt];rw [show (((n:Int)) % ((2 ^ 64:Nat):Int)).toNat = n by omega,show ((3221225472:Int) % ((2 ^ 64:Nat):Int)).toNat = 3221225472 from by decide,and_high n (by omega)]
 have e1:binV P .and t (.int .i64 (n:Int)) (.int .i64 3221225472) = some (.int .i64 (IntKind.i64.wrap (BitVec.ofInt 64 (n:Int) &&& BitVec.ofInt 64 3221225472).toNat)):=rfl;unfold binR;rw [e1,e,wrap_i64 (by omega) (by omega)];rfl
theorem ζso {vs:List Int} (hb:Byt vs) {a:Int} (h0:0 ≤ a) (h:lastB vs a = true):∃ x,uS vs (4 * a) 4 = some x ∧ gU vs (4 * a) 4 = x ∧ 0 ≤ x ∧ x < 4294967296 ∧ 4 * a + 4 ≤ vs.length ∧ (¬ x ≥ 2147483648 → lastB vs (a + 1) = true):=by
 obtain ⟨i,i1,i2,i3⟩:=ζ53.1 h;obtain ⟨x,hx⟩:∃ x,uS vs (4 * a) 4 = some x:=uS_of_in (by unfold inS; rw [decide_eq_true_eq]; omega);have hxb:=uS_four hb hx;refine ⟨x,hx,gU_some hx,hxb.1,hxb.2,by omega,fun hlt => ζ53.2 ⟨i,?_,i2,i3⟩⟩;by_cases hia:(i:Int) = a
 ·rw [hia,gU_some hx] at i3;exact absurd i3 hlt
 ·omega
theorem ζep {l:List Gl} {i:Int} (h:¬ (0 ≤ i ∧ i < l.length)):∀ ks:List Int,joinG l i ks = l
 | [] => rfl
 | k :: ks => by
  have:join1 i l k = l:=by
   unfold join1;split
   ·rw [if_neg h]
   ·rfl
  show joinG (join1 i l k) i ks = l;rw [this];exact ζep h ks
theorem ζjb (l:List Gl) (i:Int) (ks:List Int) (k:Int):joinG l i (ks ++ [k]) = join1 i (joinG l i ks) k:=by unfold joinG; rw [List.foldl_append]; rfl
theorem ζoh (l:List Gl) (ks:List Int) (k:Int):delG l (ks ++ [k]) = setG (delG l ks) k 65535:=by unfold delG; rw [List.foldl_append]; rfl
set_option maxHeartbeats 1000000 in
theorem ζm6 (k:Nat) {H0 H:Heap} {L:List It} (h:Star H0 H L) (il:Nat) {c:Nat} {o:Option Nat} {l:List Gl} (hil:L[il]? = some (itLine c o l)) {s:Value} {ks:List Int} (hv:∀ H' l',Star H0 H' (L.set il (itLine c o l')) → Sl H' 1 s encI ks) (hks:ks.length < 2 ^ 31) (i:Int) :
  ∃ H',R (T k) F.ζ1b [ptrV c,.int .i64 i,s] H = .ok (.tuple #[]) H' ∧ Star H0 H' (L.set il (itLine c o (joinG l i ks))):=by
 have hin:=ζjk k h il hil (Ext.refl H) i;rw [ζjm];by_cases hj:0 ≤ i ∧ i < l.length;rotate_left
 ·rw [ζep hj,set_same hil];rw [decide_eq_false hj] at hin;refine ⟨H,nrm_of ?_,h⟩;simp -implicitDefEqProofs [ζ1b,hin]
 rw [decide_eq_true hj] at hin;obtain ⟨n,rfl⟩:=Int.eq_ofNat_of_zero_le hj.1;have hlt:=(List.getElem?_eq_some_iff.1 hil).1;have hlen:=(hv H l (by rw [set_same hil]; exact h)).len
 obtain ⟨xx,e',H1,hr,rfl,rfl,g⟩:=loop_up (body:=ζ72 k (R (T k))) ks.length
  (fun j e H' => e = [(0,ptrV c),(1,.int .i64 n),(14,s),(15,.int .i64 ks.length),(16,.int .i64 j)] ∧ Star H0 H' (L.set il (itLine c o (joinG l n (ks.take j)))))
  (fun xx e H' => xx = .exit 0 ∧ e = [(0,ptrV c),(1,.int .i64 n),(14,s),(15,.int .i64 ks.length),(16,.int .i64 ks.length),(17,.bool false)] ∧ Star H0 H' (L.set il (itLine c o (joinG l n ks))))
  (e0:=[(0,ptrV c),(1,.int .i64 n),(14,s),(15,.int .i64 ks.length),(16,.int .i64 0)]) (H0:=H) ⟨rfl,by rw [List.take_zero]; show Star H0 H (L.set il (itLine c o l)); rw [set_same hil]; exact h⟩ (by omega)
  (fun j e H' hj2 ⟨he,g⟩ => by
   subst he;have hjl:(j:Int) < ks.length:=by omega
   obtain ⟨x,hx⟩:∃ x,ks[j]? = some x:=⟨_,List.getElem?_eq_getElem hj2⟩
   have hil2:(L.set il (itLine c o (joinG l n (ks.take j))))[il]? = some (itLine c o (joinG l n (ks.take j))):=List.getElem?_set_self hlt;obtain ⟨p,i1,i2⟩:=(hv H' _ g).ix1 encI_len j x hx _ rfl;have i2:=i2 H' (Ext.refl _);have hat:=ζjj k g il hil2 x;have hjn:=ζgp (n:Int) (ks.take j) l;rw [ζ1v hx];have e2:=ζjb l n (ks.take j) x;cases hq:atG (joinG l n (ks.take j)) x with
   | none =>
    rw [hq] at hat;have:joinG l n (ks.take j ++ [x]) = joinG l n (ks.take j):=by rw [e2]; unfold join1; rw [hq]
    rw [this];refine .inl ⟨_,H'.push ⟨[.int .i64 0,.int .i64 0],1,false⟩,?_,rfl,g.rest ((Ext.refl _).push _)⟩;rw [ζ4p];simp -implicitDefEqProofs (disch:=omega) [hjl,i1,i2,hat,encA,ζg7]
   | some q =>
    rw [hq] at hat;have gp:=g.push ⟨encG q,1,false⟩;have hil3:(L.set il (itLine c o (joinG l n (ks.take j))) ++ [itBlk H'.n ⟨encG q,1,false⟩])[il]? = some (itLine c o (joinG l n (ks.take j))):=by rw [List.getElem?_append_left (by simpa using hlt)]; exact hil2
    obtain ⟨y,hy⟩:∃ y,(joinG l n (ks.take j))[n]? = some y:=⟨_,List.getElem?_eq_getElem (by omega)⟩
    obtain ⟨_,s3,h1,h2⟩:=gp.box il hil3;simp at h1;obtain ⟨b,rfl,hs,hb,ix⟩:=h2.ix .i64 n (by omega);have l1:=ld1_row encG_len hb (i:=n) (c:=1) hy (by decide) rfl;obtain ⟨H3,e3,g3,_⟩:=gp.stBox il hil3 encG_len (c:=1) (n:=1) (⟨y.id,min y.cl q.cl⟩:Gl) (v:=.int .i64 (min y.cl q.cl)) hy rfl rfl (by decide) rfl;have hcn:¬ c = H'.n:=by
     have:=(g.lt il hil2 c (by simp [itLine,itBox])).2;omega
    have hfin:joinG l n (ks.take j ++ [x]) = (joinG l n (ks.take j)).set n ⟨y.id,min y.cl q.cl⟩:=by
     rw [e2];unfold join1;rw [hq];dsimp only;rw [if_pos ⟨by omega,by omega⟩,Int.toNat_natCast,ζjq _ _ _ _ hy]
    have hmin:(if q.cl < y.cl then q.cl else y.cl) = min y.cl q.cl:=by rw [Int.min_def]; split <;> split <;> omega
    refine .inl ⟨_,H3,?_,rfl,?_⟩
    ·rw [ζ4p];have gq:(H'.push ⟨encG q,1,false⟩).get H'.n = some ⟨encG q,1,false⟩:=ζe _ _ _ rfl;rw [if_neg hcn] at h1;simp -implicitDefEqProofs (disch:=omega) [-stR_ptr,stR_ptr 2 H'.n 0,-ld1_ptr,ld1_ptr H'.n 1,ld1_ptr c 0,hjl,i1,i2,hat,encA,h1,ix,l1,hmin,e3,gq,ζg6,hcn]
    ·rw [hfin];rw [List.set_append_left _ _ (by simpa using hlt),List.set_set] at g3;exact g3.ζgg)
  (fun e H' ⟨he,g⟩ => by
   subst he;rw [List.take_length] at g;refine ⟨.exit 0,_,H',?_,by simp,rfl,rfl,g⟩;rw [ζ4p];simp -implicitDefEqProofs)
 refine ⟨H1,nrm_of ?_,g⟩;simp -implicitDefEqProofs [ζ1b,hin,hlen,hr,ζew]
theorem ζn0 (k:Nat) {H0 H:Heap} {L:List It} (h:Star H0 H L) (il ir:Nat) (hne:il ≠ ir) {c:Nat} {o:Option Nat} {l:List Gl} (hil:L[il]? = some (itLine c o l)) {og:Option Nat} {s:Value} {ks:List Int} (hir:L[ir]? = some (itRow og 1 s encI ks)) (hks:ks.length < 2 ^ 31) (i:Int) :
  ∃ H',R (T k) F.ζ1b [ptrV c,.int .i64 i,s] H = .ok (.tuple #[]) H' ∧ Star H0 H' (L.set il (itLine c o (joinG l i ks))) :=
 ζm6 k h il hil (fun _ _ g => (g.row ir (by rw [List.getElem?_set_ne hne]; exact hir)).sl encI_len) hks i
set_option maxHeartbeats 1000000 in
theorem ζm4 (k:Nat) (t:LTab) (ht:t.ok) {H0 H:Heap} {L:List It} (h:Star H0 H L) (il ir:Nat) (hne:il ≠ ir) {c:Nat} {o:Option Nat} {l:List Gl} (hil:L[il]? = some (itLine c o l)) {og:Option Nat} {s:Value} {ks:List Int} (hir:L[ir]? = some (itRow og 1 s encI ks)) (hks:ks.length < 2 ^ 31) (i sum:Int) :
  ∃ H',R (T k) F.ζ1r [ligaV t,ptrV c,.int .i64 i,.int .i64 sum,s] H = .ok (.bool (entryS t.ligs sum).isSome) H' ∧ Star H0 H' (L.set il (itLine c o (match entryS t.ligs sum with | some id => storeG l i id ks | none => l))):=by
 have hen:=fun H' => ζhu k t.ligs ht.byt.2.2 ht.len.2.2 sum H';have hlt:=(List.getElem?_eq_some_iff.1 hil).1;rw [ζha];cases he:entryS t.ligs sum with
 | none =>
  rw [he] at hen;refine ⟨H,nrm_of ?_,by dsimp only; rw [set_same hil]; exact h⟩;simp -implicitDefEqProofs (disch:=omega) [ζ1r,hen]
 | some id =>
  rw [he] at hen;obtain ⟨H1,e1,g⟩:=ζjl k h il hil i id;have hir2:(L.set il (itLine c o (setG l i id)))[ir]? = some (itRow og 1 s encI ks):=by rw [List.getElem?_set_ne hne]; exact hir
  obtain ⟨H2,e2,g⟩:=ζn0 k g il ir hne (List.getElem?_set_self hlt) hir2 hks i;rw [List.set_set] at g;have hlen:=(h.row ir hir).len
  obtain ⟨xx,e',H3,hr,rfl,rfl,g⟩:=loop_up (body:=ζ57 k (R (T k))) ks.length
   (fun j e H' => e = [(1,ptrV c),(34,s),(35,.int .i64 ks.length),(36,.int .i64 j)] ∧ Star H0 H' (L.set il (itLine c o (delG (joinG (setG l i id) i ks) (ks.take j)))))
   (fun xx e H' => xx = .exit 0 ∧ e = [(1,ptrV c),(34,s),(35,.int .i64 ks.length),(36,.int .i64 ks.length),(37,.bool false)] ∧ Star H0 H' (L.set il (itLine c o (delG (joinG (setG l i id) i ks) ks))))
   (e0:=[(1,ptrV c),(34,s),(35,.int .i64 ks.length),(36,.int .i64 0)]) (H0:=H2) ⟨rfl,g⟩ (by omega)
   (fun j e H' hj2 ⟨he,g⟩ => by
    subst he;have hjl:(j:Int) < ks.length:=by omega
    obtain ⟨x,hx⟩:∃ x,ks[j]? = some x:=⟨_,List.getElem?_eq_getElem hj2⟩
    have hir2:(L.set il (itLine c o (delG (joinG (setG l i id) i ks) (ks.take j))))[ir]? = some (itRow og 1 s encI ks):=by rw [List.getElem?_set_ne hne]; exact hir
    obtain ⟨p,i1,i2⟩:=((g.row ir hir2).sl encI_len).ix1 encI_len j x hx _ rfl;have i2:=i2 H' (Ext.refl _);obtain ⟨H4,e4,g4⟩:=ζjl k g il (List.getElem?_set_self hlt) x 65535;rw [List.set_set,← ζoh,← ζ1v hx] at g4;refine .inl ⟨_,H4,?_,rfl,g4⟩;rw [ζ6e];simp -implicitDefEqProofs (disch:=omega) [hjl,i1,i2,e4])
   (fun e H' ⟨he,g⟩ => by
    subst he;rw [List.take_length] at g;refine ⟨.exit 0,_,H',?_,by simp,rfl,rfl,g⟩;rw [ζ6e];simp -implicitDefEqProofs)
  refine ⟨H3,nrm_of ?_,g⟩;simp -implicitDefEqProofs (disch:=omega) [ζ1r,hen,e1,e2,hlen,hr,ζaz]
end Go.Sw
end
