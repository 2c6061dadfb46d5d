/-
  Functions' forms, and what is proved of them, part 3.
-/
import Derived.Test.YtanfippcmdialaaGreatSwW2
import Derived.Test.YtanfippcmdialaaGreatSwCfg
import Derived.Test.YtanfippcmdialaaGreatSwLib9
set_option linter.unusedSimpArgs false
set_option linter.unusedVariables false
set_option linter.unusedSectionVars false
section
namespace Go.Sw
open Go.RowKit
theorem D6r:∀ {ps:List Pt},P9 ps=true↔∀ (i:Nat) (p q:Pt),ps[i]?=some p→ps[i+1]?=some q→p.last<q.first
 | []=>by simp[P9]
 | [a]=>by simp[P9]
 | a :: b :: l=>by
  have ih:=D6r (ps:=b :: l);simp only[P9,Bool.and_eq_true,decide_eq_true_eq,ih];constructor
  ·intro ⟨h1,h2⟩ i p q hp hq;cases i with
   | zero=>simp at hp hq; subst hp hq; exact h1
   | succ i=>exact h2 i p q (by simpa using hp) (by simpa using hq)
  ·intro h;exact⟨h 0 a b (by simp) (by simp),fun i p q hp hq=>h (i+1) p q (by simpa using hp) (by simpa using hq)⟩
abbrev W4(x:Int × List Pt):Value:=boxV #[.int .i64 x.1,lv V6 x.2]
theorem D3.tab(x:Int × List Pt):D3 (W4 x):=.boxV (l:=[.int .i64 x.1,Go.Sw.lv V6 x.2]) (.cons (.int _ _) (.cons (D3.Pts _) .nil))
theorem B4g (k:Nat) {H0 H:A2} (p:Nat) (fmt:Int) (s:Value) (ps:List Pt) (hp:H0.n≤p) (hx:Ext H0 H) (hg:H.get p=some ⟨[.int .i64 fmt,s],1,false⟩) (hlen:ps.length<2 ^ 31)
  (hs:s=lv V6 ps∨ps.length=1∧∃ a c,s=.slice a 1 c) (hf:∃ L,fzV H0.n H 7 s=some (lv V6 ps,L)) :
  Cp K7 (Ext H0) (A94 k (R (T k)) (.pointer (some ⟨p,0,none⟩)) H) (if P9 ps then some (fmt,ps) else none) fun x v H'=>∃ L,fzV H0.n H' N9 v=some (W4 x,L):=by
 have hln:∀ H',lnS s H'=.ok (.int .i64 ps.length) H':=fun H'=>by
  rcases hs with rfl | ⟨h,a,c,rfl⟩
  ·rfl
  ·rw[h]; rfl
 have hfp:∃ L,fzV H0.n H N9 (.pointer (some ⟨p,0,none⟩))=some (W4 (fmt,ps),L):=by
  obtain ⟨L,hL⟩:=hf;have hlt:Nat.blt p H0.n=false:=by
   cases hb:Nat.blt p H0.n with
   | false=>rfl
   | true=>have:=Nat.le_of_ble_eq_true hb; omega
  refine⟨p :: ([]++(L++[])),?_⟩;show fzV H0.n H 8 _=_;unfold fzV;dsimp only;rw[hlt,cond_false,hg];show (bif false || !Nat.ble 0 2 then none else (V0 (fzV H0.n H 7) [.int .i64 fmt,s]).map fun r=>(boxV r.1.toArray,p :: r.2))=_;rw[show (false || !Nat.ble 0 2)=false from rfl,cond_false,A1k (u:=.int .i64 fmt) (L1:=[]) rfl (A1k hL (L2:=[]) rfl)];rfl
 rw[G2w];obtain⟨N,hN⟩:∃ N,N=max 1 ps.length:=⟨_,rfl⟩
 rcases A5j (body:=D5n k (R (T k))) N
  (fun j e H'=>1≤j∧H'=H∧e=[(8,.pointer (some ⟨p,0,none⟩)),(10,.int .i64 j)]∧∀ (i:Nat) (x y:Pt),i+1<j→ps[i]?=some x→ps[i+1]?=some y→x.last<y.first)
  (fun x e H'=>H'=H∧x=.exit 1∧(∃ a,e=[(8,.pointer (some ⟨p,0,none⟩)),(10,a),(93,.bool false)])∧P9 ps=true)
  (fun v H'=>v=K7∧H'=H∧P9 ps=false)
  (fun j e H' hj ⟨h1,hH,he,hall⟩=>by
   subst hH he;have hjl:j<ps.length:=by omega
   obtain⟨y,hy⟩:∃ y,ps[j]?=some y:=⟨_,List.getElem?_eq_getElem hjl⟩
   obtain⟨x,hx'⟩:∃ x,ps[j - 1]?=some x:=⟨_,List.getElem?_eq_getElem (by omega)⟩
   rcases hs with rfl | ⟨h,_⟩
   rotate_left
   ·omega
   have hlt:(j:Int)<ps.length:=by omega
   have i1:=fun H'=>S0 B5h ps .i64 j y hy H';have i2:=fun H'=>A34 B5h ps .i64 ((j:Int) - 1) x (by omega) (by rw[show ((j:Int) - 1).toNat=j - 1 by omega]; exact hx') H';rw[E2o];by_cases hxy:x.last<y.first
   ·refine .inl ⟨_,H',by simp -implicitDefEqProofs(disch:=omega) [hg,hlt,i1,i2,hxy,D26],by omega,rfl,rfl,fun i a b hi ha hb=>?_⟩;by_cases hij:i+1=j
    ·subst hij;simp only[Nat.add_sub_cancel] at hx';rw[hx'] at ha; rw[hy] at hb;injection ha with ha; injection hb with hb;subst ha hb;exact hxy
    ·exact hall i a b (by omega) ha hb
   ·refine .inr (.inr ⟨K7,H',by simp -implicitDefEqProofs(disch:=omega) [hg,hlt,i1,i2,hxy,D1u],rfl,rfl,?_⟩);cases hr:P9 ps with
    | false=>rfl
    | true=>exact absurd (D6r.1 hr (j - 1) x y hx' (by rw[show j - 1+1=j by omega]; exact hy)) hxy)
  (fun e H' ⟨h1,hH,he,hall⟩=>by
   subst hH he;have hge:¬ (N:Int)<ps.length:=by omega
   rw[E2o];refine .inl ⟨.exit 1,_,H',by simp -implicitDefEqProofs(disch:=omega) [hg,hln,hge],by simp,rfl,rfl,⟨.int .i64 N,rfl⟩,?_⟩;refine D6r.2 fun i x y hx hy=>hall i x y ?_ hx hy;have:=(List.getElem?_eq_some_iff.1 hy).1;omega)
  B8 1 [(8,.pointer (some ⟨p,0,none⟩)),(10,.int .i64 1)] H (by omega) (by unfold B8; omega) ⟨by omega,rfl,rfl,fun i x y h=>by omega⟩ with⟨x,e',H',hr,rfl,rfl,⟨a,rfl⟩,hri⟩ | ⟨v,H',hr,rfl,rfl,hri⟩
 ·rw[hr,hri];simp only[Res.bind_ok,G1k,if_true];exact .ok hx hfp
 ·rw[hr,hri];exact .throw hx
theorem E3m (k:Nat) {H:A2} {v:Value} {b:List Int} (hv:Sl H 1 v B7 b) (hb:Byt b) (g z:Int) (hg1:1≤g) (hg2:g≤65535) (hz:z=2∨z=4) (hl:b.length<2 ^ 31) :
  R (T k) F.A6i [.agg #[v],.int .i64 g,.int .i64 z] H=orF (A17 b g z) W4 H:=by
 rw [G5j];have hx0:Ext H (H.push ⟨[v],1,false⟩):=(Ext.refl H).push _;have hx1:Ext H ((H.push ⟨[v],1,false⟩).push ⟨[v,.int .i64 g,.int .i64 z],1,false⟩):=hx0.push _;have hst:=hv.storable;have hce:=hv.cells;refine A3p ?_ fun x _=>(D3.tab x).alive;simp -implicitDefEqProofs(disch:=omega) [A6i,hst,hce];unfold A17;refine Cp.call (S5 k (hv.up hx1) hb 0 (by omega)) hx1 fun fmt hfmt=>?_;have hfmt:=K8 hb hfmt;have hx2:Ext H (((H.push ⟨[v],1,false⟩).push ⟨[v,.int .i64 g,.int .i64 z],1,false⟩).push ⟨[.int .i64 fmt,.slice none 0 0],1,false⟩):=hx1.push _;have fin:∀ ps:List Pt,ps.length<2 ^ 31→Cp K7 (Ext H) (A94 k (R (T k)) (.pointer (some ⟨H.n+2,0,none⟩)) (((H.push ⟨[v],1,false⟩).push ⟨[v,.int .i64 g,.int .i64 z],1,false⟩).push ⟨[.int .i64 fmt,lv V6 ps],1,false⟩)) (if P9 ps then some (fmt,ps) else none) fun x v H'=>∃ L,fzV H.n H' N9 v=some (W4 x,L):=fun ps hps=>
  B4g k _ fmt _ ps (by omega) (hx1.push _) (ζd _ _ _ (by simp)) hps (.inl rfl) ⟨_,rfl⟩
 by_cases h0:fmt=0
 ·subst h0;simp -implicitDefEqProofs(disch:=omega);unfold A04;rw[if_pos rfl,Option.bind_map];refine Cp.call (A82 k (hv.up hx2) hb 2 g z (by omega) hl) hx2 fun vs hvs=>?_;simp -implicitDefEqProofs(disch:=omega);have hx3:Ext H ((((H.push ⟨[v],1,false⟩).push ⟨[v,.int .i64 g,.int .i64 z],1,false⟩).push ⟨[.int .i64 0,.slice (some ⟨H.n+3,0,none⟩) 1 1],1,false⟩).push ⟨[.int .i64 0,.int .i64 (g - 1),lv N3 vs],3,false⟩):=(hx1.push _).push _;refine B4g k (H.n+2) 0 (.slice (some ⟨H.n+3,0,none⟩) 1 1) [⟨0,g - 1,vs⟩] (by omega) hx3 (by rw[A65 _ _ _ (by simp),ζd _ _ _ (by simp)]) (by simp) (.inr ⟨rfl,_,_,rfl⟩) ?_;exact Own.freeze (l:=[⟨0,g - 1,vs⟩]) B5h (.inr ⟨H.n+3,rfl,by omega,by rw[ζd _ _ _ (by simp)]; rfl⟩) (E40 _) 5
 have h0':(fmt == 0)=false:=by simpa using h0
 have segl:∀ {each ps},B1n b z each=some ps→ps.length<2 ^ 31:=fun {each ps} h=>by
  obtain⟨rows,h1,h2⟩:=Option.bind_eq_some_iff.1 h;obtain⟨_,n,_,hn,_,hlen,_⟩:=B0l hb h1;have:=K8 hb hn;have:=U5 h2;omega
 by_cases h2:fmt=2
 ·subst h2;simp -implicitDefEqProofs(disch:=omega);unfold A04;rw[if_neg h0,if_pos rfl];refine Cp.call (E3r k (hv.up hx2) hb (.int .i64 g) z hz false hl) hx2 fun ps hps=>?_;simp -implicitDefEqProofs(disch:=omega);exact fin ps (segl hps)
 have h2':(fmt == 2)=false:=by simpa using h2
 by_cases h4:fmt=4
 ·subst h4;simp -implicitDefEqProofs(disch:=omega);unfold A04;rw[if_neg h0,if_neg h2,if_pos rfl];refine Cp.call (E3r k (hv.up hx2) hb (.int .i64 g) z hz true hl) hx2 fun ps hps=>?_;simp -implicitDefEqProofs(disch:=omega);exact fin ps (segl hps)
 have h4':(fmt == 4)=false:=by simpa using h4
 by_cases h6:fmt=6
 ·subst h6;simp -implicitDefEqProofs(disch:=omega);unfold A04;rw[if_neg h0,if_neg h2,if_neg h4,if_pos rfl];refine Cp.call (G92 k (hv.up hx2) hb (.int .i64 g) z hz hl) hx2 fun ps hps=>?_;simp -implicitDefEqProofs(disch:=omega);refine fin ps ?_;obtain⟨rows,h1,h2⟩:=Option.bind_eq_some_iff.1 hps;obtain⟨_,n,_,hn,_,hlen,_⟩:=B0l hb h1;have:=K8 hb hn;have:=U5 h2;omega
 have h6':(fmt == 6)=false:=by simpa using h6
 have triml:∀ {i z ps},A44 b i z=some ps→ps.length<2 ^ 31:=fun {i z ps} h=>by
  obtain⟨f,_,h⟩:=Option.bind_eq_some_iff.1 h;obtain⟨n,_,h⟩:=Option.bind_eq_some_iff.1 h;split at h
  ·obtain⟨vs,_,rfl⟩:=Option.map_eq_some_iff.1 h;split <;> simp
  ·cases h
 by_cases h8:fmt=8
 ·subst h8;simp -implicitDefEqProofs(disch:=omega);unfold A04;rw[if_neg h0,if_neg h2,if_neg h4,if_neg h6,if_pos rfl];refine Cp.call (E4j k (hv.up hx2) hb (.int .i64 g) (.int .i64 z) 2 z (by omega) hl (by omega)) hx2 fun ps hps=>?_;simp -implicitDefEqProofs(disch:=omega);exact fin ps (triml hps)
 have h8':(fmt == 8)=false:=by simpa using h8
 by_cases h10:fmt=10
 ·subst h10;simp -implicitDefEqProofs(disch:=omega);unfold A04;rw[if_neg h0,if_neg h2,if_neg h4,if_neg h6,if_neg h8,if_pos rfl,Option.bind_assoc];refine Cp.call (S5 k (hv.up hx2) hb 2 (by omega)) hx2 fun u hu=>?_;by_cases hu4:u=1∨u=2∨u=4
  ·rw[if_pos hu4];have hb4:(R (T k) F.A37 [.bool true] (((H.push ⟨[v],1,false⟩).push ⟨[v,.int .i64 g,.int .i64 z],1,false⟩).push ⟨[.int .i64 10,.slice none 0 0],1,false⟩))=.ok (.tuple #[]) _:=D26 k _;have ht:=fun ps hps=>triml (i:=4) (z:=u) (ps:=ps) hps;rcases hu4 with rfl | rfl | rfl <;>
   ·simp -implicitDefEqProofs(disch:=omega) [hb4];refine Cp.call (E4j k (hv.up hx2) hb (.int .i64 g) (.int .i64 z) 4 _ (by omega) hl (by omega)) hx2 fun ps hps=>?_;simp -implicitDefEqProofs(disch:=omega);exact fin ps (ht ps hps)
  ·rw[if_neg hu4];have e1:(u == 1)=false:=by simp; omega
   have e2:(u == 2)=false:=by simp; omega
   have e3:(u == 4)=false:=by simp; omega
   simp -implicitDefEqProofs(disch:=omega) [e1,e2,e3,D1u];exact .throw hx2
 have h10':(fmt == 10)=false:=by simpa using h10
 simp -implicitDefEqProofs(disch:=omega) [h0',h2',h4',h6',h8',h10'];unfold A04;rw[if_neg h0,if_neg h2,if_neg h4,if_neg h6,if_neg h8,if_neg h10];exact .throw hx2
theorem D0x {short:TypeId} {call:A8} {args:List Value} {H:A2} {v:Value} {H':A2}:tryV short call args H≠.panic v H':=by
 unfold tryV;split
 ·rename_i g f c;cases call g (f.toList++c.toList) H with
  | stuck=>simp[Res.bindP]
  | ok a H=>simp[Res.bindP]
  | panic a H=>
   simp only[Res.bindP];split
   ·rename_i t xs;cases Nat.beq t short && Nat.beq xs.size 0 <;> simp
   ·simp
 ·simp
theorem D2k(k:Nat)(f:Value)(H:A2):R (T k) F.A46 [f] H=tryV B03 (R (T k)) [f] H :=
 ((B5t (t:=T k) (A1g k) (s:=tryV B03) (by kernel_rfl) [f] H).trans (by
  show nrm Mode.no H _=_;cases h:tryV B03 (R (T k)) [f] H with
  | ok a H=>rfl
  | stuck=>rfl
  | panic a H=>exact absurd h D0x))
theorem B5y(k:Nat)(g:FuncId)(cap:Array Value){H H':A2}{v:Value}(h:R (T k) g cap.toList H=.ok v H'):R (T k) F.A46 [.func (.func g) #[] cap] H=.ok (.bool true) H':=by
 rw[D2k];unfold tryV;simp[h,Res.bindP]
theorem B5x(k:Nat)(g:FuncId)(cap:Array Value){H H':A2}(h:R (T k) g cap.toList H=.panic K7 H'):R (T k) F.A46 [.func (.func g) #[] cap] H=.ok (.bool false) H':=by
 rw[D2k];unfold tryV;simp[h,Res.bindP]
theorem D2z(k:Nat)(p:Pt)(hp:p.ok)(id:Int)(hf:p.first≤id)(hi:id≤p.last)(H:A2):R (T k) F.B4z [.agg #[.int .i64 p.first,.int .i64 p.last,lv N3 p.vals],.int .i64 id] H=.ok (.int .i64 ((p.num id).getD 0)) H:=by
 rw[G3l];obtain⟨x,hx,_⟩:=Pt.num_some hp hf;obtain⟨h1,h2,h3,h4,h5,h6⟩:=hp;have hl:0<p.vals.length:=List.length_pos_iff.2 h4;refine D8 ⟨_,?_,(Ext.refl H).push ⟨[.int .i64 p.first,.int .i64 p.last,lv N3 p.vals],1,false⟩⟩ (.int _ _);unfold Pt.num at hx ⊢;obtain⟨m,hm⟩:∃ m:Int,m=(if (p.vals.length:Int) - 1<id - p.first then (p.vals.length:Int) - 1 else id - p.first):=⟨_,rfl⟩
 have hm2:min (id - p.first) ((p.vals.length:Int) - 1)=m:=by rw[hm]; split <;> omega
 rw[hm2] at hx ⊢;have hm0:0≤m:=by rw[hm]; split <;> omega
 have hix:=fun H'=>A34 N0 p.vals .i64 m x hm0 hx H';simp only[hx,Option.getD_some];simp -implicitDefEqProofs(disch:=omega) [B4z,← hm,hix]
theorem G6g(k:Nat){H:A2}(x:Int × List Pt)(id:Int)(p1 p2:Nat)(h1:H.get p1=some ⟨[W4 x],1,false⟩)(h2:H.get p2=some ⟨[.int .i64 id],1,false⟩)(j:Nat)(p:Pt)(hj:x.2[j]?=some p) :
  R (T k) F.B2v [.int .i64 j,.pointer (some ⟨p1,0,none⟩),.pointer (some ⟨p2,0,none⟩)] H=.ok (.bool (decide (id≤p.last))) H:=by
 rw[G06];refine D8 (A0t.of ?_) (.bool _);have i1:=fun H'=>S0 B5h x.2 .i64 j p hj H';simp -implicitDefEqProofs(disch:=omega) [B2v,h1,h2,i1]
theorem A9h (k:Nat) (x:Int × List Pt) (hok:∀ p,p ∈ x.2→p.ok) (hr:P9 x.2=true) (id:Int) (hl:x.2.length<2 ^ 31) (H:A2) :
  R (T k) F.A91 [W4 x,.int .i64 id] H=.ok (.tuple #[.int .i64 ((A28 x.2 id).getD 0),.bool (A28 x.2 id).isSome]) H:=by
 rw [G1j];obtain⟨fmt,ps⟩:=x;dsimp only at hok hr hl ⊢;have hx:Ext H ((H.push ⟨[W4 (fmt,ps)],1,false⟩).push ⟨[.int .i64 id],1,false⟩):=((Ext.refl H).push _).push _;have hmono:∀ i j:Nat,i≤j→j<ps.length→(ps[i]?).elim false (fun p=>decide (id≤p.last))=true→(ps[j]?).elim false (fun p=>decide (id≤p.last))=true:=by
  intro i j hij hj hi;by_cases he:i=j
  ·subst he; exact hi
  ·obtain⟨p,hp⟩:∃ p,ps[i]?=some p:=⟨_,List.getElem?_eq_getElem (by omega)⟩
   obtain⟨q,hq⟩:∃ q,ps[j]?=some q:=⟨_,List.getElem?_eq_getElem hj⟩
   have h1:=D22 hr hok i j p q (by omega) hp hq;have h2:=(hok q (List.mem_of_getElem? hq)).2.1;rw[hp] at hi;rw[hq];simp at hi ⊢;omega
 obtain⟨i,hfi⟩:=G8f ps.length (fun j=>(ps[j]?).elim false fun p=>decide (id≤p.last)) hmono
 have hfirst:=G9g k ps.length (.func (.func F.B2v) #[] #[.pointer (some ⟨H.n,0,none⟩),.pointer (some ⟨H.n+1,0,none⟩)]) (fun j=>(ps[j]?).elim false fun p=>decide (id≤p.last)) ((H.push ⟨[W4 (fmt,ps)],1,false⟩).push ⟨[.int .i64 id],1,false⟩) (by omega)
  (fun j hj=>by
   obtain⟨p,hp⟩:∃ p,ps[j]?=some p:=⟨_,List.getElem?_eq_getElem hj⟩
   have:=G6g k (H:=(H.push ⟨[W4 (fmt,ps)],1,false⟩).push ⟨[.int .i64 id],1,false⟩) (fmt,ps) id H.n (H.n+1) (by simp) (by simp) j p hp;simp only[callV,List.nil_append,List.cons_append];rw[hp];simpa using this)
  hmono i hfi
 rw[G8c id i hfi];have hle:=hfi.1;by_cases hil:i<ps.length
 ·obtain ⟨p,hp⟩:∃ p,ps[i]?=some p:=⟨_,List.getElem?_eq_getElem hil⟩
  have hpok:=hok p (List.mem_of_getElem? hp);have hne:((i:Int) == (ps.length:Int))=false:=by simp; omega
  have i1:=fun H'=>S0 B5h ps .i64 i p hp H';have hlast:id≤p.last:=by
   have:=hfi.2.2 i (Nat.le_refl _) hil;simp only[hp] at this;simpa using this
  rw[hp];by_cases hf:p.first≤id
  ·have hgt:¬ p.first>id:=by omega
   obtain⟨y,hy,_⟩:=Pt.num_some hpok hf;have hat:=D2z k p hpok id hf hlast ((H.push ⟨[W4 (fmt,ps)],1,false⟩).push ⟨[.int .i64 id],1,false⟩);refine D8 ⟨_,?_,hx⟩ (D3.tupleL (l:=[_,_]) (.cons (.int _ _) (.cons (.bool _) .nil))).alive;simp only[Option.bind_some,if_pos hf];rw[hy] at hat ⊢;simp -implicitDefEqProofs(disch:=omega) [A91,hfirst,hne,i1,hgt,hat]
  ·have hgt:p.first>id:=by omega
   refine D8 ⟨_,?_,hx⟩ (D3.tupleL (l:=[_,_]) (.cons (.int _ _) (.cons (.bool _) .nil))).alive;simp only[Option.bind_some,if_neg hf];simp -implicitDefEqProofs(disch:=omega) [A91,hfirst,hne,i1,hgt]
 ·have e:i=ps.length:=by omega
  subst e;refine D8 ⟨_,?_,hx⟩ (D3.tupleL (l:=[_,_]) (.cons (.int _ _) (.cons (.bool _) .nil))).alive;simp -implicitDefEqProofs(disch:=omega) [A91,hfirst]
theorem A8t{b:List Int}{i n:Int}{r:List Int}:E1 b i n=some r↔(0≤i∧0≤n∧i≤b.length∧n≤b.length - i)∧r=(b.drop i.toNat).take n.toNat:=by
 unfold E1;split
 ·rename_i h;constructor
  ·intro e; injection e with e; exact⟨h,e.symm⟩
  ·rintro ⟨_,rfl⟩; rfl
 ·rename_i h;constructor
  ·intro e; cases e
  ·rintro ⟨h',_⟩; exact absurd h' h
theorem B2n{b r:List Int}{p z:Int}(h:E1 b p z=some r){x y:Int}(hx:0≤x)(hy:0≤y)(hxy:x+y≤z):uS r x y=uS b (p+x) y:=by
 obtain⟨⟨h1,h2,h3,h4⟩,rfl⟩:=A8t.1 h;have hl:((b.drop p.toNat).take z.toNat).length=z.toNat:=by simp; omega
 unfold uS;rw[A8t.2 ⟨by rw[hl]; omega,rfl⟩,A8t.2 ⟨by omega,rfl⟩,List.drop_take,List.take_take,List.drop_drop];rw[show min y.toNat (z.toNat - x.toNat)=y.toNat by omega,show p.toNat+x.toNat=(p+x).toNat by omega]
theorem B3g{b:List Int}{i n z:Int}{r:List Int}(hz:0<z):S1 b i n z=some r↔(0≤i∧0≤n∧i≤b.length∧n*z≤b.length - i)∧r=(b.drop i.toNat).take (n*z).toNat:=by
 unfold S1;have k:n≤(b.length:Int) / z↔n*z≤b.length:=Int.le_ediv_iff_mul_le hz;split
 ·rename_i h;rw[A8t];constructor
  ·rintro ⟨h1,h2⟩; exact⟨⟨h1.1,h.1,h1.2.2.1,h1.2.2.2⟩,h2⟩
  ·rintro ⟨h1,h2⟩; exact⟨⟨h1.1,Int.mul_nonneg h.1 (by omega),h1.2.2.1,h1.2.2.2⟩,h2⟩
 ·rename_i h;constructor
  ·intro e; cases e
  ·rintro ⟨h1,_⟩;exact absurd ⟨h1.2.1,by omega,.inr (k.2 (by omega))⟩ h
theorem B29{s i n z:Int}(hz:0<z):U9 s i n z=true↔0≤i∧0≤n∧i≤s∧n*z≤s - i:=by
 unfold U9;have k:n≤(s - i) / z↔n*z≤s - i:=Int.le_ediv_iff_mul_le hz;rw[decide_eq_true_eq,k];constructor
 ·rintro ⟨h1,h2,h3,h4,h5⟩; exact⟨h1,h2,h4,by rcases h5 with h5 | h5 <;> omega⟩
 ·rintro ⟨h1,h2,h3,h4⟩; exact⟨h1,h2,by omega,h3,.inr h4⟩
theorem B8r{b:List Int}{i n z:Int}(hz:0<z):(X0 b i n z).isSome=U9 b.length i n z:=by
 rw[Bool.eq_iff_iff,B29 hz,X0,Option.isSome_map,Option.isSome_iff_exists];constructor
 ·rintro ⟨r,hr⟩; exact ((B3g hz).1 hr).1
 ·intro h; exact⟨_,(B3g hz).2 ⟨h,rfl⟩⟩
theorem D72{b:List Int}{i n z:Int}{vs:List Int}(hz:0<z)(h:X0 b i n z=some vs)(j:Nat)(hj:(j:Int)<n):vs[j]?=uS b (i+j*z) z:=by
 unfold X0 at h;obtain⟨r,hr,rfl⟩:=Option.map_eq_some_iff.1 h;obtain⟨⟨h1,h2,h3,h4⟩,rfl⟩:=(B3g hz).1 hr;obtain⟨i,rfl⟩:=Int.eq_ofNat_of_zero_le h1;obtain⟨n,rfl⟩:=Int.eq_ofNat_of_zero_le h2;obtain⟨z,rfl⟩:=Int.eq_ofNat_of_zero_le (Int.le_of_lt hz);have hj':j<n:=by omega
 have e:j*z+z≤n*z:=by
  rw[← Nat.succ_mul]; exact Nat.mul_le_mul_right _ hj'
 have h4':n*z≤b.length - i:=by omega
 simp only[Int.toNat_natCast];rw[List.getElem?_map,B0i _ _ _ _ hj',Option.map_some];unfold uS;rw[A8t.2 ⟨⟨by omega,by omega,by
  have:((j*z:Nat):Int)=(j:Int)*z:=by simp
  omega,by
  have:((j*z:Nat):Int)=(j:Int)*z:=by simp
  omega⟩,rfl⟩,Option.map_some]
 congr 2;rw[show ((n:Int)*z).toNat=n*z by rw[← Int.natCast_mul,Int.toNat_natCast],show ((i:Int)+j*z).toNat=i+j*z by rw[← Int.natCast_mul,← Int.natCast_add,Int.toNat_natCast],Int.toNat_natCast];rw[List.drop_take,List.take_take,List.drop_drop,Nat.mul_comm z j];rw[show min z (n*z - j*z)=z by omega]
theorem J0v{b:List Int}{i:Int}{n z:Nat}{r:List Int}(h:S1 b i n z=some r){j:Nat}(hj:j<n):E1 b (i+z*j) z=some ((r.drop (z*j)).take z):=by
 have hn:=A4d h;obtain⟨i',hi'⟩:=Int.eq_ofNat_of_zero_le hn.2.2.1;have e:z*j+z≤n*z:=by
  rw[← Nat.mul_succ,Nat.mul_comm]; exact Nat.mul_le_mul_right _ (by omega)
 have e1:((z*j:Nat):Int)=(z:Int)*j:=by simp
 have e2:((n*z:Nat):Int)=(n:Int)*z:=by simp
 rw[A8t];refine⟨⟨by omega,by omega,by omega,by omega⟩,?_⟩;rw[hn.2.2.2.2.2,hi',show ((n:Int)*z).toNat=n*z by rw[← e2,Int.toNat_natCast],show ((i':Int)+z*j).toNat=i'+z*j by rw[← e1,← Int.natCast_add,Int.toNat_natCast]];simp only[Int.toNat_natCast];rw[List.drop_take,List.take_take,List.drop_drop];rw[show min z (n*z - z*j)=z by omega]
theorem B9c {b:List Int} {i need:Int} {keys:Nat} {rows:List (List Int)} (h:P7 b i need keys=some rows) :
  ∃ z n:Int,uS b i 2=some z∧uS b (i+2) 2=some n∧need≤z∧0≤z∧(rows.length:Int)≤n∧∀ (j:Nat) row,rows[j]?=some row→E1 b (i+10+z*j) z=some row:=by
 unfold P7 at h;split at h
 ·rename_i z n h1 h2;split at h
  ·rename_i hc;obtain⟨r,hr,rfl⟩:=Option.map_eq_some_iff.1 h;have hn:=A4d hr;refine⟨z,n,h1,h2,hc.2,hn.2.1,?_,fun j row hrow=>?_⟩
   ·unfold N5;split <;> simp <;> omega
   ·have hm:(U4 r z.toNat n.toNat)[j]?=some row:=by
     unfold N5 at hrow;split at hrow
     ·have hlt:=(List.getElem?_eq_some_iff.1 hrow).1;simp at hlt;rw[B0i _ _ _ _ (by omega)] at hrow;rw[B0i _ _ _ _ (by omega)];exact hrow
     ·exact hrow
    have hlt:=(List.getElem?_eq_some_iff.1 hm).1;simp at hlt;rw[B0i _ _ _ _ (by omega)] at hm;injection hm with hm;obtain⟨z',rfl⟩:=Int.eq_ofNat_of_zero_le hn.2.1;obtain⟨n',rfl⟩:=Int.eq_ofNat_of_zero_le hn.1;obtain⟨i',hi'⟩:=Int.eq_ofNat_of_zero_le hn.2.2.1;simp only[Int.toNat_natCast] at hlt hm;have e:z'*j+z'≤n'*z':=by
     rw[← Nat.mul_succ,Nat.mul_comm]; exact Nat.mul_le_mul_right _ (by omega)
    have e1:((z'*j:Nat):Int)=(z':Int)*j:=by simp
    have e2:((n'*z':Nat):Int)=(n':Int)*z':=by simp
    rw[A8t];refine⟨⟨by omega,by omega,by omega,by omega⟩,?_⟩;rw[← hm,hn.2.2.2.2.2,hi',show ((n':Int)*z').toNat=n'*z' by rw[← e2,Int.toNat_natCast],show ((i':Int)+z'*j).toNat=i'+z'*j by rw[← e1,← Int.natCast_add,Int.toNat_natCast]];simp only[Int.toNat_natCast];rw[List.drop_take,List.take_take,List.drop_drop];rw[show min z' (n'*z' - z'*j)=z' by omega]
  ·cases h
 ·cases h
def gU(b:List Int)(i n:Int):Int:=(uS b i n).getD (-1)
theorem X7{b:List Int}(hb:Byt b)(i:Int):-1≤gU b i 2∧gU b i 2<65536:=by
 unfold gU;cases h:uS b i 2 with
 | none=>simp
 | some x=>have:=K8 hb h; simp; omega
structure RP where
 first:Int
 last:Int
 pos:Int
 size:Int
 step:Int
def A3f(i z:Int)(n:Nat):List Int:=(List.range n).map fun j=>i+10+z*(j:Nat)
theorem A2s(i z:Int)(n j:Nat)(h:j<n):(A3f i z n)[j]?=some (i+10+z*j):=by simp[A3f,h]
@[simp] theorem A3y(i z:Int)(n:Nat):(A3f i z n).length=n:=by simp[A3f]
def A5w(b:List Int)(z:Int)(each:Bool)(p:Int):Option RP :=
 if each then (if U9 b.length (gU b (p+4) 2) (gU b p 2 - gU b (p+2) 2+1) z then some ⟨gU b (p+2) 2,gU b p 2,gU b (p+4) 2,z,z⟩ else none)
 else some ⟨gU b (p+2) 2,gU b p 2,p+4,z,0⟩
def A1j(b:List Int)(z:Int)(each:Bool):Option (List RP) :=
 (P7 b 2 (if each then 6 else 4+z) 2).bind fun rows=>M6 (A5w b z each) (A3f 2 (gU b 2 2) rows.length)
def A9z(b:List Int)(z:Int)(p:Int):RP:=⟨gU b p 2,gU b p 2,p+2,z,0⟩
def A4c(b:List Int)(z:Int):Option (List RP) :=
 (P7 b 2 (2+z) 1).map fun rows=>(A3f 2 (gU b 2 2) rows.length).map (A9z b z)
def A18(b:List Int)(i z:Int):Option (List RP) :=
 (uS b i 2).bind fun f=>(uS b (i+2) 2).bind fun n=>
  if f+n≤65536∧U9 b.length (i+4) n z=true then some (if n=0 then [] else [⟨f,f+n - 1,i+4,z,z⟩]) else none
def A09(b:List Int)(glyphs z fmt:Int):Option (List RP) :=
 if fmt=0 then (if U9 b.length 2 glyphs z then some [⟨0,glyphs - 1,2,z,z⟩] else none) else
 if fmt=2 then A1j b z false else
 if fmt=4 then A1j b z true else
 if fmt=6 then A4c b z else
 if fmt=8 then A18 b 2 z else
 if fmt=10 then (uS b 2 2).bind fun u=>if u=1∨u=2∨u=4 then A18 b 4 u else none
 else none
def A08:List RP→Bool
 | []=>true
 | [r]=>decide (r.first≤r.last)
 | r :: q :: l=>decide (r.first≤r.last) && decide (r.last<q.first) && A08 (q :: l)
def V9(b:List Int)(glyphs z:Int):Option (List RP) :=
 (A09 b glyphs z (gU b 0 2)).bind fun rs=>if A08 rs then some rs else none
def A0k(b:List Int)(rs:List RP)(id:Int):Option Int :=
 (rs.find? fun r=>decide (r.first≤id∧id≤r.last)).map fun r=>gU b (r.pos+(id - r.first)*r.step) r.size
def PR(b:List Int)(p:Pt)(r:RP):Prop:=p.first=r.first∧p.last=r.last∧(∀ id,r.first≤id→id≤r.last→p.num id=uS b (r.pos+(id - r.first)*r.step) r.size)∧((r.step=0∧p.vals.length=1)∨(r.step≠0∧(p.vals.length:Int)=r.last - r.first+1))
def Rel(b:List Int):List Pt→List RP→Prop
 | [],[]=>True
 | p :: ps,r :: rs=>PR b p r∧Rel b ps rs
 | _,_=>False
def Bad(rs:List RP):Prop:=∃ r,r ∈ rs∧r.last<r.first
theorem Bad.good {rs:List RP} (h:Bad rs):A08 rs=false:=by
 obtain⟨r,hr,hlt⟩:=h
 induction rs with
 | nil=>cases hr
 | cons a l ih=>
  rcases List.mem_cons.1 hr with rfl | hr
  ·cases l with
   | nil=>simp[A08]; omega
   | cons q l=>simp only[A08,Bool.and_eq_false_iff,decide_eq_false_iff_not]; exact .inl (.inl (by omega))
  ·have:=ih hr;cases l with
   | nil=>cases hr
   | cons q l=>simp only[A08,this,Bool.and_false]
theorem A87 {b:List Int} {f:List Int→Option Pt} {g:Int→Option RP}:∀ (rows:List (List Int)) (ps:List Int),rows.length=ps.length →
  (∀ (j:Nat) row p,rows[j]?=some row→ps[j]?=some p→(∀ x,f row=some x→∃ r,g p=some r∧PR b x r)∧(f row=none→g p=none∨∃ r,g p=some r∧r.last<r.first)) →
  (∀ xs,M6 f rows=some xs→∃ rs,M6 g ps=some rs∧Rel b xs rs)∧(M6 f rows=none→∀ rs,M6 g ps=some rs→Bad rs)
 | [],[],_,_=>⟨fun xs h=>⟨[],rfl,by injection h with h; subst h; trivial⟩,fun h=>by cases h⟩
 | [],_ :: _,h,_=>by simp at h
 | _ :: _,[],h,_=>by simp at h
 | row :: rows,p :: ps,h,hs=>by
  have h0:=hs 0 row p (by simp) (by simp);have ih:=A87 rows ps (by simpa using h) fun j r q h1 h2=>hs (j+1) r q (by simpa using h1) (by simpa using h2);constructor
  ·intro xs hx;simp only[M6] at hx;obtain⟨x,e1,hx⟩:=Option.bind_eq_some_iff.1 hx;obtain⟨xs',e2,rfl⟩:=Option.map_eq_some_iff.1 hx;obtain⟨r,g1,p1⟩:=h0.1 x e1;obtain⟨rs,g2,p2⟩:=ih.1 xs' e2;exact⟨r :: rs,by simp[M6,g1,g2],p1,p2⟩
  ·intro hn rs hr;simp only[M6] at hr;obtain⟨r,e1,hr⟩:=Option.bind_eq_some_iff.1 hr;obtain⟨rs',e2,rfl⟩:=Option.map_eq_some_iff.1 hr;cases hf:f row with
   | none=>
    rcases h0.2 hf with h1 | ⟨r',h1,h2⟩
    ·rw[h1] at e1; cases e1
    ·rw[h1] at e1; injection e1 with e1; subst e1;exact⟨r',by simp,h2⟩
   | some x=>
    simp only[M6,hf,Option.bind_some,Option.map_eq_none_iff] at hn;obtain⟨q,hq,hlt⟩:=ih.2 hn rs' e2;exact⟨q,by simp[hq],hlt⟩
theorem E65{α β:Type}(f:α→β):∀ l:List α,M6 (fun x=>some (f x)) l=some (l.map f)
 | []=>rfl
 | x :: l=>by simp[M6,E65 f l]
theorem L8{b:List Int}{i n x:Int}(h:uS b i n=some x):gU b i n=x:=by unfold gU; rw[h]; rfl
theorem A2f{b row:List Int}{p z:Int}(h:E1 b p z=some row){x:Int}(hx:0≤x){y:Int}(hy:0≤y)(hxy:x+y≤z):uS row x y=uS b (p+x) y∧∃ n,uS b (p+x) y=some n:=by
 refine⟨B2n h hx hy hxy,?_⟩;obtain⟨⟨h1,h2,h3,h4⟩,_⟩:=A8t.1 h;unfold uS;rw[A8t.2 ⟨by omega,rfl⟩];exact⟨_,rfl⟩
theorem A81{b:List Int}{i f l z:Int}{vs:List Int}(hz:0<z)(h:X0 b i (l - f+1) z=some vs)(hlen:(vs.length:Int)=l - f+1):PR b ⟨f,l,vs⟩ ⟨f,l,i,z,z⟩:=by
 refine⟨rfl,rfl,fun id h1 h2=>?_,.inr ⟨by dsimp only; omega,hlen⟩⟩;dsimp only at h1 h2 ⊢;unfold Pt.num;dsimp only;rw[hlen,show min (id - f) (l - f+1 - 1)=id - f by omega];have:=D72 hz h (id - f).toNat (by omega);rw[this];congr 2;rw[show (((id - f).toNat:Nat):Int)=id - f by omega]
theorem D0p {b row:List Int} {p z s:Int} {each:Bool} (hb:Byt b) (hz:z=2∨z=4) (hrow:E1 b p s=some row) (hs:(if each then 6 else 4+z)≤s) :
  (∀ x,A8z b z each row=some x→∃ r,A5w b z each p=some r∧PR b x r)∧(A8z b z each row=none→A5w b z each p=none∨∃ r,A5w b z each p=some r∧r.last<r.first):=by
 have hs6:6≤s:=by cases each <;> simp at hs <;> omega
 obtain⟨e2,f,hf⟩:=A2f hrow (x:=2) (y:=2) (by omega) (by omega) (by omega);obtain⟨e0,l,hl⟩:=A2f hrow (x:=0) (y:=2) (by omega) (by omega) (by omega);obtain⟨e4,a,ha⟩:=A2f hrow (x:=4) (y:=2) (by omega) (by omega) (by omega);rw[Int.add_zero] at e0 hl;unfold A8z A5w;rw[e2,e0,hf,hl,L8 hf,L8 hl];simp only[Option.bind_some];cases each with
 | false=>
  simp at hs;obtain⟨ez,x,hx⟩:=A2f hrow (x:=4) (y:=z) (by omega) (by omega) (by omega);simp only[Bool.false_eq_true,if_false];by_cases h:f≤l
  ·rw[if_pos h,ez,hx];refine⟨fun y hy=>?_,fun hn=>by cases hn⟩;injection hy with hy;subst hy;refine⟨_,rfl,rfl,rfl,fun id h1 h2=>?_,.inl ⟨rfl,rfl⟩⟩;dsimp only at h1 h2 ⊢;rw[Int.mul_zero,Int.add_zero,hx];unfold Pt.num;simp;rw[show (min (id - f) 0).toNat=0 by omega];rfl
  ·rw[if_neg h];exact⟨fun y hy=>(by cases hy),fun _=>.inr ⟨_,rfl,by dsimp only; omega⟩⟩
 | true=>
  simp only[if_true];rw[e4,ha,L8 ha];simp only[Option.bind_some];have hbl:=B8r (b:=b) (i:=a) (n:=l - f+1) (z:=z) (by omega);by_cases h:f≤l
  ·rw [if_pos h];cases hv:X0 b a (l - f+1) z with
   | none=>
    rw[hv] at hbl;rw[if_neg (by rw[← hbl]; simp)];exact⟨fun y hy=>(by cases hy),fun _=>.inl rfl⟩
   | some vs=>
    rw[hv] at hbl;rw[if_pos (by rw[← hbl]; rfl)];refine⟨fun y hy=>?_,fun hn=>by cases hn⟩;injection hy with hy;subst hy;exact⟨_,rfl,A81 (by omega) hv (B5c hb (by omega) hv).2.1⟩
  ·rw[if_neg h];refine⟨fun y hy=>(by cases hy),fun _=>?_⟩;split
   ·exact .inr ⟨_,rfl,by dsimp only; omega⟩
   ·exact .inl rfl
def A6m(b:List Int)(o:Option (List Pt))(q:Option (List RP)):Prop:=(∀ xs,o=some xs→∃ rs,q=some rs∧Rel b xs rs)∧(o=none→∀ rs,q=some rs→Bad rs)
theorem A6m.none{b:List Int}:A6m b none none:=⟨fun xs h=>(by cases h),fun _ rs h=>by cases h⟩
theorem A6m.one{b:List Int}{p:Pt}{r:RP}(h:PR b p r):A6m b (some [p]) (some [r]):=⟨fun xs h'=>⟨_,rfl,by injection h' with h'; subst h'; exact⟨h,trivial⟩⟩,fun h=>by cases h⟩
theorem B1p{b:List Int}(hb:Byt b){z:Int}(hz:z=2∨z=4)(each:Bool):A6m b (B1n b z each) (A1j b z each):=by
 unfold B1n A1j;cases h:P7 b 2 (if each then 6 else 4+z) 2 with
 | none=>exact .none
 | some rows=>
  obtain⟨s,n,h1,h2,h3,h4,h5,h6⟩:=B9c h;simp only[Option.bind_some];rw[L8 h1];refine A87 rows _ (by simp) fun j row p hr hp=>?_;have hlt:=(List.getElem?_eq_some_iff.1 hr).1;rw[A2s _ _ _ _ hlt] at hp;injection hp with hp;subst hp;exact D0p hb hz (h6 j row hr) h3
theorem B7a{b:List Int}{z:Int}(hz:z=2∨z=4):A6m b (B4m b z) (A4c b z):=by
 unfold B4m A4c;cases h:P7 b 2 (2+z) 1 with
 | none=>exact .none
 | some rows=>
  obtain⟨s,n,h1,h2,h3,h4,h5,h6⟩:=B9c h;simp only[Option.bind_some,Option.map_some];rw[L8 h1,← E65];refine A87 rows _ (by simp) fun j row p hr hp=>?_;have hlt:=(List.getElem?_eq_some_iff.1 hr).1;rw[A2s _ _ _ _ hlt] at hp;injection hp with hp;subst hp;have hp:=h6 j row hr;obtain⟨e0,f,hf⟩:=A2f hp (x:=0) (y:=2) (by omega) (by omega) (by omega);obtain⟨e2,x,hx⟩:=A2f hp (x:=2) (y:=z) (by omega) (by omega) (by omega);rw[Int.add_zero] at e0 hf;unfold B4l A9z;rw[e0,e2,hf,hx,L8 hf];refine⟨fun y hy=>?_,fun hn=>by cases hn⟩;simp at hy;subst hy;refine⟨_,rfl,rfl,rfl,fun id h1 h2=>?_,.inl ⟨rfl,rfl⟩⟩;dsimp only at h1 h2 ⊢;rw[Int.mul_zero,Int.add_zero,hx];unfold Pt.num;simp;rw[show (min (id - f) 0).toNat=0 by omega];rfl
theorem E6j {b:List Int} (hb:Byt b) {i z:Int} (hz:z=1∨z=2∨z=4):A6m b (A44 b i z) (A18 b i z):=by
 unfold A44 A18;cases h1:uS b i 2 with
 | none=>exact .none
 | some f=>
  cases h2:uS b (i+2) 2 with
  | none=>exact .none
  | some n=>
   simp only[Option.bind_some];have hbl:=B8r (b:=b) (i:=i+4) (n:=n) (z:=z) (by omega);by_cases h:f+n≤65536
   ·rw [if_pos h];cases hv:X0 b (i+4) n z with
    | none=>
     rw[hv] at hbl;rw[if_neg (by rw[← hbl]; simp)];exact .none
    | some vs=>
     rw[hv] at hbl;rw[if_pos ⟨h,by rw[← hbl]; rfl⟩];simp only[Option.map_some];by_cases h0:n=0
     ·rw[if_pos h0,if_pos h0];exact⟨fun xs hx=>⟨[],rfl,by injection hx with hx; subst hx; trivial⟩,fun h=>by cases h⟩
     ·rw[if_neg h0,if_neg h0];have hlen:=(B5c hb (by omega) hv).2.1;exact .one (A81 (by omega) (by rw[show f+n - 1 - f+1=n by omega]; exact hv) (by omega))
   ·rw[if_neg h,if_neg (fun hc=>h hc.1)];exact .none
theorem J0i {b:List Int} (hb:Byt b) {g z:Int} (fmt:Int) (hz:z=2∨z=4):A6m b (A04 b g z fmt) (A09 b g z fmt):=by
 unfold A04 A09;split
 ·have hbl:=B8r (b:=b) (i:=2) (n:=g) (z:=z) (by omega);cases hv:X0 b 2 g z with
  | none=>
   rw[hv] at hbl;rw[if_neg (by rw[← hbl]; simp)];exact .none
  | some vs=>
   rw[hv] at hbl;rw[if_pos (by rw[← hbl]; rfl)];have hlen:=(B5c hb (by omega) hv).2.1;exact .one (A81 (by omega) (by rw[show g - 1 - 0+1=g by omega]; exact hv) (by omega))
 split
 ·exact B1p hb hz false
 split
 ·exact B1p hb hz true
 split
 ·exact B7a hz
 split
 ·exact E6j hb (by omega)
 split
 ·cases h:uS b 2 2 with
  | none=>exact .none
  | some u=>
   simp only[Option.bind_some];by_cases hu:u=1∨u=2∨u=4
   ·rw[if_pos hu,if_pos hu]; exact E6j hb hu
   ·rw[if_neg hu,if_neg hu]; exact .none
 ·exact .none
theorem Rel.good{b:List Int}:∀ {ps:List Pt} {rs:List RP},Rel b ps rs→(∀ p,p ∈ ps→p.ok)→A08 rs=P9 ps
 | [],[],_,_=>rfl
 | [],_ :: _,h,_=>by cases h
 | _ :: _,[],h,_=>by cases h
 | [p],[r],h,hok=>by
  have h1:=(hok p (by simp)).2.1;have h2:=h.1;rw[h2.1,h2.2.1] at h1;simp[A08,P9,h1]
 | [p],_ :: _ :: _,h,_=>by cases h.2
 | _ :: _ :: _,[_],h,_=>by cases h.2
 | p :: p' :: ps,r :: r' :: rs,h,hok=>by
  have ih:=Rel.good (ps:=p' :: ps) (rs:=r' :: rs) h.2 fun q hq=>hok q (by simp at hq ⊢; exact .inr hq);have h1:=(hok p (by simp)).2.1;have h2:=h.1;have h3:=h.2.1;rw[h2.1,h2.2.1] at h1;rw[← h2.2.1] at h1;simp only[A08,P9,ih,← h2.2.1,← h3.1,decide_eq_true h1,Bool.true_and]
theorem A5h {b:List Int} (hb:Byt b) {g z:Int} (h1:1≤g) (h2:g≤65535) (hz:z=2∨z=4) :
  (∀ x,A17 b g z=some x→∃ rs,V9 b g z=some rs∧Rel b x.2 rs)∧(A17 b g z=none→V9 b g z=none):=by
 unfold A17 V9;cases h:uS b 0 2 with
 | none=>
  have:gU b 0 2 = -1:=by unfold gU; rw[h]; rfl
  rw[this];exact⟨fun x hx=>(by cases hx),fun _=>rfl⟩
 | some fmt=>
  rw[L8 h];have hr:=J0i hb (g:=g) fmt hz;simp only[Option.bind_some];cases hp:A04 b g z fmt with
  | none=>
   refine⟨fun x hx=>by simp at hx,fun _=>?_⟩;cases hq:A09 b g z fmt with
   | none=>rfl
   | some rs=>
    have:=(hr.2 hp rs hq).good;simp[this]
  | some ps=>
   obtain⟨rs,hq,hrel⟩:=hr.1 ps hp;have hg:=hrel.good (E6d hb h1 h2 hz hp);rw[hq];simp only[Option.bind_some,hg];cases P9 ps with
   | true=>exact⟨fun x hx=>by simp at hx; subst hx; exact⟨rs,rfl,hrel⟩,fun hn=>by simp at hn⟩
   | false=>exact⟨fun x hx=>by simp at hx,fun _=>rfl⟩
theorem A9r {b:List Int} {id:Int}:∀ {ps:List Pt} {rs:List RP},Rel b ps rs→(∀ p,p ∈ ps→p.ok)→P9 ps=true→A28 ps id=A0k b rs id
 | [],[],_,_,_=>rfl
 | [],_ :: _,h,_,_=>by cases h
 | _ :: _,[],h,_,_=>by cases h
 | p :: ps,r :: rs,h,hok,hr=>by
  have hp:=hok p (by simp);have hrs:P9 ps=true:=by
   cases ps with
   | nil=>rfl
   | cons q l=>simp only[P9,Bool.and_eq_true] at hr; exact hr.2
  have ih:=A9r (id:=id) h.2 (fun q hq=>hok q (by simp[hq])) hrs;obtain⟨e1,e2,e3,_⟩:=h.1;unfold A28 A0k at ih ⊢;rw[List.find?_cons,List.find?_cons];by_cases hl:id≤p.last
  ·rw [decide_eq_true hl];dsimp only;rw[Option.bind_some];by_cases hf:p.first≤id
   ·rw[if_pos hf,decide_eq_true (by rw[← e1,← e2]; exact⟨hf,hl⟩)];dsimp only;rw[Option.map_some];obtain⟨x,hx,_⟩:=Pt.num_some hp hf;have:=e3 id (by rw[← e1]; exact hf) (by rw[← e2]; exact hl);rw[hx] at this ⊢;rw[L8 this.symm]
   ·rw [if_neg hf,decide_eq_false (by rw[← e1]; exact fun hc=>hf hc.1)];dsimp only;rw[← ih];cases hfd:ps.find? (fun p=>decide (id≤p.last)) with
    | none=>rfl
    | some q=>
     have hq:=List.mem_of_find?_eq_some hfd;obtain⟨j,hj⟩:=List.getElem?_of_mem hq;have:=D22 hr hok 0 (j+1) p q (by omega) (by simp) (by simpa using hj);rw[Option.bind_some,if_neg (by have:=hp.2.1; omega)]
  ·rw[decide_eq_false hl,decide_eq_false (by rw[← e2]; exact fun hc=>hl hc.2)];exact ih
def D4(n:Int):Nat→List Int
 | 0=>[]
 | k+1=>(n / 256 ^ k) % 256 :: D4 n k
@[simp] theorem B25(n:Int):∀ k,(D4 n k).length=k
 | 0=>rfl
 | k+1=>by simp[D4,B25 n k]
theorem ζy(n:Int):∀ k,Byt (D4 n k)
 | 0=>fun x hx=>by simp[D4] at hx
 | k+1=>fun x hx=>by
  simp only[D4,List.mem_cons] at hx;rcases hx with rfl | hx
  ·omega
  ·exact ζy n k x hx
theorem B77 (x:Int) (l:List Int):num (x :: l)=x*256 ^ l.length+num l:=by
 have h:∀ (l:List Int) (a:Int),l.foldl (fun x y=>256*x+y) a=a*256 ^ l.length+l.foldl (fun x y=>256*x+y) 0:=by
  intro l
  induction l with
  | nil=>intro a; simp
  | cons y l ih=>
   intro a;simp only[List.foldl_cons,List.length_cons];rw[ih,ih (256*0+y),Int.pow_succ];simp only[Int.mul_zero,Int.zero_add,Int.add_mul];rw[Int.mul_comm 256 a,Int.mul_assoc a 256,Int.mul_comm 256 (256 ^ l.length)];omega
 unfold num;rw[List.foldl_cons,h];simp
theorem B48 (n:Int):∀ k,num (D4 n k)=n % 256 ^ k
 | 0=>by simp[D4,num,Int.emod_one]
 | k+1=>by
  rw [D4,B77,B48 n k,B25,Int.pow_succ];have h1:=Int.emod_add_mul_ediv n (256 ^ k);have h2:=Int.emod_add_mul_ediv (n / 256 ^ k) 256;have hp:(0:Int)<256 ^ k:=Int.pow_pos (by decide);have h3:n % (256 ^ k*256)=n - 256 ^ k*256*(n / (256 ^ k*256)):=by
   have:=Int.emod_add_mul_ediv n (256 ^ k*256);omega
  rw[h3,← Int.ediv_ediv_of_nonneg (Int.le_of_lt hp),Int.mul_assoc];generalize n / 256 ^ k / 256=d at h2 ⊢;generalize n / 256 ^ k=c at h1 h2 ⊢;generalize (256:Int) ^ k=p at *;have h4:c % 256=c - 256*d:=by omega
  rw[h4,Int.sub_mul];have:p*(256*d)=256*d*p:=Int.mul_comm _ _;have:p*c=c*p:=Int.mul_comm _ _;omega
theorem G74{n:Int}{k:Nat}(h0:0≤n)(h1:n<256 ^ k):num (D4 n k)=n:=by
 rw[B48,Int.emod_eq_of_lt h0 h1]
theorem J0j(p m q:List Int)(i k:Int)(hi:i=p.length)(hk:k=m.length):E1 (p++(m++q)) i k=some m:=by
 subst hi hk;rw[A8t];refine⟨⟨by omega,by omega,by simp; omega,by simp; omega⟩,?_⟩;simp
theorem A6r(p q:List Int){n:Int}{k:Nat}(i z:Int)(hi:i=p.length)(hz:z=k)(h0:0≤n)(h1:n<256 ^ k):uS (p++(D4 n k++q)) i z=some n:=by
 unfold uS;rw[J0j p (D4 n k) q i z hi (by simpa using hz),Option.map_some,G74 h0 h1]
theorem Byt.app{a b:List Int}(ha:Byt a)(hb:Byt b):Byt (a++b):=fun x hx=>by
 rcases List.mem_append.1 hx with h | h
 ·exact ha x h
 ·exact hb x h
theorem Byt.flat{l:List (List Int)}(h:∀ r,r ∈ l→Byt r):Byt l.flatten:=fun x hx=>by
 obtain⟨r,hr,hx⟩:=List.mem_flatten.1 hx;exact h r hr x hx
theorem Byt.nil:Byt []:=fun x hx=>by cases hx
theorem A3o{z:Nat}:∀ {rs:List (List Int)},(∀ r,r ∈ rs→r.length=z)→rs.flatten.length=rs.length*z
 | [],_=>by simp
 | r :: rs,h=>by
  have h1:=h r (by simp);have h2:=A3o (rs:=rs) fun q hq=>h q (by simp[hq]);simp only[List.flatten_cons,List.length_append,List.length_cons,h1,h2,Nat.succ_mul];omega
structure Pr where
 id:Int
 x:Int
def Pr.ok(p:Pr):Prop:=0≤p.id∧p.id<65536∧0≤p.x∧p.x<65536
def Pr.pt(p:Pr):Pt:=⟨p.id,p.id,[p.x]⟩
end Go.Sw
end
section
set_option maxRecDepth 100000
namespace Go.Sw
noncomputable section
variable (k:Nat) (call:A8)
def D55:Env→A2→Res (D0 × Env):=M4 (C k) call F.ζ4 [1,0,1,0,0]
def E27:G0 Value:=D7 0 (E4 (B3 (C k) call F.ζ4 [1,1]) (G2 A0 (G3 A0 F.ζ4)))
def D1j:Env→A2→Res (D0 × Env):=M4 (C k) call F.ζ4 [1,0,1,0,0,1,0,0,1,0,1,0,0]
def E28:G0 (D0 × Env):=D7 2 (E4 (B3 (C k) call F.ζ4 [1,0,1,0,0,1,0,0,1,1]) (D7 1 (E4 (B3 (C k) call F.ζ4 [1,0,1,0,0,1,1]) (M2 (Q2 (C k) F.ζ4 [1,0,1,0,0])))))
def ζ4(a0 a1 a2:Value)(h:A2):Res Value :=
 (A5 A0 .sub 3 a2 (.int .i64 1) h).bind fun v0 h0=>(loopN (D55 k call) B8 [(0,a0),(1,a1),(7,v0)] h0).bind fun r3 h1=>
 E27 k call r3.1 r3.2 h1
theorem G3v(k:Nat)(a0 a1 a2:Value)(h:A2):R (T k) F.ζ4 [a0,a1,a2] h=nrm .no h (ζ4 k (R (T k)) a0 a1 a2 h) :=G9
theorem E1k(a0 a1 a7:Value)(h:A2):D55 k call [(0,a0),(1,a1),(7,a7)] h =
 (A5 A0 .geq 3 a7 (.int .i64 0) h).bind fun v0 h0=>
 condV (some v0) (
 (loopN (D1j k call) B8 [(0,a0),(1,a1),(7,a7),(8,a1),(9,(.int .i64 0))] h0).bind fun r7 h1=>
 E28 k call r7.1 r7.2 h1)
 (
 .ok ((.exit 0),[(0,a0),(1,a1),(7,a7),(13,v0)]) h0) :=
 (E2 _ _).trans (by kernel_rfl)
theorem E1l(a0 a1 a7 a8 a9:Value)(h:A2):D1j k call [(0,a0),(1,a1),(7,a7),(8,a8),(9,a9)] h =
 (A5 A0 .lss 3 a9 a7 h).bind fun v0 h0=>
 condV (some v0) (
 (A5 A0 .quo 3 a8 (.int .i64 256) h0).bind fun v1 h1=>(A5 A0 .add 3 a9 (.int .i64 1) h1).bind fun v2 h2=>
 .ok (.normal,[(0,a0),(1,a1),(7,a7),(8,v1),(9,v2)]) h2)
 (
 .ok ((.exit 2),[(0,a0),(1,a1),(7,a7),(8,a8),(9,a9),(19,v0)]) h0) :=
 (E2 _ _).trans (by kernel_rfl)
theorem G0l(a0 a1 a7 a13:Value)(h:A2):E27 k call (.exit 0) [(0,a0),(1,a1),(7,a7),(13,a13)] h =
 .ok a0 h:=by kernel_rfl
theorem G0m(a0 a1 a7 a8 a9 a19:Value)(h:A2):E28 k call (.exit 2) [(0,a0),(1,a1),(7,a7),(8,a8),(9,a9),(19,a19)] h =
 (A5 A0 .rem 3 a8 (.int .i64 256) h).bind fun v0 h0=>(M9 A0 3 5 v0 h0).bind fun v1 h1=>(B9 A0 22 1 [(0,v1)] h1).bind fun v2 h2=>(A6 A0 .append [22,22] [a0,v2] h2).bind fun v3 h3=>(A5 A0 .sub 3 a7 (.int .i64 1) h3).bind fun v4 h4=>
 .ok (.normal,[(0,v3),(1,a1),(7,v4)]) h4:=by kernel_rfl
end
end Go.Sw
end
section
namespace Go.Sw
open Go.RowKit
theorem D2s (k:Nat) (s:Value) (n:Int) (i:Nat) (h0:0≤n) (hn:n<2 ^ 62) (hi:i<2 ^ 62) (H:A2) :
  loopN (D1j k (R (T k))) B8 [(0,s),(1,.int .i64 n),(7,.int .i64 i),(8,.int .i64 n),(9,.int .i64 0)] H=.ok (.exit 2,[(0,s),(1,.int .i64 n),(7,.int .i64 i),(8,.int .i64 (n / 256 ^ i)),(9,.int .i64 i),(19,.bool false)]) H:=by
 obtain ⟨x,e',H1,hr,rfl,rfl,rfl⟩:=K5 (body:=D1j k (R (T k))) i
  (fun j e H'=>H'=H∧e=[(0,s),(1,.int .i64 n),(7,.int .i64 i),(8,.int .i64 (n / 256 ^ j)),(9,.int .i64 j)])
  (fun x e H'=>H'=H∧x=.exit 2∧e=[(0,s),(1,.int .i64 n),(7,.int .i64 i),(8,.int .i64 (n / 256 ^ i)),(9,.int .i64 i),(19,.bool false)])
  (e0:=[(0,s),(1,.int .i64 n),(7,.int .i64 i),(8,.int .i64 n),(9,.int .i64 0)]) (H0:=H) ⟨rfl,by simp⟩ (by omega)
  (fun j e H' hj ⟨hH,he⟩=>by
   subst he hH;have hlt:(j:Int)<i:=by omega
   have q0:0≤n / 256 ^ j:=Int.ediv_nonneg h0 (Int.pow_nonneg (by decide));have q1:n / 256 ^ j≤n:=Int.ediv_le_self _ h0;have hq:(n / 256 ^ j).tdiv 256=n / 256 ^ (j+1):=by
    rw[Int.tdiv_eq_ediv_of_nonneg q0,Int.pow_succ,Int.ediv_ediv_of_nonneg (Int.pow_nonneg (by decide))]
   have q:=fun H=>A49 A0 3 H .i64 (n / 256 ^ j) 256 (by decide);rw[hq] at q;have q2:0≤n / 256 ^ (j+1):=Int.ediv_nonneg h0 (Int.pow_nonneg (by decide));have q3:n / 256 ^ (j+1)≤n:=Int.ediv_le_self _ h0;generalize n / 256 ^ (j+1)=m at q q2 q3 ⊢;generalize n / 256 ^ j=m0 at q ⊢;refine .inl ⟨_,H',?_,rfl,rfl⟩;rw[E1l];simp -implicitDefEqProofs(disch:=omega) [hlt,q])
  (fun e H' ⟨hH,he⟩=>by
   subst he hH;refine⟨.exit 2,_,H',?_,by simp,rfl,rfl,rfl⟩;rw[E1l];simp -implicitDefEqProofs(disch:=omega))
 exact hr
theorem L7 (k:Nat) {H0 H:A2} {L:List It} (h:D2 H0 H L) (i:Nat) {o:Option Nat} {s:Value} {b:List Int} (hi:L[i]?=some (D6 o 1 s B7 b)) (n zi:Int) (z:Nat) (hzi:zi=z) (h0:0≤n) (hn:n<2 ^ 62) (hz:z≤8) (hl:b.length<2 ^ 30) :
  ∃ s' o' H',R (T k) F.ζ4 [s,.int .i64 n,.int .i64 zi] H=.ok s' H'∧D2 H0 H' (L.set i (D6 o' 1 s' B7 (b++D4 n z))):=by
 subst hzi;rw[G3v];have hlt:i<L.length:=(List.getElem?_eq_some_iff.1 hi).1;have hself:L.set i (D6 o 1 s B7 b)=L:=by
  obtain⟨hlt,hx⟩:=List.getElem?_eq_some_iff.1 hi;rw[← hx,List.set_getElem_self]
 obtain ⟨x,e',H1,hr,s',o',rfl,⟨a,c,rfl⟩,ho⟩:=A5i (body:=D55 k (R (T k)))
  (fun m e H'=>∃ s o acc,e=[(0,s),(1,.int .i64 n),(7,.int .i64 ((m:Int) - 1))]∧D2 H0 H' (L.set i (D6 o 1 s B7 acc))∧acc++D4 n m=b++D4 n z∧m≤z)
  (fun x e H'=>∃ s' o',x=.exit 0∧(∃ a c,e=[(0,s'),(1,.int .i64 n),(7,a),(13,c)])∧D2 H0 H' (L.set i (D6 o' 1 s' B7 (b++D4 n z))))
  (e0:=[(0,s),(1,.int .i64 n),(7,.int .i64 ((z:Int) - 1))]) (H0:=H) z ⟨s,o,b,rfl,by rw[hself]; exact h,rfl,Nat.le_refl _⟩ (by omega)
  (fun m e H' ⟨s,o,acc,he,ho,ha,hmz⟩=>by
   subst he;cases m with
   | zero=>
    refine .inr ⟨.exit 0,_,H',?_,by simp,s,o,rfl,⟨.int .i64 ((0:Nat) - 1),.bool false,rfl⟩,by simpa[D4] using (by simpa[D4] using ha) ▸ ho⟩;rw[E1k];simp -implicitDefEqProofs
   | succ m=>
    have hin:=D2s k s n m h0 hn (by omega) H';have q0:0≤n / 256 ^ m:=Int.ediv_nonneg h0 (Int.pow_nonneg (by decide));have hacc:acc.length<2 ^ 31:=by
     have:=congrArg List.length ha;simp[B25] at this;omega
    obtain⟨s2,o2,H2,e1,o1⟩:=ho.append1 (bytes:=1) i E9 (List.getElem?_set_self hlt) ((n / 256 ^ m) % 256) hacc (by decide);rw[List.set_set] at o1;have hrem:=fun H=>A58 A0 3 H .i64 (n / 256 ^ m) 256 (by decide);rw[Int.tmod_eq_emod_of_nonneg q0] at hrem;have hb:0≤(n / 256 ^ m) % 256∧(n / 256 ^ m) % 256<256:=by omega
    refine .inl ⟨m,_,H2,?_,by omega,s2,o2,acc++[(n / 256 ^ m) % 256],rfl,o1,by rw[List.append_assoc]; exact ha,by omega⟩;rw[E1k];have hge:(m:Int)≥0:=by omega
    rw[show (((m+1:Nat):Int) - 1)=(m:Int) by omega];generalize (n / 256 ^ m) % 256=y at e1 hrem hb;simp -implicitDefEqProofs(disch:=omega) [hge,hin,G0m,hrem,e1])
 refine⟨s',o',H1,?_,ho⟩;simp -implicitDefEqProofs(disch:=omega) [ζ4,hr,G0l,D3b]
structure En where
 next:Int
 flags:Int
 a:Int
 b:Int
theorem D65 {α β:Type} (f:α→Option β):∀ (l m:List α),M6 f (l++m)=(M6 f l).bind fun x=>(M6 f m).map fun y=>x++y
 | [],m=>by
  simp only[List.nil_append,M6,Option.bind_some];cases M6 f m <;> rfl
 | x :: l,m=>by
  simp only[List.cons_append,M6,D65 f l m];cases f x with
  | none=>rfl
  | some y=>
   simp only[Option.bind_some];cases M6 f l with
   | none=>rfl
   | some r=>
    simp only[Option.bind_some,Option.map_some];cases M6 f m <;> rfl
theorem B5d{β:Type}(f:Nat→Option β)(n:Nat):M6 f (List.range (n+1))=(M6 f (List.range n)).bind fun r=>(f n).map fun y=>r++[y]:=by
 rw[List.range_succ,D65];congr 1;funext r;simp only[M6];cases f n <;> rfl
theorem D66{β:Type}{f:Nat→Option β}{n m:Nat}(h:n≤m){r:List β}(hr:M6 f (List.range m)=some r):M6 f (List.range n)=some (r.take n):=by
 obtain⟨d,rfl⟩:=Nat.exists_eq_add_of_le h;rw[List.range_add,D65] at hr;obtain⟨x,hx,hr⟩:=Option.bind_eq_some_iff.1 hr;obtain⟨y,hy,rfl⟩:=Option.map_eq_some_iff.1 hr;have:=U5 hx;rw[hx,List.take_left' (by simpa using this)]
theorem A5n{β:Type}{f:Nat→Option β}{n:Nat}{r:List β}(hr:M6 f (List.range n)=some r){i:Nat}(hi:i<n):∃ y,f i=some y∧r[i]?=some y:=by
 have hl:=U5 hr;have hlt:i<r.length:=by rw[hl,List.length_range]; exact hi
 obtain⟨x,hx,hf⟩:=A23 hr (List.getElem?_eq_getElem hlt);rw[List.getElem?_range hi] at hx;injection hx with hx;subst hx;exact⟨_,hf,List.getElem?_eq_getElem hlt⟩
theorem D5r{β:Type}{f:Nat→Option β}:∀ {n:Nat},(∀ i,i<n→(f i).isSome=true)→∃ r,M6 f (List.range n)=some r
 | 0,_=>⟨[],rfl⟩
 | n+1,h=>by
  obtain⟨r,hr⟩:=D5r (n:=n) fun i hi=>h i (by omega);obtain⟨y,hy⟩:=Option.isSome_iff_exists.1 (h n (by omega));exact⟨r++[y],by rw[B5d,hr,Option.bind_some,hy,Option.map_some]⟩
def P6(l:List Int):Int:=l.foldl (fun m x=>max m (x+1)) 0
theorem G8a (l:List Int):∀ m:Int,l.foldl (fun m x=>max m (x+1)) m=max m (l.foldl (fun m x=>max m (x+1)) (0:Int))∨m<0:=by
 induction l with
 | nil=>intro m; simp; omega
 | cons x l ih=>
  intro m;rcases Int.lt_or_le m 0 with h | h
  ·exact .inr h
  ·left;simp only[List.foldl_cons];rcases ih (max m (x+1)) with h1 | h1
   ·rcases ih (max 0 (x+1)) with h2 | h2
    ·rw[h1,h2]; omega
    ·omega
   ·omega
theorem D6k(l:List Int)(x:Int):P6 (l++[x])=max (P6 l) (x+1):=by simp[P6]
theorem B8s:∀ l:List Int,0≤P6 l:=fun l=>by
 have:∀ (l:List Int) (m:Int),m≤l.foldl (fun m x=>max m (x+1)) m:=by
  intro l
  induction l with
  | nil=>intro m; exact Int.le_refl _
  | cons x l ih=>intro m; exact Int.le_trans (by omega) (ih (max m (x+1)))
 exact this l 0
theorem B56(l m:List Int):P6 (l++m)=max (P6 l) (P6 m):=by
 unfold P6;rw[List.foldl_append];have h0:=B8s l;unfold P6 at h0;rcases G8a m (l.foldl (fun m x=>max m (x+1)) 0) with h | h
 ·exact h
 ·omega
theorem B1h{l:List Int}{x:Int}(h:x ∈ l):x<P6 l:=by
  obtain⟨a,b,rfl⟩:=List.append_of_mem h;rw[B56,needL_append' (x:=x) (b:=b)];omega
where needL_append' {x:Int} {b:List Int}:P6 (x :: b)=max (x+1) (P6 b):=by
        have:=B56 [x] b;rw[List.singleton_append] at this;rw[this];have:P6 [x]=max 0 (x+1):=rfl;have:=B8s b;omega
theorem A88{l:List Int}{n:Int}(hn:0≤n)(h:∀ x,x ∈ l→x<n):P6 l≤n:=by
 induction l with
 | nil=>exact hn
 | cons x l ih=>
  have h1:=h x (by simp);have h2:=ih fun y hy=>h y (by simp[hy]);have:=B56 [x] l;rw[List.singleton_append] at this;rw[this];have:P6 [x]=max 0 (x+1):=rfl;omega
def A3g(rv:List Int)(n:Int)(k:Nat):Option (List Int):=X0 rv (2*n*k) n 2
def B17(w:Int)(r:List Int):En:=⟨gU r 0 2,gU r 2 2,if 0<w then gU r 4 2 else 0,if 1<w then gU r 6 2 else 0⟩
def A3d(ev:List Int)(w:Int)(k:Nat):Option En:=(E1 ev ((4+2*w)*k) (4+2*w)).map (B17 w)
def U2(rv:List Int)(n:Int)(m:Nat):Option (List (List Int)):=M6 (A3g rv n) (List.range m)
def Y6(ev:List Int)(w:Int)(m:Nat):Option (List En):=M6 (A3d ev w) (List.range m)
def L9(rs:List (List Int)):Int:=P6 rs.flatten
def P8(es:List En):Int:=max 2 (P6 (es.map En.next))
def A3k(rv ev:List Int)(n w:Int):Nat→Nat→Option (List (List Int) × List En)
 | 0,_=>none
 | f+1,s=>(U2 rv n s).bind fun rs=>(Y6 ev w (L9 rs).toNat).bind fun es=>if (P8 es).toNat≤s then some (rs,es) else A3k rv ev n w f (P8 es).toNat
def X6(rv ev:List Int)(n w:Int)(s:Nat):Option (List (List Int) × List En):=A3k rv ev n w (65538 - s) s
theorem J02{ev:List Int}(hb:Byt ev){w:Int}{k:Nat}{e:En}(h:A3d ev w k=some e):-1≤e.next∧e.next<65536:=by
 unfold A3d at h;obtain⟨r,hr,rfl⟩:=Option.map_eq_some_iff.1 h;exact X7 (hb.piece hr).1 0
theorem A2o{ev:List Int}(hb:Byt ev){w:Int}{m:Nat}{es:List En}(h:Y6 ev w m=some es):2≤P8 es∧P8 es≤65536:=by
 refine ⟨by unfold P8; omega,?_⟩;have:P6 (es.map En.next)≤65536:=A88 (by omega) fun x hx=>by
  obtain⟨e,he,rfl⟩:=List.mem_map.1 hx;obtain⟨i,hi⟩:=List.getElem?_of_mem he;obtain⟨k,_,hk⟩:=A23 h hi;exact (J02 hb hk).2
 unfold P8;omega
theorem E3x {rv ev:List Int} (hb:Byt ev) {n w:Int}:∀ (f g s:Nat),65537 - s≤f→65537 - s≤g→s≤65536→A3k rv ev n w f s=A3k rv ev n w g s
 | 0,_,s,h1,_,h3=>by omega
 | _+1,0,s,_,h2,h3=>by omega
 | f + 1,g+1,s,h1,h2,h3=>by
  simp only[A3k];cases U2 rv n s with
  | none=>rfl
  | some rs=>
   simp only[Option.bind_some];cases he:Y6 ev w (L9 rs).toNat with
   | none=>rfl
   | some es=>
    simp only[Option.bind_some];have:=A2o hb he;split
    ·rfl
    ·exact E3x hb f g _ (by omega) (by omega) (by omega)
theorem E5p {rv ev:List Int} (hb:Byt ev) {n w:Int} {s:Nat} (hs:s≤65536):X6 rv ev n w s =
  (U2 rv n s).bind fun rs=>(Y6 ev w (L9 rs).toNat).bind fun es=>if (P8 es).toNat≤s then some (rs,es) else X6 rv ev n w (P8 es).toNat:=by
 unfold X6;rw[show 65538 - s=(65537 - s)+1 by omega];simp only[A3k];cases U2 rv n s with
 | none=>rfl
 | some rs=>
  simp only[Option.bind_some];cases he:Y6 ev w (L9 rs).toNat with
  | none=>rfl
  | some es=>
   simp only[Option.bind_some];have:=A2o hb he;split
   ·rfl
   ·exact E3x hb _ _ _ (by omega) (by omega) (by omega)
structure Q7 where
 classes:Int
 tab:Int × List Pt
 rows:List (List Int)
 ents:List En
def Z5(b:List Int)(g w:Int):Option Q7 :=
 (uS b 0 4).bind fun n=>if 4≤n∧n≤65535 then
  (uS b 4 4).bind fun i=>(L5 b i).bind fun tb=>(A17 tb g 2).bind fun tab=>
  (uS b 8 4).bind fun j=>(L5 b j).bind fun rv=>(uS b 12 4).bind fun k=>(L5 b k).bind fun ev=>
  (X6 rv ev n w 2).map fun x=>⟨n,tab,x.1,x.2⟩
 else none
def A1t(m:Q7)(id:Int):Int:=if id=65535 then 2 else match A28 m.tab.2 id with | some c=>if c<m.classes then c else 1 | none=>1
def X2(m:Q7)(s c:Int):Option En:=if 0≤s∧s<m.rows.length∧0≤c∧c<m.classes then (m.rows[s.toNat]?).bind fun r=>(r[c.toNat]?).bind fun x=>m.ents[x.toNat]? else none
structure Q7.ok (m:Q7):Prop where
 cl:4≤m.classes∧m.classes≤65535
 pts:∀ p,p ∈ m.tab.2→p.ok
 rise:P9 m.tab.2=true
 plen:m.tab.2.length<2 ^ 31
 two:2≤m.rows.length∧m.rows.length≤65536
 row:∀ r,r ∈ m.rows→(r.length:Int)=m.classes∧∀ x,x ∈ r→0≤x∧x<m.ents.length
 ent:∀ e,e ∈ m.ents→0≤e.next∧e.next<m.rows.length∧0≤e.flags∧e.flags<65536∧0≤e.a∧e.a<65536∧0≤e.b∧e.b<65536
 elen:m.ents.length≤65536
theorem A5t{b r:List Int}(hb:Byt b){p z:Int}(h:E1 b p z=some r){i:Int}(h0:0≤i)(hi:i+2≤z):uS r i 2=some (gU r i 2)∧0≤gU r i 2∧gU r i 2<65536:=by
 obtain⟨e,x,hx⟩:=A2f h h0 (y:=2) (by omega) hi;rw[hx] at e;rw[L8 e];have:=K8 (hb.piece h).1 e;exact⟨e,this⟩
theorem B9u{ev:List Int}(hb:Byt ev){w:Int}(hw:0≤w∧w≤2){k:Nat}{e:En}(h:A3d ev w k=some e):0≤e.next∧0≤e.flags∧e.flags<65536∧0≤e.a∧e.a<65536∧0≤e.b∧e.b<65536:=by
 unfold A3d at h;obtain⟨r,hr,rfl⟩:=Option.map_eq_some_iff.1 h;have g:=fun i h0 h1=>(A5t hb hr (i:=i) h0 h1).2;unfold B17;dsimp only;have g0:=g 0 (by omega) (by omega);have g2:=g 2 (by omega) (by omega);refine⟨g0.1,g2.1,g2.2,?_⟩;by_cases h1:0<w
 ·have g4:=g 4 (by omega) (by omega);rw[if_pos h1];by_cases h2:1<w
  ·have g6:=g 6 (by omega) (by omega);rw[if_pos h2];omega
  ·rw[if_neg h2]; omega
 ·rw[if_neg h1,if_neg (by omega)]; omega
theorem D6x {rv ev:List Int} (hr:Byt rv) (hb:Byt ev) {n w:Int} (hn:0≤n) (hw:0≤w∧w≤2):∀ (f s:Nat) x,2≤s→s≤65536→A3k rv ev n w f s=some x →
  (2≤x.1.length∧x.1.length≤65536)∧(∀ r,r ∈ x.1→(r.length:Int)=n∧∀ y,y ∈ r→0≤y∧y<x.2.length)∧(∀ e,e ∈ x.2→e.next<x.1.length)∧(∀ e,e ∈ x.2→∃ k,A3d ev w k=some e)∧x.2.length≤65536 ∧
  U2 rv n x.1.length=some x.1∧Y6 ev w x.2.length=some x.2∧(x.2.length:Int)=L9 x.1∧P8 x.2≤x.1.length
 | 0,_,_,_,_,h=>by cases h
 | f + 1,s,x,h2,h3,h=>by
  simp only[A3k] at h;obtain⟨rs,e1,h⟩:=Option.bind_eq_some_iff.1 h;obtain⟨es,e2,h⟩:=Option.bind_eq_some_iff.1 h;have hE:=A2o hb e2;split at h
  ·rename_i hs;injection h with h;subst h;dsimp only;have l1:rs.length=s:=by rw[U5 e1,List.length_range]
   have l2:es.length=(L9 rs).toNat:=by rw[U5 e2,List.length_range]
   have hnn:=B8s rs.flatten;have hrow:∀ r,r ∈ rs→(r.length:Int)=n∧∀ y,y ∈ r→0≤y∧y<65536:=fun r hrm=>by
    obtain ⟨i,hi⟩:=List.getElem?_of_mem hrm;obtain⟨k,_,hk⟩:=A23 e1 hi;unfold A3g X0 at hk;obtain⟨q,hq,rfl⟩:=Option.map_eq_some_iff.1 hk;have hqb:=(hr.piece (A71 hq)).1;refine⟨by simp; omega,fun y hy=>?_⟩;obtain⟨c,hc,rfl⟩:=List.mem_map.1 hy;obtain⟨h5,h6⟩:=D1p hqb _ _ hc;have:=D2e c h5;have hp:(256:Int) ^ c.length≤256 ^ 2:=by
     have:c.length≤2:=h6
     match hcl:c.length,this with
     | 0,_=>decide
     | 1,_=>decide
     | 2,_=>decide
    omega
   refine⟨⟨by omega,by omega⟩,fun r hrm=>⟨(hrow r hrm).1,fun y hy=>⟨((hrow r hrm).2 y hy).1,?_⟩⟩,fun e he=>?_,fun e he=>?_,?_,by rw[l1]; exact e1,by rw[l2]; exact e2,by unfold L9 at l2 ⊢; omega,by omega⟩
   ·have:y<P6 rs.flatten:=B1h (List.mem_flatten.2 ⟨r,hrm,hy⟩);rw[l2]; unfold L9; omega
   ·have:e.next<P6 (es.map En.next):=B1h (List.mem_map.2 ⟨e,he,rfl⟩);unfold P8 at hs;omega
   ·obtain⟨i,hi⟩:=List.getElem?_of_mem he;obtain⟨k,_,hk⟩:=A23 e2 hi;exact⟨_,hk⟩
   ·rw [l2];have:P6 rs.flatten≤65536:=A88 (by omega) fun y hy=>by
     obtain⟨r,hrm,hy⟩:=List.mem_flatten.1 hy;exact ((hrow r hrm).2 y hy).2
    unfold L9;omega
  ·exact D6x hr hb hn hw f _ x (by omega) (by omega) h
theorem Byt.rest{b r:List Int}(hb:Byt b){i:Int}(h:L5 b i=some r):Byt r:=by
 unfold L5 at h;split at h
 ·injection h with h;subst h;exact fun x hx=>hb x (List.mem_of_mem_drop hx)
 ·cases h
theorem A5k{b:List Int}(hb:Byt b){g w:Int}(h1:1≤g)(h2:g≤65535)(hw:0≤w∧w≤2){m:Q7}(h:Z5 b g w=some m):m.ok:=by
 unfold Z5 at h;obtain⟨n,_,h⟩:=Option.bind_eq_some_iff.1 h;split at h;rotate_left
 ·cases h
 rename_i hn;obtain⟨i,_,h⟩:=Option.bind_eq_some_iff.1 h;obtain⟨tb,htb,h⟩:=Option.bind_eq_some_iff.1 h;obtain⟨tab,htab,h⟩:=Option.bind_eq_some_iff.1 h;obtain⟨j,_,h⟩:=Option.bind_eq_some_iff.1 h;obtain⟨rv,hrv,h⟩:=Option.bind_eq_some_iff.1 h;obtain⟨k,_,h⟩:=Option.bind_eq_some_iff.1 h;obtain⟨ev,hev,h⟩:=Option.bind_eq_some_iff.1 h;obtain⟨x,hx,rfl⟩:=Option.map_eq_some_iff.1 h;have hl:=A83 (hb.rest htb) h1 h2 (.inl rfl) htab;have hpl:=D2b (hb.rest htb) htab;obtain⟨c1,c2,c3,c4,c5,_⟩:=D6x (hb.rest hrv) (hb.rest hev) (by omega) hw _ _ x (by omega) (by omega) hx;refine⟨hn,hl.2.1,hl.2.2,hpl,c1,c2,fun e he=>?_,c5⟩;obtain⟨k,hk⟩:=c4 e he;have:=B9u (hb.rest hev) hw hk;exact⟨this.1,c3 e he,this.2⟩
end Go.Sw
end
section
namespace Go.Sw
open Go.RowKit
section
variable {α:Type} {enc:α→List Value}
theorem D2.stRow{H0 H:A2}{L:List It}(h:D2 H0 H L)(i:Nat){b m:Nat}{s:Value}{l:List α}(hi:L[i]?=some (D6 (some b) m s enc l))(he:∀ x,(enc x).length=m){j c n:Nat}{x:α}(y:α){v:Value}(hx:l[j]?=some x)
  (hn:v.cells.size=n) (hs:storable v=true) (hc:c+n≤m) (hy:enc y=K4 (enc x) c v.cells.toList) :
  ∃ H',stR n (.pointer (some ⟨b,j*m+c,none⟩)) v H=.ok undef H'∧D2 H0 H' (L.set i (D6 (some b) m s enc (l.set j y)))∧H'.n=H.n:=by
 rcases h.row i hi with⟨h0,_⟩ | ⟨b',h0,h1,h2⟩
 ·cases h0
 ·injection h0 with h0;subst h0;obtain⟨H',e1,e2,e3,e4⟩:=A4u he h2 y hx hn hs hc hy;exact⟨H',e1,h.step i hi (by omega) (fun d _ hd=>e3 d fun e=>hd (show d ∈ [b] from List.mem_singleton.2 e)) _ (.inr ⟨b,rfl,by rw[List.length_set]; exact h1,e2⟩) fun b hb=>.inl hb,e4⟩
theorem D2.ix{H0 H:A2}{L:List It}(h:D2 H0 H L)(i:Nat){o:Option Nat}{m:Nat}{s:Value}{l:List α}(hi:L[i]?=some (D6 o m s enc l))(k:IntKind)(j:Nat)(hj:j<l.length) :
  ∃ b,o=some b∧H.get b=some ⟨rows enc l,m,false⟩∧∀ H',ixS m s (.int k j) H'=.ok (.pointer (some ⟨b,j*m,none⟩)) H':=by
 obtain⟨b,h1,_,h3,h4⟩:=(h.row i hi).ix k j hj;exact⟨b,h1,h3,h4⟩
end
section
variable {α:Type} {enc:α→List Value}
theorem Sl.lenL{H:A2}{m:Nat}{v:Value}{l:List α}(h:Sl H m v enc l):Go.Sw.lenL v=some l.length:=by
 rcases h with rfl | ⟨rfl,rfl | rfl | rfl⟩ | ⟨b,off,cap,k,rfl,_⟩ <;> rfl
theorem Sl.first{H:A2}{m:Nat}{v:Value}{l:List α}(he:∀ x,(enc x).length=m)(h:Sl H m v enc l):S4 m l.length v H=some (rows enc l):=by
 rcases h with rfl | ⟨rfl,rfl | rfl | rfl⟩ | ⟨b,off,cap,k,rfl,hc,hk,hr⟩
 ·exact A3r he l H
 ·rfl
 ·rfl
 ·rfl
 ·unfold S4;dsimp only;have hl:=ζk he l;split
  ·rename_i h0;rw[List.length_eq_zero_iff.1 (hl.trans h0)]
  ·rename_i h0;rw[B59,hk,Option.bind_some,hr,if_pos];have:=congrArg List.length hr;rw[hl] at this;simp at this;omega
theorem Sl.rd{H:A2}{m:Nat}(hm:0<m){v:Value}{l:List α}(he:∀ x,(enc x).length=m)(h:Sl H m v enc l):Rd H m v enc l:=by
 have hlen:=h.len;rcases h with rfl | ⟨rfl,_⟩ | ⟨b,off,cap,k,rfl,hc,hk,hr⟩
 ·exact Rd.lv he H l
 ·exact⟨hlen,fun i x hx=>by simp at hx⟩
 ·refine⟨hlen,fun i x hx=>?_⟩;have hi:=(List.getElem?_eq_some_iff.1 hx).1;refine⟨.pointer (some ⟨b,off+i*m,none⟩),fun k H'=>D2a m b off l.length cap k i H' hi,?_⟩;have hl:=ζk he l;have hle:i*m+m≤l.length*m:=by rw[← Nat.succ_mul]; exact Nat.mul_le_mul_right _ hi
  have hkl:=congrArg List.length hr;rw[hl] at hkl;have hpos:0<l.length*m:=Nat.mul_pos (by omega) hm;rw[List.length_take,List.length_drop] at hkl;have hfit:off+i*m+m≤k.cells.length:=by omega
  simp only[A9u,hk,Option.bind_some];rw[if_pos hfit];have:=A7c he l i x hx;rw[← hr,List.drop_take,List.take_take,List.drop_drop] at this;rw[show min m (l.length*m - i*m)=m by omega] at this;rw[this];rfl
theorem B6a{m bytes:Nat}(he:∀ x,(enc x).length=m){H:A2}{v:Value}{l:List α}(h:Sl H m v enc l)(h31:l.length≤2 ^ 31)(hby:bytes≤2 ^ 10) :
  ∃ s' H',A0f m bytes [v] H=.ok s' H'∧Own H H' m s' enc l∧Ext H H':=by
 unfold A0f;dsimp only;rw[h.lenL];cases hl:l.length with
 | zero=>
  have:=List.length_eq_zero_iff.1 hl;subst this;exact⟨_,_,rfl,.inl ⟨rfl,.inr (.inr rfl)⟩,Ext.refl H⟩
 | succ n=>
  obtain⟨s',H',h1,h2,h3,_⟩:=A53 (bytes:=bytes) he (Own.bare H H m) (Ext.refl H) (b:=v) (l2:=l) (D71 h.lenL) (h.first he) (by simp; omega) hby;exact⟨s',H',h1,by simpa using h2,h3⟩
theorem D2.more_own{H0 H H':A2}{L:List It}(h:D2 H0 H L){m:Nat}{s:Value}{l:List α}(ho:Own H H' m s enc l)(he:Ext H H'):∃ o,D2 H0 H' (L++[D6 o m s enc l]):=by
 obtain⟨o,h1,h2⟩:=ho.toO;exact⟨o,h.more_row he h1 fun b hb=>⟨h2 b hb,h1.lt b hb⟩⟩
end
theorem B3o(L:List It)(a b:It):(L++[a,b])[L.length]?=some a:=by simp
theorem B3p(L:List It)(a b:It):(L++[a,b])[L.length+1]?=some b:=by rw[List.getElem?_append_right (by omega)]; simp
theorem D3t(L:List It)(a b x:It):(L++[a,b]).set L.length x=L++[x,b]:=by rw[List.set_append_right _ _ (by omega)]; simp
theorem D3u(L:List It)(a b x:It):(L++[a,b]).set (L.length+1) x=L++[a,x]:=by rw[List.set_append_right _ _ (by omega)]; simp
theorem A29{α:Type}{l:List α}{j:Nat}{p:α}(h:l[j]?=some p):l.take (j+1)=l.take j++[p]:=by
 rw[List.take_add_one,h]; rfl
theorem A0y{H H':A2}{r:Res Value}{v:Value}(h:r=.ok v H'):nrm .no H r=.ok v H':=by rw[h]; rfl
theorem D2.join2{α:Type}{enc:α→List Value}{H0 H:A2}{L:List It}{o:Option Nat}{m c:Nat}{s:Value}{l:List α}(pre:List Value)(h:D2 H0 H (L++[D6 o m s enc l,D9 c ⟨pre++[s],1,false⟩])):D2 H0 H (L++[A2m c pre o m enc l]):=by
 have g:=h.join L.length (L.length+1) (L.length+1) (by omega) (by omega) (B3o _ _ _) (B3p _ _ _);rw[show L++[D6 o m s enc l,D9 c ⟨pre++[s],1,false⟩]=(L++[D6 o m s enc l])++[D9 c ⟨pre++[s],1,false⟩] by simp,List.take_left' (by simp),G8y] at g;exact g
theorem A9p{n0:Nat}{H:A2}{d c e:Nat}{cells r:List Value}{L:List Nat}(hn:n0≤c)(hc:H.get c=some ⟨cells,e,false⟩)(h:V0 (fzV n0 H d) cells=some (r,L)):fzV n0 H (d+1) (.pointer (some ⟨c,0,none⟩))=some (boxV r.toArray,c :: L):=by
 have h1:Nat.blt c n0=false:=by
  cases hb:Nat.blt c n0 with
  | false=>rfl
  | true=>exact absurd (Nat.le_of_ble_eq_true hb) (by omega)
 simp only[fzV,h1,cond_false,hc,List.drop_zero,h];rfl
theorem X1{f:Value→Option (Value × List Nat)}{v u:Value}{L:List Nat}(h:f v=some (u,L)):V0 f [v]=some ([u],L):=by
 have:=A1k (f:=f) h B71;simpa using this
end Go.Sw
end
section
set_option maxRecDepth 100000
namespace Go.Sw
noncomputable section
variable (k:Nat) (call:A8)
def D63:Env→A2→Res (D0 × Env):=M4 (C k) call F.A0j [1,1,0,1,0,0]
def E3l:G0 Value:=D7 0 (E4 (B3 (C k) call F.A0j [1,1,1]) (G2 A0 (G3 A0 F.A0j)))
def A0j(a0:Value)(h:A2):Res Value :=
 (E0 A0 148 [] h).bind fun v0 h0=>(K9 v0 h0).bind fun v1 h1=>(A6 A0 .len [30] [a0] h1).bind fun v2 h2=>(loopN (D63 k call) B8 [(3,v1),(8,a0),(9,v2),(10,(.int .i64 0))] h2).bind fun r7 h3=>
 E3l k call r7.1 r7.2 h3
theorem G8h(k:Nat)(a0:Value)(h:A2):R (T k) F.A0j [a0] h=nrm .no h (A0j k (R (T k)) a0 h) :=G9
theorem E32(a3 a8 a9 a10:Value)(h:A2):D63 k call [(3,a3),(8,a8),(9,a9),(10,a10)] h =
 (A5 A0 .lss 3 a10 a9 h).bind fun v0 h0=>
 condV (some v0) (
 (A9 A0 30 a8 a10 h0).bind fun v1 h1=>(A3 A0 3 v1 h1).bind fun v2 h2=>(G8 a3 h2).bind fun v3 h3=>(A1 A0 148 v3 0 h3).bind fun v4 h4=>(A3 A0 61 v4 h4).bind fun v5 h5=>(E0 A0 150 [(0,v2),(1,a10)] h5).bind fun v6 h6=>(B9 A0 61 1 [(0,v6)] h6).bind fun v7 h7=>(A6 A0 .append [61,61] [v5,v7] h7).bind fun v8 h8=>(G8 a3 h8).bind fun v9 h9=>(A1 A0 148 v9 0 h9).bind fun va ha=>(B4 A0 61 va v8 ha).bind fun _vb hb=>(A5 A0 .add 3 a10 (.int .i64 1) hb).bind fun vc hc=>
 .ok (.normal,[(3,a3),(8,a8),(9,a9),(10,vc)]) hc)
 (
 .ok ((.exit 0),[(3,a3),(8,a8),(9,a9),(10,a10),(11,v0)]) h0) :=
 (E2 _ _).trans (by kernel_rfl)
theorem G4d(a3 a8 a9 a10 a11:Value)(h:A2):E3l k call (.exit 0) [(3,a3),(8,a8),(9,a9),(10,a10),(11,a11)] h =
 .ok a3 h:=by kernel_rfl
def B4w(k:Nat)(call:A8)(a0:Value)(h:A2):Res Value :=
 (G8 a0 h).bind fun v0 h0=>(A1 A0 148 v0 0 h0).bind fun v1 h1=>(A3 A0 61 v1 h1).bind fun v2 h2=>(call F.ζ9 [v2] h2).bind fun v3 h3=>
 .ok v3 h3
theorem G1h(k:Nat)(a0:Value)(h:A2):R (T k) F.B4w [a0] h=nrm (own k) h (B4w k (R (T k)) a0 h) :=G9
def B50(k:Nat)(call:A8)(a0:Value)(h:A2):Res Value :=
 (G8 a0 h).bind fun v0 h0=>(A1 A0 148 v0 0 h0).bind fun v1 h1=>(A3 A0 61 v1 h1).bind fun v2 h2=>(A6 A0 .len [61] [v2] h2).bind fun v3 h3=>
 .ok v3 h3
theorem G4c(k:Nat)(a0:Value)(h:A2):R (T k) F.B50 [a0] h=nrm .gc h (B50 k (R (T k)) a0 h) :=G9
def B0h(k:Nat)(call:A8)(a0 a1:Value)(h:A2):Res Value :=
 (D1 A0 150 h).bind fun v0 h0=>(call F.B35 [a0,a1] h0).bind fun v1 h1=>(unR .not v1 h1).bind fun v2 h2=>
 condV (some v2) (
 (E0 A0 150 [] h2).bind fun v3 h3=>(B4 A0 150 v0 v3 h3).bind fun _v4 h4=>(A3 A0 150 v0 h4).bind fun v5 h5=>
 .ok (.tuple #[v5,(.bool false)]) h5)
 (
 (G8 a0 h2).bind fun v6 h6=>(A1 A0 148 v6 0 h6).bind fun v7 h7=>(A3 A0 61 v7 h7).bind fun v8 h8=>(A9 A0 61 v8 a1 h8).bind fun v9 h9=>(A3 A0 150 v9 h9).bind fun va ha=>(B4 A0 150 v0 va ha).bind fun _vb hb=>(A3 A0 150 v0 hb).bind fun vc hc=>
 .ok (.tuple #[vc,(.bool true)]) hc)
theorem G4p(k:Nat)(a0 a1:Value)(h:A2):R (T k) F.B0h [a0,a1] h=nrm .gc h (B0h k (R (T k)) a0 a1 h) :=G9
def B35(k:Nat)(call:A8)(a0 a1:Value)(h:A2):Res Value :=
 (A5 A0 .geq 3 a1 (.int .i64 0) h).bind fun v0 h0=>(wV v0 true (Res.ok a1 h0) h0).bind fun v1 h1=>(wV v0 true (Res.ok a0 h1) h1).bind fun v2 h2=>(wV v0 true (G8 v2 h2) h2).bind fun v3 h3=>(wV v0 true (A1 A0 148 v3 0 h3) h3).bind fun v4 h4=>(wV v0 true (A3 A0 61 v4 h4) h4).bind fun v5 h5=>(wV v0 true (A6 A0 .len [61] [v5] h5) h5).bind fun v6 h6=>(wV v0 true (A5 A0 .lss 3 v1 v6 h6) h6).bind fun v7 h7=>(condV (some v0) (Res.ok v7 h7) (Res.ok (.bool false) h7)).bind fun v8 h8=>
 .ok v8 h8
theorem G4q(k:Nat)(a0 a1:Value)(h:A2):R (T k) F.B35 [a0,a1] h=nrm .gc h (B35 k (R (T k)) a0 a1 h) :=G9
end
end Go.Sw
end
