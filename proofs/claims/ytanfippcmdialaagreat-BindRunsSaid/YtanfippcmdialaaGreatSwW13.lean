/-
  Functions' forms, and what is proved of them, part 13.
-/
import Derived.Test.YtanfippcmdialaaGreatSwW12
import Derived.Test.YtanfippcmdialaaGreatSwW8
import Derived.Test.YtanfippcmdialaaGreatSwW9
import Derived.Test.YtanfippcmdialaaGreatSwW6
import Derived.Test.YtanfippcmdialaaGreatSwW4
import Derived.Test.YtanfippcmdialaaGreatSwW5
import Derived.Test.YtanfippcmdialaaGreatSwCfg
import Derived.Test.YtanfippcmdialaaGreatSwW10
set_option linter.unusedSimpArgs false
set_option linter.unusedVariables false
set_option linter.unusedSectionVars false
section
namespace Go.Sw
open Go.RowKit
theorem D2.memB{H0 H:A2}{L:List It}(h:D2 H0 H L){c:Nat}{k:Blk}(hm:D9 c k ∈ L):H.get c=some k:=by
 obtain⟨j,hj⟩:=List.getElem?_of_mem hm;exact h.get j hj
def A1s(t:A0r)(L:List It)(ip p:Nat)(op:Option Nat)(down:Bool)(c:Nat)(pv:Value)(mb lb tb pb qb:Nat)(s:List Pl × Int):List It :=
 L.set ip (A3e p op down s.1)++[D9 mb ⟨[.int .i64 s.2],1,false⟩,D9 lb ⟨[B6 c],1,false⟩,D9 tb ⟨[Y5 t],1,false⟩,D9 pb ⟨[pv],1,false⟩,D9 qb ⟨[B6 p],1,false⟩]
set_option maxHeartbeats 2000000 in
theorem B9q (k:Nat) (t:A0r) (ht:t.ok) (L:List It) (il ip c p mb lb tb pb qb:Nat) (o op:Option Nat) (down:Bool) (hip:ip<L.length) (gl:List Gl) (hil:L[il]?=some (A0v c o gl)) (hne:il≠ip) {pv:Value} {pg:Int→Int→Option (Int × Int)} (hpg:B5q pg) {H0:A2} (hank:∀ (H':A2) (l':List Pl) (Y:List It),D2 H0 H' (L.set ip (A3e p op down l')++Y)→B0p k pv pg H') :
  D7d k t.m H0 (A1s t L ip p op down c pv mb lb tb pb qb) (fun s=>∀ q,q ∈ s.1→q.ok) (.func (.func F.ζb) #[] #[B6 lb,B6 mb,B6 tb,B6 pb,B6 qb]) (A2z t pg gl):=by
 intro s j e H X hI st h0 h1 he;obtain⟨l,mark⟩:=s;dsimp only at hI;have hok':∀ q,q ∈ (A2z t pg gl (l,mark) j e).1→q.ok:=E5n t pg gl hI j mark e;have heb:=ht.m.ent e he;have hill:=(List.getElem?_eq_some_iff.1 hil).1;unfold A1s at st;dsimp only at st;obtain⟨S,hS⟩:∃ S:List Pl→Int→List It,S=fun l' m'=>L.set ip (A3e p op down l')++D9 mb ⟨[.int .i64 m'],1,false⟩ :: ([D9 lb ⟨[B6 c],1,false⟩,D9 tb ⟨[Y5 t],1,false⟩,D9 pb ⟨[pv],1,false⟩,D9 qb ⟨[B6 p],1,false⟩]++(X++[D9 H.n ⟨E7 e,1,false⟩])):=⟨_,rfl⟩
 have hSv:∀ l' m',S l' m'=L.set ip (A3e p op down l')++D9 mb ⟨[.int .i64 m'],1,false⟩ :: ([D9 lb ⟨[B6 c],1,false⟩,D9 tb ⟨[Y5 t],1,false⟩,D9 pb ⟨[pv],1,false⟩,D9 qb ⟨[B6 p],1,false⟩]++(X++[D9 H.n ⟨E7 e,1,false⟩])):=fun _ _=>by rw[hS]
 have hmx:∀ l' m',(S l' m')[L.length]?=some (D9 mb ⟨[.int .i64 m'],1,false⟩):=fun l' m'=>by
  rw[hSv,List.getElem?_append_right (by simp)];simp
 have hpx:∀ l' m',(S l' m')[ip]?=some (A3e p op down l'):=fun l' m'=>by
  rw[hSv,List.getElem?_append_left (by simpa using hip),List.getElem?_set_self hip]
 have hlx:∀ l' m',(S l' m')[il]?=some (A0v c o gl):=fun l' m'=>by
  rw[hSv,List.getElem?_append_left (by simpa using hill),List.getElem?_set_ne (fun h=>hne h.symm)];exact hil
 have setM:∀ l' m' m'',(S l' m').set L.length (D9 mb ⟨[.int .i64 m''],1,false⟩)=S l' m'':=fun l' m' m''=>by
  rw[hSv,hSv,List.set_append_right _ _ (by simp)];simp
 have setP:∀ l' l'' m',(S l' m').set ip (A3e p op down l'')=S l'' m':=fun l' l'' m'=>by
  rw[hSv,hSv,List.set_append_left _ _ (by simpa using hip),List.set_set]
 have look:∀ {H':A2} {l' m'},D2 H0 H' (S l' m')→H'.get mb=some ⟨[.int .i64 m'],1,false⟩∧H'.get lb=some ⟨[B6 c],1,false⟩∧H'.get tb=some ⟨[Y5 t],1,false⟩∧H'.get pb=some ⟨[pv],1,false⟩∧H'.get qb=some ⟨[B6 p],1,false⟩∧H'.get H.n=some ⟨E7 e,1,false⟩:=fun {H' l' m'} h=>by
  rw[hSv] at h;exact⟨h.memB (by simp),h.memB (by simp),h.memB (by simp),h.memB (by simp),h.memB (by simp),h.memB (by simp)⟩
 have st2:D2 H0 (H.push ⟨E7 e,1,false⟩) (S l mark):=by
  have:=st.push ⟨E7 e,1,false⟩;rw[hSv];simpa using this
 have fin:∀ {H':A2} {l' m'},D2 H0 H' (S l' m')→D2 H0 H' (A1s t L ip p op down c pv mb lb tb pb qb (l',m')++X):=fun {H' l' m'} h=>by
  rw [hSv] at h;have e1:L.set ip (A3e p op down l')++D9 mb ⟨[.int .i64 m'],1,false⟩ :: ([D9 lb ⟨[B6 c],1,false⟩,D9 tb ⟨[Y5 t],1,false⟩,D9 pb ⟨[pv],1,false⟩,D9 qb ⟨[B6 p],1,false⟩]++(X++[D9 H.n ⟨E7 e,1,false⟩]))=(A1s t L ip p op down c pv mb lb tb pb qb (l',m')++X)++[D9 H.n ⟨E7 e,1,false⟩]:=by
   unfold A1s;simp
  rw[e1] at h;exact h.ζk1
 have ha15:=fun H=>D7i A0 3 H heb.2.2.1 heb.2.2.2.1;have nq:∀ b,b<H.n→¬ b=H.n∧¬ b=H.n+1∧¬ b=H.n+1+1∧¬ b=H.n+1+1+1∧¬ b=H.n+1+1+1+1:=fun b hb=>by omega
 obtain⟨n11,n12,n13,n14,n15⟩:=nq mb (A2.get_lt (st.memB (c:=mb) (k:=⟨[.int .i64 mark],1,false⟩) (by simp)));obtain⟨n21,n22,n23,n24,n25⟩:=nq lb (A2.get_lt (st.memB (c:=lb) (k:=⟨[B6 c],1,false⟩) (by simp)));obtain⟨n31,n32,n33,n34,n35⟩:=nq tb (A2.get_lt (st.memB (c:=tb) (k:=⟨[Y5 t],1,false⟩) (by simp)));obtain⟨n41,n42,n43,n44,n45⟩:=nq pb (A2.get_lt (st.memB (c:=pb) (k:=⟨[pv],1,false⟩) (by simp)));obtain⟨n51,n52,n53,n54,n55⟩:=nq qb (A2.get_lt (st.memB (c:=qb) (k:=⟨[B6 p],1,false⟩) (by simp)));have z1:=st.memB (c:=mb) (k:=⟨[.int .i64 mark],1,false⟩) (by simp);have z2:=st.memB (c:=lb) (k:=⟨[B6 c],1,false⟩) (by simp);have z3:=st.memB (c:=tb) (k:=⟨[Y5 t],1,false⟩) (by simp);have z4:=st.memB (c:=pb) (k:=⟨[pv],1,false⟩) (by simp);have z5:=st.memB (c:=qb) (k:=⟨[B6 p],1,false⟩) (by simp);clear st;obtain⟨here,hhere⟩:∃ x,x=atG gl j:=⟨_,rfl⟩
 obtain⟨mkd,hmkd⟩:∃ x,x=atG gl mark:=⟨_,rfl⟩
 -- the mark
 have tail:∀ {H':A2} {l'},D2 H0 H' (S l' mark)→∃ H'',(∀ a10,a10=Value.bool here.isSome→B8g k (R (T k)) (.int .i64 j) (B6 mb) (B6 H.n) a10 H'=.ok (.tuple #[]) H'') ∧
   D2 H0 H'' (A1s t L ip p op down c pv mb lb tb pb qb (l',if e.flags≥32768∧here.isSome=true then j else mark)++X):=fun {H' l'} h=>by
  obtain⟨w1,w2,w3,w4,w5,w6⟩:=look h;by_cases d1:e.flags≥32768
  ·cases hh:here.isSome with
   | true=>
    have:=h.setBlk L.length (hmx _ _) ⟨[.int .i64 j],1,false⟩;rw[setM] at this;refine⟨_,fun a10 ha=>?_,by rw[if_pos ⟨d1,rfl⟩]; exact fin this⟩;subst ha;rw[B8f];rw[if_pos d1] at ha15;simp -implicitDefEqProofs(disch:=omega) [w1,w6,ha15,bne]
   | false=>
    refine⟨H',fun a10 ha=>?_,by rw[if_neg (fun h=>by cases h.2)]; exact fin h⟩;subst ha;rw[B8f];rw[if_pos d1] at ha15;simp -implicitDefEqProofs(disch:=omega) [w1,w6,ha15,bne]
  ·refine⟨H',fun a10 ha=>?_,by rw[if_neg (fun h=>d1 h.1)]; exact fin h⟩;subst ha;rw[B8f];rw[if_neg d1] at ha15;simp -implicitDefEqProofs(disch:=omega) [w1,w6,ha15,bne]
 have j21:∀ {H':A2} (a6 a13 a14 a48 a10:Value),D48 k (R (T k)) (.int .i64 j) (B6 mb) a6 (B6 H.n) a10 a13 a14 a48 H'=B8g k (R (T k)) (.int .i64 j) (B6 mb) (B6 H.n) a10 H':=fun a6 a13 a14 a48 a10=>by rw[E9m,B8f]
 have j31:∀ {H':A2} (a4 a5 a6 a9 a11 a36 a10:Value),D49 k (R (T k)) (.int .i64 j) (B6 mb) a4 a5 a6 (B6 H.n) a9 a10 a11 a36 H'=B8g k (R (T k)) (.int .i64 j) (B6 mb) (B6 H.n) a10 H':=fun a4 a5 a6 a9 a11 a36 a10=>by rw[E9n,B8f]
 have hat1:=D6h k st2 il (hlx _ _) j;rw[← hhere] at hat1;have st3:=st2.rest ((Ext.refl _).push ⟨(V5 (here.getD ⟨0,0⟩)),1,false⟩);have hat2:=D6h k st3 il (hlx _ _) mark;rw[← hmkd] at hat2;have st4:=st3.rest ((Ext.refl _).push ⟨(V5 (mkd.getD ⟨0,0⟩)),1,false⟩);obtain⟨y1,y2,y3,y4,y5,y6⟩:=look st2;obtain⟨x1,x2,x3,x4,x5,x6⟩:=look st4
 have fini:∀ {R0:Res Value} {l'},Q9 t pg gl l j mark e=l'→(∃ H'',R0=.ok (.tuple #[]) H''∧D2 H0 H'' (A1s t L ip p op down c pv mb lb tb pb qb (l',if e.flags≥32768∧here.isSome=true then j else mark)++X)) →
   ∃ v H',R0=.ok v H'∧D2 H0 H' (A1s t L ip p op down c pv mb lb tb pb qb (A2z t pg gl (l,mark) j e)++X)∧∀ q,q ∈ (A2z t pg gl (l,mark) j e).1→q.ok:=fun {R0 l'} hb ⟨H'',h1,h2⟩=>by
  refine⟨_,H'',h1,?_,hok'⟩;unfold A2z;rw[hb,← hhere];exact h2
 simp only[callV,List.nil_append,List.cons_append];rw[G14];by_cases c1:e.a=65535
 ·have c1':(e.a != 65535)=false:=by rw[c1]; rfl
  refine fini (l':=l) (by unfold Q9; rw[if_pos c1]) ?_;obtain⟨H'',t1,t2⟩:=tail st4;refine⟨H'',A0y ?_,t2⟩;have t1:=t1 _ rfl;unfold A4t at hat1 hat2;simp -implicitDefEqProofs(disch:=omega) [ζb,n11,n12,n13,n14,n15,n21,n22,n23,n24,n25,n31,n32,n33,n34,n35,n41,n42,n43,n44,n45,n51,n52,n53,n54,n55,z1,z2,z3,z4,z5,hat1,hat2,c1',j31,t1]
 have c1':(e.a != 65535)=true:=by rw[bne_iff_ne]; exact c1
 cases hh:here with
 | none=>
  refine fini (l':=l) (by unfold Q9; rw[if_neg c1,← hhere,hh]) ?_;obtain⟨H'',t1,t2⟩:=tail st4;refine⟨H'',A0y ?_,t2⟩;have t1:=t1 _ rfl;unfold A4t at hat1 hat2;rw[hh] at hat1 t1 hat2;simp only[Option.getD_none,Option.isSome_none] at hat1 t1 hat2;simp -implicitDefEqProofs(disch:=omega) [ζb,n11,n12,n13,n14,n15,n21,n22,n23,n24,n25,n31,n32,n33,n34,n35,n41,n42,n43,n44,n45,n51,n52,n53,n54,n55,z1,z2,z3,z4,z5,hat1,hat2,c1',j31,t1]
 | some own=>
  cases hm:mkd with
  | none=>
   refine fini (l':=l) (by unfold Q9; rw[if_neg c1,← hhere,← hmkd,hh,hm]) ?_;obtain⟨H'',t1,t2⟩:=tail st4;refine⟨H'',A0y ?_,t2⟩;have t1:=t1 _ rfl;unfold A4t at hat1 hat2;rw[hh,hm] at t1;rw[hh] at hat1;rw[hm,hh] at hat2;simp only[Option.getD_none,Option.isSome_none,Option.getD_some,Option.isSome_some] at hat1 t1 hat2;simp -implicitDefEqProofs(disch:=omega) [ζb,n11,n12,n13,n14,n15,n21,n22,n23,n24,n25,n31,n32,n33,n34,n35,n41,n42,n43,n44,n45,n51,n52,n53,n54,n55,z1,z2,z3,z4,z5,hat1,hat2,c1',j31,t1]
  | some mk=>
   have han:B0p k pv pg _:=hank _ l _ (by have:=st4; rw[hSv] at this; exact this);obtain⟨P,Q,ep,hpr,hPb,hQb⟩:=G8o k t ht e.a ⟨heb.2.2.2.2.1,heb.2.2.2.2.2.1⟩ (fun hk=>(ht.has hk e he).resolve_left c1) mk own han hpg;have st5:=st4.rest (((Ext.refl _).push ⟨[.int .i64 P.1,.int .i64 P.2],1,false⟩).push ⟨[.int .i64 Q.1,.int .i64 Q.2],1,false⟩);unfold A4t at hat1 hat2 ep;unfold ptV at ep;rw[hh,hm] at ep st5;rw[hh] at hat1;rw[hm,hh] at hat2;simp only[Option.getD_some,Option.isSome_some] at hat1 hat2 ep st5;cases hps:A6v t pg e.a mk.id own.id with
   | none=>
    rw[hps] at ep;refine fini (l':=l) (by unfold Q9; rw[if_neg c1,← hhere,← hmkd,hh,hm]; dsimp only; rw[hps]) ?_;obtain⟨H'',t1,t2⟩:=tail st5;refine⟨H'',A0y ?_,t2⟩;have t1:=t1 _ rfl;rw[hh] at t1;simp only[Option.isSome_some,Option.isSome_none] at t1 ep;simp -implicitDefEqProofs(disch:=omega) [ζb,n11,n12,n13,n14,n15,n21,n22,n23,n24,n25,n31,n32,n33,n34,n35,n41,n42,n43,n44,n45,n51,n52,n53,n54,n55,z1,z2,z3,z4,z5,hat1,hat2,c1',j21,t1,ep]
   | some r=>
    obtain rfl:=hpr r hps;rw[hps] at ep;obtain⟨H6,es,st6⟩:=G91 k st5 ip (hpx _ _) hI j (P.1 - Q.1) (P.2 - Q.2);rw[setP] at st6;refine fini (l':=A0l l j (P.1 - Q.1) (P.2 - Q.2)) (by unfold Q9; rw[if_neg c1,← hhere,← hmkd,hh,hm]; dsimp only; rw[hps]) ?_;obtain⟨H'',t1,t2⟩:=tail st6;refine⟨H'',A0y ?_,t2⟩;have t1:=t1 _ rfl;rw[hh] at t1;simp only[Option.isSome_some,Option.isSome_none] at t1 ep;have w1:IntKind.i64.wrap (P.1 - Q.1)=P.1 - Q.1:=wrap_i64 (by omega) (by omega);have w2:IntKind.i64.wrap (P.2 - Q.2)=P.2 - Q.2:=wrap_i64 (by omega) (by omega);simp -implicitDefEqProofs(disch:=omega) [ζb,n11,n12,n13,n14,n15,n21,n22,n23,n24,n25,n31,n32,n33,n34,n35,n41,n42,n43,n44,n45,n51,n52,n53,n54,n55,z1,z2,z3,z4,z5,hat1,hat2,c1',t1,ep,es,w1,w2]
theorem D9v{α:Type}(a b c d e:α):[a,b,c,d,e].Perm [e,b,a,d,c] :=
 (List.perm_append_comm (l₁:=[a,b,c,d]) (l₂:=[e])).trans (.cons e ((List.Perm.swap b a [c,d]).trans (.cons b (.cons a (.swap d c [])))))
theorem B86(t:A0r):veq (Y5 t) (Y5 t)=true:=A8m (l:=B63 t) fun v hv=>by
 simp[B63] at hv;rcases hv with rfl | rfl | rfl
 ·exact B1v _
 ·simp
 ·exact A5z _
set_option maxHeartbeats 1000000 in
theorem G5a (k:Nat) (t:A0r) (ht:t.ok) {H0 H:A2} {L:List It} (h:D2 H0 H L) (il ip:Nat) (hne:il≠ip) {c p:Nat} {o op:Option Nat} {down:Bool} {gl:List Gl} {l:List Pl} (hil:L[il]?=some (A0v c o gl)) (hip:L[ip]?=some (A3e p op down l)) {pv:Value} {pg:Int→Int→Option (Int × Int)} (hpg:B5q pg) (hank:∀ (H':A2) (l':List Pl) (Y:List It),D2 H0 H' (L.set ip (A3e p op down l')++Y)→B0p k pv pg H') (hst:storable pv=true) (hce:pv.cells=#[pv]) (hl:gl.length<2 ^ 40) (hok:∀ q,q ∈ l→q.ok) :
  ∃ H',R (T k) F.B4y [Y5 t,B6 c,B6 p,pv] H=.ok (.int .i64 (A41 t pg gl l).2) H'∧D2 H0 H' (L.set ip (A3e p op down (A41 t pg gl l).1))∧∀ q,q ∈ (A41 t pg gl l).1→q.ok:=by
 have hlt:=(List.getElem?_eq_some_iff.1 hip).1;have hll:=(List.getElem?_eq_some_iff.1 hil).1;have same:L.set ip (A3e p op down l)=L:=by
  obtain⟨hlt,hx⟩:=List.getElem?_eq_some_iff.1 hip;rw[← hx,List.set_getElem_self]
 have st:=((((h.push ⟨[Y5 t],1,false⟩).push ⟨[B6 c],1,false⟩).push ⟨[B6 p],1,false⟩).push ⟨[pv],1,false⟩).push ⟨[.int .i64 (-1)],1,false⟩;simp only[A02] at st;obtain⟨H5,hH5⟩:∃ H5,H5=((((H.push ⟨[Y5 t],1,false⟩).push ⟨[B6 c],1,false⟩).push ⟨[B6 p],1,false⟩).push ⟨[pv],1,false⟩).push ⟨[.int .i64 (-1)],1,false⟩:=⟨_,rfl⟩
 rw [← hH5] at st;have st:D2 H0 H5 (A1s t L ip p op down c pv (H.n+4) (H.n+1) H.n (H.n+3) (H.n+2) (l,-1)):=by
  refine st.perm ?_;unfold A1s;dsimp only;rw[same];simp only[List.append_assoc,List.cons_append,List.nil_append];refine List.Perm.append_left L ?_;exact D9v _ _ _ _ _
 have ePl:=B7g k (.func F.ζb) #[] #[B6 (H.n+1),B6 (H.n+4),B6 H.n,B6 (H.n+3),B6 (H.n+2)] H5;have st4:=st.push ⟨[.func (.func F.ζb) #[] #[B6 (H.n+1),B6 (H.n+4),B6 H.n,B6 (H.n+3),B6 (H.n+2)]],1,false⟩;have hact:=B7h k (B9q k t ht L il ip c p (H.n+4) (H.n+1) H.n (H.n+3) (H.n+2) o op down hlt gl hil hne hpg hank) H5.n
 obtain ⟨H7,eR,st5,hokR⟩:=G5e k t.m ht.m (fun s:List Pl × Int=>A1s t L ip p op down c pv (H.n+4) (H.n+1) H.n (H.n+3) (H.n+2) s++[D9 H5.n ⟨[.func (.func F.ζb) #[] #[B6 (H.n+1),B6 (H.n+4),B6 H.n,B6 (H.n+3),B6 (H.n+2)]],1,false⟩]) (fun s=>∀ q,q ∈ s.1→q.ok) (fun _=>gl) c
  (fun s=>⟨il,o,by
   unfold A1s;rw[List.append_assoc,List.getElem?_append_left (by simpa using hll),List.getElem?_set_ne (fun h=>hne h.symm)];exact hil⟩) _ _ hact [] (l,-1) hok (by simpa[List.append_assoc] using st4) hl
 have hr:A42 t.m (fun _:List Pl × Int=>gl) (fun s i e=>(A2z t pg gl s i e,i,i+1)) (2*(gl.length:Int)+128) (2*gl.length+128) ((l,-1),⟨0,0,0,0⟩)=A4m t pg gl l:=by unfold A4m; rfl
 rw[hr] at eR st5 hokR;have b0:=st4.memB (c:=H.n) (k:=⟨[Y5 t],1,false⟩) (by unfold A1s; simp);have b1:=st4.memB (c:=H.n+1) (k:=⟨[B6 c],1,false⟩) (by unfold A1s; simp);refine⟨H7,?_,?_,?_⟩
 ·rw [G3j,A0y];have hbx:∀ H',K9 pv H'=V1 [pv] H':=fun H'=>by
   unfold K9;rw[hst,hce];rfl
  have v1:=B86 t;have v2:=B1v t.m;unfold A41;generalize A4m t pg gl l=r at eR ⊢;rw[hH5] at ePl eR b0 b1;simp only[A02] at ePl eR;have n2:H.n+1+1=H.n+2:=rfl;have n3:H.n+2+1=H.n+3:=rfl;have n4:H.n+3+1=H.n+4:=rfl;simp -implicitDefEqProofs(disch:=omega) [B4y,hbx,n2,n3,n4,ePl,eR,v1,v2]
 ·unfold A41;generalize A4m t pg gl l=r at st5 ⊢;unfold A1s at st5;have:=st5.take L.length;rw[List.append_assoc,List.append_assoc,List.take_append_of_le_length (by simp),List.take_of_length_le (by simp)] at this;exact this
 ·unfold A41;generalize A4m t pg gl l=r at hokR ⊢;exact hokR
theorem A7e{b:List Int}(hb:Byt b)(i:Int):-32768≤s16 (gU b i 2)∧s16 (gU b i 2)<32768:=by
 have:=X7 hb i;unfold s16;split <;> omega
theorem D3g(t:A1o)(hb:Byt t.data):B5q (A1c t):=by
 intro id i p h;unfold A1c at h;split at h
 ·split at h
  ·injection h with h;subst h;exact⟨(A7e hb _).1,(A7e hb _).2,(A7e hb _).1,(A7e hb _).2⟩
  ·cases h
 ·cases h
theorem D3f(k:Nat)(t:A1o)(ht:t.ok)(H:A2):B0p k (A7k t) (A1c t) H:=fun id i H' _=>G6j k t ht id i H'
end Go.Sw
end
section
set_option maxRecDepth 100000
namespace Go.Sw
noncomputable section
variable (k:Nat) (call:A8)
def D13:Env→A2→Res (D0 × Env):=M4 (C k) call F.ζj [1,1,1,1,1,1,1,1,1,1,0,1,0,0]
def E0c:G0 Value:=D7 0 (E4 (B3 (C k) call F.ζj [1,1,1,1,1,1,1,1,1,1,1]) (G2 A0 (G3 A0 F.ζj)))
def D14:Env→A2→Res (D0 × Env):=M4 (C k) call F.ζj [1,1,1,1,1,1,1,1,1,1,1,1,1,1,1,0,1,0,0]
def E0d:G0 Value:=D7 2 (E4 (B3 (C k) call F.ζj [1,1,1,1,1,1,1,1,1,1,1,1,1,1,1,1]) (G2 A0 (G3 A0 F.ζj)))
def ζj(a0:Value)(h:A2):Res Value :=
 (K9 a0 h).bind fun v0 h0=>(call F.B2z [] h0).bind fun v1 h1=>(unR .not v1 h1).bind fun v2 h2=>
 condV (some v2) (
 .ok (.bool false) h2)
 (
 (A3 A0 72 v0 h2).bind fun v3 h3=>(call F.ζm [v3] h3).bind fun v4 h4=>(unR .not v4 h4).bind fun v5 h5=>
 condV (some v5) (
 .ok (.bool true) h5)
 (
 (A1 A0 72 v0 0 h5).bind fun v6 h6=>(A3 A0 69 v6 h6).bind fun v7 h7=>(call F.A6w [v7] h7).bind fun v8 h8=>(call F.B0n [v8,(.int .i64 40)] h8).bind fun v9 h9=>(B5 v9 0 h9).bind fun va ha=>(B5 v9 1 ha).bind fun vb hb=>(A1 A0 72 v0 0 hb).bind fun vc hc=>(A3 A0 69 vc hc).bind fun vd hd=>(call F.A6w [vd] hd).bind fun ve he=>(call F.ζu [ve,(.int .i64 40)] he).bind fun vf hf=>(B5 vf 0 hf).bind fun vg hg=>(B5 vf 1 hg).bind fun vh hh=>(D1 A0 79 hh).bind fun vi hi=>(B4 A0 79 vi vg hi).bind fun _vj hj=>(unR .not vh hj).bind fun vk hk=>
 condV (some vk) (
 (A5 A0 .eql 37 vb (.int .i64 2) hk).bind fun vl hl=>(wV vl true (Res.ok va hl) hl).bind fun vm hm=>(wV vl true (A5 A0 .eql 75 vm (.pointer none) hm) hm).bind fun vn hn=>(condV (some vl) (Res.ok vn hn) (Res.ok (.bool false) hn)).bind fun vo ho=>
 .ok vo ho)
 (
 (A1 A0 72 v0 1 hk).bind fun vp hp=>(A3 A0 70 vp hp).bind fun vq hq=>(call F.ζs [vq] hq).bind fun vr hr=>(call F.B0m [vr,(.int .i64 40)] hr).bind fun vs hs=>(B5 vs 0 hs).bind fun vt ht=>(B5 vs 1 ht).bind fun vu hu=>(A1 A0 72 v0 1 hu).bind fun vv hv=>(A3 A0 70 vv hv).bind fun vw hw=>(call F.ζs [vw] hw).bind fun vx hx=>(call F.ζq [vx,(.int .i64 40)] hx).bind fun vy hy=>(B5 vy 0 hy).bind fun vz hz=>(B5 vy 1 hz).bind fun v10 h10=>(D1 A0 87 h10).bind fun v11 h11=>(B4 A0 87 v11 vz h11).bind fun _v12 h12=>(A5 A0 .neq 37 vb (.int .i64 0) h12).bind fun v13 h13=>(wV v13 false (Res.ok va h13) h13).bind fun v14 h14=>(wV v13 false (A5 A0 .eql 75 v14 (.pointer none) h14) h14).bind fun v15 h15=>(condV (some v13) (Res.ok (.bool true) h15) (Res.ok v15 h15)).bind fun v16 h16=>(wV v16 false (Res.ok vu h16) h16).bind fun v17 h17=>(wV v16 false (A5 A0 .neq 37 v17 (.int .i64 0) h17) h17).bind fun v18 h18=>(condV (some v16) (Res.ok (.bool true) h18) (Res.ok v18 h18)).bind fun v19 h19=>(wV v19 false (Res.ok vt h19) h19).bind fun v1a h1a=>(wV v19 false (A5 A0 .eql 82 v1a (.pointer none) h1a) h1a).bind fun v1b h1b=>(condV (some v19) (Res.ok (.bool true) h1b) (Res.ok v1b h1b)).bind fun v1c h1c=>(wV v1c false (Res.ok v10 h1c) h1c).bind fun v1d h1d=>(wV v1c false (unR .not v1d h1d) h1d).bind fun v1e h1e=>(condV (some v1c) (Res.ok (.bool true) h1e) (Res.ok v1e h1e)).bind fun v1f h1f=>
 condV (some v1f) (
 .ok (.bool false) h1f)
 (
 (A6 A0 .len [22] [v8] h1f).bind fun v1g h1g=>(loopN (D13 k call) B8 [(1,v0),(3,v8),(4,va),(6,vi),(8,vt),(10,v11),(82,v1g),(83,(.int .i64 0))] h1g).bind fun r107 h1h=>
 E0c k call r107.1 r107.2 h1h))))
theorem G0k(k:Nat)(a0:Value)(h:A2):R (T k) F.ζj [a0] h=nrm .gc h (ζj k (R (T k)) a0 h) :=G9
theorem E07(a1 a3 a4 a6 a8 a10 a82 a83:Value)(h:A2):D13 k call [(1,a1),(3,a3),(4,a4),(6,a6),(8,a8),(10,a10),(82,a82),(83,a83)] h =
 (A5 A0 .lss 3 a83 a82 h).bind fun v0 h0=>
 condV (some v0) (
 (A9 A0 22 a3 a83 h0).bind fun v1 h1=>(B4 A0 5 v1 (.int .u8 17) h1).bind fun _v2 h2=>(A5 A0 .add 3 a83 (.int .i64 1) h2).bind fun v3 h3=>
 .ok (.normal,[(1,a1),(3,a3),(4,a4),(6,a6),(8,a8),(10,a10),(82,a82),(83,v3)]) h3)
 (
 .ok ((.exit 0),[(1,a1),(3,a3),(4,a4),(6,a6),(8,a8),(10,a10),(82,a82),(83,a83),(84,v0)]) h0) :=
 (E2 _ _).trans (by kernel_rfl)
theorem E9g(a1 a3 a4 a6 a8 a10 a82 a83 a84:Value)(h:A2):E0c k call (.exit 0) [(1,a1),(3,a3),(4,a4),(6,a6),(8,a8),(10,a10),(82,a82),(83,a83),(84,a84)] h =
 (A1 A0 72 a1 2 h).bind fun v0 h0=>(A3 A0 30 v0 h0).bind fun v1 h1=>(A6 A0 .len [30] [v1] h1).bind fun v2 h2=>(Q5 A0 30 v2 v2 h2).bind fun v3 h3=>(call F.A9a [(.int .i64 0),v3] h3).bindT (fun p127 h4=>(A1 A0 72 a1 2 h3).bindN fun v4 h5=>(A3 A0 30 v4 h5).bindN fun v5 h6=>E6 ((A4 (A3 A0 30 v4 h3) v5 && true) && true) (.panic p127 h4)) fun v6 h7=>(A1 A0 72 a1 2 h7).bindN fun v7 h8=>(A3 A0 30 v7 h8).bindN fun v8 h9=>(call F.A0j [v8] h9).bindT (fun p139 ha=>E6 ((A4 (A3 A0 30 v7 h3) v8 && true) && true) (.panic p139 ha)) fun v9 hb=>
 E6 ((A4 (A3 A0 30 v7 h3) v8 && true) && true) (
 (call F.B4y [a4,v9,v6,a8] hb).bind fun va hc=>(A3 A0 79 a6 hc).bindN fun vb hd=>(A1 A0 72 a1 2 hd).bindN fun vc he=>(A3 A0 30 vc he).bindN fun vd hf=>(call F.A95 [vd] hf).bindT (fun p151 hg=>(A3 A0 87 a10 hf).bindN fun ve hh=>E6 ((A4 (A3 A0 87 a10 hc) ve && true) && true) (.panic p151 hg)) fun vf hi=>(call F.B0e [v3] hi).bindT (fun p157 hj=>(A3 A0 87 a10 hi).bindN fun vg hk=>E6 ((A4 (A3 A0 79 a6 hi) vb && true) && ((A4 (A3 A0 87 a10 hc) vg && (A4 (A3 A0 87 a10 hi) vg && true)) && true)) (.panic p157 hj)) fun vh hl=>(A3 A0 87 a10 hl).bindN fun vi hm=>(call F.ζ0 [vb,vf,vh,vi] hm).bindT (fun p165 hn=>E6 ((A4 (A3 A0 79 a6 hi) vb && (A4 (A3 A0 79 a6 hl) vb && true)) && ((A4 (A3 A0 87 a10 hc) vi && (A4 (A3 A0 87 a10 hi) vi && true)) && true)) (.panic p165 hn)) fun vj ho=>(B5 vj 0 ho).bindN fun vk hp=>(B5 vj 1 hp).bindN fun vl hq=>
 E6 ((A4 (A3 A0 79 a6 hi) vb && (A4 (A3 A0 79 a6 hl) vb && true)) && ((A4 (A3 A0 87 a10 hc) vi && (A4 (A3 A0 87 a10 hi) vi && true)) && true)) (
 (call F.B21 [v6] hq).bind fun vm hr=>(A6 A0 .len [56] [vm] hr).bind fun vn hs=>(loopN (D14 k call) B8 [(1,a1),(14,v6),(15,v9),(16,va),(17,vk),(18,vl),(116,vm),(117,vn),(118,(.int .i64 0))] hs).bind fun r175 ht=>
 E0d k call r175.1 r175.2 ht)):=by kernel_rfl
theorem E08(a1 a14 a15 a16 a17 a18 a116 a117 a118:Value)(h:A2):D14 k call [(1,a1),(14,a14),(15,a15),(16,a16),(17,a17),(18,a18),(116,a116),(117,a117),(118,a118)] h =
 (A5 A0 .lss 3 a118 a117 h).bind fun v0 h0=>
 condV (some v0) (
 (A9 A0 56 a116 a118 h0).bind fun v1 h1=>(A3 A0 93 v1 h1).bind fun v2 h2=>(D1 A0 93 h2).bind fun v3 h3=>(B4 A0 93 v3 v2 h3).bind fun _v4 h4=>(A1 A0 93 v3 0 h4).bind fun v5 h5=>(A3 A0 21 v5 h5).bind fun v6 h6=>(A5 A0 .neq 21 v6 (.int .i32 0) h6).bind fun v7 h7=>
 condV (some v7) (
 .ok (.ret,[(2,(.bool false))]) h7)
 (
 (A5 A0 .add 3 a118 (.int .i64 1) h7).bind fun v8 h8=>
 .ok (.normal,[(1,a1),(14,a14),(15,a15),(16,a16),(17,a17),(18,a18),(116,a116),(117,a117),(118,v8)]) h8))
 (
 .ok ((.exit 2),[(1,a1),(14,a14),(15,a15),(16,a16),(17,a17),(18,a18),(116,a116),(117,a117),(118,a118),(119,v0)]) h0) :=
 (E2 _ _).trans (by kernel_rfl)
theorem E9h(a1 a14 a15 a16 a17 a18 a116 a117 a118 a119:Value)(h:A2):E0d k call (.exit 2) [(1,a1),(14,a14),(15,a15),(16,a16),(17,a17),(18,a18),(116,a116),(117,a117),(118,a118),(119,a119)] h =
 (A5 A0 .eql 3 a16 a18 h).bindN fun v0 h0=>(wV v0 true (Res.ok a14 h0) h0).bindN fun v1 h1=>(wV v0 true (call F.B21 [v1] h1) h1).bindT (fun p201 h2=>(wV v0 true (Res.ok a17 h1) h1).bindN fun v2 h3=>.panic p201 h2) fun v3 h4=>(wV v0 true (Res.ok a17 h4) h4).bindN fun v4 h5=>(wV v0 true (call F.A6y [v3,v4] h5) h5).bindT (fun p209 h6=>.panic p209 h6) fun v5 h7=>(condV (some v0) (Res.ok v5 h7) (Res.ok (.bool false) h7)).bindN fun v6 h8=>(wV v6 true (Res.ok a15 h8) h8).bindN fun v7 h9=>(wV v6 true (call F.B4w [v7] h9) h9).bindT (fun p217 ha=>(wV v6 true (A1 A0 72 a1 2 h9) h9).bindN fun v8 hb=>(wV v6 true (A3 A0 30 v8 hb) hb).bindN fun v9 hc=>E6 ((A4 ((wV v6 true (A3 A0 30 v8 h7) h7)) v9 && true) && true) (.panic p217 ha)) fun va hd=>(wV v6 true (A1 A0 72 a1 2 hd) hd).bindN fun vb he=>(wV v6 true (A3 A0 30 vb he) he).bindN fun vc hf=>(wV v6 true (call F.A95 [vc] hf) hf).bindT (fun p229 hg=>E6 ((A4 ((wV v6 true (A3 A0 30 vb h7) h7)) vc && true) && true) (.panic p229 hg)) fun vd hh=>(wV v6 true (call F.A8q [va,vd] hh) hh).bindT (fun p233 hi=>E6 ((A4 ((wV v6 true (A3 A0 30 vb h7) h7)) vc && true) && true) (.panic p233 hi)) fun ve hj=>(condV (some v6) (Res.ok ve hj) (Res.ok (.bool false) hj)).bindN fun vf hk=>
 E6 ((A4 ((wV v6 true (A3 A0 30 vb h7) h7)) vc && true) && true) (
 .ok vf hk):=by kernel_rfl
def D4o:Env→A2→Res (D0 × Env):=M4 (C k) call F.ζm [1,0,1,0,0]
def D4f:G0 Value:=D7 0 (E4 (B3 (C k) call F.ζm [1,1]) (G2 A0 (G3 A0 F.ζm)))
def ζm(a0:Value)(h:A2):Res Value :=
 (K9 a0 h).bind fun v0 h0=>(A1 A0 72 v0 1 h0).bind fun v1 h1=>(A3 A0 70 v1 h1).bind fun v2 h2=>(A6 A0 .len [70] [v2] h2).bind fun v3 h3=>(loopN (D4o k call) B8 [(1,v0),(6,v2),(7,v3),(8,(.int .i64 0))] h3).bind fun r9 h4=>
 D4f k call r9.1 r9.2 h4
theorem G1q(k:Nat)(a0:Value)(h:A2):R (T k) F.ζm [a0] h=nrm .gc h (ζm k (R (T k)) a0 h) :=G9
theorem D46(a1 a6 a7 a8:Value)(h:A2):D4o k call [(1,a1),(6,a6),(7,a7),(8,a8)] h =
 (A5 A0 .lss 3 a8 a7 h).bind fun v0 h0=>
 condV (some v0) (
 (A9 A0 70 a6 a8 h0).bind fun v1 h1=>(A3 A0 130 v1 h1).bind fun v2 h2=>(A6 A0 .len [130] [v2] h2).bind fun v3 h3=>(A5 A0 .gtr 3 v3 (.int .i64 20) h3).bind fun v4 h4=>
 condV (some v4) (
 .ok (.ret,[(2,(.bool false))]) h4)
 (
 (A5 A0 .add 3 a8 (.int .i64 1) h4).bind fun v5 h5=>
 .ok (.normal,[(1,a1),(6,a6),(7,a7),(8,v5)]) h5))
 (
 .ok ((.exit 0),[(1,a1),(6,a6),(7,a7),(8,a8),(9,v0)]) h0) :=
 (E2 _ _).trans (by kernel_rfl)
theorem G0c(a2:Value)(h:A2):D4f k call .ret [(2,a2)] h =
 .ok a2 h:=by kernel_rfl
theorem B2s(a1 a6 a7 a8 a9:Value)(h:A2):D4f k call (.exit 0) [(1,a1),(6,a6),(7,a7),(8,a8),(9,a9)] h =
 (A1 A0 72 a1 0 h).bind fun v0 h0=>(A1 A0 69 v0 0 h0).bind fun v1 h1=>(A1 A0 26 v1 0 h1).bind fun v2 h2=>(A3 A0 22 v2 h2).bind fun v3 h3=>(A6 A0 .len [22] [v3] h3).bind fun v4 h4=>(A5 A0 .leq 3 v4 (.int .i64 40) h4).bind fun v5 h5=>(wV v5 true (A1 A0 72 a1 0 h5) h5).bind fun v6 h6=>(wV v5 true (A1 A0 69 v6 0 h6) h6).bind fun v7 h7=>(wV v5 true (A1 A0 26 v7 1 h7) h7).bind fun v8 h8=>(wV v5 true (A3 A0 23 v8 h8) h8).bind fun v9 h9=>(wV v5 true (A6 A0 .len [23] [v9] h9) h9).bind fun va ha=>(wV v5 true (A5 A0 .leq 3 va (.int .i64 20) ha) ha).bind fun vb hb=>(condV (some v5) (Res.ok vb hb) (Res.ok (.bool false) hb)).bind fun vc hc=>(wV vc true (A1 A0 72 a1 0 hc) hc).bind fun vd hd=>(wV vc true (A1 A0 69 vd 0 hd) hd).bind fun ve he=>(wV vc true (A1 A0 26 ve 2 he) he).bind fun vf hf=>(wV vc true (A3 A0 24 vf hf) hf).bind fun vg hg=>(wV vc true (A6 A0 .len [24] [vg] hg) hg).bind fun vh hh=>(wV vc true (A5 A0 .leq 3 vh (.int .i64 40) hh) hh).bind fun vi hi=>(condV (some vc) (Res.ok vi hi) (Res.ok (.bool false) hi)).bind fun vj hj=>(wV vj true (A1 A0 72 a1 0 hj) hj).bind fun vk hk=>(wV vj true (A1 A0 69 vk 2 hk) hk).bind fun vl hl=>(wV vj true (A3 A0 27 vl hl) hl).bind fun vm hm=>(wV vj true (A6 A0 .len [27] [vm] hm) hm).bind fun vn hn=>(wV vj true (A5 A0 .leq 3 vn (.int .i64 100) hn) hn).bind fun vo ho=>(condV (some vj) (Res.ok vo ho) (Res.ok (.bool false) ho)).bind fun vp hp=>(wV vp true (A1 A0 72 a1 2 hp) hp).bind fun vq hq=>(wV vp true (A3 A0 30 vq hq) hq).bind fun vr hr=>(wV vp true (A6 A0 .len [30] [vr] hr) hr).bind fun vs hs=>(wV vp true (A5 A0 .leq 3 vs (.int .i64 60) hs) hs).bind fun vt ht=>(condV (some vp) (Res.ok vt ht) (Res.ok (.bool false) ht)).bind fun vu hu=>(wV vu true (A1 A0 72 a1 1 hu) hu).bind fun vv hv=>(wV vu true (A3 A0 70 vv hv) hv).bind fun vw hw=>(wV vu true (A6 A0 .len [70] [vw] hw) hw).bind fun vx hx=>(wV vu true (A5 A0 .leq 3 vx (.int .i64 20) hx) hx).bind fun vy hy=>(condV (some vu) (Res.ok vy hy) (Res.ok (.bool false) hy)).bind fun vz hz=>
 .ok vz hz:=by kernel_rfl
def D1f:Env→A2→Res (D0 × Env):=M4 (C k) call F.A6w [1,1,1,0,1,0,0]
def E1j:G0 Value:=D7 0 (E4 (B3 (C k) call F.A6w [1,1,1,1]) (G2 A0 (G3 A0 F.A6w)))
def A6w(a0:Value)(h:A2):Res Value :=
 (K9 a0 h).bind fun v0 h0=>(A1 A0 69 v0 0 h0).bind fun v1 h1=>(A3 A0 26 v1 h1).bind fun v2 h2=>(call F.ζ3 [v2,(.int .i64 1),(.int .i64 4)] h2).bind fun v3 h3=>(A06 A0 22 v3 (some (.int .i64 16)) (some (.int .i64 20)) none h3).bindN fun v4 h4=>(A1 A0 69 v0 1 h4).bindN fun v5 h5=>(A3 A0 5 v5 h5).bindN fun v6 h6=>(A5 A0 .rem 5 v6 (.int .u8 4) h6).bindN fun v7 h7=>(M9 A0 5 3 v7 h7).bindN fun v8 h8=>(A5 A0 .shl 3 v8 (.int .u64 30) h8).bindN fun v9 h9=>(A6 A0 .len [22] [v3] h9).bindN fun va ha=>(A5 A0 .or 3 v9 va ha).bindN fun vb hb=>(call F.ζ4 [(.slice none 0 0),vb,(.int .i64 4)] hb).bindT (fun p27 hc=>.panic p27 hc) fun vc hd=>(A6 A0 .copy [22,22] [v4,vc] hd).bindN fun vd he=>
 E6 ((A4 (A06 A0 22 v3 (some (.int .i64 16)) (some (.int .i64 20)) none hd) v4 && true) && true) (
 (A1 A0 69 v0 2 he).bind fun ve hf=>(A3 A0 27 ve hf).bind fun vf hg=>(A6 A0 .len [27] [vf] hg).bind fun vg hh=>(loopN (D1f k call) B8 [(3,v3),(22,vf),(23,vg),(24,(.int .i64 0))] hh).bind fun r37 hi=>
 E1j k call r37.1 r37.2 hi)
theorem E25(k:Nat)(a0:Value)(h:A2):R (T k) F.A6w [a0] h=nrm (B00 B7o k h.n) h (A6w k (R (T k)) a0 h) :=G9
theorem E0m(a3 a22 a23 a24:Value)(h:A2):D1f k call [(3,a3),(22,a22),(23,a23),(24,a24)] h =
 (A5 A0 .lss 3 a24 a23 h).bind fun v0 h0=>
 condV (some v0) (
 (A9 A0 27 a22 a24 h0).bind fun v1 h1=>(A3 A0 125 v1 h1).bind fun v2 h2=>(M9 A0 125 135 v2 h2).bind fun v3 h3=>(M9 A0 135 3 v3 h3).bind fun v4 h4=>(call F.ζ4 [a3,v4,(.int .i64 2)] h4).bind fun v5 h5=>(A5 A0 .add 3 a24 (.int .i64 1) h5).bind fun v6 h6=>
 .ok (.normal,[(3,v5),(22,a22),(23,a23),(24,v6)]) h6)
 (
 .ok ((.exit 0),[(3,a3),(22,a22),(23,a23),(24,a24),(25,v0)]) h0) :=
 (E2 _ _).trans (by kernel_rfl)
theorem G03(a3 a22 a23 a24 a25:Value)(h:A2):E1j k call (.exit 0) [(3,a3),(22,a22),(23,a23),(24,a24),(25,a25)] h =
 .ok a3 h:=by kernel_rfl
end
end Go.Sw
end
section
namespace Go.Sw
open Go.RowKit
theorem G6c(k:Nat)(hk:k % 1000000=F.B2z)(H:A2):R (T k) F.B2z [] H=.ok (.bool true) H :=
 (B5t (t:=T k) (A1g k) (s:=A59 (.bool true)) (by unfold T C; dsimp only; rw[hk]; kernel_rfl) [] H).trans (D8 (A0t.of rfl) (.bool _))
theorem E48:∀ n:Nat,D5 [Value.int .i64 0] n=rows N3 (List.replicate n 0)
 | 0=>rfl
 | n+1=>by
  have ih:=E48 n;show [Value.int .i64 0]++D5 [Value.int .i64 0] n=_;rw[ih,List.replicate_succ];rfl
theorem E6b{H:A2}{b n:Nat}(hg:H.get b=some ⟨D5 [Value.int .i64 0] n,1,false⟩):Sl H 1 (.slice (some ⟨b,0,none⟩) n n) N3 (List.replicate n 0) :=
 .inr (.inr ⟨b,0,n,_,by rw[List.length_replicate],by rw[List.length_replicate]; exact Nat.le_refl _,hg,by rw[List.drop_zero,E48,List.take_of_length_le (by rw[ζk N0]; exact Nat.le_refl _)]⟩)
theorem D9y(P:Program)(t:TypeId)(H:A2){a:Int}(h0:0≤a)(h1:a<4):A5 P .shl t (.int .i64 a) (.int .u64 30) H=.ok (.int .i64 (a*1073741824)) H:=by
 unfold A5;simp[A0n,A43,IntKind.signed,IntKind.bits];exact wrap_i64 (by omega) (by omega)
def kb(kind:Int):Int:=kind % 4*1073741824
theorem D41 (k:Nat) {H0 H:A2} {o:Option Nat} {s7:Value} {lk:List Int} (g:D2 H0 H [D6 o 1 s7 B7 lk]) {v:Value} {s:List Int} (hv:Sl H0 1 v A6p s) (hl:lk.length+2*s.length<2 ^ 29) :
  ∃ s' o' zz H',loopN (D1f k (R (T k))) B8 [(3,s7),(22,v),(23,.int .i64 s.length),(24,.int .i64 0)] H =
   .ok (.exit 0,[(3,s'),(22,v),(23,.int .i64 s.length),(24,zz),(25,.bool false)]) H'∧D2 H0 H' [D6 o' 1 s' B7 (lk++Y0 (s.map m16))]:=by
 obtain ⟨xx,e',H1,hr1,rfl,s',o',rfl,g1⟩:=K5 (body:=D1f k (R (T k))) s.length
  (fun j e H'=>∃ s' o',e=[(3,s'),(22,v),(23,.int .i64 s.length),(24,.int .i64 j)]∧D2 H0 H' [D6 o' 1 s' B7 (lk++Y0 ((s.map m16).take j))])
  (fun xx e H'=>xx=.exit 0∧∃ s' o',e=[(3,s'),(22,v),(23,.int .i64 s.length),(24,.int .i64 s.length),(25,.bool false)]∧D2 H0 H' [D6 o' 1 s' B7 (lk++Y0 (s.map m16))])
  (e0:=[(3,s7),(22,v),(23,.int .i64 s.length),(24,.int .i64 0)]) (H0:=H) ⟨s7,o,rfl,by simpa[Y0] using g⟩ (by omega)
  (fun j e H' hj ⟨s',o',he,g⟩=>by
   subst he;have hjl:(j:Int)<s.length:=by omega
   obtain⟨x,hx⟩:∃ x,s[j]?=some x:=⟨_,List.getElem?_eq_getElem hj⟩
   have hx2:(s.map m16)[j]?=some (m16 x):=by rw[List.getElem?_map,hx]; rfl
   have hxb:=B2g x;obtain⟨p,i1,i2⟩:=hv.ix1 G9z j x hx _ rfl;have i2:=i2 H' g.ext;have hw:=B2r x;obtain⟨s2,o2,H2,e2,g2⟩:=L7 k g 0 rfl (m16 x) 2 2 rfl hxb.1 (by omega) (by omega) (by rw[List.length_append,X3,List.length_take,List.length_map]; omega);simp only[List.set_cons_zero] at g2;rw[List.append_assoc,← G99 _ hx2] at g2;have hw64:IntKind.i64.wrap (m16 x)=m16 x:=wrap_i64 (by omega) (by omega);refine .inl ⟨_,H2,?_,s2,o2,rfl,g2⟩;rw[E0m];simp -implicitDefEqProofs(disch:=omega) [hjl,i1,i2,hw,hw64,e2])
  (fun e H' ⟨s',o',he,g⟩=>by
   subst he;rw[List.take_of_length_le (by simp)] at g;refine⟨.exit 0,_,H',?_,by simp,rfl,s',o',rfl,g⟩;rw[E0m];simp -implicitDefEqProofs)
 exact⟨s',o',_,H1,hr1,g1⟩
set_option maxRecDepth 20000 in
set_option maxHeartbeats 1000000 in
theorem E3t (k:Nat) (hW:B2h k=.no) (p:A0s) (hp:p.ok) (h1:p.cls.length≤1000) (h2:p.rows.length≤1000) (h3:p.ents.length≤1000) {H:A2} {vC vR sE:Value} {rv:List (List Int × Value)} (hP:A1q H p vC vR sE rv)
  {kind:Int} (hkind:0≤kind∧kind<256) {vV:Value} {vals:List Int} (hV:Sl H 1 vV A6p vals) (h4:vals.length≤1000) :
  ∃ s o H',A6w k (R (T k)) (.agg #[vC,vR,sE,.int .u8 p.wide,.int .u8 kind,vV]) H=.ok s H'∧D2 H H' [D6 o 1 s B7 (A1f p 1 (kb kind) (vals.map m16))]∧H.n+2≤H'.n:=by
 obtain⟨H1,hH1⟩:∃ H1,H1=H.push ⟨[vC,vR,sE,.int .u8 p.wide,.int .u8 kind,vV],1,false⟩:=⟨_,rfl⟩
 have hx1:Ext H H1:=by rw[hH1]; exact (Ext.refl H).push _
 have hg1:H1.get H.n=some ⟨[vC,vR,sE,.int .u8 p.wide,.int .u8 kind,vV],1,false⟩:=by rw[hH1]; exact ζd _ _ _ rfl
 obtain⟨N,hN⟩:∃ N,N=(K6 p 1 (List.replicate 4 0)).length:=⟨_,rfl⟩
 have hNb:N≤100000:=by rw[hN]; exact E3p hp 1 (by simp) h1 h2 h3
 obtain⟨s0,o0,J0,e0,g,_⟩:=G6i k hW p hp 1 (by omega) 4 (by omega) h1 h2 h3 (D2.nil H1) (hP.up hx1);rw[G4t] at g;simp only[List.nil_append] at g;have gx0:=g.ext;have hb0:=gx0.get hg1;have hkb:0≤kb kind∧kb kind≤3221225472∧kb kind % 1073741824=0:=by unfold kb; omega
 have hrem:=fun H=>A58 A0 5 H .u8 kind 4 (by decide);rw[Int.tmod_eq_emod_of_nonneg hkind.1] at hrem;have hwk:IntKind.i64.wrap (kind % 4)=kind % 4:=wrap_i64 (by omega) (by omega);have hsh:∀ H,A5 A0 .shl 3 (.int .i64 (kind % 4)) (.int .u64 30) H=.ok (.int .i64 (kb kind)) H:=fun H=>D9y A0 3 H (a:=kind % 4) (by omega) (by omega);have hor:=fun H=>A7m A0 3 H (kb kind) (N:Int) 30 hkb.1 hkb.2.2 (by omega) (by omega) (by omega);have hln0:∀ H',lnS s0 H'=.ok (.int .i64 N) H':=by rw[hN]; exact (g.row 0 rfl).len
 have hlnV:∀ H',lnS vV H'=.ok (.int .i64 vals.length) H':=fun H'=>hV.len H';have hN16:20≤N:=by rw[hN]; unfold K6; simp; omega
 obtain⟨c5,rfl,hs5,cut1⟩:=g.cut1 0 rfl 16 4 (by omega) (by omega) .i64 .i64;have g:=g.more_row (Ext.refl _) (N2.nil B7 _ 1) (fun b hb=>by cases hb);simp only[List.cons_append,List.nil_append] at g;obtain⟨t6,u6,J6,f6,g⟩:=L7 k g 1 rfl (kb kind+N) 4 4 rfl (by omega) (by omega) (by omega) (by simp);simp only[List.set_cons_zero,List.set_cons_succ,List.nil_append] at g;obtain⟨c6,h6,_,cut2⟩:=g.cut1 0 rfl 16 4 (by omega) (by omega) .i64 .i64;have h6:=Option.some.inj h6;subst h6;obtain⟨J7,f7,g⟩:=g.copy1 0 1 rfl rfl 16 4 ((K6 p 1 (List.replicate 4 0)).length - 16) (by simp) (by omega) (by omega);simp only[List.set_cons_zero] at g;have hcopy:=G4u p 1 (List.replicate 4 0) (D4 (kb kind+N:Int) 4) [] (by simp);rw[B25,List.append_nil,List.append_nil] at hcopy;rw[hcopy] at g;have hrl:(K6 p 1 (D4 (kb kind+N:Int) 4)).length=N:=by rw[hN]; exact E3c p 1 _ _ (by simp)
 have g0:=g.take 1;simp only[List.take_succ_cons,List.take_zero] at g0;have hv7:=g0.get;obtain⟨s',o',zz,J8,f8,g8⟩:=D41 k g0 (hV.up hx1) (by rw[hrl]; omega);have hfin:K6 p 1 (D4 (kb kind+N:Int) 4)++Y0 (vals.map m16)=A1f p 1 (kb kind) (vals.map m16):=by unfold A1f; rw[← hN]
 rw [hfin] at g8;have g1':J7.get H.n=some ⟨[vC,vR,sE,.int .u8 p.wide,.int .u8 kind,vV],1,false⟩:=g.ext.get hg1;have hbig:H.n+2≤J8.n:=by
  have hn1:H1.n=H.n+1:=by rw[hH1]; rfl
  rcases g8.own 0 rfl with⟨q1,q2⟩ | ⟨b2,q1,q2,q3⟩
  ·exfalso;have:=congrArg List.length q1;unfold A1f at this;rw[List.length_append,B91,← hN] at this;simp at this;omega
  ·have:=A2.get_lt q3;omega
 refine⟨s',o',J8,?_,?_,hbig⟩;rotate_left
 ·have ho:=(g8.own 0 rfl).base hx1.n;obtain⟨o2,ho2,hlt⟩:=ho.toO;have hst:D2 H J8 ([]++[D6 o2 1 s' B7 (A1f p 1 (kb kind) (vals.map m16))]):=(D2.nil H).more_row (hx1.trans g8.ext) ho2 fun b hb=>⟨hlt b hb,ho2.lt b hb⟩
  have h7:o2=o':=by
   have hr:=g8.row 0 rfl;rcases hr with⟨r1,r2,r3⟩ | ⟨b,r1,r2,r3⟩
   ·exfalso;have:=congrArg List.length r2;unfold A1f at this;rw[List.length_append,B91,← hN] at this;simp at this;omega
   ·rcases ho2 with⟨q1,q2,q3⟩ | ⟨b2,q1,q2,q3⟩
    ·exfalso;have:=congrArg List.length q2;unfold A1f at this;rw[List.length_append,B91,← hN] at this;simp at this;omega
    ·rw[r1,q1];rw[r2] at q2;injection q2 with q2;injection q2 with q2;injection q2 with q2;rw[q2]
  subst h7;simpa using hst
 have hv5:veq (.slice (some ⟨c5,16,none⟩) 4 ((K6 p 1 (List.replicate 4 0)).length - 16)) (.slice (some ⟨c5,16,none⟩) 4 ((K6 p 1 (List.replicate 4 0)).length - 16))=true:=by simp
 generalize (K6 p 1 (List.replicate 4 0)).length - 16=cap at cut1 cut2 f7 hv5;have cut1:slS 1 s0 (some (.int .i64 16)) (some (.int .i64 20)) none J0=.ok (.slice (some ⟨c5,16,none⟩) 4 cap) J0:=cut1;have cut2:slS 1 s0 (some (.int .i64 16)) (some (.int .i64 20)) none J6=.ok (.slice (some ⟨c5,16,none⟩) 4 cap) J6:=cut2;rw[hH1] at e0;have e0:R (T k) F.ζ3 [.agg #[vC,vR,sE,.int .u8 p.wide],.int .i64 1,.int .i64 4] (H.push ⟨[vC,vR,sE,.int .u8 p.wide,.int .u8 kind,vV],1,false⟩)=.ok s0 J0:=e0;simp -implicitDefEqProofs(disch:=omega) [A6w,hb0,hrem,hwk,hsh,hor,e0,hln0,cut1,f6,cut2,f7,hv5,g1',hlnV,f8,G03]
theorem G9d(k:Nat){H:A2}(hP0:B00 B7o k H.n=.fz)(hW:B2h k=.no)(p:A0s)(hp:p.ok)(h1:p.cls.length≤1000)(h2:p.rows.length≤1000)(h3:p.ents.length≤1000){vC vR sE:Value}{rv:List (List Int × Value)}(hP:A1q H p vC vR sE rv)
  {kind:Int} (hkind:0≤kind∧kind<256) {vV:Value} {vals:List Int} (hV:Sl H 1 vV A6p vals) (h4:vals.length≤1000) :
  R (T k) F.A6w [.agg #[vC,vR,sE,.int .u8 p.wide,.int .u8 kind,vV]] H=.ok (lv B7 (A1f p 1 (kb kind) (vals.map m16))) H:=by
 obtain⟨s,o,H',e,g,hbig⟩:=E3t k hW p hp h1 h2 h3 hP hkind hV h4;rw[E25];rw[hP0];obtain⟨L,hf⟩:=(g.own 0 rfl).freeze E9 (fun n _ v hv=>by simp at hv; subst hv; trivial) 6;exact G7 (v:=s) (H':=H') e hf g.ext (D3.B _).alive
theorem G7p(k:Nat)(hW:B2h k=.no)(p:A0s)(hp:p.ok)(h1:p.cls.length≤1000)(h2:p.rows.length≤1000)(h3:p.ents.length≤1000){H0 H:A2}(hP0:B00 B7o k H.n=.no){L:List It}(st:D2 H0 H L){vC vR sE:Value}{rv:List (List Int × Value)}(hP:A1q H p vC vR sE rv)
  {kind:Int} (hkind:0≤kind∧kind<256) {vV:Value} {vals:List Int} (hV:Sl H 1 vV A6p vals) (h4:vals.length≤1000) :
  ∃ s o H',R (T k) F.A6w [.agg #[vC,vR,sE,.int .u8 p.wide,.int .u8 kind,vV]] H=.ok s H'∧D2 H0 H' (L++[D6 o 1 s B7 (A1f p 1 (kb kind) (vals.map m16))])∧H.n+2≤H'.n:=by
 obtain⟨s,o,H',e,g,hbig⟩:=E3t k hW p hp h1 h2 h3 hP hkind hV h4;rw[E25,hP0];obtain⟨o',g'⟩:=st.more_own (g.own 0 rfl) g.ext;exact⟨s,o',H',A0y e,g',hbig⟩
def A2b(o:Option A1o):Value:=match o with | some t=>A7k t | none=>.pointer none
theorem G7r(o:Option A1o):D3 (A2b o):=by
 cases o with
 | none=>exact .nilPtr
 | some t=>exact D3.ank t
theorem G5x (k:Nat) {H:A2} (b:List Int) (hb:Byt b) (g:Int) (hg:1≤g∧g≤65535) (hl:b.length<2 ^ 31) (p2 p3 p4:Nat) (old:Value)
  (h2:H.get p2=some ⟨[lv B7 b],1,false⟩) (h3:H.get p3=some ⟨[.int .i64 g],1,false⟩) (h4:H.get p4=some ⟨[old],1,false⟩) (ht:∀ H',R (T k) F.ζ1 [vwB b,.int .i64 g] H'=orF (A4q b g) A7k H') :
  R (T k) F.B0f [B6 p2,B6 p3,B6 p4] H=match A4q b g with
   | some t=>.ok (.tuple #[]) (H.set p4 (some ⟨[A7k t],1,false⟩))
   | none=>.panic K7 H:=by
 rw[G46];have ht:=ht H;cases h:A4q b g with
 | none=>
  rw[h] at ht;refine A0p ⟨H,?_,Ext.refl H⟩ D3.fail.alive;simp -implicitDefEqProofs(disch:=omega) [B0f,h2,h3,ht]
 | some x=>
  rw[h] at ht;simp -implicitDefEqProofs(disch:=omega) [B0f,h2,h3,h4,ht]
def B0r(b:List Int)(g:Int):Option A1o:=if 1≤g∧g≤65535 then A4q b g else none
def B0q(b:List Int)(g:Int):Int:=if 1≤g∧g≤65535 then (if (A4q b g).isSome then 0 else 2) else 1
theorem G5r (k:Nat) {H:A2} {v:Value} {b:List Int} (hv:Sl H 1 v B7 b) (hb:Byt b) (g:Int) (hl:b.length≤2 ^ 30) (ht:(1≤g∧g≤65535)→∀ H',R (T k) F.ζ1 [vwB b,.int .i64 g] H'=orF (A4q b g) A7k H') :
  R (T k) F.B0m [v,.int .i64 g] H=.ok (.tuple #[A2b (B0r b g),.int .i64 (B0q b g)]) H:=by
 rw [G6k];have hx2:=(Ext.refl H).push ⟨[.int .i64 g],1,false⟩;have al:∀ o n,L6 H (.tuple #[A2b o,.int .i64 n]):=fun o n=>(D3.tupleL (l:=[A2b o,.int .i64 n]) (.cons (G7r o) (.cons (.int _ _) .nil))).alive;have fz:∀ H' o n,fzV H.n H' N9 (.tuple #[A2b o,.int .i64 n])=some (.tuple #[A2b o,.int .i64 n],[]):=fun H' o n=>by
  cases o <;> rfl
 by_cases hgg:1≤g∧g≤65535
 ·have c1:¬ g<1:=by omega
  have c2:¬ g>65535:=by omega
  have hx3:=hx2.push ⟨[.pointer none],1,false⟩;have o3:=B2c k (hv.up hx3);have by3:=E5j k (hv.up hx3) hl;have o4:=fun H=>D2i k b H;have hin:=G5x k (H:=((H.push ⟨[.int .i64 g],1,false⟩).push ⟨[.pointer none],1,false⟩).push ⟨[lv B7 b],1,false⟩) b hb g hgg (by omega) (H.n+2) H.n (H.n+1) (.pointer none) (by simp) (by simp) (by simp) (ht hgg);cases hlk:A4q b g with
  | none=>
   rw[hlk] at hin;have ht:=B5x k F.B0f #[B6 (H.n+2),B6 H.n,B6 (H.n+1)] hin;refine G7 (H':=((H.push ⟨[.int .i64 g],1,false⟩).push ⟨[.pointer none],1,false⟩).push ⟨[lv B7 b],1,false⟩) (v:=.tuple #[A2b none,.int .i64 2]) ?_ (by unfold B0r B0q; rw[if_pos hgg,if_pos hgg,hlk]; exact fz _ _ _) (hx3.push _) (al _ _);simp -implicitDefEqProofs(disch:=omega) [B0m,c1,c2,o3,by3,o4,ht,A2b]
  | some x=>
   rw[hlk] at hin;have ht:=B5y k F.B0f #[B6 (H.n+2),B6 H.n,B6 (H.n+1)] hin;refine G7 (H':=((H.push ⟨[.int .i64 g],1,false⟩).push ⟨[A7k x],1,false⟩).push ⟨[lv B7 b],1,false⟩) (v:=.tuple #[A2b (some x),.int .i64 0]) ?_ (by unfold B0r B0q; rw[if_pos hgg,if_pos hgg,hlk]; exact fz _ _ _) ((hx2.push _).push _) (al _ _);simp at ht;simp -implicitDefEqProofs(disch:=omega) [B0m,c1,c2,o3,by3,o4,ht,A2b]
 ·refine G7 (H':=(H.push ⟨[.int .i64 g],1,false⟩).push ⟨[.pointer none],1,false⟩) (v:=.tuple #[A2b none,.int .i64 1]) ?_ (by unfold B0r B0q; rw[if_neg hgg,if_neg hgg]; exact fz _ _ _) (hx2.push _) (al _ _);by_cases c1:g<1
  ·simp -implicitDefEqProofs(disch:=omega) [B0m,c1,A2b]
  ·have c2:g>65535:=by omega
   simp -implicitDefEqProofs(disch:=omega) [B0m,c1,c2,A2b]
end Go.Sw
end
section
set_option maxRecDepth 100000
namespace Go.Sw
noncomputable section
variable (k:Nat) (call:A8)
def D4n:Env→A2→Res (D0 × Env):=M4 (C k) call F.ζs [1,1,1,1,0,1,0,0]
def E1h:G0 Value:=D7 0 (E4 (B3 (C k) call F.ζs [1,1,1,1,1]) (G2 A0 (G3 A0 F.ζs)))
def D1e:Env→A2→Res (D0 × Env):=M4 (C k) call F.ζs [1,1,1,1,0,1,0,0,1,1,0,0,1,1,1,1,0,0]
def E1i:G0 (D0 × Env):=D7 2 (D7 1 (E4 (B3 (C k) call F.ζs [1,1,1,1,0,1,0,0,1,1,1]) (M2 (Q2 (C k) F.ζs [1,1,1,1,0,1,0,0]))))
def ζs(a0:Value)(h:A2):Res Value :=
 (B9 A0 22 4 [(0,(.int .u8 0)),(1,(.int .u8 0)),(2,(.int .u8 0)),(3,(.int .u8 0))] h).bind fun v0 h0=>(B9 A0 22 4 [(0,(.int .u8 0)),(1,(.int .u8 0)),(2,(.int .u8 0)),(3,(.int .u8 12))] h0).bind fun v1 h1=>(A6 A0 .append [22,22] [v0,v1] h1).bind fun v2 h2=>(call F.ζ4 [(.slice none 0 0),(.int .i64 8),(.int .i64 2)] h2).bind fun v3 h3=>(call F.ζ4 [v3,(.int .i64 0),(.int .i64 2)] h3).bind fun v4 h4=>(A6 A0 .len [70] [a0] h4).bind fun v5 h5=>(call F.ζ4 [v4,v5,(.int .i64 2)] h5).bind fun v6 h6=>(A6 A0 .len [70] [a0] h6).bind fun v7 h7=>(loopN (D4n k call) B8 [(3,v2),(4,v6),(5,(.slice none 0 0)),(18,a0),(19,v7),(20,(.int .i64 0))] h7).bind fun r17 h8=>
 E1h k call r17.1 r17.2 h8
theorem G1p(k:Nat)(a0:Value)(h:A2):R (T k) F.ζs [a0] h=nrm (own k) h (ζs k (R (T k)) a0 h) :=G9
theorem E0k(a3 a4 a5 a18 a19 a20:Value)(h:A2):D4n k call [(3,a3),(4,a4),(5,a5),(18,a18),(19,a19),(20,a20)] h =
 (A5 A0 .lss 3 a20 a19 h).bind fun v0 h0=>
 condV (some v0) (
 (A9 A0 70 a18 a20 h0).bind fun v1 h1=>(A3 A0 130 v1 h1).bind fun v2 h2=>(A6 A0 .len [22] [a5] h2).bind fun v3 h3=>(call F.ζ4 [a4,v3,(.int .i64 2)] h3).bind fun v4 h4=>(A6 A0 .len [130] [v2] h4).bind fun v5 h5=>(call F.ζ4 [a5,v5,(.int .i64 4)] h5).bind fun v6 h6=>(A6 A0 .len [130] [v2] h6).bind fun v7 h7=>(loopN (D1e k call) B8 [(3,a3),(4,v4),(5,v6),(18,a18),(19,a19),(20,a20),(32,v2),(33,v7),(34,(.int .i64 0))] h7).bind fun r35 h8=>
 E1i k call r35.1 r35.2 h8)
 (
 .ok ((.exit 0),[(3,a3),(4,a4),(5,a5),(18,a18),(19,a19),(20,a20),(21,v0)]) h0) :=
 (E2 _ _).trans (by kernel_rfl)
theorem E0l(a3 a4 a5 a18 a19 a20 a32 a33 a34:Value)(h:A2):D1e k call [(3,a3),(4,a4),(5,a5),(18,a18),(19,a19),(20,a20),(32,a32),(33,a33),(34,a34)] h =
 (A5 A0 .lss 3 a34 a33 h).bind fun v0 h0=>
 condV (some v0) (
 (A9 A0 130 a32 a34 h0).bind fun v1 h1=>(A3 A0 126 v1 h1).bind fun v2 h2=>(D1 A0 126 h2).bind fun v3 h3=>(B4 A0 126 v3 v2 h3).bind fun _v4 h4=>(A9 A0 126 v3 (.int .i64 0) h4).bindN fun v5 h5=>(A3 A0 125 v5 h5).bindN fun v6 h6=>(M9 A0 125 135 v6 h6).bindN fun v7 h7=>(M9 A0 135 3 v7 h7).bindN fun v8 h8=>(call F.ζ4 [a5,v8,(.int .i64 2)] h8).bindT (fun p57 h9=>(A9 A0 126 v3 (.int .i64 1) h8).bindN fun v9 ha=>(A3 A0 125 v9 ha).bindN fun va hb=>(M9 A0 125 135 va hb).bindN fun vb hc=>(M9 A0 135 3 vb hc).bindN fun vc hd=>E6 ((A4 (A3 A0 125 v9 h4) va && true) && true) (.panic p57 h9)) fun vd he=>(A9 A0 126 v3 (.int .i64 1) he).bindN fun ve hf=>(A3 A0 125 ve hf).bindN fun vf hg=>(M9 A0 125 135 vf hg).bindN fun vg hh=>(M9 A0 135 3 vg hh).bindN fun vh hi=>(call F.ζ4 [vd,vh,(.int .i64 2)] hi).bindT (fun p77 hj=>E6 ((A4 (A3 A0 125 ve h4) vf && true) && true) (.panic p77 hj)) fun vi hk=>
 E6 ((A4 (A3 A0 125 ve h4) vf && true) && true) (
 (A5 A0 .add 3 a34 (.int .i64 1) hk).bind fun vj hl=>
 .ok (.normal,[(3,a3),(4,a4),(5,vi),(18,a18),(19,a19),(20,a20),(32,a32),(33,a33),(34,vj)]) hl))
 (
 .ok ((.exit 2),[(3,a3),(4,a4),(5,a5),(18,a18),(19,a19),(20,a20),(32,a32),(33,a33),(34,a34),(35,v0)]) h0) :=
 (E2 _ _).trans (by kernel_rfl)
theorem G01(a3 a4 a5 a18 a19 a20 a21:Value)(h:A2):E1h k call (.exit 0) [(3,a3),(4,a4),(5,a5),(18,a18),(19,a19),(20,a20),(21,a21)] h =
 (A6 A0 .len [22] [a4] h).bind fun v0 h0=>(A5 A0 .add 3 (.int .i64 12) v0 h0).bind fun v1 h1=>(call F.ζ4 [a3,v1,(.int .i64 4)] h1).bind fun v2 h2=>(A6 A0 .append [22,22] [v2,a4] h2).bind fun v3 h3=>(A6 A0 .append [22,22] [v3,a5] h3).bind fun v4 h4=>
 .ok v4 h4:=by kernel_rfl
theorem G02(a3 a4 a5 a18 a19 a20 a32 a33 a34 a35:Value)(h:A2):E1i k call (.exit 2) [(3,a3),(4,a4),(5,a5),(18,a18),(19,a19),(20,a20),(32,a32),(33,a33),(34,a34),(35,a35)] h =
 (A5 A0 .add 3 a20 (.int .i64 1) h).bind fun v0 h0=>
 .ok (.normal,[(3,a3),(4,a4),(5,a5),(18,a18),(19,a19),(20,v0)]) h0:=by kernel_rfl
end
end Go.Sw
end
section
namespace Go.Sw
open Go.RowKit
abbrev A9l(p:Int × Int):List Value:=[.int .i16 p.1,.int .i16 p.2]
theorem B6j(p:Int × Int):(A9l p).length=2:=rfl
def ptB(p:Int × Int):List Int:=D4 (m16 p.1) 2++D4 (m16 p.2) 2
def A6u(l:List (Int × Int)):List Int:=(l.map ptB).flatten
def glB(l:List (Int × Int)):List Int:=D4 l.length 4++A6u l
def N1(ls:List (List (Int × Int))):List Int:=(ls.map glB).flatten
def D0f(ls:List (List (Int × Int)))(j:Nat):List Int:=D4 ((N1 (ls.take j)).length:Nat) 2
def A6o(ls:List (List (Int × Int)))(n:Nat):List Int:=((List.range n).map (D0f ls)).flatten
def ofA(ls:List (List (Int × Int)))(n:Nat):List Int:=(D4 8 2++D4 0 2++D4 ls.length 2)++A6o ls n
def A2l(ls:List (List (Int × Int))):List Int:=[0,0,0,0,0,0,0,12]++D4 (12+(ofA ls ls.length).length:Nat) 4++ofA ls ls.length++N1 ls
theorem D0k(p:Int × Int):(ptB p).length=4:=by simp[ptB]
theorem A8b(l:List (Int × Int)):(A6u l).length=4*l.length:=by
 unfold A6u;rw[A3o (z:=4) (fun r hr=>by obtain⟨p,_,rfl⟩:=List.mem_map.1 hr; exact D0k p),List.length_map];omega
theorem B3y(l:List (Int × Int)):(glB l).length=4+4*l.length:=by unfold glB; rw[List.length_append,A8b,B25]
theorem J0m(l:List (Int × Int))(p:Int × Int):A6u (l++[p])=A6u l++ptB p:=by simp[A6u]
theorem G85(ls:List (List (Int × Int)))(l:List (Int × Int)):N1 (ls++[l])=N1 ls++glB l:=by simp[N1]
theorem B94:∀ (ls:List (List (Int × Int))),(∀ l,l ∈ ls→l.length≤30)→(N1 ls).length≤ls.length*124
 | [],_=>by simp[N1]
 | l :: ls,h=>by
  have h1:=B94 ls fun x hx=>h x (by simp[hx]);have h2:=h l (by simp);have h3:=B3y l;unfold N1 at h1 ⊢;simp only[List.map_cons,List.flatten_cons,List.length_append,List.length_cons];omega
theorem G7t(ls:List (List (Int × Int)))(n:Nat):A6o ls (n+1)=A6o ls n++D0f ls n:=by simp[A6o,List.range_succ]
theorem E5l(ls:List (List (Int × Int)))(n:Nat):(A6o ls n).length=n*2:=by
 unfold A6o;rw[A3o (z:=2) (fun r hr=>by obtain⟨p,_,rfl⟩:=List.mem_map.1 hr; simp[D0f]),List.length_map,List.length_range]
theorem D36(b:Nat)(h:A2):ixA 2 1 (.pointer (some ⟨b,0,none⟩)) (.int .i64 0) h=.ok (.pointer (some ⟨b,0,none⟩)) h:=by simp[ixA]
theorem D37(b:Nat)(h:A2):ixA 2 1 (.pointer (some ⟨b,0,none⟩)) (.int .i64 1) h=.ok (.pointer (some ⟨b,1,none⟩)) h:=by simp[ixA]
theorem D40 (k:Nat) {H0 H:A2} {A B:It} {o:Option Nat} {s5:Value} {lk:List Int} (a3 a4 a18 a19 a20:Value) {v:Value} {l:List (Int × Int)} (hv:Sl H0 2 v A9l l) (hl:l.length≤30) (hk:lk.length<2 ^ 29)
  (g:D2 H0 H [A,B,D6 o 1 s5 B7 lk]) :
  ∃ s' o' zz H',loopN (D1e k (R (T k))) B8 [(3,a3),(4,a4),(5,s5),(18,a18),(19,a19),(20,a20),(32,v),(33,.int .i64 l.length),(34,.int .i64 0)] H =
   .ok (.exit 2,[(3,a3),(4,a4),(5,s'),(18,a18),(19,a19),(20,a20),(32,v),(33,.int .i64 l.length),(34,zz),(35,.bool false)]) H'∧D2 H0 H' [A,B,D6 o' 1 s' B7 (lk++A6u l)]:=by
 obtain ⟨xx,e',H1,hr1,rfl,s',o',rfl,g1⟩:=K5 (body:=D1e k (R (T k))) l.length
  (fun j e H'=>∃ s' o',e=[(3,a3),(4,a4),(5,s'),(18,a18),(19,a19),(20,a20),(32,v),(33,.int .i64 l.length),(34,.int .i64 j)]∧D2 H0 H' [A,B,D6 o' 1 s' B7 (lk++A6u (l.take j))])
  (fun xx e H'=>xx=.exit 2∧∃ s' o',e=[(3,a3),(4,a4),(5,s'),(18,a18),(19,a19),(20,a20),(32,v),(33,.int .i64 l.length),(34,.int .i64 l.length),(35,.bool false)]∧D2 H0 H' [A,B,D6 o' 1 s' B7 (lk++A6u l)])
  (e0:=[(3,a3),(4,a4),(5,s5),(18,a18),(19,a19),(20,a20),(32,v),(33,.int .i64 l.length),(34,.int .i64 0)]) (H0:=H) ⟨s5,o,rfl,by simpa[A6u] using g⟩ (by omega)
  (fun j e H' hj ⟨s',o',he,g⟩=>by
   subst he;have hjl:(j:Int)<l.length:=by omega
   obtain⟨p,hp⟩:∃ p,l[j]?=some p:=⟨_,List.getElem?_eq_getElem hj⟩
   obtain⟨q,i1,i2⟩:=((hv.up g.ext).rd (by decide) B6j).2 j p hp;have hlen:(lk++A6u (l.take j)).length<2 ^ 30:=by rw[List.length_append,A8b,List.length_take]; omega
   have g:=g.push ⟨A9l p,1,false⟩;simp only[List.cons_append,List.nil_append] at g;have b1:=B2g p.1;have b2:=B2g p.2;have hw1:=B2r p.1;have hw2:=B2r p.2;have hb:=g.get 3 rfl;obtain⟨s1,o1,H1,e1,g1⟩:=L7 k g 2 rfl (m16 p.1) 2 2 rfl b1.1 (by omega) (by omega) hlen;simp only[List.set_cons_zero,List.set_cons_succ] at g1;have hb1:=g1.get 3 rfl;obtain⟨s2,o2,H2,e2,g2⟩:=L7 k g1 2 rfl (m16 p.2) 2 2 rfl b2.1 (by omega) (by omega) (by rw[List.length_append,List.length_append,A8b,List.length_take,B25]; omega);simp only[List.set_cons_zero,List.set_cons_succ] at g2;have w1:IntKind.i64.wrap (m16 p.1)=m16 p.1:=wrap_i64 (by omega) (by omega);have w2:IntKind.i64.wrap (m16 p.2)=m16 p.2:=wrap_i64 (by omega) (by omega);have hb2:=g2.get 3 rfl;refine .inl ⟨_,H2,?_,s2,o2,rfl,by rw[A29 hp,J0m]; simpa[ptB] using g2.take 3⟩;rw[E0l];simp -implicitDefEqProofs(disch:=omega) [hjl,i1,i2,hb,hb1,hb2,D36,D37,hw1,hw2,w1,w2,e1,e2])
  (fun e H' ⟨s',o',he,g⟩=>by
   subst he;rw[List.take_length] at g;refine⟨.exit 2,_,H',?_,by simp,rfl,s',o',rfl,g⟩;rw[E0l];simp -implicitDefEqProofs)
 exact⟨s',o',_,H1,hr1,g1⟩
abbrev D31(x:List (Int × Int) × Value):List Value:=[x.2]
theorem B6m(x:List (Int × Int) × Value):(D31 x).length=1:=rfl
structure A9b (H:A2) (ls:List (List (Int × Int))) (v:Value) (rv:List (List (Int × Int) × Value)):Prop where
 fst:rv.map Prod.fst=ls
 each:∀ x,x ∈ rv→Sl H 2 x.2 A9l x.1
 all:Sl H 1 v D31 rv
theorem A9b.up{H H':A2}{ls:List (List (Int × Int))}{v:Value}{rv:List (List (Int × Int) × Value)}(h:A9b H ls v rv)(he:Ext H H'):A9b H' ls v rv:=⟨h.fst,fun x hx=>(h.each x hx).up he,h.all.up he⟩
set_option maxHeartbeats 1000000 in
theorem G6e (k:Nat) {H:A2} {ls:List (List (Int × Int))} {v:Value} {rv:List (List (Int × Int) × Value)} (hP:A9b H ls v rv) (hn:ls.length≤30) (hl:∀ l,l ∈ ls→l.length≤30) :
  ∃ s o H',ζs k (R (T k)) v H=.ok s H'∧D2 H H' [D6 o 1 s B7 (A2l ls)]:=by
 have hrvl:rv.length=ls.length:=by rw[← hP.fst]; simp
 have hvl:=fun H'=>hP.all.len H';rw[hrvl] at hvl;have dl:=fun j=>B94 (ls.take j) fun l h=>hl l (List.mem_of_mem_take h);have ho1:N2 (H.push ⟨[.int .u8 0,.int .u8 0,.int .u8 0,.int .u8 0],1,false⟩) (some H.n) 1 (.slice (some ⟨H.n,0,none⟩) 4 4) B7 [0,0,0,0]:=.inr ⟨H.n,rfl,rfl,ζd _ _ _ rfl⟩;have g:=(D2.nil H).more_row ((Ext.refl H).push ⟨[.int .u8 0,.int .u8 0,.int .u8 0,.int .u8 0],1,false⟩) ho1 (fun b hb=>by injection hb with hb; subst hb; simp);have ho2:N2 ((H.push ⟨[.int .u8 0,.int .u8 0,.int .u8 0,.int .u8 0],1,false⟩).push ⟨[.int .u8 0,.int .u8 0,.int .u8 0,.int .u8 12],1,false⟩) (some (H.n+1)) 1 (.slice (some ⟨H.n+1,0,none⟩) 4 4) B7 [0,0,0,12]:=.inr ⟨H.n+1,rfl,rfl,ζd _ _ _ (by simp)⟩;have g:=g.more_row ((Ext.refl _).push ⟨[.int .u8 0,.int .u8 0,.int .u8 0,.int .u8 12],1,false⟩) ho2 (fun b hb=>by injection hb with hb; subst hb; simp);simp only[List.nil_append,List.cons_append] at g;obtain⟨s0,o0,H1,e0,g⟩:=g.appendRow (bytes:=1) 0 1 E9 rfl rfl (by simp) (by decide);simp only[List.set_cons_zero,List.set_cons_succ] at g;have g:=g.take 1;simp only[List.take_succ_cons,List.take_zero] at g;have g:=g.more_row (Ext.refl _) (N2.nil B7 _ 1) (fun b hb=>by cases hb);simp only[List.nil_append,List.cons_append] at g;obtain⟨t1,u1,J1,f1,g⟩:=L7 k g 1 rfl 8 2 2 rfl (by omega) (by omega) (by omega) (by simp);simp only[List.set_cons_zero,List.set_cons_succ] at g;obtain⟨t2,u2,J2,f2,g⟩:=L7 k g 1 rfl 0 2 2 rfl (by omega) (by omega) (by omega) (by simp);simp only[List.set_cons_zero,List.set_cons_succ] at g;obtain⟨t3,u3,J3,f3,g⟩:=L7 k g 1 rfl ls.length 2 2 rfl (by omega) (by omega) (by omega) (by simp);simp only[List.set_cons_zero,List.set_cons_succ,List.nil_append] at g;have g:=g.more_row (Ext.refl _) (N2.nil B7 _ 1) (fun b hb=>by cases hb);simp only[List.nil_append,List.cons_append] at g
 obtain ⟨xx,e',J4,hr4,rfl,z4,s4,o4,s5,o5,rfl,g⟩:=K5 (body:=D4n k (R (T k))) ls.length
  (fun j e H'=>∃ s o s5 o5,e=[(3,s0),(4,s),(5,s5),(18,v),(19,.int .i64 ls.length),(20,.int .i64 j)]∧D2 H H' [D6 o0 1 s0 B7 ([0,0,0,0]++[0,0,0,12]),D6 o 1 s B7 (ofA ls j),D6 o5 1 s5 B7 (N1 (ls.take j))])
  (fun xx e H'=>xx=.exit 0∧∃ z s o s5 o5,e=[(3,s0),(4,s),(5,s5),(18,v),(19,.int .i64 ls.length),(20,z),(21,.bool false)]∧D2 H H' [D6 o0 1 s0 B7 ([0,0,0,0]++[0,0,0,12]),D6 o 1 s B7 (ofA ls ls.length),D6 o5 1 s5 B7 (N1 ls)])
  (e0:=[(3,s0),(4,t3),(5,.slice none 0 0),(18,v),(19,.int .i64 ls.length),(20,.int .i64 0)]) (H0:=J3) ⟨t3,u3,.slice none 0 0,none,rfl,by simpa[ofA,A6o,N1] using g⟩ (by omega)
  (fun j e H' hj ⟨s,o,s5,o5,he,g⟩=>by
   subst he;have hlt:(j:Int)<ls.length:=by omega
   obtain⟨l,hl2⟩:∃ l,ls[j]?=some l:=⟨_,List.getElem?_eq_getElem hj⟩
   obtain⟨x,hx⟩:∃ x,rv[j]?=some x:=⟨_,List.getElem?_eq_getElem (by omega)⟩
   have hxr:x.1=l:=by
    have h0:(rv.map Prod.fst)[j]?=some x.1:=by rw[List.getElem?_map,hx]; rfl
    rw[hP.fst,hl2] at h0;exact (Option.some.inj h0).symm
   obtain⟨pp,i1,i2⟩:=hP.all.ix1 B6m j x hx _ rfl;have i2:=i2 H' g.ext;have hxs:=hP.each x (List.mem_of_getElem? hx);rw[hxr] at hxs;have hll:=hl l (List.mem_of_getElem? hl2);have hln:=fun H'=>hxs.len H';have d1:=dl j;rw[List.length_take] at d1;have hofl:(ofA ls j).length=6+j*2:=by unfold ofA; rw[List.length_append,E5l]; simp
   have q5:∀ H',lnS s5 H'=.ok (.int .i64 (N1 (ls.take j)).length) H':=(g.row 2 rfl).len;obtain⟨s1,o1,H1,e1,g1⟩:=L7 k g 1 rfl (N1 (ls.take j)).length 2 2 rfl (by omega) (by omega) (by omega) (by omega);simp only[List.set_cons_zero,List.set_cons_succ] at g1;obtain⟨s2,o2,H2,e2,g2⟩:=L7 k g1 2 rfl l.length 4 4 rfl (by omega) (by omega) (by omega) (by omega);simp only[List.set_cons_zero,List.set_cons_succ] at g2;obtain⟨s3,o3,zz,H3,e3,g3⟩:=D40 k s0 s1 v (.int .i64 ls.length) (.int .i64 j) hxs hll (by rw[List.length_append,B25]; omega) g2;refine .inl ⟨_,H3,?_,s1,o1,s3,o3,rfl,?_⟩
   ·rw[E0k];simp -implicitDefEqProofs(disch:=omega) [hlt,i1,i2,hln,q5,e1,e2,e3,G02]
   ·have h1:ofA ls (j+1)=ofA ls j++D4 ((N1 (ls.take j)).length:Nat) 2:=by unfold ofA; rw[G7t,← List.append_assoc]; rfl
    have h2:N1 (ls.take (j+1))=N1 (ls.take j)++D4 l.length 4++A6u l:=by rw[A29 hl2,G85]; unfold glB; rw[List.append_assoc]
    rw[h1,h2];exact g3)
  (fun e H' ⟨s,o,s5,o5,he,g⟩=>by
   subst he;rw[List.take_length] at g;refine⟨.exit 0,_,H',?_,by simp,rfl,.int .i64 ls.length,s,o,s5,o5,rfl,g⟩;rw[E0k];simp -implicitDefEqProofs)
 have hofl:(ofA ls ls.length).length=6+ls.length*2:=by unfold ofA; rw[List.length_append,E5l]; simp
 have hdl:=dl ls.length;rw[List.take_length] at hdl;have q4:∀ H',lnS s4 H'=.ok (.int .i64 (ofA ls ls.length).length) H':=(g.row 1 rfl).len;obtain⟨t6,u6,J6,f6,g⟩:=L7 k g 0 rfl (12+(ofA ls ls.length).length:Nat) 4 4 rfl (by omega) (by omega) (by omega) (by simp);simp only[List.set_cons_zero,List.set_cons_succ] at g;obtain⟨t7,u7,J7,f7,g⟩:=g.appendRow (bytes:=1) 0 1 E9 rfl rfl (by simp; omega) (by decide);simp only[List.set_cons_zero,List.set_cons_succ] at g;obtain⟨t8,u8,J8,f8,g⟩:=g.appendRow (bytes:=1) 0 2 E9 rfl rfl (by simp; omega) (by decide);simp only[List.set_cons_zero,List.set_cons_succ] at g;have g:=g.take 1;simp only[List.take_succ_cons,List.take_zero] at g;refine⟨t8,u8,J8,?_,by unfold A2l; simpa using g⟩;have w1:IntKind.i64.wrap (12+((ofA ls ls.length).length:Int))=12+(ofA ls ls.length).length:=wrap_i64 (by omega) (by omega)
 push_cast at f6
 simp -implicitDefEqProofs(disch:=omega) [ζs,e0,f1,f2,f3,hvl,hr4,G01,q4,w1,f6,f7,f8]
theorem G9c(k:Nat)(hk:k<1000000){H:A2}{ls:List (List (Int × Int))}{v:Value}{rv:List (List (Int × Int) × Value)}(hP:A9b H ls v rv)(hn:ls.length≤30)(hl:∀ l,l ∈ ls→l.length≤30) :
  R (T k) F.ζs [v] H=.ok (lv B7 (A2l ls)) H:=by
 obtain ⟨s,o,H',e,g⟩:=G6e k hP hn hl;rw[G1p];have ho:own k=.fz:=by
  unfold own;rw[show Nat.blt k 1000000=true from Nat.ble_eq_true_of_le hk];rfl
 rw[ho];obtain⟨L,hf⟩:=(g.own 0 rfl).freeze E9 (fun n _ v hv=>by simp at hv; subst hv; trivial) 6;exact G7 (v:=s) (H':=H') e hf g.ext (D3.B _).alive
end Go.Sw
end
