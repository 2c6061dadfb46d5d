/-
  Functions' forms, and what is proved of them, part 4.
-/
import Derived.Test.YtanfippcmdialaaGreatSwCfg
import Derived.Test.YtanfippcmdialaaGreatSwW3
import Derived.Test.YtanfippcmdialaaGreatSwLib8
set_option linter.unusedSimpArgs false
set_option linter.unusedVariables false
set_option linter.unusedSectionVars false
section
set_option maxRecDepth 100000
namespace Go.Sw
noncomputable section
variable (k:Nat) (call:A8)
def ζg(k:Nat)(call:A8)(a0:Value)(h:A2):Res Value :=
 (A5 A0 .eql 56 a0 (.slice none 0 0) h).bind fun v0 h0=>
 condV (some v0) (
 .ok (.slice none 0 0) h0)
 (
 (B9 A0 56 0 [] h0).bind fun v1 h1=>(A6 A0 .append [56,56] [v1,a0] h1).bind fun v2 h2=>
 .ok v2 h2)
theorem E9b(k:Nat)(sp:FuncId→Option Sp)(call:A8)(a0:Value)(h:A2):bodyK { P:=A0,kp:=kpS,sp:=sp } call F.ζg [a0] h=ζg k call a0 h:=by kernel_rfl
def ζ9(k:Nat)(call:A8)(a0:Value)(h:A2):Res Value :=
 (A5 A0 .eql 61 a0 (.slice none 0 0) h).bind fun v0 h0=>
 condV (some v0) (
 .ok (.slice none 0 0) h0)
 (
 (B9 A0 61 0 [] h0).bind fun v1 h1=>(A6 A0 .append [61,61] [v1,a0] h1).bind fun v2 h2=>
 .ok v2 h2)
theorem E9a(k:Nat)(sp:FuncId→Option Sp)(call:A8)(a0:Value)(h:A2):bodyK { P:=A0,kp:=kpS,sp:=sp } call F.ζ9 [a0] h=ζ9 k call a0 h:=by kernel_rfl
def D57:Env→A2→Res (D0 × Env):=M4 (C k) call F.A95 [1,1,0,1,0,0]
def E2g:G0 Value:=D7 0 (E4 (B3 (C k) call F.A95 [1,1,1]) (G2 A0 (G3 A0 F.A95)))
def A95(a0:Value)(h:A2):Res Value :=
 (B9 A0 61 0 [] h).bind fun v0 h0=>(loopN (D57 k call) B8 [(0,a0),(3,v0),(4,(.int .i64 0))] h0).bind fun r3 h1=>
 E2g k call r3.1 r3.2 h1
theorem G3x(k:Nat)(a0:Value)(h:A2):R (T k) F.A95 [a0] h=nrm .fz h (A95 k (R (T k)) a0 h) :=G9
theorem E1o(a0 a3 a4:Value)(h:A2):D57 k call [(0,a0),(3,a3),(4,a4)] h =
 (A6 A0 .len [30] [a0] h).bind fun v0 h0=>(A5 A0 .lss 3 a4 v0 h0).bind fun v1 h1=>
 condV (some v1) (
 (A9 A0 30 a0 a4 h1).bind fun v2 h2=>(A3 A0 3 v2 h2).bind fun v3 h3=>(E0 A0 150 [(0,v3),(1,a4)] h3).bind fun v4 h4=>(B9 A0 61 1 [(0,v4)] h4).bind fun v5 h5=>(A6 A0 .append [61,61] [a3,v5] h5).bind fun v6 h6=>(A5 A0 .add 3 a4 (.int .i64 1) h6).bind fun v7 h7=>
 .ok (.normal,[(0,a0),(3,v6),(4,v7)]) h7)
 (
 .ok ((.exit 0),[(0,a0),(3,a3),(4,a4),(9,v1)]) h1) :=
 (E2 _ _).trans (by kernel_rfl)
theorem G0u(a0 a3 a4 a9:Value)(h:A2):E2g k call (.exit 0) [(0,a0),(3,a3),(4,a4),(9,a9)] h =
 .ok a3 h:=by kernel_rfl
def D52:Env→A2→Res (D0 × Env):=M4 (C k) call F.A8q [1,1,0,1,0,0]
def D4u:G0 Value:=D7 0 (E4 (B3 (C k) call F.A8q [1,1,1]) (G2 A0 (G3 A0 F.A8q)))
def A8q(a0 a1:Value)(h:A2):Res Value :=
 (A6 A0 .len [61] [a0] h).bind fun v0 h0=>(A6 A0 .len [61] [a1] h0).bind fun v1 h1=>(A5 A0 .neq 3 v0 v1 h1).bind fun v2 h2=>
 condV (some v2) (
 .ok (.bool false) h2)
 (
 (loopN (D52 k call) B8 [(0,a0),(1,a1),(5,(.int .i64 0))] h2).bind fun r7 h3=>
 D4u k call r7.1 r7.2 h3)
theorem G39(k:Nat)(a0 a1:Value)(h:A2):R (T k) F.A8q [a0,a1] h=nrm .fz h (A8q k (R (T k)) a0 a1 h) :=G9
theorem D4b(a0 a1 a5:Value)(h:A2):D52 k call [(0,a0),(1,a1),(5,a5)] h =
 (A6 A0 .len [61] [a0] h).bind fun v0 h0=>(A5 A0 .lss 3 a5 v0 h0).bind fun v1 h1=>
 condV (some v1) (
 (A9 A0 61 a0 a5 h1).bindN fun v2 h2=>(A3 A0 150 v2 h2).bindN fun v3 h3=>(A9 A0 61 a1 a5 h3).bindN fun v4 h4=>(A3 A0 150 v4 h4).bindN fun v5 h5=>(A5 A0 .neq 150 v3 v5 h5).bindN fun v6 h6=>
 condV (some v6) (
 .ok (.ret,[(4,(.bool false))]) h6)
 (
 (A5 A0 .add 3 a5 (.int .i64 1) h6).bind fun v7 h7=>
 .ok (.normal,[(0,a0),(1,a1),(5,v7)]) h7))
 (
 .ok ((.exit 0),[(0,a0),(1,a1),(5,a5),(14,v1)]) h1) :=
 (E2 _ _).trans (by kernel_rfl)
theorem G0v(a4:Value)(h:A2):D4u k call .ret [(4,a4)] h =
 .ok a4 h:=by kernel_rfl
theorem G0f(a0 a1 a5 a14:Value)(h:A2):D4u k call (.exit 0) [(0,a0),(1,a1),(5,a5),(14,a14)] h =
 .ok (.bool true) h:=by kernel_rfl
end
end Go.Sw
end
section
namespace Go.Sw
open Go.RowKit
structure Gl where
 id:Int
 cl:Int
deriving DecidableEq
abbrev V5(g:Gl):List Value:=[.int .i64 g.id,.int .i64 g.cl]
theorem W8(g:Gl):(V5 g).length=2:=rfl
theorem E4q(l:List Gl):∀ p,p ∈ l→∀ v,v ∈ V5 p→A2a v:=fun p _ v hv=>by
 simp[V5] at hv;rcases hv with rfl | rfl <;> trivial
theorem D3.Gls(l:List Gl):D3 (Go.Sw.lv V5 l):=.lv fun p _=>.cons (.int _ _) (.cons (.int _ _) .nil)
abbrev A0v(c:Nat)(o:Option Nat)(l:List Gl):It:=A2m c [] o 2 V5 l
abbrev B6(c:Nat):Value:=.pointer (some ⟨c,0,none⟩)
theorem B68(k:Nat){v s:Value}{H H':A2}(h:A0f 2 16 [v] H=.ok s H'):R (T k) F.ζ9 [v] H=.ok s H' :=
 (B5t (t:=T k) (A1g k) (s:=fun _ args H=>A0f 2 16 args H) (by kernel_rfl) [v] H).trans (by
  show nrm (mdS k F.ζ9 H.n) H _=_;rw[show mdS k F.ζ9 H.n=.no from by kernel_rfl];exact A0y h)
theorem G71(k:Nat){H0 H:A2}{L:List It}(h:D2 H0 H L)(i:Nat){c:Nat}{o:Option Nat}{l:List Gl}(hi:L[i]?=some (A0v c o l)):R (T k) F.B50 [B6 c] H=.ok (.int .i64 l.length) H:=by
 obtain⟨_,s,h1,h2⟩:=h.box i hi;rw[G4c];refine D8 ⟨H,?_,Ext.refl H⟩ (.int _ _);simp at h1;simp -implicitDefEqProofs [B50,h1,h2.len]
theorem G8g(k:Nat){H0 H:A2}{L:List It}(h:D2 H0 H L)(i:Nat){c:Nat}{o:Option Nat}{l:List Gl}(hi:L[i]?=some (A0v c o l)){H':A2}(hx:Ext H H')(j:Int) :
  R (T k) F.B35 [B6 c,.int .i64 j] H'=.ok (.bool (decide (0≤j∧j<l.length))) H':=by
 obtain⟨_,s,h1,h2⟩:=h.box i hi;simp at h1;have h1:=hx.get h1;rw[G4q];refine D8 ⟨H',?_,Ext.refl H'⟩ (.bool _);by_cases hj:j≥0
 ·simp -implicitDefEqProofs [B35,h1,h2.len,hj]
 ·simp -implicitDefEqProofs [B35,hj]
def atG(l:List Gl)(j:Int):Option Gl:=if 0≤j∧j<l.length then l[j.toNat]? else none
def A4t(o:Option Gl):Value:=.agg (V5 (o.getD ⟨0,0⟩)).toArray
theorem D6h(k:Nat){H0 H:A2}{L:List It}(h:D2 H0 H L)(i:Nat){c:Nat}{o:Option Nat}{l:List Gl}(hi:L[i]?=some (A0v c o l))(j:Int) :
  R (T k) F.B0h [B6 c,.int .i64 j] H=.ok (.tuple #[A4t (atG l j),.bool (atG l j).isSome]) H:=by
 obtain⟨_,s,h1,h2⟩:=h.box i hi;simp at h1;have hx:Ext H (H.push ⟨[.int .i64 0,.int .i64 0],1,false⟩):=(Ext.refl H).push _;have hin:=G8g k h i hi hx j;have hcn:¬ c=H.n:=by have:=A2.get_lt h1; omega
 rw[G4p];have hfl:∀ o,D3 (.tuple #[A4t o,.bool o.isSome]):=fun o=>.tupleL (.cons (.aggL (.cons (.int _ _) (.cons (.int _ _) .nil))) (.cons (.bool _) .nil));unfold atG;by_cases hj:0≤j∧j<l.length
 ·obtain⟨n,rfl⟩:=Int.eq_ofNat_of_zero_le hj.1;obtain⟨g,hg⟩:∃ g,l[n]?=some g:=⟨_,List.getElem?_eq_getElem (by omega)⟩
  obtain⟨b,rfl,hs,hb,i1⟩:=h2.ix .i64 n (by omega);have hbn:¬ b=H.n:=by have:=A2.get_lt hb; omega
  have hld:=fun (H':A2) (hH:H'.get b=some ⟨rows V5 l,2,false⟩)=>A9v W8 hH hg;rw[if_pos hj,Int.toNat_natCast,hg];refine D8 ⟨H.push ⟨V5 g,1,false⟩,?_,(Ext.refl H).push _⟩ (hfl (some g)).alive;have e2:ldA 2 (.pointer (some ⟨H.n,0,none⟩)) (H.push ⟨V5 g,1,false⟩)=.ok (.agg (V5 g).toArray) (H.push ⟨V5 g,1,false⟩):=by simp
  rw[decide_eq_true hj] at hin;have e1:=hld (H.push ⟨[.int .i64 0,.int .i64 0],1,false⟩) (by rw[E43 _ _ _ hbn]; exact hb);simp -implicitDefEqProofs [-A9u,B0h,hin,h1,hcn,i1,e1,e2];rfl
 ·rw[if_neg hj];refine D8 ⟨_,?_,hx⟩ (hfl none).alive;rw[decide_eq_false hj] at hin;simp -implicitDefEqProofs [B0h,hin];rfl
theorem G4o(k:Nat)(hk:k<1000000){H0 H:A2}{L:List It}(h:D2 H0 H L)(i:Nat){c:Nat}{o:Option Nat}{l:List Gl}(hi:L[i]?=some (A0v c o l))(hl:l.length≤2 ^ 31):R (T k) F.B4w [B6 c] H=.ok (lv V5 l) H:=by
 obtain⟨_,s,h1,h2⟩:=h.box i hi;simp at h1;have ho:own k=.fz:=by unfold own; rw[show Nat.blt k 1000000=true from Nat.ble_eq_true_of_le hk]; rfl
 obtain⟨s',H1,e1,o1,x1⟩:=B6a (bytes:=16) W8 (h2.sl W8) hl (by decide);obtain⟨M,hf⟩:=o1.freeze W8 (E4q _) 6;rw[G1h,ho];refine G7 (v:=s') (H':=H1) ?_ hf x1 (D3.Gls l).alive;simp -implicitDefEqProofs [B4w,h1,B68 k e1]
def A2p(ids:List Int):List Gl:=ids.zipIdx.map fun x=>⟨x.1,(x.2:Nat)⟩
@[simp] theorem A2q(ids:List Int):(A2p ids).length=ids.length:=by simp[A2p]
theorem E69(ids:List Int)(x:Int):A2p (ids++[x])=A2p ids++[⟨x,(ids.length:Nat)⟩]:=by simp[A2p,List.zipIdx_append]
theorem G62 (k:Nat) {H0 H:A2} {L:List It} (h:D2 H0 H L) (ids:List Int) (hl:ids.length<2 ^ 31) :
  ∃ c o H',R (T k) F.A0j [lv N3 ids] H=.ok (B6 c) H'∧D2 H0 H' (L++[A0v c o (A2p ids)]):=by
 have g:=(h.more_row (Ext.refl _) (N2.nil V5 _ 2) (fun b hb=>by cases hb)).push ⟨[.slice none 0 0],1,false⟩;rw[List.append_assoc] at g
 obtain ⟨x,e',H1,hr,rfl,⟨a,rfl⟩,s,o,g⟩:=K5 (body:=D63 k (R (T k))) ids.length
  (fun j e H'=>e=[(3,B6 H.n),(8,lv N3 ids),(9,.int .i64 ids.length),(10,.int .i64 j)]∧∃ s o,D2 H0 H' (L++[D6 o 2 s V5 (A2p (ids.take j)),D9 H.n ⟨[s],1,false⟩]))
  (fun x e H'=>x=.exit 0∧(∃ a,e=[(3,B6 H.n),(8,lv N3 ids),(9,.int .i64 ids.length),(10,.int .i64 ids.length),(11,a)])∧∃ s o,D2 H0 H' (L++[D6 o 2 s V5 (A2p ids),D9 H.n ⟨[s],1,false⟩]))
  (e0:=[(3,B6 H.n),(8,lv N3 ids),(9,.int .i64 ids.length),(10,.int .i64 0)]) (H0:=H.push ⟨[.slice none 0 0],1,false⟩) ⟨rfl,_,_,g⟩ (by omega)
  (fun j e H' hj ⟨he,s,o,g⟩=>by
   subst he;have hlt:(j:Int)<ids.length:=by omega
   obtain⟨x,hx⟩:∃ x,ids[j]?=some x:=⟨_,List.getElem?_eq_getElem hj⟩
   have i1:=fun H'=>S0 N0 ids .i64 j x hx H';have hc:=g.get (L.length+1) (B3p _ _ _);have hcn:¬ H.n=H'.n:=by have:=A2.get_lt hc; omega
   obtain⟨s',o',H2,e1,g⟩:=g.append1 (bytes:=16) L.length W8 (B3o _ _ _) (⟨x,(j:Nat)⟩:Gl) (by simp; omega) (by decide);rw[D3t] at g;have hc2:=g.get (L.length+1) (B3p _ _ _);have st:=(g.row L.length (B3o _ _ _)).storable;have ce:=(g.row L.length (B3o _ _ _)).cells;have g:=g.setBlk (L.length+1) (B3p _ _ _) ⟨[s'],1,false⟩;rw[D3u] at g;refine .inl ⟨_,_,?_,rfl,s',o',by rw[A29 hx,E69,List.length_take,Nat.min_eq_left (by omega)]; exact g⟩;rw[E32];have e1:apR 2 16 s (.slice (some ⟨H'.n,0,none⟩) 1 1) (H'.push ⟨[.int .i64 x,.int .i64 (j:Nat)],2,false⟩)=.ok s' H2:=e1;simp -implicitDefEqProofs(disch:=omega) [hlt,i1,hc,hcn,e1,hc2,st,ce])
  (fun e H' ⟨he,s,o,g⟩=>by
   subst he;refine⟨.exit 0,_,H',?_,by simp,rfl,⟨.bool false,rfl⟩,s,o,by simpa using g⟩;rw[E32];simp -implicitDefEqProofs)
 have g:=D2.join2 [] g;refine⟨H.n,o,H1,?_,g⟩;rw[G8h];refine A0y ?_;simp -implicitDefEqProofs [A0j,hr,G4d]
theorem B5v (k:Nat) {H:A2} {u v:Value} {l m:List Gl} (hu:Rd H 2 u V5 l) (hv:Rd H 2 v V5 m) (hl:l.length<2 ^ 62) (hm:m.length<2 ^ 62):R (T k) F.A8q [u,v] H=.ok (.bool (decide (l=m))) H:=by
 rw[G39];have fl:D3 (.bool (decide (l=m))):=.bool _;by_cases hlen:l.length=m.length;rotate_left
 ·have hne:l≠m:=fun e=>hlen (by rw[e]);have hne':((l.length:Int) == (m.length:Int))=false:=by rw[beq_eq_false_iff_ne]; omega
  refine G7 (v:=.bool false) (H':=H) ?_ (by rw[decide_eq_false hne]; rfl) (Ext.refl H) fl.alive;simp -implicitDefEqProofs [A8q,hu.1,hv.1,bne,hne']
 ·obtain ⟨x,e',H1,hr,rfl,hq⟩:=K5 (body:=D52 k (R (T k))) l.length
   (fun j e H'=>H'=H∧e=[(0,u),(1,v),(5,.int .i64 j)]∧l.take j=m.take j)
   (fun x e H'=>H'=H∧((x=.ret∧e=[(4,.bool false)]∧l≠m)∨(x=.exit 0∧(∃ a,e=[(0,u),(1,v),(5,.int .i64 l.length),(14,a)])∧l=m)))
   (e0:=[(0,u),(1,v),(5,.int .i64 0)]) (H0:=H) ⟨rfl,rfl,by simp⟩ (by omega)
   (fun j e H' hj ⟨hH,he,ht⟩=>by
    subst he hH;have hlt:(j:Int)<l.length:=by omega
    obtain⟨a,ha⟩:∃ a,l[j]?=some a:=⟨_,List.getElem?_eq_getElem hj⟩
    obtain⟨b,hb⟩:∃ b,m[j]?=some b:=⟨_,List.getElem?_eq_getElem (by omega)⟩
    obtain⟨p,p1,p2⟩:=hu.2 j a ha;obtain⟨q,q1,q2⟩:=hv.2 j b hb;by_cases hab:a=b
    ·subst hab;refine .inl ⟨_,_,?_,rfl,rfl,by rw[A29 ha,A29 hb,ht]⟩;rw[D4b];simp -implicitDefEqProofs(disch:=omega) [hlt,hu.1,p1,p2,q1,q2]
    ·refine .inr ⟨.ret,_,_,?_,by simp,rfl,.inl ⟨rfl,rfl,fun e=>hab (by rw[e,hb] at ha; injection ha with ha; exact ha.symm)⟩⟩;have hne:(!(a.id == b.id) || !(a.cl == b.cl))=true:=by
      by_cases h1:a.id=b.id
      ·have:a.cl≠b.cl:=fun h2=>hab (by cases a; cases b; simp_all);simp[h1,this]
      ·simp[h1]
     rw[D4b];simp -implicitDefEqProofs(disch:=omega) [hlt,hu.1,p1,p2,q1,q2,hne])
   (fun e H' ⟨hH,he,ht⟩=>by
    subst he hH;refine⟨.exit 0,_,_,?_,by simp,rfl,.inr ⟨rfl,⟨.bool false,rfl⟩,?_⟩⟩
    ·rw[D4b];simp -implicitDefEqProofs [hu.1]
    ·rwa [List.take_length,hlen,List.take_length] at ht)
  rcases hq with⟨rfl,rfl,hne⟩ | ⟨rfl,⟨a,rfl⟩,heq⟩
  ·refine G7 (v:=.bool false) (H':=H1) ?_ (by rw[decide_eq_false hne]; rfl) (Ext.refl H1) fl.alive;simp -implicitDefEqProofs [A8q,hu.1,hv.1,hlen,bne,hr,G0v]
  ·refine G7 (v:=.bool true) (H':=H1) ?_ (by rw[decide_eq_true heq]; rfl) (Ext.refl H1) fl.alive;simp -implicitDefEqProofs [A8q,hu.1,hv.1,hlen,bne,hr,G0f]
end Go.Sw
end
section
set_option maxRecDepth 100000
namespace Go.Sw
noncomputable section
variable (k:Nat) (call:A8)
def B52:Env→A2→Res (D0 × Env):=M4 (C k) call F.A66 [1,1,1,1,1,1,0,0,0]
def E35:G0 Value:=D7 0 (E4 (B3 (C k) call F.A66 [1,1,1,1,1,1,1]) (G2 A0 (G3 A0 F.A66)))
def B53:Env→A2→Res (D0 × Env):=M4 (C k) call F.A66 [1,1,1,1,1,1,0,0,0,1,0,0,0,0]
def D5p:G0 (D0 × Env):=D7 2 (E4 (B3 (C k) call F.A66 [1,1,1,1,1,1,0,0,0,1,0,1]) (D7 1 (M2 (Q2 (C k) F.A66 [1,1,1,1,1,1,0,0,0]))))
def B54:Env→A2→Res (D0 × Env):=M4 (C k) call F.A66 [1,1,1,1,1,1,0,0,0,1,0,1,0,0]
def D5q(k:Nat)(call:A8):G0 (D0 × Env):=D7 4 (D7 1 (M2 (Q2 (C k) F.A66 [1,1,1,1,1,1,0,0,0])))
def A66(a0 a1 a2:Value)(h:A2):Res Value :=
 (K9 a0 h).bind fun v0 h0=>(A3 A0 113 v0 h0).bind fun v1 h1=>(call F.ζv [v1,(.int .i64 0)] h1).bind fun v2 h2=>(A5 A0 .geq 3 v2 (.int .i64 4) h2).bind fun v3 h3=>(wV v3 true (Res.ok v2 h3) h3).bind fun v4 h4=>(wV v3 true (A5 A0 .leq 3 v4 (.int .i64 65535) h4) h4).bind fun v5 h5=>(condV (some v3) (Res.ok v5 h5) (Res.ok (.bool false) h5)).bind fun v6 h6=>(call F.A37 [v6] h6).bind fun v7 h7=>(A3 A0 113 v0 h7).bindN fun v8 h8=>(A3 A0 113 v0 h8).bindN fun v9 h9=>(call F.ζv [v9,(.int .i64 4)] h9).bindT (fun p23 ha=>.panic p23 ha) fun va hb=>(call F.A4v [v8,va] hb).bindT (fun p27 hc=>E6 ((A4 (A3 A0 113 v0 hb) v8 && true) && true) (.panic p27 hc)) fun vb hd=>(call F.A6i [vb,a1,(.int .i64 2)] hd).bindT (fun p31 he=>E6 ((A4 (A3 A0 113 v0 hb) v8 && true) && true) (.panic p31 he)) fun vc hf=>(E0 A0 259 [(0,v2),(1,vc)] hf).bindN fun vd hg=>(K9 vd hg).bindN fun ve hh=>
 E6 ((A4 (A3 A0 113 v0 hb) v8 && true) && true) (
 (A3 A0 113 v0 hh).bindN fun vf hi=>(A3 A0 113 v0 hi).bindN fun vg hj=>(call F.ζv [vg,(.int .i64 8)] hj).bindT (fun p43 hk=>(A3 A0 113 v0 hj).bindN fun vh hl=>(A3 A0 113 v0 hl).bindN fun vi hm=>(D1 A0 261 hm).bindN fun vj hn=>E6 ((A4 (A3 A0 113 v0 hh) vh && true) && ((A4 (A3 A0 113 v0 hh) vi && true) && true)) (.panic p43 hk)) fun vk ho=>(call F.A4v [vf,vk] ho).bindT (fun p53 hp=>(A3 A0 113 v0 ho).bindN fun vl hq=>(A3 A0 113 v0 hq).bindN fun vm hr=>(D1 A0 261 hr).bindN fun vn hs=>E6 ((A4 (A3 A0 113 v0 ho) vf && true) && ((A4 (A3 A0 113 v0 hh) vl && (A4 (A3 A0 113 v0 ho) vl && true)) && ((A4 (A3 A0 113 v0 hh) vm && (A4 (A3 A0 113 v0 ho) vm && true)) && true))) (.panic p53 hp)) fun vo ht=>(A3 A0 113 v0 ht).bindN fun vp hu=>(A3 A0 113 v0 hu).bindN fun vq hv=>(call F.ζv [vq,(.int .i64 12)] hv).bindT (fun p67 hw=>(D1 A0 261 hv).bindN fun vr hx=>E6 ((A4 (A3 A0 113 v0 ho) vf && true) && ((A4 (A3 A0 113 v0 hh) vp && (A4 (A3 A0 113 v0 ho) vp && true)) && ((A4 (A3 A0 113 v0 hh) vq && (A4 (A3 A0 113 v0 ho) vq && true)) && true))) (.panic p67 hw)) fun vs hy=>(call F.A4v [vp,vs] hy).bindT (fun p73 hz=>(D1 A0 261 hy).bindN fun vt h10=>E6 ((A4 (A3 A0 113 v0 ho) vf && true) && ((A4 (A3 A0 113 v0 hh) vp && (A4 (A3 A0 113 v0 ho) vp && (A4 (A3 A0 113 v0 hy) vp && true))) && ((A4 (A3 A0 113 v0 hh) vq && (A4 (A3 A0 113 v0 ho) vq && true)) && true))) (.panic p73 hz)) fun vu h11=>(E0 A0 261 [(0,ve),(1,vo),(2,vu),(3,a2)] h11).bindN fun vv h12=>(D1 A0 261 h12).bindN fun vw h13=>(B4 A0 261 vw vv h13).bindN fun _vx h14=>
 E6 ((A4 (A3 A0 113 v0 ho) vf && true) && ((A4 (A3 A0 113 v0 hh) vp && (A4 (A3 A0 113 v0 ho) vp && (A4 (A3 A0 113 v0 hy) vp && true))) && ((A4 (A3 A0 113 v0 hh) vq && (A4 (A3 A0 113 v0 ho) vq && true)) && true))) (
 (loopN (B52 k call) B8 [(8,ve),(9,vw),(10,(.int .i64 2)),(11,(.int .i64 0))] h14).bind fun r83 h15=>
 E35 k call r83.1 r83.2 h15))
theorem G6d(k:Nat)(a0 a1 a2:Value)(h:A2):R (T k) F.A66 [a0,a1,a2] h=nrm .fz h (A66 k (R (T k)) a0 a1 a2 h) :=G9
theorem E2s(a8 a9 a10 a11:Value)(h:A2):B52 k call [(8,a8),(9,a9),(10,a10),(11,a11)] h =
 (G8 a8 h).bind fun v0 h0=>(A1 A0 259 v0 2 h0).bind fun v1 h1=>(A3 A0 257 v1 h1).bind fun v2 h2=>(A6 A0 .len [257] [v2] h2).bind fun v3 h3=>(A5 A0 .lss 3 v3 a10 h3).bind fun v4 h4=>(wV v4 false (Res.ok a8 h4) h4).bind fun v5 h5=>(wV v4 false (G8 v5 h5) h5).bind fun v6 h6=>(wV v4 false (A1 A0 259 v6 3 h6) h6).bind fun v7 h7=>(wV v4 false (A3 A0 24 v7 h7) h7).bind fun v8 h8=>(wV v4 false (A6 A0 .len [24] [v8] h8) h8).bind fun v9 h9=>(wV v4 false (Res.ok a11 h9) h9).bind fun va ha=>(wV v4 false (A5 A0 .lss 3 v9 va ha) ha).bind fun vb hb=>(condV (some v4) (Res.ok (.bool true) hb) (Res.ok vb hb)).bind fun vc hc=>
 condV (some vc) (
 (loopN (B53 k call) B8 [(8,a8),(9,a9),(10,a10),(11,a11)] hc).bind fun r111 hd=>
 D5p k call r111.1 r111.2 hd)
 (
 .ok ((.exit 0),[(8,a8),(9,a9),(10,a10),(11,a11),(56,vc)]) hc) :=
 (E2 _ _).trans (by kernel_rfl)
theorem D5g(a8 a9 a10 a11:Value)(h:A2):B53 k call [(8,a8),(9,a9),(10,a10),(11,a11)] h =
 (G8 a8 h).bind fun v0 h0=>(A1 A0 259 v0 2 h0).bind fun v1 h1=>(A3 A0 257 v1 h1).bind fun v2 h2=>(A6 A0 .len [257] [v2] h2).bind fun v3 h3=>(A5 A0 .lss 3 v3 a10 h3).bind fun v4 h4=>
 condV (some v4) (
 (A3 A0 261 a9 h4).bind fun v5 h5=>(call F.A8n [v5] h5).bind fun v6 h6=>(A6 A0 .max [3,3] [a11,v6] h6).bind fun v7 h7=>
 .ok (.normal,[(8,a8),(9,a9),(10,a10),(11,v7)]) h7)
 (
 .ok ((.exit 2),[(8,a8),(9,a9),(10,a10),(11,a11),(63,v4)]) h4) :=
 (E2 _ _).trans (by kernel_rfl)
theorem G2z(a8 a9 a10 a11 a56:Value)(h:A2):E35 k call (.exit 0) [(8,a8),(9,a9),(10,a10),(11,a11),(56,a56)] h =
 .ok a8 h:=by kernel_rfl
theorem G30(a8 a9 a10 a11 a63:Value)(h:A2):D5p k call (.exit 2) [(8,a8),(9,a9),(10,a10),(11,a11),(63,a63)] h =
 (loopN (B54 k call) B8 [(8,a8),(9,a9),(10,a10),(11,a11)] h).bind fun r129 h0=>
 D5q k call r129.1 r129.2 h0:=by kernel_rfl
theorem D5h(a8 a9 a10 a11:Value)(h:A2):B54 k call [(8,a8),(9,a9),(10,a10),(11,a11)] h =
 (G8 a8 h).bind fun v0 h0=>(A1 A0 259 v0 3 h0).bind fun v1 h1=>(A3 A0 24 v1 h1).bind fun v2 h2=>(A6 A0 .len [24] [v2] h2).bind fun v3 h3=>(A5 A0 .lss 3 v3 a11 h3).bind fun v4 h4=>
 condV (some v4) (
 (A3 A0 261 a9 h4).bind fun v5 h5=>(call F.ζe [v5] h5).bind fun v6 h6=>(A6 A0 .max [3,3] [a10,v6] h6).bind fun v7 h7=>
 .ok (.normal,[(8,a8),(9,a9),(10,v7),(11,a11)]) h7)
 (
 .ok ((.exit 4),[(8,a8),(9,a9),(10,a10),(11,a11),(74,v4)]) h4) :=
 (E2 _ _).trans (by kernel_rfl)
theorem G31(a8 a9 a10 a11 a74:Value)(h:A2):D5q k call (.exit 4) [(8,a8),(9,a9),(10,a10),(11,a11),(74,a74)] h =
 .ok (.normal,[(8,a8),(9,a9),(10,a10),(11,a11)]) h:=by kernel_rfl
def B4r(k:Nat)(call:A8)(a0:Value)(h:A2):Res Value :=
 (B9 A0 24 0 [] h).bind fun v0 h0=>(G8 a0 h0).bind fun v1 h1=>(A1 A0 259 v1 3 h1).bind fun v2 h2=>(A3 A0 24 v2 h2).bind fun v3 h3=>(A6 A0 .append [24,24] [v0,v3] h3).bind fun v4 h4=>
 .ok v4 h4
theorem E9v(k:Nat)(a0:Value)(h:A2):R (T k) F.B4r [a0] h=nrm (own k) h (B4r k (R (T k)) a0 h) :=G9
def D4i:Env→A2→Res (D0 × Env):=M4 (C k) call F.A8n [1,1,1,1,1,0,1,0,0]
def E1c:G0 Value:=D7 0 (E4 (B3 (C k) call F.A8n [1,1,1,1,1,1]) (G2 A0 (G3 A0 F.A8n)))
def A8n(a0:Value)(h:A2):Res Value :=
 (K9 a0 h).bind fun v0 h0=>(A1 A0 261 v0 0 h0).bind fun v1 h1=>(A3 A0 159 v1 h1).bind fun v2 h2=>(G8 v2 h2).bind fun v3 h3=>(A1 A0 259 v3 0 h3).bind fun v4 h4=>(A3 A0 3 v4 h4).bind fun v5 h5=>(A1 A0 261 v0 1 h5).bindN fun v6 h6=>(A3 A0 113 v6 h6).bindN fun v7 h7=>(A5 A0 .mul 3 (.int .i64 2) v5 h7).bindN fun v8 h8=>(A1 A0 261 v0 0 h8).bindN fun v9 h9=>(A3 A0 159 v9 h9).bindN fun va ha=>(G8 va ha).bindN fun vb hb=>(A1 A0 259 vb 2 hb).bindN fun vc hc=>(A3 A0 257 vc hc).bindN fun vd hd=>(A6 A0 .len [257] [vd] hd).bindN fun ve he=>(A5 A0 .mul 3 v8 ve he).bindN fun vf hf=>(call F.ζw [v7,vf,v5,(.int .i64 2)] hf).bindT (fun p35 hg=>(D1 A0 113 hf).bindN fun vg hh=>.panic p35 hg) fun vh hi=>(D1 A0 113 hi).bindN fun vi hj=>(B4 A0 113 vi vh hj).bindN fun _vj hk=>(Q5 A0 30 v5 v5 hk).bind fun vk hl=>(A6 A0 .len [30] [vk] hl).bind fun vl hm=>(loopN (D4i k call) B8 [(1,v0),(4,vi),(5,vk),(6,(.int .i64 0)),(29,vl),(30,(.int .i64 0))] hm).bind fun r47 hn=>
 E1c k call r47.1 r47.2 hn
theorem G1n(k:Nat)(a0:Value)(h:A2):R (T k) F.A8n [a0] h=nrm .no h (A8n k (R (T k)) a0 h) :=G9
theorem E0e(a1 a4 a5 a6 a29 a30:Value)(h:A2):D4i k call [(1,a1),(4,a4),(5,a5),(6,a6),(29,a29),(30,a30)] h =
 (A5 A0 .lss 3 a30 a29 h).bind fun v0 h0=>
 condV (some v0) (
 (A3 A0 113 a4 h0).bind fun v1 h1=>(A5 A0 .mul 3 (.int .i64 2) a30 h1).bind fun v2 h2=>(call F.ζc [v1,v2] h2).bind fun v3 h3=>(A9 A0 30 a5 a30 h3).bind fun v4 h4=>(B4 A0 3 v4 v3 h4).bind fun _v5 h5=>(A9 A0 30 a5 a30 h5).bind fun v6 h6=>(A3 A0 3 v6 h6).bind fun v7 h7=>(A5 A0 .add 3 v7 (.int .i64 1) h7).bind fun v8 h8=>(A6 A0 .max [3,3] [a6,v8] h8).bind fun v9 h9=>(A5 A0 .add 3 a30 (.int .i64 1) h9).bind fun va ha=>
 .ok (.normal,[(1,a1),(4,a4),(5,a5),(6,v9),(29,a29),(30,va)]) ha)
 (
 .ok ((.exit 0),[(1,a1),(4,a4),(5,a5),(6,a6),(29,a29),(30,a30),(31,v0)]) h0) :=
 (E2 _ _).trans (by kernel_rfl)
theorem E9w(a1 a4 a5 a6 a29 a30 a31:Value)(h:A2):E1c k call (.exit 0) [(1,a1),(4,a4),(5,a5),(6,a6),(29,a29),(30,a30),(31,a31)] h =
 (A1 A0 261 a1 0 h).bindN fun v0 h0=>(A3 A0 159 v0 h0).bindN fun v1 h1=>(A1 A0 261 a1 0 h1).bindN fun v2 h2=>(A3 A0 159 v2 h2).bindN fun v3 h3=>(G8 v3 h3).bindN fun v4 h4=>(A1 A0 259 v4 2 h4).bindN fun v5 h5=>(A3 A0 257 v5 h5).bindN fun v6 h6=>(B9 A0 257 1 [(0,a5)] h6).bindN fun v7 h7=>(A6 A0 .append [257,257] [v6,v7] h7).bindN fun v8 h8=>(G8 v1 h8).bindN fun v9 h9=>(A1 A0 259 v9 2 h9).bindN fun va ha=>(B4 A0 257 va v8 ha).bindN fun _vb hb=>
 E6 ((A4 (A3 A0 159 v0 h7) v1 && (A4 (A3 A0 159 v0 h8) v1 && true)) && ((A4 (A3 A0 159 v2 h7) v3 && true) && ((A4 (A3 A0 257 v5 h7) v6 && true) && true))) (
 .ok a6 hb):=by kernel_rfl
def E0z(a1 a4 a5:Value)(h:A2):Res Value :=
 E4 (B3 (C k) call F.ζe [1,1,1,1,1]) (G2 A0 (G3 A0 F.ζe)) .normal [(1,a1),(4,a4),(5,a5)] h
def E10(a1 a4 a5 a29:Value)(h:A2):Res Value :=
 E4 (B3 (C k) call F.ζe [1,1,1,1,1]) (G2 A0 (G3 A0 F.ζe)) .normal [(1,a1),(4,a4),(5,a5),(29,a29)] h
def D16(a1 a5:Value)(h:A2):Res Value :=
 E4 (B3 (C k) call F.ζe [1,1,1,1,1,1]) (G2 A0 (G3 A0 F.ζe)) .normal [(1,a1),(5,a5)] h
def D17(a1 a4 a5 a35:Value)(h:A2):Res Value :=
 E4 (B3 (C k) call F.ζe [1,1,1,1,1,1]) (G2 A0 (G3 A0 F.ζe)) .normal [(1,a1),(4,a4),(5,a5),(35,a35)] h
def ζe(a0:Value)(h:A2):Res Value :=
 (K9 a0 h).bind fun v0 h0=>(A1 A0 261 v0 3 h0).bind fun v1 h1=>(A3 A0 3 v1 h1).bind fun v2 h2=>(A5 A0 .mul 3 (.int .i64 2) v2 h2).bind fun v3 h3=>(A5 A0 .add 3 (.int .i64 4) v3 h3).bind fun v4 h4=>(A1 A0 261 v0 2 h4).bindN fun v5 h5=>(A3 A0 113 v5 h5).bindN fun v6 h6=>(A1 A0 261 v0 0 h6).bindN fun v7 h7=>(A3 A0 159 v7 h7).bindN fun v8 h8=>(G8 v8 h8).bindN fun v9 h9=>(A1 A0 259 v9 3 h9).bindN fun va ha=>(A3 A0 24 va ha).bindN fun vb hb=>(A6 A0 .len [24] [vb] hb).bindN fun vc hc=>(A5 A0 .mul 3 v4 vc hc).bindN fun vd hd=>(call F.A70 [v6,vd,v4] hd).bindT (fun p31 he=>(D1 A0 113 hd).bindN fun ve hf=>.panic p31 he) fun vf hg=>(D1 A0 113 hg).bindN fun vg hh=>(B4 A0 113 vg vf hh).bindN fun _vh hi=>(A3 A0 113 vg hi).bindN fun vi hj=>(call F.ζc [vi,(.int .i64 0)] hj).bindT (fun p43 hk=>(A3 A0 113 vg hj).bindN fun vj hl=>(D1 A0 129 hl).bindN fun vk hm=>E6 ((A4 (A3 A0 113 vg hi) vj && true) && true) (.panic p43 hk)) fun vl hn=>(A3 A0 113 vg hn).bindN fun vm ho=>(call F.ζc [vm,(.int .i64 2)] ho).bindT (fun p53 hp=>(D1 A0 129 ho).bindN fun vn hq=>E6 ((A4 (A3 A0 113 vg hi) vm && true) && true) (.panic p53 hp)) fun vo hr=>(E0 A0 129 [(0,vl),(1,vo)] hr).bindN fun vp hs=>(D1 A0 129 hs).bindN fun vq ht=>(B4 A0 129 vq vp ht).bindN fun _vr hu=>
 E6 ((A4 (A3 A0 113 vg hi) vm && true) && true) (
 (A1 A0 261 v0 3 hu).bind fun vs hv=>(A3 A0 3 vs hv).bind fun vt hw=>(A5 A0 .gtr 3 vt (.int .i64 0) hw).bind fun vu hx=>
 condV (some vu) (
 (A3 A0 113 vg hx).bind fun vv hy=>(call F.ζc [vv,(.int .i64 4)] hy).bind fun vw hz=>(A1 A0 129 vq 2 hz).bind fun vx h10=>(B4 A0 3 vx vw h10).bind fun _vy h11=>
 E0z k call v0 vg vq h11)
 (
 E10 k call v0 vg vq vu hx))
theorem G18(k:Nat)(a0:Value)(h:A2):R (T k) F.ζe [a0] h=nrm .no h (ζe k (R (T k)) a0 h) :=G9
theorem E0a(a1 a4 a5:Value)(h:A2):E0z k call a1 a4 a5 h =
 (A1 A0 261 a1 3 h).bind fun v0 h0=>(A3 A0 3 v0 h0).bind fun v1 h1=>(A5 A0 .gtr 3 v1 (.int .i64 1) h1).bind fun v2 h2=>
 condV (some v2) (
 (A3 A0 113 a4 h2).bind fun v3 h3=>(call F.ζc [v3,(.int .i64 6)] h3).bind fun v4 h4=>(A1 A0 129 a5 3 h4).bind fun v5 h5=>(B4 A0 3 v5 v4 h5).bind fun _v6 h6=>
 D16 k call a1 a5 h6)
 (
 D17 k call a1 a4 a5 v2 h2):=by kernel_rfl
theorem E9p(a1 a4 a5 a29:Value)(h:A2):E10 k call a1 a4 a5 a29 h =
 (A1 A0 261 a1 3 h).bind fun v0 h0=>(A3 A0 3 v0 h0).bind fun v1 h1=>(A5 A0 .gtr 3 v1 (.int .i64 1) h1).bind fun v2 h2=>
 condV (some v2) (
 (A3 A0 113 a4 h2).bind fun v3 h3=>(call F.ζc [v3,(.int .i64 6)] h3).bind fun v4 h4=>(A1 A0 129 a5 3 h4).bind fun v5 h5=>(B4 A0 3 v5 v4 h5).bind fun _v6 h6=>
 D16 k call a1 a5 h6)
 (
 D17 k call a1 a4 a5 v2 h2):=by kernel_rfl
theorem E9q(a1 a5:Value)(h:A2):D16 k call a1 a5 h =
 (A1 A0 261 a1 0 h).bindN fun v0 h0=>(A3 A0 159 v0 h0).bindN fun v1 h1=>(A1 A0 261 a1 0 h1).bindN fun v2 h2=>(A3 A0 159 v2 h2).bindN fun v3 h3=>(G8 v3 h3).bindN fun v4 h4=>(A1 A0 259 v4 3 h4).bindN fun v5 h5=>(A3 A0 24 v5 h5).bindN fun v6 h6=>(A3 A0 129 a5 h6).bindN fun v7 h7=>(B9 A0 24 1 [(0,v7)] h7).bindN fun v8 h8=>(A6 A0 .append [24,24] [v6,v8] h8).bindN fun v9 h9=>(G8 v1 h9).bindN fun va ha=>(A1 A0 259 va 3 ha).bindN fun vb hb=>(B4 A0 24 vb v9 hb).bindN fun _vc hc=>
 E6 ((A4 (A3 A0 159 v0 h8) v1 && (A4 (A3 A0 159 v0 h9) v1 && true)) && ((A4 (A3 A0 159 v2 h8) v3 && true) && ((A4 (A3 A0 24 v5 h8) v6 && true) && true))) (
 (A1 A0 129 a5 0 hc).bind fun vd hd=>(A3 A0 3 vd hd).bind fun ve he=>(A5 A0 .add 3 ve (.int .i64 1) he).bind fun vf hf=>
 .ok vf hf):=by kernel_rfl
theorem E9r(a1 a4 a5 a35:Value)(h:A2):D17 k call a1 a4 a5 a35 h =
 (A1 A0 261 a1 0 h).bindN fun v0 h0=>(A3 A0 159 v0 h0).bindN fun v1 h1=>(A1 A0 261 a1 0 h1).bindN fun v2 h2=>(A3 A0 159 v2 h2).bindN fun v3 h3=>(G8 v3 h3).bindN fun v4 h4=>(A1 A0 259 v4 3 h4).bindN fun v5 h5=>(A3 A0 24 v5 h5).bindN fun v6 h6=>(A3 A0 129 a5 h6).bindN fun v7 h7=>(B9 A0 24 1 [(0,v7)] h7).bindN fun v8 h8=>(A6 A0 .append [24,24] [v6,v8] h8).bindN fun v9 h9=>(G8 v1 h9).bindN fun va ha=>(A1 A0 259 va 3 ha).bindN fun vb hb=>(B4 A0 24 vb v9 hb).bindN fun _vc hc=>
 E6 ((A4 (A3 A0 159 v0 h8) v1 && (A4 (A3 A0 159 v0 h9) v1 && true)) && ((A4 (A3 A0 159 v2 h8) v3 && true) && ((A4 (A3 A0 24 v5 h8) v6 && true) && true))) (
 (A1 A0 129 a5 0 hc).bind fun vd hd=>(A3 A0 3 vd hd).bind fun ve he=>(A5 A0 .add 3 ve (.int .i64 1) he).bind fun vf hf=>
 .ok vf hf):=by kernel_rfl
def A90(k:Nat)(call:A8)(a0 a1 a2:Value)(h:A2):Res Value :=
 (D1 A0 129 h).bind fun v0 h0=>(A5 A0 .lss 3 a1 (.int .i64 0) h0).bind fun v1 h1=>(wV v1 false (Res.ok a1 h1) h1).bind fun v2 h2=>(wV v1 false (Res.ok a0 h2) h2).bind fun v3 h3=>(wV v1 false (G8 v3 h3) h3).bind fun v4 h4=>(wV v1 false (A1 A0 259 v4 2 h4) h4).bind fun v5 h5=>(wV v1 false (A3 A0 257 v5 h5) h5).bind fun v6 h6=>(wV v1 false (A6 A0 .len [257] [v6] h6) h6).bind fun v7 h7=>(wV v1 false (A5 A0 .geq 3 v2 v7 h7) h7).bind fun v8 h8=>(condV (some v1) (Res.ok (.bool true) h8) (Res.ok v8 h8)).bind fun v9 h9=>(wV v9 false (Res.ok a2 h9) h9).bind fun va ha=>(wV v9 false (A5 A0 .lss 3 va (.int .i64 0) ha) ha).bind fun vb hb=>(condV (some v9) (Res.ok (.bool true) hb) (Res.ok vb hb)).bind fun vc hc=>(wV vc false (Res.ok a2 hc) hc).bind fun vd hd=>(wV vc false (Res.ok a0 hd) hd).bind fun ve he=>(wV vc false (G8 ve he) he).bind fun vf hf=>(wV vc false (A1 A0 259 vf 0 hf) hf).bind fun vg hg=>(wV vc false (A3 A0 3 vg hg) hg).bind fun vh hh=>(wV vc false (A5 A0 .geq 3 vd vh hh) hh).bind fun vi hi=>(condV (some vc) (Res.ok (.bool true) hi) (Res.ok vi hi)).bind fun vj hj=>
 condV (some vj) (
 (E0 A0 129 [] hj).bind fun vk hk=>(B4 A0 129 v0 vk hk).bind fun _vl hl=>(A3 A0 129 v0 hl).bind fun vm hm=>
 .ok (.tuple #[vm,(.bool false)]) hm)
 (
 (G8 a0 hj).bindN fun vn hn=>(A1 A0 259 vn 3 hn).bindN fun vo ho=>(A3 A0 24 vo ho).bindN fun vp hp=>(G8 a0 hp).bindN fun vq hq=>(A1 A0 259 vq 2 hq).bindN fun vr hr=>(A3 A0 257 vr hr).bindN fun vs hs=>(A9 A0 257 vs a1 hs).bindN fun vt ht=>(A3 A0 30 vt ht).bindN fun vu hu=>(A9 A0 30 vu a2 hu).bindN fun vv hv=>(A3 A0 3 vv hv).bindN fun vw hw=>(A9 A0 24 vp vw hw).bindN fun vx hx=>(A3 A0 129 vx hx).bindN fun vy hy=>(B4 A0 129 v0 vy hy).bindN fun _vz hz=>(A3 A0 129 v0 hz).bind fun v10 h10=>
 .ok (.tuple #[v10,(.bool true)]) h10)
theorem G17(k:Nat)(a0 a1 a2:Value)(h:A2):R (T k) F.A90 [a0,a1,a2] h=nrm .gc h (A90 k (R (T k)) a0 a1 a2 h) :=G9
def B0a(k:Nat)(call:A8)(a0 a1:Value)(h:A2):Res Value :=
 (A5 A0 .eql 3 a1 (.int .i64 65535) h).bind fun v0 h0=>
 condV (some v0) (
 .ok (.int .i64 2) h0)
 (
 (G8 a0 h0).bind fun v1 h1=>(A1 A0 259 v1 1 h1).bind fun v2 h2=>(A3 A0 111 v2 h2).bind fun v3 h3=>(call F.A91 [v3,a1] h3).bind fun v4 h4=>(B5 v4 0 h4).bind fun v5 h5=>(B5 v4 1 h5).bind fun v6 h6=>(wV v6 true (Res.ok v5 h6) h6).bind fun v7 h7=>(wV v6 true (Res.ok a0 h7) h7).bind fun v8 h8=>(wV v6 true (G8 v8 h8) h8).bind fun v9 h9=>(wV v6 true (A1 A0 259 v9 0 h9) h9).bind fun va ha=>(wV v6 true (A3 A0 3 va ha) ha).bind fun vb hb=>(wV v6 true (A5 A0 .lss 3 v7 vb hb) hb).bind fun vc hc=>(condV (some v6) (Res.ok vc hc) (Res.ok (.bool false) hc)).bind fun vd hd=>
 condV (some vd) (
 .ok v5 hd)
 (
 .ok (.int .i64 1) hd))
theorem G0j(k:Nat)(a0 a1:Value)(h:A2):R (T k) F.B0a [a0,a1] h=nrm .gc h (B0a k (R (T k)) a0 a1 h) :=G9
end
end Go.Sw
end
section
namespace Go.Sw
open Go.RowKit
theorem D2.memP{H0 H:A2}{L:List It}(h:D2 H0 H L){x:It}(hx:x ∈ L):x.P H:=by
 obtain⟨i,hi⟩:=List.getElem?_of_mem hx;exact h.at i hi
theorem D2.memBlk{H0 H:A2}{L:List It}(h:D2 H0 H L){c:Nat}{k:Blk}(hx:D9 c k ∈ L):H.get c=some k:=h.memP hx
theorem D2.memOwn{α:Type}{enc:α→List Value}{H0 H:A2}{L:List It}(h:D2 H0 H L){o:Option Nat}{m:Nat}{s:Value}{l:List α}(hx:D6 o m s enc l ∈ L):Own H0 H m s enc l:=by
 obtain⟨i,hi⟩:=List.getElem?_of_mem hx;exact h.own i hi
theorem D2.stCell{H0 H:A2}{L:List It}(h:D2 H0 H L)(i:Nat){c:Nat}{cells:List Value}{e:Nat}(hi:L[i]?=some (D9 c ⟨cells,e,false⟩))(off:Nat){v:Value}(hs:storable v=true)(hc:v.cells=#[v])(ho:off<cells.length) :
  ∃ H',stR 1 (.pointer (some ⟨c,off,none⟩)) v H=.ok undef H'∧D2 H0 H' (L.set i (D9 c ⟨cells.set off v,e,false⟩))∧H'.n=H.n:=by
 have hg:=h.get i hi;have hsp:K4 cells off [v]=cells.set off v:=by
  unfold K4;rw[List.set_eq_take_append_cons_drop,if_pos ho];rfl
 refine⟨H.set c (some ⟨cells.set off v,e,false⟩),?_,h.step i hi (by simp) (fun d _ hd=>?_) _ ?_ fun b hb=>.inl hb,by simp⟩
 ·simp[hs,hc,hg,hsp];rw[if_pos (show off+1≤cells.length by omega)];rfl
 ·rw[A6j];exact fun e=>hd (show d ∈ [c] by simp[e])
 ·exact B5b _ _ _ (by rw[hg]; rfl)
theorem E62 {body:Env→A2→Res (D0 × Env)} (Inv:Nat→Env→A2→Prop) (Q:D0→Env→A2→Prop) (Qp:Value→A2→Prop)
  (step:∀ m e H,Inv m e H→(∃ m' e' H',body e H=.ok (.normal,e') H'∧m'<m∧Inv m' e' H')∨(∃ x e' H',body e H=.ok (x,e') H'∧x≠.normal∧Q x e' H')∨(∃ v H',body e H=.panic v H'∧Qp v H')) :
  ∀ (fuel m:Nat) (e:Env) (H:A2),m<fuel→Inv m e H→(∃ x e' H',loopN body fuel e H=.ok (x,e') H'∧Q x e' H')∨(∃ v H',loopN body fuel e H=.panic v H'∧Qp v H')
 | 0,m,e,H,hm,_=>by omega
 | fuel+1,m,e,H,hm,hi=>by
  rcases step m e H hi with⟨m',e',H',h1,h2,h3⟩ | ⟨x,e',H',h1,h2,h3⟩ | ⟨v,H',h1,h2⟩
  ·simp only[loopN,h1,Res.bind];exact E62 Inv Q Qp step fuel m' e' H' (by omega) h3
  ·refine .inl ⟨x,e',H',?_,h3⟩;cases x with
   | normal=>exact absurd rfl h2
   | exit j=>simp only[loopN,h1,Res.bind]
   | ret=>simp only[loopN,h1,Res.bind]
  ·exact .inr ⟨v,H',by simp only[loopN,h1,Res.bind],h2⟩
theorem A84{body:Env→A2→Res (D0 × Env)}(Inv:Nat→Env→A2→Prop)(Q:D0→Env→A2→Prop)(Qp:Value→A2→Prop){e0:Env}{H0:A2}(m:Nat)(h0:Inv m e0 H0)(hm:m<2 ^ 64)
  (step:∀ m e H,Inv m e H→(∃ m' e' H',body e H=.ok (.normal,e') H'∧m'<m∧Inv m' e' H')∨(∃ x e' H',body e H=.ok (x,e') H'∧x≠.normal∧Q x e' H')∨(∃ v H',body e H=.panic v H'∧Qp v H')) :
  (∃ x e' H',loopN body B8 e0 H0=.ok (x,e') H'∧Q x e' H')∨(∃ v H',loopN body B8 e0 H0=.panic v H'∧Qp v H'):=E62 Inv Q Qp step B8 m e0 H0 (B1a hm) h0
abbrev E7(e:En):List Value:=[.int .i64 e.next,.int .i64 e.flags,.int .i64 e.a,.int .i64 e.b]
theorem B28(e:En):(E7 e).length=4:=rfl
theorem E3z(l:List En):∀ p,p ∈ l→∀ v,v ∈ E7 p→A2a v:=fun p _ v hv=>by
 simp[E7] at hv;rcases hv with rfl | rfl | rfl | rfl <;> trivial
theorem D3.ofEn(e:En):D3 (.agg (E7 e).toArray):=.aggL (.cons (.int _ _) (.cons (.int _ _) (.cons (.int _ _) (.cons (.int _ _) .nil))))
theorem D3.Ens(l:List En):D3 (Go.Sw.lv E7 l):=.lv fun p _=>.cons (.int _ _) (.cons (.int _ _) (.cons (.int _ _) (.cons (.int _ _) .nil)))
abbrev A9m(x:List Int × Value):List Value:=[x.2]
theorem A7v(x:List Int × Value):(A9m x).length=1:=rfl
abbrev A0u(r:List Int):List Value:=[lv N3 r]
theorem G86(r:List Int):(A0u r).length=1:=rfl
def MS(H0 H:A2)(X:List It)(c:Nat)(n:Int)(tab:Value)(rs:List (List Int))(es:List En):Prop :=
 ∃ (l:List (List Int × Value)) (s1:Value) (o1:Option Nat) (s2:Value) (o2:Option Nat) (bs:List It),l.map Prod.fst=rs ∧
  D2 H0 H (D9 c ⟨[.int .i64 n,tab,s1,s2],1,false⟩ :: D6 o1 1 s1 A9m l :: D6 o2 4 s2 E7 es :: (X++bs))∧∀ x,x ∈ l→∃ o,D6 o 1 x.2 N3 x.1 ∈ bs
theorem MS.rest{H0 H H':A2}{X:List It}{c:Nat}{n:Int}{tab:Value}{rs:List (List Int)}{es:List En}(h:MS H0 H X c n tab rs es)(he:Ext H H'):MS H0 H' X c n tab rs es:=by
 obtain⟨l,s1,o1,s2,o2,bs,h1,h2,h3⟩:=h;exact⟨l,s1,o1,s2,o2,bs,h1,h2.rest he,h3⟩
theorem MS.ext{H0 H:A2}{X:List It}{c:Nat}{n:Int}{tab:Value}{rs:List (List Int)}{es:List En}(h:MS H0 H X c n tab rs es):Ext H0 H:=by
 obtain⟨l,s1,o1,s2,o2,bs,h1,h2,h3⟩:=h;exact h2.ext
theorem MS.here{H0 H:A2}{X:List It}{c:Nat}{n:Int}{tab:Value}{rs:List (List Int)}{es:List En}(h:MS H0 H X c n tab rs es) :
  ∃ s1 s2,H.get c=some ⟨[.int .i64 n,tab,s1,s2],1,false⟩∧(∀ H',lnS s1 H'=.ok (.int .i64 rs.length) H')∧∀ H',lnS s2 H'=.ok (.int .i64 es.length) H':=by
 obtain⟨l,s1,o1,s2,o2,bs,h1,h2,h3⟩:=h;refine⟨s1,s2,h2.get 0 rfl,fun H'=>?_,(h2.row 2 rfl).len⟩;rw[(h2.row 1 rfl).len,← h1,List.length_map]
theorem MS.memX{H0 H:A2}{X:List It}{c:Nat}{n:Int}{tab:Value}{rs:List (List Int)}{es:List En}(h:MS H0 H X c n tab rs es){b:Nat}{k:Blk}(hb:D9 b k ∈ X):H.get b=some k:=by
 obtain⟨l,s1,o1,s2,o2,bs,h1,h2,h3⟩:=h;exact h2.memBlk (by simp[hb])
theorem B7k{rv:List Int}{n:Int}{k:Nat}{r:List Int}(h:S1 rv (2*n*k) n 2=some r)(hn:0≤n):r.length=n.toNat*2∧A3g rv n k=some ((U4 r 2 n.toNat).map num):=by
 refine⟨?_,by unfold A3g X0; rw[h]; rfl⟩;have:=A72 (A71 h);omega
theorem D0o (k:Nat) {H0 H:A2} {X:List It} {c:Nat} {n:Int} {tab:Value} {rs:List (List Int)} {es:List En} (h:MS H0 H X c n tab rs es) (hn:0≤n∧n≤65535) (hrl:rs.length<65536) {vR vE:Value} {rv:List Int} (w:Int) (hv:Sl H 1 vR B7 rv) (hE:Go.Sw.veq vE vE=true) (hb:Byt rv) (hl:rv.length<2 ^ 31) :
  match A3g rv n rs.length with
  | some r=>∃ H',R (T k) F.A8n [.agg #[B6 c,vR,vE,.int .i64 w]] H=.ok (.int .i64 (P6 r)) H'∧MS H0 H' X c n tab (rs++[r]) es
  | none=>R (T k) F.A8n [.agg #[B6 c,vR,vE,.int .i64 w]] H=.panic K7 H:=by
 obtain⟨l,s1,o1,s2,o2,bs,h1,g,h3⟩:=h;have hM:=g.get 0 rfl;have hlen1:=(g.row 1 rfl).len;have hll:l.length=rs.length:=by rw[← h1,List.length_map]
 rw[hll] at hlen1;have hcn:¬ c=H.n:=by have:=A2.get_lt hM; omega
 have hx1:Ext H (H.push ⟨[B6 c,vR,vE,.int .i64 w],1,false⟩):=(Ext.refl H).push _;have hm0:0≤2*n*(rs.length:Int):=Int.mul_nonneg (by omega) (by omega);have hm1:2*n*(rs.length:Int)≤131070*65536:=Int.mul_le_mul (by omega) (by omega) (by omega) (by omega);have hRows:=A50 k (hv.up hx1) (2*n*rs.length) n 2 (by omega);rw[G1n];cases hr:S1 rv (2*n*rs.length) n 2 with
 | none=>
  have:A3g rv n rs.length=none:=by unfold A3g X0; rw[hr]; rfl
  rw[this];rw[hr] at hRows;refine A0p ⟨_,?_,hx1⟩ D3.fail.alive;simp -implicitDefEqProofs(disch:=omega) [A8n,hcn,hM,hlen1,hRows]
 | some r=>
  obtain⟨hrlen,hK⟩:=B7k hr hn.1;rw[hK];dsimp only;rw[hr] at hRows;have hs:=A6k (hv.up hx1) (A71 hr);have hrb:=(hb.piece (A71 hr)).1;obtain⟨n,rfl⟩:=Int.eq_ofNat_of_zero_le hn.1;simp only[Int.toNat_natCast] at hrlen ⊢;generalize X9 1 vR (2*(n:Int)*rs.length).toNat ((n:Int)*2).toNat=q at hs hRows;obtain⟨B1,hB1⟩:∃ B1:Blk,B1=⟨[B6 c,vR,vE,.int .i64 w],1,false⟩:=⟨_,rfl⟩
  obtain⟨B2,hB2⟩:∃ B2:Blk,B2=⟨[q],1,false⟩:=⟨_,rfl⟩
  rw[← hB1] at hs;have g:=(g.push B1).push B2;have hx2:Ext (H.push B1) ((H.push B1).push B2):=(Ext.refl _).push _;obtain⟨vals,hvals⟩:∃ vals,vals=(U4 r 2 n).map num:=⟨_,rfl⟩
  rw[← hvals];have hvl:vals.length=n:=by rw[hvals]; simp
  obtain ⟨x,e',H1,hr',rfl,rfl,ho,hx⟩:=K5 (body:=D4i k (R (T k))) n
   (fun j e H'=>e=[(1,B6 H.n),(4,B6 (H.n+1)),(5,.slice (some ⟨H.n+2,0,none⟩) n n),(6,.int .i64 (P6 (vals.take j))),(29,.int .i64 n),(30,.int .i64 j)] ∧
    Own ((H.push B1).push B2) H' 1 (.slice (some ⟨H.n+2,0,none⟩) n n) N3 (vals.take j++List.replicate (n - j) 0)∧Ext ((H.push B1).push B2) H')
   (fun x e H'=>x=.exit 0∧e=[(1,B6 H.n),(4,B6 (H.n+1)),(5,.slice (some ⟨H.n+2,0,none⟩) n n),(6,.int .i64 (P6 vals)),(29,.int .i64 n),(30,.int .i64 n),(31,.bool false)] ∧
    Own ((H.push B1).push B2) H' 1 (.slice (some ⟨H.n+2,0,none⟩) n n) N3 vals∧Ext ((H.push B1).push B2) H')
   (e0:=[(1,B6 H.n),(4,B6 (H.n+1)),(5,.slice (some ⟨H.n+2,0,none⟩) n n),(6,.int .i64 0),(29,.int .i64 n),(30,.int .i64 0)]) (H0:=((H.push B1).push B2).push ⟨D5 [Value.int .i64 0] n,1,false⟩)
   ⟨rfl,.inr ⟨H.n+2,by simp,by simp,by rw[ζd _ _ _ (by simp),A8d]; simp⟩,(Ext.refl _).push _⟩ (by omega)
   (fun j e H' hj ⟨he,ho,hx⟩=>by
    subst he;have hlt:(j:Int)<n:=by omega
    have hg2:H'.get (H.n+1)=some ⟨[q],1,false⟩:=hx.get (by rw[ζd _ _ _ (by simp),hB2]);have hu:=S5 k ((hs.up hx2).up hx) hrb (2*(j:Int)) (by omega);have hcut:uS r (2*(j:Int)) 2=some (num ((r.drop (2*j)).take 2)):=B81 (z:=2) hrlen hj;have hy:vals[j]?=some (num ((r.drop (2*j)).take 2)):=by rw[hvals,List.getElem?_map,B0i _ _ _ _ hj]; rfl
    rw[hcut,A3w] at hu;have hyb:=K8 hrb hcut;obtain⟨b,H2,e1,h1,h2,h3,h4,h5,h6⟩:=ho.set N0 j 0 1 0 (num ((r.drop (2*j)).take 2)) (.int .i64 (num ((r.drop (2*j)).take 2))) (B19 _ _ hvl hj) rfl rfl (by decide) rfl;rw[E5y _ _ hvl hj _ hy] at h4;have hnl:P6 (vals.take (j+1))=max (P6 (vals.take j)) (num ((r.drop (2*j)).take 2)+1):=by rw[A29 hy,D6k]
    rw[hnl];have hn0:=B8s (vals.take j);generalize num ((r.drop (2*j)).take 2)=y at *;generalize P6 (vals.take j)=m at *;simp at e1;obtain⟨rfl,_⟩:=e1;have hx':Ext ((H.push B1).push B2) H2:=⟨by rw[h6]; exact hx.n,fun d hd hs=>by rw[h5 d (by intro e; rw[e] at hd; simp at hd)]; exact hx.2 d hd hs⟩
    have hgv:H2.get (H.n+2)=some ⟨rows N3 (vals.take (j+1)++List.replicate (n - (j+1)) 0),1,false⟩:=by
     rcases h4 with⟨h,_⟩ | ⟨b',h,_,h'⟩
     ·have:=congrArg List.length h; simp only[List.length_append,List.length_replicate,List.length_take,hvl,List.length_nil] at this; omega
     ·simp at h; obtain⟨rfl,_⟩:=h; exact h'
    have hld:=A35 N0 hgv (i:=j) (c:=0) (x:=y) (by rw[List.getElem?_append_left (by simp; omega),List.getElem?_take,if_pos (by omega),hy]) (by decide) rfl;simp only[Nat.add_zero,Nat.mul_one] at h3 hld;have hmax:(if y+1>m then y+1 else m)=max m (y+1):=by split <;> omega
    refine .inl ⟨_,H2,?_,rfl,h4,hx'⟩;rw[E0e,← hmax];simp -implicitDefEqProofs(disch:=omega) [-Q3,-A4a,hlt,A4a H.n.succ 0,hg2,hu,D2a,h3,hld]
    )
   (fun e H' ⟨he,ho,hx⟩=>by
    subst he;refine⟨.exit 0,_,H',?_,by simp,rfl,rfl,?_,hx⟩
    ·rw[E0e,List.take_of_length_le (by omega)];simp -implicitDefEqProofs
    ·rw[List.take_of_length_le (by omega)] at ho;simpa using ho)
  obtain⟨o3,g⟩:=g.more_own ho hx;obtain⟨sl,hsl⟩:∃ sl:Value,sl=.slice (some ⟨H.n+2,0,none⟩) n n:=⟨_,rfl⟩
  rw[← hsl] at g ho hr';obtain⟨bs',hbs⟩:∃ bs',bs'=bs++[D9 H.n B1,D9 (H.n+1) B2,D6 o3 1 sl N3 vals]:=⟨_,rfl⟩
  have g:D2 H0 H1 (D9 c ⟨[.int .i64 n,tab,s1,s2],1,false⟩ :: D6 o1 1 s1 A9m l :: D6 o2 4 s2 E7 es :: (X++bs')):=by
   rw[hbs];simpa using g
  have hM1:=g.get 0 rfl;have hB1g:H1.get H.n=some B1:=g.memBlk (by simp[hbs]);have hn1:¬ H.n=H1.n:=by have:=A2.get_lt hB1g; omega
  have hc1:¬ c=H1.n:=by have:=A2.get_lt hM1; omega
  have hvq:=(g.row 1 rfl).veq;obtain⟨s1',o1',H2,e2,g⟩:=g.append1 (bytes:=24) 1 A7v rfl (vals,sl) (by rw[hll]; omega) (by decide);simp only[List.set_cons_zero,List.set_cons_succ] at g;have hB1g2:H2.get H.n=some B1:=g.memBlk (by simp[hbs]);obtain⟨H3,e3,g,_⟩:=g.stCell 0 rfl 2 (g.row 1 rfl).storable (g.row 1 rfl).cells (by simp);simp only[List.set_cons_zero,List.set_cons_succ] at g;refine⟨H3,A0y ?_,l++[(vals,sl)],s1',o1',s2,o2,bs',by simp[h1],g,fun x hx=>?_⟩
  ·have hsls:storable sl=true:=by rw[hsl]; rfl
   have hslc:sl.cells=#[sl]:=by rw[hsl]; rfl
   have hsln:∀ H',lnS sl H'=.ok (.int .i64 n) H':=fun H'=>by rw[hsl]; rfl
   rw[hB1] at hB1g hB1g2 hr';rw[hB2] at hr';simp only[A9m] at e2;simp -implicitDefEqProofs(disch:=omega) [-Q3,A8n,hcn,hM,hlen1,hRows,A9x,Q3 1 (H.n+1) 0,← hsl,hr',E9w,hB1g,hB1g2,hn1,hc1,hM1,hvq,hE,hsls,hslc,hsln,e2,e3]
  ·rcases List.mem_append.1 hx with hx | hx
   ·obtain⟨o,ho⟩:=h3 x hx;exact⟨o,by rw[hbs]; simp[ho]⟩
   ·simp at hx;subst hx;exact⟨o3,by rw[hbs]; simp⟩
end Go.Sw
end
section
namespace Go.Sw
open Go.RowKit
theorem J03 (k:Nat) {H0 H:A2} {X:List It} {c:Nat} {n:Int} {tab:Value} {rs:List (List Int)} {es:List En} (h:MS H0 H X c n tab rs es) (hel:es.length<65536) {vR vE:Value} {ev:List Int} (w:Int) (hw:w=0∨w=1∨w=2) (hv:Sl H 1 vE B7 ev) (hR:Go.Sw.veq vR vR=true) (hb:Byt ev) (hl:ev.length<2 ^ 31) :
  match A3d ev w es.length with
  | some e=>∃ H',R (T k) F.ζe [.agg #[B6 c,vR,vE,.int .i64 w]] H=.ok (.int .i64 (e.next+1)) H'∧MS H0 H' X c n tab rs (es++[e])
  | none=>R (T k) F.ζe [.agg #[B6 c,vR,vE,.int .i64 w]] H=.panic K7 H:=by
 obtain⟨l,s1,o1,s2,o2,bs,h1,g,h3⟩:=h;have hM:=g.get 0 rfl;have hlen2:=(g.row 2 rfl).len;have hcn:¬ c=H.n:=by have:=A2.get_lt hM; omega
 have hx1:Ext H (H.push ⟨[B6 c,vR,vE,.int .i64 w],1,false⟩):=(Ext.refl H).push _;have hm0:0≤(4+2*w)*(es.length:Int):=Int.mul_nonneg (by omega) (by omega);have hm1:(4+2*w)*(es.length:Int)≤8*65536:=Int.mul_le_mul (by omega) (by omega) (by omega) (by omega);have hCut:=A4x k (hv.up hx1) ((4+2*w)*es.length) (4+2*w) (by omega);rw[G18];cases hr:E1 ev ((4+2*w)*es.length) (4+2*w) with
 | none=>
  have:A3d ev w es.length=none:=by unfold A3d; rw[hr]; rfl
  rw[this];rw[hr] at hCut;refine A0p ⟨_,?_,hx1⟩ D3.fail.alive;simp -implicitDefEqProofs(disch:=omega) [ζe,hcn,hM,hlen2,hCut]
 | some r=>
  have hK:A3d ev w es.length=some (B17 w r):=by unfold A3d; rw[hr]; rfl
  rw[hK];dsimp only;rw[hr] at hCut;have hs:=A6k (hv.up hx1) hr;have hrb:=(hb.piece hr).1;have hrl:=A72 hr;generalize X9 1 vE ((4+2*w)*(es.length:Int)).toNat (4+2*w).toNat=q at hs hCut;have hq:=A4l hs;obtain⟨B1,hB1⟩:∃ B1:Blk,B1=⟨[B6 c,vR,vE,.int .i64 w],1,false⟩:=⟨_,rfl⟩
  obtain⟨B2,hB2⟩:∃ B2:Blk,B2=⟨[q],1,false⟩:=⟨_,rfl⟩
  obtain⟨e,he⟩:∃ e,e=B17 w r:=⟨_,rfl⟩
  rw [← he];have hu:∀ i,0≤i→i+2≤4+2*w→∀ H',Ext (H.push B1) H'→R (T k) F.ζc [.agg #[q],.int .i64 i] H'=.ok (.int .i64 (gU r i 2)) H':=fun i hi0 hi1 H' hx=>by
   rw[← hB1] at hs;have:=S5 k (hs.up hx) hrb i (by omega);rw[(A5t hb hr hi0 hi1).1,A3w] at this;exact this
  have hx2:Ext (H.push B1) ((H.push B1).push B2):=(Ext.refl _).push _;have u0:=hu 0 (by omega) (by omega) _ hx2;have u2:=hu 2 (by omega) (by omega) _ hx2;have g0:=(A5t hb hr (i:=0) (by omega) (by omega)).2;have g2:=(A5t hb hr (i:=2) (by omega) (by omega)).2;have hn:e.next=gU r 0 2:=by rw[he]; rfl
  have hf:e.flags=gU r 2 2:=by rw[he]; rfl
  have g:=((g.push B1).push B2).push ⟨E7 e,1,false⟩;obtain⟨P,hP⟩:∃ P,P=((H.push B1).push B2).push ⟨E7 e,1,false⟩:=⟨_,rfl⟩
  rw[← hP] at g;obtain⟨bs',hbs⟩:∃ bs',bs'=bs++[D9 H.n B1,D9 (H.n+1) B2,D9 (H.n+2) ⟨E7 e,1,false⟩]:=⟨_,rfl⟩
  have g:D2 H0 P (D9 c ⟨[.int .i64 n,tab,s1,s2],1,false⟩ :: D6 o1 1 s1 A9m l :: D6 o2 4 s2 E7 es :: (X++bs')):=by
   rw[hbs];simpa using g
  have hM1:=g.get 0 rfl;have hB1g:P.get H.n=some B1:=g.memBlk (by simp[hbs]);have hPn:P.n=H.n+3:=by rw[hP]; simp
  have hn1:¬ H.n=P.n:=by omega
  have hc1:¬ c=P.n:=by have:=A2.get_lt hM1; omega
  have hvq:=(g.row 2 rfl).veq;obtain⟨s2',o2',H2,e2,g⟩:=g.append1 (bytes:=32) 2 B28 rfl e (by omega) (by decide);simp only[List.set_cons_zero,List.set_cons_succ] at g;have hB1g2:H2.get H.n=some B1:=g.memBlk (by simp[hbs]);obtain⟨H3,e3,g,_⟩:=g.stCell 0 rfl 3 (g.row 2 rfl).storable (g.row 2 rfl).cells (by simp);simp only[List.set_cons_zero,List.set_cons_succ] at g;have hB3g:H3.get (H.n+2)=some ⟨E7 e,1,false⟩:=g.memBlk (by simp[hbs]);refine⟨H3,A0y ?_,l,s1,o1,s2',o2',bs',h1,g,fun x hx=>?_⟩;rotate_left
  ·obtain⟨o,ho⟩:=h3 x hx;exact⟨o,by rw[hbs]; simp[ho]⟩
  rw[hB1] at hB1g hB1g2;have hPe:=hP;rw[hB1,hB2] at hPe;have hP2:P.get (H.n+2)=some ⟨E7 e,1,false⟩:=by rw[hP]; simp
  have hP1:P.get (H.n+1)=some B2:=by rw[hP]; simp
  rw[hB2] at hP1;rw[hB1,hB2] at u0 u2;have hq2:Go.Sw.veq (.agg #[q]) (.agg #[q])=true:=U7 (l:=[q]) fun u hu=>by simp at hu; subst hu; exact hq
  have hn2:¬ H.n+2=P.n:=by omega
  have e2':=e2;unfold E7 at e2';have hj4:D17 k (R (T k)) (B6 H.n) (B6 (H.n+1)) (B6 (H.n+2)) (.bool false) P=.ok (.int .i64 (e.next+1)) H3:=by
   rw[E9r];simp -implicitDefEqProofs(disch:=omega) [-Q3,hB1g,hM1,hP2,hn1,hc1,hB1g2,hvq,e2',e3,hB3g]
  have hj3:D16 k (R (T k)) (B6 H.n) (B6 (H.n+2)) P=.ok (.int .i64 (e.next+1)) H3:=by
   rw[E9q];simp -implicitDefEqProofs(disch:=omega) [-Q3,hB1g,hM1,hP2,hn1,hc1,hB1g2,hvq,e2',e3,hB3g]
  rcases hw with rfl | rfl | rfl
  ·have hall:E7 e=[.int .i64 (gU r 0 2),.int .i64 (gU r 2 2),.int .i64 0,.int .i64 0]:=by rw[he]; rfl
   rw[hall] at hPe;simp -implicitDefEqProofs(disch:=omega) at hCut;simp -implicitDefEqProofs(disch:=omega) [ζe,hcn,hM,hlen2,hCut,u0,u2,hq2,← hPe,E9p,hB1g,hj4]
  ·have hall:E7 e=[.int .i64 (gU r 0 2),.int .i64 (gU r 2 2),.int .i64 (gU r 4 2),.int .i64 0]:=by rw[he]; rfl
   rw[hall] at hPe;have u4:=hu 4 (by omega) (by omega) _ (hx2.push ⟨[.int .i64 (gU r 0 2),.int .i64 (gU r 2 2),.int .i64 0,.int .i64 0],1,false⟩);rw[hB1,hB2] at u4;simp -implicitDefEqProofs(disch:=omega) at hCut;simp -implicitDefEqProofs(disch:=omega) [ζe,hcn,hM,hlen2,hCut,u0,u2,u4,hq2,← hPe,E0a,hB1g,hj4]
  ·have hall:E7 e=[.int .i64 (gU r 0 2),.int .i64 (gU r 2 2),.int .i64 (gU r 4 2),.int .i64 (gU r 6 2)]:=by rw[he]; rfl
   rw[hall] at hPe;have u4:=hu 4 (by omega) (by omega) _ (hx2.push ⟨[.int .i64 (gU r 0 2),.int .i64 (gU r 2 2),.int .i64 0,.int .i64 0],1,false⟩);have u6:=hu 6 (by omega) (by omega) _ (hx2.push ⟨[.int .i64 (gU r 0 2),.int .i64 (gU r 2 2),.int .i64 (gU r 4 2),.int .i64 0],1,false⟩);rw[hB1,hB2] at u4 u6;simp -implicitDefEqProofs(disch:=omega) at hCut;simp -implicitDefEqProofs(disch:=omega) [ζe,hcn,hM,hlen2,hCut,u0,u2,u4,u6,hq2,← hPe,E0a,hj3]
theorem G8m(rs:List (List Int))(r:List Int):L9 (rs++[r])=max (L9 rs) (P6 r):=by
 unfold L9;rw[List.flatten_append,B56];simp
theorem B8t(rs:List (List Int)):0≤L9 rs:=B8s _
theorem D0m{rv:List Int}(hb:Byt rv){n:Int}{k:Nat}{r:List Int}(h:A3g rv n k=some r):∀ y,y ∈ r→0≤y∧y<65536:=by
 unfold A3g X0 at h;obtain⟨q,hq,rfl⟩:=Option.map_eq_some_iff.1 h;have hqb:=(hb.piece (A71 hq)).1;intro y hy;obtain⟨c,hc,rfl⟩:=List.mem_map.1 hy;obtain⟨h5,h6⟩:=D1p hqb _ _ hc;have:=D2e c h5;have hp:(256:Int) ^ c.length≤256 ^ 2:=by
  have:c.length≤2:=h6
  match hcl:c.length,this with
  | 0,_=>decide
  | 1,_=>decide
  | 2,_=>decide
 omega
theorem D6a{rv:List Int}(hb:Byt rv){n:Int}{m:Nat}{rs:List (List Int)}(h:U2 rv n m=some rs):L9 rs≤65536:=A88 (by omega) fun y hy=>by
 obtain⟨r,hrm,hy⟩:=List.mem_flatten.1 hy;obtain⟨i,hi⟩:=List.getElem?_of_mem hrm;obtain⟨k,_,hk⟩:=A23 h hi;exact (D0m hb hk y hy).2
theorem E3n{β:Type}{f:Nat→Option β}{n m:Nat}(h:n≤m)(hn:M6 f (List.range n)=none):M6 f (List.range m)=none:=by
 cases hm:M6 f (List.range m) with
 | none=>rfl
 | some r=>rw[D66 h hm] at hn; cases hn
section
variable (k:Nat) {H0:A2} {X:List It} {c r:Nat} {n:Int} {tab vR vE:Value} {rv ev:List Int} {w:Int}
 (hn:0≤n∧n≤65535) (hw:w=0∨w=1∨w=2) (hvR:Sl H0 1 vR B7 rv) (hvE:Sl H0 1 vE B7 ev) (hbR:Byt rv) (hbE:Byt ev) (hlR:rv.length<2 ^ 31) (hlE:ev.length<2 ^ 31)
 (hX:D9 r ⟨[B6 c,vR,vE,.int .i64 w],1,false⟩ ∈ X)
include hn hvR hvE hbR hlR hX
theorem J0x {H:A2} (s:Nat) (hs:s≤65536) {rs:List (List Int)} {es:List En} (h:MS H0 H X c n tab rs es) (hrs:rs.length≤s) (ht:U2 rv n rs.length=some rs) :
  (∃ rs' H',loopN (B53 k (R (T k))) B8 [(8,B6 c),(9,B6 r),(10,.int .i64 s),(11,.int .i64 (L9 rs))] H=.ok (.exit 2,[(8,B6 c),(9,B6 r),(10,.int .i64 s),(11,.int .i64 (L9 rs')),(63,.bool false)]) H'∧U2 rv n s=some rs'∧MS H0 H' X c n tab rs' es) ∨
  (∃ H',loopN (B53 k (R (T k))) B8 [(8,B6 c),(9,B6 r),(10,.int .i64 s),(11,.int .i64 (L9 rs))] H=.panic K7 H'∧Ext H0 H'∧U2 rv n s=none):=by
 rcases A84 (body:=B53 k (R (T k)))
  (fun m e H'=>∃ rs,m=s - rs.length∧rs.length≤s∧e=[(8,B6 c),(9,B6 r),(10,.int .i64 s),(11,.int .i64 (L9 rs))]∧U2 rv n rs.length=some rs∧MS H0 H' X c n tab rs es)
  (fun x e H'=>∃ rs',x=.exit 2∧e=[(8,B6 c),(9,B6 r),(10,.int .i64 s),(11,.int .i64 (L9 rs')),(63,.bool false)]∧U2 rv n s=some rs'∧MS H0 H' X c n tab rs' es)
  (fun v H'=>v=K7∧Ext H0 H'∧U2 rv n s=none)
  (s - rs.length) (e0:=[(8,B6 c),(9,B6 r),(10,.int .i64 s),(11,.int .i64 (L9 rs))]) (H0:=H) ⟨rs,rfl,hrs,rfl,ht,h⟩ (by omega)
  (fun m e H' ⟨rs,hm,hle,he,ht,h⟩=>by
   subst he;obtain⟨s1,s2,hM,hl1,hl2⟩:=h.here;have hr:=h.memX hX;have h0:=B8t rs;have h6:=D6a hbR ht;by_cases hlt:rs.length<s
   ·have hlt':(rs.length:Int)<s:=by omega
    have hrow:=D0o k h hn (by omega) (vE:=vE) w (hvR.up h.ext) (A4l hvE) hbR hlR;cases hK:A3g rv n rs.length with
    | none=>
     rw[hK] at hrow;refine .inr (.inr ⟨K7,H',?_,rfl,h.ext,E3n (n:=rs.length+1) hlt ?_⟩)
     ·rw[D5g];simp -implicitDefEqProofs(disch:=omega) [hM,hl1,hlt',hr,hrow]
     ·rw[B5d,show M6 (A3g rv n) (List.range rs.length)=some rs from ht,Option.bind_some,hK];rfl
    | some row=>
     rw[hK] at hrow;obtain⟨H2,e2,h2⟩:=hrow;have hmax:(if P6 row>L9 rs then P6 row else L9 rs)=L9 (rs++[row]):=by rw[G8m]; split <;> omega
     refine .inl ⟨s - (rs++[row]).length,_,H2,?_,by simp; omega,rs++[row],rfl,by simp; omega,rfl,?_,h2⟩
     ·rw[D5g,← hmax];simp -implicitDefEqProofs(disch:=omega) [hM,hl1,hlt',hr,e2]
     ·rw[List.length_append,List.length_singleton];unfold U2 at ht ⊢;rw[B5d,ht,Option.bind_some,hK];rfl
   ·have hlt':¬ (rs.length:Int)<s:=by omega
    refine .inr (.inl ⟨.exit 2,_,H',?_,by simp,rs,rfl,rfl,by rw[show s=rs.length by omega]; exact ht,h⟩);rw[D5g];simp -implicitDefEqProofs(disch:=omega) [hM,hl1,hlt']) with⟨x,e',H',h1,rs',rfl,rfl,h2,h3⟩ | ⟨v,H',h1,rfl,h2,h3⟩
 ·exact .inl ⟨rs',H',h1,h2,h3⟩
 ·exact .inr ⟨H',h1,h2,h3⟩
end
section
variable (k:Nat) {H0:A2} {X:List It} {c r:Nat} {n:Int} {tab vR vE:Value} {rv ev:List Int} {w:Int}
 (hn:0≤n∧n≤65535) (hw:w=0∨w=1∨w=2) (hvR:Sl H0 1 vR B7 rv) (hvE:Sl H0 1 vE B7 ev) (hbR:Byt rv) (hbE:Byt ev) (hlR:rv.length<2 ^ 31) (hlE:ev.length<2 ^ 31)
 (hX:D9 r ⟨[B6 c,vR,vE,.int .i64 w],1,false⟩ ∈ X)
include hw hvR hvE hbE hlE hX
theorem J04 {H:A2} (s:Int) (hs:2≤s∧s≤65536) (N:Nat) (hN:N≤65536) {rs:List (List Int)} {es:List En} (h:MS H0 H X c n tab rs es) (hes:es.length≤N) (ht:Y6 ev w es.length=some es) (hsn:P8 es≤s) :
  (∃ es' H',loopN (B54 k (R (T k))) B8 [(8,B6 c),(9,B6 r),(10,.int .i64 s),(11,.int .i64 N)] H=.ok (.exit 4,[(8,B6 c),(9,B6 r),(10,.int .i64 (max s (P8 es'))),(11,.int .i64 N),(74,.bool false)]) H'∧Y6 ev w N=some es'∧MS H0 H' X c n tab rs es') ∨
  (∃ H',loopN (B54 k (R (T k))) B8 [(8,B6 c),(9,B6 r),(10,.int .i64 s),(11,.int .i64 N)] H=.panic K7 H'∧Ext H0 H'∧Y6 ev w N=none):=by
 rcases A84 (body:=B54 k (R (T k)))
  (fun m e H'=>∃ es,m=N - es.length∧es.length≤N∧e=[(8,B6 c),(9,B6 r),(10,.int .i64 (max s (P8 es))),(11,.int .i64 N)]∧Y6 ev w es.length=some es∧MS H0 H' X c n tab rs es)
  (fun x e H'=>∃ es',x=.exit 4∧e=[(8,B6 c),(9,B6 r),(10,.int .i64 (max s (P8 es'))),(11,.int .i64 N),(74,.bool false)]∧Y6 ev w N=some es'∧MS H0 H' X c n tab rs es')
  (fun v H'=>v=K7∧Ext H0 H'∧Y6 ev w N=none)
  (N - es.length) (e0:=[(8,B6 c),(9,B6 r),(10,.int .i64 s),(11,.int .i64 N)]) (H0:=H) ⟨es,rfl,hes,by rw[show max s (P8 es)=s by omega],ht,h⟩ (by omega)
  (fun m e H' ⟨es,hm,hle,he,ht,h⟩=>by
   subst he;obtain⟨s1,s2,hM,hl1,hl2⟩:=h.here;have hr:=h.memX hX;have h6:=A2o hbE ht;by_cases hlt:es.length<N
   ·have hlt':(es.length:Int)<N:=by omega
    have hent:=J03 k h (by omega) (vR:=vR) w hw (hvE.up h.ext) (A4l hvR) hbE hlE;cases hK:A3d ev w es.length with
    | none=>
     rw[hK] at hent;refine .inr (.inr ⟨K7,H',?_,rfl,h.ext,E3n (n:=es.length+1) hlt ?_⟩)
     ·rw[D5h];simp -implicitDefEqProofs(disch:=omega) [hM,hl2,hlt',hr,hent]
     ·rw[B5d,show M6 (A3d ev w) (List.range es.length)=some es from ht,Option.bind_some,hK];rfl
    | some en=>
     rw [hK] at hent;obtain⟨H2,e2,h2⟩:=hent;have hen:P8 (es++[en])=max (P8 es) (en.next+1):=by
      unfold P8;rw[List.map_append,List.map_singleton,D6k];omega
     have hmax:(if en.next+1>max s (P8 es) then en.next+1 else max s (P8 es))=max s (P8 (es++[en])):=by rw[hen]; split <;> omega
     refine .inl ⟨N - (es++[en]).length,_,H2,?_,by simp; omega,es++[en],rfl,by simp; omega,rfl,?_,h2⟩
     ·rw[D5h,← hmax];simp -implicitDefEqProofs(disch:=omega) [hM,hl2,hlt',hr,e2]
     ·rw[List.length_append,List.length_singleton];unfold Y6 at ht ⊢;rw[B5d,ht,Option.bind_some,hK];rfl
   ·have hlt':¬ (es.length:Int)<N:=by omega
    refine .inr (.inl ⟨.exit 4,_,H',?_,by simp,es,rfl,rfl,by rw[show N=es.length by omega]; exact ht,h⟩);rw[D5h];simp -implicitDefEqProofs(disch:=omega) [hM,hl2,hlt']) with⟨x,e',H',h1,es',rfl,rfl,h2,h3⟩ | ⟨v,H',h1,rfl,h2,h3⟩
 ·exact .inl ⟨es',H',h1,h2,h3⟩
 ·exact .inr ⟨H',h1,h2,h3⟩
end
section
variable (k:Nat) {H0:A2} {X:List It} {c r:Nat} {n:Int} {tab vR vE:Value} {rv ev:List Int} {w:Int}
 (hn:0≤n∧n≤65535) (hw:w=0∨w=1∨w=2) (hvR:Sl H0 1 vR B7 rv) (hvE:Sl H0 1 vE B7 ev) (hbR:Byt rv) (hbE:Byt ev) (hlR:rv.length<2 ^ 31) (hlE:ev.length<2 ^ 31)
 (hX:D9 r ⟨[B6 c,vR,vE,.int .i64 w],1,false⟩ ∈ X)
include hn hw hvR hvE hbR hbE hlR hlE hX
theorem B5z {H:A2} (h:MS H0 H X c n tab [] []) :
  Cp K7 (Ext H0) (loopN (B52 k (R (T k))) B8 [(8,B6 c),(9,B6 r),(10,.int .i64 2),(11,.int .i64 0)] H) (X6 rv ev n w 2)
   fun x xe H'=>(∃ a b,xe=(.exit 0,[(8,B6 c),(9,B6 r),(10,a),(11,b),(56,.bool false)]))∧MS H0 H' X c n tab x.1 x.2:=by
 rcases A84 (body:=B52 k (R (T k)))
  (fun m e H'=>∃ (s:Nat) (rs:List (List Int)) (es:List En),m=2*(65537 - s)+(if rs.length<s then 1 else 0)∧e=[(8,B6 c),(9,B6 r),(10,.int .i64 s),(11,.int .i64 (L9 rs))]∧2≤s∧s≤65536∧rs.length≤s ∧
   U2 rv n rs.length=some rs∧es.length=(L9 rs).toNat∧Y6 ev w es.length=some es∧P8 es≤s∧MS H0 H' X c n tab rs es∧X6 rv ev n w 2=if rs.length<s then X6 rv ev n w s else some (rs,es))
  (fun x e H'=>x=.exit 0∧∃ rs es a b,e=[(8,B6 c),(9,B6 r),(10,a),(11,b),(56,.bool false)]∧X6 rv ev n w 2=some (rs,es)∧MS H0 H' X c n tab rs es)
  (fun v H'=>v=K7∧Ext H0 H'∧X6 rv ev n w 2=none)
  (2*65535+1) (e0:=[(8,B6 c),(9,B6 r),(10,.int .i64 2),(11,.int .i64 0)]) (H0:=H) ⟨2,[],[],rfl,rfl,by omega,by omega,by simp,rfl,rfl,rfl,(by decide),h,rfl⟩ (by omega)
  (fun m e H' ⟨s,rs,es,hm,he,hs2,hs6,hrs,ht,hel,hte,hne,h,hspec⟩=>by
   subst he;obtain⟨s1,s2,hM,hl1,hl2⟩:=h.here;have h0:=B8t rs;by_cases hlt:rs.length<s
   ·have hlt':(rs.length:Int)<s:=by omega
    rw [if_pos hlt] at hspec;have hce:=E5p (rv:=rv) hbE (n:=n) (w:=w) hs6;have hgo:∀ x,(loopN (B53 k (R (T k))) B8 [(8,B6 c),(9,B6 r),(10,.int .i64 s),(11,.int .i64 (L9 rs))] H').bind (fun r111 h112=>D5p k (R (T k)) r111.1 r111.2 h112)=x→B52 k (R (T k)) [(8,B6 c),(9,B6 r),(10,.int .i64 s),(11,.int .i64 (L9 rs))] H'=x:=fun x hx=>by
     rw[← hx,E2s];simp -implicitDefEqProofs(disch:=omega) [hM,hl1,hlt']
    rcases J0x k hn hvR hvE hbR hlR hX s hs6 h hrs ht with⟨rs',H2,e2,ht2,h2⟩ | ⟨H2,e2,hx2,ht2⟩
    rotate_left
    ·refine .inr (.inr ⟨K7,H2,hgo _ ?_,rfl,hx2,by rw[hspec,hce,ht2]; rfl⟩);rw[e2]; rfl
    have hrl:rs'.length=s:=by have:=U5 ht2; simpa using this
    have hn2:=B8t rs';have hn6:=D6a hbR ht2;have hpre:rs=rs'.take rs.length:=by
     have:=D66 hrs ht2;have ht':M6 (A3g rv n) (List.range rs.length)=some rs:=ht;rw[ht'] at this;injection this
    have hmono:L9 rs≤L9 rs':=by
     conv=>lhs; rw[hpre]
     have:=List.take_append_drop rs.length rs';conv=>rhs; rw[← this]
     unfold L9;rw[List.flatten_append,B56];omega
    have hNN:((L9 rs').toNat:Int)=L9 rs':=by omega
    rw [hspec] at *;rw[ht2,Option.bind_some] at hce;have hgo2:∀ x,(loopN (B54 k (R (T k))) B8 [(8,B6 c),(9,B6 r),(10,.int .i64 s),(11,.int .i64 (((L9 rs').toNat:Nat):Int))] H2).bind (fun r111 h112=>D5q k (R (T k)) r111.1 r111.2 h112)=x→B52 k (R (T k)) [(8,B6 c),(9,B6 r),(10,.int .i64 s),(11,.int .i64 (L9 rs))] H'=x:=fun x hx=>by
     refine hgo x ?_;rw[e2,← hx,Res.bind_ok,G30,hNN]
    rcases J04 k hw hvR hvE hbE hlE hX s (by omega) (L9 rs').toNat (by omega) h2 (by omega) hte hne with⟨es',H3,e3,ht3,h3⟩ | ⟨H3,e3,hx3,ht3⟩
    rotate_left
    ·refine .inr (.inr ⟨K7,H3,hgo2 _ ?_,rfl,hx3,by rw[hce,ht3]; rfl⟩);rw[e3]; rfl
    have hE:=A2o hbE ht3;have hel':es'.length=(L9 rs').toNat:=by have:=U5 ht3; simpa using this
    rw[ht3,Option.bind_some] at hce;have hmx:((max s (P8 es').toNat:Nat):Int)=max (s:Int) (P8 es'):=by omega
    refine .inl ⟨2*(65537 - max s (P8 es').toNat)+(if rs'.length<max s (P8 es').toNat then 1 else 0),_,H3,hgo2 _ ?_,?_,max s (P8 es').toNat,rs',es',rfl,rfl,by omega,by omega,by omega,by rw[hrl]; exact ht2,hel',by rw[hel']; exact ht3,by omega,h3,?_⟩
    ·rw[e3,Res.bind_ok,G31,hmx,hNN]
    ·rw[hm,if_pos hlt,hrl];split <;> omega
    ·rw[hce,hrl];by_cases hcl:(P8 es').toNat≤s
     ·rw[if_pos hcl,if_neg (by omega)]
     ·rw[if_neg hcl,if_pos (by omega),show max s (P8 es').toNat=(P8 es').toNat by omega]
   ·have hlt':¬ (rs.length:Int)<s:=by omega
    have hlt2:¬ (es.length:Int)<L9 rs:=by omega
    rw[if_neg hlt] at hspec;refine .inr (.inl ⟨.exit 0,[(8,B6 c),(9,B6 r),(10,.int .i64 s),(11,.int .i64 (L9 rs)),(56,.bool false)],H',?_,by simp,rfl,rs,es,_,_,rfl,hspec,h⟩);rw[E2s];simp -implicitDefEqProofs(disch:=omega) [hM,hl1,hl2,hlt',hlt2]) with⟨x,e',H',h1,rfl,rs',es',a,b,rfl,h2,h3⟩ | ⟨v,H',h1,rfl,h2,h3⟩
 ·rw[h2];exact⟨_,H',h1,h3.ext,⟨a,b,rfl⟩,h3⟩
 ·rw[h3];exact⟨H',h1,h2⟩
end
end Go.Sw
end
