/-
  Functions' forms, and what is proved of them, part 6.
-/
import Derived.Test.YtanfippcmdialaaGreatSwW3
import Derived.Test.YtanfippcmdialaaGreatSwW5
import Derived.Test.YtanfippcmdialaaGreatSwW1
import Derived.Test.YtanfippcmdialaaGreatSwCfg
import Derived.Test.YtanfippcmdialaaGreatSwLib10
set_option linter.unusedSimpArgs false
set_option linter.unusedVariables false
set_option linter.unusedSectionVars false
section
namespace Go.Sw
open Go.RowKit
structure A1o where
 of:Int × List Pt
 data:List Int
abbrev E6p(t:A1o):List Value:=[W4 t.of,lv B7 t.data]
abbrev A7k(t:A1o):Value:=boxV (E6p t).toArray
structure A1o.ok (t:A1o):Prop where
 pts:∀ p,p ∈ t.of.2→p.ok
 rise:P9 t.of.2=true
 plen:t.of.2.length<2 ^ 31
 byt:Byt t.data
 len:t.data.length<2 ^ 31
 has:∀ id at_,A28 t.of.2 id=some at_→0≤at_∧∃ n,uS t.data at_ 4=some n∧at_+4+4*n≤t.data.length
def A4r(t:A1o)(id:Int):Int:=match A28 t.of.2 id with
 | some at_=>gU t.data at_ 4
 | none=>0
def A1c(t:A1o)(id i:Int):Option (Int × Int):=match A28 t.of.2 id with
 | some at_=>if 0≤i∧i<gU t.data at_ 4 then some (s16 (gU t.data (at_+4+4*i) 2),s16 (gU t.data (at_+6+4*i) 2)) else none
 | none=>none
theorem G4z(k:Nat)(t:A1o)(ht:t.ok)(id:Int)(H:A2):R (T k) F.B30 [A7k t,.int .i64 id] H=.ok (.int .i64 (A4r t id)) H:=by
 rw[G1f];refine D8 ⟨H,?_,Ext.refl H⟩ (.int _ _);have hg:=fun H'=>A9h k t.of ht.pts ht.rise id ht.plen H';unfold A4r;cases h:A28 t.of.2 id with
 | none=>
  rw[h] at hg;simp only[Option.getD_none,Option.isSome_none] at hg;simp -implicitDefEqProofs(disch:=omega) [B30,hg]
 | some at_=>
  obtain⟨h0,n,hn,hfit⟩:=ht.has id at_ h;rw[h] at hg;simp only[Option.getD_some,Option.isSome_some] at hg;have hU:=fun H'=>A0z k (Sl.lv H' 1 t.data) ht.byt at_ (by have:=ht.len; omega);rw[hn] at hU;dsimp only;rw[L8 hn];simp -implicitDefEqProofs(disch:=omega) [B30,hg,hU,orF]
theorem G6j (k:Nat) (t:A1o) (ht:t.ok) (id i:Int) (H:A2):R (T k) F.A93 [A7k t,.int .i64 id,.int .i64 i] H=.ok (.tuple #[.agg #[.int .i64 ((A1c t id i).getD (0,0)).1,.int .i64 ((A1c t id i).getD (0,0)).2],.bool (A1c t id i).isSome]) H:=by
 rw[G3i];have hx:=fun (p:Int × Int)=>(Ext.refl H).push ⟨[.int .i64 p.1,.int .i64 p.2],1,false⟩;have fl:∀ x y b,D3 (.tuple #[.agg #[.int .i64 x,.int .i64 y],.bool b]):=fun x y b=>D3.tupleL (l:=[.agg #[.int .i64 x,.int .i64 y],.bool b]) (.cons (D3.aggL (l:=[.int .i64 x,.int .i64 y]) (.cons (.int _ _) (.cons (.int _ _) .nil))) (.cons (.bool _) .nil));have hc:=fun H'=>G4z k t ht id H';by_cases h0:i<0
 ·have hN:A1c t id i=none:=by
   unfold A1c;split
   ·rw[if_neg (by omega)]
   ·rfl
  rw[hN];refine D8 ⟨_,?_,hx (0,0)⟩ (fl _ _ _).alive;simp -implicitDefEqProofs(disch:=omega) [A93,h0]
 by_cases h1:A4r t id≤i
 ·have hN:A1c t id i=none:=by
   unfold A1c;unfold A4r at h1;split
   ·rename_i at_ e;rw[e] at h1;dsimp only at h1;rw[if_neg (by omega)]
   ·rfl
  rw[hN];refine D8 ⟨_,?_,hx (0,0)⟩ (fl _ _ _).alive;simp -implicitDefEqProofs(disch:=omega) [A93,h0,h1,hc]
 have hg:=fun H'=>A9h k t.of ht.pts ht.rise id ht.plen H';unfold A1c;unfold A4r at h1 hc;cases h:A28 t.of.2 id with
 | none=>rw[h] at h1; dsimp only at h1; omega
 | some at_=>
  obtain ⟨a0,n,hn,hfit⟩:=ht.has id at_ h;rw[h] at hg h1 hc;dsimp only at h1 hc ⊢;have hnb:=W5 ht.byt hn;rw[L8 hn] at h1 hc ⊢;rw[if_pos (by omega)];simp only[Option.getD_some,Option.isSome_some] at hg ⊢;have hU:∀ j:Int,0≤j→j+2≤(t.data.length:Int)→uS t.data j 2=some (gU t.data j 2):=fun j b0 b1=>by
   have:∃ x,uS t.data j 2=some x:=by
    unfold uS E1;rw[if_pos ⟨by omega,by omega,by omega,by omega⟩];exact⟨_,rfl⟩
   obtain⟨x,hx⟩:=this;rw[hx,L8 hx]
  have hl:=ht.len;have r1:=fun H' j=>B3k k (Sl.lv H' 1 t.data) ht.byt j (by omega);have q1:∀ H',R (T k) F.A64 [.agg #[lv B7 t.data],.int .i64 (at_+4+4*i)] H'=.ok (.int .i64 (s16 (gU t.data (at_+4+4*i) 2))) H':=fun H'=>by rw[r1,hU _ (by omega) (by omega)]; rfl
  have q2:∀ H',R (T k) F.A64 [.agg #[lv B7 t.data],.int .i64 (at_+6+4*i)] H'=.ok (.int .i64 (s16 (gU t.data (at_+6+4*i) 2))) H':=fun H'=>by rw[r1,hU _ (by omega) (by omega)]; rfl
  have w1:IntKind.i64.wrap (4*i)=4*i:=wrap_i64 (by omega) (by omega);have w2:IntKind.i64.wrap (at_+4)=at_+4:=wrap_i64 (by omega) (by omega);have w3:IntKind.i64.wrap (at_+6)=at_+6:=wrap_i64 (by omega) (by omega);have w4:IntKind.i64.wrap (at_+4+4*i)=at_+4+4*i:=wrap_i64 (by omega) (by omega);have w5:IntKind.i64.wrap (at_+6+4*i)=at_+6+4*i:=wrap_i64 (by omega) (by omega);have vw:veq (vwB t.data) (vwB t.data)=true:=U7 (l:=[lv B7 t.data]) fun u hu=>by simp at hu; subst hu; exact A5z t.data
  refine D8 ⟨_,?_,hx (s16 (gU t.data (at_+4+4*i) 2),s16 (gU t.data (at_+6+4*i) 2))⟩ (fl _ _ _).alive;simp -implicitDefEqProofs(disch:=omega) [A93,h0,h1,hc,hg,q1,q2,w1,w2,w3,w4,w5,vw]
end Go.Sw
end
section
namespace Go.Sw
abbrev tyM:Nat:=235
abbrev tyS:Nat:=216
theorem alM(h:A2):D1 A0 tyM h=V1 [.map none] h:=A07 (z:=.map none) (by kernel_rfl) h
theorem alU(h:A2):D1 A0 tyS h=V1 [] h:=A07 (z:=.agg #[]) (by kernel_rfl) h
theorem ldM(a:Value)(h:A2):A3 A0 tyM a h=ld1 a h:=Q4 (by kernel_rfl) a h
theorem stM(a v:Value)(h:A2):B4 A0 tyM a v h=stR 1 a v h:=S9 (by kernel_rfl) a v h
theorem stU(a v:Value)(h:A2):B4 A0 tyS a v h=stR 0 a v h:=S9 (by kernel_rfl) a v h
end Go.Sw
end
section
namespace Go.Sw
open Go.RowKit
def ptL(p:Pt):List (List Int):=(List.range (p.last - p.first+1).toNat).map fun j=>[p.first+(j:Nat),(p.num (p.first+(j:Nat))).getD 0]
theorem B1g{α β:Type}{f:α→Option β}{g:α→β}:∀ {l:List α},(∀ y,y ∈ l→f y=some (g y))→l.mapM f=some (l.map g)
 | [],_=>rfl
 | y :: l,h=>by rw[List.mapM_cons,h y (by simp),B1g (fun z hz=>h z (by simp[hz]))]; rfl
theorem J0u(l:List Int)(i:Nat):(rows N3 l)[i]?=(l[i]?).map (Value.int .i64):=by
 unfold rows
 induction l generalizing i with
 | nil=>rfl
 | cons x l ih=>
  cases i with
  | zero=>rfl
  | succ i=>simpa using ih i
theorem B7d(p:Pt)(h:p.ok):A9e p.first p.last (rows N3 p.vals)=some (ptL p):=by
 obtain⟨h1,h2,h3,h4,h5,h6⟩:=h;have hl:0<p.vals.length:=List.length_pos_iff.2 h4;have hlen:(rows N3 p.vals).length=p.vals.length:=by simpa using ζk N0 p.vals
 unfold A9e;rw[if_pos ⟨h1,by omega,by rw[hlen]; omega⟩];refine B1g fun j hj=>?_;have hj:=List.mem_range.1 hj;obtain⟨x,hx⟩:∃ x,p.vals[min j (p.vals.length - 1)]?=some x:=⟨_,List.getElem?_eq_getElem (by omega)⟩
 rw [J0u,hlen,hx];have:p.num (p.first+(j:Nat))=some x:=by
  unfold Pt.num;rw[show (min (p.first+(j:Int) - p.first) ((p.vals.length:Int) - 1)).toNat=min j (p.vals.length - 1) by omega];exact hx
 simp[this]
theorem E50:∀ (ps:List Pt),(∀ p,p ∈ ps→p.ok)→A1d ps.length (rows V6 ps)=some (ps.flatMap ptL)
 | [],_=>rfl
 | p :: ps,h=>by
  have h1:=B7d p (h p (by simp));have h2:=E50 ps fun q hq=>h q (by simp[hq]);have hlen:(rows N3 p.vals).length=p.vals.length:=by simpa using ζk N0 p.vals
  rw[A6l,List.length_cons];show A1d (ps.length+1) (.int .i64 p.first :: .int .i64 p.last :: lv N3 p.vals :: rows V6 ps)=_;unfold lv listV;simp[A1d,h1,h2,hlen]
theorem D00(x:Int × List Pt)(hok:∀ p,p ∈ x.2→p.ok)(hl:x.2.length<2 ^ 31)(n:Nat)(H:A2)(hH:H.get n=some ⟨[W4 x],1,false⟩) :
  itS (.func (.func F.D4e) #[] #[.pointer (some ⟨n,0,none⟩)]) H=some (x.2.flatMap ptL):=by
 have h1:=E50 x.2 hok;unfold itS B6t;unfold W4 boxV lv listV at hH;simp only[hH];simp only[Nat.beq_refl,Bool.and_true,cond_true,Array.size_empty];rw[if_pos (show x.2.length<1152921504606846976 by omega)];exact h1
theorem G72(k:Nat)(x:Int × List Pt)(H:A2):R (T k) F.B31 [W4 x] H=.ok (.func (.func F.D4e) #[] #[.pointer (some ⟨H.n,0,none⟩)]) (H.push ⟨[W4 x],1,false⟩):=by
 rw[G1i];simp[B31]
end Go.Sw
end
section
namespace Go.Sw
open Go.RowKit
abbrev Y1(β:Type):=D0→Env→A2→Gs→Res β
section
variable {β:Type} {c:Cfg} {call:A8} {f:FuncId} {p:List Nat} {e:Env} {H:A2} {gs:Gs}
noncomputable def K0(c:Cfg)(call:A8)(f:FuncId)(p:List Nat)(e:Env)(H:A2)(gs:Gs)(K:Y1 β):Res β :=
 (execM c call (runDraw c call (A0b c.P f)) (A0b c.P f) (c.kp f) (J9 c.P f p) e H gs).bind fun r H'=>K r.1.1 r.1.2 H' r.2
noncomputable def P5(c:Cfg)(call:A8)(f:FuncId)(p:List Nat)(e:Env)(H:A2)(gs:Gs)(K:G0 β):Res β :=
 (execF c call (runDraw c call (A0b c.P f)) (A0b c.P f) (c.kp f) (J9 c.P f p) e H gs).bind fun r H'=>K r.1 r.2 H'
def A4i(F:Env→A2→Gs→Y1 β→Res β)(K:Y1 β):Y1 β:=fun x e H gs=>
 match x with
 | .normal=>F e H gs K
 | x=>K x e H gs
def A2n(F:Env→A2→Gs→G0 β→Res β)(K:G0 β):Y1 β:=fun x e H gs=>
 match x with
 | .normal=>F e H gs K
 | x=>K x e H
theorem B36(h:A6q (J9 c.P f p)=true)(K:Y1 β):K0 c call f p e H gs K=B3 c call f p e H fun x e H=>K x e H gs:=by
 unfold K0 B3;rw[G6v _ h,Y7,Res.bind_assoc];rfl
theorem D6n{a b:List Nat}(h:J9 c.P f p=.seq (J9 c.P f a) (J9 c.P f b))(K:Y1 β):K0 c call f p e H gs K=K0 c call f a e H gs (A4i (K0 c call f b) K):=by
 unfold K0;rw[h];simp only[execM,Res.bind_assoc];congr 1;funext r H';obtain⟨⟨x,e'⟩,gs'⟩:=r;cases x <;> rfl
theorem G67{a:List Nat}{i:Nat}(h:J9 c.P f p=.block i (J9 c.P f a))(K:Y1 β):K0 c call f p e H gs K=K0 c call f a e H gs fun x e H gs=>match x with
  | .exit j=>if j == i then K .normal e H gs else K (.exit j) e H gs
  | x=>K x e H gs:=by
 unfold K0;rw[h];simp only[execM,Res.bind_assoc];congr 1;funext r H';obtain⟨⟨x,e'⟩,gs'⟩:=r;cases x with
 | normal=>rfl
 | ret=>rfl
 | exit j=>
  show (Res.ok (A03 i (.exit j,e'),gs') H').bind _=_;unfold A03;dsimp only;split <;> rfl
theorem B8u{a b:List Nat}(h:J9 c.P f p=.seq (J9 c.P f a) (J9 c.P f b))(hp:G6 (J9 c.P f a)=true)(K:G0 β):P5 c call f p e H gs K=K0 c call f a e H gs (A2n (P5 c call f b) K):=by
 unfold P5 K0;rw[h];simp only[execF,hp,cond_true,Res.bind_assoc];congr 1;funext r H';obtain⟨⟨x,e'⟩,gs'⟩:=r;cases x <;> rfl
theorem G66{a b:List Nat}(h:J9 c.P f p=.seq (J9 c.P f a) (J9 c.P f b))(hp:G6 (J9 c.P f a)=false)(K:G0 β):P5 c call f p e H gs K=P5 c call f a e H gs (E4 (B3 c call f b) K):=by
 unfold P5;rw[h];simp only[execF,hp,cond_false,Res.bind_assoc];congr 1;funext r H';obtain⟨x,e'⟩:=r;cases x with
 | normal=>exact (Y7 _ _ _ _).symm
 | exit i=>rfl
 | ret=>rfl
theorem G65{a:List Nat}{i:Nat}(h:J9 c.P f p=.block i (J9 c.P f a))(K:G0 β):P5 c call f p e H gs K=P5 c call f a e H gs (D7 i K):=by
 unfold P5;rw[h];simp only[execF,Res.bind_assoc];congr 1;funext r H';obtain⟨x,e'⟩:=r;cases x with
 | normal=>rfl
 | ret=>rfl
 | exit j=>
  show (Res.ok (A03 i (.exit j,e')) H').bind _=_;unfold A03 D7;dsimp only;cases j == i <;> rfl
theorem D76{r:Res ((D0 × Env) × Gs)}(h:execM c call (runDraw c call (A0b c.P f)) (A0b c.P f) (c.kp f) (J9 c.P f p) e H gs=r)(K:Y1 β):K0 c call f p e H gs K=r.bind fun r H'=>K r.1.1 r.1.2 H' r.2:=by
 unfold K0;rw[h]
theorem G6u(c:Cfg)(call:A8)(f:FuncId)(p:List Nat)(e:Env)(H:A2)(gs:Gs):execM c call (runDraw c call (A0b c.P f)) (A0b c.P f) (c.kp f) (J9 c.P f p) e H gs=K0 c call f p e H gs fun x e H gs=>.ok ((x,e),gs) H:=by
 unfold K0;cases execM c call (runDraw c call (A0b c.P f)) (A0b c.P f) (c.kp f) (J9 c.P f p) e H gs <;> rfl
theorem G6a{a b:List Nat}{e e':Env}(h:∀ K:Y1 ((D0 × Env) × Gs),K0 c call f a e H gs K=K .normal e' H gs):roundM c call (runDraw c call (A0b c.P f)) (A0b c.P f) (c.kp f) (J9 c.P f a) (J9 c.P f b) e H gs=K0 c call f b e' H gs fun x _ H gs=>.ok (x,gs) H:=by
 unfold roundM;rw[G6u,h];rfl
theorem B65 (c:Cfg) (call:A8) (f:FuncId) (args:List Value) (H:A2) (hl:Nat.ble args.length (A0b c.P f)=true):bodyF c call f args H=P5 c call f [] (Env.of 0 args) H none (G2 c.P (G3 c.P f)):=by
 unfold bodyF P5;have hk:(fun (r:D0 × Env) H'=>G2 c.P (G3 c.P f) r.1 r.2 H')=fun r H'=>A4h c.P (G3 c.P f) r H':=by
  funext r H';exact A80 _ _ _ _ _
 rw[hk];cases hf:c.P.funcs[f]? with
 | none=>
  have:J9 c.P f []=.skip:=by unfold J9; rw[hf]
  rw[this]; rfl
 | some fn=>
  dsimp only;cases hb:fn.body with
  | none=>
   have:J9 c.P f []=.skip:=by unfold J9; rw[hf]; dsimp only; rw[hb]
   rw[this]; rfl
  | some code=>
   have h1:J9 c.P f []=code:=by unfold J9; rw[hf]; dsimp only; rw[hb]; cases code <;> rfl
   have h2:A0b c.P f=fn.ntmps:=by unfold A0b; rw[hf]
   have h3:G3 c.P f=fn.results.toList:=by unfold G3; rw[hf]
   rw[h1,h2,h3];rw[h2] at hl;dsimp only;rw[hl];rfl
end
def B42(H:A2)(gs:Gs):Res (Value × Gs):=match gs with | none=>.ok (.map (some H.n),some (H.n,[])) (A0g H) | some _=>.stuck
def B1f(m n:Value)(H:A2)(gs:Gs):Res (Value × Gs):=match some m,some n,gs with
 | some (.map (some b)),some (.int .i64 n),some (b',ks)=>bif Nat.beq b b' && true then .ok (.tuple #[.agg #[],.bool (decide (n ∈ ks))],some (b',ks)) H else .stuck
 | _,_,_=>.stuck
def B44(m n v:Value)(H:A2)(gs:Gs):Res (Value × Gs):=match some m,some n,some v,gs with
 | some (.map (some b)),some (.int .i64 n),some (.agg xs),some (b',ks)=>bif Nat.beq b b' && true && Nat.beq xs.size 0 && !(decide (n ∈ ks)) then .ok (undef,some (b',n :: ks)) H else .stuck
 | _,_,_,_=>.stuck
def plM(r:Res Value)(gs:Gs):Res (Value × Gs):=r.bind fun v H=>.ok (v,gs) H
def A69(ks:List Nat)(r:Res (Env × Gs)):Res ((D0 × Env) × Gs):=r.bind fun q H'=>.ok ((.normal,Env.keep ks q.1),q.2) H'
theorem B7v(call:A8)(draw:A2h)(a4 a5:Value)(H:A2)(gs:Gs):execM CI call draw (A0b A0 F.ζ1) (kpS F.ζ1) (J9 A0 F.ζ1 [1,1,1,0]) [(4,a4),(5,a5)] H gs =
  A69 [4,5,6] ((B42 H gs).bind fun q h1=>(plM (D1 A0 tyM h1) q.2).bind fun r h2=>(plM (B4 A0 tyM r.1 q.1 h2) r.2).bind fun s h3=>.ok ([(4,a4),(5,a5),(6,r.1),(27,q.1)],s.2) h3):=by kernel_rfl
theorem D0t(call:A8)(draw:A2h)(a4 a5:Value)(H:A2)(gs:Gs):execM CI call draw (A0b A0 F.ζ1) (kpS F.ζ1) (J9 A0 F.ζ1 [1,1,1,0]) [(4,a4),(5,a5)] H gs =
  A69 [4,5,6] ((B42 H gs).bind fun q h1=>(plM (V1 [.map none] h1) q.2).bind fun r h2=>(plM (stR 1 r.1 q.1 h2) r.2).bind fun s h3=>.ok ([(4,a4),(5,a5),(6,r.1),(27,q.1)],s.2) h3):=by
 have h:=B7v call draw a4 a5 H gs;simp only[alM,alU,ldM,stM,stU] at h;exact h
theorem B7w (call:A8) (draw:A2h) (a5 a6 a8:Value) (H:A2) (gs:Gs):execM CI call draw (A0b A0 F.ζ1) (kpS F.ζ1) (J9 A0 F.ζ1 [1,1,1,1,0,1,0,1,0,0,0]) [(5,a5),(6,a6),(8,a8)] H gs =
  A69 [5,6,8,10] ((plM (A3 A0 tyM a6 H) gs).bind fun m h1=>(B1f m.1 a8 h1 m.2).bind fun q h2=>(plM (B5 q.1 0 h2) q.2).bind fun x h3=>(plM (B5 q.1 1 h3) x.2).bind fun y h4=>(plM (D1 A0 tyS h4) y.2).bind fun r h5=>(plM (B4 A0 tyS r.1 x.1 h5) r.2).bind fun s h6=>
   .ok ([(5,a5),(6,a6),(8,a8),(9,r.1),(10,y.1),(35,q.1),(36,m.1),(37,a8),(38,q.1),(39,x.1),(40,y.1)],s.2) h6):=by kernel_rfl
theorem D0u (call:A8) (draw:A2h) (a5 a6 a8:Value) (H:A2) (gs:Gs):execM CI call draw (A0b A0 F.ζ1) (kpS F.ζ1) (J9 A0 F.ζ1 [1,1,1,1,0,1,0,1,0,0,0]) [(5,a5),(6,a6),(8,a8)] H gs =
  A69 [5,6,8,10] ((plM (ld1 a6 H) gs).bind fun m h1=>(B1f m.1 a8 h1 m.2).bind fun q h2=>(plM (B5 q.1 0 h2) q.2).bind fun x h3=>(plM (B5 q.1 1 h3) x.2).bind fun y h4=>(plM (V1 [] h4) y.2).bind fun r h5=>(plM (stR 0 r.1 x.1 h5) r.2).bind fun s h6=>
   .ok ([(5,a5),(6,a6),(8,a8),(9,r.1),(10,y.1),(35,q.1),(36,m.1),(37,a8),(38,q.1),(39,x.1),(40,y.1)],s.2) h6):=by
 have h:=B7w call draw a5 a6 a8 H gs;simp only[alM,alU,ldM,stM,stU] at h;exact h
theorem B7x(call:A8)(draw:A2h)(a5 a6 a8 a41:Value)(H:A2)(gs:Gs):execM CI call draw (A0b A0 F.ζ1) (kpS F.ζ1) (J9 A0 F.ζ1 [1,1,1,1,0,1,0,1,0,1,0]) [(5,a5),(6,a6),(8,a8),(41,a41)] H gs =
  A69 [5,8] ((plM (A3 A0 tyM a6 H) gs).bind fun m h1=>(B44 m.1 a8 (.agg #[]) h1 m.2).bind fun q h2=>.ok ([(5,a5),(6,a6),(8,a8),(41,a41),(42,m.1),(43,a8),(44,.agg #[])],q.2) h2):=by kernel_rfl
theorem D0v(call:A8)(draw:A2h)(a5 a6 a8 a41:Value)(H:A2)(gs:Gs):execM CI call draw (A0b A0 F.ζ1) (kpS F.ζ1) (J9 A0 F.ζ1 [1,1,1,1,0,1,0,1,0,1,0]) [(5,a5),(6,a6),(8,a8),(41,a41)] H gs =
  A69 [5,8] ((plM (ld1 a6 H) gs).bind fun m h1=>(B44 m.1 a8 (.agg #[]) h1 m.2).bind fun q h2=>.ok ([(5,a5),(6,a6),(8,a8),(41,a41),(42,m.1),(43,a8),(44,.agg #[])],q.2) h2):=by
 have h:=B7x call draw a5 a6 a8 a41 H gs;simp only[alM,alU,ldM,stM,stU] at h;exact h
end Go.Sw
end
section
namespace Go.Sw
open Go.RowKit
section
variable {β:Type} {call:A8} {e:Env} {H:A2} {gs:Gs}
theorem J18(call:A8)(a0 a1:Value)(H:A2):bodyF CI call F.ζ1 [a0,a1] H=P5 CI call F.ζ1 [] [(0,a0),(1,a1)] H none (G2 A0 (G3 A0 F.ζ1)):=B65 CI call F.ζ1 [a0,a1] H (by kernel_rfl)
theorem tF0(K:G0 β):P5 CI call F.ζ1 [] e H gs K=K0 CI call F.ζ1 [0] e H gs (A2n (P5 CI call F.ζ1 [1]) K):=B8u (by kernel_rfl) (by kernel_rfl) K
theorem tF1(K:G0 β):P5 CI call F.ζ1 [1] e H gs K=K0 CI call F.ζ1 [1,0] e H gs (A2n (P5 CI call F.ζ1 [1,1]) K):=B8u (by kernel_rfl) (by kernel_rfl) K
theorem tF2(K:G0 β):P5 CI call F.ζ1 [1,1] e H gs K=K0 CI call F.ζ1 [1,1,0] e H gs (A2n (P5 CI call F.ζ1 [1,1,1]) K):=B8u (by kernel_rfl) (by kernel_rfl) K
theorem tF3(K:G0 β):P5 CI call F.ζ1 [1,1,1] e H gs K=K0 CI call F.ζ1 [1,1,1,0] e H gs (A2n (P5 CI call F.ζ1 [1,1,1,1]) K):=B8u (by kernel_rfl) (by kernel_rfl) K
theorem tF4(K:G0 β):P5 CI call F.ζ1 [1,1,1,1] e H gs K=P5 CI call F.ζ1 [1,1,1,1,0] e H gs (E4 (B3 CI call F.ζ1 [1,1,1,1,1]) K):=G66 (by kernel_rfl) (by kernel_rfl) K
theorem tF5(K:G0 β):P5 CI call F.ζ1 [1,1,1,1,0] e H gs K=K0 CI call F.ζ1 [1,1,1,1,0,0] e H gs (A2n (P5 CI call F.ζ1 [1,1,1,1,0,1]) K):=B8u (by kernel_rfl) (by kernel_rfl) K
theorem tF6(K:G0 β):P5 CI call F.ζ1 [1,1,1,1,0,1] e H gs K=P5 CI call F.ζ1 [1,1,1,1,0,1,0] e H gs (D7 0 K):=G65 (by kernel_rfl) K
noncomputable abbrev A0a(call:A8):Env→A2→Gs→Res (D0 × Gs):=roundM CI call (runDraw CI call (A0b A0 F.ζ1)) (A0b A0 F.ζ1) (kpS F.ζ1) (J9 A0 F.ζ1 [1,1,1,1,0,1,0,0]) (J9 A0 F.ζ1 [1,1,1,1,0,1,0,1])
theorem tF7(a4 a5 a6 a32:Value)(K:G0 β):P5 CI call F.ζ1 [1,1,1,1,0,1,0] [(4,a4),(5,a5),(6,a6),(32,a32)] H gs K =
  ((opt (itS a32 H) H).bind fun l H=>rangeM (A0a call) [33,34] [(4,a4),(5,a5),(6,a6)] l H gs).bind fun r H'=>K r.1 r.2 H':=by kernel_rfl
theorem tM0(K:Y1 β):K0 CI call F.ζ1 [0] e H gs K=B3 CI call F.ζ1 [0] e H fun x e H=>K x e H gs:=B36 (by kernel_rfl) K
theorem tM1(K:Y1 β):K0 CI call F.ζ1 [1,0] e H gs K=B3 CI call F.ζ1 [1,0] e H fun x e H=>K x e H gs:=B36 (by kernel_rfl) K
theorem tM2(K:Y1 β):K0 CI call F.ζ1 [1,1,0] e H gs K=B3 CI call F.ζ1 [1,1,0] e H fun x e H=>K x e H gs:=B36 (by kernel_rfl) K
theorem tM4(K:Y1 β):K0 CI call F.ζ1 [1,1,1,1,0,0] e H gs K=B3 CI call F.ζ1 [1,1,1,1,0,0] e H fun x e H=>K x e H gs:=B36 (by kernel_rfl) K
theorem tM5(K:Y1 β):K0 CI call F.ζ1 [1,1,1,1,0,1,0,0] e H gs K=B3 CI call F.ζ1 [1,1,1,1,0,1,0,0] e H fun x e H=>K x e H gs:=B36 (by kernel_rfl) K
theorem tM7(K:Y1 β):K0 CI call F.ζ1 [1,1,1,1,0,1,0,1,0,0,1] e H gs K=B3 CI call F.ζ1 [1,1,1,1,0,1,0,1,0,0,1] e H fun x e H=>K x e H gs:=B36 (by kernel_rfl) K
theorem tM9(K:Y1 β):K0 CI call F.ζ1 [1,1,1,1,0,1,0,1,0,1,1] e H gs K=B3 CI call F.ζ1 [1,1,1,1,0,1,0,1,0,1,1] e H fun x e H=>K x e H gs:=B36 (by kernel_rfl) K
theorem tS0(K:Y1 β):K0 CI call F.ζ1 [1,1,1,1,0,1,0,1] e H gs K=K0 CI call F.ζ1 [1,1,1,1,0,1,0,1,0] e H gs fun x e H gs=>match x with
  | .exit j=>if j == 1 then K .normal e H gs else K (.exit j) e H gs
  | x=>K x e H gs:=G67 (by kernel_rfl) K
theorem tS1(K:Y1 β):K0 CI call F.ζ1 [1,1,1,1,0,1,0,1,0] e H gs K=K0 CI call F.ζ1 [1,1,1,1,0,1,0,1,0,0] e H gs (A4i (K0 CI call F.ζ1 [1,1,1,1,0,1,0,1,0,1]) K):=D6n (by kernel_rfl) K
theorem tS2(K:Y1 β):K0 CI call F.ζ1 [1,1,1,1,0,1,0,1,0,0] e H gs K=K0 CI call F.ζ1 [1,1,1,1,0,1,0,1,0,0,0] e H gs (A4i (K0 CI call F.ζ1 [1,1,1,1,0,1,0,1,0,0,1]) K):=D6n (by kernel_rfl) K
theorem tS3(K:Y1 β):K0 CI call F.ζ1 [1,1,1,1,0,1,0,1,0,1] e H gs K=K0 CI call F.ζ1 [1,1,1,1,0,1,0,1,0,1,0] e H gs (A4i (K0 CI call F.ζ1 [1,1,1,1,0,1,0,1,0,1,1]) K):=D6n (by kernel_rfl) K
theorem pM3(a4 a5:Value)(K:Y1 β):K0 CI call F.ζ1 [1,1,1,0] [(4,a4),(5,a5)] H gs K=(A69 [4,5,6] ((B42 H gs).bind fun q h1=>(plM (V1 [.map none] h1) q.2).bind fun r h2=>(plM (stR 1 r.1 q.1 h2) r.2).bind fun s h3=>.ok ([(4,a4),(5,a5),(6,r.1),(27,q.1)],s.2) h3)).bind fun r H'=>K r.1.1 r.1.2 H' r.2 :=
 D76 (D0t call _ a4 a5 H gs) K
theorem pM6 (a5 a6 a8:Value) (K:Y1 β):K0 CI call F.ζ1 [1,1,1,1,0,1,0,1,0,0,0] [(5,a5),(6,a6),(8,a8)] H gs K=(A69 [5,6,8,10] ((plM (ld1 a6 H) gs).bind fun m h1=>(B1f m.1 a8 h1 m.2).bind fun q h2=>(plM (B5 q.1 0 h2) q.2).bind fun x h3=>(plM (B5 q.1 1 h3) x.2).bind fun y h4=>(plM (V1 [] h4) y.2).bind fun r h5=>(plM (stR 0 r.1 x.1 h5) r.2).bind fun s h6=>
   .ok ([(5,a5),(6,a6),(8,a8),(9,r.1),(10,y.1),(35,q.1),(36,m.1),(37,a8),(38,q.1),(39,x.1),(40,y.1)],s.2) h6)).bind fun r H'=>K r.1.1 r.1.2 H' r.2 :=
 D76 (D0u call _ a5 a6 a8 H gs) K
theorem pM8(a5 a6 a8 a41:Value)(K:Y1 β):K0 CI call F.ζ1 [1,1,1,1,0,1,0,1,0,1,0] [(5,a5),(6,a6),(8,a8),(41,a41)] H gs K=(A69 [5,8] ((plM (ld1 a6 H) gs).bind fun m h1=>(B44 m.1 a8 (.agg #[]) h1 m.2).bind fun q h2=>.ok ([(5,a5),(6,a6),(8,a8),(41,a41),(42,m.1),(43,a8),(44,.agg #[])],q.2) h2)).bind fun r H'=>K r.1.1 r.1.2 H' r.2 :=
 D76 (D0v call _ a5 a6 a8 a41 H gs) K
end
theorem E5g(k:Nat)(call:A8)(a4 a5 a6 id at_:Value)(H:A2)(gs:Gs):A0a call [(4,a4),(5,a5),(6,a6),(33,id),(34,at_)] H gs =
  K0 CI call F.ζ1 [1,1,1,1,0,1,0,1] [(5,a5),(6,a6),(8,at_)] H gs fun x _ H gs=>.ok (x,gs) H :=
 G6a fun K=>by rw[tM5,G52 k]
theorem J0t(k:Nat)(a4 a5 id:Value)(pM G:Nat)(n:Int)(ks:List Int)(hn:n ∈ ks)(H:A2)(hM:H.get pM=some ⟨[.map (some G)],1,false⟩) :
  A0a (R (T k)) [(4,a4),(5,a5),(6,B6 pM),(33,id),(34,.int .i64 n)] H (some (G,ks))=.ok (.normal,some (G,ks)) (H.push ⟨[],1,false⟩):=by
 rw[E5g k,tS0,tS1,tS2,pM6];have hl:ld1 (B6 pM) H=.ok (.map (some G)) H:=by simp[hM]
 simp only[hl,plM,Res.bind_ok,B1f,Nat.beq_refl,Bool.and_true,cond_true,decide_eq_true hn];have e0:∀ h:A2,B5 (.tuple #[.agg #[],.bool true]) 0 h=.ok (.agg #[]) h:=fun _=>rfl;have e1:∀ h:A2,B5 (.tuple #[.agg #[],.bool true]) 1 h=.ok (.bool true) h:=fun _=>rfl;have e2:V1 [] H=.ok (B6 H.n) (H.push ⟨[],1,false⟩):=rfl;have e3:stR 0 (B6 H.n) (.agg #[]) (H.push ⟨[],1,false⟩)=.ok undef (H.push ⟨[],1,false⟩):=by simp
 simp only[e0,e1,e2,e3,Res.bind_ok,A69];show (A4i _ _) .normal [(5,a5),(6,B6 pM),(8,.int .i64 n),(10,.bool true)] _ _=_;unfold A4i;dsimp only;rw[tM7,E36 k,E37 k];unfold E4;dsimp only;rw[E38 k,G53 k];rfl
theorem J0s (k:Nat) (a4 id:Value) (pM pT pB G:Nat) (n:Int) (hn0:0≤n∧n<4294967296) (ks:List Int) (hn:n ∉ ks) (tab:Int × List Pt) (d:List Int) (hd:Byt d) (hl:d.length<2 ^ 31) (H:A2) (hM:H.get pM=some ⟨[.map (some G)],1,false⟩) (hT:H.get pT=some ⟨[B6 pB],1,false⟩) (hB:H.get pB=some ⟨[W4 tab,lv B7 d],1,false⟩) :
  A0a (R (T k)) [(4,a4),(5,B6 pT),(6,B6 pM),(33,id),(34,.int .i64 n)] H (some (G,ks))=match (uS d n 4).bind fun m=>S1 d (n+4) m 4 with
   | some _=>.ok (.normal,some (G,n :: ks)) (H.push ⟨[],1,false⟩)
   | none=>.panic K7 (H.push ⟨[],1,false⟩):=by
 rw[E5g k,tS0,tS1,tS2,pM6];have hl1:ld1 (B6 pM) H=.ok (.map (some G)) H:=by simp[hM]
 have hM':(H.push ⟨[],1,false⟩).get pM=some ⟨[.map (some G)],1,false⟩:=((Ext.refl H).push _).get hM;have hT':(H.push ⟨[],1,false⟩).get pT=some ⟨[B6 pB],1,false⟩:=((Ext.refl H).push _).get hT;have hB':(H.push ⟨[],1,false⟩).get pB=some ⟨[W4 tab,lv B7 d],1,false⟩:=((Ext.refl H).push _).get hB;have hl2:ld1 (B6 pM) (H.push ⟨[],1,false⟩)=.ok (.map (some G)) (H.push ⟨[],1,false⟩):=by simp[hM']
 simp only[hl1,plM,Res.bind_ok,B1f,Nat.beq_refl,Bool.and_true,cond_true,decide_eq_false hn];have e0:∀ h:A2,B5 (.tuple #[.agg #[],.bool false]) 0 h=.ok (.agg #[]) h:=fun _=>rfl;have e1:∀ h:A2,B5 (.tuple #[.agg #[],.bool false]) 1 h=.ok (.bool false) h:=fun _=>rfl;have e2:V1 [] H=.ok (B6 H.n) (H.push ⟨[],1,false⟩):=rfl;have e3:stR 0 (B6 H.n) (.agg #[]) (H.push ⟨[],1,false⟩)=.ok undef (H.push ⟨[],1,false⟩):=by simp
 simp only[e0,e1,e2,e3,Res.bind_ok,A69];show (A4i _ _) .normal [(5,B6 pT),(6,B6 pM),(8,.int .i64 n),(10,.bool false)] _ _=_;unfold A4i;dsimp only;rw[tM7,E36 k,E37 k];unfold E4;dsimp only;rw[E38 k,G54 k];have cf:∀ x y:Res (D0 × Gs),condV (some (.bool false)) x y=y:=fun _ _=>rfl;rw[cf];dsimp only;rw[tS3,pM8];simp only[hl2,plM,Res.bind_ok,B44,Nat.beq_refl,Bool.and_true,cond_true,decide_eq_false hn,Bool.not_false,A69,Array.size_empty];show (A4i _ _) .normal [(5,B6 pT),(8,.int .i64 n)] _ _=_;unfold A4i;dsimp only;rw[tM9,G55 k];have hU:=fun H'=>A0z k (Sl.lv H' 1 d) hd n (by omega);have hR:=fun m H'=>B9g k d (n+4) m 4 (by omega) H';have w1:IntKind.i64.wrap (n+4)=n+4:=wrap_i64 (by omega) (by omega);have vb:veq (vwB d) (vwB d)=true:=U7 (l:=[lv B7 d]) fun u hu=>by simp at hu; subst hu; exact A5z d
 cases h:uS d n 4 with
 | none=>
  rw[h] at hU;simp -implicitDefEqProofs(disch:=omega) [hT',hB',w1,hU,orF]
 | some m=>
  rw[h] at hU;have hR:=hR m;cases h2:S1 d (n+4) m 4 with
  | none=>
   rw[h2] at hR;simp -implicitDefEqProofs(disch:=omega) [hT',hB',w1,hU,hR,orF,vb,h2]
  | some r=>
   rw[h2] at hR;simp -implicitDefEqProofs(disch:=omega) [hT',hB',w1,hU,hR,orF,vb,h2]
def A6t(d:List Int)(n:Int):Bool:=((uS d n 4).bind fun m=>S1 d (n+4) m 4).isSome
def A4q(b:List Int)(g:Int):Option A1o:=(uS b 0 2).bind fun z=>if z=0 then (uS b 4 4).bind fun w=>(L5 b w).bind fun of=>(A17 of g 2).bind fun tab=>(uS b 8 4).bind fun w2=>(L5 b w2).bind fun d=>
 if (tab.2.flatMap ptL).all (fun x=>A6t d (x.getD 1 0)) then some ⟨tab,d⟩ else none else none
theorem D3.ank(t:A1o):D3 (A7k t):=.boxV (.cons (D3.tab t.of) (.cons (D3.B _) .nil))
theorem B4a{ps:List Pt}(hok:∀ p,p ∈ ps→p.ok){x:List Int}(h:x ∈ ps.flatMap ptL):∃ id n,x=[id,n]∧0≤n∧n<4294967296:=by
 obtain⟨p,hp,hx⟩:=List.mem_flatMap.1 h;unfold ptL at hx;obtain⟨j,hj,rfl⟩:=List.mem_map.1 hx;obtain⟨x,hx,h0,h1⟩:=Pt.num_some (hok p hp) (id:=p.first+(j:Nat)) (by omega);exact⟨_,_,rfl,by rw[hx]; exact⟨h0,h1⟩⟩
theorem D0l{ps:List Pt}{id n:Int}(h:A28 ps id=some n):[id,n] ∈ ps.flatMap ptL:=by
 unfold A28 at h;obtain⟨p,hp,h⟩:=Option.bind_eq_some_iff.1 h;split at h
 ·rename_i hf;have hm:=List.mem_of_find?_eq_some hp;have hl:=List.find?_some hp;simp at hl;refine List.mem_flatMap.2 ⟨p,hm,List.mem_map.2 ⟨(id - p.first).toNat,List.mem_range.2 (by omega),?_⟩⟩;rw[show p.first+(((id - p.first).toNat:Nat):Int)=id by omega,h];rfl
 ·cases h
theorem E4i (k:Nat) (a4:Value) (pM pT pB G:Nat) (tab:Int × List Pt) (d:List Int) (hd:Byt d) (hl:d.length<2 ^ 31):∀ (l:List (List Int)),(∀ x,x ∈ l→∃ id n,x=[id,n]∧0≤n∧n<4294967296)→∀ (ks:List Int),(∀ n,n ∈ ks→A6t d n=true)→∀ (H:A2),
  H.get pM=some ⟨[.map (some G)],1,false⟩→H.get pT=some ⟨[B6 pB],1,false⟩→H.get pB=some ⟨[W4 tab,lv B7 d],1,false⟩ →
  (l.all (fun x=>A6t d (x.getD 1 0))=true∧∃ H',rangeM (A0a (R (T k))) [33,34] [(4,a4),(5,B6 pT),(6,B6 pM)] l H (some (G,ks))=.ok (.normal,[(4,a4),(5,B6 pT),(6,B6 pM)]) H'∧Ext H H') ∨
  (l.all (fun x=>A6t d (x.getD 1 0))=false∧∃ H',rangeM (A0a (R (T k))) [33,34] [(4,a4),(5,B6 pT),(6,B6 pM)] l H (some (G,ks))=.panic K7 H'∧Ext H H')
 | [],_,ks,_,H,_,_,_=>.inl ⟨rfl,H,rfl,Ext.refl H⟩
 | x :: l,hx,ks,hks,H,hM,hT,hB=>by
  obtain⟨id,n,rfl,h0,h1⟩:=hx x (by simp);have hx1:Ext H (H.push ⟨[],1,false⟩):=(Ext.refl H).push _;have ih:=fun ks hks=>E4i k a4 pM pT pB G tab d hd hl l (fun y hy=>hx y (by simp[hy])) ks hks (H.push ⟨[],1,false⟩) (hx1.get hM) (hx1.get hT) (hx1.get hB);have hput:A36 [(4,a4),(5,B6 pT),(6,B6 pM)] [33,34] [id,n]=[(4,a4),(5,B6 pT),(6,B6 pM),(33,.int .i64 id),(34,.int .i64 n)]:=rfl;have hlen:Nat.beq [id,n].length [33,34].length=true:=rfl;unfold rangeM;rw[hlen,cond_true,hput];by_cases hn:n ∈ ks
  ·rw[J0t k a4 (B6 pT) (.int .i64 id) pM G n ks hn H hM];have hp:=hks n hn;rw[Res.bind_ok];rcases ih ks hks with⟨i1,H',i2,i3⟩ | ⟨i1,H',i2,i3⟩
   ·exact .inl ⟨by simp only[List.all_cons,i1]; simpa using hp,H',i2,hx1.trans i3⟩
   ·exact .inr ⟨by simp only[List.all_cons,i1,Bool.and_false],H',i2,hx1.trans i3⟩
  ·rw [J0s k a4 (.int .i64 id) pM pT pB G n ⟨h0,h1⟩ ks hn tab d hd hl H hM hT hB];cases hp:(uS d n 4).bind fun m=>S1 d (n+4) m 4 with
   | none=>exact .inr ⟨by simp[A6t,hp],_,rfl,hx1⟩
   | some r=>
    have hpn:A6t d n=true:=by unfold A6t; rw[hp]; rfl
    rw[Res.bind_ok];rcases ih (n :: ks) (fun m hm=>by rcases List.mem_cons.1 hm with rfl | hm; exact hpn; exact hks m hm) with⟨i1,H',i2,i3⟩ | ⟨i1,H',i2,i3⟩
    ·exact .inl ⟨by simp only[List.all_cons,i1]; simpa using hpn,H',i2,hx1.trans i3⟩
    ·exact .inr ⟨by simp only[List.all_cons,i1,Bool.and_false],H',i2,hx1.trans i3⟩
theorem Ext.dead{H0 H:A2}(h:Ext H0 H):Ext H0 (A0g H):=⟨Nat.le_succ_of_le h.1,fun c hc hs=>(B95 H c).trans (h.2 c hc hs)⟩
theorem G7s(k:Nat)(a0 a1:Value)(h:A2):R (T k) F.ζ1 [a0,a1] h=nrm .fz h (bodyF CI (R (T k)) F.ζ1 [a0,a1] h) :=
 (B5t (t:=T k) (A1g k) (s:=fun call args H=>bodyF CI call F.ζ1 args H) (by kernel_rfl) [a0,a1] h).trans (by
  show nrm ((T k).md F.ζ1 h.n) h _=_;rfl)
theorem G5s(k:Nat)(b:List Int)(hb:Byt b)(g:Int)(hg:1≤g∧g≤65535)(hl:b.length<2 ^ 31)(H:A2):R (T k) F.ζ1 [vwB b,.int .i64 g] H=orF (A4q b g) A7k H:=by
 rw[G7s];refine A3p ?_ fun _ _=>(D3.ank _).alive;have hx:Ext H (H.push ⟨[lv B7 b],1,false⟩):=(Ext.refl H).push _;have hvb:veq (vwB b) (vwB b)=true:=U7 (l:=[lv B7 b]) fun u hu=>by simp at hu; subst hu; exact A5z b
 have gH:(H.push ⟨[lv B7 b],1,false⟩).get H.n=some ⟨[lv B7 b],1,false⟩:=ζd _ _ _ rfl;rw[J18,tF0,tM0,G5u k];simp -implicitDefEqProofs(disch:=omega) only[B3q,V1,Res.bind_ok,A2n];rw[tF1,tM1,G5v k];unfold A4q;simp -implicitDefEqProofs(disch:=omega) [A2n];refine Cp.call (S5 k (Sl.lv _ 1 b) hb 0 (by omega)) hx fun z hz=>?_;have hzb:=K8 hb hz;rw[B9m,Res.bind_ok,show (z == 0)=decide (z=0) from rfl];refine Cp.need hx fun h0=>?_;simp -implicitDefEqProofs(disch:=omega) only[A2n];rw[tF2,tM2,G5w k];simp -implicitDefEqProofs(disch:=omega) [gH,hvb];refine Cp.callT (A0z k (Sl.lv _ 1 b) hb 4 (by omega)) (fun _=>⟨_,by simp -implicitDefEqProofs(disch:=omega) [gH,hvb],hx⟩) fun w hw=>?_;have hwb:=W5 hb hw;simp -implicitDefEqProofs(disch:=omega) [gH,hvb];refine Cp.callT (A9i k b w (by omega) (by omega) _) (fun _=>⟨_,by simp -implicitDefEqProofs(disch:=omega) [gH,hvb],hx⟩) fun of hof=>?_;have lof:=A73 hof;simp -implicitDefEqProofs(disch:=omega) [gH,hvb];refine Cp.callT (E3m k (Sl.lv _ 1 of) (hb.rest hof) g 2 hg.1 hg.2 (.inl rfl) (by omega)) (fun _=>⟨_,by simp -implicitDefEqProofs(disch:=omega) [gH,hvb],hx⟩) fun tab htab=>?_;have hok:=A83 (hb.rest hof) hg.1 hg.2 (.inl rfl) htab;have hpl:=D2b (hb.rest hof) htab;simp -implicitDefEqProofs(disch:=omega) [gH,hvb];refine Cp.callT (A0z k (Sl.lv _ 1 b) hb 8 (by omega)) (fun _=>⟨_,by simp -implicitDefEqProofs(disch:=omega) [gH,hvb],hx⟩) fun w2 hw2=>?_;have hwb2:=W5 hb hw2;simp -implicitDefEqProofs(disch:=omega) [gH,hvb];refine Cp.callT (A9i k b w2 (by omega) (by omega) _) (fun _=>⟨_,by simp -implicitDefEqProofs(disch:=omega) [gH,hvb],hx⟩) fun d hd=>?_;have ld:=A73 hd;simp -implicitDefEqProofs(disch:=omega) [gH,hvb];have hx3:Ext H (((H.push ⟨[lv B7 b],1,false⟩).push ⟨[W4 tab,lv B7 d],1,false⟩).push ⟨[B6 (H.n+1)],1,false⟩):=(hx.push _).push _;have hB:(((H.push ⟨[lv B7 b],1,false⟩).push ⟨[W4 tab,lv B7 d],1,false⟩).push ⟨[B6 (H.n+1)],1,false⟩).get (H.n+1)=some ⟨[W4 tab,lv B7 d],1,false⟩:=by simp
 have hT:(((H.push ⟨[lv B7 b],1,false⟩).push ⟨[W4 tab,lv B7 d],1,false⟩).push ⟨[B6 (H.n+1)],1,false⟩).get (H.n+2)=some ⟨[B6 (H.n+1)],1,false⟩:=by simp
 generalize hH3:((H.push ⟨[lv B7 b],1,false⟩).push ⟨[W4 tab,lv B7 d],1,false⟩).push ⟨[B6 (H.n+1)],1,false⟩=H3 at hx3 hB hT ⊢;simp -implicitDefEqProofs only[A2n];rw[tF3,pM3];have e1:∀ h:A2,V1 [.map none] h=.ok (B6 h.n) (h.push ⟨[.map none],1,false⟩):=fun _=>rfl;have e2:stR 1 (B6 (A0g H3).n) (.map (some H3.n)) ((A0g H3).push ⟨[.map none],1,false⟩)=.ok undef ((A0g H3).push ⟨[.map (some H3.n)],1,false⟩):=by
  have c1:(Value.map (some H3.n)).cells=#[.map (some H3.n)]:=rfl;have c2:storable (.map (some H3.n))=true:=rfl;simp[c1,c2]
 simp only[B42,plM,Res.bind_ok,e1,e2,A69];show Cp K7 (Ext H) ((A2n _ _) .normal [(4,.pointer none),(5,B6 (H.n+2)),(6,B6 (A0g H3).n)] _ _) _ _;have hx4:Ext H3 ((A0g H3).push ⟨[.map (some H3.n)],1,false⟩):=(Ext.refl H3).dead.push _;have hM:((A0g H3).push ⟨[.map (some H3.n)],1,false⟩).get (A0g H3).n=some ⟨[.map (some H3.n)],1,false⟩:=ζd _ _ _ rfl;have hB:=hx4.get hB;have hT:=hx4.get hT;have hx4:=hx3.trans hx4;generalize ((A0g H3).push ⟨[.map (some H3.n)],1,false⟩)=H4 at hx4 hM hB hT ⊢;simp -implicitDefEqProofs only[A2n];rw[tF4,tF5,tM4,G51 k];have hall:=fun H'=>G72 k tab H';simp -implicitDefEqProofs(disch:=omega) [hT,hB,hall];have hx5:Ext H4 (H4.push ⟨[W4 tab],1,false⟩):=(Ext.refl H4).push _;have hit:=D00 tab hok.2.1 hpl H4.n (H4.push ⟨[W4 tab],1,false⟩) (ζd _ _ _ rfl);simp -implicitDefEqProofs only[A2n];rw[tF6,tF7,hit];simp only[opt,Res.bind_ok];have hrd:=E4i k (.pointer none) (A0g H3).n (H.n+2) (H.n+1) H3.n tab d (hb.rest hd) (by omega) (tab.2.flatMap ptL) (fun x hx=>B4a hok.2.1 hx) [] (fun n hn=>by cases hn) (H4.push ⟨[W4 tab],1,false⟩) (hx5.get hM) (hx5.get hT) (hx5.get hB);have hiff:((tab.2.flatMap ptL).all (fun x=>A6t d (x.getD 1 0))=true)↔(∀ (x:Pt),x ∈ tab.snd→∀ (x_1:List Int),x_1 ∈ ptL x→A6t d (x_1[1]?.getD 0)=true):=by simp
 rcases hrd with⟨h1,H',h2,h3⟩ | ⟨h1,H',h2,h3⟩
 ·rw[if_pos (hiff.1 h1)];show Cp K7 (Ext H) ((rangeM (A0a (R (T k))) [33,34] [(4,.pointer none),(5,B6 (H.n+2)),(6,B6 (A0g H3).n)] _ _ _).bind _) _ _;rw[h2,Res.bind_ok];have hT':=h3.get (hx5.get hT);have hB':=h3.get (hx5.get hB);have hx6:=(hx4.trans hx5).trans h3;unfold D7 E4;dsimp only;rw[G56 k,G57 k];simp -implicitDefEqProofs(disch:=omega) [hT'];unfold E4;dsimp only;rw[G58 k,G59];refine .ok hx6 ?_;exact⟨_,A9p (by omega) hB' (A1k (v:=W4 tab) (u:=W4 tab) (L1:=[]) rfl (X1 (v:=lv B7 d) (u:=lv B7 d) (L:=[]) rfl))⟩
 ·rw[if_neg (fun hc=>by rw[hiff.2 hc] at h1; cases h1)];show Cp K7 (Ext H) ((rangeM (A0a (R (T k))) [33,34] [(4,.pointer none),(5,B6 (H.n+2)),(6,B6 (A0g H3).n)] _ _ _).bind _) _ _;rw[h2];exact⟨H',rfl,(hx4.trans hx5).trans h3⟩
theorem B3n{b:List Int}(hb:Byt b){g:Int}(h1:1≤g)(h2:g≤65535)(hl:b.length<2 ^ 31){t:A1o}(h:A4q b g=some t):t.ok:=by
 unfold A4q at h;obtain⟨z,hz,h⟩:=Option.bind_eq_some_iff.1 h;split at h
 ·obtain⟨w,hw,h⟩:=Option.bind_eq_some_iff.1 h;obtain⟨of,hof,h⟩:=Option.bind_eq_some_iff.1 h;obtain⟨tab,htab,h⟩:=Option.bind_eq_some_iff.1 h;obtain⟨w2,hw2,h⟩:=Option.bind_eq_some_iff.1 h;obtain⟨d,hd,h⟩:=Option.bind_eq_some_iff.1 h;split at h
  ·rename_i hall;injection h with h;subst h;have hok:=A83 (hb.rest hof) h1 h2 (.inl rfl) htab;have:=A73 hof;have ld:=A73 hd;refine⟨hok.2.1,hok.2.2,D2b (hb.rest hof) htab,hb.rest hd,by dsimp only; omega,fun id at_ hg=>?_⟩;dsimp only at hg ⊢;have hm:=D0l hg;obtain⟨id',n,e,b0,b1⟩:=B4a hok.2.1 hm;injection e with e1 e2;injection e2 with e2 _;subst e1 e2;have hp:=List.all_eq_true.1 hall _ hm;unfold A6t at hp;obtain⟨r,hr⟩:=Option.isSome_iff_exists.1 hp;obtain⟨m,hm,hr⟩:=Option.bind_eq_some_iff.1 hr;have hr:S1 d (at_+4) m 4=some r:=hr;have hr:=(B3g (by decide)).1 hr;have hm':uS d at_ 4=some m:=hm;exact⟨b0,m,hm',by omega⟩
  ·cases h
 ·cases h
end Go.Sw
end
section
set_option maxRecDepth 100000
namespace Go.Sw
noncomputable section
variable (k:Nat) (call:A8)
def D4w:Env→A2→Res (D0 × Env):=M4 (C k) call F.ζ7 [1,1,1,1,0,1,0,0]
def E1x:G0 Value:=D7 0 (E4 (B3 (C k) call F.ζ7 [1,1,1,1,1]) (G2 A0 (G3 A0 F.ζ7)))
def E29(a0 a3 a11 a12 a13 a60:Value)(h:A2):Res Value :=
 E4 (B3 (C k) call F.ζ7 [1,1,1,1,1,1]) (G2 A0 (G3 A0 F.ζ7)) .normal [(0,a0),(3,a3),(11,a11),(12,a12),(13,a13),(60,a60)] h
def D4x:Env→A2→Res (D0 × Env):=M4 (C k) call F.ζ7 [1,1,1,1,1,0,1,0,1,0,1,0,0]
def E1y:G0 Value:=D7 2 (E4 (B3 (C k) call F.ζ7 [1,1,1,1,1,0,1,0,1,1]) (E4 (B3 (C k) call F.ζ7 [1,1,1,1,1,1]) (G2 A0 (G3 A0 F.ζ7))))
def E2a(a11 a13:Value)(h:A2):Res Value :=
 E4 (B3 (C k) call F.ζ7 [1,1,1,1,1,1]) (G2 A0 (G3 A0 F.ζ7)) .normal [(11,a11),(13,a13)] h
def E2b(a11 a12 a13 a80:Value)(h:A2):Res Value :=
 E4 (B3 (C k) call F.ζ7 [1,1,1,1,1,1]) (G2 A0 (G3 A0 F.ζ7)) .normal [(11,a11),(12,a12),(13,a13),(80,a80)] h
def ζ7(a0 a1 a2 a3:Value)(h:A2):Res Value :=
 (call F.ζ2 [a0,a1,(.int .i64 2)] h).bind fun v0 h0=>(A5 A0 .add 3 a1 (.int .i64 2) h0).bind fun v1 h1=>(call F.ζ2 [a0,v1,(.int .i64 2)] h1).bind fun v2 h2=>(A6 A0 .len [22] [a0] h2).bind fun v3 h3=>(call F.A8r [v3,a1,(.int .i64 10)] h3).bind fun v4 h4=>(unR .not v4 h4).bind fun v5 h5=>(wV v5 false (Res.ok v0 h5) h5).bind fun v6 h6=>(wV v5 false (Res.ok a2 h6) h6).bind fun v7 h7=>(wV v5 false (A5 A0 .lss 3 v6 v7 h7) h7).bind fun v8 h8=>(condV (some v5) (Res.ok (.bool true) h8) (Res.ok v8 h8)).bind fun v9 h9=>(wV v9 false (Res.ok a0 h9) h9).bind fun va ha=>(wV v9 false (A6 A0 .len [22] [va] ha) ha).bind fun vb hb=>(wV v9 false (Res.ok a1 hb) hb).bind fun vc hc=>(wV v9 false (A5 A0 .add 3 vc (.int .i64 10) hc) hc).bind fun vd hd=>(wV v9 false (Res.ok v2 hd) hd).bind fun ve he=>(wV v9 false (Res.ok v0 he) he).bind fun vf hf=>(wV v9 false (call F.ζn [vb,vd,ve,vf] hf) hf).bind fun vg hg=>(wV v9 false (unR .not vg hg) hg).bind fun vh hh=>(condV (some v9) (Res.ok (.bool true) hh) (Res.ok vh hh)).bind fun vi hi=>
 condV (some vi) (
 .ok (.tuple #[(.slice none 0 0),(.int .i64 0),(.bool false)]) hi)
 (
 (B9 A0 30 0 [] hi).bind fun vj hj=>(loopN (D4w k call) B8 [(0,a0),(1,a1),(3,a3),(11,v0),(12,v2),(13,vj),(14,(.int .i64 0))] hj).bind fun r41 hk=>
 E1x k call r41.1 r41.2 hk)
theorem G35(k:Nat)(a0 a1 a2 a3:Value)(h:A2):R (T k) F.ζ7 [a0,a1,a2,a3] h=nrm .fz h (ζ7 k (R (T k)) a0 a1 a2 a3 h) :=G9
theorem E11(a0 a1 a3 a11 a12 a13 a14:Value)(h:A2):D4w k call [(0,a0),(1,a1),(3,a3),(11,a11),(12,a12),(13,a13),(14,a14)] h =
 (A5 A0 .lss 3 a14 a12 h).bind fun v0 h0=>
 condV (some v0) (
 (A5 A0 .add 3 a1 (.int .i64 10) h0).bind fun v1 h1=>(A5 A0 .mul 3 a14 a11 h1).bind fun v2 h2=>(A5 A0 .add 3 v1 v2 h2).bind fun v3 h3=>(B9 A0 30 1 [(0,v3)] h3).bind fun v4 h4=>(A6 A0 .append [30,30] [a13,v4] h4).bind fun v5 h5=>(A5 A0 .add 3 a14 (.int .i64 1) h5).bind fun v6 h6=>
 .ok (.normal,[(0,a0),(1,a1),(3,a3),(11,a11),(12,a12),(13,v5),(14,v6)]) h6)
 (
 .ok ((.exit 0),[(0,a0),(1,a1),(3,a3),(11,a11),(12,a12),(13,a13),(14,a14),(47,v0)]) h0) :=
 (E2 _ _).trans (by kernel_rfl)
theorem D47(a0 a1 a3 a11 a12 a13 a14 a47:Value)(h:A2):E1x k call (.exit 0) [(0,a0),(1,a1),(3,a3),(11,a11),(12,a12),(13,a13),(14,a14),(47,a47)] h =
 (A5 A0 .gtr 3 a12 (.int .i64 0) h).bind fun v0 h0=>
 condV (some v0) (
 (loopN (D4x k call) B8 [(0,a0),(3,a3),(11,a11),(12,a12),(13,a13),(15,(.bool true)),(16,(.int .i64 0))] h0).bind fun r59 h1=>
 E1y k call r59.1 r59.2 h1)
 (
 E29 k call a0 a3 a11 a12 a13 v0 h0):=by kernel_rfl
theorem G0n(a0 a3 a11 a12 a13 a60:Value)(h:A2):E29 k call a0 a3 a11 a12 a13 a60 h =
 .ok (.tuple #[a13,a11,(.bool true)]) h:=by kernel_rfl
theorem E12(a0 a3 a11 a12 a13 a15 a16:Value)(h:A2):D4x k call [(0,a0),(3,a3),(11,a11),(12,a12),(13,a13),(15,a15),(16,a16)] h =
 (A5 A0 .lss 3 a16 a3 h).bind fun v0 h0=>
 condV (some v0) (
 (wV a15 true (Res.ok a0 h0) h0).bind fun v1 h1=>(wV a15 true (Res.ok a13 h1) h1).bind fun v2 h2=>(wV a15 true (Res.ok a12 h2) h2).bind fun v3 h3=>(wV a15 true (A5 A0 .sub 3 v3 (.int .i64 1) h3) h3).bind fun v4 h4=>(wV a15 true (A9 A0 30 v2 v4 h4) h4).bind fun v5 h5=>(wV a15 true (A3 A0 3 v5 h5) h5).bind fun v6 h6=>(wV a15 true (Res.ok a16 h6) h6).bind fun v7 h7=>(wV a15 true (A5 A0 .mul 3 (.int .i64 2) v7 h7) h7).bind fun v8 h8=>(wV a15 true (A5 A0 .add 3 v6 v8 h8) h8).bind fun v9 h9=>(wV a15 true (call F.ζ2 [v1,v9,(.int .i64 2)] h9) h9).bind fun va ha=>(wV a15 true (A5 A0 .eql 3 va (.int .i64 65535) ha) ha).bind fun vb hb=>(condV (some a15) (Res.ok vb hb) (Res.ok (.bool false) hb)).bind fun vc hc=>(A5 A0 .add 3 a16 (.int .i64 1) hc).bind fun vd hd=>
 .ok (.normal,[(0,a0),(3,a3),(11,a11),(12,a12),(13,a13),(15,vc),(16,vd)]) hd)
 (
 .ok ((.exit 2),[(0,a0),(3,a3),(11,a11),(12,a12),(13,a13),(15,a15),(16,a16),(63,v0)]) h0) :=
 (E2 _ _).trans (by kernel_rfl)
theorem E0n(a0 a3 a11 a12 a13 a15 a16 a63:Value)(h:A2):E1y k call (.exit 2) [(0,a0),(3,a3),(11,a11),(12,a12),(13,a13),(15,a15),(16,a16),(63,a63)] h =
 condV (some a15) (
 (A5 A0 .sub 3 a12 (.int .i64 1) h).bind fun v0 h0=>(A06 A0 30 a13 none (some v0) none h0).bind fun v1 h1=>
 E2a k call a11 v1 h1)
 (
 E2b k call a11 a12 a13 a15 h):=by kernel_rfl
theorem G0o(a11 a13:Value)(h:A2):E2a k call a11 a13 h =
 .ok (.tuple #[a13,a11,(.bool true)]) h:=by kernel_rfl
theorem G0p(a11 a12 a13 a80:Value)(h:A2):E2b k call a11 a12 a13 a80 h =
 .ok (.tuple #[a13,a11,(.bool true)]) h:=by kernel_rfl
end
end Go.Sw
end
section
namespace Go.Sw
open Go.RowKit
def A3z(b:List Int)(i need:Int)(keys:Nat):Value:=match P7 b i need keys with
 | some rows=>.tuple #[lv N3 (A3f i (gU b i 2) rows.length),.int .i64 (gU b i 2),.bool true]
 | none=>.tuple #[lv N3 [],.int .i64 0,.bool false]
theorem E59(b:List Int)(i need:Int)(keys:Nat):D3 (A3z b i need keys):=by
 unfold A3z;split
 ·exact .tupleL (.cons (D3.I _) (.cons (.int _ _) (.cons (.bool _) .nil)))
 ·exact .tupleL (.cons (D3.I _) (.cons (.int _ _) (.cons (.bool _) .nil)))
theorem B98{b:List Int}{i n:Int}:(E1 b i n).isSome=inS b.length i n:=by
 unfold E1 inS;split
 ·rename_i h; rw[decide_eq_true h]; rfl
 ·rename_i h; rw[decide_eq_false h]; rfl
theorem A8l{b:List Int}{i n:Int}(h:inS b.length i n=true):∃ x,uS b i n=some x:=by
 rw[← B98,Option.isSome_iff_exists] at h;obtain⟨r,hr⟩:=h;exact⟨num r,by unfold uS; rw[hr]; rfl⟩
theorem J0l(i z:Int)(n j:Nat)(h:j≤n):(A3f i z n).take j=A3f i z j:=by
 unfold A3f;rw[← List.map_take,List.take_range,Nat.min_eq_left h]
theorem J0k(i z:Int)(n:Nat):A3f i z (n+1)=A3f i z n++[i+10+z*(n:Nat)]:=by simp[A3f,List.range_succ]
theorem E58 (k:Nat) (b:List Int) (hb:Byt b) (i need:Int) (keys:Nat) (hl:b.length<2 ^ 31) (hi0:0≤i) (hi:i<65536) (hneed:0<need) (hk:2*(keys:Int)≤need) (H:A2) :
  R (T k) F.ζ7 [lv B7 b,.int .i64 i,.int .i64 need,.int .i64 keys] H=.ok (A3z b i need keys) H:=by
 rw[G35];have hU:=fun j H'=>P0 k (H:=H') (Sl.lv H' 1 b) hb j 2 (by omega) (by omega);have hIn:=fun H'=>D77 k b.length i 10 (by omega) (by omega) H';have hnil:∃ L,fzV H.n H N9 (.tuple #[.slice none 0 0,.int .i64 0,.bool false])=some (.tuple #[lv N3 [],.int .i64 0,.bool false],L):=⟨_,rfl⟩
 obtain ⟨L0,hnil⟩:=hnil;have hno:P7 b i need keys=none→ζ7 k (R (T k)) (lv B7 b) (.int .i64 i) (.int .i64 need) (.int .i64 keys) H=.ok (.tuple #[.slice none 0 0,.int .i64 0,.bool false]) H→nrm .fz H (ζ7 k (R (T k)) (lv B7 b) (.int .i64 i) (.int .i64 need) (.int .i64 keys) H)=.ok (A3z b i need keys) H:=fun h1 h2=>by
  have fl:=E59 b i need keys;unfold A3z at fl ⊢;rw[h1] at fl ⊢;exact G7 h2 hnil (Ext.refl H) fl.alive
 cases hin:inS b.length i 10 with
 | false=>
  have hp:E1 b i 10=none:=by
   have:=B98 (b:=b) (i:=i) (n:=10);rw[hin] at this;simpa using this
  refine hno (by unfold P7; rw[hp]; split <;> simp) ?_;rw[hin] at hIn;have hg1:-1≤(uS b i 2).getD (-1)∧(uS b i 2).getD (-1)<65536:=X7 hb i;have hg2:-1≤(uS b (i+2) 2).getD (-1)∧(uS b (i+2) 2).getD (-1)<65536:=X7 hb (i+2);simp -implicitDefEqProofs(disch:=omega) [ζ7,hU,hIn]
 | true =>
  rw[hin] at hIn;have hin':0≤i∧0≤(10:Int)∧i≤b.length∧10≤b.length - i:=of_decide_eq_true hin;obtain⟨z,hz⟩:=A8l (b:=b) (i:=i) (n:=2) (by unfold inS; exact decide_eq_true (by omega));obtain⟨n,hn⟩:=A8l (b:=b) (i:=i+2) (n:=2) (by unfold inS; exact decide_eq_true (by omega));have hz2:=K8 hb hz;have hn2:=K8 hb hn;have hu1:=fun H'=>hU i H';have hu2:=fun H'=>hU (i+2) H';rw[hz] at hu1;rw[hn] at hu2;simp only[Option.getD_some] at hu1 hu2;have hpc:(E1 b i 10).isSome=true:=by rw[B98]; exact hin
  by_cases hnz:need≤z;rotate_left
  ·refine hno (by unfold P7; rw[hz,hn]; simp[hnz]) ?_;have:z<need:=by omega
   simp -implicitDefEqProofs(disch:=omega) [ζ7,hu1,hu2,hIn,this]
  have hnz':¬ z<need:=by omega
  have hRows:=fun H'=>B58 k b.length (i+10) n z (by omega) (by omega) H';cases hrb:U9 b.length (i+10) n z with
  | false=>
   have hrs:S1 b (i+10) n z=none:=by
    cases h:S1 b (i+10) n z with
    | none=>rfl
    | some r=>
     have:=(B29 (by omega)).2 ((B3g (by omega)).1 h).1;rw[hrb] at this; cases this
   rw[hrb] at hRows;refine hno (by unfold P7; rw[hz,hn]; simp[hrs]) ?_;simp -implicitDefEqProofs(disch:=omega) [ζ7,hu1,hu2,hIn,hnz',hRows]
  | true =>
   rw[hrb] at hRows;have hrs:=(B3g (r:=(b.drop (i+10).toNat).take (n*z).toNat) (by omega)).2 ⟨(B29 (by omega)).1 hrb,rfl⟩;obtain⟨r,hr⟩:∃ r,r=(b.drop (i+10).toNat).take (n*z).toNat:=⟨_,rfl⟩
   rw[← hr] at hrs;have htake:P7 b i need keys=some (N5 r z.toNat n.toNat keys):=by unfold P7; rw[hz,hn]; simp[hpc,hnz,hrs]
   obtain⟨n,rfl⟩:=Int.eq_ofNat_of_zero_le hn2.1;have hzn:(z.toNat:Int)=z:=by omega
   -- the rows' places
   obtain ⟨x,e',H1,hr1,rfl,⟨a,s,rfl,ho⟩,hx⟩:=K5 (body:=D4w k (R (T k))) n
    (fun j e H'=>(∃ s,e=[(0,lv B7 b),(1,.int .i64 i),(3,.int .i64 keys),(11,.int .i64 z),(12,.int .i64 n),(13,s),(14,.int .i64 j)]∧Own H H' 1 s N3 (A3f i z j))∧Ext H H')
    (fun x e H'=>x=.exit 0∧(∃ a s,e=[(0,lv B7 b),(1,.int .i64 i),(3,.int .i64 keys),(11,.int .i64 z),(12,.int .i64 n),(13,s),(14,.int .i64 n),(47,a)]∧Own H H' 1 s N3 (A3f i z n))∧Ext H H')
    (e0:=[(0,lv B7 b),(1,.int .i64 i),(3,.int .i64 keys),(11,.int .i64 z),(12,.int .i64 n),(13,U8),(14,.int .i64 0)]) (H0:=H) ⟨⟨_,rfl,Own.bare _ _ _⟩,Ext.refl H⟩ (by omega)
    (fun j e H' hj ⟨⟨s,he,ho⟩,hx⟩=>by
     subst he;have hlt:(j:Int)<n:=by omega
     have hjz:(j:Int)*z≤65536*65536:=Int.mul_le_mul (by omega) (by omega) (by omega) (by omega);have hjz0:0≤(j:Int)*z:=Int.mul_nonneg (by omega) (by omega);obtain⟨s2,H2,e2,o2,x2⟩:=A52 (bytes:=8) N0 ho hx (i+10+z*(j:Nat)) (by simp; omega) (by decide);rw[← J0k] at o2;rw[Int.mul_comm z] at e2;refine .inl ⟨_,H2,?_,⟨s2,rfl,o2⟩,x2⟩;rw[E11];simp -implicitDefEqProofs(disch:=omega) [hlt,e2])
    (fun e H' ⟨⟨s,he,ho⟩,hx⟩=>by
     subst he;refine⟨.exit 0,_,H',?_,by simp,rfl,⟨.bool false,s,rfl,ho⟩,hx⟩;rw[E11];simp -implicitDefEqProofs)
   have hgu:gU b i 2=z:=L8 hz;have fl:=E59 b i need keys;unfold A3z at fl ⊢;rw[htake,hgu] at fl ⊢;dsimp only at fl ⊢;by_cases hn0:n=0
   ·subst hn0;obtain⟨L,hf⟩:=ho.freeze N0 (B90 _) 5;have e2:(N5 r z.toNat (Int.toNat ((0:Nat):Int)) keys).length=0:=by simp[N5]
    rw[e2] at fl ⊢;refine G7 (v:=.tuple #[s,.int .i64 z,.bool true]) (H':=H1) ?_ (A1y (l:=[s,.int .i64 z,.bool true]) (A1k hf (A1k (L1:=[]) rfl (X1 (L:=[]) rfl)))) hx fl.alive;simp at hr1 hRows;simp -implicitDefEqProofs(disch:=omega) [ζ7,hu1,hu2,hIn,hnz',hRows,hr1,D47,G0n]
   ·have hgt:0<n:=by omega
    obtain⟨z,rfl⟩:=Int.eq_ofNat_of_zero_le hz2.1;simp only[Int.toNat_natCast] at *;have hrow:=J0v hrs (j:=n - 1) (by omega);obtain⟨row,hrowd⟩:∃ row,row=(r.drop (z*(n - 1))).take z:=⟨_,rfl⟩
    rw [← hrowd] at hrow;have hlast:=A2s i z n (n - 1) (by omega);obtain⟨bk,hsk,hbk,hgk,_⟩:=A5f ho .i64 (n - 1) (by simp; omega) H1;rw[A3y] at hsk;have hixk:∀ H'',ixS 1 s (.int .i64 ((n:Int) - 1)) H''=.ok (.pointer (some ⟨bk,(n - 1)*1,none⟩)) H'':=fun H''=>by
     rw[hsk,show ((n:Int) - 1)=((n - 1:Nat):Int) by omega];have:=D2a 1 bk 0 n n .i64 (n - 1) H'' (by omega);simpa using this
    have hld:=A35 N0 hgk (c:=0) hlast (by decide) rfl;simp only[Nat.add_zero,Nat.mul_one] at hld hixk;have hp0:0≤i+10+(z:Int)*((n - 1:Nat):Int)∧i+10+(z:Int)*((n - 1:Nat):Int)<2 ^ 34:=by
     have:=Int.mul_nonneg (show (0:Int)≤z by omega) (show (0:Int)≤((n - 1:Nat):Int) by omega);have:(z:Int)*((n - 1:Nat):Int)≤65536*65536:=Int.mul_le_mul (by omega) (by omega) (by omega) (by omega);omega
    generalize i+10+(z:Int)*((n - 1:Nat):Int)=p at hrow hld hp0
    obtain ⟨x,e',H2,hr2,rfl,rfl,a2,rfl⟩:=K5 (body:=D4x k (R (T k))) keys
     (fun j e H'=>H'=H1∧e=[(0,lv B7 b),(3,.int .i64 keys),(11,.int .i64 z),(12,.int .i64 n),(13,s),(15,.bool ((List.range j).all fun q=>uS row (2*q) 2 == some 65535)),(16,.int .i64 j)])
     (fun x e H'=>H'=H1∧x=.exit 2∧∃ a,e=[(0,lv B7 b),(3,.int .i64 keys),(11,.int .i64 z),(12,.int .i64 n),(13,s),(15,.bool (A4k row keys)),(16,.int .i64 keys),(63,a)])
     (e0:=[(0,lv B7 b),(3,.int .i64 keys),(11,.int .i64 z),(12,.int .i64 n),(13,s),(15,.bool true),(16,.int .i64 0)]) (H0:=H1) ⟨rfl,rfl⟩ (by omega)
     (fun j e H' hj ⟨hH,he⟩=>by
      subst he hH;have hlt:(j:Int)<keys:=by omega
      refine .inl ⟨_,_,?_,rfl,rfl⟩;rw[E12,List.range_succ,List.all_append];cases hall:(List.range j).all fun q=>uS row (2*q) 2 == some 65535 with
      | false=>simp -implicitDefEqProofs(disch:=omega) [hlt]
      | true=>
       have hsub:=B2n hrow (x:=2*j) (y:=2) (by omega) (by omega) (by omega);have hu:=hU (p+2*j);rw[← hsub] at hu;obtain⟨y,hy⟩:∃ y,uS row (2*j) 2=some y:=by
        obtain⟨y,hy⟩:=(A2f hrow (x:=2*j) (y:=2) (by omega) (by omega) (by omega)).2;exact⟨y,by rw[hsub,hy]⟩
       rw[hy] at hu;simp -implicitDefEqProofs(disch:=omega) [hlt];rw[hixk];simp -implicitDefEqProofs(disch:=omega) [hlt,hld,hu,hy])
     (fun e H' ⟨hH,he⟩=>by
      subst he hH;refine⟨.exit 2,_,_,?_,by simp,rfl,rfl,.bool false,rfl⟩;rw[E12];simp -implicitDefEqProofs [A4k])
    obtain⟨bf,L,hsf,hf⟩:=ho.ζos N0 (B90 _) 5 (N5 r z n keys).length (by unfold N5; split <;> simp) (by simp; omega);rw[A3y] at hsf;have hbf:bk=bf:=by rw[hsk] at hsf; simpa using hsf
    subst hbf;rw[J0l _ _ _ _ (by unfold N5; split <;> simp)] at hf;cases hno:A4k row keys with
    | false=>
     rw[hno] at hr2;have e2:(N5 r z n keys).length=n:=by unfold N5; rw[← hrowd,hno]; simp
     rw[e2] at hf fl ⊢;refine G7 (v:=.tuple #[s,.int .i64 z,.bool true]) (H':=H2) ?_ (A1y (l:=[s,.int .i64 z,.bool true]) (A1k (by rw[hsk]; exact hf n) (A1k (L1:=[]) rfl (X1 (L:=[]) rfl)))) hx fl.alive;simp -implicitDefEqProofs(disch:=omega) [ζ7,hu1,hu2,hIn,hnz',hRows,hr1,D47,hgt,hr2,E0n,G0p]
    | true=>
     rw[hno] at hr2;have e2:(N5 r z n keys).length=n - 1:=by unfold N5; rw[← hrowd,hno,if_pos ⟨by omega,rfl⟩]; simp
     rw[e2] at hf fl ⊢;have hsl:=B4e hgk .i64 (n - 1) (by simp);rw[A3y,show (((n - 1:Nat)):Int)=(n:Int) - 1 by omega] at hsl;refine G7 (v:=.tuple #[.slice (some ⟨bk,0,none⟩) (n - 1) n,.int .i64 z,.bool true]) (H':=H2) ?_ (A1y (l:=[.slice (some ⟨bk,0,none⟩) (n - 1) n,.int .i64 z,.bool true]) (A1k (hf n) (A1k (L1:=[]) rfl (X1 (L:=[]) rfl)))) hx fl.alive;subst hsk;simp -implicitDefEqProofs(disch:=omega) [ζ7,hu1,hu2,hIn,hnz',hRows,hr1,D47,hgt,hr2,E0n,hsl,G0o]
end Go.Sw
end
