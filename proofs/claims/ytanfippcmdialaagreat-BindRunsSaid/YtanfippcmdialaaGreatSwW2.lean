/-
  Functions' forms, and what is proved of them, part 2.
-/
import Derived.Test.YtanfippcmdialaaGreatSwW1
import Derived.Test.YtanfippcmdialaaGreatSwLib9
import Derived.Test.YtanfippcmdialaaGreatSwCfg
set_option linter.unusedSimpArgs false
set_option linter.unusedVariables false
set_option linter.unusedSectionVars false
section
namespace Go.Sw
open Go.RowKit
theorem U5{α β:Type}{f:α→Option β}:∀ {l:List α} {r:List β},M6 f l=some r→r.length=l.length
 | [],r,h=>by injection h with h; subst h; rfl
 | x :: l,r,h=>by
  simp only[M6] at h;obtain⟨y,_,h⟩:=Option.bind_eq_some_iff.1 h;obtain⟨r',h1,rfl⟩:=Option.map_eq_some_iff.1 h;simp[U5 h1]
theorem A23{α β:Type}{f:α→Option β}:∀ {l:List α} {r:List β} {i:Nat} {y:β},M6 f l=some r→r[i]?=some y→∃ x,l[i]?=some x∧f x=some y
 | [],r,i,y,h,hy=>by injection h with h; subst h; simp at hy
 | x :: l,r,i,y,h,hy=>by
  simp only[M6] at h;obtain⟨z,h0,h⟩:=Option.bind_eq_some_iff.1 h;obtain⟨r',h1,rfl⟩:=Option.map_eq_some_iff.1 h;cases i with
  | zero=>simp at hy; subst hy; exact⟨x,by simp,h0⟩
  | succ i=>simp at hy; simpa using A23 h1 hy
structure Pt where
 first:Int
 last:Int
 vals:List Int
def X0(b:List Int)(i n z:Int):Option (List Int):=(S1 b i n z).map fun r=>(U4 r z.toNat n.toNat).map num
def A44(b:List Int)(i z:Int):Option (List Pt) :=
 (uS b i 2).bind fun f=>(uS b (i+2) 2).bind fun n=>
  if f+n≤65536 then (X0 b (i+4) n z).map fun vs=>if n=0 then [] else [⟨f,f+n - 1,vs⟩] else none
def A8z(b:List Int)(z:Int)(each:Bool)(row:List Int):Option Pt :=
 (uS row 2 2).bind fun f=>(uS row 0 2).bind fun l=>
  if f≤l then (if each then (uS row 4 2).bind fun i=>(X0 b i (l - f+1) z).map fun vs=>⟨f,l,vs⟩ else (uS row 4 z).map fun x=>⟨f,l,[x]⟩) else none
def B1n(b:List Int)(z:Int)(each:Bool):Option (List Pt) :=
 (P7 b 2 (if each then 6 else 4+z) 2).bind (M6 (A8z b z each))
def B4l(z:Int)(row:List Int):Option Pt:=(uS row 0 2).bind fun i=>(uS row 2 z).map fun x=>⟨i,i,[x]⟩
def B4m(b:List Int)(z:Int):Option (List Pt):=(P7 b 2 (2+z) 1).bind (M6 (B4l z))
def P9:List Pt→Bool
 | []=>true
 | [_]=>true
 | p :: q :: l=>decide (p.last<q.first) && P9 (q :: l)
def A04(b:List Int)(glyphs z fmt:Int):Option (List Pt) :=
 if fmt=0 then (X0 b 2 glyphs z).map fun vs=>[⟨0,glyphs - 1,vs⟩] else
 if fmt=2 then B1n b z false else
 if fmt=4 then B1n b z true else
 if fmt=6 then B4m b z else
 if fmt=8 then A44 b 2 z else
 if fmt=10 then (uS b 2 2).bind fun u=>if u=1∨u=2∨u=4 then A44 b 4 u else none
 else none
def A17(b:List Int)(glyphs z:Int):Option (Int × List Pt) :=
 (uS b 0 2).bind fun fmt=>(A04 b glyphs z fmt).bind fun ps=>if P9 ps then some (fmt,ps) else none
def Pt.num(p:Pt)(id:Int):Option Int:=p.vals[(min (id - p.first) ((p.vals.length:Int) - 1)).toNat]?
def A28(ps:List Pt)(id:Int):Option Int:=(ps.find? fun p=>decide (id≤p.last)).bind fun p=>if p.first≤id then p.num id else none
theorem E4s{α:Type}(q:α→Bool):∀ (l:List α) (i:Nat),A74 l.length (fun j=>(l[j]?).elim false q) i→l.find? q=l[i]?
 | [],i,h=>by simp
 | x :: l,0,h=>by
  have:=h.2.2 0 (Nat.le_refl _) (by simp);simp at this;simp[this]
 | x :: l,i+1,h=>by
  have h0:=h.2.1 0 (by omega);simp at h0;rw[List.find?_cons,h0];simp only[List.getElem?_cons_succ];exact E4s q l i ⟨by simpa using h.1,fun j hj=>by simpa using h.2.1 (j+1) (by omega),fun j h1 h2=>by simpa using h.2.2 (j+1) (by omega) (by simpa using h2)⟩
def Pt.ok(p:Pt):Prop:=0≤p.first∧p.first≤p.last∧p.last<65536∧p.vals≠[]∧(p.vals.length:Int)≤65536∧∀ x,x ∈ p.vals→0≤x∧x<4294967296
theorem D0e{l:List Int}(h:Byt l)(hl:l.length≤4):0≤num l∧num l<4294967296:=by
 have:=D2e l h;have h4:l.length=0∨l.length=1∨l.length=2∨l.length=3∨l.length=4:=by omega
 rcases h4 with e | e | e | e | e <;> rw[e] at this <;> omega
theorem D1p{r:List Int}(hb:Byt r)(z n:Nat){l:List Int}(h:l ∈ U4 r z n):Byt l∧l.length≤z:=by
 obtain⟨i,_,rfl⟩:=List.mem_map.1 h;exact⟨fun x hx=>hb x (List.mem_of_mem_drop (List.mem_of_mem_take hx)),by simp; omega⟩
theorem A4d{b:List Int}{i n z:Int}{r:List Int}(h:S1 b i n z=some r):0≤n∧0≤z∧0≤i∧i≤b.length∧n*z≤b.length - i∧r=(b.drop i.toNat).take (n*z).toNat:=by
 unfold S1 at h;split at h
 ·rename_i hc;unfold E1 at h;split at h
  ·rename_i hd;injection h with h;exact⟨hc.1,hc.2.1,hd.1,hd.2.2.1,hd.2.2.2,h.symm⟩
  ·cases h
 ·cases h
theorem B5c{b:List Int}(hb:Byt b){i n z:Int}{vs:List Int}(hz:z≤4)(h:X0 b i n z=some vs):0≤n∧(vs.length:Int)=n∧∀ x,x ∈ vs→0≤x∧x<4294967296:=by
 unfold X0 at h;obtain⟨r,hr,rfl⟩:=Option.map_eq_some_iff.1 h;have h1:=A4d hr;have h2:=(hb.piece (A71 hr)).1;refine⟨h1.1,by simp; omega,fun x hx=>?_⟩;obtain⟨l,hl,rfl⟩:=List.mem_map.1 hx;obtain⟨h3,h4⟩:=D1p h2 _ _ hl;exact D0e h3 (by omega)
theorem B0l {b:List Int} (hb:Byt b) {i need:Int} {keys:Nat} {rows:List (List Int)} (h:P7 b i need keys=some rows):∃ z n:Int,uS b i 2=some z∧uS b (i+2) 2=some n∧need≤z∧(rows.length:Int)≤n∧∀ row,row ∈ rows→Byt row∧(row.length:Int)=z:=by
 unfold P7 at h;split at h
 ·rename_i z n h1 h2;split at h
  ·rename_i hc;obtain⟨r,hr,rfl⟩:=Option.map_eq_some_iff.1 h;have hn:=A4d hr;have hrb:=(hb.piece (A71 hr)).1;have hrl:(r.length:Int)=n*z:=A72 (A71 hr);refine⟨z,n,h1,h2,hc.2,?_,fun row hrow=>?_⟩
   ·unfold N5;split <;> simp <;> omega
   ·have hm:row ∈ U4 r z.toNat n.toNat:=by
     unfold N5 at hrow;split at hrow
     ·obtain⟨i,hi,rfl⟩:=List.mem_map.1 hrow;exact List.mem_map.2 ⟨i,List.mem_range.2 (by have:=List.mem_range.1 hi; omega),rfl⟩
     ·exact hrow
    refine⟨(D1p hrb _ _ hm).1,?_⟩;obtain⟨j,hj,rfl⟩:=List.mem_map.1 hm;have hj:=List.mem_range.1 hj;obtain⟨z',rfl⟩:=Int.eq_ofNat_of_zero_le hn.2.1;obtain⟨n',rfl⟩:=Int.eq_ofNat_of_zero_le hn.1;have hrl:r.length=n'*z':=by exact_mod_cast hrl
    simp only[Int.toNat_natCast] at hj ⊢;have:z'*j+z'≤r.length:=by
     rw[hrl,← Nat.mul_succ,Nat.mul_comm];exact Nat.mul_le_mul_right _ hj
    simp; omega
  ·cases h
 ·cases h
theorem B1t{b:List Int}(hb:Byt b){i z:Int}(hz:z≤4){ps:List Pt}(h:A44 b i z=some ps):∀ p,p ∈ ps→p.ok:=by
 unfold A44 at h;obtain⟨f,hf,h⟩:=Option.bind_eq_some_iff.1 h;obtain⟨n,hn,h⟩:=Option.bind_eq_some_iff.1 h;split at h
 ·rename_i hc;obtain⟨vs,hv,rfl⟩:=Option.map_eq_some_iff.1 h;have hs:=B5c hb hz hv;have hf:=K8 hb hf;have hn:=K8 hb hn;intro p hp;split at hp
  ·simp at hp
  ·simp at hp;subst hp;exact⟨by simp; omega,by simp; omega,by simp; omega,fun e=>by simp at e; simp[e] at hs; omega,by simp; omega,hs.2.2⟩
 ·cases h
theorem B4b {b row:List Int} (hb:Byt b) (hr:Byt row) {z:Int} (hz:z=2∨z=4) {each:Bool} {p:Pt} (h:A8z b z each row=some p):p.ok:=by
 unfold A8z at h;obtain⟨f,hf,h⟩:=Option.bind_eq_some_iff.1 h;obtain⟨l,hl,h⟩:=Option.bind_eq_some_iff.1 h;have hf:=K8 hr hf;have hl:=K8 hr hl;split at h
 ·split at h
  ·obtain⟨i,hi,h⟩:=Option.bind_eq_some_iff.1 h;obtain⟨vs,hv,rfl⟩:=Option.map_eq_some_iff.1 h;have hs:=B5c hb (by omega) hv;exact⟨by simp; omega,by simpa,by simp; omega,fun e=>by simp at e; simp[e] at hs; omega,by simp; omega,hs.2.2⟩
  ·obtain⟨x,hx,rfl⟩:=Option.map_eq_some_iff.1 h;refine⟨by simp; omega,by simpa,by simp; omega,by simp,by simp,fun y hy=>?_⟩;simp at hy;subst hy;rcases hz with rfl | rfl
   ·have:=K8 hr hx; omega
   ·have:=W5 hr hx; omega
 ·cases h
theorem D0g{row:List Int}(hr:Byt row){z:Int}(hz:z=2∨z=4){p:Pt}(h:B4l z row=some p):p.ok:=by
 unfold B4l at h;obtain⟨i,hi,h⟩:=Option.bind_eq_some_iff.1 h;obtain⟨x,hx,rfl⟩:=Option.map_eq_some_iff.1 h;have hi:=K8 hr hi;refine⟨by simp; omega,by simp,by simp; omega,by simp,by simp,fun y hy=>?_⟩;simp at hy;subst hy;rcases hz with rfl | rfl
 ·have:=K8 hr hx; omega
 ·have:=W5 hr hx; omega
theorem A5m{α β:Type}{f:α→Option β}{l:List α}{r:List β}(h:M6 f l=some r){P:β→Prop}(hp:∀ x y,x ∈ l→f x=some y→P y):∀ y,y ∈ r→P y:=by
 intro y hy;obtain⟨i,hi⟩:=List.mem_iff_getElem?.1 hy;obtain⟨x,hx,hf⟩:=A23 h hi;exact hp x y (List.mem_of_getElem? hx) hf
theorem E6d{b:List Int}(hb:Byt b){glyphs z fmt:Int}(hg:1≤glyphs)(hg2:glyphs≤65535)(hz:z=2∨z=4){ps:List Pt}(h:A04 b glyphs z fmt=some ps):∀ p,p ∈ ps→p.ok:=by
 unfold A04 at h;split at h
 ·obtain⟨vs,hv,rfl⟩:=Option.map_eq_some_iff.1 h;have hs:=B5c hb (by omega) hv;intro p hp;simp at hp;subst hp;exact⟨by simp,by simp; omega,by simp; omega,fun e=>by simp at e; simp[e] at hs; omega,by simp; omega,hs.2.2⟩
 split at h
 ·obtain⟨rows,h1,h2⟩:=Option.bind_eq_some_iff.1 h;obtain⟨_,_,_,_,_,_,hr⟩:=B0l hb h1;exact A5m h2 fun x y hx hy=>B4b hb (hr x hx).1 hz hy
 split at h
 ·obtain⟨rows,h1,h2⟩:=Option.bind_eq_some_iff.1 h;obtain⟨_,_,_,_,_,_,hr⟩:=B0l hb h1;exact A5m h2 fun x y hx hy=>B4b hb (hr x hx).1 hz hy
 split at h
 ·obtain⟨rows,h1,h2⟩:=Option.bind_eq_some_iff.1 h;obtain⟨_,_,_,_,_,_,hr⟩:=B0l hb h1;exact A5m h2 fun x y hx hy=>D0g (hr x hx).1 hz hy
 split at h
 ·exact B1t hb (by omega) h
 split at h
 ·obtain⟨u,_,h⟩:=Option.bind_eq_some_iff.1 h;split at h
  ·exact B1t hb (by omega) h
  ·cases h
 ·cases h
theorem A83{b:List Int}(hb:Byt b){glyphs z fmt:Int}(hg:1≤glyphs)(hg2:glyphs≤65535)(hz:z=2∨z=4){ps:List Pt}(h:A17 b glyphs z=some (fmt,ps)):uS b 0 2=some fmt∧(∀ p,p ∈ ps→p.ok)∧P9 ps=true:=by
 unfold A17 at h;obtain⟨f,hf,h⟩:=Option.bind_eq_some_iff.1 h;obtain⟨qs,hq,h⟩:=Option.bind_eq_some_iff.1 h;split at h
 ·rename_i hr;injection h with h; injection h with h1 h2;subst h1 h2;exact⟨hf,E6d hb hg hg2 hz hq,hr⟩
 ·cases h
theorem B1o{b:List Int}(hb:Byt b){z:Int}{each:Bool}{ps:List Pt}(h:B1n b z each=some ps):ps.length<65536:=by
 obtain⟨rows,h1,h2⟩:=Option.bind_eq_some_iff.1 h;obtain⟨_,n,_,hn,_,hlen,_⟩:=B0l hb h1;have:=K8 hb hn;have:=U5 h2;omega
theorem B79{b:List Int}(hb:Byt b){z:Int}{ps:List Pt}(h:B4m b z=some ps):ps.length<65536:=by
 obtain⟨rows,h1,h2⟩:=Option.bind_eq_some_iff.1 h;obtain⟨_,n,_,hn,_,hlen,_⟩:=B0l hb h1;have:=K8 hb hn;have:=U5 h2;omega
theorem E6i{b:List Int}{i z:Int}{ps:List Pt}(h:A44 b i z=some ps):ps.length<65536:=by
 obtain⟨f,_,h⟩:=Option.bind_eq_some_iff.1 h;obtain⟨n,_,h⟩:=Option.bind_eq_some_iff.1 h;split at h
 ·obtain⟨vs,_,rfl⟩:=Option.map_eq_some_iff.1 h;split <;> simp
 ·cases h
theorem D2b {b:List Int} (hb:Byt b) {g z:Int} {x:Int × List Pt} (h:A17 b g z=some x):x.2.length<2 ^ 31:=by
 unfold A17 at h;obtain⟨f,_,h⟩:=Option.bind_eq_some_iff.1 h;obtain⟨ps,h1,h⟩:=Option.bind_eq_some_iff.1 h;split at h
 ·injection h with h;subst h;dsimp only;unfold A04 at h1;split at h1
  ·obtain⟨vs,_,rfl⟩:=Option.map_eq_some_iff.1 h1;simp
  split at h1
  ·have:=B1o hb h1; omega
  split at h1
  ·have:=B1o hb h1; omega
  split at h1
  ·have:=B79 hb h1; omega
  split at h1
  ·have:=E6i h1; omega
  split at h1
  ·obtain⟨u,_,h1⟩:=Option.bind_eq_some_iff.1 h1;split at h1
   ·have:=E6i h1; omega
   ·cases h1
  ·cases h1
 ·cases h
theorem D22:∀ {ps:List Pt},P9 ps=true→(∀ p,p ∈ ps→p.ok)→∀ (i j:Nat) (p q:Pt),i<j→ps[i]?=some p→ps[j]?=some q→p.last<q.first
 | [],_,_,i,j,p,q,_,hp,_=>by simp at hp
 | [_],_,_,i,j,p,q,hij,hp,hq=>by
  have h1:=(List.getElem?_eq_some_iff.1 hq).1;simp at h1;omega
 | a :: b :: l,h,hok,i,j,p,q,hij,hp,hq=>by
  simp only[P9,Bool.and_eq_true,decide_eq_true_eq] at h;obtain⟨j,rfl⟩:∃ j',j=j'+1:=⟨j - 1,by omega⟩
  have hq:(b :: l)[j]?=some q:=by simpa using hq
  have hok':∀ p,p ∈ b :: l→p.ok:=fun p hp=>hok p (by simp at hp ⊢; exact .inr hp);cases i with
  | succ i=>exact D22 h.2 hok' i j p q (by omega) (by simpa using hp) hq
  | zero=>
   simp at hp;subst hp;cases j with
   | zero=>simp at hq; subst hq; exact h.1
   | succ j=>
    have h1:=D22 h.2 hok' 0 (j+1) b q (by omega) (by simp) hq;have h2:=hok b (by simp);have:=h2.2.1;omega
theorem G8c{ps:List Pt}(id:Int)(i:Nat)(h:A74 ps.length (fun j=>(ps[j]?).elim false fun p=>decide (id≤p.last)) i):A28 ps id=(ps[i]?).bind fun p=>if p.first≤id then p.num id else none:=by
 unfold A28;rw[E4s _ ps i h]
theorem Pt.num_some{p:Pt}(h:p.ok){id:Int}(hf:p.first≤id):∃ x,p.num id=some x∧0≤x∧x<4294967296:=by
 obtain⟨h1,h2,h3,h4,h5,h6⟩:=h;have hl:0<p.vals.length:=List.length_pos_iff.2 h4;unfold Pt.num;have hi:(min (id - p.first) ((p.vals.length:Int) - 1)).toNat<p.vals.length:=by omega
 exact⟨p.vals[(min (id - p.first) ((p.vals.length:Int) - 1)).toNat],List.getElem?_eq_getElem hi,h6 _ (List.getElem_mem _)⟩
end Go.Sw
end
section
namespace Go.Sw
open Go.RowKit
section
variable {α β γ δ:Type} {E:A2→Prop} {o:Option β} {f:β→Value} {r:Res Value} {H:A2} {Q:δ→γ→A2→Prop}
theorem Cp.call{K:Value→A2→Res γ}{g:β→Option δ}(hr:r=orF o f H)(hE:E H)(hk:∀ b,o=some b→Cp K7 E (K (f b) H) (g b) Q):Cp K7 E (r.bind K) (o.bind g) Q:=by
 subst hr;cases o with
 | none=>exact⟨H,rfl,hE⟩
 | some b=>exact hk b rfl
theorem Cp.callM{K:Value→A2→Res γ}{g:β→δ}(hr:r=orF o f H)(hE:E H)(hk:∀ b,o=some b→Cp K7 E (K (f b) H) (some (g b)) Q):Cp K7 E (r.bind K) (o.map g) Q:=by
 subst hr;cases o with
 | none=>exact⟨H,rfl,hE⟩
 | some b=>exact hk b rfl
theorem Cp.callL{Q:β→γ→A2→Prop}{K:Value→A2→Res γ}(hr:r=orF o f H)(hE:E H)(hk:∀ b,o=some b→Cp K7 E (K (f b) H) (some b) Q):Cp K7 E (r.bind K) o Q:=by
 subst hr;cases o with
 | none=>exact⟨H,rfl,hE⟩
 | some b=>exact hk b rfl
theorem Cp.callT{G:Value→A2→Res γ}{K:Value→A2→Res γ}{g:β→Option δ}(hr:r=orF o f H)(hp:o=none→∃ H',G K7 H=.panic K7 H'∧E H')(hk:∀ b,o=some b→Cp K7 E (K (f b) H) (g b) Q):Cp K7 E (r.bindT G K) (o.bind g) Q:=by
 subst hr;cases o with
 | none=>exact hp rfl
 | some b=>exact hk b rfl
theorem Cp.callTM{G:Value→A2→Res γ}{K:Value→A2→Res γ}{g:β→δ}(hr:r=orF o f H)(hp:o=none→∃ H',G K7 H=.panic K7 H'∧E H')(hk:∀ b,o=some b→Cp K7 E (K (f b) H) (some (g b)) Q):Cp K7 E (r.bindT G K) (o.map g) Q:=by
 subst hr;cases o with
 | none=>exact hp rfl
 | some b=>exact hk b rfl
theorem Cp.need{k:Nat}{p:Prop} [Decidable p] {K:Value→A2→Res γ} {g:Option δ} (hE:E H) (hk:p→Cp K7 E (K (.tuple #[]) H) g Q):Cp K7 E ((R (T k) F.A37 [.bool (decide p)] H).bind K) (if p then g else none) Q:=by
 by_cases h:p
 ·rw[if_pos h,decide_eq_true h,D26];exact hk h
 ·rw[if_neg h,decide_eq_false h,D1u];exact⟨H,rfl,hE⟩
end
section
variable {β:Type} {H:A2} {r:Res Value} {o:Option β} {f:β→Value}
theorem D35(h:Cp K7 (Ext H) r o fun b v _=>v=f b)(ha:∀ b,o=some b→L6 H (f b)):nrm .gc H r=orF o f H:=by
 rw[J0h h ha D3.fail.alive];cases o <;> rfl
theorem A3p(h:Cp K7 (Ext H) r o fun b v H'=>∃ L,fzV H.n H' N9 v=some (f b,L))(ha:∀ b,o=some b→L6 H (f b)):nrm .fz H r=orF o f H:=by
 rw[J0g h ha D3.fail.alive];cases o <;> rfl
end
end Go.Sw
end
section
set_option maxRecDepth 100000
namespace Go.Sw
noncomputable section
variable (k:Nat) (call:A8)
def A94(a8:Value)(h:A2):Res Value :=
 E4 (B3 (C k) call F.A6i [1,1,1,1]) (G2 A0 (G3 A0 F.A6i)) .normal [(8,a8)] h
def D5n:Env→A2→Res (D0 × Env):=M4 (C k) call F.A6i [1,1,1,1,0,1,0,0]
def E2w:G0 Value:=D7 1 (E4 (B3 (C k) call F.A6i [1,1,1,1,1]) (G2 A0 (G3 A0 F.A6i)))
def A6i(a0 a1 a2:Value)(h:A2):Res Value :=
 (K9 a0 h).bind fun v0 h0=>(A3 A0 113 v0 h0).bind fun v1 h1=>(E0 A0 267 [(0,v1),(1,a1),(2,a2)] h1).bind fun v2 h2=>(D1 A0 267 h2).bind fun v3 h3=>(B4 A0 267 v3 v2 h3).bind fun _v4 h4=>(A3 A0 113 v0 h4).bind fun v5 h5=>(call F.ζc [v5,(.int .i64 0)] h5).bind fun v6 h6=>(E0 A0 270 [(0,v6)] h6).bind fun v7 h7=>(K9 v7 h7).bind fun v8 h8=>(G8 v8 h8).bind fun v9 h9=>(A1 A0 270 v9 0 h9).bind fun va ha=>(A3 A0 3 va ha).bind fun vb hb=>(A5 A0 .eql 3 vb (.int .i64 0) hb).bind fun vc hc=>
 condV (some vc) (
 (A5 A0 .sub 3 a1 (.int .i64 1) hc).bind fun vd hd=>(A3 A0 113 v0 hd).bind fun ve he=>(call F.A8s [ve,(.int .i64 2),a1,a2] he).bind fun vf hf=>(E0 A0 273 [(0,(.int .i64 0)),(1,vd),(2,vf)] hf).bind fun vg hg=>(B9 A0 268 1 [(0,vg)] hg).bind fun vh hh=>(G8 v8 hh).bind fun vi hi=>(A1 A0 270 vi 1 hi).bind fun vj hj=>(B4 A0 268 vj vh hj).bind fun _vk hk=>
 A94 k call v8 hk)
 (
 (A5 A0 .eql 3 vb (.int .i64 2) hc).bind fun vl hl=>
 condV (some vl) (
 (A3 A0 267 v3 hl).bind fun vm hm=>(call F.ζ6 [vm,(.bool false)] hm).bind fun vn hn=>(G8 v8 hn).bind fun vo ho=>(A1 A0 270 vo 1 ho).bind fun vp hp=>(B4 A0 268 vp vn hp).bind fun _vq hq=>
 A94 k call v8 hq)
 (
 (A5 A0 .eql 3 vb (.int .i64 4) hl).bind fun vr hr=>
 condV (some vr) (
 (A3 A0 267 v3 hr).bind fun vs hs=>(call F.ζ6 [vs,(.bool true)] hs).bind fun vt ht=>(G8 v8 ht).bind fun vu hu=>(A1 A0 270 vu 1 hu).bind fun vv hv=>(B4 A0 268 vv vt hv).bind fun _vw hw=>
 A94 k call v8 hw)
 (
 (A5 A0 .eql 3 vb (.int .i64 6) hr).bind fun vx hx=>
 condV (some vx) (
 (A3 A0 267 v3 hx).bind fun vy hy=>(call F.ζz [vy] hy).bind fun vz hz=>(G8 v8 hz).bind fun v10 h10=>(A1 A0 270 v10 1 h10).bind fun v11 h11=>(B4 A0 268 v11 vz h11).bind fun _v12 h12=>
 A94 k call v8 h12)
 (
 (A5 A0 .eql 3 vb (.int .i64 8) hx).bind fun v13 h13=>
 condV (some v13) (
 (A3 A0 267 v3 h13).bind fun v14 h14=>(call F.B2t [v14,(.int .i64 2),a2] h14).bind fun v15 h15=>(G8 v8 h15).bind fun v16 h16=>(A1 A0 270 v16 1 h16).bind fun v17 h17=>(B4 A0 268 v17 v15 h17).bind fun _v18 h18=>
 A94 k call v8 h18)
 (
 (A5 A0 .eql 3 vb (.int .i64 10) h13).bind fun v19 h19=>
 condV (some v19) (
 (A3 A0 113 v0 h19).bind fun v1a h1a=>(call F.ζc [v1a,(.int .i64 2)] h1a).bind fun v1b h1b=>(A5 A0 .eql 3 v1b (.int .i64 1) h1b).bind fun v1c h1c=>(wV v1c false (Res.ok v1b h1c) h1c).bind fun v1d h1d=>(wV v1c false (A5 A0 .eql 3 v1d (.int .i64 2) h1d) h1d).bind fun v1e h1e=>(condV (some v1c) (Res.ok (.bool true) h1e) (Res.ok v1e h1e)).bind fun v1f h1f=>(wV v1f false (Res.ok v1b h1f) h1f).bind fun v1g h1g=>(wV v1f false (A5 A0 .eql 3 v1g (.int .i64 4) h1g) h1g).bind fun v1h h1h=>(condV (some v1f) (Res.ok (.bool true) h1h) (Res.ok v1h h1h)).bind fun v1i h1i=>(call F.A37 [v1i] h1i).bind fun v1j h1j=>(A3 A0 267 v3 h1j).bind fun v1k h1k=>(call F.B2t [v1k,(.int .i64 4),v1b] h1k).bind fun v1l h1l=>(G8 v8 h1l).bind fun v1m h1m=>(A1 A0 270 v1m 1 h1m).bind fun v1n h1n=>(B4 A0 268 v1n v1l h1n).bind fun _v1o h1o=>
 A94 k call v8 h1o)
 (
 (call F.B3h [] h19).bind fun v1p h1p=>
 A94 k call v8 h1p))))))
theorem G5j(k:Nat)(a0 a1 a2:Value)(h:A2):R (T k) F.A6i [a0,a1,a2] h=nrm .fz h (A6i k (R (T k)) a0 a1 a2 h) :=G9
theorem G2w(a8:Value)(h:A2):A94 k call a8 h =
 (loopN (D5n k call) B8 [(8,a8),(10,(.int .i64 1))] h).bind fun r125 h0=>
 E2w k call r125.1 r125.2 h0:=by kernel_rfl
theorem E2o(a8 a10:Value)(h:A2):D5n k call [(8,a8),(10,a10)] h =
 (G8 a8 h).bind fun v0 h0=>(A1 A0 270 v0 1 h0).bind fun v1 h1=>(A3 A0 268 v1 h1).bind fun v2 h2=>(A6 A0 .len [268] [v2] h2).bind fun v3 h3=>(A5 A0 .lss 3 a10 v3 h3).bind fun v4 h4=>
 condV (some v4) (
 (G8 a8 h4).bindN fun v5 h5=>(A1 A0 270 v5 1 h5).bindN fun v6 h6=>(A3 A0 268 v6 h6).bindN fun v7 h7=>(A5 A0 .sub 3 a10 (.int .i64 1) h7).bindN fun v8 h8=>(A9 A0 268 v7 v8 h8).bindN fun v9 h9=>(A1 A0 273 v9 1 h9).bindN fun va ha=>(A3 A0 3 va ha).bindN fun vb hb=>(G8 a8 hb).bindN fun vc hc=>(A1 A0 270 vc 1 hc).bindN fun vd hd=>(A3 A0 268 vd hd).bindN fun ve he=>(A9 A0 268 ve a10 he).bindN fun vf hf=>(A1 A0 273 vf 0 hf).bindN fun vg hg=>(A3 A0 3 vg hg).bindN fun vh hh=>(A5 A0 .lss 3 vb vh hh).bindN fun vi hi=>(call F.A37 [vi] hi).bindT (fun p167 hj=>.panic p167 hj) fun vj hk=>(A5 A0 .add 3 a10 (.int .i64 1) hk).bind fun vk hl=>
 .ok (.normal,[(8,a8),(10,vk)]) hl)
 (
 .ok ((.exit 1),[(8,a8),(10,a10),(93,v4)]) h4) :=
 (E2 _ _).trans (by kernel_rfl)
theorem G1k(a8 a10 a93:Value)(h:A2):E2w k call (.exit 1) [(8,a8),(10,a10),(93,a93)] h =
 .ok a8 h:=by kernel_rfl
def B31(k:Nat)(call:A8)(a0:Value)(h:A2):Res Value :=
 (K9 a0 h).bind fun v0 h0=>
 .ok (.func (.func F.D4e) #[] #[v0]) h0
theorem G1i(k:Nat)(a0:Value)(h:A2):R (T k) F.B31 [a0] h=nrm .no h (B31 k (R (T k)) a0 h) :=G9
def D5o:Env→A2→Res (D0 × Env):=M4 (C k) call F.A8s [1,1,1,0,1,0,0]
def E2x:G0 Value:=D7 0 (E4 (B3 (C k) call F.A8s [1,1,1,1]) (G2 A0 (G3 A0 F.A8s)))
def A8s(a0 a1 a2 a3:Value)(h:A2):Res Value :=
 (K9 a0 h).bind fun v0 h0=>(A3 A0 113 v0 h0).bind fun v1 h1=>(call F.ζw [v1,a1,a2,a3] h1).bind fun v2 h2=>(D1 A0 113 h2).bind fun v3 h3=>(B4 A0 113 v3 v2 h3).bind fun _v4 h4=>(Q5 A0 30 a2 a2 h4).bind fun v5 h5=>(A6 A0 .len [30] [v5] h5).bind fun v6 h6=>(loopN (D5o k call) B8 [(3,a3),(9,v3),(10,v5),(20,v6),(21,(.int .i64 0))] h6).bind fun r15 h7=>
 E2x k call r15.1 r15.2 h7
theorem G5k(k:Nat)(a0 a1 a2 a3:Value)(h:A2):R (T k) F.A8s [a0,a1,a2,a3] h=nrm .fz h (A8s k (R (T k)) a0 a1 a2 a3 h) :=G9
theorem E2p(a3 a9 a10 a20 a21:Value)(h:A2):D5o k call [(3,a3),(9,a9),(10,a10),(20,a20),(21,a21)] h =
 (A5 A0 .lss 3 a21 a20 h).bind fun v0 h0=>
 condV (some v0) (
 (A3 A0 113 a9 h0).bind fun v1 h1=>(A5 A0 .mul 3 a3 a21 h1).bind fun v2 h2=>(call F.A96 [v1,v2,a3] h2).bind fun v3 h3=>(A9 A0 30 a10 a21 h3).bind fun v4 h4=>(B4 A0 3 v4 v3 h4).bind fun _v5 h5=>(A5 A0 .add 3 a21 (.int .i64 1) h5).bind fun v6 h6=>
 .ok (.normal,[(3,a3),(9,a9),(10,a10),(20,a20),(21,v6)]) h6)
 (
 .ok ((.exit 0),[(3,a3),(9,a9),(10,a10),(20,a20),(21,a21),(22,v0)]) h0) :=
 (E2 _ _).trans (by kernel_rfl)
theorem G1l(a3 a9 a10 a20 a21 a22:Value)(h:A2):E2x k call (.exit 0) [(3,a3),(9,a9),(10,a10),(20,a20),(21,a21),(22,a22)] h =
 .ok a10 h:=by kernel_rfl
def E05(a1 a2 a5:Value)(h:A2):Res Value :=
 E4 (B3 (C k) call F.ζ6 [1,1,1]) (G2 A0 (G3 A0 F.ζ6)) .normal [(1,a1),(2,a2),(5,a5)] h
def E06(a1 a2 a5 a13:Value)(h:A2):Res Value :=
 E4 (B3 (C k) call F.ζ6 [1,1,1]) (G2 A0 (G3 A0 F.ζ6)) .normal [(1,a1),(2,a2),(5,a5),(13,a13)] h
def B8e:Env→A2→Res (D0 × Env):=M4 (C k) call F.ζ6 [1,1,1,1,0,1,0,0]
def D11:G0 Value:=D7 0 (E4 (B3 (C k) call F.ζ6 [1,1,1,1,1]) (G2 A0 (G3 A0 F.ζ6)))
def D42(a1 a2 a6 a9 a17 a18 a19:Value)(h:A2):Res (D0 × Env) :=
 E4 (B3 (C k) call F.ζ6 [1,1,1,1,0,1,0,0,1,1,0,0,1,1,1,1]) (D7 1 (E4 (B3 (C k) call F.ζ6 [1,1,1,1,0,1,0,0,1,1,1]) (M2 (Q2 (C k) F.ζ6 [1,1,1,1,0,1,0,0])))) .normal [(1,a1),(2,a2),(6,a6),(9,a9),(17,a17),(18,a18),(19,a19)] h
def ζ6(a0 a1:Value)(h:A2):Res Value :=
 (K9 a0 h).bind fun v0 h0=>(A1 A0 267 v0 2 h0).bind fun v1 h1=>(A3 A0 3 v1 h1).bind fun v2 h2=>(A5 A0 .add 3 (.int .i64 4) v2 h2).bind fun v3 h3=>
 condV (some a1) (
 E05 k call a1 v0 (.int .i64 6) h3)
 (
 E06 k call a1 v0 v3 a1 h3)
theorem E9o(k:Nat)(a0 a1:Value)(h:A2):R (T k) F.ζ6 [a0,a1] h=nrm .fz h (ζ6 k (R (T k)) a0 a1 h) :=G9
theorem E9d(a1 a2 a5:Value)(h:A2):E05 k call a1 a2 a5 h =
 (A1 A0 267 a2 0 h).bind fun v0 h0=>(A3 A0 113 v0 h0).bind fun v1 h1=>(call F.A3i [v1,(.int .i64 2),a5,(.int .i64 2)] h1).bind fun v2 h2=>(A6 A0 .len [287] [v2] h2).bind fun v3 h3=>(loopN (B8e k call) B8 [(1,a1),(2,a2),(6,(.slice none 0 0)),(17,v2),(18,v3),(19,(.int .i64 0))] h3).bind fun r17 h4=>
 D11 k call r17.1 r17.2 h4:=by kernel_rfl
theorem E9e(a1 a2 a5 a13:Value)(h:A2):E06 k call a1 a2 a5 a13 h =
 (A1 A0 267 a2 0 h).bind fun v0 h0=>(A3 A0 113 v0 h0).bind fun v1 h1=>(call F.A3i [v1,(.int .i64 2),a5,(.int .i64 2)] h1).bind fun v2 h2=>(A6 A0 .len [287] [v2] h2).bind fun v3 h3=>(loopN (B8e k call) B8 [(1,a1),(2,a2),(6,(.slice none 0 0)),(17,v2),(18,v3),(19,(.int .i64 0))] h3).bind fun r27 h4=>
 D11 k call r27.1 r27.2 h4:=by kernel_rfl
theorem E02(a1 a2 a6 a17 a18 a19:Value)(h:A2):B8e k call [(1,a1),(2,a2),(6,a6),(17,a17),(18,a18),(19,a19)] h =
 (A5 A0 .lss 3 a19 a18 h).bind fun v0 h0=>
 condV (some v0) (
 (A9 A0 287 a17 a19 h0).bind fun v1 h1=>(A3 A0 113 v1 h1).bind fun v2 h2=>(D1 A0 113 h2).bind fun v3 h3=>(B4 A0 113 v3 v2 h3).bind fun _v4 h4=>(A3 A0 113 v3 h4).bindN fun v5 h5=>(call F.ζc [v5,(.int .i64 2)] h5).bindT (fun p43 h6=>(A3 A0 113 v3 h5).bindN fun v6 h7=>(D1 A0 273 h7).bindN fun v7 h8=>E6 ((A4 (A3 A0 113 v3 h4) v6 && true) && true) (.panic p43 h6)) fun v8 h9=>(A3 A0 113 v3 h9).bindN fun v9 ha=>(call F.ζc [v9,(.int .i64 0)] ha).bindT (fun p53 hb=>(D1 A0 273 ha).bindN fun va hc=>E6 ((A4 (A3 A0 113 v3 h4) v9 && true) && true) (.panic p53 hb)) fun vb hd=>(E0 A0 273 [(0,v8),(1,vb)] hd).bindN fun vc he=>(D1 A0 273 he).bindN fun vd hf=>(B4 A0 273 vd vc hf).bindN fun _ve hg=>
 E6 ((A4 (A3 A0 113 v3 h4) v9 && true) && true) (
 (A1 A0 273 vd 0 hg).bind fun vf hh=>(A3 A0 3 vf hh).bind fun vg hi=>(A1 A0 273 vd 1 hi).bind fun vh hj=>(A3 A0 3 vh hj).bind fun vi hk=>(A5 A0 .leq 3 vg vi hk).bind fun vj hl=>(call F.A37 [vj] hl).bind fun vk hm=>
 condV (some a1) (
 (A1 A0 267 a2 0 hm).bindN fun vl hn=>(A3 A0 113 vl hn).bindN fun vm ho=>(A3 A0 113 v3 ho).bindN fun vn hp=>(call F.ζc [vn,(.int .i64 4)] hp).bindT (fun p83 hq=>(A1 A0 273 vd 1 hp).bindN fun vo hr=>(A3 A0 3 vo hr).bindN fun vp hs=>(A1 A0 273 vd 0 hs).bindN fun vq ht=>(A3 A0 3 vq ht).bindN fun vr hu=>(A5 A0 .sub 3 vp vr hu).bindN fun vs hv=>(A5 A0 .add 3 vs (.int .i64 1) hv).bindN fun vt hw=>(A1 A0 267 a2 2 hw).bindN fun vu hx=>(A3 A0 3 vu hx).bindN fun vv hy=>E6 ((A4 (A3 A0 3 vo hm) vp && true) && ((A4 (A3 A0 3 vq hm) vr && true) && ((A4 (A3 A0 3 vu hm) vv && true) && true))) (.panic p83 hq)) fun vw hz=>(A1 A0 273 vd 1 hz).bindN fun vx h10=>(A3 A0 3 vx h10).bindN fun vy h11=>(A1 A0 273 vd 0 h11).bindN fun vz h12=>(A3 A0 3 vz h12).bindN fun v10 h13=>(A5 A0 .sub 3 vy v10 h13).bindN fun v11 h14=>(A5 A0 .add 3 v11 (.int .i64 1) h14).bindN fun v12 h15=>(A1 A0 267 a2 2 h15).bindN fun v13 h16=>(A3 A0 3 v13 h16).bindN fun v14 h17=>(call F.A8s [vm,vw,v12,v14] h17).bindT (fun p119 h18=>E6 ((A4 (A3 A0 113 vl hz) vm && true) && ((A4 (A3 A0 3 vx hm) vy && true) && ((A4 (A3 A0 3 vz hm) v10 && true) && ((A4 (A3 A0 3 v13 hm) v14 && true) && true)))) (.panic p119 h18)) fun v15 h19=>(A1 A0 273 vd 2 h19).bindN fun v16 h1a=>(B4 A0 30 v16 v15 h1a).bindN fun _v17 h1b=>
 E6 ((A4 (A3 A0 113 vl hz) vm && true) && ((A4 (A3 A0 3 vx hm) vy && true) && ((A4 (A3 A0 3 vz hm) v10 && true) && ((A4 (A3 A0 3 v13 hm) v14 && true) && true)))) (
 D42 k call a1 a2 a6 vd a17 a18 a19 h1b))
 (
 (A3 A0 113 v3 hm).bind fun v18 h1c=>(A1 A0 267 a2 2 h1c).bind fun v19 h1d=>(A3 A0 3 v19 h1d).bind fun v1a h1e=>(call F.A96 [v18,(.int .i64 4),v1a] h1e).bind fun v1b h1f=>(B9 A0 30 1 [(0,v1b)] h1f).bind fun v1c h1g=>(A1 A0 273 vd 2 h1g).bind fun v1d h1h=>(B4 A0 30 v1d v1c h1h).bind fun _v1e h1i=>
 D42 k call a1 a2 a6 vd a17 a18 a19 h1i)))
 (
 .ok ((.exit 0),[(1,a1),(2,a2),(6,a6),(17,a17),(18,a18),(19,a19),(20,v0)]) h0) :=
 (E2 _ _).trans (by kernel_rfl)
theorem E01(a1 a2 a6 a9 a17 a18 a19:Value)(h:A2):D42 k call a1 a2 a6 a9 a17 a18 a19 h =
 (A3 A0 273 a9 h).bind fun v0 h0=>(B9 A0 268 1 [(0,v0)] h0).bind fun v1 h1=>(A6 A0 .append [268,268] [a6,v1] h1).bind fun v2 h2=>(A5 A0 .add 3 a19 (.int .i64 1) h2).bind fun v3 h3=>
 .ok (.normal,[(1,a1),(2,a2),(6,v2),(17,a17),(18,a18),(19,v3)]) h3:=by kernel_rfl
theorem E9c(a1 a2 a6 a17 a18 a19 a20:Value)(h:A2):D11 k call (.exit 0) [(1,a1),(2,a2),(6,a6),(17,a17),(18,a18),(19,a19),(20,a20)] h =
 .ok a6 h:=by kernel_rfl
def E0b:Env→A2→Res (D0 × Env):=M4 (C k) call F.ζz [1,1,0,1,0,0]
def E09:G0 Value:=D7 0 (E4 (B3 (C k) call F.ζz [1,1,1]) (G2 A0 (G3 A0 F.ζz)))
def ζz(a0:Value)(h:A2):Res Value :=
 (K9 a0 h).bind fun v0 h0=>(A1 A0 267 v0 0 h0).bind fun v1 h1=>(A3 A0 113 v1 h1).bind fun v2 h2=>(A1 A0 267 v0 2 h2).bind fun v3 h3=>(A3 A0 3 v3 h3).bind fun v4 h4=>(A5 A0 .add 3 (.int .i64 2) v4 h4).bind fun v5 h5=>(call F.A3i [v2,(.int .i64 2),v5,(.int .i64 1)] h5).bind fun v6 h6=>(A6 A0 .len [287] [v6] h6).bind fun v7 h7=>(loopN (E0b k call) B8 [(1,v0),(3,(.slice none 0 0)),(12,v6),(13,v7),(14,(.int .i64 0))] h7).bind fun r17 h8=>
 E09 k call r17.1 r17.2 h8
theorem G07(k:Nat)(a0:Value)(h:A2):R (T k) F.ζz [a0] h=nrm .fz h (ζz k (R (T k)) a0 h) :=G9
theorem E03(a1 a3 a12 a13 a14:Value)(h:A2):E0b k call [(1,a1),(3,a3),(12,a12),(13,a13),(14,a14)] h =
 (A5 A0 .lss 3 a14 a13 h).bind fun v0 h0=>
 condV (some v0) (
 (A9 A0 287 a12 a14 h0).bind fun v1 h1=>(A3 A0 113 v1 h1).bind fun v2 h2=>(D1 A0 113 h2).bind fun v3 h3=>(B4 A0 113 v3 v2 h3).bind fun _v4 h4=>(A3 A0 113 v3 h4).bind fun v5 h5=>(call F.ζc [v5,(.int .i64 0)] h5).bind fun v6 h6=>(A3 A0 113 v3 h6).bind fun v7 h7=>(A1 A0 267 a1 2 h7).bind fun v8 h8=>(A3 A0 3 v8 h8).bind fun v9 h9=>(call F.A96 [v7,(.int .i64 2),v9] h9).bind fun va ha=>(B9 A0 30 1 [(0,va)] ha).bind fun vb hb=>(E0 A0 273 [(0,v6),(1,v6),(2,vb)] hb).bind fun vc hc=>(B9 A0 268 1 [(0,vc)] hc).bind fun vd hd=>(A6 A0 .append [268,268] [a3,vd] hd).bind fun ve he=>(A5 A0 .add 3 a14 (.int .i64 1) he).bind fun vf hf=>
 .ok (.normal,[(1,a1),(3,ve),(12,a12),(13,a13),(14,vf)]) hf)
 (
 .ok ((.exit 0),[(1,a1),(3,a3),(12,a12),(13,a13),(14,a14),(15,v0)]) h0) :=
 (E2 _ _).trans (by kernel_rfl)
theorem E9f(a1 a3 a12 a13 a14 a15:Value)(h:A2):E09 k call (.exit 0) [(1,a1),(3,a3),(12,a12),(13,a13),(14,a14),(15,a15)] h =
 .ok a3 h:=by kernel_rfl
def B2t(k:Nat)(call:A8)(a0 a1 a2:Value)(h:A2):Res Value :=
 (K9 a0 h).bind fun v0 h0=>(A1 A0 267 v0 0 h0).bindN fun v1 h1=>(A3 A0 113 v1 h1).bindN fun v2 h2=>(call F.ζc [v2,a1] h2).bindT (fun p9 h3=>(A1 A0 267 v0 0 h2).bindN fun v3 h4=>(A3 A0 113 v3 h4).bindN fun v4 h5=>(A5 A0 .add 3 a1 (.int .i64 2) h5).bindN fun v5 h6=>E6 ((A4 (A3 A0 113 v3 h0) v4 && true) && true) (.panic p9 h3)) fun v6 h7=>(A1 A0 267 v0 0 h7).bindN fun v7 h8=>(A3 A0 113 v7 h8).bindN fun v8 h9=>(A5 A0 .add 3 a1 (.int .i64 2) h9).bindN fun v9 ha=>(call F.ζc [v8,v9] ha).bindT (fun p25 hb=>E6 ((A4 (A3 A0 113 v7 h0) v8 && true) && true) (.panic p25 hb)) fun va hc=>
 E6 ((A4 (A3 A0 113 v7 h0) v8 && true) && true) (
 (A5 A0 .add 3 v6 va hc).bind fun vb hd=>(A5 A0 .leq 3 vb (.int .i64 65536) hd).bind fun vc he=>(call F.A37 [vc] he).bind fun vd hf=>(A1 A0 267 v0 0 hf).bind fun ve hg=>(A3 A0 113 ve hg).bind fun vf hh=>(A5 A0 .add 3 a1 (.int .i64 4) hh).bind fun vg hi=>(call F.A8s [vf,vg,va,a2] hi).bind fun vh hj=>(A5 A0 .eql 3 va (.int .i64 0) hj).bind fun vi hk=>
 condV (some vi) (
 .ok (.slice none 0 0) hk)
 (
 (A5 A0 .add 3 v6 va hk).bind fun vj hl=>(A5 A0 .sub 3 vj (.int .i64 1) hl).bind fun vk hm=>(E0 A0 273 [(0,v6),(1,vk),(2,vh)] hm).bind fun vl hn=>(B9 A0 268 1 [(0,vl)] hn).bind fun vm ho=>
 .ok vm ho))
theorem E9u(k:Nat)(a0 a1 a2:Value)(h:A2):R (T k) F.B2t [a0,a1,a2] h=nrm .fz h (B2t k (R (T k)) a0 a1 a2 h) :=G9
def B4z(k:Nat)(call:A8)(a0 a1:Value)(h:A2):Res Value :=
 (K9 a0 h).bind fun v0 h0=>(A1 A0 273 v0 2 h0).bind fun v1 h1=>(A3 A0 30 v1 h1).bind fun v2 h2=>(A1 A0 273 v0 0 h2).bind fun v3 h3=>(A3 A0 3 v3 h3).bind fun v4 h4=>(A5 A0 .sub 3 a1 v4 h4).bind fun v5 h5=>(A1 A0 273 v0 2 h5).bind fun v6 h6=>(A3 A0 30 v6 h6).bind fun v7 h7=>(A6 A0 .len [30] [v7] h7).bind fun v8 h8=>(A5 A0 .sub 3 v8 (.int .i64 1) h8).bind fun v9 h9=>(A6 A0 .min [3,3] [v5,v9] h9).bind fun va ha=>(A9 A0 30 v2 va ha).bind fun vb hb=>(A3 A0 3 vb hb).bind fun vc hc=>
 .ok vc hc
theorem G3l(k:Nat)(a0 a1:Value)(h:A2):R (T k) F.B4z [a0,a1] h=nrm .gc h (B4z k (R (T k)) a0 a1 h) :=G9
def A91(k:Nat)(call:A8)(a0 a1:Value)(h:A2):Res Value :=
 (K9 a0 h).bind fun v0 h0=>(K9 a1 h0).bind fun v1 h1=>(A3 A0 111 v0 h1).bind fun v2 h2=>(G8 v2 h2).bind fun v3 h3=>(A1 A0 270 v3 1 h3).bind fun v4 h4=>(A3 A0 268 v4 h4).bind fun v5 h5=>(A6 A0 .len [268] [v5] h5).bind fun v6 h6=>(call F.B0k [v6,(.func (.func F.B2v) #[] #[v0,v1])] h6).bind fun v7 h7=>(A3 A0 111 v0 h7).bindN fun v8 h8=>(G8 v8 h8).bindN fun v9 h9=>(A1 A0 270 v9 1 h9).bindN fun va ha=>(A3 A0 268 va ha).bindN fun vb hb=>(A6 A0 .len [268] [vb] hb).bindN fun vc hc=>(A5 A0 .eql 3 v7 vc hc).bindN fun vd hd=>(wV vd false (A3 A0 111 v0 hd) hd).bindN fun ve he=>(wV vd false (G8 ve he) he).bindN fun vf hf=>(wV vd false (A1 A0 270 vf 1 hf) hf).bindN fun vg hg=>(wV vd false (A3 A0 268 vg hg) hg).bindN fun vh hh=>(wV vd false (Res.ok v7 hh) hh).bindN fun vi hi=>(wV vd false (A9 A0 268 vh vi hi) hi).bindN fun vj hj=>(wV vd false (A1 A0 273 vj 0 hj) hj).bindN fun vk hk=>(wV vd false (A3 A0 3 vk hk) hk).bindN fun vl hl=>(wV vd false (A3 A0 3 v1 hl) hl).bindN fun vm hm=>(wV vd false (A5 A0 .gtr 3 vl vm hm) hm).bindN fun vn hn=>(condV (some vd) (Res.ok (.bool true) hn) (Res.ok vn hn)).bindN fun vo ho=>
 condV (some vo) (
 .ok (.tuple #[(.int .i64 0),(.bool false)]) ho)
 (
 (A3 A0 111 v0 ho).bindN fun vp hp=>(G8 vp hp).bindN fun vq hq=>(A1 A0 270 vq 1 hq).bindN fun vr hr=>(A3 A0 268 vr hr).bindN fun vs hs=>(A9 A0 268 vs v7 hs).bindN fun vt ht=>(A3 A0 273 vt ht).bindN fun vu hu=>(A3 A0 3 v1 hu).bindN fun vv hv=>(call F.B4z [vu,vv] hv).bindT (fun p67 hw=>.panic p67 hw) fun vw hx=>
 .ok (.tuple #[vw,(.bool true)]) hx)
theorem G1j(k:Nat)(a0 a1:Value)(h:A2):R (T k) F.A91 [a0,a1] h=nrm .gc h (A91 k (R (T k)) a0 a1 h) :=G9
def A96(k:Nat)(call:A8)(a0 a1 a2:Value)(h:A2):Res Value :=
 (K9 a0 h).bind fun v0 h0=>(A5 A0 .eql 3 a2 (.int .i64 1) h0).bind fun v1 h1=>
 condV (some v1) (
 (A3 A0 113 v0 h1).bind fun v2 h2=>(call F.B37 [v2,a1] h2).bind fun v3 h3=>
 .ok v3 h3)
 (
 (A5 A0 .eql 3 a2 (.int .i64 2) h1).bind fun v4 h4=>
 condV (some v4) (
 (A3 A0 113 v0 h4).bind fun v5 h5=>(call F.ζc [v5,a1] h5).bind fun v6 h6=>
 .ok v6 h6)
 (
 (A3 A0 113 v0 h4).bind fun v7 h7=>(call F.ζv [v7,a1] h7).bind fun v8 h8=>
 .ok v8 h8))
theorem G4e(k:Nat)(a0 a1 a2:Value)(h:A2):R (T k) F.A96 [a0,a1,a2] h=nrm .gc h (A96 k (R (T k)) a0 a1 a2 h) :=G9
def B2v(k:Nat)(call:A8)(a0 a1 a2:Value)(h:A2):Res Value :=
 (A3 A0 111 a1 h).bindN fun v0 h0=>(G8 v0 h0).bindN fun v1 h1=>(A1 A0 270 v1 1 h1).bindN fun v2 h2=>(A3 A0 268 v2 h2).bindN fun v3 h3=>(A9 A0 268 v3 a0 h3).bindN fun v4 h4=>(A1 A0 273 v4 1 h4).bindN fun v5 h5=>(A3 A0 3 v5 h5).bindN fun v6 h6=>(A3 A0 3 a2 h6).bindN fun v7 h7=>(A5 A0 .geq 3 v6 v7 h7).bindN fun v8 h8=>
 .ok v8 h8
theorem G06(k:Nat)(a0 a1 a2:Value)(h:A2):R (T k) F.B2v [a0,a1,a2] h=nrm .gc h (B2v k (R (T k)) a0 a1 a2 h) :=G9
end
end Go.Sw
end
section
namespace Go.Sw
open Go.RowKit
theorem D6l(k:Nat){H:A2}{v:Value}{b:List Int}(hv:Sl H 1 v B7 b)(hb:Byt b)(i z:Int)(hz:z=1∨z=2∨z=4)(hl:b.length<2 ^ 62):R (T k) F.A96 [.agg #[v],.int .i64 i,.int .i64 z] H=orF (uS b i z) (.int .i64) H:=by
 rw[G4e];have hx:Ext H (H.push ⟨[v],1,false⟩):=(Ext.refl H).push _;refine D35 ?_ fun _ _=>.int _ _;rcases hz with rfl | rfl | rfl
 ·simp -implicitDefEqProofs [A96];exact Cp.callL (D2w k (hv.up hx) hb i hl) hx fun n hn=>.ok hx rfl
 ·simp -implicitDefEqProofs [A96];exact Cp.callL (S5 k (hv.up hx) hb i hl) hx fun n hn=>.ok hx rfl
 ·simp -implicitDefEqProofs [A96];exact Cp.callL (A0z k (hv.up hx) hb i hl) hx fun n hn=>.ok hx rfl
theorem A8d:∀ n,D5 [Value.int .i64 0] n=rows N3 (List.replicate n 0)
 | 0=>rfl
 | n+1=>by
  have:=A8d n;simp only[D5,List.replicate_succ] at this ⊢;simp[rows,this]
theorem B81{r:List Int}{z n j:Nat}(hr:r.length=n*z)(hj:j<n):uS r ((z:Int)*j) z=some (num ((r.drop (z*j)).take z)):=by
 have:z*j+z≤r.length:=by
  rw[hr,← Nat.mul_succ,Nat.mul_comm];exact Nat.mul_le_mul_right _ hj
 have e1:((z:Int)*j)=((z*j:Nat):Int):=by simp
 unfold uS;rw[e1,E1,if_pos (by omega),Int.toNat_natCast,Int.toNat_natCast];rfl
theorem A82 (k:Nat) {H:A2} {v:Value} {b:List Int} (hv:Sl H 1 v B7 b) (hb:Byt b) (i n z:Int) (hz:z=1∨z=2∨z=4) (hl:b.length<2 ^ 31):R (T k) F.A8s [.agg #[v],.int .i64 i,.int .i64 n,.int .i64 z] H=orF (X0 b i n z) (lv N3) H:=by
 rw[G5k];have hx1:Ext H (H.push ⟨[v],1,false⟩):=(Ext.refl H).push _;refine A3p ?_ fun _ _=>(D3.I _).alive;simp -implicitDefEqProofs [A8s];unfold X0;refine Cp.callM (A50 k (hv.up hx1) i n z (by omega)) hx1 fun r hr=>?_;have hn:=A4d hr;have hp:=A71 hr;have hs:=A6k hv hp;have hrb:=(hb.piece hp).1;have hrl:=A72 hp;obtain⟨n,rfl⟩:=Int.eq_ofNat_of_zero_le hn.1;obtain⟨z,rfl⟩:=Int.eq_ofNat_of_zero_le hn.2.1;have hrl:r.length=n*z:=by exact_mod_cast hrl
 have hnl:n≤2 ^ 31:=by
  have h1:n*1≤n*z:=Nat.mul_le_mul_left n (by omega);have h2:(n:Int)*z≤b.length:=by omega
  have h3:n*z≤b.length:=by exact_mod_cast h2
  omega
 simp only[Int.toNat_natCast];generalize X9 1 v i.toNat ((n:Int)*z).toNat=rv at hs;have hx2:Ext H ((H.push ⟨[v],1,false⟩).push ⟨[rv],1,false⟩):=hx1.push _
 obtain ⟨x,e',H1,hr',rfl,rfl,ho,hx⟩:=K5 (body:=D5o k (R (T k))) n
  (fun j e H'=>e=[(3,.int .i64 z),(9,.pointer (some ⟨H.n+1,0,none⟩)),(10,.slice (some ⟨H.n+2,0,none⟩) n n),(20,.int .i64 n),(21,.int .i64 j)] ∧
   Own H H' 1 (.slice (some ⟨H.n+2,0,none⟩) n n) N3 (((U4 r z n).map num).take j++List.replicate (n - j) 0)∧Ext H H'∧H'.get (H.n+1)=some ⟨[rv],1,false⟩)
  (fun x e H'=>x=.exit 0∧e=[(3,.int .i64 z),(9,.pointer (some ⟨H.n+1,0,none⟩)),(10,.slice (some ⟨H.n+2,0,none⟩) n n),(20,.int .i64 n),(21,.int .i64 n),(22,.bool false)] ∧
   Own H H' 1 (.slice (some ⟨H.n+2,0,none⟩) n n) N3 ((U4 r z n).map num)∧Ext H H')
  (e0:=[(3,.int .i64 z),(9,.pointer (some ⟨H.n+1,0,none⟩)),(10,.slice (some ⟨H.n+2,0,none⟩) n n),(20,.int .i64 n),(21,.int .i64 0)])
  (H0:=((H.push ⟨[v],1,false⟩).push ⟨[rv],1,false⟩).push ⟨D5 [Value.int .i64 0] n,1,false⟩)
  ⟨rfl,.inr ⟨H.n+2,by simp,by omega,by rw[ζd _ _ _ (by simp),A8d]; simp⟩,hx2.push _,by rw[A65 _ _ _ (by simp),ζd _ _ _ (by simp)]⟩ (by omega)
  (fun j e H' hj ⟨he,ho,hx,hg⟩=>by
   subst he;have hlt:(j:Int)<n:=by omega
   have hnum:=D6l k (hs.up hx) hrb ((z:Int)*j) z hz (by omega);rw[B81 hrl hj,A3w] at hnum;have hz4:(z:Int)*j≤4*2147483648:=Int.mul_le_mul (by omega) (by omega) (by omega) (by omega);have hz0:0≤(z:Int)*j:=Int.mul_nonneg (by omega) (by omega);have hlen:((U4 r z n).map num).length=n:=by simp
   have hy:((U4 r z n).map num)[j]?=some (num ((r.drop (z*j)).take z)):=by rw[List.getElem?_map,B0i _ _ _ _ hj]; rfl
   obtain⟨b,H2,e1,h1,h2,h3,h4,h5,h6⟩:=ho.set N0 j 0 1 0 (num ((r.drop (z*j)).take z)) (.int .i64 (num ((r.drop (z*j)).take z))) (B19 _ _ hlen hj) rfl rfl (by decide) rfl;rw[E5y _ _ hlen hj _ hy] at h4;simp at e1;obtain⟨rfl,_⟩:=e1;generalize num ((r.drop (z*j)).take z)=y at hnum h3 h4;have hx':Ext H H2:=⟨by rw[h6]; exact hx.n,fun c hc hs=>by rw[h5 c (by omega)]; exact hx.2 c hc hs⟩
   refine .inl ⟨_,H2,?_,rfl,h4,hx',by rw[h5 _ (by omega)]; exact hg⟩;simp only[Nat.add_zero,Nat.mul_one] at h3;rw[E2p];simp -implicitDefEqProofs(disch:=omega) [-Q3,hlt,hg,hnum,D2a,h3])
  (fun e H' ⟨he,ho,hx,hg⟩=>by
   subst he;refine⟨.exit 0,_,H',?_,by simp,rfl,rfl,by simpa[List.take_of_length_le] using ho,hx⟩;rw[E2p];simp -implicitDefEqProofs)
 obtain⟨L,hf⟩:=ho.freeze N0 (B90 _) 6;simp -implicitDefEqProofs(disch:=omega) [A9x,hr',G1l];exact .ok hx ⟨L,hf⟩
abbrev V6(p:Pt):List Value:=[.int .i64 p.first,.int .i64 p.last,lv N3 p.vals]
theorem B5h(p:Pt):(V6 p).length=3:=rfl
theorem G6t(l:List Pt):∀ p,p ∈ l→A1p (V6 p):=fun _ _=>.cons (.int _ _) (.cons (.int _ _) (.cons (D3.I _) .nil))
theorem D3.Pts(l:List Pt):D3 (Go.Sw.lv V6 l):=.lv (G6t l)
theorem E40(l:List Pt):∀ p,p ∈ l→∀ v,v ∈ V6 p→A2a v:=fun p _ v hv=>by
 simp[V6] at hv;rcases hv with rfl | rfl | rfl <;> trivial
theorem A4l{H:A2}{v:Value}{b:List Int}(hv:Sl H 1 v B7 b):Go.Sw.veq v v=true:=hv.veq fun n _ u hu=>by simp at hu; subst hu; simp
theorem E4j(k:Nat){H:A2}{v:Value}{b:List Int}(hv:Sl H 1 v B7 b)(hb:Byt b)(g z0:Value)(i z:Int)(hz:z=1∨z=2∨z=4)(hl:b.length<2 ^ 31)(hi:0≤i∧i≤4) :
  R (T k) F.B2t [.agg #[v,g,z0],.int .i64 i,.int .i64 z] H=orF (A44 b i z) (lv V6) H:=by
 rw[E9u];have hx:Ext H (H.push ⟨[v,g,z0],1,false⟩):=(Ext.refl H).push _;have hq:=A4l hv;have hqa:veq (.agg #[v]) (.agg #[v])=true:=U7 (l:=[v]) fun u hu=>by simp at hu; subst hu; exact hq
 refine A3p ?_ fun _ _=>(D3.Pts _).alive;simp -implicitDefEqProofs [B2t];unfold A44;refine Cp.callT (S5 k (hv.up hx) hb i (by omega)) (fun _=>⟨_,by simp -implicitDefEqProofs(disch:=omega) [hqa],hx⟩) fun f hf=>?_;have hf:=K8 hb hf;simp -implicitDefEqProofs(disch:=omega);refine Cp.callT (S5 k (hv.up hx) hb (i+2) (by omega)) (fun _=>⟨_,by simp -implicitDefEqProofs(disch:=omega) [hqa],hx⟩) fun n hn=>?_;have hn:=K8 hb hn;simp -implicitDefEqProofs(disch:=omega) [hqa];refine Cp.need hx fun hfn=>?_;simp -implicitDefEqProofs(disch:=omega);refine Cp.callM (A82 k (hv.up hx) hb (i+4) n z hz hl) hx fun vs hvs=>?_;by_cases h0:n=0
 ·subst h0;simp -implicitDefEqProofs;exact .ok hx ⟨_,rfl⟩
 ·have h0':(n == 0)=false:=by simpa using h0
  simp -implicitDefEqProofs(disch:=omega) [h0,h0'];refine .ok (hx.push _) ?_;exact Own.freeze (l:=[⟨f,f+n - 1,vs⟩]) B5h (.inr ⟨H.n+1,rfl,by omega,by rw[ζd _ _ _ (by simp)]; rfl⟩) (E40 _) 6
def B14(x:Pt × Value):List Value:=[.int .i64 x.1.first,.int .i64 x.1.last,x.2]
theorem E5v(x:Pt × Value):(B14 x).length=3:=rfl
def A2u(H0 H:A2)(x:Pt × Value):Prop:=x.2=lv N3 x.1.vals∨∃ b,x.2=.slice (some ⟨b,0,none⟩) x.1.vals.length x.1.vals.length∧H0.n≤b∧H.get b=some ⟨rows N3 x.1.vals,1,false⟩
def X4(H0 H:A2)(s:Value)(ps:List Pt):Prop:=∃ l:List (Pt × Value),l.map Prod.fst=ps∧Own H0 H 3 s B14 l∧∀ x,x ∈ l→A2u H0 H x
theorem A2u.keep{H0 H H':A2}{x:Pt × Value}(h:A2u H0 H x)(hk:∀ c k,H.get c=some k→k.esz≠3→H'.get c=some k):A2u H0 H' x:=by
 rcases h with h | ⟨b,h1,h2,h3⟩
 ·exact .inl h
 ·exact .inr ⟨b,h1,h2,hk b _ h3 (by simp)⟩
theorem A2u.fz{H0 H:A2}{x:Pt × Value}(h:A2u H0 H x)(d:Nat):∃ L,V0 (fzV H0.n H (d+2)) (B14 x)=some (V6 x.1,L):=by
 have h2:∃ L,fzV H0.n H (d+2) x.2=some (lv N3 x.1.vals,L):=by
  rcases h with h | ⟨b,h1,h2,h3⟩
  ·rw[h]; exact⟨[],rfl⟩
  ·exact Own.freeze N0 (.inr ⟨b,h1,h2,h3⟩) (B90 _) d
 obtain⟨L,hL⟩:=h2;exact⟨_,A1k (v:=.int .i64 x.1.first) (u:=.int .i64 x.1.first) (L1:=[]) rfl (A1k (v:=.int .i64 x.1.last) (u:=.int .i64 x.1.last) (L1:=[]) rfl (A1k hL (L2:=[]) rfl))⟩
theorem X4.nil(H0 H:A2):X4 H0 H (.slice none 0 0) []:=⟨[],rfl,Own.nil _ _ _,fun x h=>by simp at h⟩
theorem X4.keep{H0 H H':A2}{s:Value}{ps:List Pt}(h:X4 H0 H s ps)(hx:Ext H H'):X4 H0 H' s ps:=by
 obtain⟨l,h1,h2,h3⟩:=h;exact⟨l,h1,h2.up hx,fun x hm=>(h3 x hm).keep fun c k hc _=>hx.get hc⟩
theorem X4.push {H0 H:A2} {s:Value} {ps:List Pt} (h:X4 H0 H s ps) (hx:Ext H0 H) (p:Pt) (u:Value) (hi:A2u H0 H (p,u)) (hl:ps.length<2 ^ 31) :
  ∃ s' H',apR 3 40 s (.slice (some ⟨H.n,0,none⟩) 1 1) (H.push ⟨[.int .i64 p.first,.int .i64 p.last,u],3,false⟩)=.ok s' H'∧X4 H0 H' s' (ps++[p])∧Ext H0 H'∧∀ c k,H.get c=some k→k.esz≠3→H'.get c=some k:=by
 obtain ⟨l,h1,h2,h3⟩:=h;subst h1;obtain⟨s',H',e1,e2,e3,e4⟩:=A53 (bytes:=40) E5v (b:=.slice (some ⟨H.n,0,none⟩) 1 1) (l2:=[(p,u)]) (h2.up ((Ext.refl H).push ⟨B14 (p,u),3,false⟩)) (hx.push _) rfl (by
  unfold S4;dsimp only;rw[if_neg (by simp),B59,ζd H ⟨B14 (p,u),3,false⟩ H.n rfl];rfl) (by simp at hl ⊢; omega) (by decide)
 have hk:∀ c k,H.get c=some k→k.esz≠3→H'.get c=some k:=fun c k hc hne=>by
  have hlt:=A2.get_lt hc;rw[e4 c (by simp; omega) fun o n m hs=>?_]
  ·rw[A65 _ _ _ hlt]; exact hc
  ·rcases h2 with⟨_,h | h | h⟩ | ⟨b,h,_,hb⟩
   ·rw[h] at hs; simp at hs
   ·rw[h] at hs; simp[U8] at hs
   ·rw[h] at hs; simp[A2j] at hs
   ·rw[h] at hs;simp at hs;obtain⟨⟨rfl,_⟩,_⟩:=hs;rw[hb] at hc;injection hc with hc;subst hc;exact hne rfl
 refine⟨s',H',e1,⟨l++[(p,u)],by simp,e2,fun x hm=>?_⟩,e3,hk⟩;rcases List.mem_append.1 hm with hm | hm
 ·exact (h3 x hm).keep hk
 ·simp at hm;subst hm;exact hi.keep hk
theorem B7l(l:List (Pt × Value)):rows (fun x:Pt × Value=>V6 x.1) l=rows V6 (l.map Prod.fst):=by
 induction l with
 | nil=>rfl
 | cons x l ih=>rw[List.map_cons,A6l,A6l,ih]
theorem X4.freeze{H0 H:A2}{s:Value}{ps:List Pt}(h:X4 H0 H s ps)(d:Nat):∃ L,fzV H0.n H (d+3) s=some (lv V6 ps,L):=by
 obtain⟨l,h1,h2,h3⟩:=h;subst h1;obtain⟨L,hL⟩:=h2.freezeG (enc':=fun x:Pt × Value=>V6 x.1) E5v (d+1) fun x hm=>(h3 x hm).fz d;refine⟨L,hL.trans ?_⟩;unfold lv;rw[B7l];simp
theorem E6h {H:A2} {v:Value} {b:List Int} (hv:Sl H 1 v B7 b) {i need:Int} {keys:Nat} {rows:List (List Int)} (h:P7 b i need keys=some rows) {j:Nat} {row:List Int} (hj:rows[j]?=some row) :
  ∃ u,(A15 (A40 v b i) (A8i b i) rows.length)[j]?=some u∧Sl H 1 u B7 row:=by
 have hlt:=(List.getElem?_eq_some_iff.1 hj).1;refine⟨_,A7s _ _ _ _ hlt,?_⟩;unfold P7 at h;split at h
 ·rename_i z n h1 h2;split at h
  ·rename_i hc;obtain⟨r,hr,rfl⟩:=Option.map_eq_some_iff.1 h;have hn:=A4d hr;have hrl:(r.length:Int)=n*z:=A72 (A71 hr);have hsl:=A6k hv (A71 hr);obtain⟨z,rfl⟩:=Int.eq_ofNat_of_zero_le hn.2.1;obtain⟨n,rfl⟩:=Int.eq_ofNat_of_zero_le hn.1;have hrl:r.length=n*z:=by exact_mod_cast hrl
   have e1:A40 v b i=X9 1 v (i+10).toNat ((n:Int)*z).toNat:=by unfold A40; rw[h1,h2]; rfl
   have e2:A8i b i=z:=by unfold A8i; rw[h1]; simp
   rw [e1,e2];simp only[Int.toNat_natCast] at hj hlt;have hm:(U4 r z n)[j]?=some row:=by
    unfold N5 at hj;split at hj
    ·have hlt2:=(List.getElem?_eq_some_iff.1 hj).1;simp at hlt2;rw[B0i _ _ _ _ hlt2] at hj;rw[B0i _ _ _ _ (by omega)];exact hj
    ·exact hj
   have hlt2:=(List.getElem?_eq_some_iff.1 hm).1;simp at hlt2;rw[B0i _ _ _ _ hlt2] at hm;injection hm with hm;subst hm;exact A76 hsl z n j hrl hlt2
  ·cases h
 ·cases h
theorem G92(k:Nat){H:A2}{v:Value}{b:List Int}(hv:Sl H 1 v B7 b)(hb:Byt b)(g:Value)(z:Int)(hz:z=2∨z=4)(hl:b.length<2 ^ 31) :
  R (T k) F.ζz [.agg #[v,g,.int .i64 z]] H=orF (B4m b z) (lv V6) H:=by
 rw[G07];have hx:Ext H (H.push ⟨[v,g,.int .i64 z],1,false⟩):=(Ext.refl H).push _;refine A3p ?_ fun _ _=>(D3.Pts _).alive;simp -implicitDefEqProofs(disch:=omega) [ζz];unfold B4m;refine Cp.call (A7j k (hv.up hx) hb 2 (2+z) 1 hl (by omega) (by omega) (by omega)) hx fun rows hrows=>?_;obtain⟨zr,nr,hz1,hn1,hneed,hlen,hrow⟩:=B0l hb hrows;have hnr:=K8 hb hn1;have hzr:=K8 hb hz1;have htk:=fun H' (hx':Ext H H') j row (hj:rows[j]?=some row)=>E6h (hv.up hx') hrows hj;have hll:(A15 (A40 v b 2) (A8i b 2) rows.length).length=rows.length:=by simp
 generalize A15 (A40 v b 2) (A8i b 2) rows.length=us at htk hll;simp -implicitDefEqProofs(disch:=omega) [hll]
 refine Cp.bindL (Cp.mapLoop (B4l z) rows
  (fun i acc e H'=>∃ s,e=[(1,.pointer (some ⟨H.n,0,none⟩)),(3,s),(12,lv A3m us),(13,.int .i64 rows.length),(14,.int .i64 i)]∧X4 H H' s acc∧H'.get H.n=some ⟨[v,g,.int .i64 z],1,false⟩)
  (fun acc x e H'=>x=.exit 0∧∃ s,e=[(1,.pointer (some ⟨H.n,0,none⟩)),(3,s),(12,lv A3m us),(13,.int .i64 rows.length),(14,.int .i64 rows.length),(15,.bool false)]∧X4 H H' s acc)
  (by omega) hx ⟨_,rfl,X4.nil _ _,ζd _ _ _ rfl⟩ ?_ ?_) ?_
 ·intro i row acc e H' hi ha hx' ⟨s,he,ho,hg⟩;subst he;have hilt:=(List.getElem?_eq_some_iff.1 hi).1;have hlt:(i:Int)<rows.length:=by omega
  obtain⟨u,hu,hsu⟩:=htk H' hx' i row hi;have hrb:=hrow row (List.mem_of_getElem? hi);have hgn:H.n<H'.n:=A2.get_lt hg;have hne:¬ H.n=H'.n:=by omega
  have hx1:Ext H' (H'.push ⟨[u],1,false⟩):=(Ext.refl H').push _;have hst:=hsu.storable;have hce:=hsu.cells;rw[E03];simp -implicitDefEqProofs(disch:=omega) [hlt,S0 A1v us .i64 i u hu];unfold B4l;refine Cp.call (S5 k (hsu.up hx1) hrb.1 0 (by omega)) (hx'.trans hx1) fun id hid=>?_;simp -implicitDefEqProofs(disch:=omega) [hg,hne];refine Cp.callM (D6l k (hsu.up hx1) hrb.1 2 z (by omega) (by omega)) (hx'.trans hx1) fun n hn=>?_;have hx2:Ext H' ((H'.push ⟨[u],1,false⟩).push ⟨[.int .i64 n],1,false⟩):=hx1.push _;obtain⟨s',H2,e1,e2,e3,e4⟩:=(ho.keep hx2).push (hx'.trans hx2) ⟨id,id,[n]⟩ (.slice (some ⟨H'.n+1,0,none⟩) 1 1) (.inr ⟨H'.n+1,rfl,by omega,by rw[ζd _ _ _ (by simp)]; rfl⟩) (by omega);simp at e1;simp -implicitDefEqProofs(disch:=omega) [e1];exact .ok e3 ⟨rfl,s',rfl,e2,e4 _ _ (hx2.get hg) (by simp)⟩
 ·intro acc e H' ha hx' ⟨s,he,ho,_⟩;subst he;refine⟨.exit 0,_,H',?_,by simp,hx',rfl,s,rfl,ho⟩;rw[E03];simp -implicitDefEqProofs
 ·rintro acc ⟨x,e⟩ H' _ hx' ⟨rfl,s,rfl,ho⟩;simp only[E9f];exact .ok hx' (ho.freeze 5)
set_option maxHeartbeats 1000000 in
theorem B7p (k:Nat) {H H':A2} {v:Value} {b:List Int} (hv:Sl H 1 v B7 b) (hb:Byt b) (g:Value) (z:Int) (hz:z=2∨z=4) (each:Bool) (hl:b.length<2 ^ 31)
  (us:List Value) (n i:Nat) (row:List Int) (u:Value) (acc:List Pt) (s:Value) (hi:i<n) (hn31:n<2 ^ 31) (hu:us[i]?=some u) (hn:acc.length<2 ^ 31) (ho:X4 H H' s acc) (hx':Ext H H') (hg:H'.get H.n=some ⟨[v,g,.int .i64 z],1,false⟩)
  (hsu:Sl H' 1 u B7 row) (hrb:Byt row) (hrl:row.length<65536) (hr4:each=false→4+z≤row.length) :
  Cp K7 (Ext H) (B8e k (R (T k)) [(1,.bool each),(2,.pointer (some ⟨H.n,0,none⟩)),(6,s),(17,lv A3m us),(18,.int .i64 n),(19,.int .i64 i)] H') (A8z b z each row)
   fun y xe H'=>xe.1=.normal∧∃ s,xe.2=[(1,.bool each),(2,.pointer (some ⟨H.n,0,none⟩)),(6,s),(17,lv A3m us),(18,.int .i64 n),(19,.int .i64 (i+1:Nat))]∧X4 H H' s (acc++[y])∧H'.get H.n=some ⟨[v,g,.int .i64 z],1,false⟩:=by
 have hlt:(i:Int)<n:=by omega
 have hqv:=A4l hv;have hgn:H.n<H'.n:=A2.get_lt hg;have hne:¬ H.n=H'.n:=by omega
 have hne1:¬ H.n=H'.n+1:=by omega
 have hx1:Ext H' (H'.push ⟨[u],1,false⟩):=(Ext.refl H').push _;have hst:=hsu.storable;have hce:=hsu.cells;have hqu:=A4l hsu;have hqa:veq (.agg #[u]) (.agg #[u])=true:=U7 (l:=[u]) fun w hw=>by simp at hw; subst hw; exact hqu
 have hqb:veq (.agg #[v]) (.agg #[v])=true:=U7 (l:=[v]) fun w hw=>by simp at hw; subst hw; exact hqv
 rw[E02];simp -implicitDefEqProofs(disch:=omega) [hlt,S0 A1v us .i64 i u hu];unfold A8z;refine Cp.callT (S5 k (hsu.up hx1) hrb 2 (by omega)) (fun _=>⟨_,by simp -implicitDefEqProofs(disch:=omega) [hqa],hx'.trans hx1⟩) fun f hf=>?_;have hf:=K8 hrb hf;simp -implicitDefEqProofs(disch:=omega);refine Cp.callT (S5 k (hsu.up hx1) hrb 0 (by omega)) (fun _=>⟨_,by simp -implicitDefEqProofs(disch:=omega) [hqa],hx'.trans hx1⟩) fun l hl'=>?_;have hl':=K8 hrb hl';simp -implicitDefEqProofs(disch:=omega) [hqa];have hx2:Ext H' ((H'.push ⟨[u],1,false⟩).push ⟨[.int .i64 f,.int .i64 l,.slice none 0 0],1,false⟩):=hx1.push _;refine Cp.need (hx'.trans hx2) fun hfl=>?_;cases each with
 | true=>
  simp -implicitDefEqProofs(disch:=omega) [hg,hne,hne1];refine Cp.callT (S5 k (hsu.up hx2) hrb 4 (by omega)) (fun _=>⟨_,by simp -implicitDefEqProofs(disch:=omega) [hg,hne,hne1],hx'.trans hx2⟩) fun at4 hat=>?_;have hat:=K8 hrb hat;simp -implicitDefEqProofs(disch:=omega) [hg,hne,hne1];refine Cp.callTM (A82 k (hv.up (hx'.trans hx2)) hb at4 (l - f+1) z (by omega) hl) (fun _=>⟨_,by simp -implicitDefEqProofs(disch:=omega) [hqb,hg,hne,hne1],hx'.trans hx2⟩) fun vs hvs=>?_;have hx3:Ext H' ((H'.push ⟨[u],1,false⟩).push ⟨[.int .i64 f,.int .i64 l,lv N3 vs],1,false⟩):=hx1.push _;obtain⟨s',H2,e1,e2,e3,e4⟩:=(ho.keep hx3).push (hx'.trans hx3) ⟨f,l,vs⟩ (lv N3 vs) (.inl rfl) (by omega);simp at e1;simp -implicitDefEqProofs(disch:=omega) [hqb,hg,hne,hne1,E01,e1];exact .ok e3 ⟨rfl,s',rfl,e2,e4 _ _ (hx3.get hg) (by simp)⟩
 | false=>
  simp -implicitDefEqProofs(disch:=omega) [hg,hne,hne1];refine Cp.callM (D6l k (hsu.up hx2) hrb 4 z (by omega) (by omega)) (hx'.trans hx2) fun n hn=>?_;have hx3:Ext H' (((H'.push ⟨[u],1,false⟩).push ⟨[.int .i64 f,.int .i64 l,.slice (some ⟨H'.n+2,0,none⟩) 1 1],1,false⟩).push ⟨[.int .i64 n],1,false⟩):=(hx1.push _).push _;obtain⟨s',H2,e1,e2,e3,e4⟩:=(ho.keep hx3).push (hx'.trans hx3) ⟨f,l,[n]⟩ (.slice (some ⟨H'.n+2,0,none⟩) 1 1) (.inr ⟨H'.n+2,rfl,by omega,by rw[ζd _ _ _ (by simp)]; rfl⟩) (by omega);simp at e1;simp -implicitDefEqProofs(disch:=omega) [E01,e1];exact .ok e3 ⟨rfl,s',rfl,e2,e4 _ _ (hx3.get hg) (by simp)⟩
theorem E3r (k:Nat) {H:A2} {v:Value} {b:List Int} (hv:Sl H 1 v B7 b) (hb:Byt b) (g:Value) (z:Int) (hz:z=2∨z=4) (each:Bool) (hl:b.length<2 ^ 31) :
  R (T k) F.ζ6 [.agg #[v,g,.int .i64 z],.bool each] H=orF (B1n b z each) (lv V6) H:=by
 rw[E9o];have hx:Ext H (H.push ⟨[v,g,.int .i64 z],1,false⟩):=(Ext.refl H).push _;have hqv:=A4l hv;refine A3p ?_ fun _ _=>(D3.Pts _).alive;unfold B1n;obtain⟨need,hneed⟩:∃ need:Int,need=if each then 6 else 4+z:=⟨_,rfl⟩
 have hnd:6≤need:=by rw[hneed]; split <;> omega
 have hnd2:each=false→need=4+z:=fun h=>by rw[hneed,h]; rfl
 rw[← hneed]
 have main:∀ rows,P7 b 2 need 2=some rows →
   Cp K7 (Ext H) ((loopN (B8e k (R (T k))) B8 [(1,.bool each),(2,.pointer (some ⟨H.n,0,none⟩)),(6,.slice none 0 0),(17,lv A3m (A15 (A40 v b 2) (A8i b 2) rows.length)),(18,.int .i64 rows.length),(19,.int .i64 0)] (H.push ⟨[v,g,.int .i64 z],1,false⟩)).bind fun r h=>D11 k (R (T k)) r.1 r.2 h)
    (M6 (A8z b z each) rows) fun b v H'=>∃ L,fzV H.n H' N9 v=some (lv V6 b,L):=by
  intro rows hrows;obtain⟨zr,nr,hz1,hn1,hneed,hlen,hrow⟩:=B0l hb hrows;have hnr:=K8 hb hn1;have hzr:=K8 hb hz1;have htk:=fun H' (hx':Ext H H') j row (hj:rows[j]?=some row)=>E6h (hv.up hx') hrows hj;have hll:(A15 (A40 v b 2) (A8i b 2) rows.length).length=rows.length:=by simp
  generalize A15 (A40 v b 2) (A8i b 2) rows.length=us at htk hll
  refine Cp.bindL (Cp.mapLoop (A8z b z each) rows
   (fun i acc e H'=>∃ s,e=[(1,.bool each),(2,.pointer (some ⟨H.n,0,none⟩)),(6,s),(17,lv A3m us),(18,.int .i64 rows.length),(19,.int .i64 i)]∧X4 H H' s acc∧H'.get H.n=some ⟨[v,g,.int .i64 z],1,false⟩)
   (fun acc x e H'=>x=.exit 0∧∃ s,e=[(1,.bool each),(2,.pointer (some ⟨H.n,0,none⟩)),(6,s),(17,lv A3m us),(18,.int .i64 rows.length),(19,.int .i64 rows.length),(20,.bool false)]∧X4 H H' s acc)
   (by omega) hx ⟨_,rfl,X4.nil _ _,ζd _ _ _ rfl⟩ ?_ ?_) ?_
  ·intro i row acc e H' hi ha hx' ⟨s,he,ho,hg⟩;subst he;have hilt:=(List.getElem?_eq_some_iff.1 hi).1;obtain⟨u,hu,hsu⟩:=htk H' hx' i row hi;have hrb:=hrow row (List.mem_of_getElem? hi);exact B7p k hv hb g z hz each hl us rows.length i row u acc s hilt (by omega) hu (by omega) ho hx' hg hsu hrb.1 (by omega) (fun h=>by have:=hnd2 h; omega)
  ·intro acc e H' ha hx' ⟨s,he,ho,_⟩;subst he;refine⟨.exit 0,_,H',?_,by simp,hx',rfl,s,rfl,ho⟩;rw[E02];simp -implicitDefEqProofs
  ·rintro acc ⟨x,e⟩ H' _ hx' ⟨rfl,s,rfl,ho⟩;simp only[E9c];exact .ok hx' (ho.freeze 5)
 cases each with
 | true=>
  simp -implicitDefEqProofs(disch:=omega) [ζ6,E9d];have:need=6:=hneed;subst this;refine Cp.call (A7j k (hv.up hx) hb 2 6 2 hl (by omega) (by omega) (by omega)) hx fun rows hrows=>?_;have:=main rows hrows;simp -implicitDefEqProofs(disch:=omega);simpa using this
 | false=>
  simp -implicitDefEqProofs(disch:=omega) [ζ6,E9e];have:=hnd2 rfl;subst this;refine Cp.call (A7j k (hv.up hx) hb 2 (4+z) 2 hl (by omega) (by omega) (by omega)) hx fun rows hrows=>?_;have:=main rows hrows;simp -implicitDefEqProofs(disch:=omega);simpa using this
end Go.Sw
end
