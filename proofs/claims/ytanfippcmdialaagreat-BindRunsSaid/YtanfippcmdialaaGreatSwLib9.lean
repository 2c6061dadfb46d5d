/-
  A speaking function, run by itself, answers true.
-/
import Derived.Test.YtanfippcmdialaaGreatSwLib8
import Derived.Test.YtanfippcmdialaaGreatSwLib6
section
namespace Go.Sw
open Go.RowKit
@[simp] theorem ne_2(n:Nat):(n=n+1+1)=False:=eq_false (by omega)
@[simp] theorem ne_3(n:Nat):(n=n+1+1+1)=False:=eq_false (by omega)
@[simp] theorem ne_4(n:Nat):(n=n+1+1+1+1)=False:=eq_false (by omega)
@[simp] theorem ne_5(n:Nat):(n=n+1+1+1+1+1)=False:=eq_false (by omega)
@[simp] theorem ne_2'(n:Nat):(n+1+1=n)=False:=eq_false (by omega)
@[simp] theorem ne_3'(n:Nat):(n+1+1+1=n)=False:=eq_false (by omega)
@[simp] theorem ne_4'(n:Nat):(n+1+1+1+1=n)=False:=eq_false (by omega)
section
variable {α β γ δ:Type} {fv:Value} {E:A2→Prop}
def Cp(fv:Value)(E:A2→Prop)(r:Res α)(o:Option β)(Q:β→α→A2→Prop):Prop :=
 match o with
 | some b=>∃ a H,r=.ok a H∧E H∧Q b a H
 | none=>∃ H,r=.panic fv H∧E H
theorem Cp.ok{a:α}{b:β}{H:A2}{Q:β→α→A2→Prop}(hE:E H)(hq:Q b a H):Cp fv E (.ok a H) (some b) Q:=⟨a,H,rfl,hE,hq⟩
theorem Cp.throw{H:A2}{Q:β→α→A2→Prop}(hE:E H):Cp fv E (.panic fv H:Res α) none Q:=⟨H,rfl,hE⟩
theorem Cp.of{r r':Res α}{o o':Option β}{Q:β→α→A2→Prop}(h:Cp fv E r' o' Q)(hr:r=r')(ho:o=o'):Cp fv E r o Q:=by subst hr ho; exact h
theorem Cp.mono{r:Res α}{o:Option β}{E':A2→Prop}{Q Q':β→α→A2→Prop}(h:Cp fv E r o Q)(hE:∀ H,E H→E' H)(hq:∀ b a H,o=some b→E H→Q b a H→Q' b a H):Cp fv E' r o Q':=by
 cases o with
 | none=>obtain⟨H,h1,h2⟩:=h; exact⟨H,h1,hE _ h2⟩
 | some b=>obtain⟨a,H,h1,h2,h3⟩:=h; exact⟨a,H,h1,hE _ h2,hq b a H rfl h2 h3⟩
theorem Cp.bind{r:Res α}{o:Option β}{Q1:β→α→A2→Prop}{K:α→A2→Res γ}{g:β→Option δ}{Q:δ→γ→A2→Prop}
  (h:Cp fv E r o Q1) (hk:∀ b a H,o=some b→E H→Q1 b a H→Cp fv E (K a H) (g b) Q):Cp fv E (r.bind K) (o.bind g) Q:=by
 cases o with
 | none=>obtain⟨H,rfl,hE⟩:=h; exact⟨H,rfl,hE⟩
 | some b=>obtain⟨a,H,rfl,hE,hq⟩:=h; exact hk b a H rfl hE hq
theorem Cp.bindM{r:Res α}{o:Option β}{Q1:β→α→A2→Prop}{K:α→A2→Res γ}{g:β→δ}{Q:δ→γ→A2→Prop}
  (h:Cp fv E r o Q1) (hk:∀ b a H,o=some b→E H→Q1 b a H→Cp fv E (K a H) (some (g b)) Q):Cp fv E (r.bind K) (o.map g) Q:=by
 cases o with
 | none=>obtain⟨H,rfl,hE⟩:=h; exact⟨H,rfl,hE⟩
 | some b=>obtain⟨a,H,rfl,hE,hq⟩:=h; exact hk b a H rfl hE hq
theorem Cp.bindL{r:Res α}{o:Option β}{Q1:β→α→A2→Prop}{K:α→A2→Res γ}{Q:β→γ→A2→Prop}
  (h:Cp fv E r o Q1) (hk:∀ b a H,o=some b→E H→Q1 b a H→Cp fv E (K a H) (some b) Q):Cp fv E (r.bind K) o Q:=by
 cases o with
 | none=>obtain⟨H,rfl,hE⟩:=h; exact⟨H,rfl,hE⟩
 | some b=>obtain⟨a,H,rfl,hE,hq⟩:=h; exact hk b a H rfl hE hq
theorem Cp.bindT{r:Res α}{o:Option β}{Q1:β→α→A2→Prop}{G:Value→A2→Res γ}{K:α→A2→Res γ}{g:β→Option δ}{Q:δ→γ→A2→Prop}
  (h:Cp fv E r o Q1) (hp:∀ H,o=none→E H→Cp fv E (G fv H) (none:Option δ) Q) (hk:∀ b a H,o=some b→E H→Q1 b a H→Cp fv E (K a H) (g b) Q):Cp fv E (r.bindT G K) (o.bind g) Q:=by
 cases o with
 | none=>obtain⟨H,rfl,hE⟩:=h; exact hp H rfl hE
 | some b=>obtain⟨a,H,rfl,hE,hq⟩:=h; exact hk b a H rfl hE hq
theorem Cp.bindTM{r:Res α}{o:Option β}{Q1:β→α→A2→Prop}{G:Value→A2→Res γ}{K:α→A2→Res γ}{g:β→δ}{Q:δ→γ→A2→Prop}
  (h:Cp fv E r o Q1) (hp:∀ H,o=none→E H→Cp fv E (G fv H) (none:Option δ) Q) (hk:∀ b a H,o=some b→E H→Q1 b a H→Cp fv E (K a H) (some (g b)) Q):Cp fv E (r.bindT G K) (o.map g) Q:=by
 cases o with
 | none=>obtain⟨H,rfl,hE⟩:=h; exact hp H rfl hE
 | some b=>obtain⟨a,H,rfl,hE,hq⟩:=h; exact hk b a H rfl hE hq
theorem J0h{H:A2}{r:Res Value}{o:Option β}{f:β→Value}(h:Cp fv (Ext H) r o fun b v _=>v=f b)(ha:∀ b,o=some b→L6 H (f b))(hf:L6 H fv) :
  nrm .gc H r=match o with | some b=>.ok (f b) H | none=>.panic fv H:=by
 cases o with
 | none=>obtain⟨H',h1,h2⟩:=h; exact A0p ⟨H',h1,h2⟩ hf
 | some b=>obtain⟨v,H',h1,h2,rfl⟩:=h; exact D8 ⟨H',h1,h2⟩ (ha b rfl)
theorem J0g{H:A2}{r:Res Value}{o:Option β}{f:β→Value}(h:Cp fv (Ext H) r o fun b v H'=>∃ L,fzV H.n H' N9 v=some (f b,L))(ha:∀ b,o=some b→L6 H (f b))(hf:L6 H fv) :
  nrm .fz H r=match o with | some b=>.ok (f b) H | none=>.panic fv H:=by
 cases o with
 | none=>obtain⟨H',h1,h2⟩:=h; exact A0p ⟨H',h1,h2⟩ hf
 | some b=>obtain⟨v,H',h1,h2,L,h3⟩:=h; exact G7 h1 h3 h2 (ha b rfl)
end
theorem A9x(size bytes:Nat)(z:List Value)(k k':IntKind)(n:Nat)(h:A2)(hn:n≤2 ^ 31)(hb:bytes≤2 ^ 10) :
  mkR size bytes z (.int k n) (.int k' n) h=.ok (.slice (some ⟨h.n,0,none⟩) n n) (h.push ⟨D5 z n,size,false⟩):=by
 unfold mkR;dsimp only;rw[if_pos ⟨by omega,rfl,by omega,hb⟩,Int.toNat_natCast]
theorem D2a(m b off n c:Nat)(k:IntKind)(i:Nat)(H:A2)(hi:i<n):ixS m (.slice (some ⟨b,off,none⟩) n c) (.int k (i:Nat)) H=.ok (.pointer (some ⟨b,off+i*m,none⟩)) H:=by
 unfold ixS;dsimp only;rw[if_pos ⟨by omega,by omega⟩,Int.toNat_natCast]
theorem B19{α:Type}(l:List α)(d:α){n j:Nat}(hl:l.length=n)(hj:j<n):(l.take j++List.replicate (n - j) d)[j]?=some d:=by
 rw[List.getElem?_append_right (by simp; omega),List.getElem?_replicate,if_pos (by simp; omega)]
theorem E5y {α:Type} (l:List α) (d:α) {n j:Nat} (hl:l.length=n) (hj:j<n) (y:α) (hy:l[j]?=some y):(l.take j++List.replicate (n - j) d).set j y=l.take (j+1)++List.replicate (n - (j+1)) d:=by
 apply List.ext_getElem?;intro i;by_cases hi:i=j
 ·subst hi;rw[List.getElem?_set_self (by simp; omega),List.getElem?_append_left (by simp; omega),List.getElem?_take,if_pos (by omega),hy]
 ·rw [List.getElem?_set_ne (by omega)];by_cases h2:i<j
  ·rw[List.getElem?_append_left (by simp; omega),List.getElem?_append_left (by simp; omega),List.getElem?_take,List.getElem?_take,if_pos h2,if_pos (by omega)]
  ·rw[List.getElem?_append_right (by simp; omega),List.getElem?_append_right (by simp; omega),List.getElem?_replicate,List.getElem?_replicate];have e1:(l.take j).length=j:=by simp; omega
   have e2:(l.take (j+1)).length=j+1:=by simp; omega
   rw[e1,e2];by_cases h3:i<n
   ·rw[if_pos (by omega),if_pos (by omega)]
   ·rw[if_neg (by omega),if_neg (by omega)]
inductive St (σ ρ:Type) where
 | next (s:σ)
 | done (r:ρ)
def St.k{σ ρ:Type}(K:σ→Option (St σ ρ)):St σ ρ→Option (St σ ρ)
 | .next s=>K s
 | .done r=>some (.done r)
def B3z{σ ρ:Type}(f:Nat→σ→Option (St σ ρ)):Nat→Nat→σ→Option (St σ ρ)
 | _,0,s=>some (.next s)
 | i,n+1,s=>(f i s).bind (St.k (B3z f (i+1) n))
section
variable {σ ρ:Type} {fv:Value} {E:A2→Prop}
def D2j(Inv:σ→Env→A2→Prop)(Qd:ρ→D0→Env→A2→Prop)(st:St σ ρ)(xe:D0 × Env)(H:A2):Prop :=
 match st with
 | .next s=>xe.1=.normal∧Inv s xe.2 H
 | .done r=>xe.1≠.normal∧Qd r xe.1 xe.2 H
def D7e(Qn:σ→D0→Env→A2→Prop)(Qd:ρ→D0→Env→A2→Prop)(st:St σ ρ)(xe:D0 × Env)(H:A2):Prop :=
 match st with
 | .next s=>Qn s xe.1 xe.2 H
 | .done r=>Qd r xe.1 xe.2 H
theorem Cp.loopF {body:Env→A2→Res (D0 × Env)} (N:Nat) (f:Nat→σ→Option (St σ ρ)) (Inv:Nat→σ→Env→A2→Prop) (Qn:σ→D0→Env→A2→Prop) (Qd:ρ→D0→Env→A2→Prop)
  (step:∀ i s e H,i<N→E H→Inv i s e H→Cp fv E (body e H) (f i s) (D2j (Inv (i+1)) Qd))
  (stop:∀ s e H,E H→Inv N s e H→∃ x e' H',body e H=.ok (x,e') H'∧x≠.normal∧E H'∧Qn s x e' H') :
  ∀ (fuel n i:Nat) (s:σ) (e:Env) (H:A2),i+n=N→n<fuel→E H→Inv i s e H→Cp fv E (loopN body fuel e H) (B3z f i n s) (D7e Qn Qd)
 | 0,n,i,s,e,H,_,hf,_,_=>by omega
 | fuel+1,0,i,s,e,H,hi,hf,hE,hinv=>by
  have:i=N:=by omega
  subst this;obtain⟨x,e',H',h1,h2,h3,h4⟩:=stop s e H hE hinv;refine⟨(x,e'),H',?_,h3,h4⟩;cases x with
  | normal=>exact absurd rfl h2
  | exit j=>simp only[loopN,h1,Res.bind]
  | ret=>simp only[loopN,h1,Res.bind]
 | fuel+1,n+1,i,s,e,H,hi,hf,hE,hinv=>by
  simp only[loopN,B3z];refine Cp.bind (step i s e H (by omega) hE hinv) fun st xe H' _ hE' hr=>?_;obtain⟨x,e'⟩:=xe;cases st with
  | next s'=>
   obtain⟨h1,h2⟩:=hr;subst h1;exact Cp.loopF N f Inv Qn Qd step stop fuel n (i+1) s' e' H' (by omega) (by omega) hE' h2
  | done r=>
   obtain⟨h1,h2⟩:=hr;refine⟨(x,e'),H',?_,hE',h2⟩;cases x with
   | normal=>exact absurd rfl h1
   | exit j=>rfl
   | ret=>rfl
theorem Cp.loop{body:Env→A2→Res (D0 × Env)}(N:Nat)(f:Nat→σ→Option (St σ ρ))(Inv:Nat→σ→Env→A2→Prop)(Qn:σ→D0→Env→A2→Prop)(Qd:ρ→D0→Env→A2→Prop){s0:σ}{e0:Env}{H0:A2}
  (hN:N<2 ^ 63) (hE:E H0) (h0:Inv 0 s0 e0 H0)
  (step:∀ i s e H,i<N→E H→Inv i s e H→Cp fv E (body e H) (f i s) (D2j (Inv (i+1)) Qd))
  (stop:∀ s e H,E H→Inv N s e H→∃ x e' H',body e H=.ok (x,e') H'∧x≠.normal∧E H'∧Qn s x e' H') :
  Cp fv E (loopN body B8 e0 H0) (B3z f 0 N s0) (D7e Qn Qd) :=
 Cp.loopF N f Inv Qn Qd step stop B8 N 0 s0 e0 H0 (by omega) (by unfold B8; omega) hE h0
def M6{α β:Type}(f:α→Option β):List α→Option (List β)
 | []=>some []
 | x :: l=>(f x).bind fun y=>(M6 f l).map (y :: ·)
theorem Cp.mapLoopF {α β:Type} {body:Env→A2→Res (D0 × Env)} (F:α→Option β) (l:List α) (Inv:Nat→List β→Env→A2→Prop) (Qn:List β→D0→Env→A2→Prop)
  (step:∀ i x acc e H,l[i]?=some x→acc.length=i→E H→Inv i acc e H→Cp fv E (body e H) (F x) fun y xe H'=>xe.1=.normal∧Inv (i+1) (acc++[y]) xe.2 H')
  (stop:∀ acc e H,acc.length=l.length→E H→Inv l.length acc e H→∃ x e' H',body e H=.ok (x,e') H'∧x≠.normal∧E H'∧Qn acc x e' H') :
  ∀ (fuel n i:Nat) (acc:List β) (e:Env) (H:A2),i+n=l.length→n<fuel→acc.length=i→E H→Inv i acc e H →
   Cp fv E (loopN body fuel e H) ((M6 F (l.drop i)).map (acc ++ ·)) (fun r xe H=>Qn r xe.1 xe.2 H)
 | 0,n,i,acc,e,H,_,hf,_,_,_=>by omega
 | fuel+1,0,i,acc,e,H,hi,hf,ha,hE,hinv=>by
  have:i=l.length:=by omega
  subst this;obtain⟨x,e',H',h1,h2,h3,h4⟩:=stop acc e H ha hE hinv;have hd:l.drop l.length=[]:=List.drop_length;rw[hd];simp only[M6,Option.map_some,List.append_nil];refine⟨(x,e'),H',?_,h3,h4⟩;cases x with
  | normal=>exact absurd rfl h2
  | exit j=>simp only[loopN,h1,Res.bind]
  | ret=>simp only[loopN,h1,Res.bind]
 | fuel+1,n+1,i,acc,e,H,hi,hf,ha,hE,hinv=>by
  have hlt:i<l.length:=by omega
  have hg:l[i]?=some l[i]:=List.getElem?_eq_getElem hlt;rw[List.drop_eq_getElem_cons hlt];simp only[loopN,M6];have e1:((F l[i]).bind fun y=>(M6 F (l.drop (i+1))).map (y :: ·)).map (acc ++ ·)=(F l[i]).bind fun y=>(M6 F (l.drop (i+1))).map ((acc++[y]) ++ ·):=by
   cases F l[i] with
   | none=>rfl
   | some y=>cases M6 F (l.drop (i+1)) <;> simp
  rw[e1];refine Cp.bind (step i _ acc e H hg ha hE hinv) fun y xe H' _ hE' hr=>?_;obtain⟨x,e'⟩:=xe;obtain⟨h1,h2⟩:=hr;dsimp only at h1 h2;subst h1;exact Cp.mapLoopF F l Inv Qn step stop fuel n (i+1) (acc++[y]) e' H' (by omega) (by omega) (by simp; omega) hE' h2
theorem Cp.mapLoop{α β:Type}{body:Env→A2→Res (D0 × Env)}(F:α→Option β)(l:List α)(Inv:Nat→List β→Env→A2→Prop)(Qn:List β→D0→Env→A2→Prop){e0:Env}{H0:A2}
  (hN:l.length<2 ^ 63) (hE:E H0) (h0:Inv 0 [] e0 H0)
  (step:∀ i x acc e H,l[i]?=some x→acc.length=i→E H→Inv i acc e H→Cp fv E (body e H) (F x) fun y xe H'=>xe.1=.normal∧Inv (i+1) (acc++[y]) xe.2 H')
  (stop:∀ acc e H,acc.length=l.length→E H→Inv l.length acc e H→∃ x e' H',body e H=.ok (x,e') H'∧x≠.normal∧E H'∧Qn acc x e' H') :
  Cp fv E (loopN body B8 e0 H0) (M6 F l) (fun r xe H=>Qn r xe.1 xe.2 H):=by
 have:=Cp.mapLoopF (fv:=fv) F l Inv Qn step stop B8 l.length 0 [] e0 H0 (by omega) (by unfold B8; omega) rfl hE h0;simpa using this
end
end Go.Sw
end
section
namespace Go.Sw
open Go.RowKit
structure It where
 o:List Nat
 P:A2→Prop
 loc:∀ H H',P H→(∀ b,b ∈ o→H'.get b=H.get b)→P H'
def D9(c:Nat)(k:Blk):It:=⟨[c],fun H=>H.get c=some k,fun H H' h hk=>by rw[hk c (List.mem_singleton.2 rfl)]; exact h⟩
def D6{α:Type}(o:Option Nat)(m:Nat)(s:Value)(enc:α→List Value)(l:List α):It:=⟨o.toList,fun H=>N2 H o m s enc l,fun _ _ h hk=>h.up fun b hb=>hk b (Option.mem_toList.2 hb)⟩
def D2(H0 H:A2)(L:List It):Prop :=
 Ext H0 H∧(∀ (i:Nat) x,L[i]?=some x→x.P H∧∀ b,b ∈ x.o→H0.n≤b∧b<H.n) ∧
 ∀ (i j:Nat) x y,i≠j→L[i]?=some x→L[j]?=some y→∀ b,b ∈ x.o→b ∉ y.o
theorem D2.nil(H:A2):D2 H H []:=⟨Ext.refl H,fun i x h=>by simp at h,fun i j x y _ h=>by simp at h⟩
theorem D2.ext{H0 H:A2}{L:List It}(h:D2 H0 H L):Ext H0 H:=h.1
theorem D2.at{H0 H:A2}{L:List It}(h:D2 H0 H L)(i:Nat){x:It}(hi:L[i]?=some x):x.P H:=(h.2.1 i x hi).1
theorem D2.lt{H0 H:A2}{L:List It}(h:D2 H0 H L)(i:Nat){x:It}(hi:L[i]?=some x):∀ b,b ∈ x.o→H0.n≤b∧b<H.n:=(h.2.1 i x hi).2
theorem D2.get{H0 H:A2}{L:List It}(h:D2 H0 H L)(i:Nat){c:Nat}{k:Blk}(hi:L[i]?=some (D9 c k)):H.get c=some k:=h.at i hi
theorem D2.row{α:Type}{enc:α→List Value}{H0 H:A2}{L:List It}(h:D2 H0 H L)(i:Nat){o:Option Nat}{m:Nat}{s:Value}{l:List α}(hi:L[i]?=some (D6 o m s enc l)):N2 H o m s enc l:=h.at i hi
theorem D2.own{α:Type}{enc:α→List Value}{H0 H:A2}{L:List It}(h:D2 H0 H L)(i:Nat){o:Option Nat}{m:Nat}{s:Value}{l:List α}(hi:L[i]?=some (D6 o m s enc l)):Own H0 H m s enc l :=
 (h.row i hi).own H0 fun b hb=>(h.lt i hi b (Option.mem_toList.2 hb)).1
theorem D2.ne{H0 H:A2}{L:List It}(h:D2 H0 H L)(i j:Nat){x y:It}(hij:i≠j)(hi:L[i]?=some x)(hj:L[j]?=some y){b:Nat}(hb:b ∈ x.o):b ∉ y.o:=h.2.2 i j x y hij hi hj b hb
theorem D2.step {H0 H H':A2} {L:List It} (h:D2 H0 H L) (i:Nat) {x:It} (hi:L[i]?=some x) (hn:H.n≤H'.n) (hk:∀ c,c<H.n→c ∉ x.o→H'.get c=H.get c) (y:It) (hy:y.P H')
  (hyo:∀ b,b ∈ y.o→b ∈ x.o∨(H.n≤b∧b<H'.n)):D2 H0 H' (L.set i y):=by
 have hlt:i<L.length:=(List.getElem?_eq_some_iff.1 hi).1;have hxl:=h.lt i hi;refine⟨⟨Nat.le_trans h.1.1 hn,fun c hc hs=>?_⟩,fun j z hj=>?_,fun j1 j2 z1 z2 hne h1 h2 b hb=>?_⟩
 ·rw[hk c (Nat.lt_of_lt_of_le hc h.1.1) fun hx=>?_]
  ·exact h.1.2 c hc hs
  ·have:=(hxl c hx).1; omega
 ·by_cases hij:i=j
  ·subst hij;rw[List.getElem?_set_self hlt] at hj;injection hj with hj;subst hj;refine⟨hy,fun b hb=>?_⟩;rcases hyo b hb with h1 | ⟨h1,h2⟩
   ·have:=hxl b h1; omega
   ·have:=h.1.1; omega
  ·rw[List.getElem?_set_ne hij] at hj;obtain⟨hp,hl⟩:=h.2.1 j z hj;refine⟨z.loc H H' hp fun b hb=>hk b (hl b hb).2 fun hx=>?_,fun b hb=>?_⟩
   ·exact h.2.2 i j x z hij hi hj b hx hb
   ·have:=hl b hb; omega
 ·by_cases e1:i=j1
  ·subst e1;rw[List.getElem?_set_self hlt] at h1;injection h1 with h1;subst h1;rw[List.getElem?_set_ne hne] at h2;intro hb2;rcases hyo b hb with hx | ⟨hx,_⟩
   ·exact h.2.2 i j2 x z2 hne hi h2 b hx hb2
   ·have:=(h.lt j2 h2 b hb2).2; omega
  ·rw [List.getElem?_set_ne e1] at h1;by_cases e2:i=j2
   ·subst e2;rw[List.getElem?_set_self hlt] at h2;injection h2 with h2;subst h2;intro hb2;rcases hyo b hb2 with hx | ⟨hx,_⟩
    ·exact h.2.2 i j1 x z1 (fun e=>e1 e) hi h1 b hx hb
    ·have:=(h.lt j1 h1 b hb).2; omega
   ·rw[List.getElem?_set_ne e2] at h2;exact h.2.2 j1 j2 z1 z2 hne h1 h2 b hb
theorem D2.more {H0 H H':A2} {L:List It} (h:D2 H0 H L) (he:Ext H H') (y:It) (hy:y.P H') (hyo:∀ b,b ∈ y.o→H.n≤b∧b<H'.n):D2 H0 H' (L++[y]):=by
 have hll:(L++[y]).length=L.length+1:=by simp
 have get:∀ j z,(L++[y])[j]?=some z→(j<L.length∧L[j]?=some z)∨(j=L.length∧z=y):=fun j z hj=>by
  by_cases hl:j<L.length
  ·rw[List.getElem?_append_left hl] at hj;exact .inl ⟨hl,hj⟩
  ·have hlt:=(List.getElem?_eq_some_iff.1 hj).1;have:j=L.length:=by omega
   subst this;rw[List.getElem?_append_right (Nat.le_refl _)] at hj;simp at hj;exact .inr ⟨rfl,hj.symm⟩
 refine⟨h.1.trans he,fun j z hj=>?_,fun j1 j2 z1 z2 hne h1 h2 b hb=>?_⟩
 ·rcases get j z hj with⟨_,hj⟩ | ⟨_,rfl⟩
  ·obtain⟨hp,hl⟩:=h.2.1 j z hj;exact⟨z.loc H H' hp fun b hb=>he.2 b (hl b hb).2 (by simp),fun b hb=>by have:=hl b hb; have:=he.1; omega⟩
  ·exact⟨hy,fun b hb=>by have:=hyo b hb; have:=h.1.1; omega⟩
 ·intro hb2;rcases get j1 z1 h1 with⟨_,g1⟩ | ⟨e1,f1⟩
  ·rcases get j2 z2 h2 with⟨_,g2⟩ | ⟨e2,f2⟩
   ·exact h.2.2 j1 j2 z1 z2 hne g1 g2 b hb hb2
   ·subst f2;have:=(h.lt j1 g1 b hb).2; have:=(hyo b hb2).1; omega
  ·subst f1;rcases get j2 z2 h2 with⟨_,g2⟩ | ⟨e2,f2⟩
   ·have:=(h.lt j2 g2 b hb2).2; have:=(hyo b hb).1; omega
   ·omega
theorem D2.push{H0 H:A2}{L:List It}(h:D2 H0 H L)(k:Blk):D2 H0 (H.push k) (L++[D9 H.n k]) :=
 h.more ((Ext.refl H).push k) _ (ζd _ _ _ rfl) fun b hb=>by have hb:=List.mem_singleton.1 hb; subst hb; simp
theorem D2.rest{H0 H H':A2}{L:List It}(h:D2 H0 H L)(he:Ext H H'):D2 H0 H' L :=
 ⟨h.1.trans he,fun j z hj=>by
  obtain⟨hp,hl⟩:=h.2.1 j z hj;exact⟨z.loc H H' hp fun b hb=>he.2 b (hl b hb).2 (by simp),fun b hb=>by have:=hl b hb; have:=he.1; omega⟩,h.2.2⟩
theorem D2.take{H0 H:A2}{L:List It}(h:D2 H0 H L)(n:Nat):D2 H0 H (L.take n):=by
 have get:∀ j z,(L.take n)[j]?=some z→L[j]?=some z:=fun j z hj=>by
  rw[List.getElem?_take] at hj;split at hj
  ·exact hj
  ·cases hj
 exact⟨h.1,fun j z hj=>h.2.1 j z (get j z hj),fun j1 j2 z1 z2 hne h1 h2=>h.2.2 j1 j2 z1 z2 hne (get j1 z1 h1) (get j2 z2 h2)⟩
theorem D2.more_row{α:Type}{enc:α→List Value}{H0 H H':A2}{L:List It}(h:D2 H0 H L)(he:Ext H H'){o:Option Nat}{m:Nat}{s:Value}{l:List α}(ho:N2 H' o m s enc l)(hb:∀ b,o=some b→H.n≤b∧b<H'.n):D2 H0 H' (L++[D6 o m s enc l]) :=
 h.more he _ ho fun b h=>hb b (Option.mem_toList.1 h)
theorem N2.bare{α:Type}(enc:α→List Value)(H:A2)(m:Nat):N2 H none m U8 enc []:=.inl ⟨rfl,rfl,.inr (.inl rfl)⟩
theorem N2.nil{α:Type}(enc:α→List Value)(H:A2)(m:Nat):N2 H none m (.slice none 0 0) enc []:=.inl ⟨rfl,rfl,.inl rfl⟩
theorem N2.lt{α:Type}{enc:α→List Value}{H:A2}{o:Option Nat}{m:Nat}{s:Value}{l:List α}(h:N2 H o m s enc l):∀ b,o=some b→b<H.n:=fun b hb=>by
 rcases h with⟨h,_⟩ | ⟨c,h,_,hc⟩
 ·rw[h] at hb; cases hb
 ·rw[h] at hb; injection hb with hb; subst hb; exact A2.get_lt hc
theorem D2.append {α:Type} {enc:α→List Value} {H0 H:A2} {L:List It} (h:D2 H0 H L) (i:Nat) {o:Option Nat} {m bytes:Nat} {s b:Value} {l l2:List α} (he:∀ x,(enc x).length=m) (hi:L[i]?=some (D6 o m s enc l))
  (hl:lenV b=some l2.length) (hf:S4 m l2.length b H=some (rows enc l2)) (h31:l.length+l2.length≤2 ^ 31) (hby:bytes≤2 ^ 10) :
  ∃ s' o' H',apR m bytes s b H=.ok s' H'∧D2 H0 H' (L.set i (D6 o' m s' enc (l++l2))):=by
 by_cases h0:l2.length=0
 ·have e2:=List.length_eq_zero_iff.1 h0;subst e2;obtain⟨a,n,c,rfl⟩:=(h.row i hi).shape;refine⟨.slice a n c,o,H,?_,?_⟩
  ·unfold apR A10;dsimp only;rw[hl];rfl
  ·rw [List.append_nil];have:L.set i (D6 o m (.slice a n c) enc l)=L:=by
    obtain⟨hlt,hx⟩:=List.getElem?_eq_some_iff.1 hi;rw[← hx,List.set_getElem_self]
   rw[this];exact h
 ·obtain⟨s',H',e1,e2,e3,e4⟩:=B0t (bytes:=bytes) he (h.row i hi) hl hf h0 h31 hby;exact⟨s',_,H',e1,h.step i hi (by omega) (fun c hc hs=>e4 c hc fun h=>hs (Option.mem_toList.2 h)) _ e2 fun b hb=>.inr (by have hb:=List.mem_singleton.1 hb; omega)⟩
theorem D2.append1{α:Type}{enc:α→List Value}{H0 H:A2}{L:List It}(h:D2 H0 H L)(i:Nat){o:Option Nat}{m bytes:Nat}{s:Value}{l:List α}(he:∀ x,(enc x).length=m)(hi:L[i]?=some (D6 o m s enc l))(x:α)(hl:l.length<2 ^ 31)(hby:bytes≤2 ^ 10) :
  ∃ s' o' H',apR m bytes s (.slice (some ⟨H.n,0,none⟩) 1 1) (H.push ⟨enc x,m,false⟩)=.ok s' H'∧D2 H0 H' (L.set i (D6 o' m s' enc (l++[x]))):=by
 obtain⟨s',H',e1,e2,e3,e4⟩:=B0s (bytes:=bytes) he (h.row i hi) (h.row i hi).lt x hl hby;exact⟨s',_,H',e1,h.step i hi (by omega) (fun c hc hs=>e4 c hc fun h=>hs (Option.mem_toList.2 h)) _ e2 fun b hb=>.inr (by have hb:=List.mem_singleton.1 hb; omega)⟩
end Go.Sw
end
section
namespace Go.Sw
open Go.RowKit
section
variable {α:Type} {enc:α→List Value}
def A2m (c:Nat) (pre:List Value) (o:Option Nat) (m:Nat) (enc:α→List Value) (l:List α):It :=
  ⟨c :: o.toList,fun H=>o≠some c∧∃ s,H.get c=some ⟨pre++[s],1,false⟩∧N2 H o m s enc l,
   fun H H' ⟨h0,s,h1,h2⟩ hk=>⟨h0,s,by rw[hk c (by simp)]; exact h1,h2.up fun b hb=>hk b (List.mem_cons_of_mem _ (Option.mem_toList.2 hb))⟩⟩
theorem E4b(enc:α→List Value)(d:α):∀ n,D5 (enc d) n=rows enc (List.replicate n d)
 | 0=>rfl
 | n+1=>by rw[D5,E4b enc d n,List.replicate_succ,A6l]
theorem D30{m bytes:Nat}(he:∀ x,(enc x).length=m)(base:Option Addr)(l c:Nat)(d:α)(z:List Value)(hz:z=enc d)(k:IntKind)(n:Nat)(hn:n≤2 ^ 31)(H:A2) :
  azR m bytes z (.slice base l c) (.int k n) H=apR m bytes (.slice base l c) (lv enc (List.replicate n d)) H:=by
 subst hz;have hf:=A3r he (List.replicate n d) H;rw[List.length_replicate] at hf;unfold azR apR;dsimp only;rw[if_pos ⟨by omega,by omega⟩,Int.toNat_natCast,show lenV (lv enc (List.replicate n d))=some n by rw[lv,List.length_replicate]; rfl];dsimp only;rw[E5m,hf,E4b]
theorem D2.ζk1{H0 H:A2}{L:List It}{x:It}(h:D2 H0 H (L++[x])):D2 H0 H L:=by
 have:=h.take L.length;simpa using this
theorem D2.split {H0 H:A2} {L:List It} (h:D2 H0 H L) (i:Nat) {c:Nat} {pre:List Value} {o:Option Nat} {m:Nat} {l:List α} (hi:L[i]?=some (A2m c pre o m enc l)) :
  ∃ s,D2 H0 H (L.set i (D6 o m s enc l)++[D9 c ⟨pre++[s],1,false⟩]):=by
 have hlt:i<L.length:=(List.getElem?_eq_some_iff.1 hi).1;obtain⟨hne,s,h1,h2⟩:=h.at i hi;have hc:=h.lt i hi c (by simp[A2m]);refine⟨s,h.1,fun j z hj=>?_,fun j1 j2 z1 z2 hj12 g1 g2 b hb hb2=>?_⟩
 ·by_cases hjl:j<L.length
  ·rw[List.getElem?_append_left (by simpa using hjl)] at hj;by_cases hij:i=j
   ·subst hij;rw[List.getElem?_set_self hlt] at hj;injection hj with hj; subst hj;exact⟨h2,fun b hb=>h.lt i hi b (List.mem_cons_of_mem _ hb)⟩
   ·rw[List.getElem?_set_ne hij] at hj;exact h.2.1 j z hj
  ·have hl2:=(List.getElem?_eq_some_iff.1 hj).1;simp at hl2;have:j=L.length:=by omega
   subst this;rw[List.getElem?_append_right (by simp)] at hj;simp at hj; subst hj;exact⟨h1,fun b hb=>by have:=List.mem_singleton.1 hb; subst this; exact hc⟩
 ·have key:∀ (j:Nat) z,(L.set i (D6 o m s enc l)++[D9 c ⟨pre++[s],1,false⟩])[j]?=some z→(j<L.length∧j≠i∧L[j]?=some z)∨(j=i∧z=D6 o m s enc l)∨(j=L.length∧z=D9 c ⟨pre++[s],1,false⟩):=by
   intro j z hj;by_cases hjl:j<L.length
   ·rw[List.getElem?_append_left (by simpa using hjl)] at hj;by_cases hij:i=j
    ·subst hij;rw[List.getElem?_set_self hlt] at hj;injection hj with hj; exact .inr (.inl ⟨rfl,hj.symm⟩)
    ·rw[List.getElem?_set_ne hij] at hj;exact .inl ⟨hjl,fun e=>hij e.symm,hj⟩
   ·have hl2:=(List.getElem?_eq_some_iff.1 hj).1;simp at hl2;have:j=L.length:=by omega
    subst this;rw[List.getElem?_append_right (by simp)] at hj;simp at hj; exact .inr (.inr ⟨rfl,hj.symm⟩)
  have inbox:∀ b,b ∈ (D6 o m s enc l).o→b ∈ (A2m c pre o m enc l).o:=fun b hb=>List.mem_cons_of_mem _ hb;have inbox2:∀ b,b ∈ (D9 c ⟨pre++[s],1,false⟩).o→b ∈ (A2m c pre o m enc l).o:=fun b hb=>by have:=List.mem_singleton.1 hb; subst this; exact List.mem_cons_self ..
  have apart:∀ b,b ∈ (D6 o m s enc l).o→b ∈ (D9 c ⟨pre++[s],1,false⟩).o→False:=fun b hb hb'=>by
   have:=List.mem_singleton.1 hb'; subst this;exact hne (Option.mem_toList.1 hb)
  rcases key j1 z1 g1 with⟨_,n1,e1⟩ | ⟨q1,rfl⟩ | ⟨q1,rfl⟩ <;> rcases key j2 z2 g2 with⟨_,n2,e2⟩ | ⟨q2,rfl⟩ | ⟨q2,rfl⟩
  ·exact h.2.2 j1 j2 z1 z2 hj12 e1 e2 b hb hb2
  ·exact h.2.2 j1 i z1 _ n1 e1 hi b hb (inbox b hb2)
  ·exact h.2.2 j1 i z1 _ n1 e1 hi b hb (inbox2 b hb2)
  ·exact h.2.2 j2 i z2 _ n2 e2 hi b hb2 (inbox b hb)
  ·omega
  ·exact apart b hb hb2
  ·exact h.2.2 j2 i z2 _ n2 e2 hi b hb2 (inbox2 b hb)
  ·exact apart b hb2 hb
  ·omega
theorem D2.join {H0 H:A2} {L:List It} (h:D2 H0 H L) (i j n:Nat) {c:Nat} {pre:List Value} {s:Value} {o:Option Nat} {m:Nat} {l:List α} (hin:i<n) (hnj:n≤j)
  (hi:L[i]?=some (D6 o m s enc l)) (hj:L[j]?=some (D9 c ⟨pre++[s],1,false⟩)):D2 H0 H ((L.take n).set i (A2m c pre o m enc l)):=by
 have hjl:=(List.getElem?_eq_some_iff.1 hj).1;have hne:o≠some c:=fun e=>h.2.2 i j _ _ (by omega) hi hj c (Option.mem_toList.2 e) (List.mem_singleton.2 rfl);have key:∀ (k:Nat) z,((L.take n).set i (A2m c pre o m enc l))[k]?=some z→(k<n∧k≠i∧L[k]?=some z)∨(k=i∧z=A2m c pre o m enc l):=by
  intro k z hk;have hkl:=(List.getElem?_eq_some_iff.1 hk).1;simp at hkl;by_cases hik:i=k
  ·subst hik;rw[List.getElem?_set_self (by simp; omega)] at hk;injection hk with hk; exact .inr ⟨rfl,hk.symm⟩
  ·rw[List.getElem?_set_ne hik,List.getElem?_take_of_lt (by omega)] at hk;exact .inl ⟨by omega,fun e=>hik e.symm,hk⟩
 have boxIn:∀ b,b ∈ (A2m c pre o m enc l).o→b ∈ (D6 o m s enc l).o∨b ∈ (D9 c ⟨pre++[s],1,false⟩).o:=fun b hb=>by
  rcases List.mem_cons.1 hb with rfl | hb
  ·exact .inr (List.mem_singleton.2 rfl)
  ·exact .inl hb
 refine⟨h.1,fun k z hk=>?_,fun j1 j2 z1 z2 hj12 g1 g2 b hb hb2=>?_⟩
 ·rcases key k z hk with⟨_,_,e⟩ | ⟨_,rfl⟩
  ·exact h.2.1 k z e
  ·refine⟨⟨hne,s,h.at j hj,h.at i hi⟩,fun b hb=>?_⟩;rcases boxIn b hb with hb | hb
   ·exact h.lt i hi b hb
   ·exact h.lt j hj b hb
 ·rcases key j1 z1 g1 with⟨m1,n1,e1⟩ | ⟨q1,rfl⟩ <;> rcases key j2 z2 g2 with⟨m2,n2,e2⟩ | ⟨q2,rfl⟩
  ·exact h.2.2 j1 j2 z1 z2 hj12 e1 e2 b hb hb2
  ·rcases boxIn b hb2 with hb2 | hb2
   ·exact h.2.2 j1 i z1 _ n1 e1 hi b hb hb2
   ·exact h.2.2 j1 j z1 _ (by omega) e1 hj b hb hb2
  ·rcases boxIn b hb with hb | hb
   ·exact h.2.2 j2 i z2 _ n2 e2 hi b hb2 hb
   ·exact h.2.2 j2 j z2 _ (by omega) e2 hj b hb2 hb
  ·omega
theorem D2.box{H0 H:A2}{L:List It}(h:D2 H0 H L)(i:Nat){c:Nat}{pre:List Value}{o:Option Nat}{m:Nat}{l:List α}(hi:L[i]?=some (A2m c pre o m enc l)) :
  o≠some c∧∃ s,H.get c=some ⟨pre++[s],1,false⟩∧N2 H o m s enc l:=h.at i hi
theorem D2.setBlk{H0 H:A2}{L:List It}(h:D2 H0 H L)(i:Nat){c:Nat}{k:Blk}(hi:L[i]?=some (D9 c k))(k':Blk):D2 H0 (H.set c (some k')) (L.set i (D9 c k')) :=
 h.step i hi (by simp) (fun d _ hd=>A6j _ _ _ _ fun e=>hd (List.mem_singleton.2 e)) _ (by
  show (H.set c (some k')).get c=some k';rw[B5b];rw[h.get i hi]; rfl) fun b hb=>.inl hb
theorem D2.setRow{H0 H:A2}{L:List It}(h:D2 H0 H L)(i:Nat){b m:Nat}{s:Value}{l:List α}(hi:L[i]?=some (D6 (some b) m s enc l))(l':List α)(hl:l'.length=l.length) :
  D2 H0 (H.set b (some ⟨rows enc l',m,false⟩)) (L.set i (D6 (some b) m s enc l')):=by
 have hr:=h.row i hi;rcases hr with⟨h0,_⟩ | ⟨b',h0,h1,h2⟩
 ·cases h0
 ·injection h0 with h0;subst h0;refine h.step i hi (by simp) (fun d _ hd=>A6j _ _ _ _ fun e=>hd (show d ∈ [b] from List.mem_singleton.2 e)) _ ?_ fun b hb=>.inl hb;exact .inr ⟨b,rfl,by rw[hl]; exact h1,by rw[B5b]; rw[h2]; rfl⟩
theorem D2.setBox{H0 H:A2}{L:List It}(h:D2 H0 H L)(i:Nat){c b m:Nat}{pre:List Value}{l:List α}(hi:L[i]?=some (A2m c pre (some b) m enc l))(l':List α)(hl:l'.length=l.length) :
  D2 H0 (H.set b (some ⟨rows enc l',m,false⟩)) (L.set i (A2m c pre (some b) m enc l')):=by
 obtain⟨hne,s,h1,h2⟩:=h.box i hi;rcases h2 with⟨h0,_⟩ | ⟨b',h0,h2,h3⟩
 ·cases h0
 ·injection h0 with h0;subst h0;refine h.step i hi (by simp) (fun d _ hd=>A6j _ _ _ _ fun e=>hd (show d ∈ [c,b] from by rw[e]; simp)) _ ?_ fun b hb=>.inl hb;refine⟨hne,s,by rw[A6j _ _ _ _ fun e=>hne (by rw[e])]; exact h1,.inr ⟨b,rfl,by rw[hl]; exact h2,by rw[B5b]; rw[h3]; rfl⟩⟩
theorem D2.appendRow{H0 H:A2}{L:List It}(h:D2 H0 H L)(i j:Nat){o o2:Option Nat}{m bytes:Nat}{s s2:Value}{l l2:List α}(he:∀ x,(enc x).length=m)(hi:L[i]?=some (D6 o m s enc l))(hj:L[j]?=some (D6 o2 m s2 enc l2))
  (h31:l.length+l2.length≤2 ^ 31) (hby:bytes≤2 ^ 10):∃ s' o' H',apR m bytes s s2 H=.ok s' H'∧D2 H0 H' (L.set i (D6 o' m s' enc (l++l2))) :=
 h.append i he hi (h.row j hj).own0.lenV ((h.row j hj).own0.first he) h31 hby
theorem G8y(L:List It)(x y:It):(L++[x]).set L.length y=L++[y]:=by simp
theorem D2.fzRow{H0 H:A2}{L:List It}(h:D2 H0 H L)(i:Nat){o:Option Nat}{m:Nat}{s:Value}{l:List α}(he:∀ x,(enc x).length=m)(hi:L[i]?=some (D6 o m s enc l))(hs:∀ x,x ∈ l→∀ v,v ∈ enc x→A2a v)(d:Nat) :
  ∃ M,fzV H0.n H (d+2) s=some (lv enc l,M):=(h.own i hi).freeze he hs d
end
theorem A1y{n0:Nat}{H:A2}{d:Nat}{l r:List Value}{L:List Nat}(h:V0 (fzV n0 H d) l=some (r,L)):fzV n0 H (d+1) (.tuple l.toArray)=some (.tuple r.toArray,L):=by simp[fzV,h]
theorem B71{f:Value→Option (Value × List Nat)}:V0 f []=some ([],[]):=rfl
end Go.Sw
end
section
namespace Go.Sw
open Go.RowKit
end Go.Sw
end
section
namespace Go.Sw
open Go.RowKit
end Go.Sw
end
section
namespace Go.Sw
open Go.RowKit
theorem N2.full{α:Type}{enc:α→List Value}{H:A2}{o:Option Nat}{m:Nat}{s:Value}{l:List α}(h:N2 H o m s enc l)(hl:l≠[]):∃ b,o=some b∧s=.slice (some ⟨b,0,none⟩) l.length l.length∧H.get b=some ⟨rows enc l,m,false⟩:=by
 rcases h with⟨_,h,_⟩ | ⟨b,h0,h1,h2⟩
 ·exact absurd h hl
 ·exact⟨b,h0,h1,h2⟩
theorem N2.base{α:Type}{enc:α→List Value}{H:A2}{o:Option Nat}{m:Nat}{s:Value}{l:List α}(h:N2 H o m s enc l):∃ a c,s=.slice a l.length c:=by
 rcases h with⟨_,rfl,rfl | rfl | rfl⟩ | ⟨b,_,rfl,_⟩ <;> exact⟨_,_,rfl⟩
theorem D2.insertRow {α:Type} {enc:α→List Value} {H0 H:A2} {L:List It} (h:D2 H0 H L) (i j:Nat) {o o2:Option Nat} {m bytes:Nat} {s s2:Value} {l l2:List α} (he:∀ x,(enc x).length=m) (hij:i≠j) (hi:L[i]?=some (D6 o m s enc l)) (hj:L[j]?=some (D6 o2 m s2 enc l2))
  {p:Nat} (hp:p≤l.length) (h31:l.length+l2.length≤2 ^ 31) (hby:bytes≤2 ^ 10) :
  ∃ s' o' H',A79 m bytes [s,.int .i64 (p:Nat),s2] H=.ok s' H'∧D2 H0 H' (L.set i (D6 o' m s' enc (l.take p++(l2++l.drop p)))):=by
 have hs:=h.row i hi;have hs2:=h.row j hj;obtain⟨a,c,e1⟩:=hs.base;subst e1;have hl2:=hs2.lenL;have same:L.set i (D6 o m (.slice a l.length c) enc l)=L:=by
  obtain⟨hlt,hx⟩:=List.getElem?_eq_some_iff.1 hi;rw[← hx,List.set_getElem_self]
 by_cases h0:l2=[]
 ·subst h0;refine⟨_,o,H,?_,by rw[List.nil_append,List.take_append_drop,same]; exact h⟩;unfold A79;dsimp only;rw[hl2];dsimp only[List.length_nil];rw[if_pos ⟨by omega,by omega⟩]
 ·obtain ⟨q,hq⟩:∃ q,l2.length=q+1:=⟨l2.length - 1,by have:=List.length_pos_iff.2 h0; omega⟩
  by_cases h1:p=l.length
  ·subst h1;obtain⟨s',o',H',e2,g⟩:=h.appendRow (bytes:=bytes) i j he hi hj h31 hby;refine⟨s',o',H',?_,by rw[List.take_length,List.drop_length,List.append_nil]; exact g⟩;unfold A79;dsimp only;rw[hl2,hq];dsimp only;rw[if_pos rfl];exact e2
  ·have hne:l≠[]:=fun e=>by subst e; simp at hp h1; exact h1 hp
   obtain ⟨b,rfl,e3,hb⟩:=hs.full hne;obtain⟨b2,rfl,rfl,hb2⟩:=hs2.full h0;have hbb:b2≠b:=fun e=>by
    subst e;exact h.ne i j hij hi hj (b:=b2) (by simp[D6]) (by simp[D6])
   injection e3 with ea _ ec;subst ea ec;have r1:=ζk he l;have r2:=ζk he l2;have hbn:=A2.get_lt hb;refine⟨.slice (some ⟨H.n,0,none⟩) (l.length+l2.length) (l.length+l2.length),some H.n,(H.set b none).push ⟨rows enc (l.take p++(l2++l.drop p)),m,false⟩,?_,?_⟩
   ·unfold A79;dsimp only;rw[hl2,hq];dsimp only;rw[if_neg (by omega),hb,hb2];dsimp only;rw[← hq];rw[if_pos ⟨by omega,by omega,Nat.le_refl _,h31,hby,rfl,rfl,by rw[r1]; omega,hbb,rfl,by rw[r2]; omega⟩];congr 2;have t1:((rows enc l).drop 0).take (l.length*m)=rows enc l:=by rw[List.drop_zero,List.take_of_length_le (by rw[r1]; exact Nat.le_refl _)]
    have t2:((rows enc l2).drop 0).take (l2.length*m)=rows enc l2:=by rw[List.drop_zero,List.take_of_length_le (by rw[r2]; exact Nat.le_refl _)]
    rw [Int.toNat_natCast,t1,t2,A97,A97,B2a he];have:(rows enc l).drop (p*m)=rows enc (l.drop p):=by
     have e:rows enc l=rows enc (l.take p)++rows enc (l.drop p):=by rw[← A97,List.take_append_drop]
     rw[e,List.drop_append_of_le_length (by rw[ζk he]; simp; rw[Nat.min_eq_left hp]; exact Nat.le_refl _),List.drop_of_length_le (by rw[ζk he]; simp; rw[Nat.min_eq_left hp]; exact Nat.le_refl _),List.nil_append]
    rw[this]
   ·refine h.step i hi (by simp) (fun c hc hs=>?_) _ (.inr ⟨H.n,rfl,?_,ζd _ _ _ (by simp)⟩) fun c hc=>.inr ?_
    ·rw[A65 _ _ _ (by simpa using hc),A6j];intro e;subst e;exact hs (by simp[D6])
    ·simp; omega
    ·have hc:=List.mem_singleton.1 hc;simp;omega
end Go.Sw
end
section
namespace Go.Sw
open Go.RowKit
end Go.Sw
end
