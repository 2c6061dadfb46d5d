/-
  A speaking function, run by itself, answers true.
-/
import Derived.Test.YtanfippcmdialaaGreatSwLib3
section
namespace Go.Sw
open Go.RowKit
theorem E5z{p q:Nat→Bool}(h:∀ x,q x=true→p x=true):∀ (l:List Nat),(l.filter q).length≤(l.filter p).length
 | []=>Nat.le_refl _
 | x :: l=>by
  have:=E5z h l;simp only[List.filter_cons];cases hq:q x with
  | true=>rw[h x hq]; simp; omega
  | false=>cases p x <;> simp <;> omega
theorem E60 {p q:Nat→Bool} (h:∀ x,q x=true→p x=true) {j:Nat} (hp:p j=true) (hq:q j=false):∀ (l:List Nat),j ∈ l→(l.filter q).length<(l.filter p).length
 | [],hj=>by simp at hj
 | x :: l,hj=>by
  simp only[List.filter_cons];rcases List.mem_cons.1 hj with rfl | hj
  ·have:=E5z h l;rw[hp,hq];simp; omega
  ·have:=E60 h hp hq l hj;cases hqx:q x with
   | true=>rw[h x hqx]; simp; omega
   | false=>cases p x <;> simp <;> omega
theorem E42:∀ (i:Nat) (rs:List Rec) (e:Env),A5d e rs=W9 (fun _=>true) e i rs
 | _,[],_=>rfl
 | i,_ :: rs,_=>E42 (i+1) rs _
section
variable {c:Cfg} {call:A8} {ops:Array Oper}
def A4n(ops:Array Oper)(L:Nat→Bool):Prop:=∀ (j:Nat) (o:Oper),ops[j]?=some o→L j=true→∀ e ∈ o.after.toList,Region.binds .any e=true→L e.on=true
theorem E47{ms:List Nat}{nt:Nat}{L:Nat→Bool}(hst:A0m ops ms nt 0 ops.toList=true)(hcl:A4n ops L):∀ (j:Nat) (o:Oper),ops[j]?=some o→(∀ e ∈ o.after.toList,Region.binds .any e=true→L e.on=true) →
  ∀ i,(ms.getD j 0).testBit i=true→L i=true:=by
 intro j
 induction j using Nat.strongRecOn with
 | _ j ih=>
  intro o ho hed i hb;have ho':ops.toList[j]?=some o:=by rw[Array.getElem?_toList]; exact ho
  obtain⟨h1,h2,h3,h4,_⟩:=B3a ops.toList 0 hst j o ho';simp only[Nat.zero_add] at h2 h3;rw[h3] at hb;obtain⟨e,he,hbind,hor⟩:=D20 ms o i _ hb;have hL:=hed e he hbind;rcases hor with rfl | hor
  ·exact hL
  ·have hlt:=h2 e he hbind;have hjn:j<ops.size:=(Array.getElem?_eq_some_iff.1 ho).1;have hon:ops[e.on]?=some ops[e.on]:=Array.getElem?_eq_getElem (by omega);exact ih e.on hlt _ hon (hcl e.on _ hon hL) i hor
theorem E3a{o:Oper}{t:Tmp}(h:Operand.tmp t ∈ o.op.operands.toList):t ∈ o.looksAt ops:=by
 unfold Oper.looksAt;refine List.mem_append.2 (.inl ?_);exact List.mem_filterMap.2 ⟨.tmp t,h,rfl⟩
theorem G6w{o:Oper}{j:Nat}{w:Bool}{d:Tmp}(h:o.guard=some (j,w))(hd:(ops[j]?).bind (·.dst)=some d):d ∈ o.looksAt ops:=by
 unfold Oper.looksAt;refine List.mem_append.2 (.inr ?_);rw[h];simp only[hd];simp
theorem E4h {e e':Env} {H:A2} {o:Oper} (h:∀ t ∈ o.looksAt ops,e.get t=e'.get t):stepO c call ops e H o=stepO c call ops e' H o:=by
 unfold stepO;have hw:Y4 ops e o=Y4 ops e' o:=by
  unfold Y4;split
  ·rfl
  ·rename_i j w hg;split
   ·rename_i d hd;rw[h d (G6w hg hd)]
   ·rfl
 rw[hw,E3s fun t ht=>h t (E3a ht)]
theorem B8y{e:Env}{H H':A2}{o:Oper}{v:Value}(hq:E8 o.op=false)(h:stepO c call ops e H o=.ok v H'):H'=H:=by
 unfold stepO at h;split at h
 ·cases h
 ·rename_i b _;cases b with
  | false=>simp only[cond_false,Res.ok.injEq] at h; exact h.2.symm
  | true=>exact G8p hq h
theorem J16{e:Env}{H H':A2}{o:Oper}{v:Value}(hq:E8 o.op=false)(hr:A33 o.op=false)(h:stepO c call ops e H o=.ok v H')(H2:A2):stepO c call ops e H2 o=.ok v H2:=by
 unfold stepO at h ⊢;split at h
 ·cases h
 ·rename_i b hb;cases b with
  | false=>simp only[cond_false,Res.ok.injEq] at h ⊢; exact⟨h.1,trivial⟩
  | true=>exact J0n hq hr h H2
theorem D5v {lo hi:Nat}:∀ (i:Nat) (rs:List Rec),A1h lo hi i rs=false→∀ (k:Nat) (r:Rec),rs[k]?=some r→lo≤i+k→i+k<hi→E8 r.o.op=false
 | _,[],_,k,r,h,_,_=>by simp at h
 | i,x :: xs,hs,k,r,h,h1,h2=>by
  simp only[A1h,Bool.or_eq_false_iff] at hs;cases k with
  | zero=>
   simp only[List.getElem?_cons_zero,Option.some.injEq] at h;subst h;have:=hs.1;rw[show Nat.ble lo i=true from Nat.ble_eq_true_of_le (by omega),show Nat.blt i hi=true from Nat.ble_eq_true_of_le (by omega)] at this;simpa using this
  | succ k=>exact D5v (i+1) xs hs.2 k r (by simpa using h) (by omega) (by omega)
theorem E4g {ms:List Nat} {D:Nat→Bool} {all:List Rec} {j:Nat} {r:Rec}:∀ (l0:Nat) (ss:List Rec),A19 c call ops ms D all j r l0 ss=true→∀ (k:Nat) (s:Rec),ss[k]?=some s→E8 s.o.op=true→D (l0+k)=false→A2w ms j (some (l0+k)) 0 all=true →
  A4 (stepO c call ops r.e s.H' r.o) r.v=true∨(l0+k<j∧A1h (l0+k+1) j 0 all=false)
 | _,[],_,k,s,h,_,_,_=>by simp at h
 | l0,x :: xs,hs,k,s,h,hl,hD,ha=>by
  simp only[A19,Bool.and_eq_true] at hs;cases k with
  | zero=>
   simp only[List.getElem?_cons_zero,Option.some.injEq] at h;subst h;have h1:=hs.1;rw[hl,show A2w ms j (some l0) 0 all=true from ha,show D l0=false from hD] at h1;simp only[Bool.not_false,Bool.and_self,Bool.true_and,Bool.not_not,Bool.or_eq_true,Bool.and_eq_true,Bool.not_eq_true'] at h1;rcases h1 with⟨h1,h2⟩ | h1
   ·exact .inr ⟨Nat.le_of_ble_eq_true h1,h2⟩
   ·exact .inl h1
  | succ k=>rw[show l0+(k+1)=l0+1+k by omega]; exact E4g (l0+1) xs hs.2 k s (by simpa using h) hl (by rwa [show l0+1+k=l0+(k+1) by omega]) (by rwa [show l0+1+k=l0+(k+1) by omega])
theorem E4e {ms:List Nat} {D:Nat→Bool} {H0:A2} {all:List Rec}:∀ (j0:Nat) (rs:List Rec),Y9 c call ops ms D H0 all j0 rs=true→∀ (k:Nat) (r:Rec),rs[k]?=some r→A33 r.o.op=true→D (j0+k)=false →
  (A2w ms (j0+k) none 0 all=true→(A4 (stepO c call ops r.e H0 r.o) r.v=true∨A1h 0 (j0+k) 0 all=false))∧A19 c call ops ms D all (j0+k) r 0 all=true
 | _,[],_,k,r,h,_,_=>by simp at h
 | j0,x :: xs,hs,k,r,h,hr,hD=>by
  simp only[Y9,Bool.and_eq_true] at hs;cases k with
  | zero=>
   simp only[List.getElem?_cons_zero,Option.some.injEq] at h;subst h;have h1:=hs.1;rw[hr,show D j0=false from hD] at h1;simp only[Bool.not_true,Bool.false_or,Bool.and_eq_true] at h1;refine⟨fun ha=>?_,h1.2⟩;have h2:=h1.1;rw[show A2w ms j0 none 0 all=true from ha] at h2;simp only[Bool.true_and,Bool.or_eq_true,Bool.not_eq_true'] at h2;exact h2.symm
  | succ k=>
   have:=E4e (j0+1) xs hs.2 k r (by simpa using h) hr (by rwa [show j0+1+k=j0+(k+1) by omega])
   rwa [show j0+1+k=j0+(k+1) by omega] at this
theorem G95{rs:List Rec}{j:Nat}{H:A2}{L:Nat→Bool}(hL:∀ x,L x=true→x<j)(h:A1h 0 j 0 rs=false):L4 L H 0 rs=H:=by
 rcases D1y (L:=L) 0 rs H with⟨h1,_⟩ | ⟨k,q,h1,h2,h3,_,_⟩
 ·exact h1
 ·have:=D5v 0 rs h k q h1 (by omega) (hL _ h3);rw[h2] at this; cases this
theorem G94{rs:List Rec}{j l:Nat}{H:A2}{s:Rec}{L:Nat→Bool}(hL:∀ x,L x=true→x<j)(hs:rs[l]?=some s)(hLl:L l=true)(hl:E8 s.o.op=true)(h:A1h (l+1) j 0 rs=false):L4 L H 0 rs=s.H':=by
 rcases D1y (L:=L) 0 rs H with⟨_,h2⟩ | ⟨k,q,h1,h2,h3,h4,h5⟩
 ·have:=h2 l s hs hl;rw[Nat.zero_add,hLl] at this; cases this
 ·rw[h4];simp only[Nat.zero_add] at h3;rcases Nat.lt_trichotomy k l with hk | hk | hk
  ·have:=h5 l s hk hs hl;rw[Nat.zero_add,hLl] at this; cases this
  ·subst hk; rw[hs] at h1; injection h1 with h1; rw[h1]
  ·have:=D5v 0 rs h k q h1 (by omega) (by have:=hL _ h3; omega);rw[h2] at this; cases this
theorem B8v(L:Nat→Bool):∀ (a b:List Rec) (e:Env) (i:Nat),W9 L e i (a++b)=W9 L (W9 L e i a) (i+a.length) b
 | [],b,e,i=>rfl
 | r :: a,b,e,i=>by simp only[List.cons_append,W9,List.length_cons,B8v L a b,show i+(a.length+1)=i+1+a.length by omega]
theorem B8q(L:Nat→Bool):∀ (a b:List Rec) (H:A2) (i:Nat),L4 L H i (a++b)=L4 L (L4 L H i a) (i+a.length) b
 | [],b,H,i=>rfl
 | r :: a,b,H,i=>by simp only[List.cons_append,L4,List.length_cons,B8q L a b,show i+(a.length+1)=i+1+a.length by omega]
theorem A5c{L L':Nat→Bool}:∀ (rs:List Rec) (e:Env) (i:Nat),(∀ x,i≤x→x<i+rs.length→L x=L' x)→W9 L e i rs=W9 L' e i rs
 | [],_,_,_=>rfl
 | r :: rs,e,i,h=>by
  simp only[W9];rw[h i (Nat.le_refl _) (by simp)];exact A5c rs _ _ fun x h1 h2=>h x (by omega) (by simp; omega)
theorem A3q{L L':Nat→Bool}:∀ (rs:List Rec) (H:A2) (i:Nat),(∀ x,i≤x→x<i+rs.length→L x=L' x)→L4 L H i rs=L4 L' H i rs
 | [],_,_,_=>rfl
 | r :: rs,e,i,h=>by
  simp only[L4];rw[h i (Nat.le_refl _) (by simp)];exact A3q rs _ _ fun x h1 h2=>h x (by omega) (by simp; omega)
def A4g(c:Cfg)(call:A8)(ops:Array Oper)(D:Nat→Bool)(e0:Env)(H0:A2)(rs:List Rec):Prop :=
 ∀ (j:Nat) (r:Rec),rs[j]?=some r→D j=false→r.e=W9 (fun x=>decide (x<j) && !D x) e0 0 rs∧r.H=L4 (fun x=>decide (x<j) && !D x) H0 0 rs∧stepO c call ops r.e r.H r.o=.ok r.v r.H'
structure Z6 (c:Cfg) (call:A8) (ops:Array Oper) (D:Nat→Bool) (e0:Env) (H0:A2) (rs:List Rec) (e:Env) (H:A2):Prop where
 found:A4g c call ops D e0 H0 rs
 env:e=W9 (fun x=>!D x) e0 0 rs
 heap:H=L4 (fun x=>!D x) H0 0 rs
theorem Z6.nil(c:Cfg)(call:A8)(ops:Array Oper)(D:Nat→Bool)(e0:Env)(H0:A2):Z6 c call ops D e0 H0 [] e0 H0:=⟨fun j r h=>by simp at h,rfl,rfl⟩
theorem A4g.more{D:Nat→Bool}{e0:Env}{H0:A2}{rs:List Rec}(h:A4g c call ops D e0 H0 rs)(r:Rec)(hr:D rs.length=false→r.e=W9 (fun x=>!D x) e0 0 rs∧r.H=L4 (fun x=>!D x) H0 0 rs∧stepO c call ops r.e r.H r.o=.ok r.v r.H') :
  A4g c call ops D e0 H0 (rs++[r]):=by
 have cutE:∀ j,j≤rs.length→W9 (fun x=>decide (x<j) && !D x) e0 0 (rs++[r])=W9 (fun x=>decide (x<j) && !D x) e0 0 rs:=fun j hj=>by
  rw[B8v];simp only[W9,Nat.zero_add];rw[decide_eq_false (by omega)]; rfl
 have cutH:∀ j,j≤rs.length→L4 (fun x=>decide (x<j) && !D x) H0 0 (rs++[r])=L4 (fun x=>decide (x<j) && !D x) H0 0 rs:=fun j hj=>by
  rw[B8q];simp only[L4,Nat.zero_add];rw[decide_eq_false (by omega)]; rfl
 intro j q hq hD;rcases Nat.lt_trichotomy j rs.length with hj | hj | hj
 ·rw[List.getElem?_append_left hj] at hq;obtain⟨h1,h2,h3⟩:=h j q hq hD;rw[cutE j (by omega),cutH j (by omega)];exact⟨h1,h2,h3⟩
 ·subst hj;simp at hq;subst hq;obtain⟨h1,h2,h3⟩:=hr hD;rw[cutE _ (Nat.le_refl _),cutH _ (Nat.le_refl _)];refine⟨h1.trans (A5c _ _ _ fun x _ hx=>?_),h2.trans (A3q _ _ _ fun x _ hx=>?_),h3⟩
  ·rw[decide_eq_true (by omega)]; rfl
  ·rw[decide_eq_true (by omega)]; rfl
 ·rw[List.getElem?_eq_none (by simp; omega)] at hq; cases hq
theorem Z6.step{D:Nat→Bool}{e0 e:Env}{H0 H H':A2}{rs:List Rec}(h:Z6 c call ops D e0 H0 rs e H){o:Oper}{v:Value}(hD:D rs.length=false)(hs:stepO c call ops e H o=.ok v H') :
  Z6 c call ops D e0 H0 (rs++[⟨e,H,v,H',o⟩]) (U1 e o.dst v) H':=by
 refine⟨h.found.more _ fun _=>⟨h.env,h.heap,hs⟩,?_,?_⟩
 ·rw[B8v,← h.env];simp only[W9,Nat.zero_add,hD]; rfl
 ·rw[B8q,← h.heap];simp only[L4,Nat.zero_add,hD];cases hl:E8 o.op with
  | true=>rfl
  | false=>exact B8y hl hs
theorem Z6.skip{D:Nat→Bool}{e0 e:Env}{H0 H:A2}{rs:List Rec}(h:Z6 c call ops D e0 H0 rs e H)(o:Oper)(hD:D rs.length=true) :
  Z6 c call ops D e0 H0 (rs++[⟨e,H,undef,H,o⟩]) e H:=by
 refine⟨h.found.more _ (fun h1=>by rw[hD] at h1; cases h1),?_,?_⟩
 ·rw[B8v,← h.env];simp only[W9,Nat.zero_add,hD]; rfl
 ·rw[B8q,← h.heap];simp only[L4,Nat.zero_add,hD]; rfl
theorem Z6.other{D D':Nat→Bool}{e0 e:Env}{H0 H:A2}{rs:List Rec}(h:Z6 c call ops D e0 H0 rs e H)(hD:∀ x,x<rs.length→D x=D' x):Z6 c call ops D' e0 H0 rs e H:=by
 refine⟨fun j r hr hj=>?_,h.env.trans (A5c _ _ _ fun x _ hx=>by rw[hD x (by omega)]),h.heap.trans (A3q _ _ _ fun x _ hx=>by rw[hD x (by omega)])⟩;have hjl:=(List.getElem?_eq_some_iff.1 hr).1;obtain⟨h1,h2,h3⟩:=h.found j r hr (by rw[hD j hjl]; exact hj);exact⟨h1.trans (A5c _ _ _ fun x _ hx=>by rw[hD x (by omega)]),h2.trans (A3q _ _ _ fun x _ hx=>by rw[hD x (by omega)]),h3⟩
theorem E5f {β:Type} {D:Nat→Bool} {e0:Env} {H0:A2} (K:List Rec→Res β):∀ (os:List Oper) (acc:List Rec) (i:Nat) (e:Env) (H:A2),acc.length=i→Z6 c call ops D e0 H0 acc e H →
  tailK c call ops D os acc i e H K≠.stuck→∃ rs,A4g c call ops D e0 H0 rs∧rs.map (·.o)=acc.map (·.o)++os∧(∀ x,x<i→rs[x]?=acc[x]?)∧tailK c call ops D os acc i e H K=K rs
 | [],acc,i,e,H,hi,hw,hne=>⟨acc,hw.found,by simp,fun _ _=>rfl,rfl⟩
 | o :: os,acc,i,e,H,hi,hw,hne=>by
  simp only[tailK] at hne ⊢
  have fin:∀ r:Rec,r.o=o→∀ e' H',Z6 c call ops D e0 H0 (acc++[r]) e' H'→tailK c call ops D os (acc++[r]) (i+1) e' H' K≠.stuck →
    ∃ rs,A4g c call ops D e0 H0 rs∧rs.map (·.o)=acc.map (·.o)++o :: os∧(∀ x,x<i→rs[x]?=acc[x]?)∧tailK c call ops D os (acc++[r]) (i+1) e' H' K=K rs:=by
   intro r hr e' H' hw' hne';obtain⟨rs,h1,h2,h3,h4⟩:=E5f K os _ (i+1) e' H' (by simp[hi]) hw' hne';refine⟨rs,h1,by rw[h2]; simp[hr],fun x hx=>?_,h4⟩;rw[h3 x (by omega),List.getElem?_append_left (by omega)]
  cases hD:D i with
  | true=>
   rw[hD] at hne;simp only[cond_true] at hne ⊢;exact fin _ rfl _ _ (hw.skip o (by rw[hi]; exact hD)) hne
  | false=>
   rw[hD] at hne;simp only[cond_false] at hne ⊢;cases hs:stepO c call ops e H o with
   | stuck=>rw[hs] at hne; exact absurd rfl hne
   | panic v H'=>rw[hs] at hne; exact absurd rfl hne
   | ok v H'=>
    rw[hs] at hne;simp only[Res.bindN] at hne ⊢;exact fin _ rfl _ _ (hw.step (by rw[hi]; exact hD) hs) hne
theorem E4p {β:Type} {ms:List Nat} {e0:Env} {H0:A2} (hms:∀ x p,x≤p→(ms.getD x 0).testBit p=false) (K:List Rec→A2→Res β):∀ (os:List Oper) (acc:List Rec) (i:Nat) (e:Env) (H:A2),acc.length=i→Z6 c call ops (fun _=>false) e0 H0 acc e H →
  drawK c call ops ms H0 os acc i e H K≠.stuck →
  (∃ rs H',A4g c call ops (fun _=>false) e0 H0 rs∧H'=L4 (fun _=>true) H0 0 rs∧rs.map (·.o)=acc.map (·.o)++os∧drawK c call ops ms H0 os acc i e H K=K rs H') ∨
  (∃ p rs r v Hp,A4g c call ops (A0q ms p) e0 H0 rs∧rs.map (·.o)=acc.map (·.o)++os∧rs[p]?=some r∧r.e=W9 (fun x=>decide (x<p) && !A0q ms p x) e0 0 rs∧r.H=L4 (fun x=>decide (x<p) && !A0q ms p x) H0 0 rs ∧
   stepO c call ops r.e r.H r.o=.panic v Hp∧A14 r.o.op=true∧Y9 c call ops ms (A0q ms p) H0 rs 0 rs=true∧drawK c call ops ms H0 os acc i e H K=.panic v Hp)
 | [],acc,i,e,H,hi,hw,hne=>.inl ⟨acc,H,hw.found,hw.heap,by simp,rfl⟩
 | o :: os,acc,i,e,H,hi,hw,hne=>by
  have go:∀ v H',stepO c call ops e H o=.ok v H'→drawK c call ops ms H0 os (acc++[⟨e,H,v,H',o⟩]) (i+1) (U1 e o.dst v) H' K≠.stuck→_:=fun v H' hs hne'=>
   E4p hms K os (acc++[⟨e,H,v,H',o⟩]) (i+1) (U1 e o.dst v) H' (by simp[hi]) (hw.step rfl hs) hne'
  simp only[drawK] at hne ⊢;cases hcan:A14 o.op with
  | false=>
   rw[hcan] at hne;simp only[cond_false] at hne ⊢;cases hs:stepO c call ops e H o with
   | stuck=>rw[hs] at hne; exact absurd rfl hne
   | panic v H'=>rw[hs] at hne; exact absurd rfl hne
   | ok v H'=>
    rw[hs] at hne;simp only[Res.bindN] at hne ⊢;have:=go v H' hs hne;simpa using this
  | true=>
   rw[hcan] at hne;simp only[cond_true] at hne ⊢;cases hs:stepO c call ops e H o with
   | stuck=>rw[hs] at hne; exact absurd rfl hne
   | ok v H'=>
    rw[hs] at hne;simp only[Res.bindP] at hne ⊢;have:=go v H' hs hne;simpa using this
   | panic v H'=>
    rw [hs] at hne;simp only[Res.bindP] at hne ⊢;have hw1:Z6 c call ops (A0q ms i) e0 H0 acc e H:=hw.other fun x hx=>by
     unfold A0q;rw[hms x i (by omega)];have:Nat.beq x i=false:=by
      cases hb:Nat.beq x i with
      | false=>rfl
      | true=>have:=Nat.eq_of_beq_eq_true hb; omega
     rw[this]; rfl
    have hDi:A0q ms i i=true:=by unfold A0q; simp
    have hw2:=hw1.skip o (by rw[hi]; exact hDi);obtain⟨rs,h1,h2,h3,h4⟩:=E5f _ os _ (i+1) e H (by simp[hi]) hw2 hne;rw[h4] at hne ⊢;cases hc:Y9 c call ops ms (A0q ms i) H0 rs 0 rs with
    | false=>rw[hc] at hne; exact absurd rfl hne
    | true=>
     have hri:rs[i]?=some ⟨e,H,undef,H,o⟩:=by rw[h3 i (by omega),← hi]; simp
     have hpre:∀ x,x<acc.length→rs[x]?=acc[x]?:=fun x hx=>by
      rw[h3 x (by omega),List.getElem?_append_left hx]
     have hsplit:rs=acc++rs.drop acc.length:=by
      refine List.ext_getElem? fun n=>?_;by_cases hn:n<acc.length
      ·rw[List.getElem?_append_left hn,hpre n hn]
      ·rw[List.getElem?_append_right (by omega),List.getElem?_drop];congr 1; omega
     have cutE:e=W9 (fun x=>decide (x<i) && !A0q ms i x) e0 0 rs:=by
      rw[hsplit,B8v,D6y,← A5c (L:=fun x=>!A0q ms i x)]
      ·exact hw1.env
      ·intro x _ hx; rw[decide_eq_true (by omega)]; rfl
      ·intro x hx; rw[decide_eq_false (by omega)]; rfl
     have cutH:H=L4 (fun x=>decide (x<i) && !A0q ms i x) H0 0 rs:=by
      rw[hsplit,B8q,D1z,← A3q (L:=fun x=>!A0q ms i x)]
      ·exact hw1.heap
      ·intro x _ hx; rw[decide_eq_true (by omega)]; rfl
      ·intro x hx; rw[decide_eq_false (by omega)]; rfl
     exact .inr ⟨i,rs,_,v,H',h1,by rw[h2]; simp,hri,cutE,cutH,hs,hcan,hc,rfl⟩
theorem D5u {ms:List Nat} {j:Nat} {l:Option Nat}:∀ (i0:Nat) (rs:List Rec),(∀ (k:Nat) (r:Rec),rs[k]?=some r→E8 r.o.op=true →
    (match l with
       | none=>(ms.getD j 0).testBit (i0+k)=false
       | some l=>((ms.getD j 0).testBit (i0+k)=true→i0+k≤l)∧(i0+k≤l→(ms.getD (i0+k) 0).testBit j=false)))→A2w ms j l i0 rs=true
  | _,[],_=>rfl
  | i0, r :: rs,h=>by
    simp only[A2w,Bool.and_eq_true];refine⟨?_,D5u (i0+1) rs fun k q hq hl=>by have:=h (k+1) q (by simpa using hq) hl; rwa [show i0+1+k=i0+(k+1) by omega]⟩;cases hl:E8 r.o.op with
    | false=>rfl
    | true =>
      simp only[Bool.not_true,Bool.false_or];have h0:=h 0 r rfl hl;simp only[Nat.add_zero] at h0;cases l with
      | none=>simp only at h0 ⊢; rw[h0]; rfl
      | some l=>
        simp only at h0 ⊢;simp only[Bool.and_eq_true,Bool.or_eq_true,Bool.not_eq_true'];refine⟨?_,?_⟩
        · cases hb:(ms.getD j 0).testBit i0 with
          | false=>exact .inl rfl
          | true=>exact .inr (Nat.ble_eq_true_of_le (h0.1 hb))
        · cases hb:Nat.ble i0 l with
          | false=>exact .inl rfl
          | true=>exact .inr (h0.2 (Nat.le_of_ble_eq_true hb))
theorem E4x{r:Res Value}{v:Value}(h:A4 r v=true):∃ H,r=.ok v H:=by
 unfold A4 at h;split at h
 ·rename_i u H;exact⟨H,by rw[B2p h]⟩
 ·cases h
theorem Env.ζot (ks:List Nat) (e:Env) {t:Nat} (ht:t ∈ ks):(Env.keep ks e).get t=e.get t:=by
 induction e with
 | nil=>rfl
 | cons x e ih=>
  obtain⟨k,u⟩:=x;simp only[Env.keep];split
  ·simp only[Env.get];split
   ·rfl
   ·exact ih
  ·rename_i hc;simp only[Env.get];rw[if_neg,ih];intro hk;have hk:k=t:=by simpa using hk
   subst hk;exact hc (by simpa using ht)
def A4y(L:Nat→Bool)(rs:List Rec)(x:Nat):Prop:=L x=true∧∀ r,rs[x]?=some r→A21 r.o=true→∀ (k:Nat) (q:Rec),k<x→rs[k]?=some q→E8 q.o.op=true→L k=true
noncomputable def A2k(L:Nat→Bool)(rs:List Rec)(x:Nat):Bool:=@decide (A4y L rs x) (Classical.propDecidable _)
theorem A0e{L:Nat→Bool}{rs:List Rec}{x:Nat}:A2k L rs x=true↔A4y L rs x:=by unfold A2k; exact @decide_eq_true_iff _ (Classical.propDecidable _)
theorem G7q{L:Nat→Bool}{rs:List Rec}{x:Nat}:A2k L rs x=false↔¬ A4y L rs x:=by rw[← A0e]; simp
def B4j(w0:G4)(μ:Mu)(H:A2)(w:World)(tmps:Array Value)(r:Rec)(B:Nat):Prop :=
 ∃ f cells esz cs el,r.v=A5e f r.H.n∧r.H'=r.H.push ⟨cells,esz,false⟩∧w.heap[B]?=some (.cells cs el (0,0))∧VRs μ cells cs.toList∧M7 cells∧¬ w0.S B ∧
  (∀ b k m,H.get b=some k→k.ro=false→μ b=some m→m.blk≠B)∧(∀ d,r.o.dst=some d→tmps[d]?=some (A5e f B))∧∀ o,μ.z B≠some o
structure Inv (ds:List Deferred) (w0:G4) (nt:Nat) (ms:List Nat) (e:Env) (H:A2) (rs:List Rec) (L C:Nat→Bool) (Bf:Nat→Nat) (μ:Mu) (a:Act) (w:World):Prop where
 sub:∀ x,C x=true→L x=true
 rest:∀ (x:Nat) (r:Rec),rs[x]?=some r→L x=true→C x=false→A21 r.o=true
 pre:∀ (x y:Nat) (q r:Rec),x<y→rs[x]?=some q→rs[y]?=some r→E8 q.o.op=true→E8 r.o.op=true→C y=true→C x=true
 dep:∀ (x k:Nat) (r:Rec),rs[x]?=some r→k<x→C x=true→(ms.getD x 0).testBit k=true→C k=true
 heap:HR w0 μ (L4 C H 0 rs) w
 size:nt≤a.tmps.size
 env:∀ t v,(∀ (x:Nat) (r:Rec),rs[x]?=some r→L x=true→C x=false→r.o.dst≠some t)→(W9 C e 0 rs).get t=some v→∃ v',a.tmps[t]?=some v'∧VR μ v v'
 pend:∀ (x:Nat) (r:Rec),rs[x]?=some r→L x=true→C x=false→B4j w0 μ (L4 C H 0 rs) w a.tmps r (Bf x)
 inj:∀ (x y:Nat) (r s:Rec),rs[x]?=some r→rs[y]?=some s→L x=true→C x=false→L y=true→C y=false→Bf x=Bf y→x=y
 defers:a.defers=ds
theorem B4j.up{w0:G4}{μ μ':Mu}{H H':A2}{w w':World}{tmps tmps':Array Value}{r:Rec}{B:Nat}(h:B4j w0 μ H w tmps r B)(hle:μ.le μ')(hw:w'.heap[B]?=w.heap[B]?)
  (hfree:∀ b k m,H'.get b=some k→k.ro=false→μ' b=some m→m.blk≠B) (hz:∀ o,μ'.z B≠some o) (ht:∀ d,r.o.dst=some d→tmps'[d]?=tmps[d]?):B4j w0 μ' H' w' tmps' r B:=by
 obtain⟨f,cells,esz,cs,el,h1,h2,h3,h4,h5,h6,h7,h8,h9⟩:=h;exact⟨f,cells,esz,cs,el,h1,h2,hw.trans h3,h4.up hle,h5,h6,hfree,fun d hd=>(ht d hd).trans (h8 d hd),hz⟩
theorem B4j.free{w0:G4}{μ:Mu}{H:A2}{w:World}{tmps:Array Value}{r:Rec}{B:Nat}(h:B4j w0 μ H w tmps r B):∀ o,μ.z B≠some o:=by
 obtain⟨f,cells,esz,cs,el,h1,h2,h3,h4,h5,h6,h7,h8,h9⟩:=h;exact h9
theorem Inv.congr{ds:List Deferred}{w0:G4}{nt:Nat}{ms:List Nat}{e:Env}{H:A2}{rs:List Rec}{L C C':Nat→Bool}{Bf:Nat→Nat}{μ:Mu}{a:Act}{w:World}
  (hc:∀ (x:Nat) (r:Rec),rs[x]?=some r→C' x=C x) (hsub:∀ x,C' x=true→L x=true)
  (h:Inv ds w0 nt ms e H rs L C Bf μ a w):Inv ds w0 nt ms e H rs L C' Bf μ a w:=by
 have hH:L4 C' H 0 rs=L4 C H 0 rs:=B39 0 rs H fun k r hr _=>by simp only[Nat.zero_add]; exact hc k r hr
 have hE:∀ t,(W9 C' e 0 rs).get t=(W9 C e 0 rs).get t:=fun t=>B5a 0 rs e e (fun k r hr _=>by simp only[Nat.zero_add]; exact hc k r hr) rfl;constructor
 ·exact hsub
 ·intro x r hr hl hx; rw[hc x r hr] at hx; exact h.rest x r hr hl hx
 ·intro x y q r hxy hq hr h1 h2 hy;rw[hc y r hr] at hy;rw[hc x q hq];exact h.pre x y q r hxy hq hr h1 h2 hy
 ·intro x k r hr hk hx hb;rw[hc x r hr] at hx;have hlt:x<rs.length:=(List.getElem?_eq_some_iff.1 hr).1;rw[hc k (rs[k]'(by omega)) (List.getElem?_eq_getElem (by omega))];exact h.dep x k r hr hk hx hb
 ·rw[hH]; exact h.heap
 ·exact h.size
 ·intro t v hnp hv;rw[hE] at hv;exact h.env t v (fun x r hr hl hx=>hnp x r hr hl (by rw[hc x r hr]; exact hx)) hv
 ·intro x r hr hl hx;rw[hc x r hr] at hx;rw[hH];exact h.pend x r hr hl hx
 ·intro x y r s hr hs hl hx hl2 hy he;rw[hc x r hr] at hx;rw[hc y s hs] at hy;exact h.inj x y r s hr hs hl hx hl2 hy he
 ·exact h.defers
theorem E4m {ds:List Deferred} {w0:G4} {nt:Nat} {e:Env} {H:A2} {rs:List Rec} {D:Nat→Bool} (hspec:A4g c call ops D e H rs) {L C:Nat→Bool} {Bf:Nat→Nat} {μ:Mu} {a:Act} {w:World} {ms:List Nat}
  (hdep:∀ (x k:Nat) (r:Rec),rs[x]?=some r→A21 r.o=true→L x=true→k<x→(ms.getD x 0).testBit k=true→L k=true∧∀ q,rs[k]?=some q→A21 q.o=true→A4y L rs k)
  (hpair:∀ (k l:Nat) (q s:Rec),rs[k]?=some q→rs[l]?=some s→k<l→(Oper.apart ops q.o s.o=true∨(ms.getD l 0).testBit k=true))
  (hpre:∀ (x y:Nat) (q r:Rec),x<y→rs[x]?=some q→rs[y]?=some r→E8 q.o.op=true→E8 r.o.op=true→A4y L rs y→A4y L rs x)
  (hLD:∀ x,L x=true→D x=false) (h:Inv ds w0 nt ms e H rs L C Bf μ a w):∀ k,∃ μ',μ.le μ'∧Inv ds w0 nt ms e H rs L (fun x=>C x || (decide (x<k) && A2k L rs x)) Bf μ' a w
 | 0=>by
  refine⟨μ,Mu.le_refl _,?_⟩;have:(fun x=>C x || (decide (x<0) && A2k L rs x))=C:=by funext x; simp
  rw[this]; exact h
 | k + 1=>by
  obtain⟨μ',hle,hi⟩:=E4m hspec hdep hpair hpre hLD h k;by_cases hk:A2k L rs k=true∧C k=false∧k<rs.length
  ·obtain ⟨hact,hck,hkl⟩:=hk;have hA:=A0e.1 hact;obtain⟨r,hr⟩:∃ r,rs[k]?=some r:=⟨rs[k],List.getElem?_eq_getElem hkl⟩
   generalize hCk:(fun x=>C x || (decide (x<k) && A2k L rs x))=Ck at hi;have hCkx:∀ x,Ck x=(C x || (decide (x<k) && A2k L rs x)):=fun x=>by rw[← hCk]
   have hckk:Ck k=false:=by rw[hCkx,hck]; simp
   have hnew:(fun x=>C x || (decide (x<k+1) && A2k L rs x))=fun x=>x == k || Ck x:=by
    funext x;rw[hCkx];rcases Nat.lt_trichotomy x k with hx | hx | hx
    ·have h1:decide (x<k+1)=true:=by simp; omega
     have h2:decide (x<k)=true:=by simp; omega
     have h3:(x == k)=false:=by simp; omega
     rw[h1,h2,h3,Bool.false_or]
    ·subst hx;simp[hact]
    ·have h1:decide (x<k+1)=false:=by simp; omega
     have h2:decide (x<k)=false:=by simp; omega
     have h3:(x == k)=false:=by simp; omega
     rw[h1,h2,h3,Bool.false_or]
   rw [hnew];have hmk:=hi.rest k r hr hA.1 hckk;have hloud:=(D70 hmk).1;have hbefore:∀ (x:Nat) (q:Rec),x<k→rs[x]?=some q→E8 q.o.op=true→Ck x=true:=by
    intro x q hx hq hl;rw[hCkx];have:=A0e.2 (hpre x k q r hx hq hr hl hloud hA);simp[hx,this]
   have hafter:∀ (x:Nat) (q:Rec),k<x→rs[x]?=some q→E8 q.o.op=true→Ck x=false:=by
    intro x q hx hq hl;cases hcx:Ck x with
    | false=>rfl
    | true=>
     have:=hi.pre k x r q hx hr hq hloud hl hcx;rw[hckk] at this; cases this
   obtain ⟨hre,hrH,hstep⟩:=hspec k r hr (hLD k hA.1);have hHr:L4 Ck H 0 rs=r.H:=by
    rw[hrH];refine B39 0 rs H fun x q hq hl=>?_;simp only[Nat.zero_add];rcases Nat.lt_trichotomy x k with hx | hx | hx
    ·rw[hbefore x q hx hq hl,decide_eq_true hx,hLD x (hi.sub x (hbefore x q hx hq hl))]; rfl
    ·subst hx; rw[hckk]; simp
    ·rw[hafter x q hx hq hl,decide_eq_false (by omega)]; rfl
   have hHn:L4 (fun x=>x == k || Ck x) H 0 rs=r.H':=D6z 0 k rs H (by omega) hr hloud fun x q hx hq hl=>by
    simp only[Nat.zero_add]; exact hafter x q hx hq hl
   obtain ⟨f,cells,esz,cs,el,p1,p2,p3,p4,p5,p6,p7,p8,p9⟩:=hi.pend k r hr hA.1 hckk;have hheap:=hi.heap;rw[hHr] at hheap p7;have hadopt:=hheap.adopt cells cs el esz (Bf k) p3 p6 p7 p4 p5 p9;rw[← p2] at hadopt;have hle2:=Mu.le_set (μ:=μ') hheap.dom ⟨Bf k,0,cs.size,esz,false⟩;have hlater:∀ (x:Nat) (q:Rec) (s:Tmp),k<x→rs[x]?=some q→q.o.dst=some s→r.o.dst=some s→Ck x=true→False:=by
    intro x q s hx hq hqd hrd hcx;rcases hpair k x r q hr hq hx with h1 | h1
    ·exact (Oper.apart_spec h1).2.1 s hrd hqd
    ·have:=hi.dep x k q hq hx hcx h1;rw[hckk] at this; cases this
   refine ⟨μ'.set r.H.n ⟨Bf k,0,cs.size,esz,false⟩,Mu.le_trans hle hle2,?_⟩;have hget:∀ b kk m,r.H'.get b=some kk→kk.ro=false→(μ'.set r.H.n ⟨Bf k,0,cs.size,esz,false⟩) b=some m→m.blk=Bf k∨(∃ kk',r.H.get b=some kk'∧kk'.ro=false∧μ' b=some m):=by
    intro b kk m hb hro hm;rw[p2,A2.get_push] at hb;rw[Mu.set_get] at hm;by_cases hbn:b=r.H.n
    ·rw[if_pos hbn] at hm;injection hm with hm;subst hm;exact .inl rfl
    ·rw[if_neg hbn] at hb hm;exact .inr ⟨kk,hb,hro,hm⟩
   constructor
   ·intro x hx;simp only[Bool.or_eq_true,beq_iff_eq] at hx;rcases hx with hx | hx
    ·subst hx; exact hA.1
    ·exact hi.sub x hx
   ·intro x q hq hl hc;simp only[Bool.or_eq_false_iff] at hc;exact hi.rest x q hq hl hc.2
   ·intro x y q s hxy hq hs hlq hls hc;simp only[Bool.or_eq_true,beq_iff_eq] at hc ⊢;rcases hc with hc | hc
    ·subst hc;exact .inr (hbefore x q hxy hq hlq)
    ·exact .inr (hi.pre x y q s hxy hq hs hlq hls hc)
   ·intro x y q hq hyx hc hb;simp only[Bool.or_eq_true,beq_iff_eq] at hc ⊢;rcases hc with hc | hc
    ·subst hc;obtain⟨d2,d3⟩:=hdep x y q hq (by rw[hr] at hq; injection hq with hq; subst hq; exact hmk) hA.1 hyx hb;cases hcy:Ck y with
     | true=>exact .inr rfl
     | false=>
      obtain⟨s,hs⟩:∃ s,rs[y]?=some s:=⟨rs[y]'(by omega),List.getElem?_eq_getElem (by omega)⟩
      have hm:=hi.rest y s hs d2 hcy;have:=hbefore y s hyx hs (D70 hm).1;rw[hcy] at this; cases this
    ·exact .inr (hi.dep x y q hq hyx hc hb)
   ·rw[hHn]; exact hadopt
   ·exact hi.size
   ·intro t v hnp hv;rw[A7x 0 k rs e (by omega) hr hckk (fun x q s hx hq hqd hrd=>by
     simp only[Nat.zero_add];cases hcx:Ck x with
     | false=>rfl
     | true=>exact (hlater x q s hx hq hqd hrd hcx).elim)] at hv
    cases hd:r.o.dst with
    | none=>
     rw [hd] at hv;obtain⟨v',e1,r1⟩:=hi.env t v (fun x q hq hl hc=>by
      by_cases hxk:x=k
      ·subst hxk;rw[hr] at hq; injection hq with hq; subst hq;rw[hd]; simp
      ·exact hnp x q hq hl (by simp[hxk,hc])) hv
     exact⟨v',e1,r1.up hle2⟩
    | some d=>
     rw[hd] at hv;simp only[U1,Env.get_put] at hv;split at hv
     ·rename_i htd;injection hv with hv;subst hv htd;refine⟨A5e f (Bf k),p8 t hd,?_⟩;rw[p1];exact VR.form f
     ·rename_i htd;obtain⟨v',e1,r1⟩:=hi.env t v (fun x q hq hl hc=>by
       by_cases hxk:x=k
       ·subst hxk;rw[hr] at hq; injection hq with hq; subst hq;rw[hd]; intro he; injection he with he; exact htd he.symm
       ·exact hnp x q hq hl (by simp[hxk,hc])) hv
      exact⟨v',e1,r1.up hle2⟩
   ·intro x q hq hl hc;simp only[Bool.or_eq_false_iff,beq_eq_false_iff_ne] at hc;have hp:=hi.pend x q hq hl hc.2;rw[hHn];refine hp.up hle2 rfl (fun b kk m hb hro hm=>?_) hp.free fun d _=>rfl;rcases hget b kk m hb hro hm with h1 | ⟨kk',h1,h2,h3⟩
    ·intro he;exact hc.1 ((hi.inj x k q r hq hr hl hc.2 hA.1 hckk (by rw[← he,h1])))
    ·obtain⟨_,_,_,_,_,_,_,_,_,_,_,q7,_⟩:=hp;rw[hHr] at q7;exact q7 b kk' m h1 h2 h3
   ·intro x y q s hq hs hl hc hl2 hc2 he;simp only[Bool.or_eq_false_iff] at hc hc2;exact hi.inj x y q s hq hs hl hc.2 hl2 hc2.2 he
   ·exact hi.defers
  ·refine ⟨μ',hle,?_⟩;have hiff:∀ x,x<rs.length→(C x || (decide (x<k+1) && A2k L rs x))=(C x || (decide (x<k) && A2k L rs x)):=by
    intro x hx;rcases Nat.lt_trichotomy x k with h1 | h1 | h1
    ·have h2:decide (x<k+1)=true:=by simp; omega
     rw[h2,decide_eq_true h1]
    ·subst h1;cases hc:C x with
     | true=>rfl
     | false=>
      have:A2k L rs x=false:=by
       cases hb:A2k L rs x with
       | false=>rfl
       | true=>exact absurd ⟨hb,hc,hx⟩ hk
      rw[this]; simp
    ·have h2:decide (x<k+1)=false:=by simp; omega
     have h3:decide (x<k)=false:=by simp; omega
     rw[h2,h3]
   exact Inv.congr (fun x r hr=>(hiff x (List.getElem?_eq_some_iff.1 hr).1)) (fun x hx=>by
    simp only[Bool.or_eq_true,Bool.and_eq_true,decide_eq_true_eq] at hx;rcases hx with hx | hx
    ·exact h.sub x hx
    ·exact (A0e.1 hx.2).1) hi
theorem B45{ms:List Nat}{nt:Nat}(hst:A0m ops ms nt 0 ops.toList=true):∀ (j:Nat) (o:Oper),ops[j]?=some o→∀ i,(ms.getD j 0).testBit i=true→i<j:=by
 intro j
 induction j using Nat.strongRecOn with
 | _ j ih=>
  intro o ho i hb;have ho':ops.toList[j]?=some o:=by rw[Array.getElem?_toList]; exact ho
  obtain⟨h1,h2,h3,h4,_⟩:=B3a ops.toList 0 hst j o ho';simp only[Nat.zero_add] at h2 h3;rw[h3] at hb;obtain⟨e,he,hbind,hor⟩:=D20 ms o i _ hb;have hlt:=h2 e he hbind;rcases hor with rfl | hor
  ·exact hlt
  ·have hjn:j<ops.size:=(Array.getElem?_eq_some_iff.1 ho).1;have:=ih e.on hlt _ (Array.getElem?_eq_getElem (by omega)) i hor;omega
theorem Env.ζp2 (ks:List Nat) (e:Env) {t:Nat} {v:Value} (h:(Env.keep ks e).get t=some v):t ∈ ks:=by
 induction e with
 | nil=>cases h
 | cons x e ih=>
  obtain⟨k,u⟩:=x;simp only[Env.keep] at h;split at h
  ·rename_i hc;simp only[Env.get] at h;split at h
   ·rename_i hk;have hk:k=t:=by simpa using hk
    subst hk;simpa using hc
   ·exact ih h
  ·exact ih h
theorem Inv.lt{ds:List Deferred}{w0:G4}{nt:Nat}{ms:List Nat}{e:Env}{H:A2}{rs:List Rec}{L C:Nat→Bool}{Bf:Nat→Nat}{μ:Mu}{a:Act}{w:World}(h:Inv ds w0 nt ms e H rs L C Bf μ a w){x:Nat}{r:Rec}(hr:rs[x]?=some r)(hl:L x=true)(hc:C x=false):Bf x<w.heap.size:=by
 obtain⟨_,_,_,_,_,_,_,h3,_⟩:=h.pend x r hr hl hc;rcases Nat.lt_or_ge (Bf x) w.heap.size with hlt | hge
 ·exact hlt
 ·rw[Array.getElem?_eq_none hge] at h3; cases h3
def D2o(c:Cfg)(call:A8)(ops:Array Oper)(ms:List Nat)(D:Nat→Bool)(e:Env)(H:A2)(rs:List Rec)(res:Res (D0 × Env)):Prop :=
 ((∀ x,D x=false)∧res=.ok (.normal,A5d e rs) (L4 (fun _=>true) H 0 rs)) ∨
 (∃ p r v Hp,rs[p]?=some r∧D p=true∧(∀ i,D i=true→i=p∨(ms.getD i 0).testBit p=true)∧r.e=W9 (fun x=>decide (x<p) && !D x) e 0 rs∧r.H=L4 (fun x=>decide (x<p) && !D x) H 0 rs ∧
  stepO c call ops r.e r.H r.o=.panic v Hp∧A14 r.o.op=true∧res=.panic v Hp)
theorem E5u (hc : N7 c.P call) {nt:Nat} {ops:Array Oper} {e:Env} {H:A2} {ms:List Nat} {D:Nat→Bool} {rs:List Rec} {res:Res (D0 × Env)}
    (hst:A0m ops ms nt 0 ops.toList=true) (hstab:Y9 c call ops ms D H rs 0 rs=true) (hmap:rs.map (·.o)=ops.toList) (hrec:A4g c call ops D e H rs) (hres:D2o c call ops ms D e H rs res)
    {ds : List Deferred} {w0 : G4} {μ0:Mu} {a0:Act} {w00:World} (hH0:HR w0 μ0 H w00) (hE0:ER μ0 nt e a0.tmps) (hd0:a0.defers=ds):wpAny c.P .any ops (Out ds w0 μ0 nt res) ops.size (Array.replicate ops.size false) a0 { w00 with drawn:=w00.drawn+1 }:=by
      have hlen:rs.length=ops.size:=by have:=congrArg List.length hmap; simpa using this
      have hro:∀ (j:Nat) (r:Rec),rs[j]?=some r→ops[j]?=some r.o:=by
        intro j r hr;rw[← Array.getElem?_toList,← hmap,List.getElem?_map,hr]; rfl
      have hor:∀ (j:Nat) (o:Oper),ops[j]?=some o→∃ r,rs[j]?=some r∧r.o=o:=by
        intro j o ho;have hjn:j<rs.length:=by rw[hlen]; exact (Array.getElem?_eq_some_iff.1 ho).1
        refine⟨rs[j],List.getElem?_eq_getElem hjn,?_⟩;have:=hro j rs[j] (List.getElem?_eq_getElem hjn);rw[ho] at this; injection this with this; exact this.symm
      have hpair2:∀ (k l:Nat) (q s:Rec),rs[k]?=some q→rs[l]?=some s→k<l→((Oper.apart ops q.o s.o=true∧(E8 q.o.op=false∨E8 s.o.op=false∨A21 s.o=true))∨(ms.getD l 0).testBit k=true):=by
        intro k l q s hq hs hkl;have h4:=(B3a ops.toList 0 hst l s.o (by rw[Array.getElem?_toList]; exact hro l s hs)).2.2.2.1;simp only[Nat.zero_add] at h4;have:=E4z 0 _ h4 k q.o (by rw[List.getElem?_take,if_pos hkl,Array.getElem?_toList]; exact hro k q hq);simpa using this
      have hpair:∀ (k l:Nat) (q s:Rec),rs[k]?=some q→rs[l]?=some s→k<l→(Oper.apart ops q.o s.o=true∨(ms.getD l 0).testBit k=true):=by
        intro k l q s hq hs hkl;rcases hpair2 k l q s hq hs hkl with h | h
        · exact .inl h.1
        · exact .inr h
      have hmkin:∀ (x k b:Nat) (r q s:Rec),rs[x]?=some r→rs[k]?=some q→A21 q.o=true→(ms.getD x 0).testBit k=true→rs[b]?=some s→E8 s.o.op=true→b<k→(ms.getD x 0).testBit b=true:=by
        intro x k b r q s hx hk hm hb hs hl hbk;have h5:=(B3a ops.toList 0 hst x r.o (by rw[Array.getElem?_toList]; exact hro x r hx)).2.2.2.2;simp only[Nat.zero_add] at h5;have h6:=E67 0 _ h5 k q.o (by rw[Array.getElem?_toList]; exact hro k q hk) hm (by simpa using hb);have:=E45 0 _ h6 b s.o (by rw[Array.getElem?_toList]; exact hro b s hs) hl (by omega);simpa using this
      -- of any closed set
      have hmaskL:∀ L,A4n ops L→∀ (k:Nat) (q:Rec),rs[k]?=some q→L k=true→∀ i,(ms.getD k 0).testBit i=true→L i=true :=
        fun L hcl k q hq hk=>E47 hst hcl k q.o (hro k q hq) (hcl k q.o (hro k q hq) hk)
      have hdepL:∀ L,A4n ops L→∀ (x k:Nat) (r:Rec),rs[x]?=some r→A21 r.o=true→L x=true→k<x→(ms.getD x 0).testBit k=true→L k=true∧∀ q,rs[k]?=some q→A21 q.o=true→A4y L rs k:=by
        intro L hcl x k r hx _ hLx hkx hb;refine⟨hmaskL L hcl x r hx hLx k hb,fun q hq hm=>⟨hmaskL L hcl x r hx hLx k hb,fun q' hq' hm' b s hbk hs hl=>?_⟩⟩;exact hmaskL L hcl x r hx hLx b (hmkin x k b r q s hx hq hm hb hs hl hbk)
      have hpreL:∀ L,A4n ops L→∀ (x y:Nat) (q r:Rec),x<y→rs[x]?=some q→rs[y]?=some r→E8 q.o.op=true→E8 r.o.op=true→A4y L rs y→A4y L rs x:=by
        intro L hcl x y q r hxy hq hr hlq hlr hD;have hall:∀ (b:Nat) (s:Rec),b<y→rs[b]?=some s→E8 s.o.op=true→L b=true:=by
          intro b s hby hs hls;cases hm:A21 r.o with
          | true=>exact hD.2 r hr hm b s hby hs hls
          | false=>
            rcases hpair2 b y s r hs hr hby with h | h
            · rcases h.2 with h | h | h
              · rw[hls] at h; cases h
              · rw[hlr] at h; cases h
              · rw[hm] at h; cases h
            · exact hmaskL L hcl y r hr hD.1 b h
        exact⟨hall x q hxy hq hlq,fun _ _ _ b s hbx hs hls=>hall b s (by omega) hs hls⟩
      -- from any stage to the one that has all in that may be in
      have settle:∀ L C Bf μ a w,A4n ops L→(∀ x,L x=true→D x=false)→(∀ x,C x=true→A4y L rs x)→Inv ds w0 nt ms e H rs L C Bf μ a w→∃ μ',μ.le μ'∧Inv ds w0 nt ms e H rs L (A2k L rs) Bf μ' a w:=by
        intro L C Bf μ a w hcl hLD hCD hi;obtain⟨μ',hle,h⟩:=E4m hrec (hdepL L hcl) hpair (hpreL L hcl) hLD hi rs.length;refine⟨μ',hle,h.congr (fun x r hr=>?_) fun x hx=>(A0e.1 hx).1⟩;have hxl:x<rs.length:=(List.getElem?_eq_some_iff.1 hr).1;rw[decide_eq_true hxl,Bool.true_and];cases hcx:C x with
        | true=>rw[A0e.2 (hCD x hcx)]; rfl
        | false=>rfl
      -- all is done
      have finish:∀ L Bf μ a w,(∀ j,j<ops.size→L j=true)→(∀ x,L x=true→D x=false)→μ0.le μ→Inv ds w0 nt ms e H rs L (A2k L rs) Bf μ a w→Out ds w0 μ0 nt res .normal a w:=by
        intro L Bf μ a w hall hLD hle hi;rcases hres with⟨_,hres⟩ | ⟨p,r,v,Hp,hp,hDp,_⟩
        rotate_left
        · exfalso;have:=hLD p (hall p (by rw[← hlen]; exact (List.getElem?_eq_some_iff.1 hp).1));rw[hDp] at this; cases this
        rw[hres];have hD:∀ (x:Nat) (r:Rec),rs[x]?=some r→A2k L rs x=true:=fun x r hr=>A0e.2 ⟨hall x (by rw[← hlen]; exact (List.getElem?_eq_some_iff.1 hr).1),fun _ _ _ k q _ hq _=>hall k (by rw[← hlen]; exact (List.getElem?_eq_some_iff.1 hq).1)⟩;refine⟨μ,hle,?_,⟨hi.size,fun t v hv=>?_⟩,hi.defers,rfl⟩
        · rw[B39 (L':=A2k L rs) 0 rs H fun k r hr _=>by simp only[Nat.zero_add]; exact (hD k r hr).symm];exact hi.heap
        · refine hi.env t v (fun x r hr _ hx=>by rw[hD x r hr] at hx; cases hx) ?_;rw[E42 0] at hv;rw[← hv];exact B5a 0 rs e e (fun k r hr _=>by simp only[Nat.zero_add]; exact hD k r hr) rfl
      -- the walk along any order
      have main : ∀ (fuel : Nat) (listed:Array Bool) (Bf:Nat→Nat) (μ:Mu) (a:Act) (w:World),listed.size=ops.size→((List.range ops.size).filter fun i=>!listed.getD i false).length≤fuel →
          A4n ops (fun x=>listed.getD x false)→(∀ x,listed.getD x false=true→D x=false)→μ0.le μ→Inv ds w0 nt ms e H rs (fun x=>listed.getD x false) (A2k (fun x=>listed.getD x false) rs) Bf μ a w →
          wpAny c.P .any ops (Out ds w0 μ0 nt res) fuel listed a w:=by
        intro fuel
        induction fuel with
        | zero =>
          intro listed Bf μ a w hsz hf hcl hLD hle hi;have hall:∀ j,j<ops.size→listed.getD j false=true:=by
            intro j hj;cases hb:listed.getD j false with
            | true=>rfl
            | false=>
              exfalso;have hm:j ∈ (List.range ops.size).filter fun i=>!listed.getD i false:=List.mem_filter.2 ⟨List.mem_range.2 hj,by rw[hb]; rfl⟩;have:=List.length_pos_of_mem hm;omega
          refine⟨?_,finish _ Bf μ a w hall hLD hle hi⟩;unfold Region.ready;refine List.filter_eq_nil_iff.2 fun i hi=>?_;have hi:=List.mem_range.1 hi;have:=hall i hi;have h2:listed.getD i true=true:=by simp only[Array.getD_eq_getD_getElem?] at this ⊢; rw[Array.getElem?_eq_getElem (by omega)] at this ⊢; exact this
          rw[h2]; simp
        | succ fuel ih =>
          intro listed Bf μ a w hsz hf hcl hLD hle hi;generalize hLdef:(fun x=>listed.getD x false)=L at hcl hi;have hLx:∀ x,L x=listed.getD x false:=fun x=>by rw[← hLdef]
          have hLD':∀ x,L x=true→D x=false:=fun x hx=>hLD x (by rw[← hLx]; exact hx);refine⟨fun hnil=>?_,fun j hj=>?_⟩
          · -- nothing is left
            have hall : ∀ j,j<ops.size→L j=true:=by
              intro j
              induction j using Nat.strongRecOn with
              | _ j ihj=>
                intro hj;cases hb:L j with
                | true=>rfl
                | false=>
                  exfalso;have ho:ops[j]?=some ops[j]:=Array.getElem?_eq_getElem hj;have hm:j ∈ Region.ready .any ops listed:=by
                    unfold Region.ready;refine List.mem_filter.2 ⟨List.mem_range.2 hj,?_⟩;have h2:listed.getD j true=false:=by
                      rw[hLx] at hb;simp only[Array.getD_eq_getD_getElem?] at hb ⊢;rw[Array.getElem?_eq_getElem (by omega)] at hb ⊢;exact hb
                    rw[h2,ho];simp only[Bool.not_false,Option.map_some,Option.getD_some,Bool.true_and];rw[← Array.all_toList,List.all_eq_true];intro ed hed;cases hbd:Region.binds .any ed with
                    | false=>rfl
                    | true=>
                      have hlt:=(B3a ops.toList 0 hst j ops[j] (by rw[Array.getElem?_toList]; exact ho)).2.1 ed hed hbd;simp only[Nat.zero_add] at hlt;have:=ihj ed.on hlt (by omega);rw[hLx] at this;rw[this]; rfl
                  rw[hnil] at hm;simp at hm
            exact finish L Bf μ a w hall hLD' hle hi
          · -- one that is ready
            unfold Region.ready at hj;obtain⟨hjr,hjb⟩:=List.mem_filter.1 hj;have hjn:=List.mem_range.1 hjr;have ho:ops[j]?=some ops[j]:=Array.getElem?_eq_getElem hjn;generalize ops[j]=o at ho;obtain⟨r,hr,hrO⟩:=hor j o ho;subst hrO;rw[ho] at hjb;simp only[Option.map_some,Option.getD_some,Bool.and_eq_true,Bool.not_eq_true'] at hjb;have hLj:L j=false:=by
              rw[hLx];have h1:=hjb.1;simp only[Array.getD_eq_getD_getElem?] at h1 ⊢;rw[Array.getElem?_eq_getElem (by omega)] at h1 ⊢;exact h1
            have hedges:∀ ed ∈ r.o.after.toList,Region.binds .any ed=true→L ed.on=true:=by
              intro ed hed hbd;have h1:=hjb.2;rw[← Array.all_toList,List.all_eq_true] at h1;have:=h1 ed hed;rw[hbd] at this;rw[hLx];simpa using this
            have hmask:∀ i,(ms.getD j 0).testBit i=true→L i=true:=E47 hst hcl j r.o ho hedges;generalize hCdef:A2k L rs=C at hi;have hCD:∀ x,C x=true→A4y L rs x:=fun x hx=>A0e.1 (by rw[hCdef]; exact hx);have hCj:C j=false:=by
              cases hb:C j with
              | false=>rfl
              | true=>have:=(hCD j hb).1; rw[hLj] at this; cases this
            have hmaskC:∀ k,(ms.getD j 0).testBit k=true→C k=true:=by
              intro k hb;have hkj:=B45 hst j r.o ho k hb;rw[← hCdef];refine A0e.2 ⟨hmask k hb,fun q hq hm b s hbk hs hl=>?_⟩;exact hmask b (hmkin j k b r q s hr hq hm hb hs hl hbk)
            have hearly:∀ (k:Nat) (q:Rec),rs[k]?=some q→k<j→C k=false→Oper.apart ops q.o r.o=true∧(E8 q.o.op=false∨E8 r.o.op=false∨A21 r.o=true):=by
              intro k q hq hk hCk;rcases hpair2 k j q r hq hr hk with h | h
              · exact h
              · have:=hmaskC k h;rw[hCk] at this; cases this
            have hlate:∀ (k:Nat) (q:Rec),rs[k]?=some q→j<k→L k=true→Oper.apart ops r.o q.o=true∧(E8 r.o.op=false∨E8 q.o.op=false∨A21 q.o=true):=by
              intro k q hq hk hLk;rcases hpair2 j k r q hr hq hk with h | h
              · exact h
              · have:=hmaskL L hcl k q hq hLk j h;rw[hLj] at this; cases this
            have hwhere:(r.e=W9 (fun x=>decide (x<j) && !D x) e 0 rs∧r.H=L4 (fun x=>decide (x<j) && !D x) H 0 rs) ∧
                ((D j=false∧stepO c call ops r.e r.H r.o=.ok r.v r.H')∨(∃ v Hp,stepO c call ops r.e r.H r.o=.panic v Hp∧A14 r.o.op=true∧res=.panic v Hp)):=by
              cases hDj:D j with
              | false=>
                obtain⟨h1,h2,h3⟩:=hrec j r hr hDj;exact⟨⟨h1,h2⟩,.inl ⟨rfl,h3⟩⟩
              | true=>
                rcases hres with⟨h1,_⟩ | ⟨p,r',v,Hp,h1,h2,h3,h4,h5,h6,h7,h8⟩
                · have:=h1 j; rw[hDj] at this; cases this
                · rcases h3 j hDj with h | h
                  · subst h;rw[hr] at h1; injection h1 with h1; subst h1;exact⟨⟨h4,h5⟩,.inr ⟨v,Hp,h6,h7,h8⟩⟩
                  · have:=hLD' p (hmask p h);rw[h2] at this; cases this
            obtain ⟨⟨hre,hrH⟩,hwhere⟩:=hwhere;have hagree:∀ t ∈ r.o.looksAt ops,(W9 C e 0 rs).get t=r.e.get t:=by
              intro t ht;rw[hre];refine B5a 0 rs e e (fun k q hq hdst=>?_) rfl;simp only[Nat.zero_add];rcases Nat.lt_trichotomy k j with hk | hk | hk
              · rw[decide_eq_true hk];cases hCk:C k with
                | true=>rw[hLD' k (hi.sub k hCk)]; rfl
                | false=>exact absurd ht ((Oper.apart_spec (hearly k q hq hk hCk).1).1 t hdst)
              · subst hk;rw[hCj]; simp
              · rw[decide_eq_false (by omega)];cases hCk:C k with
                | false=>rfl
                | true=>exact absurd ht ((Oper.apart_spec (hlate k q hq hk (hi.sub k hCk)).1).2.2 t hdst)
            -- new memory ahead of its time is not looked at, nor written over
            have hpendlook:∀ (x:Nat) (q:Rec),rs[x]?=some q→L x=true→C x=false→(∀ t,q.o.dst=some t→t ∉ r.o.looksAt ops)∧(∀ d,q.o.dst=some d→r.o.dst≠some d):=by
              intro x q hq hLx' hCx;rcases Nat.lt_trichotomy x j with hk | hk | hk
              · have h:=Oper.apart_spec (hearly x q hq hk hCx).1;exact⟨h.1,h.2.1⟩
              · subst hk; rw[hLj] at hLx'; cases hLx'
              · have h:=Oper.apart_spec (hlate x q hq hk hLx').1;exact⟨h.2.2,fun d hd hd2=>h.2.1 d hd2 hd⟩
            generalize hE':Env.keep (r.o.looksAt ops) (W9 C e 0 rs)=E';have hER:ER μ nt E' a.tmps:=by
              refine⟨hi.size,fun t v hv=>?_⟩;rw[← hE'] at hv;have ht:=Env.ζp2 _ _ hv;exact hi.env t v (fun x q hq hl hx hd=>(hpendlook x q hq hl hx).1 t hd ht) (Env.get_keep _ _ hv)
            have hE'agree:∀ t ∈ r.o.looksAt ops,E'.get t=r.e.get t:=by
              intro t ht;rw[← hE',Env.ζot _ _ ht];exact hagree t ht
            -- A1r it
            have hL':∀ x,(listed.setIfInBounds j true).getD x false=(x == j || L x):=by
              intro x;rw[hLx];simp only[Array.getD_eq_getD_getElem?,Array.getElem?_setIfInBounds];by_cases hx:j=x
              · subst hx; simp[hsz,hjn]
              · have hxj:(x == j)=false:=by simp; omega
                rw[if_neg hx,hxj,Bool.false_or]
            have hL'f:(fun x=>(listed.setIfInBounds j true).getD x false)=fun x=>x == j || L x:=funext hL';have hcl':A4n ops (fun x=>x == j || L x):=by
              intro k o' ho' hk ed hed hbd;simp only[Bool.or_eq_true,beq_iff_eq] at hk ⊢;rcases hk with hk | hk
              · subst hk;rw[ho] at ho'; injection ho' with ho'; subst ho';exact .inr (hedges ed hed hbd)
              · exact .inr (hcl k o' ho' hk ed hed hbd)
            have hdst:=(B3a ops.toList 0 hst j r.o (by rw[Array.getElem?_toList]; exact ho)).1;have hDmono:∀ x,A4y L rs x→A4y (fun x=>x == j || L x) rs x:=by
              intro x hx;refine⟨by simp[hx.1],fun q hq hm k s hk hs hl=>?_⟩;have:=hx.2 q hq hm k s hk hs hl;simp[this]
            have hgo:D j=false→∀ C' Bf' μ' a' w',μ.le μ'→(∀ x,C' x=true→A4y (fun x=>x == j || L x) rs x)→Inv ds w0 nt ms e H rs (fun x=>x == j || L x) C' Bf' μ' a' w' →
                wpAny c.P .any ops (Out ds w0 μ0 nt res) fuel (listed.setIfInBounds j true) a' w':=by
              intro hDj C' Bf' μ' a' w' k1 hC' hi';have hLD2:∀ x,(x == j || L x)=true→D x=false:=by
                intro x hx;simp only[Bool.or_eq_true,beq_iff_eq] at hx;rcases hx with hx | hx
                · rw[hx]; exact hDj
                · exact hLD' x hx
              obtain ⟨μ2,h2,hi2⟩:=settle _ C' Bf' μ' a' w' hcl' hLD2 hC' hi';refine ih _ Bf' μ2 a' w' (by simpa using hsz) ?_ (by rw[hL'f]; exact hcl') (fun x hx=>hLD2 x (by rw[← hL']; exact hx)) (Mu.le_trans hle (Mu.le_trans k1 h2)) (by rw[hL'f]; exact hi2);have:=E60 (p:=fun i=>!listed.getD i false) (q:=fun i=>!(listed.setIfInBounds j true).getD i false) (fun x hx=>by
                rw[hL',Bool.not_eq_true',Bool.or_eq_false_iff] at hx;rw[← hLx,hx.2]; rfl) (j:=j) (by rw[← hLx,hLj]; rfl) (by rw[hL']; simp) (List.range ops.size) (List.mem_range.2 hjn)
              omega
            unfold wpOp;rw[ho];simp only;have hputd:∀ (v':Value) (d:Tmp),r.o.dst≠some d→(a.put r.o.dst v').tmps[d]?=a.tmps[d]?:=by
              intro v' d hd;cases hdd:r.o.dst with
              | none=>rfl
              | some s=>
                simp only[Act.put];rw[Array.getElem?_setIfInBounds_ne];intro q; subst q; exact hd hdd
            have hputs:∀ v',nt≤(a.put r.o.dst v').tmps.size:=by
              intro v';cases hdd:r.o.dst with
              | none=>exact hi.size
              | some s=>simp only[Act.put,Array.size_setIfInBounds]; exact hi.size
            have hputn:∀ (v':Value) (d:Tmp),r.o.dst=some d→(a.put r.o.dst v').tmps[d]?=some v':=by
              intro v' d hd;rw[hd] at hdst ⊢;have hlt:@LT.lt Nat _ d nt:=Nat.le_of_ble_eq_true hdst;have hsz2:=hi.size;have hlt2:d<a.tmps.size:=Nat.lt_of_lt_of_le hlt hsz2;simp[Act.put,hlt2]
            have hlateC:∀ (k:Nat) (q:Rec),rs[k]?=some q→j<k→E8 r.o.op=true→E8 q.o.op=true→C k=false:=by
              intro k q hq hk hl hql;cases hCk:C k with
              | false=>rfl
              | true=>
                have hD:=hCD k hCk;rcases (hlate k q hq hk hD.1).2 with h | h | h
                · rw[hl] at h; cases h
                · rw[hql] at h; cases h
                · have:=hD.2 q hq h j r hk hr hl;rw[hLj] at this; cases this
            have hHloud:A21 r.o=false→E8 r.o.op=true→L4 C H 0 rs=r.H:=by
              intro hmk hl;rw[hrH];refine B39 0 rs H fun k q hq hql=>?_;simp only[Nat.zero_add];rcases Nat.lt_trichotomy k j with hk | hk | hk
              · rw [decide_eq_true hk];cases hCk:C k with
                | true=>rw[hLD' k (hi.sub k hCk)]; rfl
                | false=>
                  rcases (hearly k q hq hk hCk).2 with h | h | h
                  · rw[hql] at h; cases h
                  · rw[hl] at h; cases h
                  · rw[hmk] at h; cases h
              · subst hk; rw[hCj]; simp
              · rw[decide_eq_false (by omega)];exact hlateC k q hq hk hl hql
            -- new memory ahead of its time is held fast
            let T:Nat→Prop:=fun B=>∃ (x:Nat) (q:Rec),rs[x]?=some q∧L x=true∧C x=false∧Bf x=B
            have hTlt:∀ B,T B→B<w.heap.size:=fun B ⟨x,q,hq,hl,hx,he⟩=>by rw[← he]; exact hi.lt hq hl hx
            have hTfree:∀ b k m,(L4 C H 0 rs).get b=some k→k.ro=false→μ b=some m→¬ T m.blk:=by
              intro b k m hb hro hm ⟨x,q,hq,hl,hx,he⟩;obtain⟨_,_,_,_,_,_,_,_,_,_,_,q7,_⟩:=hi.pend x q hq hl hx;exact q7 b k m hb hro hm he.symm
            have hmore:=hi.heap.toMore T hTlt hTfree;rcases hwhere with⟨hDj,hstep⟩ | ⟨pv,Hp,hstep,hcan,hres'⟩
            rotate_left
            · -- it throws
              have hl:E8 r.o.op=true:=by
                revert hcan;unfold A14 E8;cases r.o.op with
                | call k=>dsimp only; cases k.callee with
                  | builtin b=>intro h; cases h
                  | value f=>intro _; rfl
                  | invoke a b=>intro _; rfl
                | _=>intro h; cases h
              have hmk:A21 r.o=false:=by
                revert hcan;unfold A14 A21;cases r.o.op <;> first | (intro h; cases h; done) | (intro _; simp)
              have hHe:=hHloud hmk hl;have hs2:stepO c call ops E' (L4 C H 0 rs) r.o=.panic pv Hp:=by
                rw[E4h hE'agree,hHe]; exact hstep
              have hstepO:=hs2;unfold stepO at hstepO;cases hw:Y4 ops E' r.o with
              | none=>rw[hw] at hstepO; cases hstepO
              | some b=>
                rw[hw] at hstepO;simp only at hstepO;rw[D25 hER hw];cases b with
                | false=>cases hstepO
                | true=>
                  simp only[cond_true] at hstepO;simp only[if_true];refine .inl (A5y (w0:=w0.more μ w T) hc hmore hER rfl (by rw[hstepO]; simp) ?_);rw[hstepO];intro μ' v' w' k1 k2 k3;rw[hres'];exact⟨μ',v',Mu.le_trans hle k1,HR.ofMore hi.heap k2,k3,hi.defers,rfl⟩
            cases hmk:A21 r.o with
            | true =>
              obtain ⟨hloud,hguard⟩:=D70 hmk;have hstep1:stepOp c call r.e r.H r.o.op=.ok r.v r.H':=by
                unfold stepO Y4 at hstep;rw[hguard] at hstep;exact hstep
              have hstep2:stepOp c call E' r.H r.o.op=.ok r.v r.H':=by
                rw[← hstep1];exact E3s fun t ht=>hE'agree t (E3a ht)
              obtain⟨f,cells,esz,hv,hH1,_,hrun⟩:=D0b (nt:=nt) hmk hstep2;obtain⟨cs,el,hrun,hvr,hones⟩:=hrun μ a w hER;have hwant:Region.wanted r.o (yielded ops a.tmps)=true:=by unfold Region.wanted; rw[hguard]
              rw[hwant];simp only[if_true];refine .inl (Z0 hrun ?_);refine hgo hDj C (fun x=>if x=j then w.heap.size else Bf x) μ _ _ (Mu.le_refl _) (fun x hx=>hDmono x (hCD x hx)) ?_;have hnew:¬ w0.S w.heap.size:=fun hq=>by have h1:=hi.heap.below.lt _ hq; have h2:=hi.heap.below.size; omega
              have halive:∀ b k m,(L4 C H 0 rs).get b=some k→k.ro=false→μ b=some m→m.blk≠w.heap.size:=by
                intro b k m hb _ hm he;obtain⟨m2,e2,b2⟩:=hi.heap.blk b k hb;rw[hm] at e2; injection e2 with e2; subst e2;have:=b2.lt;omega
              constructor
              · intro x hx; simp[hi.sub x hx]
              · intro x q hq hl hx;by_cases hxj:x=j
                · subst hxj; rw[hr] at hq; injection hq with hq; subst hq; exact hmk
                · have hxj':(x == j)=false:=by simpa using hxj
                  rw[hxj',Bool.false_or] at hl;exact hi.rest x q hq hl hx
              · exact hi.pre
              · exact hi.dep
              · exact hi.heap.extra _
              · exact hputs _
              · intro t v hnp hvt;have htd:r.o.dst≠some t:=hnp j r hr (by simp) hCj;obtain⟨v',e1,r1⟩:=hi.env t v (fun x q hq hl hx=>hnp x q hq (by simp[hl]) hx) hvt;exact⟨v',by rw[hputd _ t htd]; exact e1,r1⟩
              · intro x q hq hl hx;by_cases hxj:x=j
                · subst hxj;rw[hr] at hq; injection hq with hq; subst hq;simp only[if_true];exact⟨f,cells,esz,cs,el,hv,hH1,D5k _ _,hvr,hones,hnew,halive,fun d hd=>hputn _ d hd,fun o ho=>Nat.lt_irrefl _ (hi.heap.zr.lt ho)⟩
                · have hxj':(x == j)=false:=by simpa using hxj
                  rw[hxj',Bool.false_or] at hl;simp only[if_neg hxj];have hp:=hi.pend x q hq hl hx;have hlt:=hi.lt hq hl hx;refine hp.up (Mu.le_refl _) (A63 _ _ _ hlt) ?_ hp.free fun d hd=>hputd _ d ((hpendlook x q hq hl hx).2 d hd);obtain⟨_,_,_,_,_,_,_,_,_,_,_,q7,_⟩:=hp;exact q7
              · intro x y q s hq hs hl hx hl2 hy he;by_cases hxj:x=j <;> by_cases hyj:y=j
                · omega
                · exfalso;have hyj':(y == j)=false:=by simpa using hyj
                  rw[hyj',Bool.false_or] at hl2;simp only[if_pos hxj,if_neg hyj] at he;have:=hi.lt hs hl2 hy;omega
                · exfalso;have hxj':(x == j)=false:=by simpa using hxj
                  rw[hxj',Bool.false_or] at hl;simp only[if_pos hyj,if_neg hxj] at he;have:=hi.lt hq hl hx;omega
                · have hyj':(y == j)=false:=by simpa using hyj
                  have hxj':(x == j)=false:=by simpa using hxj
                  rw[hyj',Bool.false_or] at hl2;rw[hxj',Bool.false_or] at hl;simp only[if_neg hxj,if_neg hyj] at he;exact hi.inj x y q s hq hs hl hx hl2 hy he
              · rw[B5e]; exact hi.defers
            | false =>
              have hnow : ∃ H2, stepO c call ops E' (L4 C H 0 rs) r.o=.ok r.v H2∧L4 (fun x=>x == j || C x) H 0 rs=H2:=by
                rw[E4h hE'agree];cases hl:E8 r.o.op with
                | true=>
                  have hHe:=hHloud hmk hl;rw[hHe];refine⟨r.H',hstep,D6z 0 j rs H (by omega) hr hl fun k q hk hq hql=>?_⟩;simp only[Nat.zero_add];exact hlateC k q hq hk hl hql
                | false =>
                  have hquiet:L4 (fun x=>x == j || C x) H 0 rs=L4 C H 0 rs:=G6x 0 rs H fun k q hq hk=>by
                    simp only[Nat.zero_add] at hk;subst hk;rw[hr] at hq; injection hq with hq; subst hq; exact hl
                  rw[hquiet];refine⟨_,?_,rfl⟩;cases hrd:A33 r.o.op with
                  | false=>exact J16 hl hrd hstep _
                  | true =>
                    obtain⟨hs1,hs2⟩:=E4e 0 rs hstab j r hr hrd (by rw[Nat.zero_add]; exact hDj);simp only[Nat.zero_add] at hs1 hs2;rcases D1y (L:=C) 0 rs H with⟨g1,g2⟩ | ⟨k,q,g1,g2,g3,g4,g5⟩
                    · rw [g1];have:=hs1 (D5u 0 rs fun k q hq hql=>by
                        simp only[Nat.zero_add];have hCk:=g2 k q hq hql;simp only[Nat.zero_add] at hCk;cases hb:(ms.getD j 0).testBit k with
                        | false=>rfl
                        | true=>have:=hmaskC k hb; rw[hCk] at this; cases this)
                      rcases this with this | this
                      · obtain⟨H3,h3⟩:=E4x this;have:=B8y hl h3;subst this;exact h3
                      · have h3:=hrH.trans (G95 (fun x hx=>by simp only[Bool.and_eq_true,decide_eq_true_eq] at hx; exact hx.1) this);have h4:=B8y hl hstep;rw[h4,h3] at hstep;exact hstep
                    · simp only [Nat.zero_add] at g3;rw[g4];have := E4g 0 rs hs2 k q g1 g2 (by rw[Nat.zero_add]; exact hLD' k (hi.sub k g3)) (D5u 0 rs fun i s hs hsl=>by
                        simp only[Nat.zero_add];refine⟨fun hb=>?_,fun hik=>?_⟩
                        · have hCi:=hmaskC i hb;rcases Nat.lt_or_ge k i with h | h
                          · have:=g5 i s h hs hsl;simp only[Nat.zero_add] at this;rw[hCi] at this; cases this
                          · exact h
                        · have hCi:C i=true:=by
                            rcases Nat.lt_or_ge i k with h | h
                            · exact hi.pre i k s q h hs g1 hsl g2 g3
                            · have:i=k:=by omega
                              subst this; exact g3
                          cases hb:(ms.getD i 0).testBit j with
                          | false=>rfl
                          | true=>have:=hmaskL L hcl i s hs (hi.sub i hCi) j hb; rw[hLj] at this; cases this)
                      rcases this with this | ⟨this1,this⟩
                      · obtain⟨H3,h3⟩:=E4x this;have:=B8y hl h3;subst this;exact h3
                      · simp only[Nat.zero_add] at this1 this;have h3:=hrH.trans (G94 (fun x hx=>by simp only[Bool.and_eq_true,decide_eq_true_eq] at hx; exact hx.1) g1 (by rw[decide_eq_true this1,hLD' k (hi.sub k g3)]; rfl) g2 this);have h4:=B8y hl hstep;rw[h4,h3] at hstep;exact hstep
              obtain⟨H2,hs2,hH2⟩:=hnow
              have hnext : ∀ μ' v' w',μ.le μ'→HR (w0.more μ w T) μ' H2 w'→VR μ' r.v v' →
                  wpAny c.P .any ops (Out ds w0 μ0 nt res) fuel (listed.setIfInBounds j true) (a.put r.o.dst v') w':=by
                intro μ' v' w' k1 k2 k3;refine hgo hDj (fun x=>x == j || C x) Bf μ' _ w' k1 (fun x hx=>?_) ?_
                · simp only[Bool.or_eq_true,beq_iff_eq] at hx;rcases hx with hx | hx
                  · subst hx;refine⟨by simp,fun q hq hm=>?_⟩;rw[hr] at hq; injection hq with hq; subst hq;rw[hmk] at hm; cases hm
                  · exact hDmono x (hCD x hx)
                have hsplit:∀ x,(x == j || L x)=true→(x == j || C x)=false→L x=true∧C x=false:=by
                  intro x hl hx;simp only[Bool.or_eq_false_iff] at hx;rw[hx.1,Bool.false_or] at hl;exact⟨hl,hx.2⟩
                constructor
                · intro x hx;simp only[Bool.or_eq_true,beq_iff_eq] at hx ⊢;rcases hx with hx | hx
                  · exact .inl hx
                  · exact .inr (hi.sub x hx)
                · intro x q hq hl hx;obtain⟨h1,h2⟩:=hsplit x hl hx;exact hi.rest x q hq h1 h2
                · intro x y q s hxy hq hs hlq hls hy;simp only[Bool.or_eq_true,beq_iff_eq] at hy ⊢;rcases hy with hy | hy
                  · subst hy;rw[hr] at hs; injection hs with hs; subst hs;cases hCx:C x with
                    | true=>exact .inr rfl
                    | false=>
                      rcases (hearly x q hq hxy hCx).2 with h | h | h
                      · rw[hlq] at h; cases h
                      · rw[hls] at h; cases h
                      · rw[hmk] at h; cases h
                  · exact .inr (hi.pre x y q s hxy hq hs hlq hls hy)
                · intro x y q hq hyx hx hb;simp only[Bool.or_eq_true,beq_iff_eq] at hx ⊢;rcases hx with hx | hx
                  · subst hx;exact .inr (hmaskC y hb)
                  · exact .inr (hi.dep x y q hq hyx hx hb)
                · rw[hH2]; exact HR.ofMore hi.heap k2
                · exact hputs _
                · intro t v hnp hvt;rw[A7x 0 j rs e (by omega) hr hCj (fun k q s hk hq hqd hrd=>by
                    simp only[Nat.zero_add];cases hCk:C k with
                    | false=>rfl
                    | true=>exact absurd hqd ((Oper.apart_spec (hlate k q hq hk (hi.sub k hCk)).1).2.1 s hrd))] at hvt
                  cases hd:r.o.dst with
                  | none =>
                    rw [hd] at hvt;obtain⟨v2, e1, r1⟩:=hi.env t v (fun x q hq hl hx=>hnp x q hq (by simp[hl]) (by
                      have : (x == j)=false:=by
                        cases hb:(x == j) with
                        | false=>rfl
                        | true => have:x=j:=by simpa using hb
                                  subst this; rw[hLj] at hl; cases hl
                      rw[this,hx]; rfl)) hvt
                    exact⟨v2,e1,r1.up k1⟩
                  | some d =>
                    rw[hd] at hvt;simp only[U1,Env.get_put] at hvt;split at hvt
                    · rename_i htd;injection hvt with hvt;subst hvt htd;exact⟨v',by rw[← hd]; exact hputn v' t hd,k3⟩
                    · rename_i htd;obtain ⟨v2, e1, r1⟩:=hi.env t v (fun x q hq hl hx=>hnp x q hq (by simp[hl]) (by
                        have : (x == j)=false:=by
                          cases hb:(x == j) with
                          | false=>rfl
                          | true => have:x=j:=by simpa using hb
                                    subst this; rw[hLj] at hl; cases hl
                        rw[this,hx]; rfl)) hvt
                      refine⟨v2,?_,r1.up k1⟩;rw[← hd,hputd v' t (by rw[hd]; intro he; injection he with he; exact htd he.symm)];exact e1
                · intro x q hq hl hx;obtain⟨h1,h2⟩:=hsplit x hl hx;have hp:=hi.pend x q hq h1 h2;rw[hH2];refine hp.up k1 (k2.below.block _ (.inr ⟨x,q,hq,h1,h2,rfl⟩)) (fun b kk m hb hro hm he=>?_) (k2.ζkb ⟨x,q,hq,h1,h2,rfl⟩ hp.free) fun d hd=>hputd v' d ((hpendlook x q hq h1 h2).2 d hd);obtain⟨m2,e2,b2⟩:=k2.blk b kk hb;rw[hm] at e2; injection e2 with e2; subst e2;exact b2.own hro (.inr ⟨x,q,hq,h1,h2,he.symm⟩)
                · intro x y q s hq hs hl hx hl2 hy he;obtain⟨h1,h2⟩:=hsplit x hl hx;obtain⟨h3,h4⟩:=hsplit y hl2 hy;exact hi.inj x y q s hq hs h1 h2 h3 h4 he
                · rw[B5e]; exact hi.defers
              have hstepO:=hs2;unfold stepO at hstepO;cases hw:Y4 ops E' r.o with
              | none=>rw[hw] at hstepO; cases hstepO
              | some b=>
                rw[hw] at hstepO;simp only at hstepO;rw[D25 hER hw];cases b with
                | false=>
                  simp only[cond_false,Res.ok.injEq] at hstepO;simp only[Bool.false_eq_true,if_false];obtain⟨h1,h2⟩:=hstepO;exact hnext μ undef w (Mu.le_refl _) (by rw[← h2]; exact hmore) (by rw[← h1]; exact VR.undef)
                | true=>
                  simp only[cond_true] at hstepO;simp only[if_true];refine .inl (A5y (w0:=w0.more μ w T) hc hmore hER rfl (by rw[hstepO]; simp) ?_);rw[hstepO];intro μ' v' w' k1 k2 k3;exact hnext μ' v' w' k1 k2 k3
      have hL0:∀ x,(Array.replicate ops.size false).getD x false=false:=by
        intro x;simp only[Array.getD_eq_getD_getElem?,Array.getElem?_replicate];split <;> rfl
      have hC0:∀ x,A2k (fun x=>(Array.replicate ops.size false).getD x false) rs x=false:=fun x=>G7q.2 fun h=>by
        have:=h.1;simp only[hL0 x] at this;cases this
      refine main ops.size _ (fun _=>0) μ0 a0 _ (by simp) ?_ ?_ ?_ (Mu.le_refl _) ?_
      · have:=List.length_filter_le (fun i=>!(Array.replicate ops.size false).getD i false) (List.range ops.size);simpa using this
      · intro j o ho hj;simp only[hL0 j] at hj;cases hj
      · intro x hx; rw[hL0 x] at hx; cases hx
      · constructor
        · intro x hx; rw[hC0 x] at hx; cases hx
        · intro x r hr hl; simp only[hL0 x] at hl; cases hl
        · intro x y q r _ _ _ _ _ hy; rw[hC0 y] at hy; cases hy
        · intro x k r _ _ hx; rw[hC0 x] at hx; cases hx
        · rw[D1z _ _ _ fun x _=>hC0 x];exact hH0.drew rfl rfl rfl rfl
        · exact hE0.size
        · intro t v _ hv;rw[D6y _ _ _ fun x _=>hC0 x] at hv;exact hE0.get t v hv
        · intro x r hr hl; simp only[hL0 x] at hl; cases hl
        · intro x y r s hr hs hl; simp only[hL0 x] at hl; cases hl
        · exact hd0
theorem E2r:∀ (os:List Oper) (acc:List Nat),(S2 acc os).length=acc.length+os.length
 | [],acc=>rfl
 | o :: os,acc=>by rw[S2,E2r os]; simp; omega
theorem A77 (hc:N7 c.P call) (nt:Nat):A2t c.P nt (runDraw c call nt):=by
 intro ops e H hne ds w0 μ0 a0 w00 hH0 hE0 hd0;unfold runDraw runDrawK at hne ⊢;cases hst:A0m ops (S2 [] ops.toList) nt 0 ops.toList with
 | false=>rw[hst] at hne; exact absurd rfl hne
 | true=>
  rw [hst] at hne;simp only[cond_true] at hne ⊢;have hms:∀ x p,x≤p→((S2 [] ops.toList).getD x 0).testBit p=false:=by
   intro x p hxp;cases hb:((S2 [] ops.toList).getD x 0).testBit p with
   | false=>rfl
   | true=>
    rcases Nat.lt_or_ge x ops.size with hx | hx
    ·have:=B45 hst x ops[x] (Array.getElem?_eq_getElem hx) p hb;omega
    ·have:(S2 [] ops.toList).getD x 0=0:=by
      rw[List.getD_eq_getElem?_getD,List.getElem?_eq_none (by rw[E2r]; simp; exact hx)]; rfl
     rw[this] at hb; simp at hb
  rcases E4p hms _ ops.toList [] 0 e H rfl (Z6.nil _ _ _ _ _ _) hne with⟨rs,H',f1,f2,f3,f4⟩ | ⟨p,rs,r,v,Hp,f1,f2,f3,f4,f5,f6,f7,f8,f9⟩
  ·rw [f4] at hne ⊢;cases hstab:Y9 c call ops (S2 [] ops.toList) (fun _=>false) H rs 0 rs with
   | false=>rw[hstab] at hne; exact absurd rfl hne
   | true=>
    simp only[cond_true,Res.bind];exact E5u hc hst hstab (by simpa using f3) f1 (.inl ⟨fun _=>rfl,by rw[f2]⟩) hH0 hE0 hd0
  ·rw[f9];simp only[Res.bind];refine E5u hc hst f8 (by simpa using f2) f1 (.inr ⟨p,r,v,Hp,f3,by unfold A0q; simp,fun i hi=>?_,f4,f5,f6,f7,rfl⟩) hH0 hE0 hd0;unfold A0q at hi;simp only[Bool.or_eq_true] at hi;rcases hi with hi | hi
   ·exact .inl (Nat.eq_of_beq_eq_true hi)
   ·exact .inr hi
end
end Go.Sw
end
