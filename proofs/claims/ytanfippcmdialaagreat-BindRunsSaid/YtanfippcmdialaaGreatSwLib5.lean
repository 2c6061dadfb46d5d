/-
  A speaking function, run by itself, answers true.
-/
import Derived.Test.YtanfippcmdialaaGreatSwLib4
import Derived.JoinedOf
section
namespace Go.Sw
open Go.RowKit
def G4.start(w:World):G4:=⟨w,fun k=>k<w.heap.size,fun k=>k<w.heap.size,fun _=>True⟩
def Mu.start(w:World):Mu:=⟨fun _=>none,fun k=>w.heap[k]?⟩
theorem HR.empty(w:World):HR (G4.start w) (Mu.start w) A2.empty w:=by
 constructor
 ·intro b m h; cases h
 ·intro b k h; simp[A2.get,A2.empty] at h
 ·intro b b' k k' m m' h; simp[A2.get,A2.empty] at h
 ·exact⟨rfl,rfl,rfl,Nat.le_refl _,fun _ _=>rfl,fun _ h=>h,fun _ h=>h⟩
 ·exact⟨fun _ _ h=>h,fun _ _ _ _=>trivial,fun k o b x m _ h=>by simp[A2.get,A2.empty] at h⟩
theorem A7i.below{w w':World}(h:A7i (G4.start w) w'):Below w.heap.size w w':=⟨h.os,h.tape,h.output,h.size,fun k hk=>h.block k hk⟩
theorem HR.over{w0:G4}{μ:Mu}{H:A2}{w w':World}(h:HR w0 μ H w)(hs:A7i (G4.start w) w'):HR w0 μ H w':=by
 constructor
 ·exact h.dom
 ·intro b k hk;obtain⟨m,hm,hb⟩:=h.blk b k hk;exact⟨m,hm,hb.keep (Mu.le_refl _) (hs.block _ hb.lt)⟩
 ·exact h.inj
 ·exact h.below.step hs.os hs.tape hs.output hs.size fun k hk=>hs.block k (by have h1:=h.below.lt _ hk; have h2:=h.below.size; show k<w.heap.size; omega)
 ·exact h.zr.step rfl (fun k o hk=>hs.block k (h.zr.lt hk)) fun b x m hx hr hm=>.inl ⟨b,x,hx,hr,m,hm,rfl⟩
def A59(v:Value)(_:A8)(args:List Value)(H:A2):Res Value :=
 match args with
 | []=>.ok v H
 | _=>.stuck
theorem VR.plain_eq{μ:Mu}{v v':Value}(h:VR μ v v')(hp:A05 v=true):v'=v:=by
 unfold A05 at hp
 split at hp <;> first
  | (cases h; rfl; done)
  | exact (Bool.false_ne_true hp).elim
theorem G84 {P:Program} {call0:A8} (h0:N7 P call0) {f:FuncId} {v:Value} {H1:A2} (hrun:call0 f [] A2.empty=.ok v H1) (hp:A05 v=true) :
  ∀ call:A8,N7 P call→∀ args H,A59 v call args H≠.stuck →
   (∃ fn,P.funcs[f]?=some fn∧fn.body.isSome=true∧(fn.name == "runtime.NumGoroutine")=false) ∧
   ∀ w0 μ w args',HR w0 μ H w→VRs μ args args'→Calls P f args'.toArray w fun e w'=>Z3 w0 μ (A59 v call args H) e w':=by
 intro call _ args H hne;obtain⟨h1,h2⟩:=h0 f [] A2.empty (by rw[hrun]; simp);refine⟨h1,fun w0 μ w args' hH hargs=>?_⟩;unfold A59 at hne ⊢;split at hne
 ·have:=hargs.nil_inv;subst this;refine (h2 (G4.start w) _ w [] (HR.empty w) VRs.nil).mono fun e w' he=>?_;rw[hrun] at he;obtain⟨μ',v',h3,h4,h5,rfl⟩:=he;have:=h5.plain_eq hp;subst this;exact⟨μ,_,Mu.le_refl _,hH.over h4.below,VR.of_plain (by cases v' <;> simp_all [plain,A05]),rfl⟩
 ·exact absurd rfl hne
theorem J0d{P:Program}{call:A8}(hc:N7 P call){f:FuncId}{args args':List Value}{H H':A2}{μ:Mu}{w:World}(hH:HR (G4.start w) μ H w)(hargs:VRs μ args args')(hrun:call f args H=.ok (.bool true) H') :
  Calls P f args'.toArray w fun e w'=>e=.returned (.bool true)∧Below w.heap.size w w':=by
 obtain⟨_,h2⟩:=hc f args H (by rw[hrun]; simp);refine (h2 (G4.start w) μ w args' hH hargs).mono fun e w' he=>?_;rw[hrun] at he;obtain⟨μ',v',h3,h4,h5,rfl⟩:=he;cases h5;exact⟨rfl,h4.below.below⟩
end Go.Sw
end
section
namespace Go.Sw
theorem Res.bind_assoc{α β γ:Type}(r:Res α)(f:α→A2→Res β)(g:β→A2→Res γ):(r.bind f).bind g=r.bind fun a H=>(f a H).bind g:=by
 cases r <;> rfl
def A7d{β:Type}(c:Cfg)(call:A8)(nt:Nat)(ops:Array Oper):List Oper→Env→A2→(Env→A2→Res β)→Res β
 | [],e,H,K=>K e H
 | o :: os,e,H,K=>bif A38 nt o.dst then (stepO c call ops e H o).bind fun v H'=>A7d c call nt ops os (U1 e o.dst v) H' K else .stuck
theorem E5b {β:Type} {c:Cfg} {call:A8} {nt:Nat} {ops:Array Oper} (K:Env→A2→Res β):∀ (os:List Oper) (e:Env) (H:A2),
  A7d c call nt ops os e H K=(runOps c call nt ops os e H).bind K
 | [],e,H=>rfl
 | o :: os,e,H=>by
  simp only[A7d,runOps];cases A38 nt o.dst with
  | false=>rfl
  | true=>
   simp only[cond_true,Res.bind_assoc];congr 1;funext v H';exact E5b K os _ _
theorem Res.ζl3{α β γ:Type}(r:Res α)(f:α→A2→Res β)(g:β→A2→Res γ):(r.bindN f).bind g=r.bindN fun a H=>(f a H).bind g:=by
 cases r <;> rfl
theorem Res.ζpu{α β γ:Type}(r:Res α)(f:α→A2→Res β)(k:Value→A2→Res β)(g:β→A2→Res γ):(r.bindP f k).bind g=r.bindP (fun a H=>(f a H).bind g) (fun a H=>(k a H).bind g):=by
 cases r <;> rfl
theorem D6t {β γ:Type} {c:Cfg} {call:A8} {ops:Array Oper} {D:Nat→Bool} (f:β→A2→Res γ) (K:List Rec→Res β):∀ (os:List Oper) (acc:List Rec) (i:Nat) (e:Env) (H:A2),
  (tailK c call ops D os acc i e H K).bind f=tailK c call ops D os acc i e H fun rs=>(K rs).bind f
 | [],acc,i,e,H=>rfl
 | o :: os,acc,i,e,H=>by
  simp only[tailK];cases D i with
  | true=>simp only[cond_true]; exact D6t f K os _ _ _ _
  | false=>
   simp only[cond_false,Res.ζl3];congr 1;funext v H';exact D6t f K os _ _ _ _
theorem D6e {β γ:Type} {c:Cfg} {call:A8} {ops:Array Oper} {ms:List Nat} {H0:A2} (f:β→A2→Res γ) (K:List Rec→A2→Res β):∀ (os:List Oper) (acc:List Rec) (i:Nat) (e:Env) (H:A2),
  (drawK c call ops ms H0 os acc i e H K).bind f=drawK c call ops ms H0 os acc i e H fun rs H'=>(K rs H').bind f
 | [],acc,i,e,H=>rfl
 | o :: os,acc,i,e,H=>by
  simp only[drawK];cases A14 o.op with
  | true=>
   simp only[cond_true,Res.ζpu,D6t];congr 1
   ·funext v H';exact D6e f K os _ _ _ _
   ·funext v H';congr 1;funext rs;cases Y9 c call ops ms (A0q ms i) H0 rs 0 rs <;> rfl
  | false=>
   simp only[cond_false,Res.ζl3];congr 1;funext v H';exact D6e f K os _ _ _ _
theorem G7h{β:Type}{c:Cfg}{call:A8}{nt:Nat}(ops:Array Oper)(e:Env)(H:A2)(K:Env→A2→Res β) :
  runDrawK c call nt ops e H K=(runDraw c call nt ops e H).bind K:=by
 unfold runDraw runDrawK;cases A0m ops (S2 [] ops.toList) nt 0 ops.toList with
 | false=>rfl
 | true=>
  simp only[cond_true,D6e];congr 1;funext rs H';cases Y9 c call ops (S2 [] ops.toList) (fun _=>false) H rs 0 rs <;> rfl
abbrev G0(β:Type):=D0→Env→A2→Res β
def E4{β:Type}(f:Env→A2→G0 β→Res β)(K:G0 β):G0 β:=fun x e H=>
 match x with
 | .normal=>f e H K
 | x=>K x e H
def D7{β:Type}(id:Nat)(K:G0 β):G0 β:=fun x e H=>
 match x with
 | .exit i=>bif i == id then K .normal e H else K (.exit i) e H
 | x=>K x e H
def A39 {β:Type} (c:Cfg) (call:A8) (nt:Nat) (kp:Nat→List Nat):Code→Env→A2→G0 β→Res β
 | .skip,e,H,K=>K .normal e H
 | .label _,e,H,K=>K .normal e H
 | .region id ops d,e,H,K=>
  bif d then runDrawK c call nt ops e H fun e' H'=>K .normal (Env.keep (kp id) e') H'
  else A7d c call nt ops ops.toList e H fun e' H'=>K .normal (Env.keep (kp id) e') H'
 | .seq a b,e,H,K=>A39 c call nt kp a e H (E4 (A39 c call nt kp b) K)
 | .cond x a b,e,H,K=>condV (P1 e x) (A39 c call nt kp a e H K) (A39 c call nt kp b e H K)
 | .block id a,e,H,K=>A39 c call nt kp a e H (D7 id K)
 | .loop a,e,H,K=>(loopN (fun e H=>(exec c call (runDraw c call nt) nt kp a e H).bind fun r H'=>.ok (A8f (kp (A0i a)) r) H') B8 (Env.keep (kp (A0i a)) e) H).bind fun r H'=>K r.1 r.2 H'
 | .exit id,e,H,K=>K (.exit id) e H
 | .ret,e,H,K=>K .ret e H
 | .rangeFunc f ps a b,e,H,K=>((opt ((P1 e f).bind fun v=>c.it v H) H).bind fun l H=>
  bif G6 a && G6 b && ps.toList.all (fun p=>Nat.blt p nt) then
   rangeN (fun e H=>(exec c call (runDraw c call nt) nt kp a e H).bind fun r H'=>A56 r H' fun e H=>(exec c call (runDraw c call nt) nt kp b e H).bind fun r H'=>.ok (B3u r) H') ps.toList (Env.keep (kp (A0i b)) e) l H
  else .stuck).bind fun r H'=>K r.1 r.2 H'
 | _,_,_,_=>.stuck
theorem G82{α β:Type}(v:Option Value)(x y:Res α)(f:α→A2→Res β):(condV v x y).bind f=condV v (x.bind f) (y.bind f):=by
 unfold condV;split <;> rfl
theorem Y7 {β:Type} {c:Cfg} {call:A8} {nt:Nat} {kp:Nat→List Nat}:∀ (code:Code) (e:Env) (H:A2) (K:G0 β),
  A39 c call nt kp code e H K=(exec c call (runDraw c call nt) nt kp code e H).bind fun r H'=>K r.1 r.2 H'
 | .skip,e,H,K=>rfl
 | .label _,e,H,K=>rfl
 | .region id ops d,e,H,K=>by
  simp only[A39,exec];cases d with
  | false=>simp only[cond_false,E5b,Res.bind_assoc]; rfl
  | true=>simp only[cond_true,G7h,Res.bind_assoc]; rfl
 | .seq a b,e,H,K=>by
  simp only[A39,exec,Y7 a,Res.bind_assoc];congr 1;funext r H';obtain⟨x,e'⟩:=r;cases x with
  | normal=>simp only[E4,A5x,Y7 b]
  | exit i=>rfl
  | ret=>rfl
 | .cond x a b,e,H,K=>by simp only[A39,exec,G82,Y7 a,Y7 b]
 | .block id a,e,H,K=>by
  simp only[A39,exec,Y7 a,Res.bind_assoc];congr 1;funext r H';obtain⟨x,e'⟩:=r;cases x with
  | normal=>rfl
  | exit i=>
   simp only[D7,A03,Res.bind];cases h:i == id <;> simp only[cond_true,cond_false,Bool.false_eq_true,if_true,if_false]
  | ret=>rfl
 | .loop a,e,H,K=>rfl
 | .exit _,e,H,K=>rfl
 | .ret,e,H,K=>rfl
 | .scope _,e,H,K=>rfl
 | .rangeFunc _ _ _ _,e,H,K=>rfl
 | .goto _,e,H,K=>rfl
 | .refuse _,e,H,K=>rfl
def B4o(P:Program):List ResultVar→Env→A2→(List Value→A2→Res Value)→Res Value
 | [],_,H,K=>K [] H
 | .tmp t :: rs,e,H,K=>(opt (e.get t) H).bind fun v H=>B4o P rs e H fun vs H=>K (v :: vs) H
 | .cell a t :: rs,e,H,K=>(opt (e.get a) H).bind fun a H=>(A3 P t a H).bind fun v H=>B4o P rs e H fun vs H=>K (v :: vs) H
theorem A7b (P:Program):∀ (rs:List ResultVar) (e:Env) (H:A2) (K:List Value→A2→Res Value),B4o P rs e H K=(opt (S8 P e H rs) H).bind K
 | [],e,H,K=>rfl
 | .tmp t :: rs,e,H,K=>by
  simp only[B4o,S8];cases e.get t with
  | none=>rfl
  | some v=>
   simp only[opt,Res.bind,Option.bind_some,A7b P rs];cases S8 P e H rs <;> rfl
 | .cell a t :: rs,e,H,K=>by
  simp only[B4o,S8];cases e.get a with
  | none=>rfl
  | some v=>
   simp only[opt,Res.bind,Option.bind_some,A3];cases A5g P t v H with
   | none=>rfl
   | some u=>
    simp only[A7b P rs,Option.bind_some,opt];cases S8 P e H rs <;> rfl
def G2(P:Program)(rs:List ResultVar):G0 Value:=fun x e H=>
 match x with
 | .exit _=>.stuck
 | _=>B4o P rs e H fun vs H=>.ok (A6g vs) H
theorem A80(P:Program)(rs:List ResultVar)(x:D0)(e:Env)(H:A2):G2 P rs x e H=A4h P rs (x,e) H:=by
 unfold G2 A4h;cases x with
 | exit i=>rfl
 | normal=>simp only[A7b]; cases S8 P e H rs <;> rfl
 | ret=>simp only[A7b]; cases S8 P e H rs <;> rfl
def bodyK(c:Cfg)(call:A8)(f:FuncId)(args:List Value)(H:A2):Res Value :=
 match c.P.funcs[f]? with
 | some fn=>
  match fn.body with
  | some code=>bif Nat.ble args.length fn.ntmps then A39 c call fn.ntmps (c.kp f) code (Env.of 0 args) H (G2 c.P fn.results.toList) else .stuck
  | none=>.stuck
 | none=>.stuck
def B6i(c:Cfg):A8→Nat→A2h:=fun call nt=>runDraw c call nt
abbrev run(c:Cfg)(n:Nat):A8:=A7o c (B6i c) n
def Code.part(c:Code):List Nat→Code
 | []=>c
 | i :: p=>match c with
  | .seq a b=>bif i == 0 then Code.part a p else Code.part b p
  | .cond _ a b=>bif i == 0 then Code.part a p else Code.part b p
  | .rangeFunc _ _ a b=>bif i == 0 then Code.part a p else Code.part b p
  | .block _ a=>Code.part a p
  | .loop a=>Code.part a p
  | _=>.skip
def J9(P:Program)(f:FuncId)(p:List Nat):Code :=
 match P.funcs[f]? with
 | some fn=>match fn.body with
  | some code=>Code.part code p
  | none=>.skip
 | none=>.skip
def A0b(P:Program)(f:FuncId):Nat :=
 match P.funcs[f]? with
 | some fn=>fn.ntmps
 | none=>0
def G3(P:Program)(f:FuncId):List ResultVar :=
 match P.funcs[f]? with
 | some fn=>fn.results.toList
 | none=>[]
def M4(c:Cfg)(call:A8)(f:FuncId)(p:List Nat):Env→A2→Res (D0 × Env):=fun e H=>
 (exec c call (runDraw c call (A0b c.P f)) (A0b c.P f) (c.kp f) (J9 c.P f p) e H).bind fun r H'=>.ok (A8f (c.kp f (A0i (J9 c.P f p))) r) H'
def M2(ks:List Nat):G0 (D0 × Env):=fun x e H=>
 match x with
 | .normal=>.ok (.normal,Env.keep ks e) H
 | x=>.ok (x,e) H
def Q2(c:Cfg)(f:FuncId)(p:List Nat):List Nat:=c.kp f (A0i (J9 c.P f p))
def B3{β:Type}(c:Cfg)(call:A8)(f:FuncId)(p:List Nat):Env→A2→G0 β→Res β :=
 A39 c call (A0b c.P f) (c.kp f) (J9 c.P f p)
def D3m(c:Cfg)(call:A8)(f:FuncId)(p q:List Nat):Env→A2→Res D0:=fun e H=>
 (exec c call (runDraw c call (A0b c.P f)) (A0b c.P f) (c.kp f) (J9 c.P f p) e H).bind fun r H'=>A56 r H' fun e H=>
  (exec c call (runDraw c call (A0b c.P f)) (A0b c.P f) (c.kp f) (J9 c.P f q) e H).bind fun r H'=>.ok (B3u r) H'
theorem E2{c:Cfg}{call:A8}{f:FuncId}{p:List Nat}(e:Env)(H:A2):M4 c call f p e H=B3 c call f p e H (M2 (Q2 c f p)):=by
 unfold M4 B3 Q2;rw[Y7];congr 1;funext r H';obtain⟨x,e'⟩:=r;cases x <;> rfl
end Go.Sw
end
section
namespace Go.Sw
def E6{α:Type}(b:Bool)(r:Res α):Res α:=bif b then r else .stuck
def Res.bindT{α β:Type}(r:Res α)(g:Value→A2→Res β)(f:α→A2→Res β):Res β:=r.bindP f g
@[congr] theorem Res.ζtv{α β:Type}{r r':Res α}{g:Value→A2→Res β}{f:α→A2→Res β}{n:Nat}(h:r=r')(_hn:∀ _:Unit,1+1=n):r.bindT g f=r'.bindT g f:=by rw[h]
@[simp] theorem Res.bindT_ok{α β:Type}(a:α)(H:A2)(g:Value→A2→Res β)(f:α→A2→Res β):(Res.ok a H).bindT g f=f a H:=rfl
@[simp] theorem Res.ζtw{α β:Type}(v:Value)(H:A2)(g:Value→A2→Res β)(f:α→A2→Res β):(Res.panic v H:Res α).bindT g f=g v H:=rfl
@[congr] theorem Res.ζu4{α β:Type}{r r':Res α}{f:α→A2→Res β}{n:Nat}(h:r=r')(_hn:∀ _:Unit,1+1=n):r.bind f=r'.bind f:=by rw[h]
@[congr] theorem Res.ζts{α β:Type}{r r':Res α}{f:α→A2→Res β}{n:Nat}(h:r=r')(_hn:∀ _:Unit,1+1=n):r.bindN f=r'.bindN f:=by rw[h]
@[congr] theorem ζtz{α:Type}{v v':Option Value}{x y:Res α}{n:Nat}(h:v=v')(_hn:∀ _:Unit,1+1=n):condV v x y=condV v' x y:=by rw[h]
@[congr] theorem ζub{α:Type}{b b':Bool}{r:Res α}{n:Nat}(h:b=b')(_hn:∀ _:Unit,1+1=n):E6 b r=E6 b' r:=by rw[h]
@[simp] theorem ζum{α:Type}(r:Res α):E6 true r=r:=rfl
@[simp] theorem Res.bind_ok{α β:Type}(a:α)(H:A2)(f:α→A2→Res β):(Res.ok a H).bind f=f a H:=rfl
@[simp] theorem Res.ζu5{α β:Type}(v:Value)(H:A2)(f:α→A2→Res β):(Res.panic v H).bind f=.panic v H:=rfl
@[simp] theorem Res.bindN_ok{α β:Type}(a:α)(H:A2)(f:α→A2→Res β):(Res.ok a H).bindN f=f a H:=rfl
@[simp] theorem ζuc{α:Type}(x y:Res α):condV (some (.bool true)) x y=x:=rfl
@[simp] theorem ζu0{α:Type}(x y:Res α):condV (some (.bool false)) x y=y:=rfl
theorem G83{α:Type}(b:Bool)(x y:Res α):condV (some (.bool b)) x y=if b then x else y:=by cases b <;> rfl
@[simp] theorem ζup{α:Type}(a:α)(H:A2):opt (some a) H=.ok a H:=rfl
@[simp] theorem ζtr(b w:Bool):A4e (.bool b) w=(b == w):=rfl
section
variable (P:Program) (t:TypeId) (H:A2) (k:IntKind) (a b:Int)
@[simp] theorem bin_add:A5 P .add t (.int k a) (.int k b) H=.ok (.int k (k.wrap (a+b))) H:=by simp[A5,A0n,Z7]
@[simp] theorem bin_sub:A5 P .sub t (.int k a) (.int k b) H=.ok (.int k (k.wrap (a - b))) H:=by simp[A5,A0n,Z7]
@[simp] theorem bin_mul:A5 P .mul t (.int k a) (.int k b) H=.ok (.int k (k.wrap (a*b))) H:=by simp[A5,A0n,Z7]
@[simp] theorem B9o:A5 P .lss t (.int k a) (.int k b) H=.ok (.bool (decide (a<b))) H:=by simp[A5,A0n,Z7]
@[simp] theorem bin_leq:A5 P .leq t (.int k a) (.int k b) H=.ok (.bool (decide (a≤b))) H:=by simp[A5,A0n,Z7]
@[simp] theorem B9n:A5 P .gtr t (.int k a) (.int k b) H=.ok (.bool (decide (a>b))) H:=by simp[A5,A0n,Z7]
@[simp] theorem bin_geq:A5 P .geq t (.int k a) (.int k b) H=.ok (.bool (decide (a≥b))) H:=by simp[A5,A0n,Z7]
@[simp] theorem B9m:A5 P .eql t (.int k a) (.int k b) H=.ok (.bool (a == b)) H:=by simp[A5,A0n,Z7]
@[simp] theorem bin_neq:A5 P .neq t (.int k a) (.int k b) H=.ok (.bool (a != b)) H:=by simp[A5,A0n,Z7]
theorem A49(h:b≠0):A5 P .quo t (.int k a) (.int k b) H=.ok (.int k (k.wrap (a.tdiv b))) H:=by simp[A5,A0n,Z7,h]
theorem A58(h:b≠0):A5 P .rem t (.int k a) (.int k b) H=.ok (.int k (a.tmod b)) H:=by simp[A5,A0n,Z7,h]
@[simp] theorem un_not(x:Bool):unR .not (.bool x) H=.ok (.bool !x) H:=rfl
@[simp] theorem un_neg:unR .neg (.int k a) H=.ok (.int k (k.wrap (0 - a))) H:=rfl
@[simp] theorem D09(ts:List TypeId)(k':IntKind):A6 P .min ts [.int k a,.int k' b] H=.ok (.int k (if b<a then b else a)) H:=rfl
@[simp] theorem D07(ts:List TypeId)(k':IntKind):A6 P .max ts [.int k a,.int k' b] H=.ok (.int k (if b>a then b else a)) H:=rfl
end
def cvK(k:IntKind)(x:Value)(H:A2):Res Value :=
 match x with
 | .int _ n=>.ok (.int k (k.wrap n)) H
 | _=>.stuck
theorem B27{P:Program}{s d:TypeId}{k:IntKind}(h1:(P.underlying s).isSome=true)(h2:P.underlying d=some (.int k))(x:Value)(H:A2):M9 P s d x H=cvK k x H:=by
 have hs:B7u P s d x=none:=by
  unfold B7u;rw[h2];cases P.underlying s with
  | none=>rfl
  | some t=>cases t <;> first | rfl | (cases x <;> rfl)
 unfold M9 B11 cvK;rw[h1,h2,hs];cases x <;> rfl
@[simp] theorem B9s(k k':IntKind)(n:Int)(H:A2):cvK k (.int k' n) H=.ok (.int k (k.wrap n)) H:=rfl
theorem wrap_i64{n:Int}(h1:-9223372036854775808≤n)(h2:n≤9223372036854775807):IntKind.i64.wrap n=n:=by
 unfold IntKind.wrap;simp[IntKind.signed,IntKind.bits];omega
theorem B1z{n:Int}(h1:-2147483648≤n)(h2:n≤2147483647):IntKind.i32.wrap n=n:=by
 unfold IntKind.wrap;simp[IntKind.signed,IntKind.bits];omega
end Go.Sw
end
section
namespace Go.Sw
open Go.RowKit
def B73(P:Program):Bool:=P.funcs.toList.all fun fn=>fn.body.isNone || !(fn.name == "runtime.NumGoroutine")
theorem Y2.of{P:Program}(h:B73 P=true):Y2 P:=by
 intro f fn hf hb;unfold B73 at h;rw[List.all_eq_true] at h;have hm:fn ∈ P.funcs.toList:=List.mem_of_getElem? (i:=f) (by rw[Array.getElem?_toList]; exact hf);have:=h fn hm;cases hbb:fn.body with
 | none=>rw[hbb] at hb; cases hb
 | some code=>rw[hbb] at this; simpa using this
theorem D3q{c:Cfg}(hN:Y2 c.P)(hmix:c.P.follows .mixedOrders=true)(hsp:A4p c)(n:Nat):N7 c.P (run c n) :=
 B0w c (B6i c) hN hmix hsp (fun _ nt hc=>A77 hc nt) n
abbrev Sp:=A8→List Value→A2→Res Value
def A57(P:Program)(kp:FuncId→Nat→List Nat)(more:FuncId→Option Sp):Cfg:={ P:=P,kp:=kp,sp:=more }
def B49(f:Nat):List Nat→Bool
 | []=>false
 | x :: xs=>bif Nat.beq x f then true else B49 f xs
def B07:A8→List Value→A2→Res Value:=fun _ _ _=>.stuck
def B7t(speaks:List Nat)(more:FuncId→Option Sp)(k f:Nat):Option Sp :=
 bif B49 f speaks then (bif Nat.beq f k then some (A59 (.bool true)) else some B07) else more f
def A68(P:Program)(f:FuncId)(s:A8→List Value→A2→Res Value):Prop :=
 ∀ call,N7 P call→∀ args H,s call args H≠.stuck →
  (∃ fn,P.funcs[f]?=some fn∧fn.body.isSome=true∧(fn.name == "runtime.NumGoroutine")=false) ∧
  ∀ w0 μ w args',HR w0 μ H w→VRs μ args args'→Calls P f args'.toArray w fun e w'=>Z3 w0 μ (s call args H) e w'
theorem A68.stuck(P:Program)(f:FuncId):A68 P f B07:=fun _ _ _ _ h=>absurd rfl h
def A89:Res Value→Bool
 | .ok (.bool true) _=>true
 | _=>false
theorem G75{r:Res Value}(h:A89 r=true):∃ H,r=.ok (.bool true) H:=by
 unfold A89 at h;split at h
 ·exact⟨_,rfl⟩
 ·cases h
theorem A4p.base{P:Program}{kp:FuncId→Nat→List Nat}{more:FuncId→Option Sp}(hs:∀ f s,more f=some s→A68 P f s):A4p (A57 P kp more):=⟨fun _ _=>rfl,fun f s h=>hs f s h⟩
theorem A4p.of {P:Program} {kp:FuncId→Nat→List Nat} {speaks:List Nat} {more:FuncId→Option Sp} {k:Nat} {call0:A8}
  (h0:N7 P call0) (hrun:A89 (call0 k [] A2.empty)=true) (hs:∀ f s,more f=some s→A68 P f s):A4p { P:=P,kp:=kp,sp:=B7t speaks more k }:=by
 refine⟨fun _ _=>rfl,?_⟩;intro f s' hf;simp only[B7t] at hf;cases h1:B49 f speaks with
 | true=>
  rw[h1,cond_true] at hf;cases h2:Nat.beq f k with
  | true=>
   rw[h2,cond_true,Option.some.injEq] at hf;have:=Nat.eq_of_beq_eq_true h2;subst this;subst hf;obtain⟨H1,hr⟩:=G75 hrun;exact G84 h0 hr rfl
  | false=>
   rw[h2,cond_false,Option.some.injEq] at hf;subst hf;exact A68.stuck P f
 | false=>
  rw[h1,cond_false] at hf;exact hs f s' hf
end Go.Sw
end
section
namespace Go.Sw
def A6e:List Nat→List (List Nat)
 | []=>[[]]
 | c :: r=>bif Nat.beq c 32 then [] :: A6e r else
  match A6e r with
  | w :: ws=>(c :: w) :: ws
  | []=>[[c]]
theorem G7z:∀ n:Nat,n<128→(Char.ofNat n=Char.ofNat 32↔n=32):=by decide
theorem G45(r:List Char):wordsSigns (Char.ofNat 32 :: r)=[] :: wordsSigns r:=rfl
theorem G44{c:Char}(h:c≠Char.ofNat 32)(r:List Char):wordsSigns (c :: r)=match wordsSigns r with | w :: ws=>(c :: w) :: ws | []=>[[c]]:=by
 rw[wordsSigns];all_goals first | exact h | rfl
theorem E4l:∀ l:List Nat,(l.all fun n=>Nat.blt n 128)=true→wordsSigns (l.map Char.ofNat)=(A6e l).map (List.map Char.ofNat)
 | [],_=>rfl
 | c :: r,h=>by
  simp only[List.all_cons,Bool.and_eq_true] at h;have hc:c<128:=Nat.le_of_ble_eq_true h.1;have ih:=E4l r h.2;rw[List.map_cons,A6e];cases hb:Nat.beq c 32 with
  | true=>
   have:=Nat.eq_of_beq_eq_true hb;subst this;rw[G45,ih]; rfl
  | false=>
   have hne:c≠32:=Nat.ne_of_beq_eq_false hb;rw[G44 (fun e=>hne ((G7z c hc).1 e)),ih,cond_false];cases A6e r <;> rfl
theorem G8d{P:Program}{codes:List Nat}{ws:List (List Nat)}(h1:P.initOrder=String.ofList (codes.map Char.ofNat))(h2:(codes.all fun n=>Nat.blt n 128)=true)(h3:A6e codes=ws) :
  wordsSigns P.initOrder.toList=ws.map (List.map Char.ofNat):=by
 rw[h1,String.toList_ofList,E4l codes h2,h3]
theorem G73{P:Program}{ws rest:List (List Char)}{c:List Char}(h:wordsSigns P.initOrder.toList=ws)(h1:behindMainWord ws=c :: rest)(h2:stripLifts liftWords (c :: rest)=([],c :: rest))(hc:c = "cut".toList)
  (hl:P.laysLater=false) (hr:P.bearsReflect=false) (hd:P.doorFits []=true):P.mayEnter=true:=by
 unfold Program.mayEnter;rw[h,h1];dsimp only;rw[h2,hl,hr,hd,hc];simp
theorem G5i{P:Program}{ws rest:List (List Char)}{c:List Char}(h:wordsSigns P.initOrder.toList=ws)(h1:behindMainWord ws=c :: rest)(h2:stripLifts liftWords (c :: rest)=([],c :: rest))(hc:c = "cut".toList):P.liftsFinal=false:=by
 unfold Program.liftsFinal Program.headLifts;rw[h,h1];dsimp only;rw[h2,hc];simp
theorem D06{P:Program}{ws rest:List (List Char)}{c:List Char}(h:wordsSigns P.initOrder.toList=ws)(h1:behindMainWord ws=c :: rest)(hc:c = "cut".toList):P.make=some .cut:=by
 unfold Program.make;rw[h,h1];dsimp only;rw[hc];simp
theorem J0c {P:Program} {f:FuncId} {fn:Func} {s:ChangeSpec} {c:OpenClaim} (hm:P.mayEnter=true) (hl:P.liftsFinal=c.lifted) (hk:P.make=some c.make)
  (hA:(c.wf (OpenSpec.ofChange s) && laidOutB P && mapsRowed P && fn.params.all (P.readableRec ·) && namedTie P c.named s.vars && (c.stops == []) && (P.stops == []) && (c.knobs == []) && (P.stopKnobs == []))=true)
  (hB1:(c.inPlace == P.inPlace f)=true) (hB2:(c.unfollowed == P.unfollowed f)=true) (hB3:(c.recurses == P.recurses f)=true) (hB4:(c.named == P.varsNamed f)=true)
  (hC1:((c.maps == (fn.params.toList++s.plain.varTypes P).any (P.mapsRec ·)) && (c.ifaces == (fn.params.toList++s.plain.varTypes P).any (P.ifacesRec ·)) && (c.mapsOut == P.mapsAmong fn.resultTypes.toList))=true)
  (hC2:((c.loops == (fn.params.toList++s.plain.varTypes P).any (P.loopsFrom ·)) && (c.wideKeys == (fn.params.toList++s.plain.varTypes P++fn.resultTypes.toList).any (P.wideKeysFrom ·)))=true)
  (hC3:(s.vars.all (P.varReadable ·) && fn.resultTypes.all (fun t=>P.readableRec t && decide (t<P.types.size)) && (c.ifacesOut == fn.resultTypes.toList.any (P.ifacesRec ·)) && (c.loopsOut == fn.resultTypes.toList.any (P.loopsFrom ·)))=true)
  (hC4:((c.plainKeys == P.plainKeys) && c.shortTexts.isNone && P.stopsHeard)=true)
  (hD:((c.kinds == (if c.domain.isEmpty then [] else fn.params.toList.map fun t=>match P.underlying t with | some (.int k)=>some k | _=>none)) && (c.pinned == c.pinnedBy) &&
   (c.veiled == (fn.params.toList++s.plain.varTypes P++fn.resultTypes.toList).any (P.veiledRec ·)) && c.veiledFits P fn.params.toList (fn.params.toList++s.plain.varTypes P++fn.resultTypes.toList))=true) :
  joinedFacts P f fn s c=true:=by
 have hk':(P.make == some c.make)=true:=by rw[hk]; simp
 have hl':(c.lifted == P.liftsFinal)=true:=by rw[hl]; simp
 simp only[Bool.and_eq_true] at hA hC1 hC2 hC3 hC4 hD;unfold joinedFacts;simp only[Bool.and_eq_true]
 exact ⟨⟨⟨⟨⟨⟨⟨⟨⟨⟨⟨⟨⟨⟨⟨⟨⟨⟨⟨⟨⟨⟨⟨⟨⟨⟨⟨⟨⟨⟨⟨hA.1.1.1.1.1.1.1.1,hA.1.1.1.1.1.1.1.2⟩,hA.1.1.1.1.1.1.2⟩,hA.1.1.1.1.1.2⟩,hA.1.1.1.1.2⟩,hA.1.1.1.2⟩,hA.1.1.2⟩,hA.1.2⟩,hA.2⟩,hB1⟩,hB2⟩,hB3⟩,hB4⟩,hC1.1.1⟩,hC1.1.2⟩,hC1.2⟩,hC2.1⟩,hC2.2⟩,
  hC3.1.1.1⟩,hC3.1.1.2⟩,hC3.1.2⟩,hC3.2⟩,hC4.1.1⟩,hC4.1.2⟩,hC4.2⟩,hm⟩,hl'⟩,hk'⟩,hD.1.1.1⟩,hD.1.1.2⟩,hD.1.2⟩,hD.2⟩
end Go.Sw
end
section
namespace Go.Sw
def Q6(S:List Nat)(H H':A2):Prop:=H.n≤H'.n∧∀ b,b<H.n→b ∉ S→H'.get b=H.get b
theorem Q6.refl(S:List Nat)(H:A2):Q6 S H H:=⟨Nat.le_refl _,fun _ _ _=>rfl⟩
theorem Q6.trans{S:List Nat}{a b c:A2}(h:Q6 S a b)(k:Q6 S b c):Q6 S a c :=
 ⟨Nat.le_trans h.1 k.1,fun x hx hs=>(k.2 x (Nat.lt_of_lt_of_le hx h.1) hs).trans (h.2 x hx hs)⟩
theorem Q6.get{S:List Nat}{H H':A2}(h:Q6 S H H'){b:Nat}{k:Blk}(hb:H.get b=some k)(hs:b ∉ S):H'.get b=some k:=by
 rw[h.2 b (A2.get_lt hb) hs]; exact hb
theorem Q6.push(H:A2)(k:Blk):Q6 [] H (H.push k):=by
 refine⟨by rw[A2.n_push]; omega,fun b hb _=>?_⟩;rw[A2.get_push,if_neg (by omega)]
theorem Q6.set{H:A2}{b:Nat}{k:Blk}(h:H.get b=some k)(x:Option Blk):Q6 [b] H (H.set b x):=by
 refine⟨by rw[A2.n_set]; omega,fun c hc hs=>?_⟩;rw[A2.get_set h,if_neg (by simpa using hs)]
theorem Q6.fresh{S T:List Nat}{a b c:A2}(h:Q6 S a b)(k:Q6 T b c)(ht:∀ x,x ∈ T→x ∈ S∨a.n≤x):Q6 S a c:=by
 refine⟨Nat.le_trans h.1 k.1,fun x hx hs=>?_⟩;rw[k.2 x (Nat.lt_of_lt_of_le hx h.1) (fun hxt=>?_),h.2 x hx hs];rcases ht x hxt with h1 | h1
 ·exact hs h1
 ·omega
theorem Q6.weaken{S T:List Nat}{a b:A2}(h:Q6 S a b)(ht:∀ x,x ∈ S→x ∈ T∨a.n≤x):Q6 T a b:=Q6.fresh (Q6.refl T a) h ht
end Go.Sw
end
