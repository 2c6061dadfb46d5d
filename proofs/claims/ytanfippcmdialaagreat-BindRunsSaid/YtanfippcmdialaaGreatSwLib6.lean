/-
  A speaking function, run by itself, answers true.
-/
import Derived.Test.YtanfippcmdialaaGreatSwLib5
section
namespace Go.Sw
def D7b(s:Nat→A8)(lim:A8):Prop:=∀ f a H,lim f a H≠.stuck→∃ n,∀ m,n≤m→s m f a H=lim f a H
def A7{α:Type}(F:A8→Res α):Prop:=∀ s lim,D7b s lim→F lim≠.stuck→∃ n,∀ m,n≤m→F (s m)=F lim
theorem A7.const{α:Type}(r:Res α):A7 fun _=>r:=fun _ _ _ _=>⟨0,fun _ _=>rfl⟩
theorem A7.call(f:FuncId)(a:List Value)(H:A2):A7 fun call=>call f a H:=fun _ _ h hne=>h f a H hne
theorem A7.bind {α β:Type} {F:A8→Res α} {G:A8→α→A2→Res β} (hF:A7 F) (hG:∀ a H,A7 fun call=>G call a H):A7 fun call=>(F call).bind (G call):=by
 intro s lim h hne;have hne1:F lim≠.stuck:=Res.bind_ne hne;obtain⟨n1,h1⟩:=hF s lim h hne1;cases hr:F lim with
 | stuck=>exact absurd hr hne1
 | panic v H=>
  refine⟨n1,fun m hm=>?_⟩;show (F (s m)).bind (G (s m))=(F lim).bind (G lim);rw[h1 m hm,hr]; rfl
 | ok a H=>
  have hne2:G lim a H≠.stuck:=by
   have:=hne;dsimp only at this;rw[hr] at this;exact this
  obtain⟨n2,h2⟩:=hG a H s lim h hne2;refine⟨max n1 n2,fun m hm=>?_⟩;show (F (s m)).bind (G (s m))=(F lim).bind (G lim);rw[h1 m (by omega),hr];exact h2 m (by omega)
theorem A7.condV{α:Type}{F G:A8→Res α}(v:Option Value)(hF:A7 F)(hG:A7 G):A7 fun call=>condV v (F call) (G call):=by
 unfold Go.Sw.condV;split
 ·exact hF
 ·exact hG
 ·exact A7.const _
theorem A7.bif{α:Type}{F G:A8→Res α}(b:Bool)(hF:A7 F)(hG:A7 G):A7 fun call=>bif b then F call else G call:=by
 cases b
 ·exact hG
 ·exact hF
theorem A7.callV(f:Value)(args:List Value)(H:A2):A7 fun call=>callV call f args H:=by
 unfold Go.Sw.callV;split
 ·exact A7.call _ _ _
 ·exact A7.const _
theorem A7.invokeR(P:Program)(r:Value)(name:String)(args:List Value)(H:A2):A7 fun call=>invokeR P call r name args H:=by
 unfold Go.Sw.invokeR;split
 ·exact A7.bind (A7.const _) fun f H=>A7.call _ _ _
 ·exact A7.const _
theorem A7.stepOp(c:Cfg)(e:Env)(H:A2)(op:Op):A7 fun call=>stepOp c call e H op:=by
 cases op <;> simp only[Go.Sw.stepOp] <;> first
  | exact A7.const _
  | skip
 case call k=>
  refine A7.bind (A7.const _) fun args H=>?_;split
  ·exact A7.const _
  ·exact A7.bind (A7.const _) fun f H=>A7.callV _ _ _
  ·exact A7.bind (A7.const _) fun r H=>A7.invokeR _ _ _ _ _
theorem A7.stepO(c:Cfg)(ops:Array Oper)(e:Env)(H:A2)(o:Oper):A7 fun call=>stepO c call ops e H o:=by
 unfold Go.Sw.stepO;split
 ·exact A7.const _
 ·exact A7.bif _ (A7.stepOp _ _ _ _) (A7.const _)
theorem A7.runOps(c:Cfg)(nt:Nat)(ops:Array Oper):∀ (os:List Oper) (e:Env) (H:A2),A7 fun call=>runOps c call nt ops os e H
 | [],e,H=>A7.const _
 | o :: os,e,H=>by
  simp only[Go.Sw.runOps];exact A7.bif _ (A7.bind (A7.stepO _ _ _ _ _) fun v H'=>A7.runOps c nt ops os _ _) (A7.const _)
theorem A7.loopN{F:A8→Env→A2→Res (D0 × Env)}(hF:∀ e H,A7 fun call=>F call e H):∀ (n:Nat) (e:Env) (H:A2),A7 fun call=>loopN (F call) n e H
 | 0,_,_=>A7.const _
 | n+1,e,H=>by
  simp only[Go.Sw.loopN];refine A7.bind (hF e H) fun r H'=>?_;split
  ·exact A7.loopN hF n _ _
  ·exact A7.const _
theorem A7.bindN {α β:Type} {F:A8→Res α} {G:A8→α→A2→Res β} (hF:A7 F) (hG:∀ a H,A7 fun call=>G call a H):A7 fun call=>(F call).bindN (G call):=by
 intro s lim h hne;have hne1:F lim≠.stuck:=fun e=>hne (by dsimp only; rw[e]; rfl);obtain⟨n1,h1⟩:=hF s lim h hne1;cases hr:F lim with
 | stuck=>exact absurd hr hne1
 | panic v H=>exact absurd (by dsimp only; rw[hr]; rfl) hne
 | ok a H=>
  have hne2:G lim a H≠.stuck:=by
   have:=hne;dsimp only at this;rw[hr] at this;exact this
  obtain⟨n2,h2⟩:=hG a H s lim h hne2;refine⟨max n1 n2,fun m hm=>?_⟩;show (F (s m)).bindN (G (s m))=(F lim).bindN (G lim);rw[h1 m (by omega),hr];exact h2 m (by omega)
theorem A7.bindP {α β:Type} {F:A8→Res α} {G:A8→α→A2→Res β} {K:A8→Value→A2→Res β} (hF:A7 F) (hG:∀ a H,A7 fun call=>G call a H) (hK:∀ a H,A7 fun call=>K call a H) :
  A7 fun call=>(F call).bindP (G call) (K call):=by
 intro s lim h hne;have hne1:F lim≠.stuck:=fun e=>hne (by dsimp only; rw[e]; rfl);obtain⟨n1,h1⟩:=hF s lim h hne1;cases hr:F lim with
 | stuck=>exact absurd hr hne1
 | panic a H=>
  have hne2:K lim a H≠.stuck:=by
   have:=hne;dsimp only at this;rw[hr] at this;exact this
  obtain⟨n2,h2⟩:=hK a H s lim h hne2;refine⟨max n1 n2,fun m hm=>?_⟩;show (F (s m)).bindP (G (s m)) (K (s m))=(F lim).bindP (G lim) (K lim);rw[h1 m (by omega),hr];exact h2 m (by omega)
 | ok a H=>
  have hne2:G lim a H≠.stuck:=by
   have:=hne;dsimp only at this;rw[hr] at this;exact this
  obtain⟨n2,h2⟩:=hG a H s lim h hne2;refine⟨max n1 n2,fun m hm=>?_⟩;show (F (s m)).bindP (G (s m)) (K (s m))=(F lim).bindP (G lim) (K lim);rw[h1 m (by omega),hr];exact h2 m (by omega)
theorem E5e{c:Cfg}{call call':A8}{ops:Array Oper}{e:Env}{H:A2}{o:Oper}(h:A33 o.op=true):stepO c call ops e H o=stepO c call' ops e H o:=by
 unfold stepO;cases ho:o.op <;> rw[ho] at h <;> first | rfl | cases h
theorem E4f{c:Cfg}{call call':A8}{ops:Array Oper}{ms:List Nat}{D:Nat→Bool}{all:List Rec}{j:Nat}{r:Rec}(h:A33 r.o.op=true):∀ (l:Nat) (ss:List Rec),A19 c call ops ms D all j r l ss=A19 c call' ops ms D all j r l ss
 | _,[]=>rfl
 | l,s :: ss=>by simp only[A19]; rw[E4f (call:=call) (call':=call') h (l+1) ss,E5e (call:=call) (call':=call') h]
theorem E4d{c:Cfg}{call call':A8}{ops:Array Oper}{ms:List Nat}{D:Nat→Bool}{H0:A2}{all:List Rec}:∀ (j:Nat) (rs:List Rec),Y9 c call ops ms D H0 all j rs=Y9 c call' ops ms D H0 all j rs
 | _,[]=>rfl
 | j,r :: rs=>by
  simp only[Y9];rw[E4d (call:=call) (call':=call') (j+1) rs];cases hr:A33 r.o.op with
  | false=>simp
  | true=>rw[E5e (call:=call) (call':=call') hr,E4f (call:=call) (call':=call') hr]
theorem A7.tailK{β:Type}{K:A8→List Rec→Res β}(c:Cfg)(ops:Array Oper)(D:Nat→Bool)(hK:∀ rs,A7 fun call=>K call rs):∀ (os:List Oper) (acc:List Rec) (i:Nat) (e:Env) (H:A2),A7 fun call=>tailK c call ops D os acc i e H (K call)
 | [],acc,i,e,H=>hK acc
 | o :: os,acc,i,e,H=>by
  simp only[Go.Sw.tailK];exact A7.bif _ (A7.tailK c ops D hK os _ _ _ _) (A7.bindN (A7.stepO _ _ _ _ _) fun v H'=>A7.tailK c ops D hK os _ _ _ _)
theorem A7.stableIf{β:Type}{F:A8→Res β}(c:Cfg)(ops:Array Oper)(ms:List Nat)(D:Nat→Bool)(H0:A2)(all rs:List Rec)(j:Nat)(hF:A7 F):A7 fun call=>bif Y9 c call ops ms D H0 all j rs then F call else .stuck:=by
 have:(fun call=>bif Y9 c call ops ms D H0 all j rs then F call else .stuck)=fun call=>bif Y9 c (fun _ _ _=>.stuck) ops ms D H0 all j rs then F call else .stuck:=by
  funext call;rw[E4d (call:=call) (call':=fun _ _ _=>.stuck)]
 rw[this];exact A7.bif _ hF (A7.const _)
theorem A7.drawK{β:Type}{K:A8→List Rec→A2→Res β}(c:Cfg)(ops:Array Oper)(ms:List Nat)(H0:A2)(hK:∀ rs H,A7 fun call=>K call rs H):∀ (os:List Oper) (acc:List Rec) (i:Nat) (e:Env) (H:A2),A7 fun call=>drawK c call ops ms H0 os acc i e H (K call)
 | [],acc,i,e,H=>hK acc H
 | o :: os,acc,i,e,H=>by
  simp only[Go.Sw.drawK];refine A7.bif _ (A7.bindP (A7.stepO _ _ _ _ _) (fun v H'=>A7.drawK c ops ms H0 hK os _ _ _ _) fun v H'=>?_) (A7.bindN (A7.stepO _ _ _ _ _) fun v H'=>A7.drawK c ops ms H0 hK os _ _ _ _);exact A7.tailK c ops _ (fun rs=>A7.stableIf c ops ms _ H0 rs rs 0 (A7.const _)) os _ _ _ _
end Go.Sw
end
section
namespace Go.Sw
open Go.RowKit
inductive L6 (H:A2):Value→Prop
 | bool (b:Bool):L6 H (.bool b)
 | int (k:IntKind) (n:Int):L6 H (.int k n)
 | string (s:ByteArray):L6 H (.string s)
 | nilPtr:L6 H (.pointer none)
 | ptr (b off:Nat) (k:Blk) (h:H.get b=some k):L6 H (.pointer (some ⟨b,off,none⟩))
 | nilSlice:L6 H (.slice none 0 0)
 | slice (b off len cap:Nat) (k:Blk) (h:H.get b=some k):L6 H (.slice (some ⟨b,off,none⟩) len cap)
 | unsure:L6 H (.slice (some ⟨0,0,some 1⟩) 0 0)
 | bare:L6 H (.slice (some ⟨0,0,some 0⟩) 0 0)
 | list (len:Nat) (p:Array FieldStep) (g:FuncId) (cells ys:Array Value) (h:∀ (i:Nat) (v:Value),cells[i]?=some v→L6 H v):L6 H (.func (.via len p g false) cells ys)
 | box (n:Nat) (p:Array FieldStep) (g:FuncId) (cells ys:Array Value) (h:∀ (i:Nat) (v:Value),cells[i]?=some v→L6 H v):L6 H (.func (.via n p g true) cells ys)
 | nilMap:L6 H (.map none)
 | nilFunc:L6 H .nilFunc
 | func (fn:FuncId) (xs ys:Array Value) (h1:∀ (i:Nat) (v:Value),xs[i]?=some v→L6 H v) (h2:∀ (i:Nat) (v:Value),ys[i]?=some v→L6 H v):L6 H (.func (.func fn) xs ys)
 | nilIface:L6 H .nilIface
 | iface (t:TypeId) (v:Value) (h:L6 H v):L6 H (.iface t v)
 | agg (xs:Array Value) (h:∀ (i:Nat) (v:Value),xs[i]?=some v→L6 H v):L6 H (.agg xs)
 | tuple (xs:Array Value) (h:∀ (i:Nat) (v:Value),xs[i]?=some v→L6 H v):L6 H (.tuple xs)
inductive V4 (μ:Mu):Value→Prop
 | bool (b:Bool):V4 μ (.bool b)
 | int (k:IntKind) (n:Int):V4 μ (.int k n)
 | string (s:ByteArray):V4 μ (.string s)
 | nilPtr:V4 μ (.pointer none)
 | ptr (b off:Nat) (m:MB) (h:μ b=some m):V4 μ (.pointer (some ⟨b,off,none⟩))
 | slice (a:Option Addr) (len cap:Nat) (h:∀ b off,a=some ⟨b,off,none⟩→∃ m,μ b=some m):V4 μ (.slice a len cap)
 | via (n:Nat) (p:Array FieldStep) (g:FuncId) (t:Bool) (cells ys:Array Value) (h:∀ (i:Nat) (v:Value),cells[i]?=some v→V4 μ v):V4 μ (.func (.via n p g t) cells ys)
 | empty (p:Array FieldStep) (g:FuncId) (cells ys:Array Value):V4 μ (.func (.via 0 p g false) cells ys)
 | dark:V4 μ (.chan none)
 | nilMap:V4 μ (.map none)
 | map (b:Nat) (m:MB) (h:μ b=some m):V4 μ (.map (some b))
 | nilFunc:V4 μ .nilFunc
 | func (fn:FuncId) (xs ys:Array Value) (h1:∀ (i:Nat) (v:Value),xs[i]?=some v→V4 μ v) (h2:∀ (i:Nat) (v:Value),ys[i]?=some v→V4 μ v):V4 μ (.func (.func fn) xs ys)
 | nilIface:V4 μ .nilIface
 | iface (t:TypeId) (v:Value) (h:V4 μ v):V4 μ (.iface t v)
 | agg (xs:Array Value) (h:∀ (i:Nat) (v:Value),xs[i]?=some v→V4 μ v):V4 μ (.agg xs)
 | tuple (xs:Array Value) (h:∀ (i:Nat) (v:Value),xs[i]?=some v→V4 μ v):V4 μ (.tuple xs)
theorem D27{α:Type}{xs ys:Array α}(h:xs.size=ys.size){i:Nat}{v:α}(hv:xs[i]?=some v):∃ u,ys[i]?=some u:=by
 have hi:i<xs.size:=by
  rcases Nat.lt_or_ge i xs.size with h1 | h1
  ·exact h1
  ·rw[Array.getElem?_eq_none h1] at hv; cases hv
 exact⟨ys[i],Array.getElem?_eq_getElem (by omega)⟩
theorem B61{α:Type}{xs ys:Array α}{off:Nat}(h:off+xs.size≤ys.size){i:Nat}{v:α}(hv:xs[i]?=some v):∃ u,ys[off+i]?=some u:=by
 have hi:i<xs.size:=by
  rcases Nat.lt_or_ge i xs.size with h1 | h1
  ·exact h1
  ·rw[Array.getElem?_eq_none h1] at hv; cases hv
 exact⟨ys[off+i],Array.getElem?_eq_getElem (by omega)⟩
theorem VR.known{μ:Mu}{v v':Value}(h:VR μ v v'):V4 μ v:=by
 induction h with
 | bool b=>exact .bool b
 | int k n=>exact .int k n
 | string s=>exact .string s
 | nilPtr=>exact .nilPtr
 | ptr b off m h=>exact .ptr b off m h
 | nilSlice=>exact .slice _ _ _ fun b off h=>by cases h
 | slice b off off' len cap cap' m h hl hc ho hx=>exact .slice _ _ _ fun b' off' he=>by injection he with he; injection he with e1 e2 e3; subst e1; exact⟨m,h⟩
 | unsure a=>exact .slice _ _ _ fun b off h=>by injection h with h; injection h with h1 h2 h3; cases h3
 | list len p g cells ys blk off cap cs el fz hz hl hc hg h0 _ ih=>
  refine .via _ _ _ _ _ _ fun i v hv=>?_;obtain⟨u,hu⟩:=B61 hl hv;exact ih i v u hv hu
 | empty p g cells ys a cap hn hs=>exact .empty p g cells ys
 | box n p g cells ys blk off cs el fz hz hl h0 _ ih=>
  refine .via _ _ _ _ _ _ fun i v hv=>?_;obtain⟨u,hu⟩:=B61 hl hv;exact ih i v u hv hu
 | bare a=>exact .slice _ _ _ fun b off h=>by injection h with h; injection h with h1 h2 h3; cases h3
 | dark v' h hb=>exact .dark
 | nilMap=>exact .nilMap
 | map b m h=>exact .map b m h
 | nilFunc=>exact .nilFunc
 | func fn xs xs' ys ys' h1 _ h3 _ ih1 ih2=>
  refine .func fn xs ys (fun i v hv=>?_) (fun i v hv=>?_)
  ·obtain⟨u,hu⟩:=D27 h1 hv; exact ih1 i v u hv hu
  ·obtain⟨u,hu⟩:=D27 h3 hv; exact ih2 i v u hv hu
 | nilIface=>exact .nilIface
 | iface t v v' _ ih=>exact .iface t v ih
 | agg xs xs' h0 h1 _ ih=>exact .agg xs fun i v hv=>by obtain⟨u,hu⟩:=D27 h1 hv; exact ih i v u hv hu
 | tuple xs xs' h1 _ ih=>exact .tuple xs fun i v hv=>by obtain⟨u,hu⟩:=D27 h1 hv; exact ih i v u hv hu
theorem L6.known{H:A2}{μ:Mu}(hb:∀ b k,H.get b=some k→∃ m,μ b=some m){v:Value}(h:L6 H v):V4 μ v:=by
 induction h with
 | bool b=>exact .bool b
 | int k n=>exact .int k n
 | string s=>exact .string s
 | nilPtr=>exact .nilPtr
 | ptr b off k h=>obtain⟨m,hm⟩:=hb b k h; exact .ptr b off m hm
 | nilSlice=>exact .slice _ _ _ fun b off h=>by cases h
 | slice b off len cap k h=>exact .slice _ _ _ fun b' off' he=>by injection he with he; injection he with e1 e2 e3; subst e1; exact hb _ k h
 | unsure=>exact .slice _ _ _ fun b off h=>by injection h with h; injection h with h1 h2 h3; cases h3
 | bare=>exact .slice _ _ _ fun b off h=>by injection h with h; injection h with h1 h2 h3; cases h3
 | list len p g cells ys _ ih=>exact .via _ _ _ _ _ _ ih
 | box n p g cells ys _ ih=>exact .via _ _ _ _ _ _ ih
 | nilMap=>exact .nilMap
 | nilFunc=>exact .nilFunc
 | func fn xs ys _ _ ih1 ih2=>exact .func fn xs ys ih1 ih2
 | nilIface=>exact .nilIface
 | iface t v _ ih=>exact .iface t v ih
 | agg xs _ ih=>exact .agg xs ih
 | tuple xs _ ih=>exact .tuple xs ih
def Mu.cut(μ μ':Mu):Mu:=⟨μ.f,μ'.z⟩
theorem V4.cut {μ μ':Mu} (hle:μ.le μ') {v:Value} (h:V4 μ v):∀ v',VR μ' v v'→VR (μ.cut μ') v v':=by
 induction h with
 | bool b=>intro v' hv; cases hv; exact .bool b
 | int k n=>intro v' hv; cases hv; exact .int k n
 | string s=>intro v' hv; cases hv; exact .string s
 | nilPtr=>intro v' hv; cases hv; exact .nilPtr
 | ptr b off m h=>
  intro v' hv;cases hv with
  | ptr _ _ m' h'=>
   rw[hle.f _ _ h] at h'; injection h' with h'; subst h';exact .ptr b off m h
 | slice a len cap h=>
  intro v' hv;cases hv with
  | nilSlice=>exact .nilSlice
  | slice b off off' len cap cap' m h' hl hc ho hx=>
   obtain⟨m2,hm2⟩:=h b off rfl;rw[hle.f _ _ hm2] at h'; injection h' with h'; subst h';exact .slice b off off' len cap cap' m2 hm2 hl hc ho hx
  | unsure a=>exact .unsure a
  | bare a=>exact .bare a
 | via n p g t cells ys _ ih=>
  intro v' hv;cases hv with
  | list len p g cells ys blk off cap cs el fz hz hl hc hg h0 h2=>exact .list n p g cells ys blk off cap cs el fz hz hl hc hg h0 fun i v u hv hu=>ih i v hv u (h2 i v u hv hu)
  | empty p g cells ys a cap hn hs=>exact .empty p g cells ys a cap hn hs
  | box n p g cells ys blk off cs el fz hz hl h0 h2=>exact .box n p g cells ys blk off cs el fz hz hl h0 fun i v u hv hu=>ih i v hv u (h2 i v u hv hu)
 | empty p g cells ys=>
  intro v' hv;cases hv with
  | list len p g cells ys blk off cap cs el fz hz hl hc hg h0 h2=>exact .empty p g cells ys _ _ (fun h=>by cases h) (fun h=>absurd h hg)
  | empty p g cells ys a cap hn hs=>exact .empty p g cells ys a cap hn hs
 | dark=>intro v' hv; cases hv with | dark _ h hb=>exact .dark _ h hb
 | nilMap=>intro v' hv; cases hv; exact .nilMap
 | map b m h=>
  intro v' hv;cases hv with
  | map _ m' h'=>
   rw[hle.f _ _ h] at h'; injection h' with h'; subst h';exact .map b m h
 | nilFunc=>intro v' hv; cases hv; exact .nilFunc
 | func fn xs ys _ _ ih1 ih2=>
  intro v' hv;cases hv with
  | func _ _ xs' _ ys' h1 h2 h3 h4=>exact .func fn xs xs' ys ys' h1 (fun i v u hv hu=>ih1 i v hv u (h2 i v u hv hu)) h3 (fun i v u hv hu=>ih2 i v hv u (h4 i v u hv hu))
 | nilIface=>intro v' hv; cases hv; exact .nilIface
 | iface t v _ ih=>intro v' hv; cases hv with | iface _ _ u h=>exact .iface t v u (ih u h)
 | agg xs _ ih=>intro v' hv; cases hv with | agg _ xs' h0 h1 h2=>exact .agg xs xs' h0 h1 fun i v u hv hu=>ih i v hv u (h2 i v u hv hu)
 | tuple xs _ ih=>intro v' hv; cases hv with | tuple _ xs' h1 h2=>exact .tuple xs xs' h1 fun i v u hv hu=>ih i v hv u (h2 i v u hv hu)
theorem HR.cut{w0:G4}{μ μ':Mu}{H H':A2}{w w':World}(h:HR w0 μ H w)(h':HR w0 μ' H' w')(hle:μ.le μ')(hk:Q6 [] H H'):HR w0 (μ.cut μ') H w':=by
 have hget:∀ b k,H.get b=some k→H'.get b=some k:=fun b k hb=>hk.get hb (by simp);constructor
 ·exact h.dom
 ·intro b k hb;obtain⟨m,hm,hB⟩:=h.blk b k hb;obtain⟨m',hm',hB'⟩:=h'.blk b k (hget b k hb);rw[hle.f _ _ hm] at hm'; injection hm' with hm'; subst hm';obtain⟨cs,el,fz,g1,g2,g3,g4⟩:=hB'.here;refine⟨m,hm,hB'.esz,hB'.ro,⟨cs,el,fz,g1,g2,g3,fun i v hv=>?_⟩,hB'.ones,hB'.ext,hB'.own,hB'.low⟩;obtain⟨cs0,el0,fz0,k1,k2,k3,k4⟩:=hB.here;obtain⟨u,hu,r⟩:=g4 i v hv;obtain⟨u0,_,r0⟩:=k4 i v hv;exact⟨u,hu,r0.known.cut hle u r⟩
 ·intro b b' k k' m m' hb hb' r r' hm hm' he;exact h'.inj b b' k k' m m' (hget _ _ hb) (hget _ _ hb') r r' (hle.f _ _ hm) (hle.f _ _ hm') he
 ·exact h'.below
 ·exact⟨h'.zr.at_,h'.zr.old,fun k o b x m hz hb hr hm=>h'.zr.apart k o b x m hz (hget _ _ hb) hr (hle.f _ _ hm)⟩
theorem Mu.le_cut{μ μ':Mu}(hle:μ.le μ'):μ.le (μ.cut μ'):=⟨fun _ _ h=>h,hle.z⟩
theorem E5w{w0:G4}{μ μ':Mu}{H H':A2}{w w':World}{v v':Value}(h:HR w0 μ H w)(h':HR w0 μ' H' w')(hle:μ.le μ')(hv:VR μ' v v')(hk:Q6 [] H H')(ha:L6 H v) :
  μ.le (μ.cut μ')∧HR w0 (μ.cut μ') H w'∧VR (μ.cut μ') v v' :=
 ⟨Mu.le_cut hle,h.cut h' hle hk,(ha.known fun b k hb=>by obtain⟨m,hm,_⟩:=h.blk b k hb; exact⟨m,hm⟩).cut hle v' hv⟩
theorem A2.ζhf (H:A2) (b c:Nat):(H.set b none).get c=if c=b then none else H.get c:=by
 unfold A2.get A2.set;by_cases hb:b<H.n
 ·rw [if_pos hb];dsimp only;by_cases hc:c<H.n
  ·rw[if_pos hc,if_pos hc];by_cases hcb:c=b
   ·subst hcb;rw[if_pos rfl,List.getElem?_set];simp only[if_true];split <;> rfl
   ·rw[if_neg hcb,List.getElem?_set_ne (by omega)]
  ·rw[if_neg hc,if_neg hc]; split <;> rfl
 ·rw[if_neg hb];by_cases hcb:c=b
  ·subst hcb; rw[if_pos rfl,if_neg hb]
  ·rw[if_neg hcb]
def S7(H:A2):List Nat→A2
 | []=>H
 | b :: L=>S7 (H.set b none) L
theorem E61:∀ (L:List Nat) (H:A2),(S7 H L).n=H.n
 | [],_=>rfl
 | b :: L,H=>by rw[S7,E61 L,A2.n_set]
theorem E44:∀ (L:List Nat) (H:A2) (c:Nat),(S7 H L).get c=if c ∈ L then none else H.get c
 | [],_,_=>by simp[S7]
 | b :: L,H,c=>by
  rw[S7,E44 L,A2.ζhf];by_cases h1:c ∈ L
  ·simp[h1]
  ·by_cases h2:c=b
   ·simp[h2]
   ·simp[h1,h2]
theorem HR.freeze {w0:G4} {μ:Mu} {H:A2} {w:World} (h:HR w0 μ H w) {b:Nat} {k:Blk} {m:MB} (hk:H.get b=some k) (hr:k.ro=false) (hm:μ b=some m) :
  ∃ μ':Mu,μ.le μ'∧HR w0 μ' (H.set b none) w∧μ'.f=μ.f∧μ'.z m.blk=w.heap[m.blk]?:=by
 have hd:∀ j,Decidable (j=m.blk):=fun j=>inferInstance;have hle:μ.le ⟨μ.f,fun j=>if j=m.blk then w.heap[j]? else μ.z j⟩:=by
  refine⟨fun _ _ h=>h,fun j o hj=>?_⟩;dsimp only;split
  ·exact h.zr.at_ j o hj
  ·exact hj
 refine⟨⟨μ.f,fun j=>if j=m.blk then w.heap[j]? else μ.z j⟩,hle,?_,rfl,by simp⟩;obtain⟨m2,hm2,hB⟩:=h.blk b k hk;rw[hm] at hm2; injection hm2 with hm2; subst hm2;constructor
 ·intro c x hc; rw[A2.n_set]; exact h.dom c x hc
 ·intro c x hc;rw[A2.get_set hk] at hc;split at hc
  ·cases hc
  ·obtain⟨mm,hmm,hBB⟩:=h.blk c x hc;exact⟨mm,hmm,hBB.keep hle rfl⟩
 ·intro c c' x x' mm mm' hc hc';rw[A2.get_set hk] at hc hc';split at hc
  ·cases hc
  ·split at hc'
   ·cases hc'
   ·exact h.inj c c' x x' mm mm' hc hc'
 ·exact h.below
 ·constructor
  ·intro j o hj;dsimp only at hj;split at hj
   ·exact hj
   ·exact h.zr.at_ j o hj
  ·intro j o hj hS;dsimp only at hj;split at hj
   ·rename_i he; subst he; exact absurd hS (hB.own hr)
   ·exact h.zr.old j o hj hS
  ·intro j o c x mm hj hc hxr hmm;dsimp only at hj;rw[A2.get_set hk] at hc;split at hc
   ·cases hc
   ·rename_i hcb;split at hj
    ·rename_i he;subst he;exact fun he=>hcb (h.inj c b x k mm m hc hk hxr hr hmm hm he)
    ·exact h.zr.apart j o c x mm hj hc hxr hmm
theorem HR.freezeL {w0:G4} {w:World}:∀ (L:List Nat) {μ:Mu} {H:A2},HR w0 μ H w→(∀ b,b ∈ L→∀ k,H.get b=some k→k.ro=false) →
  ∃ μ':Mu,μ.le μ'∧HR w0 μ' (S7 H L) w∧μ'.f=μ.f∧∀ b k m,b ∈ L→H.get b=some k→μ b=some m→μ'.z m.blk=w.heap[m.blk]?
 | [],μ,H,h,_=>⟨μ,Mu.le_refl _,h,rfl,fun b k m hb=>by simp at hb⟩
 | b :: L,μ,H,h,hL=>by
  cases hk:H.get b with
  | none=>
   have hs:∀ c,(H.set b none).get c=H.get c:=fun c=>by
    rw[A2.ζhf];split
    ·rename_i hc; subst hc; exact hk.symm
    ·rfl
   have h1:HR w0 μ (H.set b none) w:=by
    constructor
    ·intro c m hc; rw[A2.n_set]; exact h.dom c m hc
    ·intro c x hc; rw[hs] at hc; exact h.blk c x hc
    ·intro c c' x x' m m' hc hc'; rw[hs] at hc hc'; exact h.inj c c' x x' m m' hc hc'
    ·exact h.below
    ·exact⟨h.zr.at_,h.zr.old,fun j o c x m hj hc=>by rw[hs] at hc; exact h.zr.apart j o c x m hj hc⟩
   obtain⟨μ',k1,k2,k3,k4⟩:=HR.freezeL L h1 fun c hc x hx=>by rw[hs] at hx; exact hL c (by simp[hc]) x hx
   refine⟨μ',k1,k2,k3,fun c x m hc hx hm=>?_⟩;rcases List.mem_cons.1 hc with rfl | hc
   ·rw[hk] at hx; cases hx
   ·exact k4 c x m hc (by rw[hs]; exact hx) hm
  | some k=>
   obtain ⟨m,hm,_⟩:=h.blk b k hk;obtain⟨μ1,j1,j2,j3,j4⟩:=h.freeze hk (hL b (by simp) k hk) hm;obtain⟨μ',k1,k2,k3,k4⟩:=HR.freezeL L j2 fun c hc x hx=>by
    rw[A2.get_set hk] at hx;split at hx
    ·cases hx
    ·exact hL c (by simp[hc]) x hx
   have hat:=k2.zr.at_;refine⟨μ',Mu.le_trans j1 k1,k2,k3.trans j3,fun c x mm hc hx hmm=>?_⟩;by_cases hcb:c=b
   ·subst hcb;rw[hm] at hmm; injection hmm with hmm; subst hmm;cases ho:w.heap[m.blk]? with
    | none=>
     obtain⟨m2,hm2,hB⟩:=h.blk c k hk;rw[hm] at hm2; injection hm2 with hm2; subst hm2;obtain⟨cs,el,fz,g1,_⟩:=hB.here;rw[ho] at g1; cases g1
    | some o=>exact k1.z _ _ (by rw[j4,ho])
   ·rcases List.mem_cons.1 hc with rfl | hc
    ·exact absurd rfl hcb
    ·exact k4 c x mm hc (by rw[A2.get_set hk,if_neg hcb]; exact hx) (by show μ1.f c=some mm; rw[j3]; exact hmm)
def V0(f:Value→Option (Value × List Nat)):List Value→Option (List Value × List Nat)
 | []=>some ([],[])
 | v :: vs=>match f v,V0 f vs with
  | some a,some b=>some (a.1 :: b.1,a.2++b.2)
  | _,_=>none
def fzV (n0:Nat) (H:A2):Nat→Value→Option (Value × List Nat)
 | 0,_=>none
 | d+1,v=>match v with
  | .pointer (some ⟨b,off,none⟩)=>
   bif Nat.blt b n0 then some (v,[]) else
   match H.get b with
   | some k=>bif k.ro || !Nat.ble off k.cells.length then none else (V0 (fzV n0 H d) (k.cells.drop off)).map fun r=>(boxV r.1.toArray,b :: r.2)
   | none=>none
  | .slice (some ⟨b,off,none⟩) len _=>
   bif Nat.blt b n0 then some (v,[]) else
   match H.get b with
   | some k=>bif k.ro || !Nat.ble (off+len*k.esz) k.cells.length then none else (V0 (fzV n0 H d) ((k.cells.drop off).take (len*k.esz))).map fun r=>(listV len r.1.toArray,b :: r.2)
   | none=>none
  | .slice none 0 0=>some (listV 0 #[],[])
  | .slice (some ⟨_,_,some _⟩) 0 0=>some (listV 0 #[],[])
  | .iface t u=>(fzV n0 H d u).map fun r=>(.iface t r.1,r.2)
  | .agg cs=>(V0 (fzV n0 H d) cs.toList).map fun r=>(.agg r.1.toArray,r.2)
  | .tuple cs=>(V0 (fzV n0 H d) cs.toList).map fun r=>(.tuple r.1.toArray,r.2)
  | v=>some (v,[])
theorem B99 {f:Value→Option (Value × List Nat)} {R:Value→Value→Prop}:∀ {l r:List Value} {L:List Nat},V0 f l=some (r,L) →
  (∀ v u M,v ∈ l→f v=some (u,M)→(∀ b,b ∈ M→b ∈ L)→R v u)→r.length=l.length∧∀ (i:Nat) v u,l[i]?=some v→r[i]?=some u→R v u
 | [],r,L,h,_=>by
  simp only[V0] at h;injection h with h; injection h with h1 h2; subst h1;exact⟨rfl,fun i v u hv=>by simp at hv⟩
 | v :: l,r,L,h,hR=>by
  simp only[V0] at h;split at h
  ·rename_i a b ha hb;injection h with h; injection h with h1 h2; subst h1 h2;obtain⟨a1,a2⟩:=a;obtain⟨b1,b2⟩:=b;have ih:=B99 (R:=R) hb fun v u M hv hf hM=>hR v u M (by simp[hv]) hf fun x hx=>by simp[hM x hx]
   refine⟨by simp[ih.1],fun i x u hx hu=>?_⟩;cases i with
   | zero=>
    simp at hx hu;subst hx hu;exact hR v a1 a2 (by simp) ha fun x hx=>by simp[hx]
   | succ i=>exact ih.2 i x u (by simpa using hx) (by simpa using hu)
  ·cases h
theorem D34 {n0:Nat} {H:A2}:∀ {d:Nat} {v u:Value} {L:List Nat},fzV n0 H d v=some (u,L)→v.oneCell'=true→u.oneCell'=true
 | 0,v,u,L,h,_=>by simp[fzV] at h
 | d + 1,v,u,L,h,ho=>by
  unfold fzV at h;split at h
  ·cases hb:Nat.blt _ n0 with
   | true=>rw[hb] at h; simp only[cond_true] at h; injection h with h; injection h with h1 _; subst h1; exact ho
   | false=>
    rw[hb] at h; simp only[cond_false] at h;split at h
    ·revert h;cases (_ || _:Bool)
     ·simp only[cond_false]; intro h;obtain⟨r,_,he⟩:=Option.map_eq_some_iff.1 h;injection he with h1 _; subst h1; rfl
     ·simp only[cond_true]; intro h; cases h
    ·cases h
  ·cases hb:Nat.blt _ n0 with
   | true=>rw[hb] at h; simp only[cond_true] at h; injection h with h; injection h with h1 _; subst h1; exact ho
   | false=>
    rw[hb] at h; simp only[cond_false] at h;split at h
    ·revert h;cases (_ || _:Bool)
     ·simp only[cond_false]; intro h;obtain⟨r,_,he⟩:=Option.map_eq_some_iff.1 h;injection he with h1 _; subst h1; rfl
     ·simp only[cond_true]; intro h; cases h
    ·cases h
  ·injection h with h; injection h with h1 _; subst h1; rfl
  ·injection h with h; injection h with h1 _; subst h1; rfl
  ·obtain⟨r,_,he⟩:=Option.map_eq_some_iff.1 h;injection he with h1 _; subst h1; rfl
  ·cases ho
  ·cases ho
  ·injection h with h; injection h with h1 _; subst h1; exact ho
theorem A9q {w0:G4} {n0:Nat} {μ μ':Mu} {H:A2} {w:World} (h:HR w0 μ H w) (hle:μ.le μ'):∀ (d:Nat) {v u v':Value} {L:List Nat},fzV n0 H d v=some (u,L) →
  (∀ b k m,b ∈ L→H.get b=some k→μ b=some m→μ'.z m.blk=w.heap[m.blk]?)→VR μ v v'→VR μ' u v'
 | 0,v,u,v',L,hf,_,_=>by simp[fzV] at hf
 | d + 1, v,u,v',L,hf,hL,hv=>by
  have ih:∀ {v u v':Value} {M:List Nat},fzV n0 H d v=some (u,M)→(∀ b,b ∈ M→b ∈ L)→VR μ v v'→VR μ' u v':=fun hf hM hv=>
   A9q h hle d hf (fun b k m hb hk hm=>hL b k m (hM b hb) hk hm) hv
  have lists:∀ {l r:List Value} {M:List Nat},V0 (fzV n0 H d) l=some (r,M)→(∀ b,b ∈ M→b ∈ L)→M7 l→r.length=l.length∧M7 r∧∀ (i:Nat) v u v',l[i]?=some v→r[i]?=some u→VR μ v v'→VR μ' u v':=by
   intro l r M hm hM ho;obtain⟨h1,h2⟩:=B99 (R:=fun v u=>u.oneCell'=true∧∀ v',VR μ v v'→VR μ' u v') hm fun v u M' hv hf hM'=>⟨D34 hf (ho v hv),fun v' hv'=>ih hf (fun b hb=>hM b (hM' b hb)) hv'⟩
   refine⟨h1,fun u hu=>?_,fun i v u v' hv hu hvv=>(h2 i v u hv hu).2 v' hvv⟩;obtain⟨i,hi⟩:=List.mem_iff_getElem?.1 hu;have hlt:i<l.length:=by rw[← h1]; exact (List.getElem?_eq_some_iff.1 hi).1
   exact (h2 i _ u (List.getElem?_eq_getElem hlt) hi).1
  have lists2:∀ {l r:List Value} {M:List Nat},V0 (fzV n0 H d) l=some (r,M)→(∀ b,b ∈ M→b ∈ L)→r.length=l.length∧∀ (i:Nat) v u v',l[i]?=some v→r[i]?=some u→VR μ v v'→VR μ' u v':=by
   intro l r M hm hM;obtain⟨h1,h2⟩:=B99 (R:=fun v u=>∀ v',VR μ v v'→VR μ' u v') hm fun v u M' hv hf hM'=>fun v' hv'=>ih hf (fun b hb=>hM b (hM' b hb)) hv';exact⟨h1,fun i v u v' hv hu hvv=>h2 i v u hv hu v' hvv⟩
  unfold fzV at hf;split at hf
  ·rename_i b off;cases hb:Nat.blt b n0 with
   | true=>rw[hb] at hf; simp only[cond_true] at hf; injection hf with hf; injection hf with h1 _; subst h1; exact hv.up hle
   | false=>
    rw[hb] at hf; simp only[cond_false] at hf;split at hf
    ·rename_i k hk;cases hc:(k.ro || !Nat.ble off k.cells.length:Bool) with
     | true=>rw[hc] at hf; cases hf
     | false=>
      rw[hc] at hf; simp only[cond_false] at hf;simp only[Bool.or_eq_false_iff,Bool.not_eq_false'] at hc;have hle2:=Nat.le_of_ble_eq_true hc.2;obtain⟨r,hr,he⟩:=Option.map_eq_some_iff.1 hf;injection he with h1 h2; subst h1 h2;cases hv with
      | ptr _ _ m hm=>
       obtain⟨m2,hm2,hB⟩:=h.blk b k hk;rw[hm] at hm2; injection hm2 with hm2; subst hm2;obtain⟨cs,el,fz,g1,g2,g3,g4⟩:=hB.here;obtain⟨l1,l2,l3⟩:=lists hr (fun x hx=>by simp[hx]) (hB.ones.drop off);have hz:μ'.z m.blk=some (.cells cs el fz):=by rw[hL b k m (by simp) hk hm,g1]
       have hx:=hB.ext;refine VR.box _ _ _ _ _ m.blk _ cs el fz hz (by simp[l1]; omega) (fun v hv=>l2 v (by simpa using hv)) fun i x x' hx hx'=>?_;have hi:i<r.1.length:=(List.getElem?_eq_some_iff.1 (by simpa using hx)).1;have hlt:i<(k.cells.drop off).length:=by omega
       have e1:k.cells[off+i]?=some (k.cells.drop off)[i]:=by rw[← List.getElem?_drop]; exact List.getElem?_eq_getElem hlt
       obtain⟨x2,e2,r2⟩:=g4 _ _ e1;rw[Nat.add_assoc] at hx';rw[hx'] at e2; injection e2 with e2; subst e2;exact l3 i _ x x' (List.getElem?_eq_getElem hlt) (by simpa using hx) r2
    ·cases hf
  ·rename_i b off len cap;cases hb:Nat.blt b n0 with
   | true=>rw[hb] at hf; simp only[cond_true] at hf; injection hf with hf; injection hf with h1 _; subst h1; exact hv.up hle
   | false=>
    rw[hb] at hf; simp only[cond_false] at hf;split at hf
    ·rename_i k hk;cases hc:(k.ro || !Nat.ble (off+len*k.esz) k.cells.length:Bool) with
     | true=>rw[hc] at hf; cases hf
     | false=>
      rw[hc] at hf; simp only[cond_false] at hf;simp only[Bool.or_eq_false_iff,Bool.not_eq_false'] at hc;have hle2:=Nat.le_of_ble_eq_true hc.2;obtain⟨r,hr,he⟩:=Option.map_eq_some_iff.1 hf;injection he with h1 h2; subst h1 h2;cases hv with
      | slice _ _ off' _ _ cap' m hm hl hcc ho hxx=>
       obtain⟨m2,hm2,hB⟩:=h.blk b k hk;rw[hm] at hm2; injection hm2 with hm2; subst hm2;obtain⟨cs,el,fz,g1,g2,g3,g4⟩:=hB.here;obtain⟨l1,l2,l3⟩:=lists hr (fun x hx=>by simp[hx]) ((hB.ones.drop off).take _);rcases Nat.eq_zero_or_pos len with h0 | h0
       ·subst h0; exact VR.empty _ _ _ _ _ _ (fun h=>by cases h) (fun h=>by cases h)
       ·have hpos:off'=m.base+off:=ho.resolve_left (by omega);subst hpos;have hz:μ'.z m.blk=some (.cells cs el fz):=by rw[hL b k m (by simp) hk hm,g1]
        have hx:=hB.ext;have hl1:r.1.length=len*k.esz:=by rw[l1]; simp; omega
        refine VR.list _ _ _ _ _ m.blk _ _ cs el fz hz (by simp[hl1]; omega) (by omega) (by decide) (fun v hv=>l2 v (by simpa using hv)) fun i x x' hx hx'=>?_;have hi:i<r.1.length:=(List.getElem?_eq_some_iff.1 (by simpa using hx)).1;have hlt:i<((k.cells.drop off).take (len*k.esz)).length:=by omega
        have e1:k.cells[off+i]?=some ((k.cells.drop off).take (len*k.esz))[i]:=by
         rw[← List.getElem?_drop];have:=List.getElem?_eq_getElem hlt;rw[List.getElem?_take,if_pos (by omega)] at this;exact this
        obtain⟨x2,e2,r2⟩:=g4 _ _ e1;rw[Nat.add_assoc] at hx';rw[hx'] at e2; injection e2 with e2; subst e2;exact l3 i _ x x' (List.getElem?_eq_getElem hlt) (by simpa using hx) r2
    ·cases hf
  ·injection hf with hf; injection hf with h1 _; subst h1;cases hv;exact VR.empty _ _ _ _ _ _ (fun _=>⟨rfl,by decide⟩) (fun h=>by cases h)
  ·injection hf with hf; injection hf with h1 _; subst h1;cases hv with
   | bare a=>exact VR.empty _ _ _ _ _ _ (fun _=>⟨rfl,by decide⟩) (fun h=>by cases h)
   | unsure a=>exact VR.empty _ _ _ _ _ _ (fun _=>⟨rfl,by decide⟩) (fun h=>by cases h)
  ·obtain⟨r,hr,he⟩:=Option.map_eq_some_iff.1 hf;injection he with h1 h2; subst h1 h2;cases hv with
   | iface _ _ x' hx=>exact .iface _ _ _ (ih (M:=r.2) hr (fun b hb=>hb) hx)
  ·obtain ⟨r,hr,he⟩:=Option.map_eq_some_iff.1 hf;injection he with h1 h2; subst h1 h2;cases hv with
   | agg _ xs' h0 h1 h2=>
    obtain⟨l1,l2,l3⟩:=lists hr (fun b hb=>hb) h0;refine .agg _ _ (fun v hv=>l2 v (by simpa using hv)) (by simp[l1,h1]) fun i x x' hx hx'=>?_;have hi:i<r.1.length:=(List.getElem?_eq_some_iff.1 (by simpa using hx)).1;rename_i cs;have hlt:i<cs.toList.length:=by omega
    exact l3 i _ x x' (List.getElem?_eq_getElem hlt) (by simpa using hx) (h2 i _ x' (by rw[← Array.getElem?_toList]; exact List.getElem?_eq_getElem hlt) hx')
  ·obtain ⟨r,hr,he⟩:=Option.map_eq_some_iff.1 hf;injection he with h1 h2; subst h1 h2;cases hv with
   | tuple _ xs' h1 h2=>
    obtain⟨l1,l3⟩:=lists2 hr (fun b hb=>hb);refine .tuple _ _ (by simp[l1,h1]) fun i x x' hx hx'=>?_;have hi:i<r.1.length:=(List.getElem?_eq_some_iff.1 (by simpa using hx)).1;rename_i cs;have hlt:i<cs.toList.length:=by omega
    exact l3 i _ x x' (List.getElem?_eq_getElem hlt) (by simpa using hx) (h2 i _ x' (by rw[← Array.getElem?_toList]; exact List.getElem?_eq_getElem hlt) hx')
  ·injection hf with hf; injection hf with h1 _; subst h1;exact hv.up hle
theorem E5o{a b:Nat}(h:Nat.blt a b=false):b≤a:=by
 refine Nat.le_of_not_lt fun hl=>?_;have:=Nat.ble_eq_true_of_le (show a+1≤b from hl);unfold Nat.blt at h;rw[this] at h; cases h
theorem A22 {n0:Nat} {H:A2} {f:Value→Option (Value × List Nat)}:∀ {l r:List Value} {L:List Nat},V0 f l=some (r,L) →
  (∀ v u M,f v=some (u,M)→∀ b,b ∈ M→n0≤b∧∃ k,H.get b=some k∧k.ro=false)→∀ b,b ∈ L→n0≤b∧∃ k,H.get b=some k∧k.ro=false
 | [],r,L,h,_,b,hb=>by
  simp only[V0] at h;injection h with h; injection h with h1 h2; subst h2; simp at hb
 | v :: l,r,L,h,hf,b,hb=>by
  simp only[V0] at h;split at h
  ·rename_i a c ha hc;injection h with h; injection h with h1 h2; subst h1 h2;rcases List.mem_append.1 hb with hb | hb
   ·exact hf v a.1 a.2 ha b hb
   ·exact A22 (r:=c.1) (L:=c.2) hc hf b hb
  ·cases h
theorem A7z {n0:Nat} {H:A2}:∀ (d:Nat) (v u:Value) (L:List Nat),fzV n0 H d v=some (u,L)→∀ b,b ∈ L→n0≤b∧∃ k,H.get b=some k∧k.ro=false
 | 0,v,u,L,h,_,_=>by simp[fzV] at h
 | d + 1,v,u,L,hf,x,hx=>by
  have ih:=A7z (n0:=n0) (H:=H) d;unfold fzV at hf;split at hf
  ·rename_i b off;cases hb:Nat.blt b n0 with
   | true=>rw[hb] at hf; simp only[cond_true] at hf; injection hf with hf; injection hf with _ h1; subst h1; simp at hx
   | false=>
    rw[hb] at hf; simp only[cond_false] at hf;split at hf
    ·rename_i k hk;cases hc:(k.ro || !Nat.ble off k.cells.length:Bool) with
     | true=>rw[hc] at hf; cases hf
     | false=>
      rw[hc] at hf; simp only[cond_false] at hf;simp only[Bool.or_eq_false_iff,Bool.not_eq_false'] at hc;obtain⟨r,hr,he⟩:=Option.map_eq_some_iff.1 hf;injection he with h1 h2; subst h1 h2;rcases List.mem_cons.1 hx with rfl | hx
      ·exact⟨E5o hb,k,hk,hc.1⟩
      ·exact A22 (r:=r.1) (L:=r.2) hr ih x hx
    ·cases hf
  ·rename_i b off len cap;cases hb:Nat.blt b n0 with
   | true=>rw[hb] at hf; simp only[cond_true] at hf; injection hf with hf; injection hf with _ h1; subst h1; simp at hx
   | false=>
    rw[hb] at hf; simp only[cond_false] at hf;split at hf
    ·rename_i k hk;cases hc:(k.ro || !Nat.ble (off+len*k.esz) k.cells.length:Bool) with
     | true=>rw[hc] at hf; cases hf
     | false=>
      rw[hc] at hf; simp only[cond_false] at hf;simp only[Bool.or_eq_false_iff,Bool.not_eq_false'] at hc;obtain⟨r,hr,he⟩:=Option.map_eq_some_iff.1 hf;injection he with h1 h2; subst h1 h2;rcases List.mem_cons.1 hx with rfl | hx
      ·exact⟨E5o hb,k,hk,hc.1⟩
      ·exact A22 (r:=r.1) (L:=r.2) hr ih x hx
    ·cases hf
  ·injection hf with hf; injection hf with _ h1; subst h1; simp at hx
  ·injection hf with hf; injection hf with _ h1; subst h1; simp at hx
  ·obtain⟨r,hr,he⟩:=Option.map_eq_some_iff.1 hf;injection he with h1 h2; subst h1 h2;exact ih _ r.1 r.2 hr x hx
  ·obtain⟨r,hr,he⟩:=Option.map_eq_some_iff.1 hf;injection he with h1 h2; subst h1 h2;exact A22 (r:=r.1) (L:=r.2) hr ih x hx
  ·obtain⟨r,hr,he⟩:=Option.map_eq_some_iff.1 hf;injection he with h1 h2; subst h1 h2;exact A22 (r:=r.1) (L:=r.2) hr ih x hx
  ·injection hf with hf; injection hf with _ h1; subst h1; simp at hx
inductive Mode where
 | no
 | gc
 | fz
def N9:Nat:=8
def A1x(md:Mode)(H:A2)(v:Value)(H':A2):Value × A2 :=
 match md with
 | .fz=>match fzV H.n H' N9 v with
  | some (u,L)=>(u,S7 H' L)
  | none=>(v,H')
 | _=>(v,H')
open Classical in
noncomputable def nrm(md:Mode)(H:A2)(r:Res Value):Res Value :=
 match r with
 | .ok v H'=>
  match md with
  | .no=>.ok v H'
  | md=>if Q6 [] H (A1x md H v H').2∧L6 H (A1x md H v H').1 then .ok (A1x md H v H').1 H else .ok (A1x md H v H').1 (A1x md H v H').2
 | .panic v H'=>if Q6 [] H H'∧L6 H v then .panic v H else .panic v H'
 | .stuck=>.stuck
theorem G8b {w0:G4} {μ:Mu} {H H':A2} {w:World} (md:Mode) (h':HR w0 μ H' w) {v v':Value} (hv:VR μ v v') :
  ∃ μ':Mu,μ.le μ'∧HR w0 μ' (A1x md H v H').2 w∧VR μ' (A1x md H v H').1 v':=by
 unfold A1x;split
 ·split
  ·rename_i u L hf;obtain⟨μ',k1,k2,k3,k4⟩:=h'.freezeL L fun b hb k hk=>by
    obtain⟨_,k2,h1,h2⟩:=A7z _ _ _ _ hf b hb;rw[hk] at h1; injection h1 with h1; subst h1; exact h2
   exact⟨μ',k1,k2,A9q h' k1 _ hf (fun b k m hb hk hm=>k4 b k m hb hk hm) hv⟩
  ·exact⟨μ,Mu.le_refl _,h',hv⟩
 ·exact⟨μ,Mu.le_refl _,h',hv⟩
theorem D0d {w0:G4} {μ:Mu} {H:A2} {w w':World} (md:Mode) (h:HR w0 μ H w) {r:Res Value} {e:Ending} (he:Z3 w0 μ r e w'):Z3 w0 μ (nrm md H r) e w':=by
 unfold Z3 at he;unfold nrm;split at he
 ·rename_i v H';obtain⟨μ',v',h1,h2,h3,rfl⟩:=he;dsimp only;split
  ·exact⟨μ',v',h1,h2,h3,rfl⟩
  ·obtain⟨μ2,k1,k2,k3⟩:=G8b (H:=H) md h2 h3;split
   ·rename_i hc;obtain⟨j1,j2,j3⟩:=E5w h k2 (Mu.le_trans h1 k1) k3 hc.1 hc.2;exact⟨_,v',j1,j2,j3,rfl⟩
   ·exact⟨μ2,v',Mu.le_trans h1 k1,k2,k3,rfl⟩
 ·rename_i v H';obtain⟨μ',v',h1,h2,h3,rfl⟩:=he;dsimp only;split
  ·rename_i hc;obtain⟨j1,j2,j3⟩:=E5w h h2 h1 h3 hc.1 hc.2;exact⟨_,v',j1,j2,j3,rfl⟩
  ·exact⟨μ',v',h1,h2,h3,rfl⟩
 ·exact he.elim
theorem E6c{md:Mode}{H:A2}{r:Res Value}(h:nrm md H r≠.stuck):r≠.stuck:=by
 intro e; subst e; exact h rfl
end Go.Sw
end
section
namespace Go.Sw
open Go.RowKit
theorem A7.runDraw(c:Cfg)(nt:Nat)(ops:Array Oper)(e:Env)(H:A2):A7 fun call=>runDraw c call nt ops e H:=by
 unfold Go.Sw.runDraw Go.Sw.runDrawK;exact A7.bif _ (A7.drawK c ops _ H (fun rs H'=>A7.stableIf c ops _ _ H rs rs 0 (A7.const _)) _ _ _ _ _) (A7.const _)
theorem A7.rangeN{F:A8→Env→A2→Res D0}(hF:∀ e H,A7 fun call=>F call e H)(ps:List Tmp)(e:Env):∀ (l:List (List Int)) (H:A2),A7 fun call=>rangeN (F call) ps e l H
 | [],_=>A7.const _
 | x :: xs,H=>by
  simp only[Go.Sw.rangeN];refine A7.bif _ (A7.bind (hF _ H) fun r H'=>?_) (A7.const _);split
  ·exact A7.rangeN hF ps e xs _
  ·exact A7.const _
theorem A7.exec (c:Cfg) (nt:Nat) (kp:Nat→List Nat):∀ (code:Code) (e:Env) (H:A2),A7 fun call=>exec c call (Go.Sw.runDraw c call nt) nt kp code e H
 | .skip,e,H=>A7.const _
 | .label _,e,H=>A7.const _
 | .exit i,e,H=>A7.const _
 | .ret,e,H=>A7.const _
 | .scope _,e,H=>A7.const _
 | .goto _,e,H=>A7.const _
 | .refuse _,e,H=>A7.const _
 | .region id ops d,e,H=>by
  simp only[Go.Sw.exec];exact A7.bind (A7.bif d (A7.runDraw c nt ops e H) (A7.runOps c nt ops ops.toList e H)) fun e' H'=>A7.const _
 | .seq a b,e,H=>by
  simp only[Go.Sw.exec];refine A7.bind (A7.exec c nt kp a e H) fun r H'=>?_;unfold A5x;split
  ·exact A7.exec c nt kp b _ _
  ·exact A7.const _
 | .cond x a b,e,H=>by
  simp only[Go.Sw.exec];exact A7.condV _ (A7.exec c nt kp a e H) (A7.exec c nt kp b e H)
 | .block id a,e,H=>by
  simp only[Go.Sw.exec];exact A7.bind (A7.exec c nt kp a e H) fun r H'=>A7.const _
 | .loop a,e,H=>by
  simp only[Go.Sw.exec]
  exact A7.loopN (F:=fun call e H=>(Go.Sw.exec c call (Go.Sw.runDraw c call nt) nt kp a e H).bind fun r H'=>.ok (A8f (kp (A0i a)) r) H')
   (fun e H=>A7.bind (A7.exec c nt kp a e H) fun r H'=>A7.const _) _ _ _
 | .rangeFunc f ps a b,e,H=>by
  simp only[Go.Sw.exec];refine A7.bind (A7.const _) fun l H=>A7.bif _ ?_ (A7.const _)
  exact A7.rangeN (F:=fun call e H=>(Go.Sw.exec c call (Go.Sw.runDraw c call nt) nt kp a e H).bind fun r H'=>A56 r H' fun e H=>(Go.Sw.exec c call (Go.Sw.runDraw c call nt) nt kp b e H).bind fun r H'=>.ok (B3u r) H')
   (fun e H=>A7.bind (A7.exec c nt kp a e H) fun r H'=>by
    unfold A56;split
    ·exact A7.bind (A7.exec c nt kp b _ _) fun r H'=>A7.const _
    ·exact A7.const _) _ _ _ _
theorem A7.bodyK (c:Cfg) (f:FuncId) (args:List Value) (H:A2):A7 fun call=>bodyK c call f args H:=by
 unfold Go.Sw.bodyK;cases c.P.funcs[f]? with
 | none=>exact A7.const _
 | some fn=>
  dsimp only;cases fn.body with
  | none=>exact A7.const _
  | some code=>
   dsimp only;refine A7.bif _ ?_ (A7.const _);simp only[Y7];exact A7.bind (A7.exec c _ _ code _ H) fun r H'=>A7.const _
theorem A7.nrm{F:A8→Res Value}(hF:A7 F)(md:Mode)(H:A2):A7 fun call=>nrm md H (F call):=by
 intro s lim h hne;obtain⟨n,hn⟩:=hF s lim h (E6c hne);exact⟨n,fun m hm=>by dsimp only; rw[hn m hm]⟩
structure A3c where
 c:Cfg
 md:FuncId→Nat→Mode
 ar:FuncId→Bool:=fun _=>false
 pk:FuncId→Bool:=fun _=>false
def B6q(args:List Value)(H:A2):List Value × A2 :=
 match V0 (fzV 0 H N9) args with
 | some (r,L)=>(r,S7 H L)
 | none=>(args,H)
theorem J07{args r:List Value}{H:A2}{L:List Nat}(h:V0 (fzV 0 H N9) args=some (r,L)):B6q args H=(r,S7 H L):=by unfold B6q; rw[h]
theorem B6r {w0:G4} {μ:Mu} {H:A2} {w:World} (h:HR w0 μ H w) {args args':List Value} (ha:VRs μ args args') :
  ∃ μ':Mu,μ.le μ'∧HR w0 μ' (B6q args H).2 w∧VRs μ' (B6q args H).1 args':=by
 unfold B6q;split
 ·rename_i r L hf;obtain⟨μ',k1,k2,k3,k4⟩:=h.freezeL L fun b hb k hk=>by
   obtain⟨_,k2,h1,h2⟩:=A22 (n0:=0) (H:=H) hf (fun v u M hv=>A7z _ _ _ _ hv) b hb;rw[hk] at h1; injection h1 with h1; subst h1; exact h2
  refine⟨μ',k1,k2,?_⟩;obtain⟨h1,h2⟩:=B99 (R:=fun v u=>∀ v',VR μ v v'→VR μ' u v') hf fun v u M _ hv hM v' hv'=>A9q h k1 _ hv (fun b k m hb hk hm=>k4 b k m (hM b hb) hk hm) hv';refine⟨h1.trans ha.1,fun i u v' hu hv'=>?_⟩;have hi:i<args.length:=by rw[← h1]; exact (List.getElem?_eq_some_iff.1 hu).1
  exact h2 i _ u (List.getElem?_eq_getElem hi) hu v' (ha.2 i _ v' (List.getElem?_eq_getElem hi) hv')
 ·exact⟨μ,Mu.le_refl _,h,ha⟩
theorem Z3.up{w0:G4}{μ μ':Mu}(hle:μ.le μ'){r:Res Value}{e:Ending}{w':World}(h:Z3 w0 μ' r e w'):Z3 w0 μ r e w':=by
 unfold Z3 at h ⊢;split at h
 ·obtain⟨a,b,c,d⟩:=h; exact⟨a,b,Mu.le_trans hle c,d⟩
 ·obtain⟨a,b,c,d⟩:=h; exact⟨a,b,Mu.le_trans hle c,d⟩
 ·exact h.elim
def B12:Value→Value
 | .bool b=>.bool b
 | .int k n=>.int k n
 | .string s=>.string s
 | _=>.chan none
def B6e:Value→Option Value
 | .agg cs=>some (.agg (cs.toList.map B12).toArray)
 | .tuple _=>none
 | v=>some (B12 v)
def B3s:List Value→Option (List Value)
 | []=>some []
 | v :: l=>(B6e v).bind fun u=>(B3s l).map (u :: ·)
theorem G9v(v:Value):(B12 v).oneCell'=true:=by cases v <;> rfl
theorem E5s{μ μ':Mu}{v v':Value}(h:VR μ' v v')(ho:v.oneCell'=true):VR μ (B12 v) v':=by
 have hd:(∀ b,v'≠.bool b)→VR μ (.chan none) v':=.dark v' (h.one.trans ho);cases h with
 | bool b=>exact .bool b
 | int k n=>exact .int k n
 | string s=>exact .string s
 | dark _ _ hb=>exact hd hb
 | _=>exact hd fun b hb=>by cases hb
theorem G9w {μ μ':Mu} {v u v':Value} (h:VR μ' v v') (hd:B6e v=some u):VR μ u v':=by
 unfold B6e at hd;split at hd
 ·injection hd with hd;subst hd;cases h with
  | agg _ xs' h0 h1 h2=>
   rename_i cs;refine VR.agg' (l':=xs'.toList) (l:=cs.toList.map B12) ⟨by simpa using h1,fun i v v' hv hv'=>?_⟩ (fun v hv=>?_)
   ·rw[List.getElem?_map] at hv;obtain⟨x,hx,rfl⟩:=Option.map_eq_some_iff.1 hv;exact E5s (h2 i x v' (by simpa using hx) (by simpa using hv')) (h0 x (List.mem_of_getElem? hx))
   ·obtain⟨x,_,rfl⟩:=List.mem_map.1 hv;exact G9v x
 ·cases hd
 ·rename_i h1 h2;injection hd with hd;subst hd;refine E5s h ?_;cases v with
  | agg cs=>exact absurd rfl (h1 cs)
  | tuple cs=>exact absurd rfl (h2 cs)
  | _=>rfl
theorem E5t{μ μ':Mu}:∀ {l us l':List Value},VRs μ' l l'→B3s l=some us→VRs μ us l'
 | [],us,l',h,hd=>by
  simp only[B3s] at hd;injection hd with hd;subst hd;rw[h.nil_inv];exact VRs.nil
 | v :: l,us,l',h,hd=>by
  obtain⟨v',r',rfl,hv,hr⟩:=h.cons_inv;obtain⟨u,hu,hd⟩:=Option.bind_eq_some_iff.1 hd;obtain⟨ws,hw,rfl⟩:=Option.map_eq_some_iff.1 hd;exact VRs.cons (G9w hv hu) (E5t hr hw)
def B3t:Value→Option Value
 | .tuple vs=>(B3s vs.toList).map fun us=>.tuple us.toArray
 | _=>none
theorem G9x {μ μ':Mu} {v u v':Value} (h:VR μ' v v') (hd:B3t v=some u):VR μ u v':=by
 unfold B3t at hd;split at hd
 ·obtain ⟨us,hu,rfl⟩:=Option.map_eq_some_iff.1 hd;cases h with
  | tuple _ xs' h1 h2=>
   have:=E5t (μ:=μ) (VRs.of_arr h1 h2) hu;have:=VRs.arr (xs:=us.toArray) (xs':=xs') (by simpa using this);exact .tuple _ _ this.1 this.2
 ·cases hd
def peekD(H:A2)(r:Res Value):Res Value :=
 match r with
 | .ok v _=>match B3t v with
  | some u=>.ok u H
  | none=>.stuck
 | _=>.stuck
def B4n(H:A2):List Nat:=(List.range H.n).filter fun b=>match H.get b with | some k=>!k.ro | none=>false
def A48(H:A2):A2:=S7 H (B4n H)
theorem B9v{H:A2}{b:Nat}{k:Blk}(h:H.get b=some k):b<H.n:=by
 unfold A2.get at h;split at h
 ·assumption
 ·cases h
theorem B7b{H:A2}{b:Nat}(h:b ∈ B4n H){k:Blk}(hk:H.get b=some k):k.ro=false:=by
 have:=(List.mem_filter.1 h).2;rw[hk] at this;simpa using this
theorem B1k{H:A2}{b:Nat}{k:Blk}(hk:H.get b=some k)(hr:k.ro=false):b ∈ B4n H:=by
 refine List.mem_filter.2 ⟨List.mem_range.2 (B9v hk),?_⟩;rw[hk];simp[hr]
theorem B7e {w0:G4} {μ μ1 μ':Mu} {H H':A2} {w w':World} (h:HR w0 μ H w) (hle:μ.le μ1) (hz:∀ b k m,b ∈ B4n H→H.get b=some k→μ b=some m→μ1.z m.blk=w.heap[m.blk]?)
  (h':HR w0 μ' H' w') (hle':μ1.le μ'):HR w0 μ H w':=by
 constructor
 ·exact h.dom
 ·intro b k hb;obtain⟨m,hm,hB⟩:=h.blk b k hb;refine⟨m,hm,hB.keep (Mu.le_refl _) ?_⟩;obtain⟨cs,el,fz,h1,_⟩:=hB.here;cases hr:k.ro with
  | false=>
   have h2:=hz b k m (B1k hb hr) hb hm;rw[h1] at h2 ⊢;exact h'.zr.at_ _ _ (hle'.z _ _ h2)
  | true=>
   have hS:=h.below.sub _ (hB.low hr);rw[h'.below.block _ hS,h.below.block _ hS]
 ·exact h.inj
 ·exact h'.below
 ·exact⟨fun j o hj=>h'.zr.at_ j o (hle'.z _ _ (hle.z _ _ hj)),h.zr.old,h.zr.apart⟩
noncomputable def B9j (t:A3c) (call:A8) (f:FuncId) (args:List Value) (H:A2):Res Value :=
 match V0 (fzV 0 H N9) args with
 | some (r,L)=>bif t.pk f && !L.isEmpty then peekD H (nrm (t.md f H.n) (A48 H) (bodyK t.c call f r (A48 H)))
   else nrm (t.md f H.n) (S7 H L) (bodyK t.c call f r (S7 H L))
 | none=>nrm (t.md f H.n) H (bodyK t.c call f args H)
noncomputable def stepG(t:A3c)(call:A8):A8:=fun f args H=>
 match t.c.sp f with
 | some s=>nrm (t.md f H.n) H (s call args H)
 | none=>bif t.ar f then B9j t call f args H else nrm (t.md f H.n) H (bodyK t.c call f args H)
noncomputable def Y3(t:A3c):Nat→A8
 | 0=>fun _ _ _=>.stuck
 | n+1=>stepG t (Y3 t n)
def V3(c:Cfg):Prop:=∀ f s,c.sp f=some s→∀ args H,A7 fun call=>s call args H
theorem V3.of {P:Program} {kp:FuncId→Nat→List Nat} {speaks:List Nat} {more:FuncId→Option Sp} {k:Nat} (hs:∀ f s,more f=some s→∀ args H,A7 fun call=>s call args H) :
  V3 { P:=P,kp:=kp,sp:=B7t speaks more k }:=by
 intro f s' hf;simp only[B7t] at hf;cases h1:B49 f speaks with
 | true=>
  rw[h1,cond_true] at hf;cases h2:Nat.beq f k with
  | true=>
   rw[h2,cond_true,Option.some.injEq] at hf;subst hf;exact fun args H=>A7.const _
  | false=>
   rw[h2,cond_false,Option.some.injEq] at hf;subst hf;exact fun args H=>A7.const _
 | false=>
  rw[h1,cond_false] at hf;exact hs f s' hf
theorem A7.peekD{F:A8→Res Value}(hF:A7 F)(H:A2):A7 fun call=>peekD H (F call):=by
 intro s lim h hne;obtain⟨n,hn⟩:=hF s lim h (fun e=>hne (by dsimp only; rw[e]; rfl));exact⟨n,fun m hm=>by dsimp only; rw[hn m hm]⟩
theorem A7.stepG{t:A3c}(hs:V3 t.c)(f:FuncId)(args:List Value)(H:A2):A7 fun call=>stepG t call f args H:=by
 unfold Go.Sw.stepG;cases h:t.c.sp f with
 | some s=>exact A7.nrm (hs f s h args H) _ _
 | none=>
  refine A7.bif _ ?_ (A7.nrm (A7.bodyK _ _ _ _) _ _);unfold B9j;cases V0 (fzV 0 H N9) args with
  | none=>exact A7.nrm (A7.bodyK _ _ _ _) _ _
  | some x=>exact A7.bif _ (A7.peekD (A7.nrm (A7.bodyK _ _ _ _) _ _) H) (A7.nrm (A7.bodyK _ _ _ _) _ _)
def Le(c1 c2:A8):Prop:=∀ f a H,c1 f a H≠.stuck→c2 f a H=c1 f a H
theorem A7.mono{α:Type}{F:A8→Res α}(hF:A7 F){c1 c2:A8}(h:Le c1 c2)(hne:F c1≠.stuck):F c2=F c1:=by
 obtain⟨n,hn⟩:=hF (fun _=>c2) c1 (fun f a H hn=>⟨0,fun m _=>h f a H hn⟩) hne;exact hn n (Nat.le_refl _)
theorem B0y{t:A3c}(hs:V3 t.c):∀ n,Le (Y3 t n) (Y3 t (n+1))
 | 0=>fun _ _ _ h=>absurd rfl h
 | n+1=>fun f a H h=>A7.mono (A7.stepG hs f a H) (B0y hs n) h
theorem A7p{t:A3c}(hs:V3 t.c){n m:Nat}(h:n≤m):Le (Y3 t n) (Y3 t m):=by
 induction h with
 | refl=>exact fun _ _ _ _=>rfl
 | step _ ih=>
  intro f a H hn;have h1:=ih f a H hn;rw[← h1];exact B0y hs _ f a H (by rw[h1]; exact hn)
open Classical in
noncomputable def R(t:A3c):A8:=fun f args H=>if h:∃ n,Y3 t n f args H≠.stuck then Y3 t (Classical.choose h) f args H else .stuck
theorem D2t{t:A3c}(hs:V3 t.c){n:Nat}{f:FuncId}{args:List Value}{H:A2}(h:Y3 t n f args H≠.stuck):R t f args H=Y3 t n f args H:=by
 unfold R;have hex:∃ n,Y3 t n f args H≠.stuck:=⟨n,h⟩
 rw[dif_pos hex];have h2:=Classical.choose_spec hex;rcases Nat.le_total n (Classical.choose hex) with hl | hl
 ·exact A7p hs hl f args H h
 ·exact (A7p hs hl f args H h2).symm
theorem B5r{t:A3c}(hs:V3 t.c):D7b (Y3 t) (R t):=by
 intro f a H h;unfold R at h;by_cases hex:∃ n,Y3 t n f a H≠.stuck
 ·obtain⟨n,hn⟩:=hex;refine⟨n,fun m hm=>?_⟩;have:=A7p hs hm f a H hn;rw[this,D2t hs hn]
 ·rw[dif_neg hex] at h; exact absurd rfl h
theorem B2d {t:A3c} (hs:V3 t.c) (f:FuncId) (args:List Value) (H:A2):R t f args H=stepG t (R t) f args H:=by
 by_cases h:stepG t (R t) f args H=.stuck
 ·rw [h];by_cases hr:R t f args H=.stuck
  ·exact hr
  ·exfalso;have hex:∃ n,Y3 t n f args H≠.stuck:=by
    unfold R at hr;by_cases hex:∃ n,Y3 t n f args H≠.stuck
    ·exact hex
    ·rw[dif_neg hex] at hr; exact absurd rfl hr
   obtain⟨n,hn⟩:=hex;cases n with
   | zero=>exact hn rfl
   | succ n=>
    have hle:Le (Y3 t n) (R t):=fun f a H h=>D2t hs h;have:=A7.mono (A7.stepG hs f args H) hle hn;rw[h] at this;exact hn this.symm
 ·obtain⟨n,hn⟩:=A7.stepG hs f args H (Y3 t) (R t) (B5r hs) h;have h1:=hn n (Nat.le_refl _);dsimp only at h1;have h2:Y3 t (n+1) f args H=stepG t (R t) f args H:=h1;rw[← h2];exact D2t hs (by rw[h2]; exact h)
theorem B5s{t:A3c}(hs:V3 t.c){f:FuncId}(h:t.c.sp f=none)(har:t.ar f=false)(args:List Value)(H:A2):R t f args H=nrm (t.md f H.n) H (bodyK t.c (R t) f args H):=by
 rw[B2d hs];unfold stepG;rw[h,har];rfl
theorem B9f{t:A3c}(hs:V3 t.c){f:FuncId}(h:t.c.sp f=none)(har:t.ar f=true){args r:List Value}{H:A2}{L:List Nat}(hf:V0 (fzV 0 H N9) args=some (r,L))(hp:(t.pk f && !L.isEmpty)=false):R t f args H=nrm (t.md f H.n) (S7 H L) (bodyK t.c (R t) f r (S7 H L)):=by
 rw[B2d hs];unfold stepG B9j;rw[h,har,cond_true,hf];dsimp only;rw[hp,cond_false]
theorem B5t{t:A3c}(hs:V3 t.c){f:FuncId}{s:A8→List Value→A2→Res Value}(h:t.c.sp f=some s)(args:List Value)(H:A2):R t f args H=nrm (t.md f H.n) H (s (R t) args H):=by
 rw[B2d hs];unfold stepG;rw[h]
theorem B76{P:Program}{md:Mode}{f:FuncId}{args:List Value}{H:A2}{r:Res Value}
  (h:r≠.stuck→(∃ fn,P.funcs[f]?=some fn∧fn.body.isSome=true∧(fn.name == "runtime.NumGoroutine")=false)∧∀ w0 μ w args',HR w0 μ H w→VRs μ args args'→Calls P f args'.toArray w fun e w'=>Z3 w0 μ r e w')
  (hne:nrm md H r≠.stuck) :
  (∃ fn,P.funcs[f]?=some fn∧fn.body.isSome=true∧(fn.name == "runtime.NumGoroutine")=false)∧∀ w0 μ w args',HR w0 μ H w→VRs μ args args'→Calls P f args'.toArray w fun e w'=>Z3 w0 μ (nrm md H r) e w':=by
 obtain⟨h1,h2⟩:=h (E6c hne);exact⟨h1,fun w0 μ w args' hH ha=>(h2 w0 μ w args' hH ha).mono fun e w' he=>D0d md hH he⟩
theorem B0x {t:A3c} (hN:Y2 t.c.P) (hmix:t.c.P.follows .mixedOrders=true) (hsp:A4p t.c):∀ n,N7 t.c.P (Y3 t n)
 | 0=>fun _ _ _ h=>absurd rfl h
 | n + 1 => by
  intro f args H hne;have ih:=B0x hN hmix hsp n;simp only[Y3,stepG] at hne ⊢;cases hs:t.c.sp f with
  | some s=>
   rw[hs] at hne;exact B76 (fun h=>hsp.2 f s hs _ ih args H h) hne
  | none =>
   rw[hs] at hne
   have key:∀ (md:Mode) (args:List Value) (H:A2),nrm md H (bodyK t.c (Y3 t n) f args H)≠.stuck→(∃ fn,t.c.P.funcs[f]?=some fn∧fn.body.isSome=true∧(fn.name == "runtime.NumGoroutine")=false) ∧
     ∀ w0 μ w args',HR w0 μ H w→VRs μ args args'→Calls t.c.P f args'.toArray w fun e w'=>Z3 w0 μ (nrm md H (bodyK t.c (Y3 t n) f args H)) e w':=by
    intro md args H hne;refine B76 (fun h=>?_) hne;unfold bodyK at h ⊢;cases hf:t.c.P.funcs[f]? with
    | none=>rw[hf] at h; exact absurd rfl h
    | some fn=>
     rw[hf] at h;dsimp only at h ⊢;cases hb:fn.body with
     | none=>rw[hb] at h; exact absurd rfl h
     | some code=>
      rw[hb] at h;dsimp only at h ⊢;cases hl:Nat.ble args.length fn.ntmps with
      | false=>rw[hl] at h; exact absurd rfl h
      | true=>
       rw[hl] at h;simp only[cond_true,Y7,A80] at h ⊢;have:=A9j (draw:=fun nt=>runDraw t.c (Y3 t n) nt) hN hmix hsp.1 ih (fun nt=>A77 ih nt) hf hb (Nat.le_of_ble_eq_true hl) h;rw[hf] at this;exact this
   cases har:t.ar f with
   | false=>
    rw[har] at hne;exact key _ args H hne
   | true=>
    rw[har,cond_true] at hne;simp only[cond_true];unfold B9j at hne ⊢;cases hf:V0 (fzV 0 H N9) args with
    | none=>
     rw[hf] at hne;exact key _ _ _ hne
    | some x=>
     obtain⟨r,L⟩:=x;rw[hf] at hne;dsimp only at hne ⊢;cases hp:t.pk f && !L.isEmpty with
     | false=>
      rw[hp,cond_false] at hne;rw[cond_false];obtain⟨h1,h2⟩:=key _ _ _ hne;refine⟨h1,fun w0 μ w args' hH ha=>?_⟩;obtain⟨μ',k1,k2,k3⟩:=B6r hH ha;rw[J07 hf] at k2 k3;exact (h2 w0 μ' w args' k2 k3).mono fun e w' he=>Z3.up k1 he
     | true=>
      rw [hp,cond_true] at hne;rw[cond_true];have hne2:nrm (t.md f H.n) (A48 H) (bodyK t.c (Y3 t n) f r (A48 H))≠.stuck:=fun e=>hne (by rw[e]; rfl);obtain⟨h1,h2⟩:=key _ _ _ hne2;refine⟨h1,fun w0 μ w args' hH ha=>?_⟩;obtain⟨μ1,k1,k2,k3,k4⟩:=hH.freezeL (B4n H) fun b hb k hk=>B7b hb hk;have hL:∀ b,b ∈ L→b ∈ B4n H:=fun b hb=>by
       obtain⟨_,k2,g1,g2⟩:=A22 (n0:=0) (H:=H) hf (fun v u M hv=>A7z _ _ _ _ hv) b hb;exact B1k g1 g2
      obtain ⟨g1,g2⟩:=B99 (R:=fun v u=>∀ v',VR μ v v'→VR μ1 u v') hf fun v u M _ hv hM v' hv'=>A9q hH k1 _ hv (fun b k m hb hk hm=>k4 b k m (hL b (hM b hb)) hk hm) hv';have hr:VRs μ1 r args':=by
       refine⟨g1.trans ha.1,fun i u v' hu hv'=>?_⟩;have hi:i<args.length:=by rw[← g1]; exact (List.getElem?_eq_some_iff.1 hu).1
       exact g2 i _ u (List.getElem?_eq_getElem hi) hu v' (ha.2 i _ v' (List.getElem?_eq_getElem hi) hv')
      refine (h2 w0 μ1 w args' k2 hr).mono fun e w' he=>?_;generalize nrm (t.md f H.n) (A48 H) (bodyK t.c (Y3 t n) f r (A48 H))=q at he hne;cases q with
      | stuck=>exact he.elim
      | panic v Hq=>exact absurd rfl hne
      | ok v H'=>
       obtain⟨μ',v',h7,h6,h5,rfl⟩:=he;unfold peekD at hne ⊢;dsimp only at hne ⊢;cases hd:B3t v with
       | none=>rw[hd] at hne; exact absurd rfl hne
       | some u=>
        exact⟨μ,v',Mu.le_refl _,B7e hH k1 k4 h6 h7,G9x h5 hd,rfl⟩
theorem E6o{t:A3c}(hN:Y2 t.c.P)(hmix:t.c.P.follows .mixedOrders=true)(hsp:A4p t.c)(hs:V3 t.c):N7 t.c.P (R t):=by
 intro f args H hne;obtain⟨n,hn⟩:=B5r hs f args H hne;have h1:=hn n (Nat.le_refl _);rw[← h1];exact B0x hN hmix hsp n f args H (by rw[h1]; exact hne)
theorem B6x{t:A3c}(hN:Y2 t.c.P)(hmix:t.c.P.follows .mixedOrders=true)(hsp:A4p t.c)(hs:V3 t.c){f:FuncId}{args args':List Value}{H':A2}{w:World}
  (hargs:VRs (Mu.start w) args args') (hrun:R t f args A2.empty=.ok (.bool true) H') :
  Calls t.c.P f args'.toArray w fun e w'=>e=.returned (.bool true)∧Below w.heap.size w w' :=
 J0d (E6o hN hmix hsp hs) (HR.empty w) hargs hrun
end Go.Sw
end
section
namespace Go.Sw
def tryV (short:TypeId) (call:A8) (args:List Value) (H:A2):Res Value :=
 match args with
 | [.func (.func g) first captured]=>
  (call g (first.toList++captured.toList) H).bindP (fun _ H'=>.ok (.bool true) H') fun v H'=>
   match v with
   | .iface t (.agg xs)=>bif Nat.beq t short && Nat.beq xs.size 0 then .ok (.bool false) H' else .stuck
   | _=>.stuck
 | _=>.stuck
theorem A7.tryV(short:TypeId):∀ args H,A7 fun call=>tryV short call args H:=by
 intro args H;unfold Go.Sw.tryV;split
 ·exact A7.bindP (A7.call _ _ _) (fun _ _=>A7.const _) fun _ _=>A7.const _
 ·exact A7.const _
theorem A7.told{s:List Value→A2→Res Value}:∀ args H,A7 fun _=>s args H:=fun _ _=>A7.const _
def own(k:Nat):Mode:=bif Nat.blt k 1000000 then .fz else .no
abbrev Ext(H H':A2):Prop:=Q6 [] H H'
theorem Ext.refl(H:A2):Ext H H:=Q6.refl [] H
theorem Ext.trans{a b c:A2}(h:Ext a b)(k:Ext b c):Ext a c:=Q6.trans h k
theorem Ext.push{H H':A2}(h:Ext H H')(k:Blk):Ext H (H'.push k):=h.trans (Q6.push H' k)
theorem Ext.get{H H':A2}(h:Ext H H'){b:Nat}{k:Blk}(hb:H.get b=some k):H'.get b=some k:=Q6.get h hb (by simp)
theorem Ext.set{H H':A2}(h:Ext H H'){b:Nat}(hb:H.n≤b)(x:Option Blk):Ext H (H'.set b x):=by
 refine⟨by rw[A2.n_set]; exact h.1,fun c hc hs=>?_⟩;rw[← h.2 c hc hs];unfold A2.set;split
 ·unfold A2.get;dsimp only;split
  ·rw[List.getElem?_set_ne (by omega)]
  ·rfl
 ·rfl
theorem Ext.n{H H':A2}(h:Ext H H'):H.n≤H'.n:=h.1
theorem Ext.empty(H:A2):Ext A2.empty H:=⟨Nat.zero_le _,fun _ hc=>absurd hc (Nat.not_lt_zero _)⟩
def A0t{α:Type}(H:A2)(r:Res α)(a:α):Prop:=∃ H',r=.ok a H'∧Ext H H'
def D2v{α:Type}(H:A2)(r:Res α)(v:Value):Prop:=∃ H',r=.panic v H'∧Ext H H'
theorem A0t.ret{α:Type}{H H':A2}{a:α}(h:Ext H H'):A0t H (.ok a H') a:=⟨H',rfl,h⟩
theorem A0t.of{α:Type}{H:A2}{r:Res α}{a:α}(h:r=.ok a H):A0t H r a:=⟨H,h,Ext.refl H⟩
theorem A0t.more{α:Type}{H H':A2}{r:Res α}{a:α}(h:A0t H' r a)(he:Ext H H'):A0t H r a:=by
 obtain⟨H2,h1,h2⟩:=h;exact⟨H2,h1,he.trans h2⟩
theorem A0t.bind{α β:Type}{H:A2}{r:Res α}{a:α}{f:α→A2→Res β}{b:β}(h:A0t H r a)(hf:∀ H',Ext H H'→A0t H' (f a H') b):A0t H (r.bind f) b:=by
 obtain⟨H1,rfl,h1⟩:=h;obtain⟨H2,h2,h3⟩:=hf H1 h1;exact⟨H2,h2,h1.trans h3⟩
theorem D8{H:A2}{r:Res Value}{v:Value}(h:A0t H r v)(ha:L6 H v):nrm .gc H r=.ok v H:=by
 obtain⟨H',rfl,he⟩:=h;have hfr:A1x .gc H v H'=(v,H'):=rfl;unfold nrm;dsimp only;rw[if_pos (by rw[hfr]; exact⟨he,ha⟩),hfr]
theorem G7{H H':A2}{r:Res Value}{v u:Value}{L:List Nat}(h:r=.ok v H')(hf:fzV H.n H' N9 v=some (u,L))(he:Ext H H')(ha:L6 H u):nrm .fz H r=.ok u H:=by
 subst h;have hfr:A1x .fz H v H'=(u,S7 H' L):=by unfold A1x; rw[hf]
 unfold nrm;dsimp only;rw[if_pos ?_,hfr];rw[hfr];refine⟨?_,ha⟩;refine⟨by rw[E61]; exact he.1,fun b hb hs=>?_⟩;rw[E44,if_neg,he.2 b hb hs];intro hm;have:=(A7z _ _ _ _ hf b hm).1;omega
theorem A0p{H:A2}{md:Mode}{r:Res Value}{v:Value}(h:D2v H r v)(ha:L6 H v):nrm md H r=.panic v H:=by
 obtain⟨H',rfl,he⟩:=h;unfold nrm;dsimp only;rw[if_pos ⟨he,ha⟩]
@[simp] theorem D3b(H:A2)(v:Value)(H':A2):nrm .no H (.ok v H')=.ok v H':=rfl
inductive D3:Value→Prop
 | bool (b:Bool):D3 (.bool b)
 | int (k:IntKind) (n:Int):D3 (.int k n)
 | string (s:ByteArray):D3 (.string s)
 | nilPtr:D3 (.pointer none)
 | via (n:Nat) (p:Array FieldStep) (g:FuncId) (t:Bool) (cells ys:Array Value) (h:∀ (i:Nat) (v:Value),cells[i]?=some v→D3 v):D3 (.func (.via n p g t) cells ys)
 | nilFunc:D3 .nilFunc
 | nilIface:D3 .nilIface
 | iface (t:TypeId) (v:Value) (h:D3 v):D3 (.iface t v)
 | agg (xs:Array Value) (h:∀ (i:Nat) (v:Value),xs[i]?=some v→D3 v):D3 (.agg xs)
 | tuple (xs:Array Value) (h:∀ (i:Nat) (v:Value),xs[i]?=some v→D3 v):D3 (.tuple xs)
theorem D3.alive{H:A2}{v:Value}(h:D3 v):L6 H v:=by
 induction h with
 | bool b=>exact .bool b
 | int k n=>exact .int k n
 | string s=>exact .string s
 | nilPtr=>exact .nilPtr
 | via n p g t cells ys _ ih=>cases t with
  | false=>exact .list n p g cells ys ih
  | true=>exact .box n p g cells ys ih
 | nilFunc=>exact .nilFunc
 | nilIface=>exact .nilIface
 | iface t v _ ih=>exact .iface t v ih
 | agg xs _ ih=>exact .agg xs ih
 | tuple xs _ ih=>exact .tuple xs ih
def A1p(l:List Value):Prop:=∀ v,v ∈ l→D3 v
theorem A1p.nil:A1p []:=fun v h=>by simp at h
theorem A1p.cons{v:Value}{l:List Value}(h:D3 v)(hl:A1p l):A1p (v :: l):=fun u hu=>by
 rcases List.mem_cons.1 hu with rfl | hu
 ·exact h
 ·exact hl u hu
theorem A1p.get{l:List Value}(h:A1p l){i:Nat}{v:Value}(hv:l[i]?=some v):D3 v:=h v (List.mem_of_getElem? hv)
theorem D3.listV(n:Nat){l:List Value}(h:A1p l):D3 (listV n l.toArray):=.via _ _ _ _ _ _ fun i v hv=>h.get (i:=i) (by simpa using hv)
theorem D3.boxV{l:List Value}(h:A1p l):D3 (boxV l.toArray):=.via _ _ _ _ _ _ fun i v hv=>h.get (i:=i) (by simpa using hv)
theorem D3.tupleL{l:List Value}(h:A1p l):D3 (.tuple l.toArray):=.tuple _ fun i v hv=>h.get (i:=i) (by simpa using hv)
theorem D3.aggL{l:List Value}(h:A1p l):D3 (.agg l.toArray):=.agg _ fun i v hv=>h.get (i:=i) (by simpa using hv)
def A2a:Value→Prop
 | .bool _ | .int _ _ | .string _ | .pointer none | .func _ _ _ | .nilFunc | .nilIface=>True
 | _=>False
theorem J08{n0:Nat}{H:A2}{d:Nat}{v:Value}(h:A2a v):fzV n0 H (d+1) v=some (v,[]):=by
 unfold A2a at h;split at h <;> first | rfl | exact h.elim
theorem D6i{n0:Nat}{H:A2}{d:Nat}:∀ {l:List Value},(∀ v,v ∈ l→A2a v)→V0 (fzV n0 H (d+1)) l=some (l,[])
 | [],_=>rfl
 | v :: l,h=>by simp only[V0,J08 (h v (by simp)),D6i (l:=l) fun u hu=>h u (by simp[hu])]; rfl
end Go.Sw
end
