/-
  A speaking function, run by itself, answers true.
-/
import Derived.Test.YtanfippcmdialaaSwLib5
section
namespace Go.Sw
def Appr (s:Nat → Caller) (lim:Caller):Prop:=∀ f a H,lim f a H ≠ .stuck → ∃ n,∀ m,n ≤ m → s m f a H = lim f a H
def Scott {α:Type} (F:Caller → Res α):Prop:=∀ s lim,Appr s lim → F lim ≠ .stuck → ∃ n,∀ m,n ≤ m → F (s m) = F lim
theorem Scott.const {α:Type} (r:Res α):Scott fun _ => r:=fun _ _ _ _ => ⟨0,fun _ _ => rfl⟩
theorem Scott.call (f:FuncId) (a:List Value) (H:Heap):Scott fun call => call f a H:=fun _ _ h hne => h f a H hne
theorem Scott.bind {α β:Type} {F:Caller → Res α} {G:Caller → α → Heap → Res β} (hF:Scott F) (hG:∀ a H,Scott fun call => G call a H):Scott fun call => (F call).bind (G call):=by
 intro s lim h hne;have hne1:F lim ≠ .stuck:=Res.bind_ne hne;obtain ⟨n1,h1⟩:=hF s lim h hne1;cases hr:F lim with
 | stuck => exact absurd hr hne1
 | panic v H =>
  refine ⟨n1,fun m hm => ?_⟩;show (F (s m)).bind (G (s m)) = (F lim).bind (G lim);rw [h1 m hm,hr]; rfl
 | ok a H =>
  have hne2:G lim a H ≠ .stuck:=by
   have:=hne;dsimp only at this;rw [hr] at this;exact this
  obtain ⟨n2,h2⟩:=hG a H s lim h hne2;refine ⟨max n1 n2,fun m hm => ?_⟩;show (F (s m)).bind (G (s m)) = (F lim).bind (G lim);rw [h1 m (by omega),hr];exact h2 m (by omega)
theorem Scott.condV {α:Type} {F G:Caller → Res α} (v:Option Value) (hF:Scott F) (hG:Scott G):Scott fun call => condV v (F call) (G call):=by
 unfold Go.Sw.condV;split
 ·exact hF
 ·exact hG
 ·exact Scott.const _
theorem Scott.bif {α:Type} {F G:Caller → Res α} (b:Bool) (hF:Scott F) (hG:Scott G):Scott fun call => bif b then F call else G call:=by
 cases b
 ·exact hG
 ·exact hF
theorem Scott.callV (f:Value) (args:List Value) (H:Heap):Scott fun call => callV call f args H:=by
 unfold Go.Sw.callV;split
 ·exact Scott.call _ _ _
 ·exact Scott.const _
theorem Scott.invokeR (P:Program) (r:Value) (name:String) (args:List Value) (H:Heap):Scott fun call => invokeR P call r name args H:=by
 unfold Go.Sw.invokeR;split
 ·exact Scott.bind (Scott.const _) fun f H => Scott.call _ _ _
 ·exact Scott.const _
theorem Scott.stepOp (c:Cfg) (e:Env) (H:Heap) (op:Op):Scott fun call => stepOp c call e H op:=by
 cases op <;> simp only [Go.Sw.stepOp] <;> first
  | exact Scott.const _
  | skip
 case call k =>
  refine Scott.bind (Scott.const _) fun args H => ?_;split
  ·exact Scott.const _
  ·exact Scott.bind (Scott.const _) fun f H => Scott.callV _ _ _
  ·exact Scott.bind (Scott.const _) fun r H => Scott.invokeR _ _ _ _ _
theorem Scott.stepO (c:Cfg) (ops:Array Oper) (e:Env) (H:Heap) (o:Oper):Scott fun call => stepO c call ops e H o:=by
 unfold Go.Sw.stepO;split
 ·exact Scott.const _
 ·exact Scott.bif _ (Scott.stepOp _ _ _ _) (Scott.const _)
theorem Scott.runOps (c:Cfg) (nt:Nat) (ops:Array Oper):∀ (os:List Oper) (e:Env) (H:Heap),Scott fun call => runOps c call nt ops os e H
 | [],e,H => Scott.const _
 | o :: os,e,H => by
  simp only [Go.Sw.runOps];exact Scott.bif _ (Scott.bind (Scott.stepO _ _ _ _ _) fun v H' => Scott.runOps c nt ops os _ _) (Scott.const _)
theorem Scott.loopN {F:Caller → Env → Heap → Res (AExit × Env)} (hF:∀ e H,Scott fun call => F call e H):∀ (n:Nat) (e:Env) (H:Heap),Scott fun call => loopN (F call) n e H
 | 0,_,_ => Scott.const _
 | n + 1,e,H => by
  simp only [Go.Sw.loopN];refine Scott.bind (hF e H) fun r H' => ?_;split
  ·exact Scott.loopN hF n _ _
  ·exact Scott.const _
theorem Scott.bindN {α β:Type} {F:Caller → Res α} {G:Caller → α → Heap → Res β} (hF:Scott F) (hG:∀ a H,Scott fun call => G call a H):Scott fun call => (F call).bindN (G call):=by
 intro s lim h hne;have hne1:F lim ≠ .stuck:=fun e => hne (by dsimp only; rw [e]; rfl);obtain ⟨n1,h1⟩:=hF s lim h hne1;cases hr:F lim with
 | stuck => exact absurd hr hne1
 | panic v H => exact absurd (by dsimp only; rw [hr]; rfl) hne
 | ok a H =>
  have hne2:G lim a H ≠ .stuck:=by
   have:=hne;dsimp only at this;rw [hr] at this;exact this
  obtain ⟨n2,h2⟩:=hG a H s lim h hne2;refine ⟨max n1 n2,fun m hm => ?_⟩;show (F (s m)).bindN (G (s m)) = (F lim).bindN (G lim);rw [h1 m (by omega),hr];exact h2 m (by omega)
theorem Scott.bindP {α β:Type} {F:Caller → Res α} {G:Caller → α → Heap → Res β} {K:Caller → Value → Heap → Res β} (hF:Scott F) (hG:∀ a H,Scott fun call => G call a H) (hK:∀ a H,Scott fun call => K call a H) :
  Scott fun call => (F call).bindP (G call) (K call):=by
 intro s lim h hne;have hne1:F lim ≠ .stuck:=fun e => hne (by dsimp only; rw [e]; rfl);obtain ⟨n1,h1⟩:=hF s lim h hne1;cases hr:F lim with
 | stuck => exact absurd hr hne1
 | panic a H =>
  have hne2:K lim a H ≠ .stuck:=by
   have:=hne;dsimp only at this;rw [hr] at this;exact this
  obtain ⟨n2,h2⟩:=hK a H s lim h hne2;refine ⟨max n1 n2,fun m hm => ?_⟩;show (F (s m)).bindP (G (s m)) (K (s m)) = (F lim).bindP (G lim) (K lim);rw [h1 m (by omega),hr];exact h2 m (by omega)
 | ok a H =>
  have hne2:G lim a H ≠ .stuck:=by
   have:=hne;dsimp only at this;rw [hr] at this;exact this
  obtain ⟨n2,h2⟩:=hG a H s lim h hne2;refine ⟨max n1 n2,fun m hm => ?_⟩;show (F (s m)).bindP (G (s m)) (K (s m)) = (F lim).bindP (G lim) (K lim);rw [h1 m (by omega),hr];exact h2 m (by omega)
theorem stepO_read {c:Cfg} {call call':Caller} {ops:Array Oper} {e:Env} {H:Heap} {o:Oper} (h:isRead o.op = true):stepO c call ops e H o = stepO c call' ops e H o:=by
 unfold stepO;cases ho:o.op <;> rw [ho] at h <;> first | rfl | cases h
theorem stages_call {c:Cfg} {call call':Caller} {ops:Array Oper} {ms:List Nat} {D:Nat → Bool} {all:List Rec} {j:Nat} {r:Rec} (h:isRead r.o.op = true):∀ (l:Nat) (ss:List Rec),stagesOk c call ops ms D all j r l ss = stagesOk c call' ops ms D all j r l ss
 | _,[] => rfl
 | l,s :: ss => by simp only [stagesOk]; rw [stages_call (call:=call) (call':=call') h (l + 1) ss,stepO_read (call:=call) (call':=call') h]
theorem stable_call {c:Cfg} {call call':Caller} {ops:Array Oper} {ms:List Nat} {D:Nat → Bool} {H0:Heap} {all:List Rec}:∀ (j:Nat) (rs:List Rec),stable c call ops ms D H0 all j rs = stable c call' ops ms D H0 all j rs
 | _,[] => rfl
 | j,r :: rs => by
  simp only [stable];rw [stable_call (call:=call) (call':=call') (j + 1) rs];cases hr:isRead r.o.op with
  | false => simp
  | true => rw [stepO_read (call:=call) (call':=call') hr,stages_call (call:=call) (call':=call') hr]
theorem Scott.tailK {β:Type} {K:Caller → List Rec → Res β} (c:Cfg) (ops:Array Oper) (D:Nat → Bool) (hK:∀ rs,Scott fun call => K call rs):∀ (os:List Oper) (acc:List Rec) (i:Nat) (e:Env) (H:Heap),Scott fun call => tailK c call ops D os acc i e H (K call)
 | [],acc,i,e,H => hK acc
 | o :: os,acc,i,e,H => by
  simp only [Go.Sw.tailK];exact Scott.bif _ (Scott.tailK c ops D hK os _ _ _ _) (Scott.bindN (Scott.stepO _ _ _ _ _) fun v H' => Scott.tailK c ops D hK os _ _ _ _)
theorem Scott.stableIf {β:Type} {F:Caller → Res β} (c:Cfg) (ops:Array Oper) (ms:List Nat) (D:Nat → Bool) (H0:Heap) (all rs:List Rec) (j:Nat) (hF:Scott F):Scott fun call => bif stable c call ops ms D H0 all j rs then F call else .stuck:=by
 have:(fun call => bif stable c call ops ms D H0 all j rs then F call else .stuck) = fun call => bif stable c (fun _ _ _ => .stuck) ops ms D H0 all j rs then F call else .stuck:=by
  funext call;rw [stable_call (call:=call) (call':=fun _ _ _ => .stuck)]
 rw [this];exact Scott.bif _ hF (Scott.const _)
theorem Scott.drawK {β:Type} {K:Caller → List Rec → Heap → Res β} (c:Cfg) (ops:Array Oper) (ms:List Nat) (H0:Heap) (hK:∀ rs H,Scott fun call => K call rs H):∀ (os:List Oper) (acc:List Rec) (i:Nat) (e:Env) (H:Heap),Scott fun call => drawK c call ops ms H0 os acc i e H (K call)
 | [],acc,i,e,H => hK acc H
 | o :: os,acc,i,e,H => by
  simp only [Go.Sw.drawK];refine Scott.bif _ (Scott.bindP (Scott.stepO _ _ _ _ _) (fun v H' => Scott.drawK c ops ms H0 hK os _ _ _ _) fun v H' => ?_) (Scott.bindN (Scott.stepO _ _ _ _ _) fun v H' => Scott.drawK c ops ms H0 hK os _ _ _ _);exact Scott.tailK c ops _ (fun rs => Scott.stableIf c ops ms _ H0 rs rs 0 (Scott.const _)) os _ _ _ _
end Go.Sw
end
section
namespace Go.Sw
open Go.RowKit
inductive Alive (H:Heap):Value → Prop
 | bool (b:Bool):Alive H (.bool b)
 | int (k:IntKind) (n:Int):Alive H (.int k n)
 | string (s:ByteArray):Alive H (.string s)
 | nilPtr:Alive H (.pointer none)
 | ptr (b off:Nat) (k:Blk) (h:H.get b = some k):Alive H (.pointer (some ⟨b,off,none⟩))
 | nilSlice:Alive H (.slice none 0 0)
 | slice (b off len cap:Nat) (k:Blk) (h:H.get b = some k):Alive H (.slice (some ⟨b,off,none⟩) len cap)
 | unsure:Alive H (.slice (some ⟨0,0,some 1⟩) 0 0)
 | bare:Alive H (.slice (some ⟨0,0,some 0⟩) 0 0)
 | list (len:Nat) (p:Array FieldStep) (g:FuncId) (cells ys:Array Value) (h:∀ (i:Nat) (v:Value),cells[i]? = some v → Alive H v):Alive H (.func (.via len p g false) cells ys)
 | box (n:Nat) (p:Array FieldStep) (g:FuncId) (cells ys:Array Value) (h:∀ (i:Nat) (v:Value),cells[i]? = some v → Alive H v):Alive H (.func (.via n p g true) cells ys)
 | nilMap:Alive H (.map none)
 | nilFunc:Alive H .nilFunc
 | func (fn:FuncId) (xs ys:Array Value) (h1:∀ (i:Nat) (v:Value),xs[i]? = some v → Alive H v) (h2:∀ (i:Nat) (v:Value),ys[i]? = some v → Alive H v):Alive H (.func (.func fn) xs ys)
 | nilIface:Alive H .nilIface
 | iface (t:TypeId) (v:Value) (h:Alive H v):Alive H (.iface t v)
 | agg (xs:Array Value) (h:∀ (i:Nat) (v:Value),xs[i]? = some v → Alive H v):Alive H (.agg xs)
 | tuple (xs:Array Value) (h:∀ (i:Nat) (v:Value),xs[i]? = some v → Alive H v):Alive H (.tuple xs)
inductive Known (μ:Mu):Value → Prop
 | bool (b:Bool):Known μ (.bool b)
 | int (k:IntKind) (n:Int):Known μ (.int k n)
 | string (s:ByteArray):Known μ (.string s)
 | nilPtr:Known μ (.pointer none)
 | ptr (b off:Nat) (m:MB) (h:μ b = some m):Known μ (.pointer (some ⟨b,off,none⟩))
 | slice (a:Option Addr) (len cap:Nat) (h:∀ b off,a = some ⟨b,off,none⟩ → ∃ m,μ b = some m):Known μ (.slice a len cap)
 | via (n:Nat) (p:Array FieldStep) (g:FuncId) (t:Bool) (cells ys:Array Value) (h:∀ (i:Nat) (v:Value),cells[i]? = some v → Known μ v):Known μ (.func (.via n p g t) cells ys)
 | empty (p:Array FieldStep) (g:FuncId) (cells ys:Array Value):Known μ (.func (.via 0 p g false) cells ys)
 | dark:Known μ (.chan none)
 | nilMap:Known μ (.map none)
 | map (b:Nat) (m:MB) (h:μ b = some m):Known μ (.map (some b))
 | nilFunc:Known μ .nilFunc
 | func (fn:FuncId) (xs ys:Array Value) (h1:∀ (i:Nat) (v:Value),xs[i]? = some v → Known μ v) (h2:∀ (i:Nat) (v:Value),ys[i]? = some v → Known μ v):Known μ (.func (.func fn) xs ys)
 | nilIface:Known μ .nilIface
 | iface (t:TypeId) (v:Value) (h:Known μ v):Known μ (.iface t v)
 | agg (xs:Array Value) (h:∀ (i:Nat) (v:Value),xs[i]? = some v → Known μ v):Known μ (.agg xs)
 | tuple (xs:Array Value) (h:∀ (i:Nat) (v:Value),xs[i]? = some v → Known μ v):Known μ (.tuple xs)
theorem arr_other {α:Type} {xs ys:Array α} (h:xs.size = ys.size) {i:Nat} {v:α} (hv:xs[i]? = some v):∃ u,ys[i]? = some u:=by
 have hi:i < xs.size:=by
  rcases Nat.lt_or_ge i xs.size with h1 | h1
  ·exact h1
  ·rw [Array.getElem?_eq_none h1] at hv; cases hv
 exact ⟨ys[i],Array.getElem?_eq_getElem (by omega)⟩
theorem arr_at {α:Type} {xs ys:Array α} {off:Nat} (h:off + xs.size ≤ ys.size) {i:Nat} {v:α} (hv:xs[i]? = some v):∃ u,ys[off + i]? = some u:=by
 have hi:i < xs.size:=by
  rcases Nat.lt_or_ge i xs.size with h1 | h1
  ·exact h1
  ·rw [Array.getElem?_eq_none h1] at hv; cases hv
 exact ⟨ys[off + i],Array.getElem?_eq_getElem (by omega)⟩
theorem VR.known {μ:Mu} {v v':Value} (h:VR μ v v'):Known μ v:=by
 induction h with
 | bool b => exact .bool b
 | int k n => exact .int k n
 | string s => exact .string s
 | nilPtr => exact .nilPtr
 | ptr b off m h => exact .ptr b off m h
 | nilSlice => exact .slice _ _ _ fun b off h => by cases h
 | slice b off off' len cap cap' m h hl hc ho hx => exact .slice _ _ _ fun b' off' he => by injection he with he; injection he with e1 e2 e3; subst e1; exact ⟨m,h⟩
 | unsure a => exact .slice _ _ _ fun b off h => by injection h with h; injection h with h1 h2 h3; cases h3
 | list len p g cells ys blk off cap cs el fz hz hl hc hg h0 _ ih =>
  refine .via _ _ _ _ _ _ fun i v hv => ?_;obtain ⟨u,hu⟩:=arr_at hl hv;exact ih i v u hv hu
 | empty p g cells ys a cap hn hs => exact .empty p g cells ys
 | box n p g cells ys blk off cs el fz hz hl h0 _ ih =>
  refine .via _ _ _ _ _ _ fun i v hv => ?_;obtain ⟨u,hu⟩:=arr_at hl hv;exact ih i v u hv hu
 | bare a => exact .slice _ _ _ fun b off h => by injection h with h; injection h with h1 h2 h3; cases h3
 | dark v' h hb => exact .dark
 | nilMap => exact .nilMap
 | map b m h => exact .map b m h
 | nilFunc => exact .nilFunc
 | func fn xs xs' ys ys' h1 _ h3 _ ih1 ih2 =>
  refine .func fn xs ys (fun i v hv => ?_) (fun i v hv => ?_)
  ·obtain ⟨u,hu⟩:=arr_other h1 hv; exact ih1 i v u hv hu
  ·obtain ⟨u,hu⟩:=arr_other h3 hv; exact ih2 i v u hv hu
 | nilIface => exact .nilIface
 | iface t v v' _ ih => exact .iface t v ih
 | agg xs xs' h0 h1 _ ih => exact .agg xs fun i v hv => by obtain ⟨u,hu⟩:=arr_other h1 hv; exact ih i v u hv hu
 | tuple xs xs' h1 _ ih => exact .tuple xs fun i v hv => by obtain ⟨u,hu⟩:=arr_other h1 hv; exact ih i v u hv hu
theorem Alive.known {H:Heap} {μ:Mu} (hb:∀ b k,H.get b = some k → ∃ m,μ b = some m) {v:Value} (h:Alive H v):Known μ v:=by
 induction h with
 | bool b => exact .bool b
 | int k n => exact .int k n
 | string s => exact .string s
 | nilPtr => exact .nilPtr
 | ptr b off k h => obtain ⟨m,hm⟩:=hb b k h; exact .ptr b off m hm
 | nilSlice => exact .slice _ _ _ fun b off h => by cases h
 | slice b off len cap k h => exact .slice _ _ _ fun b' off' he => by injection he with he; injection he with e1 e2 e3; subst e1; exact hb _ k h
 | unsure => exact .slice _ _ _ fun b off h => by injection h with h; injection h with h1 h2 h3; cases h3
 | bare => exact .slice _ _ _ fun b off h => by injection h with h; injection h with h1 h2 h3; cases h3
 | list len p g cells ys _ ih => exact .via _ _ _ _ _ _ ih
 | box n p g cells ys _ ih => exact .via _ _ _ _ _ _ ih
 | nilMap => exact .nilMap
 | nilFunc => exact .nilFunc
 | func fn xs ys _ _ ih1 ih2 => exact .func fn xs ys ih1 ih2
 | nilIface => exact .nilIface
 | iface t v _ ih => exact .iface t v ih
 | agg xs _ ih => exact .agg xs ih
 | tuple xs _ ih => exact .tuple xs ih
def Mu.cut (μ μ':Mu):Mu:=⟨μ.f,μ'.z⟩
theorem Known.cut {μ μ':Mu} (hle:μ.le μ') {v:Value} (h:Known μ v):∀ v',VR μ' v v' → VR (μ.cut μ') v v':=by
 induction h with
 | bool b => intro v' hv; cases hv; exact .bool b
 | int k n => intro v' hv; cases hv; exact .int k n
 | string s => intro v' hv; cases hv; exact .string s
 | nilPtr => intro v' hv; cases hv; exact .nilPtr
 | ptr b off m h =>
  intro v' hv;cases hv with
  | ptr _ _ m' h' =>
   rw [hle.f _ _ h] at h'; injection h' with h'; subst h';exact .ptr b off m h
 | slice a len cap h =>
  intro v' hv;cases hv with
  | nilSlice => exact .nilSlice
  | slice b off off' len cap cap' m h' hl hc ho hx =>
   obtain ⟨m2,hm2⟩:=h b off rfl;rw [hle.f _ _ hm2] at h'; injection h' with h'; subst h';exact .slice b off off' len cap cap' m2 hm2 hl hc ho hx
  | unsure a => exact .unsure a
  | bare a => exact .bare a
 | via n p g t cells ys _ ih =>
  intro v' hv;cases hv with
  | list len p g cells ys blk off cap cs el fz hz hl hc hg h0 h2 => exact .list n p g cells ys blk off cap cs el fz hz hl hc hg h0 fun i v u hv hu => ih i v hv u (h2 i v u hv hu)
  | empty p g cells ys a cap hn hs => exact .empty p g cells ys a cap hn hs
  | box n p g cells ys blk off cs el fz hz hl h0 h2 => exact .box n p g cells ys blk off cs el fz hz hl h0 fun i v u hv hu => ih i v hv u (h2 i v u hv hu)
 | empty p g cells ys =>
  intro v' hv;cases hv with
  | list len p g cells ys blk off cap cs el fz hz hl hc hg h0 h2 => exact .empty p g cells ys _ _ (fun h => by cases h) (fun h => absurd h hg)
  | empty p g cells ys a cap hn hs => exact .empty p g cells ys a cap hn hs
 | dark => intro v' hv; cases hv with | dark _ h hb => exact .dark _ h hb
 | nilMap => intro v' hv; cases hv; exact .nilMap
 | map b m h =>
  intro v' hv;cases hv with
  | map _ m' h' =>
   rw [hle.f _ _ h] at h'; injection h' with h'; subst h';exact .map b m h
 | nilFunc => intro v' hv; cases hv; exact .nilFunc
 | func fn xs ys _ _ ih1 ih2 =>
  intro v' hv;cases hv with
  | func _ _ xs' _ ys' h1 h2 h3 h4 => exact .func fn xs xs' ys ys' h1 (fun i v u hv hu => ih1 i v hv u (h2 i v u hv hu)) h3 (fun i v u hv hu => ih2 i v hv u (h4 i v u hv hu))
 | nilIface => intro v' hv; cases hv; exact .nilIface
 | iface t v _ ih => intro v' hv; cases hv with | iface _ _ u h => exact .iface t v u (ih u h)
 | agg xs _ ih => intro v' hv; cases hv with | agg _ xs' h0 h1 h2 => exact .agg xs xs' h0 h1 fun i v u hv hu => ih i v hv u (h2 i v u hv hu)
 | tuple xs _ ih => intro v' hv; cases hv with | tuple _ xs' h1 h2 => exact .tuple xs xs' h1 fun i v u hv hu => ih i v hv u (h2 i v u hv hu)
theorem HR.cut {w0:Base} {μ μ':Mu} {H H':Heap} {w w':World} (h:HR w0 μ H w) (h':HR w0 μ' H' w') (hle:μ.le μ') (hk:Keeps [] H H'):HR w0 (μ.cut μ') H w':=by
 have hget:∀ b k,H.get b = some k → H'.get b = some k:=fun b k hb => hk.get hb (by simp);constructor
 ·exact h.dom
 ·intro b k hb;obtain ⟨m,hm,hB⟩:=h.blk b k hb;obtain ⟨m',hm',hB'⟩:=h'.blk b k (hget b k hb);rw [hle.f _ _ hm] at hm'; injection hm' with hm'; subst hm';obtain ⟨cs,el,fz,g1,g2,g3,g4⟩:=hB'.here;refine ⟨m,hm,hB'.esz,hB'.ro,⟨cs,el,fz,g1,g2,g3,fun i v hv => ?_⟩,hB'.ones,hB'.ext,hB'.own,hB'.low⟩;obtain ⟨cs0,el0,fz0,k1,k2,k3,k4⟩:=hB.here;obtain ⟨u,hu,r⟩:=g4 i v hv;obtain ⟨u0,_,r0⟩:=k4 i v hv;exact ⟨u,hu,r0.known.cut hle u r⟩
 ·intro b b' k k' m m' hb hb' r r' hm hm' he;exact h'.inj b b' k k' m m' (hget _ _ hb) (hget _ _ hb') r r' (hle.f _ _ hm) (hle.f _ _ hm') he
 ·exact h'.below
 ·exact ⟨h'.zr.at_,h'.zr.old,fun k o b x m hz hb hr hm => h'.zr.apart k o b x m hz (hget _ _ hb) hr (hle.f _ _ hm)⟩
theorem Mu.le_cut {μ μ':Mu} (hle:μ.le μ'):μ.le (μ.cut μ'):=⟨fun _ _ h => h,hle.z⟩
theorem ended_cut {w0:Base} {μ μ':Mu} {H H':Heap} {w w':World} {v v':Value} (h:HR w0 μ H w) (h':HR w0 μ' H' w') (hle:μ.le μ') (hv:VR μ' v v') (hk:Keeps [] H H') (ha:Alive H v) :
  μ.le (μ.cut μ') ∧ HR w0 (μ.cut μ') H w' ∧ VR (μ.cut μ') v v' :=
 ⟨Mu.le_cut hle,h.cut h' hle hk,(ha.known fun b k hb => by obtain ⟨m,hm,_⟩:=h.blk b k hb; exact ⟨m,hm⟩).cut hle v' hv⟩
theorem Heap.get_set_none (H:Heap) (b c:Nat):(H.set b none).get c = if c = b then none else H.get c:=by
 unfold Heap.get Heap.set;by_cases hb:b < H.n
 ·rw [if_pos hb];dsimp only;by_cases hc:c < H.n
  ·rw [if_pos hc,if_pos hc];by_cases hcb:c = b
   ·subst hcb;rw [if_pos rfl,List.getElem?_set];simp only [if_true];split <;> rfl
   ·rw [if_neg hcb,List.getElem?_set_ne (by omega)]
  ·rw [if_neg hc,if_neg hc]; split <;> rfl
 ·rw [if_neg hb];by_cases hcb:c = b
  ·subst hcb; rw [if_pos rfl,if_neg hb]
  ·rw [if_neg hcb]
def killAll (H:Heap):List Nat → Heap
 | [] => H
 | b :: L => killAll (H.set b none) L
theorem killAll_n:∀ (L:List Nat) (H:Heap),(killAll H L).n = H.n
 | [],_ => rfl
 | b :: L,H => by rw [killAll,killAll_n L,Heap.n_set]
theorem killAll_get:∀ (L:List Nat) (H:Heap) (c:Nat),(killAll H L).get c = if c ∈ L then none else H.get c
 | [],_,_ => by simp [killAll]
 | b :: L,H,c => by
  rw [killAll,killAll_get L,Heap.get_set_none];by_cases h1:c ∈ L
  ·simp [h1]
  ·by_cases h2:c = b
   ·simp [h2]
   ·simp [h1,h2]
theorem HR.freeze {w0:Base} {μ:Mu} {H:Heap} {w:World} (h:HR w0 μ H w) {b:Nat} {k:Blk} {m:MB} (hk:H.get b = some k) (hr:k.ro = false) (hm:μ b = some m) :
  ∃ μ':Mu,μ.le μ' ∧ HR w0 μ' (H.set b none) w ∧ μ'.f = μ.f ∧ μ'.z m.blk = w.heap[m.blk]?:=by
 have hd:∀ j,Decidable (j = m.blk):=fun j => inferInstance;have hle:μ.le ⟨μ.f,fun j => if j = m.blk then w.heap[j]? else μ.z j⟩:=by
  refine ⟨fun _ _ h => h,fun j o hj => ?_⟩;dsimp only;split
  ·exact h.zr.at_ j o hj
  ·exact hj
 refine ⟨⟨μ.f,fun j => if j = m.blk then w.heap[j]? else μ.z j⟩,hle,?_,rfl,by simp⟩;obtain ⟨m2,hm2,hB⟩:=h.blk b k hk;rw [hm] at hm2; injection hm2 with hm2; subst hm2;constructor
 ·intro c x hc; rw [Heap.n_set]; exact h.dom c x hc
 ·intro c x hc;rw [Heap.get_set hk] at hc;split at hc
  ·cases hc
  ·obtain ⟨mm,hmm,hBB⟩:=h.blk c x hc;exact ⟨mm,hmm,hBB.keep hle rfl⟩
 ·intro c c' x x' mm mm' hc hc';rw [Heap.get_set hk] at hc hc';split at hc
  ·cases hc
  ·split at hc'
   ·cases hc'
   ·exact h.inj c c' x x' mm mm' hc hc'
 ·exact h.below
 ·constructor
  ·intro j o hj;dsimp only at hj;split at hj
   ·exact hj
   ·exact h.zr.at_ j o hj
  ·intro j o hj hS;dsimp only at hj;split at hj
   ·rename_i he; subst he; exact absurd hS (hB.own hr)
   ·exact h.zr.old j o hj hS
  ·intro j o c x mm hj hc hxr hmm;dsimp only at hj;rw [Heap.get_set hk] at hc;split at hc
   ·cases hc
   ·rename_i hcb;split at hj
    ·rename_i he;subst he;exact fun he => hcb (h.inj c b x k mm m hc hk hxr hr hmm hm he)
    ·exact h.zr.apart j o c x mm hj hc hxr hmm
theorem HR.freezeL {w0:Base} {w:World}:∀ (L:List Nat) {μ:Mu} {H:Heap},HR w0 μ H w → (∀ b,b ∈ L → ∀ k,H.get b = some k → k.ro = false) →
  ∃ μ':Mu,μ.le μ' ∧ HR w0 μ' (killAll H L) w ∧ μ'.f = μ.f ∧ ∀ b k m,b ∈ L → H.get b = some k → μ b = some m → μ'.z m.blk = w.heap[m.blk]?
 | [],μ,H,h,_ => ⟨μ,Mu.le_refl _,h,rfl,fun b k m hb => by simp at hb⟩
 | b :: L,μ,H,h,hL => by
  cases hk:H.get b with
  | none =>
   have hs:∀ c,(H.set b none).get c = H.get c:=fun c => by
    rw [Heap.get_set_none];split
    ·rename_i hc; subst hc; exact hk.symm
    ·rfl
   have h1:HR w0 μ (H.set b none) w:=by
    constructor
    ·intro c m hc; rw [Heap.n_set]; exact h.dom c m hc
    ·intro c x hc; rw [hs] at hc; exact h.blk c x hc
    ·intro c c' x x' m m' hc hc'; rw [hs] at hc hc'; exact h.inj c c' x x' m m' hc hc'
    ·exact h.below
    ·exact ⟨h.zr.at_,h.zr.old,fun j o c x m hj hc => by rw [hs] at hc; exact h.zr.apart j o c x m hj hc⟩
   obtain ⟨μ',k1,k2,k3,k4⟩:=HR.freezeL L h1 fun c hc x hx => by rw [hs] at hx; exact hL c (by simp [hc]) x hx
   refine ⟨μ',k1,k2,k3,fun c x m hc hx hm => ?_⟩;rcases List.mem_cons.1 hc with rfl | hc
   ·rw [hk] at hx; cases hx
   ·exact k4 c x m hc (by rw [hs]; exact hx) hm
  | some k =>
   obtain ⟨m,hm,_⟩:=h.blk b k hk;obtain ⟨μ1,j1,j2,j3,j4⟩:=h.freeze hk (hL b (by simp) k hk) hm;obtain ⟨μ',k1,k2,k3,k4⟩:=HR.freezeL L j2 fun c hc x hx => by
    rw [Heap.get_set hk] at hx;split at hx
    ·cases hx
    ·exact hL c (by simp [hc]) x hx
   have hat:=k2.zr.at_;refine ⟨μ',Mu.le_trans j1 k1,k2,k3.trans j3,fun c x mm hc hx hmm => ?_⟩;by_cases hcb:c = b
   ·subst hcb;rw [hm] at hmm; injection hmm with hmm; subst hmm;cases ho:w.heap[m.blk]? with
    | none =>
     obtain ⟨m2,hm2,hB⟩:=h.blk c k hk;rw [hm] at hm2; injection hm2 with hm2; subst hm2;obtain ⟨cs,el,fz,g1,_⟩:=hB.here;rw [ho] at g1; cases g1
    | some o => exact k1.z _ _ (by rw [j4,ho])
   ·rcases List.mem_cons.1 hc with rfl | hc
    ·exact absurd rfl hcb
    ·exact k4 c x mm hc (by rw [Heap.get_set hk,if_neg hcb]; exact hx) (by show μ1.f c = some mm; rw [j3]; exact hmm)
def mapF (f:Value → Option (Value × List Nat)):List Value → Option (List Value × List Nat)
 | [] => some ([],[])
 | v :: vs => match f v,mapF f vs with
  | some a,some b => some (a.1 :: b.1,a.2 ++ b.2)
  | _,_ => none
def fzV (n0:Nat) (H:Heap):Nat → Value → Option (Value × List Nat)
 | 0,_ => none
 | d + 1,v => match v with
  | .pointer (some ⟨b,off,none⟩) =>
   bif Nat.blt b n0 then some (v,[]) else
   match H.get b with
   | some k => bif k.ro || !Nat.ble off k.cells.length then none else (mapF (fzV n0 H d) (k.cells.drop off)).map fun r => (boxV r.1.toArray,b :: r.2)
   | none => none
  | .slice (some ⟨b,off,none⟩) len _ =>
   bif Nat.blt b n0 then some (v,[]) else
   match H.get b with
   | some k => bif k.ro || !Nat.ble (off + len * k.esz) k.cells.length then none else (mapF (fzV n0 H d) ((k.cells.drop off).take (len * k.esz))).map fun r => (listV len r.1.toArray,b :: r.2)
   | none => none
  | .slice none 0 0 => some (listV 0 #[],[])
  | .slice (some ⟨_,_,some _⟩) 0 0 => some (listV 0 #[],[])
  | .iface t u => (fzV n0 H d u).map fun r => (.iface t r.1,r.2)
  | .agg cs => (mapF (fzV n0 H d) cs.toList).map fun r => (.agg r.1.toArray,r.2)
  | .tuple cs => (mapF (fzV n0 H d) cs.toList).map fun r => (.tuple r.1.toArray,r.2)
  | v => some (v,[])
theorem mapF_spec {f:Value → Option (Value × List Nat)} {R:Value → Value → Prop}:∀ {l r:List Value} {L:List Nat},mapF f l = some (r,L) →
  (∀ v u M,v ∈ l → f v = some (u,M) → (∀ b,b ∈ M → b ∈ L) → R v u) → r.length = l.length ∧ ∀ (i:Nat) v u,l[i]? = some v → r[i]? = some u → R v u
 | [],r,L,h,_ => by
  simp only [mapF] at h;injection h with h; injection h with h1 h2; subst h1;exact ⟨rfl,fun i v u hv => by simp at hv⟩
 | v :: l,r,L,h,hR => by
  simp only [mapF] at h;split at h
  ·rename_i a b ha hb;injection h with h; injection h with h1 h2; subst h1 h2;obtain ⟨a1,a2⟩:=a;obtain ⟨b1,b2⟩:=b;have ih:=mapF_spec (R:=R) hb fun v u M hv hf hM => hR v u M (by simp [hv]) hf fun x hx => by simp [hM x hx]
   refine ⟨by simp [ih.1],fun i x u hx hu => ?_⟩;cases i with
   | zero =>
    simp at hx hu;subst hx hu;exact hR v a1 a2 (by simp) ha fun x hx => by simp [hx]
   | succ i => exact ih.2 i x u (by simpa using hx) (by simpa using hu)
  ·cases h
theorem fz_one {n0:Nat} {H:Heap}:∀ {d:Nat} {v u:Value} {L:List Nat},fzV n0 H d v = some (u,L) → v.oneCell' = true → u.oneCell' = true
 | 0,v,u,L,h,_ => by simp [fzV] at h
 | d + 1,v,u,L,h,ho => by
  unfold fzV at h;split at h
  ·cases hb:Nat.blt _ n0 with
   | true => rw [hb] at h; simp only [cond_true] at h; injection h with h; injection h with h1 _; subst h1; exact ho
   | false =>
    rw [hb] at h; simp only [cond_false] at h;split at h
    ·revert h;cases (_ || _:Bool)
     ·simp only [cond_false]; intro h;obtain ⟨r,_,he⟩:=Option.map_eq_some_iff.1 h;injection he with h1 _; subst h1; rfl
     ·simp only [cond_true]; intro h; cases h
    ·cases h
  ·cases hb:Nat.blt _ n0 with
   | true => rw [hb] at h; simp only [cond_true] at h; injection h with h; injection h with h1 _; subst h1; exact ho
   | false =>
    rw [hb] at h; simp only [cond_false] at h;split at h
    ·revert h;cases (_ || _:Bool)
     ·simp only [cond_false]; intro h;obtain ⟨r,_,he⟩:=Option.map_eq_some_iff.1 h;injection he with h1 _; subst h1; rfl
     ·simp only [cond_true]; intro h; cases h
    ·cases h
  ·injection h with h; injection h with h1 _; subst h1; rfl
  ·injection h with h; injection h with h1 _; subst h1; rfl
  ·obtain ⟨r,_,he⟩:=Option.map_eq_some_iff.1 h;injection he with h1 _; subst h1; rfl
  ·cases ho
  ·cases ho
  ·injection h with h; injection h with h1 _; subst h1; exact ho
theorem fz_sim {w0:Base} {n0:Nat} {μ μ':Mu} {H:Heap} {w:World} (h:HR w0 μ H w) (hle:μ.le μ'):∀ (d:Nat) {v u v':Value} {L:List Nat},fzV n0 H d v = some (u,L) →
  (∀ b k m,b ∈ L → H.get b = some k → μ b = some m → μ'.z m.blk = w.heap[m.blk]?) → VR μ v v' → VR μ' u v'
 | 0,v,u,v',L,hf,_,_ => by simp [fzV] at hf
 | d + 1, v,u,v',L,hf,hL,hv => by
  have ih:∀ {v u v':Value} {M:List Nat},fzV n0 H d v = some (u,M) → (∀ b,b ∈ M → b ∈ L) → VR μ v v' → VR μ' u v':=fun hf hM hv =>
   fz_sim h hle d hf (fun b k m hb hk hm => hL b k m (hM b hb) hk hm) hv
  have lists:∀ {l r:List Value} {M:List Nat},mapF (fzV n0 H d) l = some (r,M) → (∀ b,b ∈ M → b ∈ L) → Ones l → r.length = l.length ∧ Ones r ∧ ∀ (i:Nat) v u v',l[i]? = some v → r[i]? = some u → VR μ v v' → VR μ' u v':=by
   intro l r M hm hM ho;obtain ⟨h1,h2⟩:=mapF_spec (R:=fun v u => u.oneCell' = true ∧ ∀ v',VR μ v v' → VR μ' u v') hm fun v u M' hv hf hM' => ⟨fz_one hf (ho v hv),fun v' hv' => ih hf (fun b hb => hM b (hM' b hb)) hv'⟩
   refine ⟨h1,fun u hu => ?_,fun i v u v' hv hu hvv => (h2 i v u hv hu).2 v' hvv⟩;obtain ⟨i,hi⟩:=List.mem_iff_getElem?.1 hu;have hlt:i < l.length:=by rw [← h1]; exact (List.getElem?_eq_some_iff.1 hi).1
   exact (h2 i _ u (List.getElem?_eq_getElem hlt) hi).1
  have lists2:∀ {l r:List Value} {M:List Nat},mapF (fzV n0 H d) l = some (r,M) → (∀ b,b ∈ M → b ∈ L) → r.length = l.length ∧ ∀ (i:Nat) v u v',l[i]? = some v → r[i]? = some u → VR μ v v' → VR μ' u v':=by
   intro l r M hm hM;obtain ⟨h1,h2⟩:=mapF_spec (R:=fun v u => ∀ v',VR μ v v' → VR μ' u v') hm fun v u M' hv hf hM' => fun v' hv' => ih hf (fun b hb => hM b (hM' b hb)) hv';exact ⟨h1,fun i v u v' hv hu hvv => h2 i v u hv hu v' hvv⟩
  unfold fzV at hf;split at hf
  ·rename_i b off;cases hb:Nat.blt b n0 with
   | true => rw [hb] at hf; simp only [cond_true] at hf; injection hf with hf; injection hf with h1 _; subst h1; exact hv.up hle
   | false =>
    rw [hb] at hf; simp only [cond_false] at hf;split at hf
    ·rename_i k hk;cases hc:(k.ro || !Nat.ble off k.cells.length:Bool) with
     | true => rw [hc] at hf; cases hf
     | false =>
      rw [hc] at hf; simp only [cond_false] at hf;simp only [Bool.or_eq_false_iff,Bool.not_eq_false'] at hc;have hle2:=Nat.le_of_ble_eq_true hc.2;obtain ⟨r,hr,he⟩:=Option.map_eq_some_iff.1 hf;injection he with h1 h2; subst h1 h2;cases hv with
      | ptr _ _ m hm =>
       obtain ⟨m2,hm2,hB⟩:=h.blk b k hk;rw [hm] at hm2; injection hm2 with hm2; subst hm2;obtain ⟨cs,el,fz,g1,g2,g3,g4⟩:=hB.here;obtain ⟨l1,l2,l3⟩:=lists hr (fun x hx => by simp [hx]) (hB.ones.drop off);have hz:μ'.z m.blk = some (.cells cs el fz):=by rw [hL b k m (by simp) hk hm,g1]
       have hx:=hB.ext;refine VR.box _ _ _ _ _ m.blk _ cs el fz hz (by simp [l1]; omega) (fun v hv => l2 v (by simpa using hv)) fun i x x' hx hx' => ?_;have hi:i < r.1.length:=(List.getElem?_eq_some_iff.1 (by simpa using hx)).1;have hlt:i < (k.cells.drop off).length:=by omega
       have e1:k.cells[off + i]? = some (k.cells.drop off)[i]:=by rw [← List.getElem?_drop]; exact List.getElem?_eq_getElem hlt
       obtain ⟨x2,e2,r2⟩:=g4 _ _ e1;rw [Nat.add_assoc] at hx';rw [hx'] at e2; injection e2 with e2; subst e2;exact l3 i _ x x' (List.getElem?_eq_getElem hlt) (by simpa using hx) r2
    ·cases hf
  ·rename_i b off len cap;cases hb:Nat.blt b n0 with
   | true => rw [hb] at hf; simp only [cond_true] at hf; injection hf with hf; injection hf with h1 _; subst h1; exact hv.up hle
   | false =>
    rw [hb] at hf; simp only [cond_false] at hf;split at hf
    ·rename_i k hk;cases hc:(k.ro || !Nat.ble (off + len * k.esz) k.cells.length:Bool) with
     | true => rw [hc] at hf; cases hf
     | false =>
      rw [hc] at hf; simp only [cond_false] at hf;simp only [Bool.or_eq_false_iff,Bool.not_eq_false'] at hc;have hle2:=Nat.le_of_ble_eq_true hc.2;obtain ⟨r,hr,he⟩:=Option.map_eq_some_iff.1 hf;injection he with h1 h2; subst h1 h2;cases hv with
      | slice _ _ off' _ _ cap' m hm hl hcc ho hxx =>
       obtain ⟨m2,hm2,hB⟩:=h.blk b k hk;rw [hm] at hm2; injection hm2 with hm2; subst hm2;obtain ⟨cs,el,fz,g1,g2,g3,g4⟩:=hB.here;obtain ⟨l1,l2,l3⟩:=lists hr (fun x hx => by simp [hx]) ((hB.ones.drop off).take _);rcases Nat.eq_zero_or_pos len with h0 | h0
       ·subst h0; exact VR.empty _ _ _ _ _ _ (fun h => by cases h) (fun h => by cases h)
       ·have hpos:off' = m.base + off:=ho.resolve_left (by omega);subst hpos;have hz:μ'.z m.blk = some (.cells cs el fz):=by rw [hL b k m (by simp) hk hm,g1]
        have hx:=hB.ext;have hl1:r.1.length = len * k.esz:=by rw [l1]; simp; omega
        refine VR.list _ _ _ _ _ m.blk _ _ cs el fz hz (by simp [hl1]; omega) (by omega) (by decide) (fun v hv => l2 v (by simpa using hv)) fun i x x' hx hx' => ?_;have hi:i < r.1.length:=(List.getElem?_eq_some_iff.1 (by simpa using hx)).1;have hlt:i < ((k.cells.drop off).take (len * k.esz)).length:=by omega
        have e1:k.cells[off + i]? = some ((k.cells.drop off).take (len * k.esz))[i]:=by
         rw [← List.getElem?_drop];have:=List.getElem?_eq_getElem hlt;rw [List.getElem?_take,if_pos (by omega)] at this;exact this
        obtain ⟨x2,e2,r2⟩:=g4 _ _ e1;rw [Nat.add_assoc] at hx';rw [hx'] at e2; injection e2 with e2; subst e2;exact l3 i _ x x' (List.getElem?_eq_getElem hlt) (by simpa using hx) r2
    ·cases hf
  ·injection hf with hf; injection hf with h1 _; subst h1;cases hv;exact VR.empty _ _ _ _ _ _ (fun _ => ⟨rfl,by decide⟩) (fun h => by cases h)
  ·injection hf with hf; injection hf with h1 _; subst h1;cases hv with
   | bare a => exact VR.empty _ _ _ _ _ _ (fun _ => ⟨rfl,by decide⟩) (fun h => by cases h)
   | unsure a => exact VR.empty _ _ _ _ _ _ (fun _ => ⟨rfl,by decide⟩) (fun h => by cases h)
  ·obtain ⟨r,hr,he⟩:=Option.map_eq_some_iff.1 hf;injection he with h1 h2; subst h1 h2;cases hv with
   | iface _ _ x' hx => exact .iface _ _ _ (ih (M:=r.2) hr (fun b hb => hb) hx)
  ·obtain ⟨r,hr,he⟩:=Option.map_eq_some_iff.1 hf;injection he with h1 h2; subst h1 h2;cases hv with
   | agg _ xs' h0 h1 h2 =>
    obtain ⟨l1,l2,l3⟩:=lists hr (fun b hb => hb) h0;refine .agg _ _ (fun v hv => l2 v (by simpa using hv)) (by simp [l1,h1]) fun i x x' hx hx' => ?_;have hi:i < r.1.length:=(List.getElem?_eq_some_iff.1 (by simpa using hx)).1;rename_i cs;have hlt:i < cs.toList.length:=by omega
    exact l3 i _ x x' (List.getElem?_eq_getElem hlt) (by simpa using hx) (h2 i _ x' (by rw [← Array.getElem?_toList]; exact List.getElem?_eq_getElem hlt) hx')
  ·obtain ⟨r,hr,he⟩:=Option.map_eq_some_iff.1 hf;injection he with h1 h2; subst h1 h2;cases hv with
   | tuple _ xs' h1 h2 =>
    obtain ⟨l1,l3⟩:=lists2 hr (fun b hb => hb);refine .tuple _ _ (by simp [l1,h1]) fun i x x' hx hx' => ?_;have hi:i < r.1.length:=(List.getElem?_eq_some_iff.1 (by simpa using hx)).1;rename_i cs;have hlt:i < cs.toList.length:=by omega
    exact l3 i _ x x' (List.getElem?_eq_getElem hlt) (by simpa using hx) (h2 i _ x' (by rw [← Array.getElem?_toList]; exact List.getElem?_eq_getElem hlt) hx')
  ·injection hf with hf; injection hf with h1 _; subst h1;exact hv.up hle
theorem blt_false {a b:Nat} (h:Nat.blt a b = false):b ≤ a:=by
 refine Nat.le_of_not_lt fun hl => ?_;have:=Nat.ble_eq_true_of_le (show a + 1 ≤ b from hl);unfold Nat.blt at h;rw [this] at h; cases h
theorem mapF_own {n0:Nat} {H:Heap} {f:Value → Option (Value × List Nat)}:∀ {l r:List Value} {L:List Nat},mapF f l = some (r,L) →
  (∀ v u M,f v = some (u,M) → ∀ b,b ∈ M → n0 ≤ b ∧ ∃ k,H.get b = some k ∧ k.ro = false) → ∀ b,b ∈ L → n0 ≤ b ∧ ∃ k,H.get b = some k ∧ k.ro = false
 | [],r,L,h,_,b,hb => by
  simp only [mapF] at h;injection h with h; injection h with h1 h2; subst h2; simp at hb
 | v :: l,r,L,h,hf,b,hb => by
  simp only [mapF] at h;split at h
  ·rename_i a c ha hc;injection h with h; injection h with h1 h2; subst h1 h2;rcases List.mem_append.1 hb with hb | hb
   ·exact hf v a.1 a.2 ha b hb
   ·exact mapF_own (r:=c.1) (L:=c.2) hc hf b hb
  ·cases h
theorem fz_own {n0:Nat} {H:Heap}:∀ (d:Nat) (v u:Value) (L:List Nat),fzV n0 H d v = some (u,L) → ∀ b,b ∈ L → n0 ≤ b ∧ ∃ k,H.get b = some k ∧ k.ro = false
 | 0,v,u,L,h,_,_ => by simp [fzV] at h
 | d + 1,v,u,L,hf,x,hx => by
  have ih:=fz_own (n0:=n0) (H:=H) d;unfold fzV at hf;split at hf
  ·rename_i b off;cases hb:Nat.blt b n0 with
   | true => rw [hb] at hf; simp only [cond_true] at hf; injection hf with hf; injection hf with _ h1; subst h1; simp at hx
   | false =>
    rw [hb] at hf; simp only [cond_false] at hf;split at hf
    ·rename_i k hk;cases hc:(k.ro || !Nat.ble off k.cells.length:Bool) with
     | true => rw [hc] at hf; cases hf
     | false =>
      rw [hc] at hf; simp only [cond_false] at hf;simp only [Bool.or_eq_false_iff,Bool.not_eq_false'] at hc;obtain ⟨r,hr,he⟩:=Option.map_eq_some_iff.1 hf;injection he with h1 h2; subst h1 h2;rcases List.mem_cons.1 hx with rfl | hx
      ·exact ⟨blt_false hb,k,hk,hc.1⟩
      ·exact mapF_own (r:=r.1) (L:=r.2) hr ih x hx
    ·cases hf
  ·rename_i b off len cap;cases hb:Nat.blt b n0 with
   | true => rw [hb] at hf; simp only [cond_true] at hf; injection hf with hf; injection hf with _ h1; subst h1; simp at hx
   | false =>
    rw [hb] at hf; simp only [cond_false] at hf;split at hf
    ·rename_i k hk;cases hc:(k.ro || !Nat.ble (off + len * k.esz) k.cells.length:Bool) with
     | true => rw [hc] at hf; cases hf
     | false =>
      rw [hc] at hf; simp only [cond_false] at hf;simp only [Bool.or_eq_false_iff,Bool.not_eq_false'] at hc;obtain ⟨r,hr,he⟩:=Option.map_eq_some_iff.1 hf;injection he with h1 h2; subst h1 h2;rcases List.mem_cons.1 hx with rfl | hx
      ·exact ⟨blt_false hb,k,hk,hc.1⟩
      ·exact mapF_own (r:=r.1) (L:=r.2) hr ih x hx
    ·cases hf
  ·injection hf with hf; injection hf with _ h1; subst h1; simp at hx
  ·injection hf with hf; injection hf with _ h1; subst h1; simp at hx
  ·obtain ⟨r,hr,he⟩:=Option.map_eq_some_iff.1 hf;injection he with h1 h2; subst h1 h2;exact ih _ r.1 r.2 hr x hx
  ·obtain ⟨r,hr,he⟩:=Option.map_eq_some_iff.1 hf;injection he with h1 h2; subst h1 h2;exact mapF_own (r:=r.1) (L:=r.2) hr ih x hx
  ·obtain ⟨r,hr,he⟩:=Option.map_eq_some_iff.1 hf;injection he with h1 h2; subst h1 h2;exact mapF_own (r:=r.1) (L:=r.2) hr ih x hx
  ·injection hf with hf; injection hf with _ h1; subst h1; simp at hx
inductive Mode where
 | no
 | gc
 | fz
def fzDepth:Nat:=8
def frozen (md:Mode) (H:Heap) (v:Value) (H':Heap):Value × Heap :=
 match md with
 | .fz => match fzV H.n H' fzDepth v with
  | some (u,L) => (u,killAll H' L)
  | none => (v,H')
 | _ => (v,H')
open Classical in
noncomputable def nrm (md:Mode) (H:Heap) (r:Res Value):Res Value :=
 match r with
 | .ok v H' =>
  match md with
  | .no => .ok v H'
  | md => if Keeps [] H (frozen md H v H').2 ∧ Alive H (frozen md H v H').1 then .ok (frozen md H v H').1 H else .ok (frozen md H v H').1 (frozen md H v H').2
 | .panic v H' => if Keeps [] H H' ∧ Alive H v then .panic v H else .panic v H'
 | .stuck => .stuck
theorem frozen_sim {w0:Base} {μ:Mu} {H H':Heap} {w:World} (md:Mode) (h':HR w0 μ H' w) {v v':Value} (hv:VR μ v v') :
  ∃ μ':Mu,μ.le μ' ∧ HR w0 μ' (frozen md H v H').2 w ∧ VR μ' (frozen md H v H').1 v':=by
 unfold frozen;split
 ·split
  ·rename_i u L hf;obtain ⟨μ',k1,k2,k3,k4⟩:=h'.freezeL L fun b hb k hk => by
    obtain ⟨_,k2,h1,h2⟩:=fz_own _ _ _ _ hf b hb;rw [hk] at h1; injection h1 with h1; subst h1; exact h2
   exact ⟨μ',k1,k2,fz_sim h' k1 _ hf (fun b k m hb hk hm => k4 b k m hb hk hm) hv⟩
  ·exact ⟨μ,Mu.le_refl _,h',hv⟩
 ·exact ⟨μ,Mu.le_refl _,h',hv⟩
theorem nrm_sim {w0:Base} {μ:Mu} {H:Heap} {w w':World} (md:Mode) (h:HR w0 μ H w) {r:Res Value} {e:Ending} (he:Ended w0 μ r e w'):Ended w0 μ (nrm md H r) e w':=by
 unfold Ended at he;unfold nrm;split at he
 ·rename_i v H';obtain ⟨μ',v',h1,h2,h3,rfl⟩:=he;dsimp only;split
  ·exact ⟨μ',v',h1,h2,h3,rfl⟩
  ·obtain ⟨μ2,k1,k2,k3⟩:=frozen_sim (H:=H) md h2 h3;split
   ·rename_i hc;obtain ⟨j1,j2,j3⟩:=ended_cut h k2 (Mu.le_trans h1 k1) k3 hc.1 hc.2;exact ⟨_,v',j1,j2,j3,rfl⟩
   ·exact ⟨μ2,v',Mu.le_trans h1 k1,k2,k3,rfl⟩
 ·rename_i v H';obtain ⟨μ',v',h1,h2,h3,rfl⟩:=he;dsimp only;split
  ·rename_i hc;obtain ⟨j1,j2,j3⟩:=ended_cut h h2 h1 h3 hc.1 hc.2;exact ⟨_,v',j1,j2,j3,rfl⟩
  ·exact ⟨μ',v',h1,h2,h3,rfl⟩
 ·exact he.elim
theorem nrm_stuck {md:Mode} {H:Heap} {r:Res Value} (h:nrm md H r ≠ .stuck):r ≠ .stuck:=by
 intro e; subst e; exact h rfl
end Go.Sw
end
section
namespace Go.Sw
open Go.RowKit
theorem Scott.runDraw (c:Cfg) (nt:Nat) (ops:Array Oper) (e:Env) (H:Heap):Scott fun call => runDraw c call nt ops e H:=by
 unfold Go.Sw.runDraw Go.Sw.runDrawK;exact Scott.bif _ (Scott.drawK c ops _ H (fun rs H' => Scott.stableIf c ops _ _ H rs rs 0 (Scott.const _)) _ _ _ _ _) (Scott.const _)
theorem Scott.rangeN {F:Caller → Env → Heap → Res AExit} (hF:∀ e H,Scott fun call => F call e H) (ps:List Tmp) (e:Env):∀ (l:List (List Int)) (H:Heap),Scott fun call => rangeN (F call) ps e l H
 | [],_ => Scott.const _
 | x :: xs,H => by
  simp only [Go.Sw.rangeN];refine Scott.bif _ (Scott.bind (hF _ H) fun r H' => ?_) (Scott.const _);split
  ·exact Scott.rangeN hF ps e xs _
  ·exact Scott.const _
theorem Scott.exec (c:Cfg) (nt:Nat) (kp:Nat → List Nat):∀ (code:Code) (e:Env) (H:Heap),Scott fun call => exec c call (Go.Sw.runDraw c call nt) nt kp code e H
 | .skip,e,H => Scott.const _
 | .label _,e,H => Scott.const _
 | .exit i,e,H => Scott.const _
 | .ret,e,H => Scott.const _
 | .scope _,e,H => Scott.const _
 | .goto _,e,H => Scott.const _
 | .refuse _,e,H => Scott.const _
 | .region id ops d,e,H => by
  simp only [Go.Sw.exec];exact Scott.bind (Scott.bif d (Scott.runDraw c nt ops e H) (Scott.runOps c nt ops ops.toList e H)) fun e' H' => Scott.const _
 | .seq a b,e,H => by
  simp only [Go.Sw.exec];refine Scott.bind (Scott.exec c nt kp a e H) fun r H' => ?_;unfold seqK;split
  ·exact Scott.exec c nt kp b _ _
  ·exact Scott.const _
 | .cond x a b,e,H => by
  simp only [Go.Sw.exec];exact Scott.condV _ (Scott.exec c nt kp a e H) (Scott.exec c nt kp b e H)
 | .block id a,e,H => by
  simp only [Go.Sw.exec];exact Scott.bind (Scott.exec c nt kp a e H) fun r H' => Scott.const _
 | .loop a,e,H => by
  simp only [Go.Sw.exec]
  exact Scott.loopN (F:=fun call e H => (Go.Sw.exec c call (Go.Sw.runDraw c call nt) nt kp a e H).bind fun r H' => .ok (roundK (kp (headOf a)) r) H')
   (fun e H => Scott.bind (Scott.exec c nt kp a e H) fun r H' => Scott.const _) _ _ _
 | .rangeFunc f ps a b,e,H => by
  simp only [Go.Sw.exec];refine Scott.bind (Scott.const _) fun l H => Scott.bif _ ?_ (Scott.const _)
  exact Scott.rangeN (F:=fun call e H => (Go.Sw.exec c call (Go.Sw.runDraw c call nt) nt kp a e H).bind fun r H' => assignK r H' fun e H => (Go.Sw.exec c call (Go.Sw.runDraw c call nt) nt kp b e H).bind fun r H' => .ok (dropE r) H')
   (fun e H => Scott.bind (Scott.exec c nt kp a e H) fun r H' => by
    unfold assignK;split
    ·exact Scott.bind (Scott.exec c nt kp b _ _) fun r H' => Scott.const _
    ·exact Scott.const _) _ _ _ _
theorem Scott.bodyK (c:Cfg) (f:FuncId) (args:List Value) (H:Heap):Scott fun call => bodyK c call f args H:=by
 unfold Go.Sw.bodyK;cases c.P.funcs[f]? with
 | none => exact Scott.const _
 | some fn =>
  dsimp only;cases fn.body with
  | none => exact Scott.const _
  | some code =>
   dsimp only;refine Scott.bif _ ?_ (Scott.const _);simp only [execK_eq];exact Scott.bind (Scott.exec c _ _ code _ H) fun r H' => Scott.const _
theorem Scott.nrm {F:Caller → Res Value} (hF:Scott F) (md:Mode) (H:Heap):Scott fun call => nrm md H (F call):=by
 intro s lim h hne;obtain ⟨n,hn⟩:=hF s lim h (nrm_stuck hne);exact ⟨n,fun m hm => by dsimp only; rw [hn m hm]⟩
structure Told where
 c:Cfg
 md:FuncId → Nat → Mode
 ar:FuncId → Bool:=fun _ => false
 pk:FuncId → Bool:=fun _ => false
def frzA (args:List Value) (H:Heap):List Value × Heap :=
 match mapF (fzV 0 H fzDepth) args with
 | some (r,L) => (r,killAll H L)
 | none => (args,H)
theorem frzA_some {args r:List Value} {H:Heap} {L:List Nat} (h:mapF (fzV 0 H fzDepth) args = some (r,L)):frzA args H = (r,killAll H L):=by unfold frzA; rw [h]
theorem frzA_sim {w0:Base} {μ:Mu} {H:Heap} {w:World} (h:HR w0 μ H w) {args args':List Value} (ha:VRs μ args args') :
  ∃ μ':Mu,μ.le μ' ∧ HR w0 μ' (frzA args H).2 w ∧ VRs μ' (frzA args H).1 args':=by
 unfold frzA;split
 ·rename_i r L hf;obtain ⟨μ',k1,k2,k3,k4⟩:=h.freezeL L fun b hb k hk => by
   obtain ⟨_,k2,h1,h2⟩:=mapF_own (n0:=0) (H:=H) hf (fun v u M hv => fz_own _ _ _ _ hv) b hb;rw [hk] at h1; injection h1 with h1; subst h1; exact h2
  refine ⟨μ',k1,k2,?_⟩;obtain ⟨h1,h2⟩:=mapF_spec (R:=fun v u => ∀ v',VR μ v v' → VR μ' u v') hf fun v u M _ hv hM v' hv' => fz_sim h k1 _ hv (fun b k m hb hk hm => k4 b k m (hM b hb) hk hm) hv';refine ⟨h1.trans ha.1,fun i u v' hu hv' => ?_⟩;have hi:i < args.length:=by rw [← h1]; exact (List.getElem?_eq_some_iff.1 hu).1
  exact h2 i _ u (List.getElem?_eq_getElem hi) hu v' (ha.2 i _ v' (List.getElem?_eq_getElem hi) hv')
 ·exact ⟨μ,Mu.le_refl _,h,ha⟩
theorem Ended.up {w0:Base} {μ μ':Mu} (hle:μ.le μ') {r:Res Value} {e:Ending} {w':World} (h:Ended w0 μ' r e w'):Ended w0 μ r e w':=by
 unfold Ended at h ⊢;split at h
 ·obtain ⟨a,b,c,d⟩:=h; exact ⟨a,b,Mu.le_trans hle c,d⟩
 ·obtain ⟨a,b,c,d⟩:=h; exact ⟨a,b,Mu.le_trans hle c,d⟩
 ·exact h.elim
def dark1:Value → Value
 | .bool b => .bool b
 | .int k n => .int k n
 | .string s => .string s
 | _ => .chan none
def darkC:Value → Option Value
 | .agg cs => some (.agg (cs.toList.map dark1).toArray)
 | .tuple _ => none
 | v => some (dark1 v)
def darkL:List Value → Option (List Value)
 | [] => some []
 | v :: l => (darkC v).bind fun u => (darkL l).map (u :: ·)
theorem dark1_one (v:Value):(dark1 v).oneCell' = true:=by cases v <;> rfl
theorem dark1_sim {μ μ':Mu} {v v':Value} (h:VR μ' v v') (ho:v.oneCell' = true):VR μ (dark1 v) v':=by
 have hd:(∀ b,v' ≠ .bool b) → VR μ (.chan none) v':=.dark v' (h.one.trans ho);cases h with
 | bool b => exact .bool b
 | int k n => exact .int k n
 | string s => exact .string s
 | dark _ _ hb => exact hd hb
 | _ => exact hd fun b hb => by cases hb
theorem darkC_sim {μ μ':Mu} {v u v':Value} (h:VR μ' v v') (hd:darkC v = some u):VR μ u v':=by
 unfold darkC at hd;split at hd
 ·injection hd with hd;subst hd;cases h with
  | agg _ xs' h0 h1 h2 =>
   rename_i cs;refine VR.agg' (l':=xs'.toList) (l:=cs.toList.map dark1) ⟨by simpa using h1,fun i v v' hv hv' => ?_⟩ (fun v hv => ?_)
   ·rw [List.getElem?_map] at hv;obtain ⟨x,hx,rfl⟩:=Option.map_eq_some_iff.1 hv;exact dark1_sim (h2 i x v' (by simpa using hx) (by simpa using hv')) (h0 x (List.mem_of_getElem? hx))
   ·obtain ⟨x,_,rfl⟩:=List.mem_map.1 hv;exact dark1_one x
 ·cases hd
 ·rename_i h1 h2;injection hd with hd;subst hd;refine dark1_sim h ?_;cases v with
  | agg cs => exact absurd rfl (h1 cs)
  | tuple cs => exact absurd rfl (h2 cs)
  | _ => rfl
theorem darkL_sim {μ μ':Mu}:∀ {l us l':List Value},VRs μ' l l' → darkL l = some us → VRs μ us l'
 | [],us,l',h,hd => by
  simp only [darkL] at hd;injection hd with hd;subst hd;rw [h.nil_inv];exact VRs.nil
 | v :: l,us,l',h,hd => by
  obtain ⟨v',r',rfl,hv,hr⟩:=h.cons_inv;obtain ⟨u,hu,hd⟩:=Option.bind_eq_some_iff.1 hd;obtain ⟨ws,hw,rfl⟩:=Option.map_eq_some_iff.1 hd;exact VRs.cons (darkC_sim hv hu) (darkL_sim hr hw)
def darkT:Value → Option Value
 | .tuple vs => (darkL vs.toList).map fun us => .tuple us.toArray
 | _ => none
theorem darkT_sim {μ μ':Mu} {v u v':Value} (h:VR μ' v v') (hd:darkT v = some u):VR μ u v':=by
 unfold darkT at hd;split at hd
 ·obtain ⟨us,hu,rfl⟩:=Option.map_eq_some_iff.1 hd;cases h with
  | tuple _ xs' h1 h2 =>
   have:=darkL_sim (μ:=μ) (VRs.of_arr h1 h2) hu;have:=VRs.arr (xs:=us.toArray) (xs':=xs') (by simpa using this);exact .tuple _ _ this.1 this.2
 ·cases hd
def peekD (H:Heap) (r:Res Value):Res Value :=
 match r with
 | .ok v _ => match darkT v with
  | some u => .ok u H
  | none => .stuck
 | _ => .stuck
def ownL (H:Heap):List Nat:=(List.range H.n).filter fun b => match H.get b with | some k => !k.ro | none => false
def allDead (H:Heap):Heap:=killAll H (ownL H)
theorem get_lt' {H:Heap} {b:Nat} {k:Blk} (h:H.get b = some k):b < H.n:=by
 unfold Heap.get at h;split at h
 ·assumption
 ·cases h
theorem ownL_get {H:Heap} {b:Nat} (h:b ∈ ownL H) {k:Blk} (hk:H.get b = some k):k.ro = false:=by
 have:=(List.mem_filter.1 h).2;rw [hk] at this;simpa using this
theorem ownL_mem {H:Heap} {b:Nat} {k:Blk} (hk:H.get b = some k) (hr:k.ro = false):b ∈ ownL H:=by
 refine List.mem_filter.2 ⟨List.mem_range.2 (get_lt' hk),?_⟩;rw [hk];simp [hr]
theorem peek_sim {w0:Base} {μ μ1 μ':Mu} {H H':Heap} {w w':World} (h:HR w0 μ H w) (hle:μ.le μ1) (hz:∀ b k m,b ∈ ownL H → H.get b = some k → μ b = some m → μ1.z m.blk = w.heap[m.blk]?)
  (h':HR w0 μ' H' w') (hle':μ1.le μ'):HR w0 μ H w':=by
 constructor
 ·exact h.dom
 ·intro b k hb;obtain ⟨m,hm,hB⟩:=h.blk b k hb;refine ⟨m,hm,hB.keep (Mu.le_refl _) ?_⟩;obtain ⟨cs,el,fz,h1,_⟩:=hB.here;cases hr:k.ro with
  | false =>
   have h2:=hz b k m (ownL_mem hb hr) hb hm;rw [h1] at h2 ⊢;exact h'.zr.at_ _ _ (hle'.z _ _ h2)
  | true =>
   have hS:=h.below.sub _ (hB.low hr);rw [h'.below.block _ hS,h.below.block _ hS]
 ·exact h.inj
 ·exact h'.below
 ·exact ⟨fun j o hj => h'.zr.at_ j o (hle'.z _ _ (hle.z _ _ hj)),h.zr.old,h.zr.apart⟩
noncomputable def argK (t:Told) (call:Caller) (f:FuncId) (args:List Value) (H:Heap):Res Value :=
 match mapF (fzV 0 H fzDepth) args with
 | some (r,L) => bif t.pk f && !L.isEmpty then peekD H (nrm (t.md f H.n) (allDead H) (bodyK t.c call f r (allDead H)))
   else nrm (t.md f H.n) (killAll H L) (bodyK t.c call f r (killAll H L))
 | none => nrm (t.md f H.n) H (bodyK t.c call f args H)
noncomputable def stepG (t:Told) (call:Caller):Caller:=fun f args H =>
 match t.c.sp f with
 | some s => nrm (t.md f H.n) H (s call args H)
 | none => bif t.ar f then argK t call f args H else nrm (t.md f H.n) H (bodyK t.c call f args H)
noncomputable def callG (t:Told):Nat → Caller
 | 0 => fun _ _ _ => .stuck
 | n + 1 => stepG t (callG t n)
def SpScott (c:Cfg):Prop:=∀ f s,c.sp f = some s → ∀ args H,Scott fun call => s call args H
theorem SpScott.of {P:Program} {kp:FuncId → Nat → List Nat} {speaks:List Nat} {more:FuncId → Option Sp} {k:Nat} (hs:∀ f s,more f = some s → ∀ args H,Scott fun call => s call args H) :
  SpScott { P:=P,kp:=kp,sp:=spOf speaks more k }:=by
 intro f s' hf;simp only [spOf] at hf;cases h1:oneOf f speaks with
 | true =>
  rw [h1,cond_true] at hf;cases h2:Nat.beq f k with
  | true =>
   rw [h2,cond_true,Option.some.injEq] at hf;subst hf;exact fun args H => Scott.const _
  | false =>
   rw [h2,cond_false,Option.some.injEq] at hf;subst hf;exact fun args H => Scott.const _
 | false =>
  rw [h1,cond_false] at hf;exact hs f s' hf
theorem Scott.peekD {F:Caller → Res Value} (hF:Scott F) (H:Heap):Scott fun call => peekD H (F call):=by
 intro s lim h hne;obtain ⟨n,hn⟩:=hF s lim h (fun e => hne (by dsimp only; rw [e]; rfl));exact ⟨n,fun m hm => by dsimp only; rw [hn m hm]⟩
theorem Scott.stepG {t:Told} (hs:SpScott t.c) (f:FuncId) (args:List Value) (H:Heap):Scott fun call => stepG t call f args H:=by
 unfold Go.Sw.stepG;cases h:t.c.sp f with
 | some s => exact Scott.nrm (hs f s h args H) _ _
 | none =>
  refine Scott.bif _ ?_ (Scott.nrm (Scott.bodyK _ _ _ _) _ _);unfold argK;cases mapF (fzV 0 H fzDepth) args with
  | none => exact Scott.nrm (Scott.bodyK _ _ _ _) _ _
  | some x => exact Scott.bif _ (Scott.peekD (Scott.nrm (Scott.bodyK _ _ _ _) _ _) H) (Scott.nrm (Scott.bodyK _ _ _ _) _ _)
def Le (c1 c2:Caller):Prop:=∀ f a H,c1 f a H ≠ .stuck → c2 f a H = c1 f a H
theorem Scott.mono {α:Type} {F:Caller → Res α} (hF:Scott F) {c1 c2:Caller} (h:Le c1 c2) (hne:F c1 ≠ .stuck):F c2 = F c1:=by
 obtain ⟨n,hn⟩:=hF (fun _ => c2) c1 (fun f a H hn => ⟨0,fun m _ => h f a H hn⟩) hne;exact hn n (Nat.le_refl _)
theorem callG_up {t:Told} (hs:SpScott t.c):∀ n,Le (callG t n) (callG t (n + 1))
 | 0 => fun _ _ _ h => absurd rfl h
 | n + 1 => fun f a H h => Scott.mono (Scott.stepG hs f a H) (callG_up hs n) h
theorem callG_le {t:Told} (hs:SpScott t.c) {n m:Nat} (h:n ≤ m):Le (callG t n) (callG t m):=by
 induction h with
 | refl => exact fun _ _ _ _ => rfl
 | step _ ih =>
  intro f a H hn;have h1:=ih f a H hn;rw [← h1];exact callG_up hs _ f a H (by rw [h1]; exact hn)
open Classical in
noncomputable def R (t:Told):Caller:=fun f args H => if h:∃ n,callG t n f args H ≠ .stuck then callG t (Classical.choose h) f args H else .stuck
theorem R_of {t:Told} (hs:SpScott t.c) {n:Nat} {f:FuncId} {args:List Value} {H:Heap} (h:callG t n f args H ≠ .stuck):R t f args H = callG t n f args H:=by
 unfold R;have hex:∃ n,callG t n f args H ≠ .stuck:=⟨n,h⟩
 rw [dif_pos hex];have h2:=Classical.choose_spec hex;rcases Nat.le_total n (Classical.choose hex) with hl | hl
 ·exact callG_le hs hl f args H h
 ·exact (callG_le hs hl f args H h2).symm
theorem R_appr {t:Told} (hs:SpScott t.c):Appr (callG t) (R t):=by
 intro f a H h;unfold R at h;by_cases hex:∃ n,callG t n f a H ≠ .stuck
 ·obtain ⟨n,hn⟩:=hex;refine ⟨n,fun m hm => ?_⟩;have:=callG_le hs hm f a H hn;rw [this,R_of hs hn]
 ·rw [dif_neg hex] at h; exact absurd rfl h
theorem R_step {t:Told} (hs:SpScott t.c) (f:FuncId) (args:List Value) (H:Heap):R t f args H = stepG t (R t) f args H:=by
 by_cases h:stepG t (R t) f args H = .stuck
 ·rw [h];by_cases hr:R t f args H = .stuck
  ·exact hr
  ·exfalso;have hex:∃ n,callG t n f args H ≠ .stuck:=by
    unfold R at hr;by_cases hex:∃ n,callG t n f args H ≠ .stuck
    ·exact hex
    ·rw [dif_neg hex] at hr; exact absurd rfl hr
   obtain ⟨n,hn⟩:=hex;cases n with
   | zero => exact hn rfl
   | succ n =>
    have hle:Le (callG t n) (R t):=fun f a H h => R_of hs h;have:=Scott.mono (Scott.stepG hs f args H) hle hn;rw [h] at this;exact hn this.symm
 ·obtain ⟨n,hn⟩:=Scott.stepG hs f args H (callG t) (R t) (R_appr hs) h;have h1:=hn n (Nat.le_refl _);dsimp only at h1;have h2:callG t (n + 1) f args H = stepG t (R t) f args H:=h1;rw [← h2];exact R_of hs (by rw [h2]; exact h)
theorem R_body {t:Told} (hs:SpScott t.c) {f:FuncId} (h:t.c.sp f = none) (har:t.ar f = false) (args:List Value) (H:Heap):R t f args H = nrm (t.md f H.n) H (bodyK t.c (R t) f args H):=by
 rw [R_step hs];unfold stepG;rw [h,har];rfl
theorem R_bodyA {t:Told} (hs:SpScott t.c) {f:FuncId} (h:t.c.sp f = none) (har:t.ar f = true) {args r:List Value} {H:Heap} {L:List Nat} (hf:mapF (fzV 0 H fzDepth) args = some (r,L)) (hp:(t.pk f && !L.isEmpty) = false):R t f args H = nrm (t.md f H.n) (killAll H L) (bodyK t.c (R t) f r (killAll H L)):=by
 rw [R_step hs];unfold stepG argK;rw [h,har,cond_true,hf];dsimp only;rw [hp,cond_false]
theorem R_sp {t:Told} (hs:SpScott t.c) {f:FuncId} {s:Caller → List Value → Heap → Res Value} (h:t.c.sp f = some s) (args:List Value) (H:Heap):R t f args H = nrm (t.md f H.n) H (s (R t) args H):=by
 rw [R_step hs];unfold stepG;rw [h]
theorem nrm_ok {P:Program} {md:Mode} {f:FuncId} {args:List Value} {H:Heap} {r:Res Value}
  (h:r ≠ .stuck → (∃ fn,P.funcs[f]? = some fn ∧ fn.body.isSome = true ∧ (fn.name == "runtime.NumGoroutine") = false) ∧ ∀ w0 μ w args',HR w0 μ H w → VRs μ args args' → Calls P f args'.toArray w fun e w' => Ended w0 μ r e w')
  (hne:nrm md H r ≠ .stuck) :
  (∃ fn,P.funcs[f]? = some fn ∧ fn.body.isSome = true ∧ (fn.name == "runtime.NumGoroutine") = false) ∧ ∀ w0 μ w args',HR w0 μ H w → VRs μ args args' → Calls P f args'.toArray w fun e w' => Ended w0 μ (nrm md H r) e w':=by
 obtain ⟨h1,h2⟩:=h (nrm_stuck hne);exact ⟨h1,fun w0 μ w args' hH ha => (h2 w0 μ w args' hH ha).mono fun e w' he => nrm_sim md hH he⟩
theorem callG_ok {t:Told} (hN:NamesOk t.c.P) (hmix:t.c.P.follows .mixedOrders = true) (hsp:SpOk t.c):∀ n,CallOk t.c.P (callG t n)
 | 0 => fun _ _ _ h => absurd rfl h
 | n + 1 => by
  intro f args H hne;have ih:=callG_ok hN hmix hsp n;simp only [callG,stepG] at hne ⊢;cases hs:t.c.sp f with
  | some s =>
   rw [hs] at hne;exact nrm_ok (fun h => hsp.2 f s hs _ ih args H h) hne
  | none =>
   rw [hs] at hne
   have key:∀ (md:Mode) (args:List Value) (H:Heap),nrm md H (bodyK t.c (callG t n) f args H) ≠ .stuck → (∃ fn,t.c.P.funcs[f]? = some fn ∧ fn.body.isSome = true ∧ (fn.name == "runtime.NumGoroutine") = false) ∧
     ∀ w0 μ w args',HR w0 μ H w → VRs μ args args' → Calls t.c.P f args'.toArray w fun e w' => Ended w0 μ (nrm md H (bodyK t.c (callG t n) f args H)) e w':=by
    intro md args H hne;refine nrm_ok (fun h => ?_) hne;unfold bodyK at h ⊢;cases hf:t.c.P.funcs[f]? with
    | none => rw [hf] at h; exact absurd rfl h
    | some fn =>
     rw [hf] at h;dsimp only at h ⊢;cases hb:fn.body with
     | none => rw [hb] at h; exact absurd rfl h
     | some code =>
      rw [hb] at h;dsimp only at h ⊢;cases hl:Nat.ble args.length fn.ntmps with
      | false => rw [hl] at h; exact absurd rfl h
      | true =>
       rw [hl] at h;simp only [cond_true,execK_eq,kDone_eq] at h ⊢;have:=body_ok (draw:=fun nt => runDraw t.c (callG t n) nt) hN hmix hsp.1 ih (fun nt => draw_ok ih nt) hf hb (Nat.le_of_ble_eq_true hl) h;rw [hf] at this;exact this
   cases har:t.ar f with
   | false =>
    rw [har] at hne;exact key _ args H hne
   | true =>
    rw [har,cond_true] at hne;simp only [cond_true];unfold argK at hne ⊢;cases hf:mapF (fzV 0 H fzDepth) args with
    | none =>
     rw [hf] at hne;exact key _ _ _ hne
    | some x =>
     obtain ⟨r,L⟩:=x;rw [hf] at hne;dsimp only at hne ⊢;cases hp:t.pk f && !L.isEmpty with
     | false =>
      rw [hp,cond_false] at hne;rw [cond_false];obtain ⟨h1,h2⟩:=key _ _ _ hne;refine ⟨h1,fun w0 μ w args' hH ha => ?_⟩;obtain ⟨μ',k1,k2,k3⟩:=frzA_sim hH ha;rw [frzA_some hf] at k2 k3;exact (h2 w0 μ' w args' k2 k3).mono fun e w' he => Ended.up k1 he
     | true =>
      rw [hp,cond_true] at hne;rw [cond_true];have hne2:nrm (t.md f H.n) (allDead H) (bodyK t.c (callG t n) f r (allDead H)) ≠ .stuck:=fun e => hne (by rw [e]; rfl);obtain ⟨h1,h2⟩:=key _ _ _ hne2;refine ⟨h1,fun w0 μ w args' hH ha => ?_⟩;obtain ⟨μ1,k1,k2,k3,k4⟩:=hH.freezeL (ownL H) fun b hb k hk => ownL_get hb hk;have hL:∀ b,b ∈ L → b ∈ ownL H:=fun b hb => by
       obtain ⟨_,k2,g1,g2⟩:=mapF_own (n0:=0) (H:=H) hf (fun v u M hv => fz_own _ _ _ _ hv) b hb;exact ownL_mem g1 g2
      obtain ⟨g1,g2⟩:=mapF_spec (R:=fun v u => ∀ v',VR μ v v' → VR μ1 u v') hf fun v u M _ hv hM v' hv' => fz_sim hH k1 _ hv (fun b k m hb hk hm => k4 b k m (hL b (hM b hb)) hk hm) hv';have hr:VRs μ1 r args':=by
       refine ⟨g1.trans ha.1,fun i u v' hu hv' => ?_⟩;have hi:i < args.length:=by rw [← g1]; exact (List.getElem?_eq_some_iff.1 hu).1
       exact g2 i _ u (List.getElem?_eq_getElem hi) hu v' (ha.2 i _ v' (List.getElem?_eq_getElem hi) hv')
      refine (h2 w0 μ1 w args' k2 hr).mono fun e w' he => ?_;generalize nrm (t.md f H.n) (allDead H) (bodyK t.c (callG t n) f r (allDead H)) = q at he hne;cases q with
      | stuck => exact he.elim
      | panic v Hq => exact absurd rfl hne
      | ok v H' =>
       obtain ⟨μ',v',h7,h6,h5,rfl⟩:=he;unfold peekD at hne ⊢;dsimp only at hne ⊢;cases hd:darkT v with
       | none => rw [hd] at hne; exact absurd rfl hne
       | some u =>
        exact ⟨μ,v',Mu.le_refl _,peek_sim hH k1 k4 h6 h7,darkT_sim h5 hd,rfl⟩
theorem R_ok {t:Told} (hN:NamesOk t.c.P) (hmix:t.c.P.follows .mixedOrders = true) (hsp:SpOk t.c) (hs:SpScott t.c):CallOk t.c.P (R t):=by
 intro f args H hne;obtain ⟨n,hn⟩:=R_appr hs f args H hne;have h1:=hn n (Nat.le_refl _);rw [← h1];exact callG_ok hN hmix hsp n f args H (by rw [h1]; exact hne)
theorem law_of_R {t:Told} (hN:NamesOk t.c.P) (hmix:t.c.P.follows .mixedOrders = true) (hsp:SpOk t.c) (hs:SpScott t.c) {f:FuncId} {args args':List Value} {H':Heap} {w:World}
  (hargs:VRs (Mu.start w) args args') (hrun:R t f args Heap.empty = .ok (.bool true) H') :
  Calls t.c.P f args'.toArray w fun e w' => e = .returned (.bool true) ∧ Below w.heap.size w w' :=
 law_calls (R_ok hN hmix hsp hs) (HR.empty w) hargs hrun
end Go.Sw
end
section
namespace Go.Sw
def tryV (short:TypeId) (call:Caller) (args:List Value) (H:Heap):Res Value :=
 match args with
 | [.func (.func g) first captured] =>
  (call g (first.toList ++ captured.toList) H).bindP (fun _ H' => .ok (.bool true) H') fun v H' =>
   match v with
   | .iface t (.agg xs) => bif Nat.beq t short && Nat.beq xs.size 0 then .ok (.bool false) H' else .stuck
   | _ => .stuck
 | _ => .stuck
theorem Scott.tryV (short:TypeId):∀ args H,Scott fun call => tryV short call args H:=by
 intro args H;unfold Go.Sw.tryV;split
 ·exact Scott.bindP (Scott.call _ _ _) (fun _ _ => Scott.const _) fun _ _ => Scott.const _
 ·exact Scott.const _
theorem Scott.told {s:List Value → Heap → Res Value}:∀ args H,Scott fun _ => s args H:=fun _ _ => Scott.const _
def own (k:Nat):Mode:=bif Nat.blt k 1000000 then .fz else .no
abbrev Ext (H H':Heap):Prop:=Keeps [] H H'
theorem Ext.refl (H:Heap):Ext H H:=Keeps.refl [] H
theorem Ext.trans {a b c:Heap} (h:Ext a b) (k:Ext b c):Ext a c:=Keeps.trans h k
theorem Ext.push {H H':Heap} (h:Ext H H') (k:Blk):Ext H (H'.push k):=h.trans (Keeps.push H' k)
theorem Ext.get {H H':Heap} (h:Ext H H') {b:Nat} {k:Blk} (hb:H.get b = some k):H'.get b = some k:=Keeps.get h hb (by simp)
theorem Ext.set {H H':Heap} (h:Ext H H') {b:Nat} (hb:H.n ≤ b) (x:Option Blk):Ext H (H'.set b x):=by
 refine ⟨by rw [Heap.n_set]; exact h.1,fun c hc hs => ?_⟩;rw [← h.2 c hc hs];unfold Heap.set;split
 ·unfold Heap.get;dsimp only;split
  ·rw [List.getElem?_set_ne (by omega)]
  ·rfl
 ·rfl
theorem Ext.n {H H':Heap} (h:Ext H H'):H.n ≤ H'.n:=h.1
theorem Ext.empty (H:Heap):Ext Heap.empty H:=⟨Nat.zero_le _,fun _ hc => absurd hc (Nat.not_lt_zero _)⟩
def Pure {α:Type} (H:Heap) (r:Res α) (a:α):Prop:=∃ H',r = .ok a H' ∧ Ext H H'
def Throws {α:Type} (H:Heap) (r:Res α) (v:Value):Prop:=∃ H',r = .panic v H' ∧ Ext H H'
theorem Pure.ret {α:Type} {H H':Heap} {a:α} (h:Ext H H'):Pure H (.ok a H') a:=⟨H',rfl,h⟩
theorem Pure.of {α:Type} {H:Heap} {r:Res α} {a:α} (h:r = .ok a H):Pure H r a:=⟨H,h,Ext.refl H⟩
theorem Pure.more {α:Type} {H H':Heap} {r:Res α} {a:α} (h:Pure H' r a) (he:Ext H H'):Pure H r a:=by
 obtain ⟨H2,h1,h2⟩:=h;exact ⟨H2,h1,he.trans h2⟩
theorem Pure.bind {α β:Type} {H:Heap} {r:Res α} {a:α} {f:α → Heap → Res β} {b:β} (h:Pure H r a) (hf:∀ H',Ext H H' → Pure H' (f a H') b):Pure H (r.bind f) b:=by
 obtain ⟨H1,rfl,h1⟩:=h;obtain ⟨H2,h2,h3⟩:=hf H1 h1;exact ⟨H2,h2,h1.trans h3⟩
theorem nrm_gc {H:Heap} {r:Res Value} {v:Value} (h:Pure H r v) (ha:Alive H v):nrm .gc H r = .ok v H:=by
 obtain ⟨H',rfl,he⟩:=h;have hfr:frozen .gc H v H' = (v,H'):=rfl;unfold nrm;dsimp only;rw [if_pos (by rw [hfr]; exact ⟨he,ha⟩),hfr]
theorem nrm_fz {H H':Heap} {r:Res Value} {v u:Value} {L:List Nat} (h:r = .ok v H') (hf:fzV H.n H' fzDepth v = some (u,L)) (he:Ext H H') (ha:Alive H u):nrm .fz H r = .ok u H:=by
 subst h;have hfr:frozen .fz H v H' = (u,killAll H' L):=by unfold frozen; rw [hf]
 unfold nrm;dsimp only;rw [if_pos ?_,hfr];rw [hfr];refine ⟨?_,ha⟩;refine ⟨by rw [killAll_n]; exact he.1,fun b hb hs => ?_⟩;rw [killAll_get,if_neg,he.2 b hb hs];intro hm;have:=(fz_own _ _ _ _ hf b hm).1;omega
theorem nrm_throw {H:Heap} {md:Mode} {r:Res Value} {v:Value} (h:Throws H r v) (ha:Alive H v):nrm md H r = .panic v H:=by
 obtain ⟨H',rfl,he⟩:=h;unfold nrm;dsimp only;rw [if_pos ⟨he,ha⟩]
@[simp] theorem nrm_no (H:Heap) (v:Value) (H':Heap):nrm .no H (.ok v H') = .ok v H':=rfl
inductive Flat:Value → Prop
 | bool (b:Bool):Flat (.bool b)
 | int (k:IntKind) (n:Int):Flat (.int k n)
 | string (s:ByteArray):Flat (.string s)
 | nilPtr:Flat (.pointer none)
 | via (n:Nat) (p:Array FieldStep) (g:FuncId) (t:Bool) (cells ys:Array Value) (h:∀ (i:Nat) (v:Value),cells[i]? = some v → Flat v):Flat (.func (.via n p g t) cells ys)
 | nilFunc:Flat .nilFunc
 | nilIface:Flat .nilIface
 | iface (t:TypeId) (v:Value) (h:Flat v):Flat (.iface t v)
 | agg (xs:Array Value) (h:∀ (i:Nat) (v:Value),xs[i]? = some v → Flat v):Flat (.agg xs)
 | tuple (xs:Array Value) (h:∀ (i:Nat) (v:Value),xs[i]? = some v → Flat v):Flat (.tuple xs)
theorem Flat.alive {H:Heap} {v:Value} (h:Flat v):Alive H v:=by
 induction h with
 | bool b => exact .bool b
 | int k n => exact .int k n
 | string s => exact .string s
 | nilPtr => exact .nilPtr
 | via n p g t cells ys _ ih => cases t with
  | false => exact .list n p g cells ys ih
  | true => exact .box n p g cells ys ih
 | nilFunc => exact .nilFunc
 | nilIface => exact .nilIface
 | iface t v _ ih => exact .iface t v ih
 | agg xs _ ih => exact .agg xs ih
 | tuple xs _ ih => exact .tuple xs ih
def Flats (l:List Value):Prop:=∀ v,v ∈ l → Flat v
theorem Flats.nil:Flats []:=fun v h => by simp at h
theorem Flats.cons {v:Value} {l:List Value} (h:Flat v) (hl:Flats l):Flats (v :: l):=fun u hu => by
 rcases List.mem_cons.1 hu with rfl | hu
 ·exact h
 ·exact hl u hu
theorem Flats.get {l:List Value} (h:Flats l) {i:Nat} {v:Value} (hv:l[i]? = some v):Flat v:=h v (List.mem_of_getElem? hv)
theorem Flat.listV (n:Nat) {l:List Value} (h:Flats l):Flat (listV n l.toArray):=.via _ _ _ _ _ _ fun i v hv => h.get (i:=i) (by simpa using hv)
theorem Flat.boxV {l:List Value} (h:Flats l):Flat (boxV l.toArray):=.via _ _ _ _ _ _ fun i v hv => h.get (i:=i) (by simpa using hv)
theorem Flat.tupleL {l:List Value} (h:Flats l):Flat (.tuple l.toArray):=.tuple _ fun i v hv => h.get (i:=i) (by simpa using hv)
theorem Flat.aggL {l:List Value} (h:Flats l):Flat (.agg l.toArray):=.agg _ fun i v hv => h.get (i:=i) (by simpa using hv)
def Still:Value → Prop
 | .bool _ | .int _ _ | .string _ | .pointer none | .func _ _ _ | .nilFunc | .nilIface => True
 | _ => False
theorem fzV_still {n0:Nat} {H:Heap} {d:Nat} {v:Value} (h:Still v):fzV n0 H (d + 1) v = some (v,[]):=by
 unfold Still at h;split at h <;> first | rfl | exact h.elim
theorem mapF_still {n0:Nat} {H:Heap} {d:Nat}:∀ {l:List Value},(∀ v,v ∈ l → Still v) → mapF (fzV n0 H (d + 1)) l = some (l,[])
 | [],_ => rfl
 | v :: l,h => by simp only [mapF,fzV_still (h v (by simp)),mapF_still (l:=l) fun u hu => h u (by simp [hu])]; rfl
end Go.Sw
end
