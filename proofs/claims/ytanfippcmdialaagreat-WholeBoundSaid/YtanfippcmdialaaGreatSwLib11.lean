/-
  A speaking function, run by itself, answers true.
-/
import Derived.Test.YtanfippcmdialaaGreatSwLib6
import Derived.Test.YtanfippcmdialaaGreatSwLib7
import Derived.Defers
import Derived.Test.YtanfippcmdialaaGreatSwLib10
section
namespace Go.Sw
open Go.RowKit
abbrev Dfr:=FuncId × List Value
def dfrOp (e:Env):Op → Option Dfr
 | .defer k => match k.callee with
  | .value (.func g) => (opnds e k.args.toList).map fun vs => (g,vs)
  | _ => none
 | _ => none
def isDfr:Op → Bool
 | .defer _ => true
 | _ => false
def stepD1 (c:Cfg) (call:Caller) (e:Env) (H:Heap) (ds:List Dfr) (op:Op):Res (Value × List Dfr) :=
 bif isDfr op then (match dfrOp e op with | some d => .ok (undef,d :: ds) H | none => .stuck) else (stepOp c call e H op).bind fun v H' => .ok (v,ds) H'
def runOpsD (c:Cfg) (call:Caller) (nt:Nat):List Oper → Env → Heap → List Dfr → Res (Env × List Dfr)
 | [],e,H,ds => .ok (e,ds) H
 | o :: os,e,H,ds => bif dstOk nt o.dst && o.guard.isNone then (stepD1 c call e H ds o.op).bind fun q H' => runOpsD c call nt os (putDst e o.dst q.1) H' q.2 else .stuck
def execD (c:Cfg) (call:Caller) (draw:Draw) (nt:Nat) (kp:Nat → List Nat):Code → Env → Heap → List Dfr → Res ((AExit × Env) × List Dfr)
 | .seq a b,e,H,ds => bif plainCode (.seq a b) then (exec c call draw nt kp (.seq a b) e H).bind fun r H' => .ok (r,ds) H' else
  (execD c call draw nt kp a e H ds).bind fun r H' => match r.1.1 with
   | .normal => execD c call draw nt kp b r.1.2 H' r.2
   | _ => .ok r H'
 | .cond x a b,e,H,ds => condV (opnd e x) (execD c call draw nt kp a e H ds) (execD c call draw nt kp b e H ds)
 | .region id ops false,e,H,ds => (runOpsD c call nt ops.toList e H ds).bind fun q H' => .ok ((.normal,Env.keep (kp id) q.1),q.2) H'
 | code,e,H,ds => bif plainCode code then (exec c call draw nt kp code e H).bind fun r H' => .ok (r,ds) H' else .stuck
def dfrRun (c:Cfg) (call:Caller):List Dfr → Heap → Res Unit
 | [],H => .ok () H
 | (g,vs) :: ds,H => match bodyK c call g vs H with
  | .ok _ H' => dfrRun c call ds H'
  | _ => .stuck
def bodyD (c:Cfg) (call:Caller) (f:FuncId) (args:List Value) (H:Heap):Res Value :=
 match c.P.funcs[f]? with
 | some fn => match fn.body with
  | some code => bif Nat.ble args.length fn.ntmps then
    (match execD c call (runDraw c call fn.ntmps) fn.ntmps (c.kp f) code (Env.of 0 args) H [] with
    | .ok ((.exit _,_),_) _ => .stuck
    | .ok ((_,e),ds) H1 => (dfrRun c call ds H1).bind fun _ H2 => opt ((resultV c.P e H2 fn.results.toList).map tupleV) H2
    | _ => .stuck)
   else .stuck
  | none => .stuck
 | none => .stuck
def onOk {α β:Type} (r:Res α) (f:α → Heap → Res β):Res β:=match r with
 | .ok a H => f a H
 | _ => .stuck
theorem Scott.onOk {α β:Type} {F:Caller → Res α} {G:Caller → α → Heap → Res β} (hF:Scott F) (hG:∀ a H,Scott fun call => G call a H):Scott fun call => onOk (F call) (G call):=by
 intro s lim h hne;have hne1:F lim ≠ .stuck:=fun e => hne (by show Go.Sw.onOk (F lim) _ = _; rw [e]; rfl);obtain ⟨n1,h1⟩:=hF s lim h hne1;cases hr:F lim with
 | stuck => exact absurd hr hne1
 | panic v H => exact absurd (by show Go.Sw.onOk (F lim) _ = _; rw [hr]; rfl) hne
 | ok a H =>
  have hne2:G lim a H ≠ .stuck:=by
   have:=hne;dsimp only at this;rw [hr] at this;exact this
  obtain ⟨n2,h2⟩:=hG a H s lim h hne2;refine ⟨max n1 n2,fun m hm => ?_⟩;show Go.Sw.onOk (F (s m)) (G (s m)) = Go.Sw.onOk (F lim) (G lim);rw [h1 m (by omega),hr];exact h2 m (by omega)
theorem Scott.stepD1 (c:Cfg) (e:Env) (H:Heap) (ds:List Dfr) (op:Op):Scott fun call => Go.Sw.stepD1 c call e H ds op :=
 Scott.bif _ (Scott.const _) (Scott.bind (Scott.stepOp c e H op) fun _ _ => Scott.const _)
theorem Scott.runOpsD (c:Cfg) (nt:Nat):∀ (os:List Oper) (e:Env) (H:Heap) (ds:List Dfr),Scott fun call => Go.Sw.runOpsD c call nt os e H ds
 | [],_,_,_ => Scott.const _
 | o :: os,e,H,ds => Scott.bif _ (Scott.bind (Scott.stepD1 c e H ds o.op) fun v H' => Scott.runOpsD c nt os _ H' v.2) (Scott.const _)
theorem Scott.execD (c:Cfg) (nt:Nat) (kp:Nat → List Nat):∀ (code:Code) (e:Env) (H:Heap) (ds:List Dfr),Scott fun call => Go.Sw.execD c call (Go.Sw.runDraw c call nt) nt kp code e H ds:=by
 have plain:∀ (code:Code) (e:Env) (H:Heap) (ds:List Dfr),Scott fun call => (bif plainCode code then (Go.Sw.exec c call (Go.Sw.runDraw c call nt) nt kp code e H).bind fun r H' => .ok (r,ds) H' else (.stuck:Res ((AExit × Env) × List Dfr))) :=
  fun code e H ds => Scott.bif _ (Scott.bind (Scott.exec c nt kp code e H) fun _ _ => Scott.const _) (Scott.const _)
 intro code
 induction code with
 | seq a b iha ihb =>
  intro e H ds;exact Scott.bif _ (Scott.bind (Scott.exec c nt kp (.seq a b) e H) fun _ _ => Scott.const _) (Scott.bind (iha e H ds) fun r H' => by
   split
   ·exact ihb r.1.2 H' r.2
   ·exact Scott.const _)
 | cond x a b iha ihb => exact fun e H ds => Scott.condV _ (iha e H ds) (ihb e H ds)
 | region id ops d =>
  intro e H ds;cases d with
  | false => exact Scott.bind (Scott.runOpsD c nt ops.toList e H ds) fun _ _ => Scott.const _
  | true => exact plain (.region id ops true) e H ds
 | _ => exact plain _
theorem Scott.dfrRun (c:Cfg):∀ (ds:List Dfr) (H:Heap),Scott fun call => Go.Sw.dfrRun c call ds H
 | [],H => Scott.const _
 | (g,vs) :: ds,H => by
  have:(fun call => Go.Sw.dfrRun c call ((g,vs) :: ds) H) = fun call => Go.Sw.onOk (Go.Sw.bodyK c call g vs H) fun _ H' => Go.Sw.dfrRun c call ds H':=by
   funext call;show (match Go.Sw.bodyK c call g vs H with | .ok _ H' => Go.Sw.dfrRun c call ds H' | _ => .stuck) = _;cases Go.Sw.bodyK c call g vs H <;> rfl
  rw [this];exact Scott.onOk (Scott.bodyK c g vs H) fun _ H' => Scott.dfrRun c ds H'
theorem Scott.bodyD (c:Cfg) (f:FuncId) (args:List Value) (H:Heap):Scott fun call => Go.Sw.bodyD c call f args H:=by
 unfold Go.Sw.bodyD;cases c.P.funcs[f]? with
 | none => exact Scott.const _
 | some fn =>
  dsimp only;cases fn.body with
  | none => exact Scott.const _
  | some code =>
   dsimp only;refine Scott.bif _ ?_ (Scott.const _);have:(fun call => (match Go.Sw.execD c call (Go.Sw.runDraw c call fn.ntmps) fn.ntmps (c.kp f) code (Env.of 0 args) H [] with
    | .ok ((.exit _,_),_) _ => .stuck
    | .ok ((_,e),ds) H1 => (Go.Sw.dfrRun c call ds H1).bind fun _ H2 => opt ((resultV c.P e H2 fn.results.toList).map tupleV) H2
    | _ => (.stuck:Res Value))) = fun call => Go.Sw.onOk (Go.Sw.execD c call (Go.Sw.runDraw c call fn.ntmps) fn.ntmps (c.kp f) code (Env.of 0 args) H []) fun r H1 => match r.1.1 with
     | .exit _ => .stuck
     | _ => (Go.Sw.dfrRun c call r.2 H1).bind fun _ H2 => opt ((resultV c.P r.1.2 H2 fn.results.toList).map tupleV) H2:=by
    funext call;cases Go.Sw.execD c call (Go.Sw.runDraw c call fn.ntmps) fn.ntmps (c.kp f) code (Env.of 0 args) H [] with
    | stuck => rfl
    | panic v H => rfl
    | ok r H =>
     obtain ⟨⟨x,e⟩,ds⟩:=r;cases x <;> rfl
   rw [this];refine Scott.onOk (Scott.execD c _ _ code _ H []) fun r H1 => ?_;cases r.1.1 with
   | exit i => exact Scott.const _
   | normal => exact Scott.bind (Scott.dfrRun c r.2 H1) fun _ _ => Scott.const _
   | ret => exact Scott.bind (Scott.dfrRun c r.2 H1) fun _ _ => Scott.const _
def DR (μ:Mu):List Dfr → List Deferred → Prop
 | [],[] => True
 | (g,vs) :: ds,d :: dd => (∃ vs':List Value,d = { target:=.fn (.func g) #[],args:=vs'.toArray } ∧ VRs μ vs vs') ∧ DR μ ds dd
 | _,_ => False
theorem DR.up {μ μ':Mu} (hle:μ.le μ'):∀ {ds:List Dfr} {dd:List Deferred},DR μ ds dd → DR μ' ds dd
 | [],[],_ => trivial
 | (g,vs) :: ds,d :: dd,⟨⟨vs',h1,h2⟩,h3⟩ => ⟨⟨vs',h1,h2.up hle⟩,DR.up hle h3⟩
 | [],_ :: _,h => h.elim
 | _ :: _,[],h => h.elim
def EndD (w0:Base) (μ:Mu) (nt:Nat) (r:AExit × Env) (ds:List Dfr) (H:Heap) (x:Exit) (a:Act) (w:World):Prop :=
 ∃ μ',μ.le μ' ∧ HR w0 μ' H w ∧ ER μ' nt r.2 a.tmps ∧ DR μ' ds a.defers ∧ (match r.1 with | .normal => x = .normal | .exit i => x = .exit i | .ret => x = .ret)
theorem EndD.up {w0:Base} {μ μ':Mu} {nt:Nat} {r:AExit × Env} {ds:List Dfr} {H:Heap} {x:Exit} {a:Act} {w:World} (hle:μ.le μ') (h:EndD w0 μ' nt r ds H x a w):EndD w0 μ nt r ds H x a w:=by
 obtain ⟨μ2,h1,h2⟩:=h;exact ⟨μ2,Mu.le_trans hle h1,h2⟩
section
variable {c:Cfg} {call:Caller} {w0:Base} {nt:Nat} {draw:Draw} {kp:Nat → List Nat}
theorem ζai (hc:CallOk c.P call) (ops:Array Oper):∀ (os:List Oper) (i:Nat) (e:Env) (H:Heap) (ds:List Dfr) (μ:Mu) (a:Act) (w:World) (e':Env) (ds':List Dfr) (H':Heap),ops.toList.drop i = os →
  runOpsD c call nt os e H ds = .ok (e',ds') H' → HR w0 μ H w → ER μ nt e a.tmps → DR μ ds a.defers →
  wpOps c.P ops (EndD w0 μ nt (.normal,e') ds' H') (List.range' i os.length) a w
 | [],i,e,H,ds,μ,a,w,e',ds',H',hd,hr,hH,hE,hdf => by
  simp only [runOpsD] at hr;injection hr with hr1 hr2;injection hr1 with hr1 hr3;subst hr1 hr2 hr3;simp only [List.length_nil,List.range'_zero,wpOps];exact ⟨μ,Mu.le_refl _,hH,hE,hdf,rfl⟩
 | o :: os,i,e,H,ds,μ,a,w,e',ds',H',hd,hr,hH,hE,hdf => by
  have hi:ops[i]? = some o:=by
   rw [← Array.getElem?_toList];have:(ops.toList.drop i)[0]? = some o:=by rw [hd]; rfl
   rwa [List.getElem?_drop,Nat.add_zero] at this
  have hd':ops.toList.drop (i + 1) = os:=by
   rw [← List.drop_drop,hd]; rfl
  simp only [List.length_cons,List.range'_succ];rw [wpOps_cons];unfold wpOp;rw [hi];simp only;simp only [runOpsD] at hr;cases hq:(dstOk nt o.dst && o.guard.isNone) with
  | false => rw [hq] at hr; cases hr
  | true =>
   rw [hq,cond_true] at hr;obtain ⟨hdst,hg⟩:=Bool.and_eq_true_iff.1 hq;have hgn:o.guard = none:=by cases hgd:o.guard with | none => rfl | some g => rw [hgd] at hg; cases hg
   have hwant:=ζ8a (ops:=ops) hE (o:=o) (b:=true) (by unfold wantedE; rw [hgn]);rw [hwant];simp only [if_true];refine .inl ?_;unfold stepD1 at hr;cases hb:isDfr o.op with
   | false =>
    rw [hb,cond_false] at hr;cases hs:stepOp c call e H o.op with
    | stuck => rw [hs] at hr; cases hr
    | panic v H1 => rw [hs] at hr; cases hr
    | ok v H1 =>
     rw [hs] at hr;refine step_sim hc hH hE rfl (by rw [hs]; simp) ?_;rw [hs];intro μ' v' w' h1 h2 h3;have ih:=ζai hc ops os (i + 1) _ _ _ μ' (a.put o.dst v') w' e' ds' H' hd' hr h2 ((hE.up h1).put hdst h3) (by rw [ζ4o]; exact hdf.up h1);exact ζ2y.wpOps_mono _ (fun x a w hx => EndD.up h1 hx) ih
   | true =>
    rw [hb,cond_true] at hr;cases hop:o.op with
    | defer k =>
     rw [hop] at hr;simp only [dfrOp] at hr;split at hr
     ·rename_i d hd1;split at hd1
      ·rename_i g hcal;obtain ⟨vs,hvs,rfl⟩:=Option.map_eq_some_iff.1 hd1;simp only [Res.bind] at hr;have hv:=ζ9v hE hvs;have hrun:(execOp a.eval o).run c.P w = .ok (.defer { target:=.fn (.func g) #[],args:=(k.args.toList.map a.eval).toArray }) w:=by
        have hce:a.eval (.func g) = .func (.func g) #[] #[]:=rfl;simp [execOp,hop,resolve,hcal,hce,Deferred.ofValue];apply Array.ext';simp
       unfold Oper.wp;rw [hrun];refine ζai hc ops os (i + 1) _ _ _ μ _ w e' ds' H' hd' hr hH ?_ ?_
       ·exact hE.put (a:={ a with defers:=_ :: a.defers }) hdst VR.undef
       ·rw [ζ4o];exact ⟨⟨_,rfl,hv⟩,hdf⟩
      ·cases hd1
     ·cases hr
    | _ => rw [hop] at hb; cases hb
theorem ζmh (hc:CallOk c.P call) (hdr:DrawOk c.P nt draw) (hmix:c.P.follows .mixedOrders = true):∀ (code:Code) (e:Env) (H:Heap) (ds:List Dfr) (r:AExit × Env) (ds':List Dfr) (H':Heap),execD c call draw nt kp code e H ds = .ok (r,ds') H' → ∀ μ a w,HR w0 μ H w → ER μ nt e a.tmps → DR μ ds a.defers →
  code.wp c.P (EndD w0 μ nt r ds' H') a w:=by
 have plain:∀ (code:Code) (e:Env) (H:Heap) (ds:List Dfr) (r:AExit × Env) (ds':List Dfr) (H':Heap),(bif plainCode code then (exec c call draw nt kp code e H).bind fun r H' => .ok (r,ds) H' else (.stuck:Res ((AExit × Env) × List Dfr))) = .ok (r,ds') H' → ∀ μ a w,HR w0 μ H w → ER μ nt e a.tmps → DR μ ds a.defers →
   code.wp c.P (EndD w0 μ nt r ds' H') a w:=by
  intro code e H ds r ds' H' hr μ a w hH hE hd;cases hp:plainCode code with
  | false => rw [hp] at hr; cases hr
  | true =>
   rw [hp,cond_true] at hr;have hne:exec c call draw nt kp code e H ≠ .stuck:=fun h => by rw [h] at hr; cases hr
   refine wp_mono (exec_sim (ds:=a.defers) (w0:=w0) hc hdr hmix code (.inr hp) e H hne μ a w hH hE rfl) fun x a' w' ho => ?_;cases hx:exec c call draw nt kp code e H with
   | stuck => exact absurd hx hne
   | panic v H1 => rw [hx] at hr; cases hr
   | ok q H1 =>
    rw [hx] at hr ho;obtain ⟨y,e'⟩:=q;simp only [Res.bind] at hr;injection hr with h1 h2;injection h1 with h1 h3;subst h1 h2 h3;obtain ⟨μ',k1,k2,k3,k4,k5⟩:=ho;exact ⟨μ',k1,k2,k3,by rw [k4]; exact hd.up k1,k5⟩
 intro code
 induction code with
 | seq x y ihx ihy =>
  intro e H ds r ds' H' hr μ a w hH hE hd;simp only [execD] at hr;cases hp:plainCode (.seq x y) with
  | true =>
   refine plain (.seq x y) e H ds r ds' H' ?_ μ a w hH hE hd;rw [hp] at hr ⊢;exact hr
  | false =>
   rw [hp,cond_false] at hr;cases hx:execD c call draw nt kp x e H ds with
   | stuck => rw [hx] at hr; cases hr
   | panic v H1 => rw [hx] at hr; cases hr
   | ok q H1 =>
    rw [hx] at hr;obtain ⟨⟨z,e1⟩,ds1⟩:=q;refine wp_seq (wp_mono (ihx e H ds _ _ _ hx μ a w hH hE hd) fun q a' w' ⟨μ',h1,h2,h3,h4,h5⟩ => ?_);cases z with
    | normal =>
     simp only at h5;subst h5;simp only [Exit.then];exact wp_mono (ihy e1 H1 ds1 r ds' H' hr μ' a' w' h2 h3 h4) fun x a w => EndD.up h1
    | exit i =>
     simp only [Res.bind] at hr;injection hr with g1 g2;injection g1 with g1 g3;subst g1 g2 g3;simp only at h5;subst h5;exact ⟨μ',h1,h2,h3,h4,rfl⟩
    | ret =>
     simp only [Res.bind] at hr;injection hr with g1 g2;injection g1 with g1 g3;subst g1 g2 g3;simp only at h5;subst h5;exact ⟨μ',h1,h2,h3,h4,rfl⟩
 | cond x y z ihy ihz =>
  intro e H ds r ds' H' hr μ a w hH hE hd;simp only [execD] at hr;obtain ⟨t,hb,he⟩:=condV_ne (v:=opnd e x) (x:=execD c call draw nt kp y e H ds) (y:=execD c call draw nt kp z e H ds) (by rw [hr]; simp);rw [he] at hr;refine wp_cond (opnd_sim hE hb).bool_inv ?_;cases t with
  | true => exact ihy e H ds r ds' H' hr μ a w hH hE hd
  | false => exact ihz e H ds r ds' H' hr μ a w hH hE hd
 | region id ops d =>
  intro e H ds r ds' H' hr μ a w hH hE hd;cases d with
  | true => exact plain (.region id ops true) e H ds r ds' H' hr μ a w hH hE hd
  | false =>
   simp only [execD] at hr;cases hx:runOpsD c call nt ops.toList e H ds with
   | stuck => rw [hx] at hr; cases hr
   | panic v H1 => rw [hx] at hr; cases hr
   | ok q H1 =>
    rw [hx] at hr;obtain ⟨e1,ds1⟩:=q;simp only [Res.bind] at hr;injection hr with g1 g2;injection g1 with g1 g3;subst g1 g2 g3;refine wp_region ?_;have h:=ζai (w0:=w0) hc ops ops.toList 0 e H ds μ a w e1 ds1 H1 rfl hx hH hE hd;rw [Array.length_toList,← List.range_eq_range'] at h;exact ζ2y.wpOps_mono _ (fun x a w ⟨μ',h1,h2,h3,h4,h5⟩ => ⟨μ',h1,h2,h3.keep _,h4,h5⟩) h
 | skip => exact plain _
 | label l => exact plain _
 | exit i => exact plain _
 | ret => exact plain _
 | block i x _ => exact plain _
 | loop x _ => exact plain _
 | scope x _ => exact plain _
 | rangeFunc f ps x y _ _ => exact plain _
 | goto l => exact plain _
 | refuse m => exact plain _
end
theorem ζel {c:Cfg} (hit:∀ v H,c.it v H = none) {call:Caller} (hN:NamesOk c.P) (hmix:c.P.follows .mixedOrders = true) (hc:CallOk c.P call) {g:FuncId} {vs:List Value} {H H':Heap} {v:Value} (hr:bodyK c call g vs H = .ok v H') {w0:Base} {μ:Mu} {w:World} {vs':List Value} (hH:HR w0 μ H w) (ha:VRs μ vs vs') :
  (callFunc g vs'.toArray).run c.P w = .ok (.enter g vs'.toArray) w ∧ CallsD c.P g vs'.toArray .returning w fun e u' w' => u' = .returning ∧ ∃ μ' v',μ.le μ' ∧ HR w0 μ' H' w' ∧ e = .returned v':=by
 have hne:bodyK c call g vs H ≠ .stuck:=by rw [hr]; simp
 unfold bodyK at hne hr;cases hf:c.P.funcs[g]? with
 | none => rw [hf] at hne; exact absurd rfl hne
 | some fn =>
 rw [hf] at hne hr;dsimp only at hne hr;cases hb:fn.body with
 | none => rw [hb] at hne; exact absurd rfl hne
 | some code =>
 rw [hb] at hne hr;dsimp only at hne hr;cases hl:Nat.ble vs.length fn.ntmps with
 | false => rw [hl] at hne; exact absurd rfl hne
 | true =>
 rw [hl] at hne hr;simp only [cond_true,execK_eq,kDone_eq] at hne hr;have hl:=Nat.le_of_ble_eq_true hl;refine ⟨?_,?_⟩
 ·have hn:fn.name ≠ "runtime.NumGoroutine" := by simpa using hN g fn hf (by rw [hb]; rfl)
  simp [callFunc,hf,hn,hb]
 ·refine (callsD_of_wp hf hb (u:=.returning) (R:=fun e w' => ∃ μ' v',μ.le μ' ∧ HR w0 μ' H' w' ∧ e = .returned v') ?_).mono fun e u' w' h => h;have hx:=exec_sim (kp:=c.kp g) (w0:=w0) (ds:=[]) hc (draw_ok hc fn.ntmps) hmix code (.inl hit) (Env.of 0 vs) H (Res.bind_ne hne) μ { tmps:=vs'.toArray ++ Array.replicate (fn.ntmps - vs'.toArray.size) undef,defers:=[] } w hH (ER.start ha hl) rfl;refine wp_mono hx fun x a' w' ho => ?_;unfold Out at ho;split at ho
  ·rename_i y e' H1 hq;obtain ⟨μ',h1,h2,h3,h4,h5⟩:=ho;rw [hq] at hr;have fin:opt ((resultV c.P e' H1 fn.results.toList).map tupleV) H1 = .ok v H' → (a'.defers = [] ∧ ∃ v,(results fn a'.tmps).run c.P w' = .ok v w' ∧ ∃ μ' v',μ.le μ' ∧ HR w0 μ' H' w' ∧ Ending.returned v = .returned v'):=by
    intro hq;refine ⟨h4,?_⟩;cases hrv:resultV c.P e' H1 fn.results.toList with
    | none => rw [hrv] at hq; cases hq
    | some us =>
     rw [hrv] at hq;simp only [Option.map_some,opt] at hq;injection hq with q1 q2;subst q2;obtain ⟨us',e1,r1⟩:=ζ6p (c:=c) h2 h3 hrv;have:∃ u,(results fn a'.tmps).run c.P w' = .ok u w' ∧ VR μ' (tupleV us) u:=by
      refine ⟨_,?_,ζbi r1⟩;rw [ζ9z];simp only [Sem.run_bind,Array.mapM_eq_mapM_toList,Sem.run_map,e1,Result.andThen_ok,Sem.run_pure]
     obtain ⟨u,hu,_⟩:=this;exact ⟨u,hu,μ',u,h1,h2,rfl⟩
   cases y with
   | normal =>
    simp only at h5;subst h5;exact fin hr
   | exit i => cases hr
   | ret =>
    simp only at h5;subst h5;exact fin hr
  ·rename_i u H1 hq;rw [hq] at hr;cases hr
  ·exact ho.elim
theorem ζfz {c:Cfg} (hit:∀ v H,c.it v H = none) {call:Caller} (hN:NamesOk c.P) (hmix:c.P.follows .mixedOrders = true) (hc:CallOk c.P call) {fn:Func} {tmps:Array Value} {R:Ending → World → Prop} {w0:Base} {H2:Heap}:∀ (ds:List Dfr) (dd:List Deferred) (H:Heap) (u:Unit) (μ:Mu) (w:World),dfrRun c call ds H = .ok u H2 → HR w0 μ H w → DR μ ds dd →
  (∀ μ2 w2,μ.le μ2 → HR w0 μ2 H2 w2 → ∃ v,(results fn tmps).run c.P w2 = .ok v w2 ∧ R (.returned v) w2) → Leaves c.P fn tmps R dd .returning w
 | [],[],H,u,μ,w,hr,hH,_,hk => by
  simp only [dfrRun] at hr;injection hr with _ h2;subst h2;exact hk μ w (Mu.le_refl _) hH
 | (g,vs) :: ds,d :: dd,H,u,μ,w,hr,hH,⟨⟨vs',hd,hv⟩,hD⟩,hk => by
  subst hd;simp only [dfrRun] at hr;cases hb:bodyK c call g vs H with
  | stuck => rw [hb] at hr; cases hr
  | panic v H1 => rw [hb] at hr; cases hr
  | ok v H1 =>
   rw [hb] at hr;obtain ⟨k1,k2⟩:=ζel hit hN hmix hc hb hH hv;refine leaves_cons (f:=g) (args:=vs'.toArray) (by simp) (by simpa [invoke] using k1) (k2.mono fun e u' w' ⟨hu,μ',v',h1,h2,he⟩ => ?_);subst hu he;exact ζfz hit hN hmix hc ds dd H1 u μ' w' hr h2 (hD.up h1) fun μ2 w2 hle h => hk μ2 w2 (Mu.le_trans h1 hle) h
 | [],_ :: _,_,_,_,_,_,_,h,_ => h.elim
 | _ :: _,[],_,_,_,_,_,_,h,_ => h.elim
theorem defer_is {c:Cfg} (hit:∀ v H,c.it v H = none) (hN:NamesOk c.P) (hmix:c.P.follows .mixedOrders = true) {f:FuncId}:SpIs c.P f fun call args H => bodyD c call f args H:=by
 intro call hc args H hne;dsimp only at hne ⊢;unfold bodyD at hne ⊢;cases hf:c.P.funcs[f]? with
 | none => rw [hf] at hne; exact absurd rfl hne
 | some fn =>
 rw [hf] at hne;dsimp only at hne ⊢;cases hb:fn.body with
 | none => rw [hb] at hne; exact absurd rfl hne
 | some code =>
 rw [hb] at hne;dsimp only at hne ⊢;cases hl:Nat.ble args.length fn.ntmps with
 | false => rw [hl] at hne; exact absurd rfl hne
 | true =>
 rw [hl] at hne;simp only [cond_true] at hne ⊢;have hl:=Nat.le_of_ble_eq_true hl;refine ⟨⟨fn,rfl,by rw [hb]; rfl,hN f fn hf (by rw [hb]; rfl)⟩,fun w0 μ w args' hH hargs => ?_⟩;cases hx:execD c call (runDraw c call fn.ntmps) fn.ntmps (c.kp f) code (Env.of 0 args) H [] with
 | stuck => rw [hx] at hne; exact absurd rfl hne
 | panic v H1 => rw [hx] at hne; exact absurd rfl hne
 | ok r H1 =>
  obtain ⟨⟨y,e⟩,ds⟩:=r;rw [hx] at hne;refine calls_of_wp_defers hf hb ?_;refine wp_mono (ζmh (w0:=w0) hc (draw_ok hc fn.ntmps) hmix code (Env.of 0 args) H [] _ _ _ hx μ { tmps:=args'.toArray ++ Array.replicate (fn.ntmps - args'.toArray.size) undef,defers:=[] } w hH (ER.start hargs hl) trivial) fun x a' w' ⟨μ',h1,h2,h3,h4,h5⟩ => ?_;have key:∀ q:Res Value,q = ((dfrRun c call ds H1).bind fun _ H2 => opt ((resultV c.P e H2 fn.results.toList).map tupleV) H2) → q ≠ .stuck → Leaves c.P fn a'.tmps (fun e w' => Ended w0 μ q e w') a'.defers .returning w':=by
   intro q hq hqne;cases hd:dfrRun c call ds H1 with
   | stuck => rw [hd] at hq; subst hq; exact absurd rfl hqne
   | panic v H2 =>
    exfalso;have:∀ (ds:List Dfr) (H:Heap),dfrRun c call ds H ≠ .panic v H2:=by
     intro ds
     induction ds with
     | nil => intro H h; cases h
     | cons d ds ih =>
      obtain ⟨g,vs⟩:=d;intro H h;simp only [dfrRun] at h;split at h
      ·exact ih _ h
      ·cases h
    exact this _ _ hd
   | ok u H2 =>
    rw [hd] at hq;simp only [Res.bind] at hq;refine ζfz hit hN hmix hc ds a'.defers H1 u μ' w' hd h2 h4 fun μ2 w2 hle hH2 => ?_;cases hrv:resultV c.P e H2 fn.results.toList with
    | none => rw [hrv] at hq; subst hq; exact absurd rfl hqne
    | some us =>
     rw [hrv] at hq;simp only [Option.map_some,opt] at hq;subst hq;obtain ⟨us',e1,r1⟩:=ζ6p (c:=c) hH2 (h3.up hle) hrv;refine ⟨_,?_,μ2,_,Mu.le_trans h1 hle,hH2,ζbi r1,rfl⟩;rw [ζ9z];simp only [Sem.run_bind,Array.mapM_eq_mapM_toList,Sem.run_map,e1,Result.andThen_ok,Sem.run_pure]
  cases y with
  | exit i => exact absurd rfl hne
  | normal =>
   simp only at h5;subst h5;exact key _ rfl hne
  | ret =>
   simp only at h5;subst h5;exact key _ rfl hne
end Go.Sw
end
