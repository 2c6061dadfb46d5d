/-
  A speaking function, run by itself, answers true.
-/
import Derived.Test.YtanfippcmdialaaSwLib4
import Derived.JoinedOf
section
namespace Go.Sw
open Go.RowKit
def Base.start (w:World):Base:=⟨w,fun k => k < w.heap.size,fun k => k < w.heap.size,fun _ => True⟩
def Mu.start (w:World):Mu:=⟨fun _ => none,fun k => w.heap[k]?⟩
theorem HR.empty (w:World):HR (Base.start w) (Mu.start w) Heap.empty w:=by
 constructor
 ·intro b m h; cases h
 ·intro b k h; simp [Heap.get,Heap.empty] at h
 ·intro b b' k k' m m' h; simp [Heap.get,Heap.empty] at h
 ·exact ⟨rfl,rfl,rfl,Nat.le_refl _,fun _ _ => rfl,fun _ h => h,fun _ h => h⟩
 ·exact ⟨fun _ _ h => h,fun _ _ _ _ => trivial,fun k o b x m _ h => by simp [Heap.get,Heap.empty] at h⟩
theorem Stays.below {w w':World} (h:Stays (Base.start w) w'):Below w.heap.size w w':=⟨h.os,h.tape,h.output,h.size,fun k hk => h.block k hk⟩
def constSp (v:Value) (_:Caller) (args:List Value) (H:Heap):Res Value :=
 match args with
 | [] => .ok v H
 | _ => .stuck
theorem law_calls {P:Program} {call:Caller} (hc:CallOk P call) {f:FuncId} {args args':List Value} {H H':Heap} {μ:Mu} {w:World} (hH:HR (Base.start w) μ H w) (hargs:VRs μ args args') (hrun:call f args H = .ok (.bool true) H') :
  Calls P f args'.toArray w fun e w' => e = .returned (.bool true) ∧ Below w.heap.size w w':=by
 obtain ⟨_,h2⟩:=hc f args H (by rw [hrun]; simp);refine (h2 (Base.start w) μ w args' hH hargs).mono fun e w' he => ?_;rw [hrun] at he;obtain ⟨μ',v',h3,h4,h5,rfl⟩:=he;cases h5;exact ⟨rfl,h4.below.below⟩
end Go.Sw
end
section
namespace Go.Sw
theorem Res.bind_assoc {α β γ:Type} (r:Res α) (f:α → Heap → Res β) (g:β → Heap → Res γ):(r.bind f).bind g = r.bind fun a H => (f a H).bind g:=by
 cases r <;> rfl
def runOpsK {β:Type} (c:Cfg) (call:Caller) (nt:Nat) (ops:Array Oper):List Oper → Env → Heap → (Env → Heap → Res β) → Res β
 | [],e,H,K => K e H
 | o :: os,e,H,K => bif dstOk nt o.dst then (stepO c call ops e H o).bind fun v H' => runOpsK c call nt ops os (putDst e o.dst v) H' K else .stuck
theorem runOpsK_eq {β:Type} {c:Cfg} {call:Caller} {nt:Nat} {ops:Array Oper} (K:Env → Heap → Res β):∀ (os:List Oper) (e:Env) (H:Heap),
  runOpsK c call nt ops os e H K = (runOps c call nt ops os e H).bind K
 | [],e,H => rfl
 | o :: os,e,H => by
  simp only [runOpsK,runOps];cases dstOk nt o.dst with
  | false => rfl
  | true =>
   simp only [cond_true,Res.bind_assoc];congr 1;funext v H';exact runOpsK_eq K os _ _
theorem Res.bindN_bind {α β γ:Type} (r:Res α) (f:α → Heap → Res β) (g:β → Heap → Res γ):(r.bindN f).bind g = r.bindN fun a H => (f a H).bind g:=by
 cases r <;> rfl
theorem Res.bindP_bind {α β γ:Type} (r:Res α) (f:α → Heap → Res β) (k:Value → Heap → Res β) (g:β → Heap → Res γ):(r.bindP f k).bind g = r.bindP (fun a H => (f a H).bind g) (fun a H => (k a H).bind g):=by
 cases r <;> rfl
theorem tailK_bind {β γ:Type} {c:Cfg} {call:Caller} {ops:Array Oper} {D:Nat → Bool} (f:β → Heap → Res γ) (K:List Rec → Res β):∀ (os:List Oper) (acc:List Rec) (i:Nat) (e:Env) (H:Heap),
  (tailK c call ops D os acc i e H K).bind f = tailK c call ops D os acc i e H fun rs => (K rs).bind f
 | [],acc,i,e,H => rfl
 | o :: os,acc,i,e,H => by
  simp only [tailK];cases D i with
  | true => simp only [cond_true]; exact tailK_bind f K os _ _ _ _
  | false =>
   simp only [cond_false,Res.bindN_bind];congr 1;funext v H';exact tailK_bind f K os _ _ _ _
theorem drawK_bind {β γ:Type} {c:Cfg} {call:Caller} {ops:Array Oper} {ms:List Nat} {H0:Heap} (f:β → Heap → Res γ) (K:List Rec → Heap → Res β):∀ (os:List Oper) (acc:List Rec) (i:Nat) (e:Env) (H:Heap),
  (drawK c call ops ms H0 os acc i e H K).bind f = drawK c call ops ms H0 os acc i e H fun rs H' => (K rs H').bind f
 | [],acc,i,e,H => rfl
 | o :: os,acc,i,e,H => by
  simp only [drawK];cases canThrow o.op with
  | true =>
   simp only [cond_true,Res.bindP_bind,tailK_bind];congr 1
   ·funext v H';exact drawK_bind f K os _ _ _ _
   ·funext v H';congr 1;funext rs;cases stable c call ops ms (dropM ms i) H0 rs 0 rs <;> rfl
  | false =>
   simp only [cond_false,Res.bindN_bind];congr 1;funext v H';exact drawK_bind f K os _ _ _ _
theorem runDrawK_eq {β:Type} {c:Cfg} {call:Caller} {nt:Nat} (ops:Array Oper) (e:Env) (H:Heap) (K:Env → Heap → Res β) :
  runDrawK c call nt ops e H K = (runDraw c call nt ops e H).bind K:=by
 unfold runDraw runDrawK;cases staticOk ops (masksFrom [] ops.toList) nt 0 ops.toList with
 | false => rfl
 | true =>
  simp only [cond_true,drawK_bind];congr 1;funext rs H';cases stable c call ops (masksFrom [] ops.toList) (fun _ => false) H rs 0 rs <;> rfl
abbrev Kont (β:Type):=AExit → Env → Heap → Res β
def kSeq {β:Type} (f:Env → Heap → Kont β → Res β) (K:Kont β):Kont β:=fun x e H =>
 match x with
 | .normal => f e H K
 | x => K x e H
def kBlock {β:Type} (id:Nat) (K:Kont β):Kont β:=fun x e H =>
 match x with
 | .exit i => bif i == id then K .normal e H else K (.exit i) e H
 | x => K x e H
def execK {β:Type} (c:Cfg) (call:Caller) (nt:Nat) (kp:Nat → List Nat):Code → Env → Heap → Kont β → Res β
 | .skip,e,H,K => K .normal e H
 | .label _,e,H,K => K .normal e H
 | .region id ops d,e,H,K =>
  bif d then runDrawK c call nt ops e H fun e' H' => K .normal (Env.keep (kp id) e') H'
  else runOpsK c call nt ops ops.toList e H fun e' H' => K .normal (Env.keep (kp id) e') H'
 | .seq a b,e,H,K => execK c call nt kp a e H (kSeq (execK c call nt kp b) K)
 | .cond x a b,e,H,K => condV (opnd e x) (execK c call nt kp a e H K) (execK c call nt kp b e H K)
 | .block id a,e,H,K => execK c call nt kp a e H (kBlock id K)
 | .loop a,e,H,K => (loopN (fun e H => (exec c call (runDraw c call nt) nt kp a e H).bind fun r H' => .ok (roundK (kp (headOf a)) r) H') loopFuel (Env.keep (kp (headOf a)) e) H).bind fun r H' => K r.1 r.2 H'
 | .exit id,e,H,K => K (.exit id) e H
 | .ret,e,H,K => K .ret e H
 | .rangeFunc f ps a b,e,H,K => ((opt ((opnd e f).bind fun v => c.it v H) H).bind fun l H =>
  bif plainCode a && plainCode b && ps.toList.all (fun p => Nat.blt p nt) then
   rangeN (fun e H => (exec c call (runDraw c call nt) nt kp a e H).bind fun r H' => assignK r H' fun e H => (exec c call (runDraw c call nt) nt kp b e H).bind fun r H' => .ok (dropE r) H') ps.toList (Env.keep (kp (headOf b)) e) l H
  else .stuck).bind fun r H' => K r.1 r.2 H'
 | _,_,_,_ => .stuck
theorem condV_bind {α β:Type} (v:Option Value) (x y:Res α) (f:α → Heap → Res β):(condV v x y).bind f = condV v (x.bind f) (y.bind f):=by
 unfold condV;split <;> rfl
theorem execK_eq {β:Type} {c:Cfg} {call:Caller} {nt:Nat} {kp:Nat → List Nat}:∀ (code:Code) (e:Env) (H:Heap) (K:Kont β),
  execK c call nt kp code e H K = (exec c call (runDraw c call nt) nt kp code e H).bind fun r H' => K r.1 r.2 H'
 | .skip,e,H,K => rfl
 | .label _,e,H,K => rfl
 | .region id ops d,e,H,K => by
  simp only [execK,exec];cases d with
  | false => simp only [cond_false,runOpsK_eq,Res.bind_assoc]; rfl
  | true => simp only [cond_true,runDrawK_eq,Res.bind_assoc]; rfl
 | .seq a b,e,H,K => by
  simp only [execK,exec,execK_eq a,Res.bind_assoc];congr 1;funext r H';obtain ⟨x,e'⟩:=r;cases x with
  | normal => simp only [kSeq,seqK,execK_eq b]
  | exit i => rfl
  | ret => rfl
 | .cond x a b,e,H,K => by simp only [execK,exec,condV_bind,execK_eq a,execK_eq b]
 | .block id a,e,H,K => by
  simp only [execK,exec,execK_eq a,Res.bind_assoc];congr 1;funext r H';obtain ⟨x,e'⟩:=r;cases x with
  | normal => rfl
  | exit i =>
   simp only [kBlock,blockK,Res.bind];cases h:i == id <;> simp only [cond_true,cond_false,Bool.false_eq_true,if_true,if_false]
  | ret => rfl
 | .loop a,e,H,K => rfl
 | .exit _,e,H,K => rfl
 | .ret,e,H,K => rfl
 | .scope _,e,H,K => rfl
 | .rangeFunc _ _ _ _,e,H,K => rfl
 | .goto _,e,H,K => rfl
 | .refuse _,e,H,K => rfl
def resK (P:Program):List ResultVar → Env → Heap → (List Value → Heap → Res Value) → Res Value
 | [],_,H,K => K [] H
 | .tmp t :: rs,e,H,K => (opt (e.get t) H).bind fun v H => resK P rs e H fun vs H => K (v :: vs) H
 | .cell a t :: rs,e,H,K => (opt (e.get a) H).bind fun a H => (loadR P t a H).bind fun v H => resK P rs e H fun vs H => K (v :: vs) H
theorem resK_eq (P:Program):∀ (rs:List ResultVar) (e:Env) (H:Heap) (K:List Value → Heap → Res Value),resK P rs e H K = (opt (resultV P e H rs) H).bind K
 | [],e,H,K => rfl
 | .tmp t :: rs,e,H,K => by
  simp only [resK,resultV];cases e.get t with
  | none => rfl
  | some v =>
   simp only [opt,Res.bind,Option.bind_some,resK_eq P rs];cases resultV P e H rs <;> rfl
 | .cell a t :: rs,e,H,K => by
  simp only [resK,resultV];cases e.get a with
  | none => rfl
  | some v =>
   simp only [opt,Res.bind,Option.bind_some,loadR];cases loadV P t v H with
   | none => rfl
   | some u =>
    simp only [resK_eq P rs,Option.bind_some,opt];cases resultV P e H rs <;> rfl
def kDone (P:Program) (rs:List ResultVar):Kont Value:=fun x e H =>
 match x with
 | .exit _ => .stuck
 | _ => resK P rs e H fun vs H => .ok (tupleV vs) H
theorem kDone_eq (P:Program) (rs:List ResultVar) (x:AExit) (e:Env) (H:Heap):kDone P rs x e H = doneK P rs (x,e) H:=by
 unfold kDone doneK;cases x with
 | exit i => rfl
 | normal => simp only [resK_eq]; cases resultV P e H rs <;> rfl
 | ret => simp only [resK_eq]; cases resultV P e H rs <;> rfl
def bodyK (c:Cfg) (call:Caller) (f:FuncId) (args:List Value) (H:Heap):Res Value :=
 match c.P.funcs[f]? with
 | some fn =>
  match fn.body with
  | some code => bif Nat.ble args.length fn.ntmps then execK c call fn.ntmps (c.kp f) code (Env.of 0 args) H (kDone c.P fn.results.toList) else .stuck
  | none => .stuck
 | none => .stuck
def drawOf (c:Cfg):Caller → Nat → Draw:=fun call nt => runDraw c call nt
abbrev run (c:Cfg) (n:Nat):Caller:=callF c (drawOf c) n
def Code.part (c:Code):List Nat → Code
 | [] => c
 | i :: p => match c with
  | .seq a b => bif i == 0 then Code.part a p else Code.part b p
  | .cond _ a b => bif i == 0 then Code.part a p else Code.part b p
  | .rangeFunc _ _ a b => bif i == 0 then Code.part a p else Code.part b p
  | .block _ a => Code.part a p
  | .loop a => Code.part a p
  | _ => .skip
def partOf (P:Program) (f:FuncId) (p:List Nat):Code :=
 match P.funcs[f]? with
 | some fn => match fn.body with
  | some code => Code.part code p
  | none => .skip
 | none => .skip
def ntOf (P:Program) (f:FuncId):Nat :=
 match P.funcs[f]? with
 | some fn => fn.ntmps
 | none => 0
def resOf (P:Program) (f:FuncId):List ResultVar :=
 match P.funcs[f]? with
 | some fn => fn.results.toList
 | none => []
def loopB (c:Cfg) (call:Caller) (f:FuncId) (p:List Nat):Env → Heap → Res (AExit × Env):=fun e H =>
 (exec c call (runDraw c call (ntOf c.P f)) (ntOf c.P f) (c.kp f) (partOf c.P f p) e H).bind fun r H' => .ok (roundK (c.kp f (headOf (partOf c.P f p))) r) H'
def kRound (ks:List Nat):Kont (AExit × Env):=fun x e H =>
 match x with
 | .normal => .ok (.normal,Env.keep ks e) H
 | x => .ok (x,e) H
def ownOf (c:Cfg) (f:FuncId) (p:List Nat):List Nat:=c.kp f (headOf (partOf c.P f p))
def pieceK {β:Type} (c:Cfg) (call:Caller) (f:FuncId) (p:List Nat):Env → Heap → Kont β → Res β :=
 execK c call (ntOf c.P f) (c.kp f) (partOf c.P f p)
theorem loopB_eq {c:Cfg} {call:Caller} {f:FuncId} {p:List Nat} (e:Env) (H:Heap):loopB c call f p e H = pieceK c call f p e H (kRound (ownOf c f p)):=by
 unfold loopB pieceK ownOf;rw [execK_eq];congr 1;funext r H';obtain ⟨x,e'⟩:=r;cases x <;> rfl
end Go.Sw
end
section
namespace Go.Sw
def chkR {α:Type} (b:Bool) (r:Res α):Res α:=bif b then r else .stuck
def Res.bindT {α β:Type} (r:Res α) (g:Value → Heap → Res β) (f:α → Heap → Res β):Res β:=r.bindP f g
@[congr] theorem Res.bindT_congr {α β:Type} {r r':Res α} {g:Value → Heap → Res β} {f:α → Heap → Res β} {n:Nat} (h:r = r') (_hn:∀ _:Unit,1 + 1 = n):r.bindT g f = r'.bindT g f:=by rw [h]
@[simp] theorem Res.bindT_ok {α β:Type} (a:α) (H:Heap) (g:Value → Heap → Res β) (f:α → Heap → Res β):(Res.ok a H).bindT g f = f a H:=rfl
@[simp] theorem Res.bindT_panic {α β:Type} (v:Value) (H:Heap) (g:Value → Heap → Res β) (f:α → Heap → Res β):(Res.panic v H:Res α).bindT g f = g v H:=rfl
@[congr] theorem Res.bind_congr {α β:Type} {r r':Res α} {f:α → Heap → Res β} {n:Nat} (h:r = r') (_hn:∀ _:Unit,1 + 1 = n):r.bind f = r'.bind f:=by rw [h]
@[congr] theorem Res.bindN_congr {α β:Type} {r r':Res α} {f:α → Heap → Res β} {n:Nat} (h:r = r') (_hn:∀ _:Unit,1 + 1 = n):r.bindN f = r'.bindN f:=by rw [h]
@[congr] theorem condV_congr {α:Type} {v v':Option Value} {x y:Res α} {n:Nat} (h:v = v') (_hn:∀ _:Unit,1 + 1 = n):condV v x y = condV v' x y:=by rw [h]
@[congr] theorem chkR_congr {α:Type} {b b':Bool} {r:Res α} {n:Nat} (h:b = b') (_hn:∀ _:Unit,1 + 1 = n):chkR b r = chkR b' r:=by rw [h]
@[simp] theorem chkR_true {α:Type} (r:Res α):chkR true r = r:=rfl
@[simp] theorem Res.bind_ok {α β:Type} (a:α) (H:Heap) (f:α → Heap → Res β):(Res.ok a H).bind f = f a H:=rfl
@[simp] theorem Res.bind_panic {α β:Type} (v:Value) (H:Heap) (f:α → Heap → Res β):(Res.panic v H).bind f = .panic v H:=rfl
@[simp] theorem Res.bindN_ok {α β:Type} (a:α) (H:Heap) (f:α → Heap → Res β):(Res.ok a H).bindN f = f a H:=rfl
@[simp] theorem condV_true {α:Type} (x y:Res α):condV (some (.bool true)) x y = x:=rfl
@[simp] theorem condV_false {α:Type} (x y:Res α):condV (some (.bool false)) x y = y:=rfl
@[simp] theorem optR_some {α:Type} (a:α) (H:Heap):opt (some a) H = .ok a H:=rfl
@[simp] theorem wantVal_bool (b w:Bool):wantVal (.bool b) w = (b == w):=rfl
section
variable (P:Program) (t:TypeId) (H:Heap) (k:IntKind) (a b:Int)
@[simp] theorem bin_add:binR P .add t (.int k a) (.int k b) H = .ok (.int k (k.wrap (a + b))) H:=by simp [binR,binV,intBin]
@[simp] theorem bin_sub:binR P .sub t (.int k a) (.int k b) H = .ok (.int k (k.wrap (a - b))) H:=by simp [binR,binV,intBin]
@[simp] theorem bin_mul:binR P .mul t (.int k a) (.int k b) H = .ok (.int k (k.wrap (a * b))) H:=by simp [binR,binV,intBin]
@[simp] theorem bin_lss:binR P .lss t (.int k a) (.int k b) H = .ok (.bool (decide (a < b))) H:=by simp [binR,binV,intBin]
@[simp] theorem bin_leq:binR P .leq t (.int k a) (.int k b) H = .ok (.bool (decide (a ≤ b))) H:=by simp [binR,binV,intBin]
@[simp] theorem bin_gtr:binR P .gtr t (.int k a) (.int k b) H = .ok (.bool (decide (a > b))) H:=by simp [binR,binV,intBin]
@[simp] theorem bin_geq:binR P .geq t (.int k a) (.int k b) H = .ok (.bool (decide (a ≥ b))) H:=by simp [binR,binV,intBin]
@[simp] theorem bin_eql:binR P .eql t (.int k a) (.int k b) H = .ok (.bool (a == b)) H:=by simp [binR,binV,intBin]
@[simp] theorem bin_neq:binR P .neq t (.int k a) (.int k b) H = .ok (.bool (a != b)) H:=by simp [binR,binV,intBin]
theorem bin_quo (h:b ≠ 0):binR P .quo t (.int k a) (.int k b) H = .ok (.int k (k.wrap (a.tdiv b))) H:=by simp [binR,binV,intBin,h]
theorem bin_rem (h:b ≠ 0):binR P .rem t (.int k a) (.int k b) H = .ok (.int k (a.tmod b)) H:=by simp [binR,binV,intBin,h]
@[simp] theorem un_not (x:Bool):unR .not (.bool x) H = .ok (.bool !x) H:=rfl
@[simp] theorem un_neg:unR .neg (.int k a) H = .ok (.int k (k.wrap (0 - a))) H:=rfl
@[simp] theorem min_int (ts:List TypeId) (k':IntKind):builtinV P .min ts [.int k a,.int k' b] H = .ok (.int k (if b < a then b else a)) H:=rfl
@[simp] theorem max_int (ts:List TypeId) (k':IntKind):builtinV P .max ts [.int k a,.int k' b] H = .ok (.int k (if b > a then b else a)) H:=rfl
end
def cvK (k:IntKind) (x:Value) (H:Heap):Res Value :=
 match x with
 | .int _ n => .ok (.int k (k.wrap n)) H
 | _ => .stuck
theorem convR_int {P:Program} {s d:TypeId} {k:IntKind} (h1:(P.underlying s).isSome = true) (h2:P.underlying d = some (.int k)) (x:Value) (H:Heap):convR P s d x H = cvK k x H:=by
 have hs:strV P s d x = none:=by
  unfold strV;rw [h2];cases P.underlying s with
  | none => rfl
  | some t => cases t <;> first | rfl | (cases x <;> rfl)
 unfold convR convV cvK;rw [h1,h2,hs];cases x <;> rfl
def csR (x:Value) (H:Heap):Res Value :=
 match x with
 | .func (.via n _ _ false) cs _ => opt (if n ≤ cs.size then (bytesV (cs.extract 0 n).toList).map fun ns => .string (signsV ns) else none) H
 | _ => .stuck
theorem convR_str {P:Program} {s d e:TypeId} (h1:P.underlying s = some (.slice e)) (h2:P.underlying e = some (.int .u8)) (h3:P.underlying d = some .string) (x:Value) (H:Heap):convR P s d x H = csR x H:=by
 have hc:convV P d x = none:=by
  unfold convV;rw [h3]
 unfold convR;rw [hc,h1];unfold strV csR;rw [h1,h3];cases x with
 | func fn cs ys =>
  cases fn with
  | via n p g t =>
   cases t with
   | false => dsimp only; rw [h2]; rfl
   | true => rfl
  | _ => rfl
 | _ => rfl
@[simp] theorem cvK_int (k k':IntKind) (n:Int) (H:Heap):cvK k (.int k' n) H = .ok (.int k (k.wrap n)) H:=rfl
theorem wrap_i64 {n:Int} (h1:-9223372036854775808 ≤ n) (h2:n ≤ 9223372036854775807):IntKind.i64.wrap n = n:=by
 unfold IntKind.wrap;simp [IntKind.signed,IntKind.bits];omega
theorem wrap_i32 {n:Int} (h1:-2147483648 ≤ n) (h2:n ≤ 2147483647):IntKind.i32.wrap n = n:=by
 unfold IntKind.wrap;simp [IntKind.signed,IntKind.bits];omega
end Go.Sw
end
section
namespace Go.Sw
open Go.RowKit
def namesB (P:Program):Bool:=P.funcs.toList.all fun fn => fn.body.isNone || !(fn.name == "runtime.NumGoroutine")
theorem NamesOk.of {P:Program} (h:namesB P = true):NamesOk P:=by
 intro f fn hf hb;unfold namesB at h;rw [List.all_eq_true] at h;have hm:fn ∈ P.funcs.toList:=List.mem_of_getElem? (i:=f) (by rw [Array.getElem?_toList]; exact hf);have:=h fn hm;cases hbb:fn.body with
 | none => rw [hbb] at hb; cases hb
 | some code => rw [hbb] at this; simpa using this
abbrev Sp:=Caller → List Value → Heap → Res Value
def oneOf (f:Nat):List Nat → Bool
 | [] => false
 | x :: xs => bif Nat.beq x f then true else oneOf f xs
def stuckSp:Caller → List Value → Heap → Res Value:=fun _ _ _ => .stuck
def spOf (speaks:List Nat) (more:FuncId → Option Sp) (k f:Nat):Option Sp :=
 bif oneOf f speaks then (bif Nat.beq f k then some (constSp (.bool true)) else some stuckSp) else more f
def SpIs (P:Program) (f:FuncId) (s:Caller → List Value → Heap → Res Value):Prop :=
 ∀ call,CallOk P call → ∀ args H,s call args H ≠ .stuck →
  (∃ fn,P.funcs[f]? = some fn ∧ fn.body.isSome = true ∧ (fn.name == "runtime.NumGoroutine") = false) ∧
  ∀ w0 μ w args',HR w0 μ H w → VRs μ args args' → Calls P f args'.toArray w fun e w' => Ended w0 μ (s call args H) e w'
theorem SpIs.stuck (P:Program) (f:FuncId):SpIs P f stuckSp:=fun _ _ _ _ h => absurd rfl h
theorem SpOk.none {P:Program} {kp:FuncId → Nat → List Nat} {speaks:List Nat} {more:FuncId → Option Sp} {k:Nat} (hk:oneOf k speaks = false) (hs:∀ f s,more f = some s → SpIs P f s):SpOk { P:=P,kp:=kp,sp:=spOf speaks more k }:=by
 refine ⟨fun _ _ => rfl,?_⟩;intro f s' hf;simp only [spOf] at hf;cases h1:oneOf f speaks with
 | true =>
  rw [h1,cond_true] at hf;cases h2:Nat.beq f k with
  | true =>
   have:=Nat.eq_of_beq_eq_true h2;subst this;rw [h1] at hk; cases hk
  | false =>
   rw [h2,cond_false,Option.some.injEq] at hf;subst hf;exact SpIs.stuck P f
 | false =>
  rw [h1,cond_false] at hf;exact hs f s' hf
end Go.Sw
end
section
namespace Go.Sw
def splitN:List Nat → List (List Nat)
 | [] => [[]]
 | c :: r => bif Nat.beq c 32 then [] :: splitN r else
  match splitN r with
  | w :: ws => (c :: w) :: ws
  | [] => [[c]]
theorem char_space:∀ n:Nat,n < 128 → (Char.ofNat n = Char.ofNat 32 ↔ n = 32):=by decide
theorem wordsSigns_space (r:List Char):wordsSigns (Char.ofNat 32 :: r) = [] :: wordsSigns r:=rfl
theorem wordsSigns_other {c:Char} (h:c ≠ Char.ofNat 32) (r:List Char):wordsSigns (c :: r) = match wordsSigns r with | w :: ws => (c :: w) :: ws | [] => [[c]]:=by
 rw [wordsSigns];all_goals first | exact h | rfl
theorem words_split:∀ l:List Nat,(l.all fun n => Nat.blt n 128) = true → wordsSigns (l.map Char.ofNat) = (splitN l).map (List.map Char.ofNat)
 | [],_ => rfl
 | c :: r,h => by
  simp only [List.all_cons,Bool.and_eq_true] at h;have hc:c < 128:=Nat.le_of_ble_eq_true h.1;have ih:=words_split r h.2;rw [List.map_cons,splitN];cases hb:Nat.beq c 32 with
  | true =>
   have:=Nat.eq_of_beq_eq_true hb;subst this;rw [wordsSigns_space,ih]; rfl
  | false =>
   have hne:c ≠ 32:=Nat.ne_of_beq_eq_false hb;rw [wordsSigns_other (fun e => hne ((char_space c hc).1 e)),ih,cond_false];cases splitN r <;> rfl
theorem head_words {P:Program} {codes:List Nat} {ws:List (List Nat)} (h1:P.initOrder = String.ofList (codes.map Char.ofNat)) (h2:(codes.all fun n => Nat.blt n 128) = true) (h3:splitN codes = ws) :
  wordsSigns P.initOrder.toList = ws.map (List.map Char.ofNat):=by
 rw [h1,String.toList_ofList,words_split codes h2,h3]
theorem mayEnter_of {P:Program} {ws rest:List (List Char)} {c:List Char} (h:wordsSigns P.initOrder.toList = ws) (h1:behindMainWord ws = c :: rest) (h2:stripLifts liftWords (c :: rest) = ([],c :: rest)) (hc:c = "cut".toList)
  (hl:P.laysLater = false) (hr:P.bearsReflect = false) (hd:P.doorFits [] = true):P.mayEnter = true:=by
 unfold Program.mayEnter;rw [h,h1];dsimp only;rw [h2,hl,hr,hd,hc];simp
theorem liftsFinal_of {P:Program} {ws rest:List (List Char)} {c:List Char} (h:wordsSigns P.initOrder.toList = ws) (h1:behindMainWord ws = c :: rest) (h2:stripLifts liftWords (c :: rest) = ([],c :: rest)) (hc:c = "cut".toList):P.liftsFinal = false:=by
 unfold Program.liftsFinal Program.headLifts;rw [h,h1];dsimp only;rw [h2,hc];simp
theorem make_of {P:Program} {ws rest:List (List Char)} {c:List Char} (h:wordsSigns P.initOrder.toList = ws) (h1:behindMainWord ws = c :: rest) (hc:c = "cut".toList):P.make = some .cut:=by
 unfold Program.make;rw [h,h1];dsimp only;rw [hc];simp
theorem joined_of {P:Program} {f:FuncId} {fn:Func} {s:ChangeSpec} {c:OpenClaim} (hm:P.mayEnter = true) (hl:P.liftsFinal = c.lifted) (hk:P.make = some c.make)
  (hA:(c.wf (OpenSpec.ofChange s) && laidOutB P && mapsRowed P && fn.params.all (P.readableRec ·) && namedTie P c.named s.vars && (c.stops == []) && (P.stops == []) && (c.knobs == []) && (P.stopKnobs == [])) = true)
  (hB1:(c.inPlace == P.inPlace f) = true) (hB2:(c.unfollowed == P.unfollowed f) = true) (hB3:(c.recurses == P.recurses f) = true) (hB4:(c.named == P.varsNamed f) = true)
  (hC1:((c.maps == (fn.params.toList ++ s.plain.varTypes P).any (P.mapsRec ·)) && (c.ifaces == (fn.params.toList ++ s.plain.varTypes P).any (P.ifacesRec ·)) && (c.mapsOut == P.mapsAmong fn.resultTypes.toList)) = true)
  (hC2:((c.loops == (fn.params.toList ++ s.plain.varTypes P).any (P.loopsFrom ·)) && (c.wideKeys == (fn.params.toList ++ s.plain.varTypes P ++ fn.resultTypes.toList).any (P.wideKeysFrom ·))) = true)
  (hC3:(s.vars.all (P.varReadable ·) && fn.resultTypes.all (fun t => P.readableRec t && decide (t < P.types.size)) && (c.ifacesOut == fn.resultTypes.toList.any (P.ifacesRec ·)) && (c.loopsOut == fn.resultTypes.toList.any (P.loopsFrom ·))) = true)
  (hC4:((c.plainKeys == P.plainKeys) && c.shortTexts.isNone && P.stopsHeard) = true)
  (hD:((c.kinds == (if c.domain.isEmpty then [] else fn.params.toList.map fun t => match P.underlying t with | some (.int k) => some k | _ => none)) && (c.pinned == c.pinnedBy) &&
   (c.veiled == (fn.params.toList ++ s.plain.varTypes P ++ fn.resultTypes.toList).any (P.veiledRec ·)) && c.veiledFits P fn.params.toList (fn.params.toList ++ s.plain.varTypes P ++ fn.resultTypes.toList)) = true) :
  joinedFacts P f fn s c = true:=by
 have hk':(P.make == some c.make) = true:=by rw [hk]; simp
 have hl':(c.lifted == P.liftsFinal) = true:=by rw [hl]; simp
 simp only [Bool.and_eq_true] at hA hC1 hC2 hC3 hC4 hD;unfold joinedFacts;simp only [Bool.and_eq_true]
 exact ⟨⟨⟨⟨⟨⟨⟨⟨⟨⟨⟨⟨⟨⟨⟨⟨⟨⟨⟨⟨⟨⟨⟨⟨⟨⟨⟨⟨⟨⟨⟨hA.1.1.1.1.1.1.1.1,hA.1.1.1.1.1.1.1.2⟩,hA.1.1.1.1.1.1.2⟩,hA.1.1.1.1.1.2⟩,hA.1.1.1.1.2⟩,hA.1.1.1.2⟩,hA.1.1.2⟩,hA.1.2⟩,hA.2⟩,hB1⟩,hB2⟩,hB3⟩,hB4⟩,hC1.1.1⟩,hC1.1.2⟩,hC1.2⟩,hC2.1⟩,hC2.2⟩,
  hC3.1.1.1⟩,hC3.1.1.2⟩,hC3.1.2⟩,hC3.2⟩,hC4.1.1⟩,hC4.1.2⟩,hC4.2⟩,hm⟩,hl'⟩,hk'⟩,hD.1.1.1⟩,hD.1.1.2⟩,hD.1.2⟩,hD.2⟩
end Go.Sw
end
section
namespace Go.Sw
def Keeps (S:List Nat) (H H':Heap):Prop:=H.n ≤ H'.n ∧ ∀ b,b < H.n → b ∉ S → H'.get b = H.get b
theorem Keeps.refl (S:List Nat) (H:Heap):Keeps S H H:=⟨Nat.le_refl _,fun _ _ _ => rfl⟩
theorem Keeps.trans {S:List Nat} {a b c:Heap} (h:Keeps S a b) (k:Keeps S b c):Keeps S a c :=
 ⟨Nat.le_trans h.1 k.1,fun x hx hs => (k.2 x (Nat.lt_of_lt_of_le hx h.1) hs).trans (h.2 x hx hs)⟩
theorem Keeps.get {S:List Nat} {H H':Heap} (h:Keeps S H H') {b:Nat} {k:Blk} (hb:H.get b = some k) (hs:b ∉ S):H'.get b = some k:=by
 rw [h.2 b (Heap.get_lt hb) hs]; exact hb
theorem Keeps.push (H:Heap) (k:Blk):Keeps [] H (H.push k):=by
 refine ⟨by rw [Heap.n_push]; omega,fun b hb _ => ?_⟩;rw [Heap.get_push,if_neg (by omega)]
theorem Keeps.set {H:Heap} {b:Nat} {k:Blk} (h:H.get b = some k) (x:Option Blk):Keeps [b] H (H.set b x):=by
 refine ⟨by rw [Heap.n_set]; omega,fun c hc hs => ?_⟩;rw [Heap.get_set h,if_neg (by simpa using hs)]
theorem Keeps.fresh {S T:List Nat} {a b c:Heap} (h:Keeps S a b) (k:Keeps T b c) (ht:∀ x,x ∈ T → x ∈ S ∨ a.n ≤ x):Keeps S a c:=by
 refine ⟨Nat.le_trans h.1 k.1,fun x hx hs => ?_⟩;rw [k.2 x (Nat.lt_of_lt_of_le hx h.1) (fun hxt => ?_),h.2 x hx hs];rcases ht x hxt with h1 | h1
 ·exact hs h1
 ·omega
theorem Keeps.weaken {S T:List Nat} {a b:Heap} (h:Keeps S a b) (ht:∀ x,x ∈ S → x ∈ T ∨ a.n ≤ x):Keeps T a b:=Keeps.fresh (Keeps.refl T a) h ht
end Go.Sw
end
