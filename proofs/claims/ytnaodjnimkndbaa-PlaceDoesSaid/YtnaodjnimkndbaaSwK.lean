/-
  The evaluator again, each piece with what comes behind it: what a function's body is, told without frames in between.
-/
import Derived.Test.YtnaodjnimkndbaaSwZ
namespace Go.Sw

theorem Res.bind_assoc {α β γ : Type} (r : Res α) (f : α → Heap → Res β) (g : β → Heap → Res γ) : (r.bind f).bind g = r.bind fun a H => (f a H).bind g := by
  cases r <;> rfl

def runOpsK {β : Type} (c : Cfg) (call : Caller) (nt : Nat) (ops : Array Oper) : List Oper → Env → Heap → (Env → Heap → Res β) → Res β
  | [], e, H, K => K e H
  | o :: os, e, H, K => bif dstOk nt o.dst then (stepO c call ops e H o).bind fun v H' => runOpsK c call nt ops os (putDst e o.dst v) H' K else .stuck

theorem runOpsK_eq {β : Type} {c : Cfg} {call : Caller} {nt : Nat} {ops : Array Oper} (K : Env → Heap → Res β) : ∀ (os : List Oper) (e : Env) (H : Heap),
    runOpsK c call nt ops os e H K = (runOps c call nt ops os e H).bind K
  | [], e, H => rfl
  | o :: os, e, H => by
    simp only [runOpsK, runOps]
    cases dstOk nt o.dst with
    | false => rfl
    | true =>
      simp only [cond_true, Res.bind_assoc]
      congr 1
      funext v H'
      exact runOpsK_eq K os _ _

theorem Res.bindN_bind {α β γ : Type} (r : Res α) (f : α → Heap → Res β) (g : β → Heap → Res γ) : (r.bindN f).bind g = r.bindN fun a H => (f a H).bind g := by
  cases r <;> rfl
theorem Res.bindP_bind {α β γ : Type} (r : Res α) (f : α → Heap → Res β) (k : Value → Heap → Res β) (g : β → Heap → Res γ) : (r.bindP f k).bind g = r.bindP (fun a H => (f a H).bind g) (fun a H => (k a H).bind g) := by
  cases r <;> rfl

theorem tailK_bind {β γ : Type} {c : Cfg} {call : Caller} {ops : Array Oper} {D : Nat → Bool} (f : β → Heap → Res γ) (K : List Rec → Res β) : ∀ (os : List Oper) (acc : List Rec) (i : Nat) (e : Env) (H : Heap),
    (tailK c call ops D os acc i e H K).bind f = tailK c call ops D os acc i e H fun rs => (K rs).bind f
  | [], acc, i, e, H => rfl
  | o :: os, acc, i, e, H => by
    simp only [tailK]
    cases D i with
    | true => simp only [cond_true]; exact tailK_bind f K os _ _ _ _
    | false =>
      simp only [cond_false, Res.bindN_bind]
      congr 1
      funext v H'
      exact tailK_bind f K os _ _ _ _

theorem drawK_bind {β γ : Type} {c : Cfg} {call : Caller} {ops : Array Oper} {ms : List Nat} {H0 : Heap} (f : β → Heap → Res γ) (K : List Rec → Heap → Res β) : ∀ (os : List Oper) (acc : List Rec) (i : Nat) (e : Env) (H : Heap),
    (drawK c call ops ms H0 os acc i e H K).bind f = drawK c call ops ms H0 os acc i e H fun rs H' => (K rs H').bind f
  | [], acc, i, e, H => rfl
  | o :: os, acc, i, e, H => by
    simp only [drawK]
    cases canThrow o.op with
    | true =>
      simp only [cond_true, Res.bindP_bind, tailK_bind]
      congr 1
      · funext v H'
        exact drawK_bind f K os _ _ _ _
      · funext v H'
        congr 1
        funext rs
        cases stable c call ops ms (dropM ms i) H0 rs 0 rs <;> rfl
    | false =>
      simp only [cond_false, Res.bindN_bind]
      congr 1
      funext v H'
      exact drawK_bind f K os _ _ _ _

theorem runDrawK_eq {β : Type} {c : Cfg} {call : Caller} {nt : Nat} (ops : Array Oper) (e : Env) (H : Heap) (K : Env → Heap → Res β) :
    runDrawK c call nt ops e H K = (runDraw c call nt ops e H).bind K := by
  unfold runDraw runDrawK
  cases staticOk ops (masksFrom [] ops.toList) nt 0 ops.toList with
  | false => rfl
  | true =>
    simp only [cond_true, drawK_bind]
    congr 1
    funext rs H'
    cases stable c call ops (masksFrom [] ops.toList) (fun _ => false) H rs 0 rs <;> rfl

abbrev Kont (β : Type) := AExit → Env → Heap → Res β

/-- What comes behind the first of two pieces; behind a block. -/
def kSeq {β : Type} (f : Env → Heap → Kont β → Res β) (K : Kont β) : Kont β := fun x e H =>
  match x with
  | .normal => f e H K
  | x => K x e H
def kBlock {β : Type} (id : Nat) (K : Kont β) : Kont β := fun x e H =>
  match x with
  | .exit i => bif i == id then K .normal e H else K (.exit i) e H
  | x => K x e H

def execK {β : Type} (c : Cfg) (call : Caller) (nt : Nat) (kp : Nat → List Nat) : Code → Env → Heap → Kont β → Res β
  | .skip, e, H, K => K .normal e H
  | .label _, e, H, K => K .normal e H
  | .region id ops d, e, H, K =>
    bif d then runDrawK c call nt ops e H fun e' H' => K .normal (Env.keep (kp id) e') H'
    else runOpsK c call nt ops ops.toList e H fun e' H' => K .normal (Env.keep (kp id) e') H'
  | .seq a b, e, H, K => execK c call nt kp a e H (kSeq (execK c call nt kp b) K)
  | .cond x a b, e, H, K => condV (opnd e x) (execK c call nt kp a e H K) (execK c call nt kp b e H K)
  | .block id a, e, H, K => execK c call nt kp a e H (kBlock id K)
  | .loop a, e, H, K => (loopN (fun e H => (exec c call (runDraw c call nt) nt kp a e H).bind fun r H' => .ok (roundK (kp (headOf a)) r) H') loopFuel (Env.keep (kp (headOf a)) e) H).bind fun r H' => K r.1 r.2 H'
  | .exit id, e, H, K => K (.exit id) e H
  | .ret, e, H, K => K .ret e H
  | _, _, _, _ => .stuck

theorem condV_bind {α β : Type} (v : Option Value) (x y : Res α) (f : α → Heap → Res β) : (condV v x y).bind f = condV v (x.bind f) (y.bind f) := by
  unfold condV
  split <;> rfl

theorem execK_eq {β : Type} {c : Cfg} {call : Caller} {nt : Nat} {kp : Nat → List Nat} : ∀ (code : Code) (e : Env) (H : Heap) (K : Kont β),
    execK c call nt kp code e H K = (exec c call (runDraw c call nt) nt kp code e H).bind fun r H' => K r.1 r.2 H'
  | .skip, e, H, K => rfl
  | .label _, e, H, K => rfl
  | .region id ops d, e, H, K => by
    simp only [execK, exec]
    cases d with
    | false => simp only [cond_false, runOpsK_eq, Res.bind_assoc]; rfl
    | true => simp only [cond_true, runDrawK_eq, Res.bind_assoc]; rfl
  | .seq a b, e, H, K => by
    simp only [execK, exec, execK_eq a, Res.bind_assoc]
    congr 1
    funext r H'
    obtain ⟨x, e'⟩ := r
    cases x with
    | normal => simp only [kSeq, seqK, execK_eq b]
    | exit i => rfl
    | ret => rfl
  | .cond x a b, e, H, K => by simp only [execK, exec, condV_bind, execK_eq a, execK_eq b]
  | .block id a, e, H, K => by
    simp only [execK, exec, execK_eq a, Res.bind_assoc]
    congr 1
    funext r H'
    obtain ⟨x, e'⟩ := r
    cases x with
    | normal => rfl
    | exit i =>
      simp only [kBlock, blockK, Res.bind]
      cases h : i == id <;> simp only [cond_true, cond_false, Bool.false_eq_true, if_true, if_false]
    | ret => rfl
  | .loop a, e, H, K => rfl
  | .exit _, e, H, K => rfl
  | .ret, e, H, K => rfl
  | .scope _, e, H, K => rfl
  | .rangeFunc _ _ _ _, e, H, K => rfl
  | .goto _, e, H, K => rfl
  | .refuse _, e, H, K => rfl

def resK (P : Program) : List ResultVar → Env → Heap → (List Value → Heap → Res Value) → Res Value
  | [], _, H, K => K [] H
  | .tmp t :: rs, e, H, K => (opt (e.get t) H).bind fun v H => resK P rs e H fun vs H => K (v :: vs) H
  | .cell a t :: rs, e, H, K => (opt (e.get a) H).bind fun a H => (loadR P t a H).bind fun v H => resK P rs e H fun vs H => K (v :: vs) H

theorem resK_eq (P : Program) : ∀ (rs : List ResultVar) (e : Env) (H : Heap) (K : List Value → Heap → Res Value), resK P rs e H K = (opt (resultV P e H rs) H).bind K
  | [], e, H, K => rfl
  | .tmp t :: rs, e, H, K => by
    simp only [resK, resultV]
    cases e.get t with
    | none => rfl
    | some v =>
      simp only [opt, Res.bind, Option.bind_some, resK_eq P rs]
      cases resultV P e H rs <;> rfl
  | .cell a t :: rs, e, H, K => by
    simp only [resK, resultV]
    cases e.get a with
    | none => rfl
    | some v =>
      simp only [opt, Res.bind, Option.bind_some, loadR]
      cases loadV P t v H with
      | none => rfl
      | some u =>
        simp only [resK_eq P rs, Option.bind_some, opt]
        cases resultV P e H rs <;> rfl

def kDone (P : Program) (rs : List ResultVar) : Kont Value := fun x e H =>
  match x with
  | .exit _ => .stuck
  | _ => resK P rs e H fun vs H => .ok (tupleV vs) H

theorem kDone_eq (P : Program) (rs : List ResultVar) (x : AExit) (e : Env) (H : Heap) : kDone P rs x e H = doneK P rs (x, e) H := by
  unfold kDone doneK
  cases x with
  | exit i => rfl
  | normal => simp only [resK_eq]; cases resultV P e H rs <;> rfl
  | ret => simp only [resK_eq]; cases resultV P e H rs <;> rfl

/-- A function's body, and what its end is. -/
def bodyK (c : Cfg) (call : Caller) (f : FuncId) (args : List Value) (H : Heap) : Res Value :=
  match c.P.funcs[f]? with
  | some fn =>
    match fn.body with
    | some code => bif Nat.ble args.length fn.ntmps then execK c call fn.ntmps (c.kp f) code (Env.of 0 args) H (kDone c.P fn.results.toList) else .stuck
    | none => .stuck
  | none => .stuck

/-- The draw that is taken. -/
def drawOf (c : Cfg) : Caller → Nat → Draw := fun call nt => runDraw c call nt
abbrev run (c : Cfg) (n : Nat) : Caller := callF c (drawOf c) n

theorem run_succ {c : Cfg} {n : Nat} {f : FuncId} {args : List Value} {H : Heap} (h : c.sp f = none) : run c (n + 1) f args H = bodyK c (run c n) f args H := by
  simp only [run, callF, h, bodyK]
  cases c.P.funcs[f]? with
  | none => rfl
  | some fn =>
    dsimp only
    cases fn.body with
    | none => rfl
    | some code =>
      dsimp only
      cases Nat.ble args.length fn.ntmps with
      | false => rfl
      | true =>
        simp only [cond_true, execK_eq, drawOf]
        congr 1
        funext r H'
        rw [kDone_eq]

theorem run_sp {c : Cfg} {n : Nat} {f : FuncId} {args : List Value} {H : Heap} {s : Caller → List Value → Heap → Res Value} (h : c.sp f = some s) : run c (n + 1) f args H = s (run c n) args H := by
  simp only [run, callF, h]

/-- Pieces of a function's code, by the way to them: 0 the first of two, the one piece within, or where the condition holds; 1 the other. -/
def Code.part (c : Code) : List Nat → Code
  | [] => c
  | i :: p => match c with
    | .seq a b => bif i == 0 then Code.part a p else Code.part b p
    | .cond _ a b => bif i == 0 then Code.part a p else Code.part b p
    | .block _ a => Code.part a p
    | .loop a => Code.part a p
    | _ => .skip
def partOf (P : Program) (f : FuncId) (p : List Nat) : Code :=
  match P.funcs[f]? with
  | some fn => match fn.body with
    | some code => Code.part code p
    | none => .skip
  | none => .skip
def ntOf (P : Program) (f : FuncId) : Nat :=
  match P.funcs[f]? with
  | some fn => fn.ntmps
  | none => 0
def resOf (P : Program) (f : FuncId) : List ResultVar :=
  match P.funcs[f]? with
  | some fn => fn.results.toList
  | none => []

/-- A loop's body. -/
def loopB (c : Cfg) (call : Caller) (f : FuncId) (p : List Nat) : Env → Heap → Res (AExit × Env) := fun e H =>
  (exec c call (runDraw c call (ntOf c.P f)) (ntOf c.P f) (c.kp f) (partOf c.P f p) e H).bind fun r H' => .ok (roundK (c.kp f (headOf (partOf c.P f p))) r) H'
/-- How a round of a loop ends. -/
def kRound (ks : List Nat) : Kont (AExit × Env) := fun x e H =>
  match x with
  | .normal => .ok (.normal, Env.keep ks e) H
  | x => .ok (x, e) H
/-- The slots of a loop of its own. -/
def ownOf (c : Cfg) (f : FuncId) (p : List Nat) : List Nat := c.kp f (headOf (partOf c.P f p))
/-- A piece of a function, and what comes behind it. -/
def pieceK {β : Type} (c : Cfg) (call : Caller) (f : FuncId) (p : List Nat) : Env → Heap → Kont β → Res β :=
  execK c call (ntOf c.P f) (c.kp f) (partOf c.P f p)
theorem loopB_eq {c : Cfg} {call : Caller} {f : FuncId} {p : List Nat} (e : Env) (H : Heap) : loopB c call f p e H = pieceK c call f p e H (kRound (ownOf c f p)) := by
  unfold loopB pieceK ownOf
  rw [execK_eq]
  congr 1
  funext r H'
  obtain ⟨x, e'⟩ := r
  cases x <;> rfl
end Go.Sw
