/-
  The evaluator's operations, regions, code and calls.
-/
import Derived.Test.YtnaodjnimkndbaaSwA
namespace Go.Sw

inductive AExit where
  | normal
  | exit (id : Nat)
  | ret

abbrev Caller := FuncId → List Value → Heap → Res Value

/-- What the evaluator goes by: the program, which slots live on behind each region of each function, and the functions that are not read but told. -/
structure Cfg where
  P : Program
  kp : FuncId → Nat → List Nat
  sp : FuncId → Option (Caller → List Value → Heap → Res Value)

def wantVal (v : Value) (w : Bool) : Bool :=
  match v with
  | .bool b => b == w
  | _ => false

/-- Is an operation to be done? none: not known. -/
def wantedE (ops : Array Oper) (e : Env) (o : Oper) : Option Bool :=
  match o.guard with
  | none => some true
  | some (j, w) =>
    match (ops[j]?).bind (·.dst) with
    | some d => (e.get d).map fun v => wantVal v w
    | none => none

def putDst (e : Env) (d : Option Tmp) (v : Value) : Env :=
  match d with
  | some t => e.put t v
  | none => e

def dstOk (nt : Nat) (d : Option Tmp) : Bool :=
  match d with
  | some t => Nat.blt t nt
  | none => true

def condV {α : Type} (v : Option Value) (x y : Res α) : Res α :=
  match v with
  | some (.bool true) => x
  | some (.bool false) => y
  | _ => .stuck

def callV (call : Caller) (f : Value) (args : List Value) (H : Heap) : Res Value :=
  match f with
  | .func (.func g) first captured => call g (first.toList ++ args ++ captured.toList) H
  | _ => .stuck

/-- A method of a concrete type, by its name: of the type itself, with a receiver that is no pointer's pointee. -/
def methodV (P : Program) (t : TypeId) (name : String) : Option FuncId :=
  match P.info? t, P.underlying t with
  | some i, some u =>
    match i.methods.find? (·.name == name) with
    | some m =>
      match m.path.isEmpty, m.func, u with
      | true, some (_, _), .pointer _ => none
      | true, some (f, false), _ => some f
      | _, _, _ => none
    | none => none
  | _, _ => none

def opndO (e : Env) : Option Operand → Option (Option Value)
  | none => some none
  | some x => (opnd e x).map some

section
variable (P : Program)
def allocR (t : TypeId) (H : Heap) : Res Value :=
  match zeroT P t with
  | some z => (newBlk H z.cells.toList 1).bind fun a H' => .ok (.pointer (some a)) H'
  | none => .stuck
def boxR (v : Value) (H : Heap) : Res Value := bif storable v then (newBlk H v.cells.toList 1).bind fun a H' => .ok (.pointer (some a)) H' else .stuck
def buildR (t : TypeId) (ps : List (Nat × Value)) (H : Heap) : Res Value := (opt (partsV ps) H).bind fun ps H => opt (buildV P t ps) H
def buildSliceR (t : TypeId) (n : Nat) (ps : List (Nat × Value)) (H : Heap) : Res Value := (opt (partsV ps) H).bind fun ps H => buildSliceV P t n ps H
def loadR (t : TypeId) (a : Value) (H : Heap) : Res Value := opt (loadV P t a H) H
def storeR (t : TypeId) (a x : Value) (H : Heap) : Res Value := (storeV P t a x H).bind fun _ H' => .ok undef H'
def nilR (v : Value) (H : Heap) : Res Value :=
  match v with
  | .pointer (some a) => .ok (.pointer (some a)) H
  | .func (.via n p f true) xs ys => .ok (.func (.via n p f true) xs ys) H
  | _ => .stuck
def binR (op : BinOp) (t : TypeId) (x y : Value) (H : Heap) : Res Value := opt (binV P op t x y) H
def unR (op : UnOp) (x : Value) (H : Heap) : Res Value := opt (unV op x) H
def convR (src dst : TypeId) (x : Value) (H : Heap) : Res Value := bif (P.underlying src).isSome then opt (convV P dst x) H else .stuck
def ifaceR (t : TypeId) (x : Value) (H : Heap) : Res Value :=
  match P.underlying t with
  | some (.interface _) | none => .stuck
  | some _ => .ok (.iface t x) H
def sliceR (t : TypeId) (x : Value) (lo hi mx : Option Value) (H : Heap) : Res Value := opt (sliceV P t x lo hi mx H) H
def fieldAddrR (t : TypeId) (x : Value) (i : Nat) (H : Heap) : Res Value := opt (fieldAddrV P t x i) H
def fieldR (t : TypeId) (x : Value) (i : Nat) (H : Heap) : Res Value := opt (fieldV P t x i) H
def indexAddrR (t : TypeId) (x i : Value) (H : Heap) : Res Value := opt (indexAddrV P t x i) H
def indexR (t : TypeId) (x i : Value) (H : Heap) : Res Value := opt (indexV P t x i) H
def extractR (x : Value) (i : Nat) (H : Heap) : Res Value :=
  match x with
  | .tuple vs => opt vs[i]? H
  | _ => .stuck
def invokeR (call : Caller) (r : Value) (name : String) (args : List Value) (H : Heap) : Res Value :=
  match r with
  | .iface t v => (opt (methodV P t name) H).bind fun f H => call f (v :: args) H
  | _ => .stuck
def panicR (v : Value) (H : Heap) : Res Value :=
  match v with
  | .iface t v => .panic (.iface t v) H
  | _ => .stuck
end

def makeFuncR (fn : Fn) (xs ys : Array Value) (H : Heap) : Res Value :=
  match fn with
  | .func g => .ok (.func (.func g) xs ys) H
  | _ => .stuck

def stepOp (c : Cfg) (call : Caller) (e : Env) (H : Heap) (op : Op) : Res Value :=
  match op with
  | .move x | .assign x => opt (opnd e x) H
  | .pick b x y => condV (opnd e b) (opt (opnd e x) H) (opt (opnd e y) H)
  | .alloc t => allocR c.P t H
  | .box _ x => (opt (opnd e x) H).bind fun v H => boxR v H
  | .build t ps => (opt (opndsP e ps.toList) H).bind fun ps H => buildR c.P t ps H
  | .buildSlice t n ps => (opt (opndsP e ps.toList) H).bind fun ps H => buildSliceR c.P t n ps H
  | .load t a => (opt (opnd e a) H).bind fun a H => loadR c.P t a H
  | .store t a x => (opt (opnd e a) H).bind fun a H => (opt (opnd e x) H).bind fun x H => storeR c.P t a x H
  | .nilCheck x => (opt (opnd e x) H).bind fun v H => nilR v H
  | .binOp op t x y _ => (opt (opnd e x) H).bind fun x H => (opt (opnd e y) H).bind fun y H => binR c.P op t x y H
  | .unOp op _ x => (opt (opnd e x) H).bind fun x H => unR op x H
  | .convert src dst x => (opt (opnd e x) H).bind fun x H => convR c.P src dst x H
  | .makeInterface t x => (opt (opnd e x) H).bind fun x H => ifaceR c.P t x H
  | .makeFunc fn first captured => (opt (opnds e first.toList) H).bind fun xs H => (opt (opnds e captured.toList) H).bind fun ys H => makeFuncR fn xs.toArray ys.toArray H
  | .makeSlice t l k => (opt (opnd e l) H).bind fun l H => (opt (opnd e k) H).bind fun k H => makeSliceV c.P t l k H
  | .slice t x lo hi mx => (opt (opnd e x) H).bind fun x H => (opt (opndO e lo) H).bind fun lo H => (opt (opndO e hi) H).bind fun hi H => (opt (opndO e mx) H).bind fun mx H => sliceR c.P t x lo hi mx H
  | .fieldAddr t x i => (opt (opnd e x) H).bind fun x H => fieldAddrR c.P t x i H
  | .field t x i => (opt (opnd e x) H).bind fun x H => fieldR c.P t x i H
  | .indexAddr t x i => (opt (opnd e x) H).bind fun x H => (opt (opnd e i) H).bind fun i H => indexAddrR c.P t x i H
  | .index t x i => (opt (opnd e x) H).bind fun x H => (opt (opnd e i) H).bind fun i H => indexR c.P t x i H
  | .extract x i => (opt (opnd e x) H).bind fun x H => extractR x i H
  | .call k => (opt (opnds e k.args.toList) H).bind fun args H =>
    match k.callee with
    | .builtin b => builtinV c.P b k.argTypes.toList args H
    | .value f => (opt (opnd e f) H).bind fun f H => callV call f args H
    | .invoke r name => (opt (opnd e r) H).bind fun r H => invokeR c.P call r name args H
  | .panic x => (opt (opnd e x) H).bind fun v H => panicR v H
  | _ => .stuck

def stepO (c : Cfg) (call : Caller) (ops : Array Oper) (e : Env) (H : Heap) (o : Oper) : Res Value :=
  match wantedE ops e o with
  | none => .stuck
  | some b => cond b (stepOp c call e H o.op) (.ok undef H)

def runOps (c : Cfg) (call : Caller) (nt : Nat) (ops : Array Oper) : List Oper → Env → Heap → Res Env
  | [], e, H => .ok e H
  | o :: os, e, H => bif dstOk nt o.dst then (stepO c call ops e H o).bind fun v H' => runOps c call nt ops os (putDst e o.dst v) H' else .stuck

def loopN (body : Env → Heap → Res (AExit × Env)) : Nat → Env → Heap → Res (AExit × Env)
  | 0, _, _ => .stuck
  | n + 1, e, H => (body e H).bind fun r H' =>
    match r.1 with
    | .normal => loopN body n r.2 H'
    | x => .ok (x, r.2) H'

/-- As many rounds as any loop here has at most. -/
def loopFuel : Nat := 2 ^ 64

def seqK (r : AExit × Env) (H : Heap) (k : Env → Heap → Res (AExit × Env)) : Res (AExit × Env) :=
  match r.1 with
  | .normal => k r.2 H
  | x => .ok (x, r.2) H

def blockK (id : Nat) (r : AExit × Env) : AExit × Env :=
  match r.1 with
  | .exit i => if i == id then (.normal, r.2) else (.exit i, r.2)
  | x => (x, r.2)

/-- Behind a round of a loop: its own slots are kept. -/
def roundK (ks : List Nat) (r : AExit × Env) : AExit × Env :=
  match r.1 with
  | .normal => (.normal, Env.keep ks r.2)
  | x => (x, r.2)

/-- The first region of a piece; and the number under which a loop's own slots are told. -/
def firstReg : Code → Option Nat
  | .region id _ _ => some id
  | .seq a b => (firstReg a).or (firstReg b)
  | .cond _ a b => (firstReg a).or (firstReg b)
  | .block _ a => firstReg a
  | .loop a => firstReg a
  | _ => none
def headOf (a : Code) : Nat := (firstReg a).getD 0 + 1000000

def exec (c : Cfg) (call : Caller) (draw : Array Oper → Env → Heap → Res Env) (nt : Nat) (kp : Nat → List Nat) : Code → Env → Heap → Res (AExit × Env)
  | .skip, e, H => .ok (.normal, e) H
  | .label _, e, H => .ok (.normal, e) H
  | .region id ops d, e, H => (bif d then draw ops e H else runOps c call nt ops ops.toList e H).bind fun e' H' => .ok (.normal, Env.keep (kp id) e') H'
  | .seq a b, e, H => (exec c call draw nt kp a e H).bind fun r H' => seqK r H' (exec c call draw nt kp b)
  | .cond x a b, e, H => condV (opnd e x) (exec c call draw nt kp a e H) (exec c call draw nt kp b e H)
  | .block id a, e, H => (exec c call draw nt kp a e H).bind fun r H' => .ok (blockK id r) H'
  | .loop a, e, H => loopN (fun e H => (exec c call draw nt kp a e H).bind fun r H' => .ok (roundK (kp (headOf a)) r) H') loopFuel (Env.keep (kp (headOf a)) e) H
  | .exit id, e, H => .ok (.exit id, e) H
  | .ret, e, H => .ok (.ret, e) H
  | _, _, _ => .stuck

def resultV (P : Program) (e : Env) (H : Heap) : List ResultVar → Option (List Value)
  | [] => some []
  | .tmp t :: rs => (e.get t).bind fun v => (resultV P e H rs).map (v :: ·)
  | .cell a t :: rs => ((e.get a).bind fun a => loadV P t a H).bind fun v => (resultV P e H rs).map (v :: ·)

def tupleV : List Value → Value
  | [v] => v
  | vs => .tuple vs.toArray

def doneK (P : Program) (rs : List ResultVar) (r : AExit × Env) (H : Heap) : Res Value :=
  match r.1 with
  | .exit _ => .stuck
  | _ => opt ((resultV P r.2 H rs).map tupleV) H

end Go.Sw
