/-
  Regions that draw their order: the evaluator takes the text's order, and asks that no other order could tell the difference.
-/
import Derived.Test.YtnaodjnimkndbaaSwX
namespace Go.Sw
open Go.RowKit

/-- Operations that write, or make memory, or call. -/
def isLoud : Op → Bool
  | .alloc _ | .box _ _ | .store _ _ _ | .makeSlice _ _ _ | .panic _ => true
  | .buildSlice _ n _ => !(Nat.beq n 0)
  | .call k => match k.callee with
    | .builtin .len | .builtin .min | .builtin .max => false
    | _ => true
  | _ => false

/-- New memory and nothing else: done early or late it is the same. -/
def isMk (o : Oper) : Bool :=
  o.guard.isNone && match o.op with
  | .alloc _ | .box _ _ => true
  | .buildSlice _ n _ => !(Nat.beq n 0)
  | _ => false

/-- Operations that hang on memory. -/
def isRead : Op → Bool
  | .load _ _ | .slice _ _ _ _ _ => true
  | _ => false

def maskOf (ms : List Nat) (o : Oper) : List Edge → Nat
  | [] => 0
  | e :: es => if Region.binds .any e then (2 ^ e.on) ||| ((ms.getD e.on 0) ||| maskOf ms o es) else maskOf ms o es

def masksFrom (acc : List Nat) : List Oper → List Nat
  | [] => acc
  | o :: os => masksFrom (acc ++ [maskOf acc o o.after.toList]) os

def pairsOk (ops : Array Oper) (m : Nat) (o : Oper) : Nat → List Oper → Bool
  | _, [] => true
  | i, x :: xs => ((Oper.apart ops x o && !(isLoud x.op && isLoud o.op && !isMk o)) || m.testBit i) && pairsOk ops m o (i + 1) xs

/-- All that are loud, and stand ahead of a place, are in the mask. -/
def loudIn (m : Nat) (k : Nat) : Nat → List Oper → Bool
  | _, [] => true
  | i, x :: xs => (!(isLoud x.op && Nat.blt i k) || m.testBit i) && loudIn m k (i + 1) xs

/-- What hangs on new memory hangs on all that is loud ahead of it. -/
def mkOk (m : Nat) (all : List Oper) : Nat → List Oper → Bool
  | _, [] => true
  | k, x :: xs => (!(isMk x && m.testBit k) || loudIn m k 0 all) && mkOk m all (k + 1) xs

def staticOk (ops : Array Oper) (ms : List Nat) (nt : Nat) : Nat → List Oper → Bool
  | _, [] => true
  | j, o :: os => dstOk nt o.dst && (o.after.toList.all fun e => !Region.binds .any e || Nat.blt e.on j) && (ms.getD j 0 == maskOf ms o o.after.toList) &&
    pairsOk ops (ms.getD j 0) o 0 (ops.toList.take j) && mkOk (ms.getD j 0) ops.toList 0 ops.toList && staticOk ops ms nt (j + 1) os

structure Rec where
  e : Env
  H : Heap
  v : Value
  H' : Heap
  o : Oper

def finalEnv (e : Env) : List Rec → Env
  | [] => e
  | r :: rs => finalEnv (putDst e r.o.dst r.v) rs

mutual
/-- The same value, of those kinds that are compared here. -/
def veq : Value → Value → Bool
  | .bool a, .bool b => a == b
  | .int k a, .int l b => k == l && a == b
  | .pointer none, .pointer none => true
  | .pointer (some a), .pointer (some b) => a == b
  | .slice none a b, .slice none c d => a == c && b == d
  | .slice (some x) a b, .slice (some y) c d => x == y && a == c && b == d
  | .map none, .map none => true
  | .map (some a), .map (some b) => a == b
  | .nilFunc, .nilFunc => true
  | .nilIface, .nilIface => true
  | .func f ⟨xs⟩ ⟨ys⟩, .func g ⟨us⟩ ⟨vs⟩ => f == g && (veqs xs us && veqs ys vs)
  | .iface t a, .iface u b => t == u && veq a b
  | .agg ⟨xs⟩, .agg ⟨ys⟩ => veqs xs ys
  | .tuple ⟨xs⟩, .tuple ⟨ys⟩ => veqs xs ys
  | _, _ => false
def veqs : List Value → List Value → Bool
  | [], [] => true
  | a :: x, b :: y => veq a b && veqs x y
  | _, _ => false
end

mutual
theorem veq_eq : ∀ {a b : Value}, veq a b = true → a = b
  | .bool a, .bool b, h => by simp [veq] at h; rw [h]
  | .int k a, .int l b, h => by simp [veq] at h; rw [h.1, h.2]
  | .pointer none, .pointer none, _ => rfl
  | .pointer (some a), .pointer (some b), h => by simp [veq] at h; rw [h]
  | .slice none a b, .slice none c d, h => by simp [veq] at h; rw [h.1, h.2]
  | .slice (some x) a b, .slice (some y) c d, h => by simp [veq] at h; rw [h.1.1, h.1.2, h.2]
  | .map none, .map none, _ => rfl
  | .map (some a), .map (some b), h => by simp [veq] at h; rw [h]
  | .nilFunc, .nilFunc, _ => rfl
  | .nilIface, .nilIface, _ => rfl
  | .func f ⟨xs⟩ ⟨ys⟩, .func g ⟨us⟩ ⟨vs⟩, h => by
    simp only [veq, Bool.and_eq_true, beq_iff_eq] at h
    rw [h.1, veqs_eq h.2.1, veqs_eq h.2.2]
  | .iface t a, .iface u b, h => by
    simp only [veq, Bool.and_eq_true, beq_iff_eq] at h
    rw [h.1, veq_eq h.2]
  | .agg ⟨xs⟩, .agg ⟨ys⟩, h => by
    simp only [veq] at h
    rw [veqs_eq h]
  | .tuple ⟨xs⟩, .tuple ⟨ys⟩, h => by
    simp only [veq] at h
    rw [veqs_eq h]
theorem veqs_eq : ∀ {a b : List Value}, veqs a b = true → a = b
  | [], [], _ => rfl
  | [], _ :: _, h => by simp [veqs] at h
  | _ :: _, [], h => by simp [veqs] at h
  | a :: x, b :: y, h => by
    simp only [veqs, Bool.and_eq_true] at h
    rw [veq_eq h.1, veqs_eq h.2]
end

def okVal (r : Res Value) (v : Value) : Bool :=
  match r with
  | .ok u _ => veq u v
  | _ => false

/-- May the operation of that mask and place be done when just the loud ones up to l (none: none of them) have been done? -/
def admits (ms : List Nat) (j : Nat) (l : Option Nat) : Nat → List Rec → Bool
  | _, [] => true
  | i, r :: rs => (!isLoud r.o.op ||
      (match l with
       | none => !(ms.getD j 0).testBit i
       | some l => (!(ms.getD j 0).testBit i || Nat.ble i l) && (!Nat.ble i l || !(ms.getD i 0).testBit j))) && admits ms j l (i + 1) rs

/-- Is there a loud one from the first place on, ahead of the second? -/
def anyLoud (lo hi : Nat) : Nat → List Rec → Bool
  | _, [] => false
  | i, r :: rs => (isLoud r.o.op && Nat.ble lo i && Nat.blt i hi) || anyLoud lo hi (i + 1) rs

def stagesOk (c : Cfg) (call : Caller) (ops : Array Oper) (ms : List Nat) (D : Nat → Bool) (all : List Rec) (j : Nat) (r : Rec) : Nat → List Rec → Bool
  | _, [] => true
  | l, s :: ss => (!(isLoud s.o.op && !D l && admits ms j (some l) 0 all && !(Nat.blt l j && !anyLoud (l + 1) j 0 all)) || okVal (stepO c call ops r.e s.H' r.o) r.v) && stagesOk c call ops ms D all j r (l + 1) ss

/-- D: what isn't done. -/
def stable (c : Cfg) (call : Caller) (ops : Array Oper) (ms : List Nat) (D : Nat → Bool) (H0 : Heap) (all : List Rec) : Nat → List Rec → Bool
  | _, [] => true
  | j, r :: rs => (D j || !isRead r.o.op || ((!(admits ms j none 0 all && anyLoud 0 j 0 all) || okVal (stepO c call ops r.e H0 r.o) r.v) && stagesOk c call ops ms D all j r 0 all)) && stable c call ops ms D H0 all (j + 1) rs

/-- A throw goes another way. -/
def Res.bindP {α β : Type} (r : Res α) (f : α → Heap → Res β) (g : Value → Heap → Res β) : Res β :=
  match r with
  | .ok a H => f a H
  | .panic v H => g v H
  | .stuck => .stuck
/-- Behind a result; a throw is none of those that are told. -/
def Res.bindN {α β : Type} (r : Res α) (f : α → Heap → Res β) : Res β :=
  match r with
  | .ok a H => f a H
  | _ => .stuck

/-- Operations that may throw. -/
def canThrow : Op → Bool
  | .call k => match k.callee with
    | .builtin _ => false
    | _ => true
  | _ => false
/-- The one that throws, and all that hangs on it. -/
def dropM (ms : List Nat) (p i : Nat) : Bool := Nat.beq i p || (ms.getD i 0).testBit p

/-- The rest, but for what is dropped. -/
def tailK {β : Type} (c : Cfg) (call : Caller) (ops : Array Oper) (D : Nat → Bool) : List Oper → List Rec → Nat → Env → Heap → (List Rec → Res β) → Res β
  | [], acc, _, _, _, K => K acc
  | o :: os, acc, i, e, H, K => bif D i then tailK c call ops D os (acc ++ [⟨e, H, undef, H, o⟩]) (i + 1) e H K
    else (stepO c call ops e H o).bindN fun v H' => tailK c call ops D os (acc ++ [⟨e, H, v, H', o⟩]) (i + 1) (putDst e o.dst v) H' K

/-- All operations in the text's order. -/
def drawK {β : Type} (c : Cfg) (call : Caller) (ops : Array Oper) (ms : List Nat) (H0 : Heap) : List Oper → List Rec → Nat → Env → Heap → (List Rec → Heap → Res β) → Res β
  | [], acc, _, _, H, K => K acc H
  | o :: os, acc, i, e, H, K =>
    bif canThrow o.op then
      (stepO c call ops e H o).bindP (fun v H' => drawK c call ops ms H0 os (acc ++ [⟨e, H, v, H', o⟩]) (i + 1) (putDst e o.dst v) H' K)
        (fun v H' => tailK c call ops (dropM ms i) os (acc ++ [⟨e, H, undef, H, o⟩]) (i + 1) e H fun rs =>
          bif stable c call ops ms (dropM ms i) H0 rs 0 rs then .panic v H' else .stuck)
    else (stepO c call ops e H o).bindN fun v H' => drawK c call ops ms H0 os (acc ++ [⟨e, H, v, H', o⟩]) (i + 1) (putDst e o.dst v) H' K

def runDrawK {β : Type} (c : Cfg) (call : Caller) (nt : Nat) (ops : Array Oper) (e : Env) (H : Heap) (K : Env → Heap → Res β) : Res β :=
  bif staticOk ops (masksFrom [] ops.toList) nt 0 ops.toList then
    drawK c call ops (masksFrom [] ops.toList) H ops.toList [] 0 e H fun rs H' =>
      bif stable c call ops (masksFrom [] ops.toList) (fun _ => false) H rs 0 rs then K (finalEnv e rs) H' else .stuck
  else .stuck

def runDraw (c : Cfg) (call : Caller) (nt : Nat) : Draw := fun ops e H => runDrawK c call nt ops e H Res.ok

/-! ### the frame and the heap behind any set of operations -/

def envF (L : Nat → Bool) (e : Env) : Nat → List Rec → Env
  | _, [] => e
  | i, r :: rs => envF L (bif L i then putDst e r.o.dst r.v else e) (i + 1) rs

def heapF (L : Nat → Bool) (H : Heap) : Nat → List Rec → Heap
  | _, [] => H
  | i, r :: rs => heapF L (bif L i && isLoud r.o.op then r.H' else H) (i + 1) rs

theorem envF_none {L : Nat → Bool} (e : Env) : ∀ (i : Nat) (rs : List Rec), (∀ x, i ≤ x → L x = false) → envF L e i rs = e
  | _, [], _ => rfl
  | i, r :: rs, h => by simp only [envF, h i (Nat.le_refl _)]; exact envF_none e (i + 1) rs fun x hx => h x (by omega)

theorem heapF_none {L : Nat → Bool} (H : Heap) : ∀ (i : Nat) (rs : List Rec), (∀ x, i ≤ x → L x = false) → heapF L H i rs = H
  | _, [], _ => rfl
  | i, r :: rs, h => by simp only [heapF, h i (Nat.le_refl _)]; exact heapF_none H (i + 1) rs fun x hx => h x (by omega)

section
variable {c : Cfg} {call : Caller} {ops : Array Oper}

theorem quiet_same {e : Env} {H H' : Heap} {op : Op} {v : Value} (hq : isLoud op = false) (h : stepOp c call e H op = .ok v H') : H' = H := by
  have ho : ∀ {x : Option Value} {H H' : Heap} {v : Value}, opt x H = .ok v H' → H' = H := by
    intro x H H' v h
    cases x <;> simp [opt] at h
    exact h.2.symm
  have hb : ∀ {α : Type} {x : Option α} {f : α → Heap → Res Value} {H H' : Heap} {v : Value}, (opt x H).bind f = .ok v H' → ∃ y, x = some y ∧ f y H = .ok v H' := by
    intro α x f H H' v h
    cases x with
    | none => cases h
    | some y => exact ⟨y, rfl, h⟩
  cases op <;> simp only [isLoud, Bool.true_eq_false] at hq <;> simp only [stepOp, buildR, loadR, nilR, binR, unR, convR, ifaceR, sliceR, fieldAddrR, fieldR, indexAddrR, indexR, extractR, invokeR] at h
  case move => exact ho h
  case assign => exact ho h
  case pick b x y =>
    unfold condV at h
    split at h
    · exact ho h
    · exact ho h
    · cases h
  case build => obtain ⟨y, _, h⟩ := hb h; obtain ⟨y, _, h⟩ := hb h; exact ho h
  case load => obtain ⟨y, _, h⟩ := hb h; exact ho h
  case buildSlice t n ps =>
    obtain ⟨y, _, h⟩ := hb h
    unfold buildSliceR at h
    obtain ⟨y, _, h⟩ := hb h
    have hn : n = 0 := by
      cases n with
      | zero => rfl
      | succ n => simp at hq
    subst hn
    unfold buildSliceV at h
    repeat' split at h
    all_goals first | (cases h; done) | (simp only [show Nat.beq 0 0 = true from rfl, cond_true] at h; injection h with _ h; exact h.symm)
  case nilCheck =>
    obtain ⟨y, _, h⟩ := hb h
    split at h
    · injection h with _ h; exact h.symm
    · injection h with _ h; exact h.symm
    · cases h
  case binOp => obtain ⟨y, _, h⟩ := hb h; obtain ⟨y, _, h⟩ := hb h; exact ho h
  case unOp => obtain ⟨y, _, h⟩ := hb h; exact ho h
  case convert src dst x =>
    obtain ⟨y, _, h⟩ := hb h
    cases hs : (c.P.underlying src).isSome with
    | false => rw [hs] at h; cases h
    | true => rw [hs] at h; exact ho h
  case makeInterface =>
    obtain ⟨y, _, h⟩ := hb h
    split at h
    · cases h
    · cases h
    · injection h with _ h; exact h.symm
  case makeFunc =>
    obtain ⟨y, _, h⟩ := hb h
    obtain ⟨y, _, h⟩ := hb h
    unfold makeFuncR at h
    split at h
    · injection h with _ h; exact h.symm
    · cases h
  case slice => obtain ⟨y, _, h⟩ := hb h; obtain ⟨y, _, h⟩ := hb h; obtain ⟨y, _, h⟩ := hb h; obtain ⟨y, _, h⟩ := hb h; exact ho h
  case fieldAddr => obtain ⟨y, _, h⟩ := hb h; exact ho h
  case field => obtain ⟨y, _, h⟩ := hb h; exact ho h
  case indexAddr => obtain ⟨y, _, h⟩ := hb h; obtain ⟨y, _, h⟩ := hb h; exact ho h
  case index => obtain ⟨y, _, h⟩ := hb h; obtain ⟨y, _, h⟩ := hb h; exact ho h
  case extract =>
    obtain ⟨y, _, h⟩ := hb h
    split at h
    · exact ho h
    · cases h
  case call k =>
    obtain ⟨y, _, h⟩ := hb h
    obtain ⟨callee, xs, ts⟩ := k
    cases callee with
    | builtin b => cases b <;> simp at hq <;> simp only [builtinV] at h <;> exact ho h
    | value f => simp at hq
    | invoke r n => simp at hq
  all_goals cases h

theorem quiet_any {e : Env} {H H' : Heap} {op : Op} {v : Value} (hq : isLoud op = false) (hr : isRead op = false) (h : stepOp c call e H op = .ok v H') (H2 : Heap) : stepOp c call e H2 op = .ok v H2 := by
  have ho : ∀ {x : Option Value} {H H' : Heap} {v : Value}, opt x H = .ok v H' → x = some v := by
    intro x H H' v h
    cases x <;> simp [opt] at h
    rw [h.1]
  have hb : ∀ {α : Type} {x : Option α} {f : α → Heap → Res Value} {H H' : Heap} {v : Value}, (opt x H).bind f = .ok v H' → ∃ y, x = some y ∧ f y H = .ok v H' := by
    intro α x f H H' v h
    cases x with
    | none => cases h
    | some y => exact ⟨y, rfl, h⟩
  cases op <;> simp only [isLoud, Bool.true_eq_false] at hq <;> simp only [isRead, Bool.true_eq_false] at hr <;> simp only [stepOp, buildR, nilR, binR, unR, convR, ifaceR, fieldAddrR, fieldR, indexAddrR, indexR, extractR, invokeR] at h ⊢
  case move => rw [ho h]; rfl
  case assign => rw [ho h]; rfl
  case pick b x y =>
    unfold condV at h ⊢
    split at h
    · rw [ho h]; rfl
    · rw [ho h]; rfl
    · cases h
  case build => obtain ⟨y, e1, h⟩ := hb h; obtain ⟨z, e2, h⟩ := hb h; rw [e1]; simp only [opt, Res.bind]; rw [e2]; simp only; rw [ho h]
  case buildSlice t n ps =>
    obtain ⟨y, e1, h⟩ := hb h
    unfold buildSliceR at h ⊢
    obtain ⟨z, e2, h⟩ := hb h
    rw [e1]; simp only [opt, Res.bind]; rw [e2]; simp only
    have hn : n = 0 := by
      cases n with
      | zero => rfl
      | succ n => simp at hq
    subst hn
    unfold buildSliceV at h ⊢
    repeat' split at h
    all_goals first | (cases h; done) | (simp only [show Nat.beq 0 0 = true from rfl, cond_true] at h ⊢; injection h with h _; simp_all)
  case nilCheck =>
    obtain ⟨y, e1, h⟩ := hb h
    rw [e1]; simp only [opt, Res.bind]
    split at h
    · injection h with h _; rw [← h]
    · injection h with h _; rw [← h]
    · cases h
  case binOp => obtain ⟨y, e1, h⟩ := hb h; obtain ⟨z, e2, h⟩ := hb h; rw [e1, e2]; simp only [opt, Res.bind]; rw [ho h]
  case unOp => obtain ⟨y, e1, h⟩ := hb h; rw [e1]; simp only [opt, Res.bind]; rw [ho h]
  case convert src dst x =>
    obtain ⟨y, e1, h⟩ := hb h
    rw [e1]; simp only [opt, Res.bind]
    cases hs : (c.P.underlying src).isSome with
    | false => rw [hs] at h; cases h
    | true => rw [hs] at h; simp only [cond_true] at h ⊢; rw [ho h]
  case makeInterface =>
    obtain ⟨y, e1, h⟩ := hb h
    rw [e1]; simp only [opt, Res.bind]
    split at h
    · cases h
    · cases h
    · injection h with h _; rw [h]
  case makeFunc =>
    obtain ⟨y, e1, h⟩ := hb h
    obtain ⟨z, e2, h⟩ := hb h
    rw [e1, e2]; simp only [opt, Res.bind]
    unfold makeFuncR at h ⊢
    split at h
    · injection h with h _; rw [h]
    · cases h
  case fieldAddr => obtain ⟨y, e1, h⟩ := hb h; rw [e1]; simp only [opt, Res.bind]; rw [ho h]
  case field => obtain ⟨y, e1, h⟩ := hb h; rw [e1]; simp only [opt, Res.bind]; rw [ho h]
  case indexAddr => obtain ⟨y, e1, h⟩ := hb h; obtain ⟨z, e2, h⟩ := hb h; rw [e1, e2]; simp only [opt, Res.bind]; rw [ho h]
  case index => obtain ⟨y, e1, h⟩ := hb h; obtain ⟨z, e2, h⟩ := hb h; rw [e1, e2]; simp only [opt, Res.bind]; rw [ho h]
  case extract =>
    obtain ⟨y, e1, h⟩ := hb h
    rw [e1]; simp only [opt, Res.bind]
    split at h
    · rw [ho h]
    · cases h
  case call k =>
    obtain ⟨y, e1, h⟩ := hb h
    rw [e1]; simp only [opt, Res.bind]
    obtain ⟨callee, xs, ts⟩ := k
    cases callee with
    | builtin b => cases b <;> simp at hq <;> simp only [builtinV] at h ⊢ <;> (rw [ho h]; rfl)
    | value f => simp at hq
    | invoke r n => simp at hq
  all_goals cases h

/-! ### only the operands count -/

theorem opnd_congr {e e' : Env} {x : Operand} (h : ∀ t, x = .tmp t → e.get t = e'.get t) : opnd e x = opnd e' x := by
  cases x with
  | tmp t => exact h t rfl
  | _ => rfl

theorem opnds_congr {e e' : Env} : ∀ {xs : List Operand}, (∀ x, x ∈ xs → ∀ t, x = .tmp t → e.get t = e'.get t) → opnds e xs = opnds e' xs
  | [], _ => rfl
  | x :: xs, h => by
    simp only [opnds]
    rw [opnd_congr (h x (by simp)), opnds_congr fun y hy => h y (by simp [hy])]

theorem parts_congr {e e' : Env} : ∀ {xs : List (Nat × Operand)}, (∀ x, x ∈ xs → ∀ t, x.2 = .tmp t → e.get t = e'.get t) → opndsP e xs = opndsP e' xs
  | [], _ => rfl
  | (i, x) :: xs, h => by
    simp only [opndsP]
    rw [opnd_congr (h (i, x) (by simp)), parts_congr fun y hy => h y (by simp [hy])]

theorem stepOp_congr {e e' : Env} {H : Heap} {op : Op} (h : ∀ t, Operand.tmp t ∈ op.operands.toList → e.get t = e'.get t) : stepOp c call e H op = stepOp c call e' H op := by
  have h1 : ∀ x, x ∈ op.operands.toList → opnd e x = opnd e' x := fun x hx => opnd_congr fun t ht => h t (ht ▸ hx)
  cases op <;> simp only [stepOp]
  case move x => rw [h1 x (by simp [Op.operands])]
  case assign x => rw [h1 x (by simp [Op.operands])]
  case pick b x y => rw [h1 b (by simp [Op.operands]), h1 x (by simp [Op.operands]), h1 y (by simp [Op.operands])]
  case box t x => rw [h1 x (by simp [Op.operands])]
  case build t ps => rw [parts_congr fun x hx t ht => h t (by simp only [Op.operands, List.toList_toArray]; exact ht ▸ List.mem_map_of_mem hx)]
  case buildSlice t n ps => rw [parts_congr fun x hx t ht => h t (by simp only [Op.operands, List.toList_toArray]; exact ht ▸ List.mem_map_of_mem hx)]
  case load t x => rw [h1 x (by simp [Op.operands])]
  case store t x y => rw [h1 x (by simp [Op.operands]), h1 y (by simp [Op.operands])]
  case nilCheck x => rw [h1 x (by simp [Op.operands])]
  case binOp b t x y yT => rw [h1 x (by simp [Op.operands]), h1 y (by simp [Op.operands])]
  case unOp b t x => rw [h1 x (by simp [Op.operands])]
  case convert s d x => rw [h1 x (by simp [Op.operands])]
  case makeInterface t x => rw [h1 x (by simp [Op.operands])]
  case makeFunc f xs ys => rw [opnds_congr fun x hx t ht => h t (by simp [Op.operands, ← ht]; exact .inl (by simpa using hx)), opnds_congr fun x hx t ht => h t (by simp [Op.operands, ← ht]; exact .inr (by simpa using hx))]
  case makeSlice t x y => rw [h1 x (by simp [Op.operands]), h1 y (by simp [Op.operands])]
  case slice t x lo hi mx =>
    have ho : ∀ y : Option Operand, (∀ z, y = some z → z ∈ (Op.slice t x lo hi mx).operands.toList) → opndO e y = opndO e' y := by
      intro y hy
      cases y with
      | none => rfl
      | some z => simp only [opndO]; rw [h1 z (hy z rfl)]
    rw [h1 x (by simp [Op.operands]), ho lo (fun z hz => by subst hz; simp [Op.operands]), ho hi (fun z hz => by subst hz; simp [Op.operands]), ho mx (fun z hz => by subst hz; simp [Op.operands])]
  case fieldAddr t x i => rw [h1 x (by simp [Op.operands])]
  case field t x i => rw [h1 x (by simp [Op.operands])]
  case indexAddr t x i => rw [h1 x (by simp [Op.operands]), h1 i (by simp [Op.operands])]
  case index t x i => rw [h1 x (by simp [Op.operands]), h1 i (by simp [Op.operands])]
  case extract x i => rw [h1 x (by simp [Op.operands])]
  case call k =>
    obtain ⟨callee, xs, ts⟩ := k
    have ha : opnds e xs.toList = opnds e' xs.toList := opnds_congr fun x hx t ht => h t (by subst ht; simp only [Op.operands, Call.operands, Array.toList_append, List.mem_append]; exact .inr hx)
    dsimp only
    rw [ha]
    cases callee with
    | builtin b => rfl
    | value f => dsimp only; rw [h1 f (by simp [Op.operands, Call.operands])]
    | invoke r n => dsimp only; rw [h1 r (by simp [Op.operands, Call.operands])]
  case panic x => rw [h1 x (by simp [Op.operands])]
end
end Go.Sw
