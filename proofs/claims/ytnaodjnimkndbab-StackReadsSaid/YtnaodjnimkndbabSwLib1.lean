/-
  A speaking function, run by itself, answers true.
-/
import Derived.Below
import Derived.Orders
import Derived.Laws.CopyRow
import Derived.Laws.CopyOwn
import Derived.Laws.MakeOwn
import Derived.Laws.StructEq
import Derived.Laws.Tables
import Derived.Laws.Slices
section
namespace Go.Sw
structure Blk where
 cells : List Value
 esz : Nat
 ro : Bool
structure Heap where
 n : Nat
 l : List (Option Blk)
def Heap.empty : Heap := ⟨0, []⟩
def Heap.get (H : Heap) (b : Nat) : Option Blk := if b < H.n then (H.l[H.n - 1 - b]?).join else none
def Heap.push (H : Heap) (k : Blk) : Heap := ⟨H.n + 1, some k :: H.l⟩
def Heap.set (H : Heap) (b : Nat) (k : Option Blk) : Heap := if b < H.n then ⟨H.n, H.l.set (H.n - 1 - b) k⟩ else H
theorem Heap.get_push (H : Heap) (k : Blk) (b : Nat) : (H.push k).get b = if b = H.n then some k else H.get b := by
 unfold Heap.get Heap.push
 dsimp only
 by_cases h : b = H.n
 ·subst h; simp
 ·by_cases h2 : b < H.n
  ·have h3 : H.n + 1 - 1 - b = (H.n - 1 - b) + 1 := by omega
   rw [if_neg h, if_pos h2, if_pos (by omega), h3, List.getElem?_cons_succ]
  ·rw [if_neg h, if_neg h2, if_neg (by omega)]
theorem Heap.n_push (H : Heap) (k : Blk) : (H.push k).n = H.n + 1 := rfl
theorem Heap.n_set (H : Heap) (b : Nat) (k : Option Blk) : (H.set b k).n = H.n := by unfold Heap.set; split <;> rfl
theorem Heap.get_lt {H : Heap} {b : Nat} {k : Blk} (h : H.get b = some k) : b < H.n := by
 unfold Heap.get at h
 split at h
 ·assumption
 ·cases h
theorem Heap.get_set {H : Heap} {b : Nat} {k : Blk} (h : H.get b = some k) (x : Option Blk) (c : Nat) : (H.set b x).get c = if c = b then x else H.get c := by
 have hb := Heap.get_lt h
 unfold Heap.get at h
 rw [if_pos hb] at h
 unfold Heap.get Heap.set
 rw [if_pos hb]
 dsimp only
 have hl : H.n - 1 - b < H.l.length := by
  rcases Nat.lt_or_ge (H.n - 1 - b) H.l.length with h1 | h1
  ·exact h1
  ·rw [List.getElem?_eq_none h1] at h; cases h
 by_cases hc : c = b
 ·subst hc
  rw [if_pos rfl, if_pos hb, List.getElem?_set_self hl]
  cases x <;> rfl
 ·rw [if_neg hc]
  by_cases h2 : c < H.n
  ·rw [if_pos h2, if_pos h2, List.getElem?_set_ne (by omega)]
  ·rw [if_neg h2, if_neg h2]
inductive Res (α : Type) where
 | ok (a : α) (H : Heap)
 | panic (v : Value) (H : Heap)
 | stuck
def Res.bind {α β : Type} (r : Res α) (f : α → Heap → Res β) : Res β :=
 match r with
 | .ok a H => f a H
 | .panic v H => .panic v H
 | .stuck => .stuck
def opt {α : Type} (o : Option α) (H : Heap) : Res α :=
 match o with
 | some a => .ok a H
 | none => .stuck
abbrev Env := List (Nat × Value)
def Env.get : Env → Nat → Option Value
 | [], _ => none
 | (s, v) :: e, t => if s == t then some v else Env.get e t
def Env.put : Env → Nat → Value → Env
 | [], t, v => [(t, v)]
 | (s, u) :: e, t, v => if s == t then (t, v) :: e else if Nat.blt t s then (t, v) :: (s, u) :: e else (s, u) :: Env.put e t v
def Env.keep (ks : List Nat) : Env → Env
 | [] => []
 | (s, u) :: e => if ks.contains s then (s, u) :: Env.keep ks e else Env.keep ks e
def Env.of : Nat → List Value → Env
 | _, [] => []
 | i, v :: vs => (i, v) :: Env.of (i + 1) vs
def plainList (p : Value → Bool) : List Value → Bool
 | [] => true
 | v :: vs => p v && plainList p vs
def plain1 : Value → Bool
 | .bool _ | .int _ _ | .string _ | .pointer none | .slice none 0 0 | .map none | .nilFunc | .nilIface => true
 | _ => false
def plain : Value → Bool
 | .agg cs => plainList plain1 cs.toList
 | .tuple cs => plainList plain1 cs.toList
 | .func (.func _) first captured => plainList plain1 first.toList && plainList plain1 captured.toList
 | v => plain1 v
def opnd (e : Env) : Operand → Option Value
 | .tmp t => e.get t
 | .const v => if plain v then some v else none
 | .global _ => none
 | .func f => some (.func (.func f) #[] #[])
def opnds (e : Env) : List Operand → Option (List Value)
 | [] => some []
 | x :: xs => (opnd e x).bind fun v => (opnds e xs).map (v :: ·)
def cellsAt (H : Heap) (b off n : Nat) : Option (List Value) :=
 (H.get b).bind fun k => if Nat.ble (off + n) k.cells.length then some ((k.cells.drop off).take n) else none
def splice (l : List Value) (off : Nat) (vs : List Value) : List Value := l.take off ++ (vs ++ l.drop (off + vs.length))
def putCells (H : Heap) (b off : Nat) (vs : List Value) : Res Unit :=
 match H.get b with
 | some k => if Nat.ble (off + vs.length) k.cells.length && !k.ro then .ok () (H.set b (some { k with cells := splice k.cells off vs })) else .stuck
 | none => .stuck
def newBlk (H : Heap) (cells : List Value) (esz : Nat) : Res Addr := .ok ⟨H.n, 0, none⟩ (H.push ⟨cells, esz, false⟩)
def listV (len : Nat) (cells : Array Value) : Value := .func (.via len #[] 0 false) cells #[]
def boxV (cells : Array Value) : Value := .func (.via 0 #[] 0 true) cells #[]
def noneV (isNil : Bool) : Value := .func (.via 0 #[] (bif isNil then 2 else 1) false) #[] #[]
def emptyV : Value := .slice (some ⟨0, 0, some 1⟩) 0 0
def bareV : Value := .slice (some ⟨0, 0, some 0⟩) 0 0
def nilS : Option Addr → Option Bool
 | none => some true
 | some ⟨_, _, some (_ + 1)⟩ => none
 | some _ => some false
def storable : Value → Bool
 | .tuple _ => false
 | _ => true
section
variable (P : Program)
def isAggT (t : TypeId) : Option Bool :=
 (P.underlying t).map fun | .struct _ | .array _ _ => true | _ => false
def sizeT (t : TypeId) : Option Nat := (P.info? t).map (·.size)
def zeroT (t : TypeId) : Option Value := ((P.info? t).bind (·.zero)).bind fun v => if plain v && storable v then some v else none
def loadV (t : TypeId) (a : Value) (H : Heap) : Option Value :=
 match a with
 | .pointer (some ⟨b, off, none⟩) =>
  match isAggT P t, sizeT P t with
  | some true, some n => (cellsAt H b off n).map fun cs => .agg cs.toArray
  | some false, _ => (H.get b).bind fun k => k.cells[off]?
  | _, _ => none
 | .func (.via _ _ _ true) cs _ =>
  match isAggT P t, sizeT P t with
  | some true, some n => if n ≤ cs.size then some (.agg (cs.extract 0 n)) else none
  | some false, _ => cs[0]?
  | _, _ => none
 | _ => none
def storeV (t : TypeId) (a v : Value) (H : Heap) : Res Unit :=
 match a with
 | .pointer (some ⟨b, off, none⟩) =>
  match sizeT P t with
  | some n => if v.cells.size == n && storable v then putCells H b off v.cells.toList else .stuck
  | none => .stuck
 | _ => .stuck
def fieldOf (s : TypeId) (i : Nat) : Option Field :=
 match P.underlying s with
 | some (.struct fs) => fs[i]?
 | _ => none
def fieldAddrV (s : TypeId) (a : Value) (i : Nat) : Option Value :=
 match a, fieldOf P s i with
 | .pointer (some ⟨b, off, none⟩), some f =>
  match sizeT P f.type with
  | some (_ + 1) => some (.pointer (some ⟨b, off + f.offset, none⟩))
  | _ => none
 | .func (.via _ _ _ true) cs _, some f =>
  match sizeT P f.type with
  | some (n + 1) => if f.offset + (n + 1) ≤ cs.size then some (boxV (cs.extract f.offset (f.offset + (n + 1)))) else none
  | _ => none
 | _, _ => none
def partV (t : TypeId) (cs : Array Value) (off : Nat) : Option Value :=
 match isAggT P t, sizeT P t with
 | some true, some n => some (.agg (cs.extract off (off + n)))
 | some false, _ => cs[off]?
 | _, _ => none
def fieldV (s : TypeId) (x : Value) (i : Nat) : Option Value :=
 match x, fieldOf P s i with
 | .agg cs, some f => partV P f.type cs f.offset
 | _, _ => none
def indexAddrV (t : TypeId) (x ix : Value) : Option Value :=
 match ix with
 | .int _ i =>
  match P.underlying t, x with
  | some (.array len elem), .pointer (some ⟨b, off, none⟩) =>
   match sizeT P elem with
   | some n => if 0 ≤ i ∧ i < len then some (.pointer (some ⟨b, off + i.toNat * n, none⟩)) else none
   | none => none
  | some (.slice elem), .slice (some ⟨b, off, none⟩) len _ =>
   match sizeT P elem with
   | some n => if 0 ≤ i ∧ i < len then some (.pointer (some ⟨b, off + i.toNat * n, none⟩)) else none
   | none => none
  | some (.array len elem), .func (.via _ _ _ true) cs _ =>
   match sizeT P elem with
   | some n => if 0 ≤ i ∧ i < len ∧ i.toNat * n + n ≤ cs.size then some (boxV (cs.extract (i.toNat * n) (i.toNat * n + n))) else none
   | none => none
  | some (.slice elem), .func (.via len _ _ false) cs _ =>
   match sizeT P elem with
   | some n => if 0 ≤ i ∧ i < len ∧ i.toNat * n + n ≤ cs.size then some (boxV (cs.extract (i.toNat * n) (i.toNat * n + n))) else none
   | none => none
  | _, _ => none
 | _ => none
def indexV (t : TypeId) (x ix : Value) : Option Value :=
 match ix with
 | .int _ i =>
  match P.underlying t, x with
  | some (.array len elem), .agg cs =>
   match sizeT P elem with
   | some n => if 0 ≤ i ∧ i < len then partV P elem cs (i.toNat * n) else none
   | none => none
  | some .string, .string s => if 0 ≤ i then (s[i.toNat]?).map fun c => .int .u8 c.toNat else none
  | _, _ => none
 | _ => none
def boundOf (v : Option Value) (d : Nat) : Option Nat :=
 match v with
 | none => some d
 | some (.int _ i) => if 0 ≤ i then some i.toNat else none
 | some _ => none
def openOk (H : Heap) (b size : Nat) (mx : Option Value) : Bool :=
 mx.isSome || (match H.get b with
  | some k => k.ro || k.esz == size
  | none => false)
def sliceV (t : TypeId) (x : Value) (lo hi mx : Option Value) (H : Heap) : Option Value :=
 match P.underlying t, x with
 | some (.slice elem), .slice a len cap =>
  match sizeT P elem, boundOf mx cap, boundOf hi len, boundOf lo 0 with
  | some size, some m, some h, some l =>
   if m ≤ cap ∧ h ≤ m ∧ l ≤ h ∧ (mx.isSome → hi.isSome) then
    match a with
    | none => some (.slice none 0 0)
    | some ⟨b, off, none⟩ => if openOk H b size mx then some (.slice (some ⟨b, off + l * size, none⟩) (h - l) (m - l)) else none
    | some ⟨_, _, some _⟩ => some emptyV
   else none
  | _, _, _, _ => none
 | some (.array n elem), .pointer (some ⟨b, off, none⟩) =>
  match sizeT P elem, boundOf mx n, boundOf hi n, boundOf lo 0 with
  | some size, some m, some h, some l =>
   if m ≤ n ∧ h ≤ m ∧ l ≤ h ∧ (mx.isSome → hi.isSome) then some (.slice (some ⟨b, off + l * size, none⟩) (h - l) (m - l)) else none
  | _, _, _, _ => none
 | some (.slice elem), .func (.via len _ _ false) cs _ =>
  match sizeT P elem, boundOf mx len, boundOf hi len, boundOf lo 0 with
  | some size, some m, some h, some l =>
   if m ≤ len ∧ h ≤ m ∧ l ≤ h ∧ (mx.isSome → hi.isSome) ∧ h * size ≤ cs.size then some (listV (h - l) (cs.extract (l * size) (h * size))) else none
  | _, _, _, _ => none
 | some .string, .string s =>
  match mx, boundOf hi s.size, boundOf lo 0 with
  | none, some h, some l => if h ≤ s.size ∧ l ≤ h then some (.string (s.extract l h)) else none
  | _, _, _ => none
 | _, _ => none
def intBin (op : BinOp) (k : IntKind) (a b : Int) : Option Value :=
 match op with
 | .add => some (.int k (k.wrap (a + b)))
 | .sub => some (.int k (k.wrap (a - b)))
 | .mul => some (.int k (k.wrap (a * b)))
 | .quo => if b = 0 then none else some (.int k (k.wrap (a.tdiv b)))
 | .rem => if b = 0 then none else some (.int k (a.tmod b))
 | .and => some (.int k (k.wrap (BitVec.ofInt k.bits a &&& BitVec.ofInt k.bits b).toNat))
 | .or => some (.int k (k.wrap (BitVec.ofInt k.bits a ||| BitVec.ofInt k.bits b).toNat))
 | .xor => some (.int k (k.wrap (BitVec.ofInt k.bits a ^^^ BitVec.ofInt k.bits b).toNat))
 | .andNot => some (.int k (k.wrap (BitVec.ofInt k.bits a &&& ~~~(BitVec.ofInt k.bits b)).toNat))
 | .eql => some (.bool (a == b))
 | .neq => some (.bool (a != b))
 | .lss => some (.bool (decide (a < b)))
 | .leq => some (.bool (decide (a ≤ b)))
 | .gtr => some (.bool (decide (a > b)))
 | .geq => some (.bool (decide (a ≥ b)))
 | _ => none
def shiftV (op : BinOp) (k : IntKind) (a b : Int) : Option Value :=
 if b < 0 then none else
 match op with
 | .shl => some (.int k (k.wrap (a * 2 ^ (min b.toNat k.bits))))
 | .shr => some (.int k (a.fdiv (2 ^ (min b.toNat k.bits))))
 | _ => none
def eqFields (eq : TypeId → Value → Value → Option Bool) (xs ys : Array Value) : List Field → Option Bool
 | [] => some true
 | f :: fs =>
  if f.name == "_" then none else
  match partV P f.type xs f.offset, partV P f.type ys f.offset with
  | some a, some b =>
   match eq f.type a b with
   | some true => eqFields eq xs ys fs
   | r => r
  | _, _ => none
def eqV : Nat → TypeId → Value → Value → Option Bool
 | 0, _, _, _ => none
 | d + 1, t, x, y =>
  match P.underlying t, x, y with
  | some .bool, .bool a, .bool b => some (a == b)
  | some (.int _), .int k a, .int k' b => if k = k' then some (a == b) else none
  | some .string, .string a, .string b => some (a == b)
  | some (.pointer _), .pointer none, .pointer b => some b.isNone
  | some (.pointer _), .pointer (some _), .pointer none => some false
  | some (.slice _), .slice none _ _, .slice b _ _ => nilS b
  | some (.slice _), .slice (some a) _ _, .slice none _ _ => nilS (some a)
  | some (.pointer _), .func (.via _ _ _ true) _ _, .pointer none => some false
  | some (.pointer _), .pointer none, .func (.via _ _ _ true) _ _ => some false
  | some (.slice _), .func (.via (_ + 1) _ _ false) _ _, .slice none _ _ => some false
  | some (.slice _), .func (.via 0 _ 1 false) _ _, .slice none _ _ => some false
  | some (.slice _), .func (.via 0 _ 2 false) _ _, .slice none _ _ => some true
  | some (.slice _), .slice none _ _, .func (.via (_ + 1) _ _ false) _ _ => some false
  | some (.map _ _), .map none, .map b => some b.isNone
  | some (.map _ _), .map (some _), .map none => some false
  | some (.struct fields), .agg xs, .agg ys =>
   if P.stoodInHeld t then none else eqFields P (eqV d) xs ys fields.toList
  | _, _, _ => none
def eqDepth : Nat := 8
def binV (op : BinOp) (t : TypeId) (x y : Value) : Option Value :=
 match op, x, y with
 | .shl, .int k a, .int _ b | .shr, .int k a, .int _ b => shiftV op k a b
 | _, .int k a, .int k' b => if k = k' then intBin op k a b else none
 | .eql, .string a, .string b => some (.bool (a == b))
 | .neq, .string a, .string b => some (.bool (!(a == b)))
 | .lss, .string a, .string b => some (.bool (Op.bytesLess a.toList b.toList))
 | .eql, .agg a, .agg b => if P.eqGuardType P.depth t then none else (eqV P eqDepth t (.agg a) (.agg b)).map .bool
 | .neq, .agg a, .agg b => if P.eqGuardType P.depth t then none else (eqV P eqDepth t (.agg a) (.agg b)).map fun r => .bool (!r)
 | .eql, .pointer a, .pointer b => (eqV P eqDepth t (.pointer a) (.pointer b)).map .bool
 | .neq, .pointer a, .pointer b => (eqV P eqDepth t (.pointer a) (.pointer b)).map fun r => .bool (!r)
 | .eql, .slice a l c, .slice b m d => (eqV P eqDepth t (.slice a l c) (.slice b m d)).map .bool
 | .neq, .slice a l c, .slice b m d => (eqV P eqDepth t (.slice a l c) (.slice b m d)).map fun r => .bool (!r)
 | .eql, .func f a b, .pointer y => (eqV P eqDepth t (.func f a b) (.pointer y)).map .bool
 | .neq, .func f a b, .pointer y => (eqV P eqDepth t (.func f a b) (.pointer y)).map fun r => .bool (!r)
 | .eql, .pointer y, .func f a b => (eqV P eqDepth t (.pointer y) (.func f a b)).map .bool
 | .neq, .pointer y, .func f a b => (eqV P eqDepth t (.pointer y) (.func f a b)).map fun r => .bool (!r)
 | .eql, .func f a b, .slice y l c => (eqV P eqDepth t (.func f a b) (.slice y l c)).map .bool
 | .neq, .func f a b, .slice y l c => (eqV P eqDepth t (.func f a b) (.slice y l c)).map fun r => .bool (!r)
 | .eql, .slice y l c, .func f a b => (eqV P eqDepth t (.slice y l c) (.func f a b)).map .bool
 | .neq, .slice y l c, .func f a b => (eqV P eqDepth t (.slice y l c) (.func f a b)).map fun r => .bool (!r)
 | .eql, .bool a, .bool b => (eqV P eqDepth t (.bool a) (.bool b)).map .bool
 | .neq, .bool a, .bool b => (eqV P eqDepth t (.bool a) (.bool b)).map fun r => .bool (!r)
 | _, _, _ => none
def unV (op : UnOp) (x : Value) : Option Value :=
 match op, x with
 | .neg, .int k n => some (.int k (k.wrap (0 - n)))
 | .xor, .int k n => intBin .xor k (if k.signed then -1 else k.max) n
 | .not, .bool b => some (.bool !b)
 | _, _ => none
def convV (dst : TypeId) (x : Value) : Option Value :=
 match P.underlying dst, x with
 | some (.int k), .int _ n => some (.int k (k.wrap n))
 | _, _ => none
def placesOf (t : TypeId) : Option (List (Nat × Nat)) :=
 match P.underlying t with
 | some (.struct fs) => fs.toList.mapM fun f => (sizeT P f.type).map fun n => (f.offset, n)
 | _ => none
def buildV (t : TypeId) (parts : List (Nat × Value)) : Option Value :=
 (zeroT P t).bind fun z =>
  match P.underlying t with
  | some (.struct _) => (placesOf P t).bind fun ps => (Instr.fill (ps[·]?) z.cells parts).map .agg
  | some (.array _ e) => (sizeT P e).bind fun n => (Instr.fill (fun i => some (i * n, n)) z.cells parts).map .agg
  | _ => none
def partsV : List (Nat × Value) → Option (List (Nat × Value))
 | [] => some []
 | (i, v) :: xs => if storable v then (partsV xs).map ((i, v) :: ·) else none
def opndsP (e : Env) : List (Nat × Operand) → Option (List (Nat × Value))
 | [] => some []
 | (i, x) :: xs => (opnd e x).bind fun v => (opndsP e xs).map ((i, v) :: ·)
def repeatCells (z : List Value) : Nat → List Value
 | 0 => []
 | n + 1 => z ++ repeatCells z n
def zeros (e : TypeId) (n : Nat) : Option (List Value) :=
 (zeroT P e).bind fun z => (sizeT P e).bind fun s => if z.cells.size == s then some (repeatCells z.cells.toList n) else none
def buildSliceV (t : TypeId) (len : Nat) (ps : List (Nat × Value)) (H : Heap) : Res Value :=
 match P.underlying t with
 | some (.slice e) =>
  match sizeT P e, zeros P e len with
  | some n, some z =>
   if Nat.ble (len * n) (2 ^ 24) then
    match Instr.fill (fun i => some (i * n, n)) z.toArray ps with
    | some cs => bif Nat.beq len 0 then .ok bareV H else .ok (.slice (some ⟨H.n, 0, none⟩) len len) (H.push ⟨cs.toList, n, false⟩)
    | none => .stuck
   else .stuck
  | _, _ => .stuck
 | _ => .stuck
def makeSliceV (t : TypeId) (l c : Value) (H : Heap) : Res Value :=
 match P.underlying t, l, c with
 | some (.slice e), .int _ n, .int _ m =>
  match sizeT P e, P.info? e with
  | some s, some i =>
   if 0 ≤ n ∧ n = m ∧ n ≤ 2 ^ 31 ∧ i.bytes ≤ 2 ^ 10 then
    match zeros P e n.toNat with
    | some z => .ok (.slice (some ⟨H.n, 0, none⟩) n.toNat n.toNat) (H.push ⟨z, s, false⟩)
    | none => .stuck
   else .stuck
  | _, _ => .stuck
 | _, _, _ => .stuck
def firstV (size n : Nat) (x : Value) (H : Heap) : Option (List Value) :=
 match x with
 | .slice (some ⟨b, off, none⟩) _ _ => if n * size = 0 then some [] else cellsAt H b off (n * size)
 | .slice none _ _ => some []
 | .slice (some ⟨_, _, some _⟩) _ _ => if n = 0 then some [] else none
 | .func (.via _ _ _ false) cs _ => if n * size ≤ cs.size then some (cs.extract 0 (n * size)).toList else none
 | .string s => if size == 1 then some ((s.extract 0 n).data.toList.map fun b => .int .u8 b.toNat) else none
 | _ => none
def lenV : Value → Option Nat
 | .slice _ n _ => some n
 | .func (.via n _ _ false) _ _ => some n
 | .string s => some s.size
 | _ => none
def appendK (size bytes zs n : Nat) (base : Option Addr) (sLen sCap : Nat) (x : Value) (H : Heap) : Res Value :=
 if n = 0 then .ok (.slice base sLen sCap) H else
 if sLen + n ≤ 2 ^ 31 ∧ bytes ≤ 2 ^ 10 ∧ zs = size then
  match firstV size n x H with
  | none => .stuck
  | some new =>
   match base with
   | none => .ok (.slice (some ⟨H.n, 0, none⟩) n n) (H.push ⟨new, size, false⟩)
   | some ⟨b, off, none⟩ =>
    match H.get b with
    | some k =>
     if !k.ro && k.esz == size && Nat.ble (off + sCap * size) k.cells.length then
      .ok (.slice (some ⟨H.n, 0, none⟩) (sLen + n) (sLen + n)) ((H.set b none).push ⟨((k.cells.drop off).take (sLen * size)) ++ new, size, false⟩)
     else .stuck
    | none => .stuck
   | some ⟨_, _, some _⟩ => if sLen = 0 ∧ sCap = 0 then .ok (.slice (some ⟨H.n, 0, none⟩) n n) (H.push ⟨new, size, false⟩) else .stuck
 else .stuck
def appendN (size bytes zs n : Nat) (base : Option Addr) (sLen sCap : Nat) (nw : Option (List Value)) (H : Heap) : Res Value :=
 if n = 0 then .ok (.slice base sLen sCap) H else
 if sLen + n ≤ 2 ^ 31 ∧ bytes ≤ 2 ^ 10 ∧ zs = size then
  match nw with
  | none => .stuck
  | some new =>
   match base with
   | none => .ok (.slice (some ⟨H.n, 0, none⟩) n n) (H.push ⟨new, size, false⟩)
   | some ⟨b, off, none⟩ =>
    match H.get b with
    | some k =>
     if !k.ro && k.esz == size && Nat.ble (off + sCap * size) k.cells.length then
      .ok (.slice (some ⟨H.n, 0, none⟩) (sLen + n) (sLen + n)) ((H.set b none).push ⟨((k.cells.drop off).take (sLen * size)) ++ new, size, false⟩)
     else .stuck
    | none => .stuck
   | some ⟨_, _, some _⟩ => if sLen = 0 ∧ sCap = 0 then .ok (.slice (some ⟨H.n, 0, none⟩) n n) (H.push ⟨new, size, false⟩) else .stuck
 else .stuck
theorem ζpj (size bytes zs n : Nat) (base : Option Addr) (sLen sCap : Nat) (x : Value) (H : Heap) : appendK size bytes zs n base sLen sCap x H = appendN size bytes zs n base sLen sCap (firstV size n x H) H := rfl
def appendT (sT xT : TypeId) : Option TypeId :=
 match P.underlying sT, P.underlying xT with
 | some (.slice e), some (.slice _) => some e
 | some (.slice e), some .string => some e
 | _, _ => none
def appendV (ts : List TypeId) (args : List Value) (H : Heap) : Res Value :=
 match ts, args with
 | [sT, xT], [.slice base sLen sCap, x] =>
  match appendT P sT xT with
  | some e =>
   match sizeT P e, P.info? e, lenV x, zeroT P e with
   | some size, some i, some n, some z => appendK size i.bytes z.cells.size n base sLen sCap x H
   | _, _, _, _ => .stuck
  | none =>
   match P.underlying sT, P.underlying xT, x with
   | some (.slice e), some (.int _), .int _ m =>
    match sizeT P e, P.info? e, zeroT P e with
    | some size, some i, some z => if 0 ≤ m ∧ m ≤ 2 ^ 31 then appendN size i.bytes z.cells.size m.toNat base sLen sCap (some (repeatCells z.cells.toList m.toNat)) H else .stuck
    | _, _, _ => .stuck
   | _, _, _ => .stuck
 | _, _ => .stuck
def copyV (ts : List TypeId) (args : List Value) (H : Heap) : Res Value :=
 match ts, args with
 | dT :: _, [.slice base dLen _, src] =>
  match P.underlying dT with
  | some (.slice e) =>
   match sizeT P e, lenV src with
   | some size, some sn =>
    match firstV size (min sn dLen) src H with
    | none => .stuck
    | some cs =>
     if cs.isEmpty then .ok (.int .i64 (min sn dLen)) H else
     match base with
     | some ⟨b, off, none⟩ => (putCells H b off cs).bind fun _ H' => .ok (.int .i64 (min sn dLen)) H'
     | _ => .stuck
   | _, _ => .stuck
  | _ => .stuck
 | _, _ => .stuck
def clearV (ts : List TypeId) (args : List Value) (H : Heap) : Res Value :=
 match ts, args with
 | t :: _, [.slice base n _] =>
  match P.underlying t with
  | some (.slice e) =>
   if n = 0 then .ok undef H else
   match base, zeros P e n with
   | some ⟨b, off, none⟩, some z => (putCells H b off z).bind fun _ H' => .ok undef H'
   | _, _ => .stuck
  | _ => .stuck
 | _, _ => .stuck
def lenB (ts : List TypeId) (args : List Value) : Option Value :=
 match ts, args with
 | [t], [x] =>
  match P.underlying t, x with
  | some .string, .string s => some (.int .i64 s.size)
  | some (.slice _), .slice _ n _ => some (.int .i64 n)
  | some (.slice _), .func (.via n _ _ false) _ _ => some (.int .i64 n)
  | some (.array n _), _ => some (.int .i64 n)
  | _, _ => none
 | _, _ => none
def minB : List Value → Option Value
 | [.int k x, .int _ y] => some (.int k (if y < x then y else x))
 | _ => none
def maxB : List Value → Option Value
 | [.int k x, .int _ y] => some (.int k (if y > x then y else x))
 | _ => none
def builtinV (b : Builtin) (ts : List TypeId) (args : List Value) (H : Heap) : Res Value :=
 match b with
 | .append => appendV P ts args H
 | .copy => copyV P ts args H
 | .clear => clearV P ts args H
 | .len => opt (lenB P ts args) H
 | .min => opt (minB args) H
 | .max => opt (maxB args) H
 | .panic => match args with | [.iface t v] => .panic (.iface t v) H | _ => .stuck
 | _ => .stuck
end
end Go.Sw
end
section
namespace Go.Sw
inductive AExit where
 | normal
 | exit (id : Nat)
 | ret
abbrev Caller := FuncId → List Value → Heap → Res Value
structure Cfg where
 P : Program
 kp : FuncId → Nat → List Nat
 sp : FuncId → Option (Caller → List Value → Heap → Res Value)
def wantVal (v : Value) (w : Bool) : Bool :=
 match v with
 | .bool b => b == w
 | _ => false
def wantedE (ops : Array Oper) (e : Env) (o : Oper) : Option Bool :=
 match o.guard with
 | none => some true
 | some (j, w) =>
  match (ops[j]?).bind (·.dst) with
  | some d => (e.get d).map fun v => wantVal v w
  | none => none
def putDst (e : Env) (d : Option Tmp) (v : Value) : Env :=
 match d with
 | some t => e.put t v
 | none => e
def dstOk (nt : Nat) (d : Option Tmp) : Bool :=
 match d with
 | some t => Nat.blt t nt
 | none => true
def condV {α : Type} (v : Option Value) (x y : Res α) : Res α :=
 match v with
 | some (.bool true) => x
 | some (.bool false) => y
 | _ => .stuck
def callV (call : Caller) (f : Value) (args : List Value) (H : Heap) : Res Value :=
 match f with
 | .func (.func g) first captured => call g (first.toList ++ args ++ captured.toList) H
 | _ => .stuck
def methodV (P : Program) (t : TypeId) (name : String) : Option FuncId :=
 match P.info? t, P.underlying t with
 | some i, some u =>
  match i.methods.find? (·.name == name) with
  | some m =>
   match m.path.isEmpty, m.func, u with
   | true, some (_, _), .pointer _ => none
   | true, some (f, false), _ => some f
   | _, _, _ => none
  | none => none
 | _, _ => none
def opndO (e : Env) : Option Operand → Option (Option Value)
 | none => some none
 | some x => (opnd e x).map some
section
variable (P : Program)
def allocR (t : TypeId) (H : Heap) : Res Value :=
 match zeroT P t with
 | some z => (newBlk H z.cells.toList 1).bind fun a H' => .ok (.pointer (some a)) H'
 | none => .stuck
def boxR (v : Value) (H : Heap) : Res Value := bif storable v then (newBlk H v.cells.toList 1).bind fun a H' => .ok (.pointer (some a)) H' else .stuck
def buildR (t : TypeId) (ps : List (Nat × Value)) (H : Heap) : Res Value := (opt (partsV ps) H).bind fun ps H => opt (buildV P t ps) H
def buildSliceR (t : TypeId) (n : Nat) (ps : List (Nat × Value)) (H : Heap) : Res Value := (opt (partsV ps) H).bind fun ps H => buildSliceV P t n ps H
def loadR (t : TypeId) (a : Value) (H : Heap) : Res Value := opt (loadV P t a H) H
def storeR (t : TypeId) (a x : Value) (H : Heap) : Res Value := (storeV P t a x H).bind fun _ H' => .ok undef H'
def nilR (v : Value) (H : Heap) : Res Value :=
 match v with
 | .pointer (some a) => .ok (.pointer (some a)) H
 | .func (.via n p f true) xs ys => .ok (.func (.via n p f true) xs ys) H
 | _ => .stuck
def binR (op : BinOp) (t : TypeId) (x y : Value) (H : Heap) : Res Value := opt (binV P op t x y) H
def unR (op : UnOp) (x : Value) (H : Heap) : Res Value := opt (unV op x) H
def convR (src dst : TypeId) (x : Value) (H : Heap) : Res Value := bif (P.underlying src).isSome then opt (convV P dst x) H else .stuck
def ifaceR (t : TypeId) (x : Value) (H : Heap) : Res Value :=
 match P.underlying t with
 | some (.interface _) | none => .stuck
 | some _ => .ok (.iface t x) H
def sliceR (t : TypeId) (x : Value) (lo hi mx : Option Value) (H : Heap) : Res Value := opt (sliceV P t x lo hi mx H) H
def fieldAddrR (t : TypeId) (x : Value) (i : Nat) (H : Heap) : Res Value := opt (fieldAddrV P t x i) H
def fieldR (t : TypeId) (x : Value) (i : Nat) (H : Heap) : Res Value := opt (fieldV P t x i) H
def indexAddrR (t : TypeId) (x i : Value) (H : Heap) : Res Value := opt (indexAddrV P t x i) H
def indexR (t : TypeId) (x i : Value) (H : Heap) : Res Value := opt (indexV P t x i) H
def extractR (x : Value) (i : Nat) (H : Heap) : Res Value :=
 match x with
 | .tuple vs => opt vs[i]? H
 | _ => .stuck
def invokeR (call : Caller) (r : Value) (name : String) (args : List Value) (H : Heap) : Res Value :=
 match r with
 | .iface t v => (opt (methodV P t name) H).bind fun f H => call f (v :: args) H
 | _ => .stuck
def panicR (v : Value) (H : Heap) : Res Value :=
 match v with
 | .iface t v => .panic (.iface t v) H
 | _ => .stuck
end
def makeFuncR (fn : Fn) (xs ys : Array Value) (H : Heap) : Res Value :=
 match fn with
 | .func g => .ok (.func (.func g) xs ys) H
 | _ => .stuck
def stepOp (c : Cfg) (call : Caller) (e : Env) (H : Heap) (op : Op) : Res Value :=
 match op with
 | .move x | .assign x => opt (opnd e x) H
 | .pick b x y => condV (opnd e b) (opt (opnd e x) H) (opt (opnd e y) H)
 | .alloc t => allocR c.P t H
 | .box _ x => (opt (opnd e x) H).bind fun v H => boxR v H
 | .build t ps => (opt (opndsP e ps.toList) H).bind fun ps H => buildR c.P t ps H
 | .buildSlice t n ps => (opt (opndsP e ps.toList) H).bind fun ps H => buildSliceR c.P t n ps H
 | .load t a => (opt (opnd e a) H).bind fun a H => loadR c.P t a H
 | .store t a x => (opt (opnd e a) H).bind fun a H => (opt (opnd e x) H).bind fun x H => storeR c.P t a x H
 | .nilCheck x => (opt (opnd e x) H).bind fun v H => nilR v H
 | .binOp op t x y _ => (opt (opnd e x) H).bind fun x H => (opt (opnd e y) H).bind fun y H => binR c.P op t x y H
 | .unOp op _ x => (opt (opnd e x) H).bind fun x H => unR op x H
 | .convert src dst x => (opt (opnd e x) H).bind fun x H => convR c.P src dst x H
 | .makeInterface t x => (opt (opnd e x) H).bind fun x H => ifaceR c.P t x H
 | .makeFunc fn first captured => (opt (opnds e first.toList) H).bind fun xs H => (opt (opnds e captured.toList) H).bind fun ys H => makeFuncR fn xs.toArray ys.toArray H
 | .makeSlice t l k => (opt (opnd e l) H).bind fun l H => (opt (opnd e k) H).bind fun k H => makeSliceV c.P t l k H
 | .slice t x lo hi mx => (opt (opnd e x) H).bind fun x H => (opt (opndO e lo) H).bind fun lo H => (opt (opndO e hi) H).bind fun hi H => (opt (opndO e mx) H).bind fun mx H => sliceR c.P t x lo hi mx H
 | .fieldAddr t x i => (opt (opnd e x) H).bind fun x H => fieldAddrR c.P t x i H
 | .field t x i => (opt (opnd e x) H).bind fun x H => fieldR c.P t x i H
 | .indexAddr t x i => (opt (opnd e x) H).bind fun x H => (opt (opnd e i) H).bind fun i H => indexAddrR c.P t x i H
 | .index t x i => (opt (opnd e x) H).bind fun x H => (opt (opnd e i) H).bind fun i H => indexR c.P t x i H
 | .extract x i => (opt (opnd e x) H).bind fun x H => extractR x i H
 | .call k => (opt (opnds e k.args.toList) H).bind fun args H =>
  match k.callee with
  | .builtin b => builtinV c.P b k.argTypes.toList args H
  | .value f => (opt (opnd e f) H).bind fun f H => callV call f args H
  | .invoke r name => (opt (opnd e r) H).bind fun r H => invokeR c.P call r name args H
 | .panic x => (opt (opnd e x) H).bind fun v H => panicR v H
 | _ => .stuck
def stepO (c : Cfg) (call : Caller) (ops : Array Oper) (e : Env) (H : Heap) (o : Oper) : Res Value :=
 match wantedE ops e o with
 | none => .stuck
 | some b => cond b (stepOp c call e H o.op) (.ok undef H)
def runOps (c : Cfg) (call : Caller) (nt : Nat) (ops : Array Oper) : List Oper → Env → Heap → Res Env
 | [], e, H => .ok e H
 | o :: os, e, H => bif dstOk nt o.dst then (stepO c call ops e H o).bind fun v H' => runOps c call nt ops os (putDst e o.dst v) H' else .stuck
def loopN (body : Env → Heap → Res (AExit × Env)) : Nat → Env → Heap → Res (AExit × Env)
 | 0, _, _ => .stuck
 | n + 1, e, H => (body e H).bind fun r H' =>
  match r.1 with
  | .normal => loopN body n r.2 H'
  | x => .ok (x, r.2) H'
def loopFuel : Nat := 2 ^ 64
def seqK (r : AExit × Env) (H : Heap) (k : Env → Heap → Res (AExit × Env)) : Res (AExit × Env) :=
 match r.1 with
 | .normal => k r.2 H
 | x => .ok (x, r.2) H
def blockK (id : Nat) (r : AExit × Env) : AExit × Env :=
 match r.1 with
 | .exit i => if i == id then (.normal, r.2) else (.exit i, r.2)
 | x => (x, r.2)
def roundK (ks : List Nat) (r : AExit × Env) : AExit × Env :=
 match r.1 with
 | .normal => (.normal, Env.keep ks r.2)
 | x => (x, r.2)
def firstReg : Code → Option Nat
 | .region id _ _ => some id
 | .seq a b => (firstReg a).or (firstReg b)
 | .cond _ a b => (firstReg a).or (firstReg b)
 | .block _ a => firstReg a
 | .loop a => firstReg a
 | _ => none
def headOf (a : Code) : Nat := (firstReg a).getD 0 + 1000000
def exec (c : Cfg) (call : Caller) (draw : Array Oper → Env → Heap → Res Env) (nt : Nat) (kp : Nat → List Nat) : Code → Env → Heap → Res (AExit × Env)
 | .skip, e, H => .ok (.normal, e) H
 | .label _, e, H => .ok (.normal, e) H
 | .region id ops d, e, H => (bif d then draw ops e H else runOps c call nt ops ops.toList e H).bind fun e' H' => .ok (.normal, Env.keep (kp id) e') H'
 | .seq a b, e, H => (exec c call draw nt kp a e H).bind fun r H' => seqK r H' (exec c call draw nt kp b)
 | .cond x a b, e, H => condV (opnd e x) (exec c call draw nt kp a e H) (exec c call draw nt kp b e H)
 | .block id a, e, H => (exec c call draw nt kp a e H).bind fun r H' => .ok (blockK id r) H'
 | .loop a, e, H => loopN (fun e H => (exec c call draw nt kp a e H).bind fun r H' => .ok (roundK (kp (headOf a)) r) H') loopFuel (Env.keep (kp (headOf a)) e) H
 | .exit id, e, H => .ok (.exit id, e) H
 | .ret, e, H => .ok (.ret, e) H
 | _, _, _ => .stuck
def resultV (P : Program) (e : Env) (H : Heap) : List ResultVar → Option (List Value)
 | [] => some []
 | .tmp t :: rs => (e.get t).bind fun v => (resultV P e H rs).map (v :: ·)
 | .cell a t :: rs => ((e.get a).bind fun a => loadV P t a H).bind fun v => (resultV P e H rs).map (v :: ·)
def tupleV : List Value → Value
 | [v] => v
 | vs => .tuple vs.toArray
def doneK (P : Program) (rs : List ResultVar) (r : AExit × Env) (H : Heap) : Res Value :=
 match r.1 with
 | .exit _ => .stuck
 | _ => opt ((resultV P r.2 H rs).map tupleV) H
end Go.Sw
end
section
namespace Go.Sw
open Go.RowKit
structure MB where
 blk : Nat
 base : Nat
 ext : Nat
 esz : Nat
 ro : Bool
structure Mu where
 f : Nat → Option MB
 z : Nat → Option Obj
instance : CoeFun Mu (fun _ => Nat → Option MB) := ⟨Mu.f⟩
inductive VR (μ : Mu) : Value → Value → Prop
 | bool (b : Bool) : VR μ (.bool b) (.bool b)
 | int (k : IntKind) (n : Int) : VR μ (.int k n) (.int k n)
 | string (s : ByteArray) : VR μ (.string s) (.string s)
 | nilPtr : VR μ (.pointer none) (.pointer none)
 | ptr (b off : Nat) (m : MB) (h : μ b = some m) : VR μ (.pointer (some ⟨b, off, none⟩)) (.pointer (some ⟨m.blk, m.base + off, none⟩))
 | nilSlice : VR μ (.slice none 0 0) (.slice none 0 0)
 | slice (b off off' len cap cap' : Nat) (m : MB) (h : μ b = some m) (hl : len ≤ cap) (hc : cap ≤ cap') (ho : cap' = 0 ∨ off' = m.base + off) (hx : cap' = cap ∨ m.ro = true ∨ off + cap' * m.esz ≤ m.ext) :
   VR μ (.slice (some ⟨b, off, none⟩) len cap) (.slice (some ⟨m.blk, off', none⟩) len cap')
 | unsure (a : Option Addr) : VR μ (.slice (some ⟨0, 0, some 1⟩) 0 0) (.slice a 0 0)
 | list (len : Nat) (p : Array FieldStep) (g : FuncId) (cells ys : Array Value) (blk off cap : Nat) (cs : Array Value) (el : TypeId) (fz : Nat × Nat) (hz : μ.z blk = some (.cells cs el fz)) (hl : off + cells.size ≤ cs.size) (hc : len ≤ cap) (hg : g ≠ 2)
   (h0 : ∀ v, v ∈ cells.toList → v.oneCell' = true) (h2 : ∀ (i : Nat) (v v' : Value), cells[i]? = some v → cs[off + i]? = some v' → VR μ v v') :
   VR μ (.func (.via len p g false) cells ys) (.slice (some ⟨blk, off, none⟩) len cap)
 | empty (p : Array FieldStep) (g : FuncId) (cells ys : Array Value) (a : Option Addr) (cap : Nat) (hn : a = none → cap = 0 ∧ g ≠ 1) (hs : g = 2 → a = none) : VR μ (.func (.via 0 p g false) cells ys) (.slice a 0 cap)
 | box (n : Nat) (p : Array FieldStep) (g : FuncId) (cells ys : Array Value) (blk off : Nat) (cs : Array Value) (el : TypeId) (fz : Nat × Nat) (hz : μ.z blk = some (.cells cs el fz)) (hl : off + cells.size ≤ cs.size)
   (h0 : ∀ v, v ∈ cells.toList → v.oneCell' = true) (h2 : ∀ (i : Nat) (v v' : Value), cells[i]? = some v → cs[off + i]? = some v' → VR μ v v') :
   VR μ (.func (.via n p g true) cells ys) (.pointer (some ⟨blk, off, none⟩))
 | bare (a : Addr) : VR μ (.slice (some ⟨0, 0, some 0⟩) 0 0) (.slice (some a) 0 0)
 | nilMap : VR μ (.map none) (.map none)
 | map (b : Nat) (m : MB) (h : μ b = some m) : VR μ (.map (some b)) (.map (some m.blk))
 | nilFunc : VR μ .nilFunc .nilFunc
 | func (fn : FuncId) (xs xs' ys ys' : Array Value) (h1 : xs.size = xs'.size) (h2 : ∀ (i : Nat) (v v' : Value), xs[i]? = some v → xs'[i]? = some v' → VR μ v v')
   (h3 : ys.size = ys'.size) (h4 : ∀ (i : Nat) (v v' : Value), ys[i]? = some v → ys'[i]? = some v' → VR μ v v') : VR μ (.func (.func fn) xs ys) (.func (.func fn) xs' ys')
 | nilIface : VR μ .nilIface .nilIface
 | iface (t : TypeId) (v v' : Value) (h : VR μ v v') : VR μ (.iface t v) (.iface t v')
 | agg (xs xs' : Array Value) (h0 : ∀ v, v ∈ xs.toList → v.oneCell' = true) (h1 : xs.size = xs'.size) (h2 : ∀ (i : Nat) (v v' : Value), xs[i]? = some v → xs'[i]? = some v' → VR μ v v') : VR μ (.agg xs) (.agg xs')
 | tuple (xs xs' : Array Value) (h1 : xs.size = xs'.size) (h2 : ∀ (i : Nat) (v v' : Value), xs[i]? = some v → xs'[i]? = some v' → VR μ v v') : VR μ (.tuple xs) (.tuple xs')
def Ones (l : List Value) : Prop := ∀ v, v ∈ l → v.oneCell' = true
def VRs (μ : Mu) (l l' : List Value) : Prop := l.length = l'.length ∧ ∀ (i : Nat) v v', l[i]? = some v → l'[i]? = some v' → VR μ v v'
structure Mu.le (μ μ' : Mu) : Prop where
 f : ∀ b m, μ b = some m → μ' b = some m
 z : ∀ k o, μ.z k = some o → μ'.z k = some o
theorem Mu.le_refl (μ : Mu) : μ.le μ := ⟨fun _ _ h => h, fun _ _ h => h⟩
theorem Mu.le_trans {a b c : Mu} (h : a.le b) (k : b.le c) : a.le c := ⟨fun x m e => k.f x m (h.f x m e), fun x m e => k.z x m (h.z x m e)⟩
theorem VR.up {μ μ' : Mu} (hle : μ.le μ') {v v' : Value} (h : VR μ v v') : VR μ' v v' := by
 induction h with
 | bool b => exact .bool b
 | int k n => exact .int k n
 | string s => exact .string s
 | nilPtr => exact .nilPtr
 | ptr b off m h => exact .ptr b off m (hle.f _ _ h)
 | nilSlice => exact .nilSlice
 | slice b off off' len cap cap' m h hl hc ho hx => exact .slice b off off' len cap cap' m (hle.f _ _ h) hl hc ho hx
 | unsure a => exact .unsure a
 | list len p g cells ys blk off cap cs el fz hz hl hc hg h0 _ ih => exact .list len p g cells ys blk off cap cs el fz (hle.z _ _ hz) hl hc hg h0 ih
 | empty p g cells ys a cap hn hs => exact .empty p g cells ys a cap hn hs
 | box n p g cells ys blk off cs el fz hz hl h0 _ ih => exact .box n p g cells ys blk off cs el fz (hle.z _ _ hz) hl h0 ih
 | bare a => exact .bare a
 | nilMap => exact .nilMap
 | map b m h => exact .map b m (hle.f _ _ h)
 | nilFunc => exact .nilFunc
 | func fn xs xs' ys ys' h1 _ h3 _ ih1 ih2 => exact .func fn xs xs' ys ys' h1 ih1 h3 ih2
 | nilIface => exact .nilIface
 | iface t v v' _ ih => exact .iface t v v' ih
 | agg xs xs' h0 h1 _ ih => exact .agg xs xs' h0 h1 ih
 | tuple xs xs' h1 _ ih => exact .tuple xs xs' h1 ih
theorem VRs.up {μ μ' : Mu} (hle : μ.le μ') {l l' : List Value} (h : VRs μ l l') : VRs μ' l l' := ⟨h.1, fun i v v' a b => (h.2 i v v' a b).up hle⟩
theorem VRs.nil {μ : Mu} : VRs μ [] [] := ⟨rfl, fun i v v' h => by simp at h⟩
theorem VRs.cons {μ : Mu} {v v' : Value} {l l' : List Value} (h : VR μ v v') (hl : VRs μ l l') : VRs μ (v :: l) (v' :: l') := by
 refine ⟨by simp [hl.1], fun i a b ha hb => ?_⟩
 cases i with
 | zero => simp at ha hb; subst ha; subst hb; exact h
 | succ i => simp at ha hb; exact hl.2 i a b ha hb
theorem VRs.nil_inv {μ : Mu} {l' : List Value} (h : VRs μ [] l') : l' = [] := List.length_eq_zero_iff.1 h.1.symm
theorem VRs.cons_inv {μ : Mu} {v : Value} {l l' : List Value} (h : VRs μ (v :: l) l') : ∃ v' r', l' = v' :: r' ∧ VR μ v v' ∧ VRs μ l r' := by
 cases l' with
 | nil => have := h.1; simp at this
 | cons v' r' =>
  refine ⟨v', r', rfl, h.2 0 v v' rfl rfl, ?_, fun i a b ha hb => h.2 (i + 1) a b (by simpa using ha) (by simpa using hb)⟩
  have := h.1; simp at this; exact this
theorem VRs.get {μ : Mu} {l l' : List Value} (h : VRs μ l l') {i : Nat} {v : Value} (hv : l[i]? = some v) : ∃ v', l'[i]? = some v' ∧ VR μ v v' := by
 have hi : i < l.length := (List.getElem?_eq_some_iff.1 hv).1
 have hi' : i < l'.length := by rw [← h.1]; exact hi
 exact ⟨l'[i], List.getElem?_eq_getElem hi', h.2 i v _ hv (List.getElem?_eq_getElem hi')⟩
theorem VRs.get_none {μ : Mu} {l l' : List Value} (h : VRs μ l l') {i : Nat} (hv : l[i]? = none) : l'[i]? = none := by
 rw [List.getElem?_eq_none_iff] at hv ⊢
 rw [← h.1]; exact hv
theorem VRs.append {μ : Mu} {a a' b b' : List Value} (h : VRs μ a a') (k : VRs μ b b') : VRs μ (a ++ b) (a' ++ b') := by
 refine ⟨by simp [h.1, k.1], fun i v v' hv hv' => ?_⟩
 by_cases hi : i < a.length
 ·rw [List.getElem?_append_left hi] at hv
  rw [List.getElem?_append_left (by rw [← h.1]; exact hi)] at hv'
  exact h.2 i v v' hv hv'
 ·rw [List.getElem?_append_right (by omega)] at hv
  rw [List.getElem?_append_right (by rw [← h.1]; omega), ← h.1] at hv'
  exact k.2 _ v v' hv hv'
theorem VRs.take {μ : Mu} {a a' : List Value} (h : VRs μ a a') (n : Nat) : VRs μ (a.take n) (a'.take n) := by
 refine ⟨by simp [h.1], fun i v v' hv hv' => ?_⟩
 rw [List.getElem?_take] at hv hv'
 split at hv
 ·rw [if_pos (by assumption)] at hv'; exact h.2 i v v' hv hv'
 ·cases hv
theorem VRs.drop {μ : Mu} {a a' : List Value} (h : VRs μ a a') (n : Nat) : VRs μ (a.drop n) (a'.drop n) := by
 refine ⟨by simp [h.1], fun i v v' hv hv' => ?_⟩
 rw [List.getElem?_drop] at hv hv'
 exact h.2 _ v v' hv hv'
theorem VRs.of_arr {μ : Mu} {xs xs' : Array Value} (h1 : xs.size = xs'.size) (h2 : ∀ (i : Nat) v v', xs[i]? = some v → xs'[i]? = some v' → VR μ v v') : VRs μ xs.toList xs'.toList :=
 ⟨by simpa using h1, fun i v v' a b => h2 i v v' (by simpa using a) (by simpa using b)⟩
theorem VRs.arr {μ : Mu} {xs xs' : Array Value} (h : VRs μ xs.toList xs'.toList) : xs.size = xs'.size ∧ ∀ (i : Nat) v v', xs[i]? = some v → xs'[i]? = some v' → VR μ v v' :=
 ⟨by simpa using h.1, fun i v v' a b => h.2 i v v' (by simpa using a) (by simpa using b)⟩
theorem VR.agg' {μ : Mu} {l l' : List Value} (h : VRs μ l l') (h0 : Ones l) : VR μ (.agg l.toArray) (.agg l'.toArray) :=
 .agg _ _ (fun v hv => h0 v (by simpa using hv)) (by simpa using h.1) fun i v v' a b => h.2 i v v' (by simpa using a) (by simpa using b)
theorem Ones.nil : Ones [] := fun v h => by simp at h
theorem Ones.append {a b : List Value} (h : Ones a) (k : Ones b) : Ones (a ++ b) := fun v hv => (List.mem_append.1 hv).elim (h v) (k v)
theorem Ones.take {a : List Value} (h : Ones a) (n : Nat) : Ones (a.take n) := fun v hv => h v (List.mem_of_mem_take hv)
theorem Ones.drop {a : List Value} (h : Ones a) (n : Nat) : Ones (a.drop n) := fun v hv => h v (List.mem_of_mem_drop hv)
theorem Ones.get {a : List Value} (h : Ones a) {i : Nat} {v : Value} (hv : a[i]? = some v) : v.oneCell' = true := h v (List.mem_of_getElem? hv)
theorem VR.one {μ : Mu} {v v' : Value} (h : VR μ v v') : v'.oneCell' = v.oneCell' := by cases h <;> rfl
theorem VRs.ones {μ : Mu} {l l' : List Value} (h : VRs μ l l') (h0 : Ones l) : Ones l' := by
 intro v hv
 obtain ⟨i, hi⟩ := List.mem_iff_getElem?.1 hv
 have hlt : i < l.length := by rw [h.1]; exact (List.getElem?_eq_some_iff.1 hi).1
 rw [(h.2 i _ v (List.getElem?_eq_getElem hlt) hi).one]
 exact h0 _ (List.getElem_mem hlt)
theorem VR.ζ62 {μ : Mu} {v v' : Value} (h : VR μ v v') (hs : storable v = true) : Ones v.cells.toList := by
 have one : ∀ {u : Value}, u.oneCell' = true → Ones (#[u] : Array Value).toList := fun hu v hv => by simp at hv; subst hv; exact hu
 cases h with
 | agg xs xs' h0 h1 h2 => exact h0
 | tuple xs xs' h1 h2 => simp [storable] at hs
 | _ => exact one rfl
theorem VR.cells {μ : Mu} {v v' : Value} (h : VR μ v v') : VRs μ v.cells.toList v'.cells.toList := by
 have one : ∀ {u u' : Value}, VR μ u u' → VRs μ (#[u] : Array Value).toList (#[u'] : Array Value).toList := fun hu => VRs.cons hu VRs.nil
 cases h with
 | agg xs xs' h0 h1 h2 => exact VRs.of_arr h1 h2
 | bool b => exact one (.bool b)
 | int k n => exact one (.int k n)
 | string s => exact one (.string s)
 | nilPtr => exact one .nilPtr
 | ptr b off m h => exact one (.ptr b off m h)
 | nilSlice => exact one .nilSlice
 | slice b off off' len cap cap' m h hl hc ho hx => exact one (.slice b off off' len cap cap' m h hl hc ho hx)
 | bare a => exact one (.bare a)
 | unsure a => exact one (.unsure a)
 | list len p g cells ys blk off cap cs el fz hz hl hc hg h0 h2 => exact one (.list len p g cells ys blk off cap cs el fz hz hl hc hg h0 h2)
 | empty p g cells ys a cap hn hs => exact one (.empty p g cells ys a cap hn hs)
 | box n p g cells ys blk off cs el fz hz hl h0 h2 => exact one (.box n p g cells ys blk off cs el fz hz hl h0 h2)
 | nilMap => exact one .nilMap
 | map b m h => exact one (.map b m h)
 | nilFunc => exact one .nilFunc
 | func fn xs xs' ys ys' h1 h2 h3 h4 => exact one (.func fn xs xs' ys ys' h1 h2 h3 h4)
 | nilIface => exact one .nilIface
 | iface t v v' h => exact one (.iface t v v' h)
 | tuple xs xs' h1 h2 => exact one (.tuple xs xs' h1 h2)
theorem VR.ζ55 {μ : Mu} {v : Value} (h : plain1 v = true) : VR μ v v := by
 unfold plain1 at h
 split at h <;> first | constructor | (simp at h)
theorem ζkq {v : Value} (h : plain1 v = true) : v.oneCell' = true := by
 unfold plain1 at h
 split at h <;> first | rfl | (simp at h)
theorem Ones.ζ55 : ∀ {l : List Value}, plainList plain1 l = true → Ones l
 | [], _ => Ones.nil
 | v :: l, h => by
  simp only [plainList, Bool.and_eq_true] at h
  intro u hu
  rcases List.mem_cons.1 hu with rfl | hu
  ·exact ζkq h.1
  ·exact Ones.ζ55 h.2 u hu
theorem VRs.ζ55 {μ : Mu} : ∀ {l : List Value}, plainList plain1 l = true → VRs μ l l
 | [], _ => VRs.nil
 | v :: l, h => by
  simp only [plainList, Bool.and_eq_true] at h
  exact VRs.cons (VR.ζ55 h.1) (VRs.ζ55 h.2)
theorem VR.of_plain {μ : Mu} {v : Value} (h : plain v = true) : VR μ v v := by
 unfold plain at h
 split at h
 ·rename_i cs; exact .agg _ _ (Ones.ζ55 h) rfl (VRs.ζ55 h).arr.2
 ·rename_i cs; exact .tuple _ _ rfl (VRs.ζ55 h).arr.2
 ·rename_i fn a b
  simp only [Bool.and_eq_true] at h
  exact .func _ _ _ _ _ rfl (VRs.ζ55 h.1).arr.2 rfl (VRs.ζ55 h.2).arr.2
 ·exact VR.ζ55 h
structure Base where
 w : World
 S : Nat → Prop
 R : Nat → Prop
 Z : Nat → Prop
structure Stays (b : Base) (w : World) : Prop where
 os : w.os = b.w.os
 tape : w.tape = b.w.tape
 output : w.output = b.w.output
 size : b.w.heap.size ≤ w.heap.size
 block : ∀ k, b.S k → w.heap[k]? = b.w.heap[k]?
 lt : ∀ k, b.S k → k < b.w.heap.size
 sub : ∀ k, b.R k → b.S k
theorem Stays.step {b : Base} {w w' : World} (h : Stays b w) (ho : w'.os = w.os) (ht : w'.tape = w.tape) (hp : w'.output = w.output) (hs : w.heap.size ≤ w'.heap.size) (hb : ∀ k, b.S k → w'.heap[k]? = w.heap[k]?) : Stays b w' :=
 ⟨ho.trans h.os, ht.trans h.tape, hp.trans h.output, Nat.le_trans h.size hs, fun k hk => (hb k hk).trans (h.block k hk), h.lt, h.sub⟩
structure BR (B0 : Base) (μ : Mu) (w : World) (k : Blk) (m : MB) : Prop where
 esz : m.esz = k.esz
 ro : m.ro = k.ro
 here : ∃ cs el fz, w.heap[m.blk]? = some (.cells cs el fz) ∧ (k.ro = false → fz = (0, 0)) ∧ m.base + m.ext ≤ cs.size ∧
  ∀ (i : Nat) v, k.cells[i]? = some v → ∃ v', cs[m.base + i]? = some v' ∧ VR μ v v'
 ones : Ones k.cells
 ext : k.cells.length ≤ m.ext
 own : k.ro = false → ¬ B0.S m.blk
 low : k.ro = true → B0.R m.blk
structure ZR (w0 : Base) (μ : Mu) (H : Heap) (w : World) : Prop where
 at_ : ∀ k o, μ.z k = some o → w.heap[k]? = some o
 old : ∀ k o, μ.z k = some o → w0.S k → w0.Z k
 apart : ∀ k o b x m, μ.z k = some o → H.get b = some x → x.ro = false → μ b = some m → m.blk ≠ k
structure HR (w0 : Base) (μ : Mu) (H : Heap) (w : World) : Prop where
 dom : ∀ b m, μ b = some m → b < H.n
 blk : ∀ b k, H.get b = some k → ∃ m, μ b = some m ∧ BR w0 μ w k m
 inj : ∀ b b' k k' m m', H.get b = some k → H.get b' = some k' → k.ro = false → k'.ro = false → μ b = some m → μ b' = some m' → m.blk = m'.blk → b = b'
 below : Stays w0 w
 zr : ZR w0 μ H w
theorem ZR.lt {w0 : Base} {μ : Mu} {H : Heap} {w : World} (h : ZR w0 μ H w) {k : Nat} {o : Obj} (hz : μ.z k = some o) : k < w.heap.size := by
 have := h.at_ k o hz
 rcases Nat.lt_or_ge k w.heap.size with hlt | hge
 ·exact hlt
 ·rw [Array.getElem?_eq_none hge] at this; cases this
theorem ZR.step {w0 : Base} {μ μ' : Mu} {H H' : Heap} {w w' : World} (h : ZR w0 μ H w) (hz : μ'.z = μ.z) (hw : ∀ k o, μ.z k = some o → w'.heap[k]? = w.heap[k]?)
  (hb : ∀ b x m, H'.get b = some x → x.ro = false → μ' b = some m → (∃ b' x', H.get b' = some x' ∧ x'.ro = false ∧ ∃ m', μ b' = some m' ∧ m'.blk = m.blk) ∨ w.heap.size ≤ m.blk) : ZR w0 μ' H' w' := by
 constructor
 ·intro k o hk
  rw [hz] at hk
  rw [hw k o hk]; exact h.at_ k o hk
 ·intro k o hk
  rw [hz] at hk
  exact h.old k o hk
 ·intro k o b x m hk hx hr hm
  rw [hz] at hk
  rcases hb b x m hx hr hm with ⟨b', x', h1, h2, m', h3, h4⟩ | hge
  ·rw [← h4]; exact h.apart k o b' x' m' hk h1 h2 h3
  ·have := h.lt hk; omega
def Mu.set (μ : Mu) (b : Nat) (m : MB) : Mu := ⟨fun c => if c = b then some m else μ c, μ.z⟩
theorem Mu.set_get (μ : Mu) (b : Nat) (m : MB) (c : Nat) : (μ.set b m) c = if c = b then some m else μ c := rfl
theorem Mu.set_z (μ : Mu) (b : Nat) (m : MB) : (μ.set b m).z = μ.z := rfl
theorem Mu.le_set {μ : Mu} {H : Heap} (dom : ∀ b m, μ b = some m → b < H.n) (m : MB) : μ.le (μ.set H.n m) := by
 refine ⟨fun b x h => ?_, fun _ _ h => h⟩
 have := dom b x h
 rw [Mu.set_get]
 rw [if_neg (by omega)]; exact h
theorem BR.keep {B0 : Base} {μ μ' : Mu} {w w' : World} {k : Blk} {m : MB} (h : BR B0 μ w k m) (hle : μ.le μ') (hw : w'.heap[m.blk]? = w.heap[m.blk]?) : BR B0 μ' w' k m := by
 obtain ⟨cs, el, fz, h1, h2, h3, h4⟩ := h.here
 refine ⟨h.esz, h.ro, ⟨cs, el, fz, hw.trans h1, h2, h3, fun i v hv => ?_⟩, h.ones, h.ext, h.own, h.low⟩
 obtain ⟨v', e, r⟩ := h4 i v hv
 exact ⟨v', e, r.up hle⟩
theorem BR.lt {B0 : Base} {μ : Mu} {w : World} {k : Blk} {m : MB} (h : BR B0 μ w k m) : m.blk < w.heap.size := by
 obtain ⟨cs, el, fz, h1, _⟩ := h.here
 rcases Nat.lt_or_ge m.blk w.heap.size with hlt | hge
 ·exact hlt
 ·rw [Array.getElem?_eq_none hge] at h1; cases h1
theorem ζ2y (w : World) (o : Obj) (k : Nat) (h : k < w.heap.size) : (w.alloc o).heap[k]? = w.heap[k]? := Below.heap_alloc w o k h
theorem ζb3 (w : World) (o : Obj) : (w.alloc o).heap[w.heap.size]? = some o := by
 show (w.heap.push o)[w.heap.size]? = _
 simp
theorem HR.alloc {w0 : Base} {μ : Mu} {H : Heap} {w : World} (h : HR w0 μ H w) (cells : List Value) (cs : Array Value) (el : TypeId) (esz ext : Nat)
  (hsz : ext ≤ cs.size) (hext : cells.length ≤ ext) (h1 : Ones cells) (hv : ∀ (i : Nat) v, cells[i]? = some v → ∃ v', cs[i]? = some v' ∧ VR μ v v') :
  HR w0 (μ.set H.n ⟨w.heap.size, 0, ext, esz, false⟩) (H.push ⟨cells, esz, false⟩) (w.alloc (.cells cs el)) := by
 have hle := Mu.le_set h.dom (μ := μ) (H := H) ⟨w.heap.size, 0, ext, esz, false⟩
 have hs : ¬ w0.S w.heap.size := fun hq => by have h1 := h.below.lt _ hq; have h2 := h.below.size; omega
 constructor
 ·intro b m hb
  rw [Heap.n_push]
  rw [Mu.set_get] at hb
  split at hb
  ·omega
  ·have := h.dom b m hb; omega
 ·intro b k hk
  rw [Heap.get_push] at hk
  split at hk
  ·rename_i hb
   injection hk with hk
   subst hk hb
   refine ⟨⟨w.heap.size, 0, ext, esz, false⟩, by simp [Mu.set], rfl, rfl, ⟨cs, el, (0, 0), ζb3 _ _, fun _ => rfl, by simpa using hsz, fun i v hi => ?_⟩, h1, hext, fun _ => hs, fun hf => by cases hf⟩
   obtain ⟨v', e, r⟩ := hv i v hi
   exact ⟨v', by simpa using e, r.up hle⟩
  ·obtain ⟨m, hm, hb⟩ := h.blk b k hk
   exact ⟨m, hle.f _ _ hm, hb.keep hle (ζ2y _ _ _ hb.lt)⟩
 ·intro b b' k k' m m' hk hk' r r' hm hm' he
  rw [Heap.get_push] at hk hk'
  rw [Mu.set_get] at hm hm'
  by_cases e1 : b = H.n <;> by_cases e2 : b' = H.n
  ·omega
  ·rw [if_neg e2] at hk' hm'
   rw [if_pos e1] at hm
   obtain ⟨m2, hm2, hb2⟩ := h.blk b' k' hk'
   rw [hm'] at hm2; injection hm2 with hm2; subst hm2
   injection hm with hm; subst hm
   have := hb2.lt
   dsimp only at he; omega
  ·rw [if_neg e1] at hk hm
   rw [if_pos e2] at hm'
   obtain ⟨m2, hm2, hb2⟩ := h.blk b k hk
   rw [hm] at hm2; injection hm2 with hm2; subst hm2
   injection hm' with hm'; subst hm'
   have := hb2.lt
   dsimp only at he; omega
  ·rw [if_neg e1] at hk hm
   rw [if_neg e2] at hk' hm'
   exact h.inj b b' k k' m m' hk hk' r r' hm hm' he
 ·exact h.below.step rfl rfl rfl (by simp) fun k hk => ζ2y _ _ _ (by have h1 := h.below.lt _ hk; have h2 := h.below.size; omega)
 ·refine h.zr.step rfl (fun k o hk => ζ2y _ _ _ (h.zr.lt hk)) fun b x m hx hr hm => ?_
  rw [Heap.get_push] at hx
  rw [Mu.set_get] at hm
  split at hx
  ·rename_i hb
   rw [if_pos hb] at hm
   injection hm with hm; subst hm
   exact .inr (Nat.le_refl _)
  ·rename_i hb
   rw [if_neg hb] at hm
   exact .inl ⟨b, x, hx, hr, m, hm, rfl⟩
theorem HR.extra {w0 : Base} {μ : Mu} {H : Heap} {w : World} (h : HR w0 μ H w) (o : Obj) : HR w0 μ H (w.alloc o) := by
 constructor
 ·exact h.dom
 ·intro b k hk
  obtain ⟨m, hm, hb⟩ := h.blk b k hk
  exact ⟨m, hm, hb.keep (Mu.le_refl _) (ζ2y _ _ _ hb.lt)⟩
 ·exact h.inj
 ·exact h.below.step rfl rfl rfl (by simp) fun k hk => ζ2y _ _ _ (by have h1 := h.below.lt _ hk; have h2 := h.below.size; omega)
 ·exact h.zr.step rfl (fun k o hk => ζ2y _ _ _ (h.zr.lt hk)) fun b x m hx hr hm => .inl ⟨b, x, hx, hr, m, hm, rfl⟩
theorem HR.drew {w0 : Base} {μ : Mu} {H : Heap} {w w' : World} (h : HR w0 μ H w) (hh : w'.heap = w.heap) (ho : w'.os = w.os) (ht : w'.tape = w.tape) (hp : w'.output = w.output) : HR w0 μ H w' := by
 constructor
 ·exact h.dom
 ·intro b k hk
  obtain ⟨m, hm, hb⟩ := h.blk b k hk
  exact ⟨m, hm, hb.keep (Mu.le_refl _) (by rw [hh])⟩
 ·exact h.inj
 ·exact h.below.step ho ht hp (by rw [hh]; exact Nat.le_refl _) fun k _ => by rw [hh]
 ·exact h.zr.step rfl (fun k o _ => by rw [hh]) fun b x m hx hr hm => .inl ⟨b, x, hx, hr, m, hm, rfl⟩
theorem HR.kill {w0 : Base} {μ : Mu} {H : Heap} {w : World} (h : HR w0 μ H w) {b : Nat} {k : Blk} (hb : H.get b = some k) : HR w0 μ (H.set b none) w := by
 constructor
 ·intro c m hc; rw [Heap.n_set]; exact h.dom c m hc
 ·intro c x hc
  rw [Heap.get_set hb] at hc
  split at hc
  ·cases hc
  ·exact h.blk c x hc
 ·intro c c' x x' m m' hc hc'
  rw [Heap.get_set hb] at hc hc'
  split at hc
  ·cases hc
  ·split at hc'
   ·cases hc'
   ·exact h.inj c c' x x' m m' hc hc'
 ·exact h.below
 ·refine h.zr.step rfl (fun _ _ _ => rfl) fun c x m hx hr hm => ?_
  rw [Heap.get_set hb] at hx
  split at hx
  ·cases hx
  ·exact .inl ⟨c, x, hx, hr, m, hm, rfl⟩
theorem HR.cell {w0 : Base} {μ : Mu} {H : Heap} {w : World} (h : HR w0 μ H w) {b off : Nat} {k : Blk} {m : MB} {v : Value} (hk : H.get b = some k) (hm : μ b = some m) (hv : k.cells[off]? = some v) :
  ∃ v', w.cell? ⟨m.blk, m.base + off, none⟩ = some v' ∧ VR μ v v' ∧ v.oneCell' = true := by
 obtain ⟨m2, hm2, hb⟩ := h.blk b k hk
 rw [hm] at hm2; injection hm2 with hm2; subst hm2
 obtain ⟨cs, el, fz, h1, h2, h3, h4⟩ := hb.here
 obtain ⟨v', e, r⟩ := h4 off v hv
 exact ⟨v', by simp [World.cell?, h1, e], r, hb.ones.get hv⟩
theorem add_at (b off n : Nat) : (⟨b, off, none⟩ : Addr).add n = ⟨b, off + n, none⟩ := by unfold Addr.add; split <;> simp_all
theorem HR.cells {w0 : Base} {μ : Mu} {H : Heap} {w : World} (h : HR w0 μ H w) {b off n : Nat} {m : MB} {vs : List Value} (hm : μ b = some m) (hv : cellsAt H b off n = some vs) :
  ∃ vs', vs'.length = n ∧ (∀ j v, vs'[j]? = some v → w.cell? ((⟨m.blk, m.base + off, none⟩ : Addr).add j) = some v) ∧ VRs μ vs vs' ∧ Ones vs := by
 unfold cellsAt at hv
 cases hk : H.get b with
 | none => simp [hk] at hv
 | some k =>
  simp only [hk, Option.bind_some] at hv
  split at hv
  ·rename_i hle
   injection hv with hv
   subst hv
   have hle := Nat.le_of_ble_eq_true hle
   obtain ⟨m2, hm2, hb⟩ := h.blk b k hk
   rw [hm] at hm2; injection hm2 with hm2; subst hm2
   obtain ⟨cs, el, fz, h1, h2, h3, h4⟩ := hb.here
   have hx := hb.ext
   have hlen : ((k.cells.drop off).take n).length = n := by simp; omega
   have hlen' : ((cs.toList.drop (m.base + off)).take n).length = n := by simp; omega
   refine ⟨(cs.toList.drop (m.base + off)).take n, hlen', fun j v hj => ?_, ⟨hlen.trans hlen'.symm, fun j v v' hj hj' => ?_⟩, (hb.ones.drop _).take _⟩
   ·rw [List.getElem?_take] at hj
    split at hj
    ·rw [List.getElem?_drop] at hj
     rw [add_at]
     simp only [World.cell?, h1]
     simpa using hj
    ·cases hj
   ·rw [List.getElem?_take] at hj hj'
    split at hj
    ·rename_i hjn
     rw [if_pos hjn, List.getElem?_drop] at hj'
     rw [List.getElem?_drop] at hj
     obtain ⟨u, e, r⟩ := h4 _ v hj
     rw [← Nat.add_assoc] at e
     have : u = v' := by
      have e2 : cs[m.base + off + j]? = some v' := by simpa using hj'
      rw [e] at e2; injection e2
     subst this
     exact r
    ·cases hj
  ·cases hv
end Go.Sw
end
section
namespace Go.Sw
open Go.RowKit
theorem HR.other {w0 : Base} {μ : Mu} {H : Heap} {w : World} (h : HR w0 μ H w) {b b' : Nat} {k k' : Blk} {m m' : MB} (hk : H.get b = some k) (hk' : H.get b' = some k') (hm : μ b = some m) (hm' : μ b' = some m')
  (ho : k.ro = false) (hne : b' ≠ b) : m'.blk ≠ m.blk := by
 obtain ⟨m1, e1, b1⟩ := h.blk b k hk
 rw [hm] at e1; injection e1 with e1; subst e1
 obtain ⟨m2, e2, b2⟩ := h.blk b' k' hk'
 rw [hm'] at e2; injection e2 with e2; subst e2
 intro he
 cases hr : k'.ro with
 | true =>
  have l1 := b1.own ho
  have l2 := h.below.sub _ (b2.low hr)
  rw [he] at l2
  exact l1 l2
 | false => exact hne (h.inj b' b k' k _ _ hk' hk hr ho hm' hm he)
theorem HR.rewrite {w0 : Base} {μ : Mu} {H : Heap} {w : World} (h : HR w0 μ H w) {b : Nat} {k : Blk} {m : MB} (hk : H.get b = some k) (hm : μ b = some m) (ho : k.ro = false)
  {cs : Array Value} {el : TypeId} {fz : Nat × Nat} (hw : w.heap[m.blk]? = some (.cells cs el fz)) (cs2 : Array Value) (cells2 : List Value) (hs : cs2.size = cs.size) (hl : cells2.length = k.cells.length) (h1 : Ones cells2)
  (hv : ∀ (i : Nat) v, cells2[i]? = some v → ∃ v', cs2[m.base + i]? = some v' ∧ VR μ v v') :
  HR w0 μ (H.set b (some { k with cells := cells2 })) (w.setRow m.blk cs2) := by
 obtain ⟨m1, e1, b1⟩ := h.blk b k hk
 rw [hm] at e1; injection e1 with e1; subst e1
 obtain ⟨cs', el', fz', g1, g2, g3, g4⟩ := b1.here
 rw [hw] at g1; injection g1 with g1; injection g1 with g1 g1' g1''; subst g1 g1' g1''
 have hB := b1.own ho
 constructor
 ·intro c x hc; rw [Heap.n_set]; exact h.dom c x hc
 ·intro c x hc
  rw [Heap.get_set hk] at hc
  split at hc
  ·rename_i hcb
   injection hc with hc
   subst hc hcb
   refine ⟨m, hm, b1.esz, b1.ro, ⟨cs2, el, fz, setRow_heap w m.blk cs cs2 el fz hw, g2, by rw [hs]; exact g3, hv⟩, h1, ?_, b1.own, b1.low⟩
   show cells2.length ≤ m.ext
   rw [hl]; exact b1.ext
  ·rename_i hcb
   obtain ⟨m', hm', hb'⟩ := h.blk c x hc
   exact ⟨m', hm', hb'.keep (Mu.le_refl _) (setRow_other w m.blk m'.blk cs2 (h.other hk hc hm hm' ho hcb))⟩
 ·intro c c' x x' mm mm' hc hc' r r' hmm hmm' he
  rw [Heap.get_set hk] at hc hc'
  split at hc <;> split at hc'
  ·omega
  ·rename_i p q
   subst p
   rw [hm] at hmm; injection hmm with hmm; subst hmm
   exact absurd he.symm (h.other hk hc' hm hmm' ho q)
  ·rename_i p q
   subst q
   rw [hm] at hmm'; injection hmm' with hmm'; subst hmm'
   exact absurd he (h.other hk hc hm hmm ho p)
  ·exact h.inj c c' x x' mm mm' hc hc' r r' hmm hmm' he
 ·exact h.below.step rfl rfl rfl (by simp) fun i hi => setRow_other w m.blk i cs2 (fun q => hB (q ▸ hi))
 ·refine h.zr.step rfl (fun i o hi => setRow_other w m.blk i cs2 fun q => h.zr.apart i o b k m hi hk ho hm q.symm) fun c x mm hx hr hmm => ?_
  rw [Heap.get_set hk] at hx
  split at hx
  ·rename_i hcb
   subst hcb
   exact .inl ⟨c, k, hk, ho, mm, hmm, rfl⟩
  ·exact .inl ⟨c, x, hx, hr, mm, hmm, rfl⟩
theorem ζg2 (l : List Value) (off : Nat) (vs : List Value) (h : off + vs.length ≤ l.length) : (splice l off vs).length = l.length := by
 simp [splice]; omega
theorem ζcc (l : List Value) (off : Nat) (vs : List Value) (h : off + vs.length ≤ l.length) (i : Nat) :
  (splice l off vs)[i]? = if i < off then l[i]? else if i < off + vs.length then vs[i - off]? else l[i]? := by
 unfold splice
 by_cases h1 : i < off
 ·rw [if_pos h1, List.getElem?_append_left (by simp; omega), List.getElem?_take, if_pos h1]
 ·rw [if_neg h1, List.getElem?_append_right (by simp; omega)]
  have ht : (l.take off).length = off := by simp; omega
  rw [ht]
  by_cases h2 : i < off + vs.length
  ·rw [if_pos h2, List.getElem?_append_left (by omega)]
  ·rw [if_neg h2, List.getElem?_append_right (by omega), List.getElem?_drop]
   congr 1
   omega
theorem ζnm {l vs : List Value} (h : Ones l) (hv : Ones vs) (off : Nat) : Ones (splice l off vs) := (h.take _).append (hv.append (h.drop _))
section
variable {P : Program}
theorem ζbi {w0 : Base} {μ : Mu} {H H' : Heap} {w : World} (h : HR w0 μ H w) {b off off' : Nat} {m : MB} (hm : μ b = some m) {vs vs' : List Value} (hr : VRs μ vs vs') (h1 : Ones vs) (hp : putCells H b off vs = .ok () H')
  (hoff : vs = [] ∨ off' = m.base + off) :
  ∃ w', (storeCells ⟨m.blk, off', none⟩ vs').run P w = .ok () w' ∧ HR w0 μ H' w' := by
 unfold putCells at hp
 cases hk : H.get b with
 | none => simp [hk] at hp
 | some k =>
  simp only [hk] at hp
  split at hp
  ·rename_i hc
   injection hp with _ hp
   subst hp
   simp only [Bool.and_eq_true] at hc
   have hle := Nat.le_of_ble_eq_true hc.1
   have hro : k.ro = false := by simpa using hc.2
   obtain ⟨m1, e1, b1⟩ := h.blk b k hk
   rw [hm] at e1; injection e1 with e1; subst e1
   obtain ⟨cs, el, fz, g1, g2, g3, g4⟩ := b1.here
   have hfz := g2 hro
   subst hfz
   have hx := b1.ext
   have hlen := hr.1
   have hkl : (splice k.cells off vs).length = k.cells.length := ζg2 _ _ _ hle
   have ho1 : Ones (splice k.cells off vs) := ζnm b1.ones h1 off
   by_cases hnil : vs = []
   ·subst hnil
    have hnil' := hr.nil_inv
    subst hnil'
    refine ⟨w, rfl, ?_⟩
    have := h.rewrite hk hm hro g1 cs (splice k.cells off []) rfl hkl ho1 (fun i v hi => by
     rw [ζcc _ _ _ hle] at hi
     refine g4 i v ?_
     split at hi
     ·exact hi
     ·split at hi
      ·simp at hi
      ·exact hi)
    rwa [setRow_self w m.blk cs el (0, 0) g1] at this
   ·have hoff := hoff.resolve_left hnil
    subst hoff
    have hst := run_storeCells_at P m.blk (m.base + off) el vs' 0 cs w g1 (by omega) (hr.ones h1)
    refine ⟨_, hst, ?_⟩
    refine h.rewrite hk hm hro g1 _ _ (by simp; omega) hkl ho1 (fun i v hi => ?_)
    rw [ζcc _ _ _ hle] at hi
    have hsp : (cs.toList.take (m.base + off + 0) ++ vs' ++ cs.toList.drop (m.base + off + 0 + vs'.length)) = splice cs.toList (m.base + off) vs' := by simp [splice]
    rw [hsp]
    have hg := ζcc cs.toList (m.base + off) vs' (by simp; omega) (m.base + i)
    simp only [List.getElem?_toArray]
    rw [hg]
    split at hi
    ·rename_i c1
     rw [if_pos (by omega)]
     obtain ⟨v', e, r⟩ := g4 i v hi
     exact ⟨v', by simpa using e, r⟩
    ·rename_i c1
     rw [if_neg (by omega)]
     split at hi
     ·rename_i c2
      rw [if_pos (by omega), show m.base + i - (m.base + off) = i - off by omega]
      exact hr.get hi
     ·rename_i c2
      rw [if_neg (by omega)]
      obtain ⟨v', e, r⟩ := g4 i v hi
      exact ⟨v', by simpa using e, r⟩
  ·cases hp
theorem ζah {t : TypeId} {b : Bool} (h : isAggT P t = some b) (w : World) : (isAgg t).run P w = .ok b w := by
 unfold isAggT at h
 cases hu : P.underlying t with
 | none => simp [hu] at h
 | some d =>
  simp only [hu, Option.map_some, Option.some.injEq] at h
  simp only [isAgg, Sem.run_bind, run_underlying hu, Result.andThen_ok]
  cases d <;> simp_all
theorem ζ1u {t : TypeId} {n : Nat} (h : sizeT P t = some n) (w : World) : (sizeOf t).run P w = .ok n w := by
 unfold sizeT at h
 cases hi : P.info? t with
 | none => simp [hi] at h
 | some i =>
  simp [hi] at h
  simp [sizeOf, typeInfo, hi, h]
theorem ζ4i {t : TypeId} {z : Value} (h : zeroT P t = some z) : (∃ i, P.info? t = some i ∧ i.zero = some z) ∧ plain z = true ∧ storable z = true := by
 unfold zeroT at h
 cases hi : P.info? t with
 | none => simp [hi] at h
 | some i =>
  cases hz : i.zero with
  | none => simp [hi, hz] at h
  | some v =>
   simp [hi, hz] at h
   obtain ⟨h1, h2⟩ := h
   subst h2
   exact ⟨⟨i, rfl, hz⟩, h1.1, h1.2⟩
theorem ζc9 {t : TypeId} {z : Value} (h : zeroT P t = some z) (w : World) : (zeroValue t).run P w = .ok z w := by
 obtain ⟨⟨i, hi, hz⟩, _⟩ := ζ4i h
 simp [zeroValue, typeInfo, hi, hz]
theorem ζcb {t : TypeId} {n : Nat} {i : TypeInfo} (h : sizeT P t = some n) (hi : P.info? t = some i) : i.size = n := by
 unfold sizeT at h; simp [hi] at h; exact h
theorem ζbv {μ : Mu} {cells cs : Array Value} {off : Nat} (h2 : ∀ (i : Nat) (v v' : Value), cells[i]? = some v → cs[off + i]? = some v' → VR μ v v') (a b : Nat) :
  ∀ (i : Nat) (v v' : Value), (cells.extract a b)[i]? = some v → cs[off + a + i]? = some v' → VR μ v v' := by
 intro i v v' hv hv'
 rw [Array.getElem?_extract] at hv
 split at hv
 ·exact h2 (a + i) v v' hv (by rw [← Nat.add_assoc]; exact hv')
 ·cases hv
theorem ζ84 {cells : Array Value} (h0 : ∀ v, v ∈ cells.toList → v.oneCell' = true) (a b : Nat) : ∀ v, v ∈ (cells.extract a b).toList → v.oneCell' = true := by
 intro v hv
 rw [Array.toList_extract] at hv
 exact h0 v (List.mem_of_mem_drop (List.mem_of_mem_take hv))
theorem ζ5p (cells : Array Value) (a b : Nat) (h : b ≤ cells.size) : (cells.extract a b).size = b - a := by
 rw [Array.size_extract, Nat.min_eq_left h]
theorem ζhh {μ : Mu} {w : World} {cells cs : Array Value} {blk off n : Nat} {el : TypeId} {fz : Nat × Nat} (hat : w.heap[blk]? = some (.cells cs el fz)) (hl : off + cells.size ≤ cs.size) (h0 : ∀ v, v ∈ cells.toList → v.oneCell' = true)
  (h2 : ∀ (i : Nat) (v v' : Value), cells[i]? = some v → cs[off + i]? = some v' → VR μ v v') (hn : n ≤ cells.size) :
  ∃ vs', vs'.length = n ∧ (∀ j v, vs'[j]? = some v → w.cell? ((⟨blk, off, none⟩ : Addr).add j) = some v) ∧ VRs μ (cells.extract 0 n).toList vs' ∧ Ones (cells.extract 0 n).toList := by
 have hlen : ((cs.toList.drop off).take n).length = n := by simp; omega
 refine ⟨(cs.toList.drop off).take n, hlen, fun j v hj => ?_, ⟨?_, fun j v v' hj hj' => ?_⟩, ζ84 h0 0 n⟩
 ·rw [List.getElem?_take] at hj
  split at hj
  ·rw [List.getElem?_drop] at hj
   rw [add_at]
   simp only [World.cell?, hat]
   simpa using hj
  ·cases hj
 ·rw [hlen]
  have := ζ5p cells 0 n hn
  rw [Array.length_toList, this]; omega
 ·rw [List.getElem?_take] at hj'
  split at hj'
  ·rw [List.getElem?_drop] at hj'
   rw [Array.getElem?_toList, Array.getElem?_extract] at hj
   split at hj
   ·rw [Nat.zero_add] at hj
    exact h2 j v v' hj (by simpa using hj')
   ·cases hj
  ·cases hj'
theorem load_sim {w0 : Base} {μ : Mu} {H : Heap} {w : World} (h : HR w0 μ H w) {t : TypeId} {a a' v : Value} (ha : VR μ a a') (hv : loadV P t a H = some v) :
  ∃ v', (Instr.loadAt t a').run P w = .ok v' w ∧ VR μ v v' := by
 unfold loadV at hv
 split at hv
 ·rename_i b off
  cases ha with
  | ptr _ _ m hm =>
   split at hv
   ·rename_i n ht hn
    cases hc : cellsAt H b off n with
    | none => simp [hc] at hv
    | some cs =>
     simp [hc] at hv
     subst hv
     obtain ⟨vs', hl, hcell, hr, ho⟩ := h.cells hm hc
     have hrun := run_loadCells_list (P := P) w ⟨m.blk, m.base + off, none⟩ vs' hcell
     refine ⟨.agg vs'.toArray, ?_, VR.agg' hr ho⟩
     rw [hl] at hrun
     simp [Instr.loadAt, Instr.sureAddr, loadVar, ζah ht, ζ1u hn, hrun]
   ·rename_i ht
    cases hk : H.get b with
    | none => simp [hk] at hv
    | some k =>
     simp [hk] at hv
     obtain ⟨v', hc, hr, _⟩ := h.cell hk hm hv
     refine ⟨v', ?_, hr⟩
     simp [Instr.loadAt, Instr.sureAddr, loadVar, ζah ht, hc]
   ·cases hv
 ·rename_i cs _
  cases ha with
  | box _ _ _ _ _ blk off cs2 el fz hz hl h0 h2 =>
   have hat := h.zr.at_ _ _ hz
   split at hv
   ·rename_i n ht hn
    split at hv
    ·rename_i hle
     injection hv with hv
     subst hv
     obtain ⟨vs', hlen, hcell, hr, ho⟩ := ζhh hat hl h0 h2 hle
     have hrun := run_loadCells_list (P := P) w ⟨blk, off, none⟩ vs' hcell
     refine ⟨.agg vs'.toArray, ?_, ?_⟩
     ·rw [hlen] at hrun
      simp [Instr.loadAt, Instr.sureAddr, loadVar, ζah ht, ζ1u hn, hrun]
     ·have := VR.agg' hr ho
      rwa [Array.toArray_toList] at this
    ·cases hv
   ·rename_i ht
    have hlt : 0 < cs.size := by
     rcases Nat.eq_zero_or_pos cs.size with h1 | h1
     ·rw [Array.getElem?_eq_none (by omega)] at hv; cases hv
     ·exact h1
    have hc : cs2[off]? = some cs2[off] := Array.getElem?_eq_getElem (by omega)
    refine ⟨cs2[off], ?_, h2 0 v _ hv (by rw [Nat.add_zero]; exact hc)⟩
    simp [Instr.loadAt, Instr.sureAddr, loadVar, ζah ht, World.cell?, hat, hc]
   ·cases hv
 ·cases hv
theorem ζqt {w0 : Base} {μ : Mu} {H H' : Heap} {w : World} (h : HR w0 μ H w) {t : TypeId} {a a' v v' : Value} (ha : VR μ a a') (hv : VR μ v v') (hst : storeV P t a v H = .ok () H') :
  ∃ w', (Instr.storeAt t a' v').run P w = .ok () w' ∧ HR w0 μ H' w' := by
 unfold storeV at hst
 split at hst
 ·rename_i b off
  cases ha with
  | ptr _ _ m hm =>
   split at hst
   ·rename_i n hn
    split at hst
    ·rename_i hsz
     simp only [Bool.and_eq_true] at hsz
     have hs := hsz.2
     have hsz : v.cells.size = n := by simpa using hsz.1
     have hc := hv.cells
     have hsz' : v'.cells.size = n := by have := hc.1; simp at this; omega
     obtain ⟨w', hrun, hr⟩ := ζbi (P := P) h hm hc (hv.ζ62 hs) hst (.inr rfl)
     refine ⟨w', ?_, hr⟩
     simp [Instr.storeAt, Instr.sureAddr, storeVar, ζ1u hn, hsz', hrun]
    ·cases hst
   ·cases hst
 ·cases hst
theorem ζko {w0 : Base} {μ : Mu} {H : Heap} {w : World} (h : HR w0 μ H w) (t : TypeId) {v v' : Value} (hv : VR μ v v') (hs : storable v = true) :
  ∃ μ' w', (newVar t v').run P w = .ok ⟨w.heap.size, 0, none⟩ w' ∧ μ.le μ' ∧ HR w0 μ' (H.push ⟨v.cells.toList, 1, false⟩) w' ∧ VR μ' (.pointer (some ⟨H.n, 0, none⟩)) (.pointer (some ⟨w.heap.size, 0, none⟩)) := by
 have hc := hv.cells
 refine ⟨μ.set H.n ⟨w.heap.size, 0, v'.cells.size, 1, false⟩, w.alloc (.cells v'.cells t), ?_, Mu.le_set h.dom _, ?_, ?_⟩
 ·simp [newVar, newRow]
 ·refine h.alloc v.cells.toList v'.cells t 1 v'.cells.size (Nat.le_refl _) (by have := hc.1; simp at this ⊢; omega) (hv.ζ62 hs) (fun i u hu => ?_)
  obtain ⟨u', e, r⟩ := hc.get hu
  exact ⟨u', by simpa using e, r⟩
 ·exact VR.ptr H.n 0 ⟨w.heap.size, 0, v'.cells.size, 1, false⟩ (by simp [Mu.set])
theorem VR.zero {t : TypeId} {z : Value} (h : zeroT P t = some z) (μ : Mu) : VR μ z z := VR.of_plain (ζ4i h).2.1
theorem ζbt {w0 : Base} {μ : Mu} {H : Heap} {w : World} (h : HR w0 μ H w) {size n : Nat} {x x' : Value} {cs : List Value} (hx : VR μ x x') (hv : firstV size n x H = some cs) (hn : ∀ l, lenV x = some l → n ≤ l) :
    ∃ cs', (Builtin.firstCells size n x').run P w = .ok cs'.toArray w ∧ VRs μ cs cs' ∧ Ones cs := by
  unfold firstV at hv
  split at hv
  · rename_i b off len cap
    cases hx with
    | slice _ _ off' _ _ cap' m hm hl hc ho hx =>
      split at hv
      · rename_i h0
        injection hv with hv
        subst hv
        refine ⟨[], ?_, VRs.nil, Ones.nil⟩
        simp only [Builtin.firstCells, h0]
        simp [loadCells, loadCellsFrom]
      · rename_i h0
        obtain ⟨vs', hlen, hcell, hr, h1⟩ := h.cells hm hv
        have hnl := hn len rfl
        have hpos : 0 < n := by rcases Nat.eq_zero_or_pos n with h | h; · subst h; simp at h0
                                · exact h
        have ho : off' = m.base + off := ho.resolve_left (by omega)
        subst ho
        exact ⟨vs', run_firstCells_some w size n _ len cap' vs' hlen hcell, hr, h1⟩
  · injection hv with hv
    subst hv
    cases hx
    exact ⟨[], run_firstCells_none w size n _ _, VRs.nil, Ones.nil⟩
  · split at hv
    rotate_left
    · cases hv
    rename_i hn0
    subst hn0
    injection hv with hv
    subst hv
    refine ⟨[], ?_, VRs.nil, Ones.nil⟩
    cases hx with
    | bare a => simp [Builtin.firstCells, loadCells, loadCellsFrom]
    | unsure a => cases a <;> simp [Builtin.firstCells, loadCells, loadCellsFrom]
  · rename_i len _ _ cs _
    split at hv
    rotate_left
    · cases hv
    rename_i hle
    injection hv with hv
    subst hv
    cases hx with
    | list _ _ _ _ _ blk off cap cs2 el fz hz hl hc hg h0 h2 =>
      obtain ⟨vs', hlen, hcell, hr, ho⟩ := ζhh (h.zr.at_ _ _ hz) hl h0 h2 hle
      exact ⟨vs', run_firstCells_some w size n _ len cap vs' hlen hcell, hr, ho⟩
    | empty _ _ _ _ a cap hn1 hs =>
      have := hn 0 rfl
      have hn0 : n = 0 := by omega
      subst hn0
      refine ⟨[], ?_, ?_, ?_⟩
      · cases a <;> simp [Builtin.firstCells, loadCells, loadCellsFrom]
      · simp; exact VRs.nil
      · simp; exact Ones.nil
  · rename_i s
    split at hv
    rotate_left
    · cases hv
    injection hv with hv
    subst hv
    cases hx
    refine ⟨(s.extract 0 n).data.toList.map fun b => .int .u8 b.toNat, ?_, ?_, ?_⟩
    · simp only [Builtin.firstCells, Sem.run_pure]
      congr 1
      apply Array.ext'
      simp only [Array.toList_map]
    · refine ⟨rfl, fun i v v' hv hv' => ?_⟩
      rw [hv] at hv'; injection hv' with hv'; subst hv'
      obtain ⟨c, _, rfl⟩ := List.mem_map.1 (List.mem_of_getElem? hv)
      exact .int _ _
    · intro v hv
      obtain ⟨c, _, rfl⟩ := List.mem_map.1 hv
      rfl
  · cases hv
theorem ζke {H : Heap} {size n : Nat} {x : Value} {cs : List Value} (hv : firstV size n x H = some cs) (hn : ∀ l, lenV x = some l → n ≤ l) (h0 : ∀ a l c, x = .slice a l c → a = none → l = 0) : cs.length = n * size := by
 unfold firstV at hv
 split at hv
 ·rename_i b off len cap
  split at hv
  ·rename_i h
   injection hv with hv; subst hv; simp; omega
  ·unfold cellsAt at hv
   cases hk : H.get b with
   | none => simp [hk] at hv
   | some k =>
    simp only [hk, Option.bind_some] at hv
    split at hv
    ·rename_i hle
     have hle := Nat.le_of_ble_eq_true hle
     injection hv with hv; subst hv; simp; omega
    ·cases hv
 ·rename_i l c
  have := hn l rfl
  have := h0 none l c rfl rfl
  injection hv with hv; subst hv
  have : n = 0 := by omega
  subst this; simp
 ·split at hv
  ·rename_i h; subst h; injection hv with hv; subst hv; simp
  ·cases hv
 ·rename_i cs _
  split at hv
  ·rename_i hle
   injection hv with hv; subst hv
   rw [Array.length_toList, ζ5p _ _ _ hle]; omega
  ·cases hv
 ·rename_i s
  have hns := hn s.size rfl
  split at hv
  ·rename_i h1
   have h1 : size = 1 := by simpa using h1
   subst h1
   injection hv with hv; subst hv
   have : s.data.size = s.size := rfl
   simp; omega
  ·cases hv
 ·cases hv
theorem lenV_sim {μ : Mu} {x x' : Value} {n : Nat} (hx : VR μ x x') (h : lenV x = some n) (w : World) : (Builtin.lenOf x').run P w = .ok n w := by
 unfold lenV at h
 split at h
 ·injection h with h; subst h
  cases hx <;> simp [Builtin.lenOf]
 ·injection h with h; subst h
  cases hx <;> simp [Builtin.lenOf]
 ·injection h with h; subst h
  cases hx; simp [Builtin.lenOf]
 ·cases h
end
end Go.Sw
end
section
namespace Go.Sw
open Go.RowKit
theorem ζky (z : List Value) : ∀ (n i : Nat), (repeatCells z n)[i]? = if i < n * z.length then z[i % z.length]? else none
 | 0, i => by simp [repeatCells]
 | n + 1, i => by
  simp only [repeatCells]
  by_cases hi : i < z.length
  ·rw [List.getElem?_append_left hi, if_pos (by rw [Nat.add_mul]; omega), Nat.mod_eq_of_lt hi]
  ·rw [List.getElem?_append_right (by omega), ζky z n (i - z.length)]
   have h1 : (i - z.length < n * z.length) ↔ (i < (n + 1) * z.length) := by rw [Nat.add_mul]; omega
   have h2 : (i - z.length) % z.length = i % z.length := by
    conv => rhs; rw [show i = (i - z.length) + z.length by omega]
    rw [Nat.add_mod_right]
   rw [h2]
   by_cases h3 : i - z.length < n * z.length
   ·rw [if_pos h3, if_pos (h1.1 h3)]
   ·rw [if_neg h3, if_neg (fun h => h3 (h1.2 h))]
theorem ζ4v (z : List Value) : ∀ n, (repeatCells z n).length = n * z.length
 | 0 => by simp [repeatCells]
 | n + 1 => by simp [repeatCells, ζ4v z n, Nat.add_mul, Nat.add_comm]
theorem ζa3 (z : Array Value) (n m : Nat) (h : m = n * z.size) : ((Array.range m).map fun i => z[i % z.size]!) = (repeatCells z.toList n).toArray := by
 subst h
 apply Array.ext'
 apply List.ext_getElem?
 intro i
 rw [ζky]
 simp only [Array.toList_map, Array.toList_range, List.getElem?_map, Array.length_toList]
 by_cases hi : i < n * z.size
 ·rw [if_pos hi, List.getElem?_range hi]
  have hz : 0 < z.size := by
   rcases Nat.eq_zero_or_pos z.size with h | h
   ·rw [h] at hi; simp at hi
   ·exact h
  have hm : i % z.size < z.size := Nat.mod_lt _ hz
  simp [hm]
 ·rw [if_neg hi, List.getElem?_eq_none (by simpa using hi)]
  rfl
section
variable {P : Program}
theorem ζa4 {e : TypeId} {n : Nat} {zs : List Value} (h : zeros P e n = some zs) : ∃ z s, zeroT P e = some z ∧ sizeT P e = some s ∧ z.cells.size = s ∧ zs = repeatCells z.cells.toList n := by
 unfold zeros at h
 cases hz : zeroT P e with
 | none => simp [hz] at h
 | some z =>
  cases hs : sizeT P e with
  | none => simp [hz, hs] at h
  | some s =>
   simp [hz, hs] at h
   exact ⟨z, s, rfl, rfl, h.1, h.2.symm⟩
theorem VRs.repeat {μ : Mu} {z : List Value} (hz : VRs μ z z) (n : Nat) : VRs μ (repeatCells z n) (repeatCells z n) := by
 induction n with
 | zero => exact VRs.nil
 | succ n ih => exact hz.append ih
theorem Ones.repeat {z : List Value} (hz : Ones z) (n : Nat) : Ones (repeatCells z n) := by
 induction n with
 | zero => exact Ones.nil
 | succ n ih => exact hz.append ih
theorem ζh9 {e : TypeId} {n : Nat} {zs : List Value} (h : zeros P e n = some zs) (μ : Mu) : VRs μ zs zs ∧ Ones zs := by
 obtain ⟨z, s, hz, _, _, rfl⟩ := ζa4 h
 exact ⟨(VR.zero hz μ).cells.repeat n, ((VR.zero hz μ).ζ62 (ζ4i hz).2.2).repeat n⟩
theorem ζhy (w : World) (sT xT ty e : TypeId) (i : TypeInfo) (z : Value) (ht : P.underlying sT = some (.slice e)) (hxt : (∃ u, P.underlying xT = some (.slice u)) ∨ P.underlying xT = some .string)
  (hi : P.info? e = some i) (hz : i.zero = some z) (base : Option Addr) (sLen sCap n : Nat) (x : Value) (hn : ∀ w : World, (Builtin.lenOf x).run P w = .ok n w) (olds news : List Value)
  (ho : (Builtin.firstCells i.size sLen (.slice base sLen sCap)).run P w.drew = .ok olds.toArray w.drew) (hnew : (Builtin.firstCells i.size n x).run P w.drew = .ok news.toArray w.drew)
  (hg : sCap < sLen + n) (h63 : ((sLen + n : Nat) : Int) ≤ 9223372036854775807) (hfit : Builtin.nextslicecap (sLen + n) sCap * i.bytes ≤ 281474976710656) :
  (Builtin.append_ #[sT, xT] ty #[.slice base sLen sCap, x]).run P w =
   .ok (.slice (some ⟨w.heap.size, 0, none⟩) (sLen + n) (grownCap w (sLen + n) sCap e))
    (w.drew.alloc (.cells (olds.toArray ++ news.toArray ++ Builtin.zeroCells z.cells (grownCap w (sLen + n) sCap e - (sLen + n))) e)) := by
 have hle : ¬ (sLen + n ≤ sCap) := by omega
 have h63' : ¬ (9223372036854775807 < ((sLen : Int) + (n : Int))) := by omega
 have h48' : ¬ (281474976710656 < Builtin.nextslicecap (sLen + n) sCap * i.bytes) := by omega
 rcases hxt with ⟨u, hu⟩ | hu <;>
  simp [Builtin.append_, run_underlying ht, run_underlying hu, sizeOf, typeInfo, zeroValue, hi, hz, hn, hle, h63', h48', Question.forced, ho, hnew, newRow, grownCap] <;>
  (congr 2; simp only [← List.append_toArray, Array.append_assoc])
theorem ζhx (w w' : World) (sT xT ty e : TypeId) (i : TypeInfo) (ht : P.underlying sT = some (.slice e)) (hxt : (∃ u, P.underlying xT = some (.slice u)) ∨ P.underlying xT = some .string)
  (hi : P.info? e = some i) (a : Addr) (sLen sCap n : Nat) (x : Value) (hn : ∀ w : World, (Builtin.lenOf x).run P w = .ok n w) (news : List Value)
  (hnew : (Builtin.firstCells i.size n x).run P w = .ok news.toArray w) (hst : (storeCells (a.add (sLen * i.size)) news).run P w = .ok () w')
  (hg : sLen + n ≤ sCap) :
  (Builtin.append_ #[sT, xT] ty #[.slice (some a) sLen sCap, x]).run P w = .ok (.slice (some a) (sLen + n) sCap) w' := by
 rcases hxt with ⟨u, hu⟩ | hu <;>
  simp [Builtin.append_, run_underlying ht, run_underlying hu, sizeOf, typeInfo, hi, hn, hg, hnew, hst]
theorem ζhz (w : World) (sT xT ty e : TypeId) (i : TypeInfo) (ht : P.underlying sT = some (.slice e)) (hxt : (∃ u, P.underlying xT = some (.slice u)) ∨ P.underlying xT = some .string)
  (hi : P.info? e = some i) (base : Option Addr) (sLen sCap : Nat) (x : Value) (hn : ∀ w : World, (Builtin.lenOf x).run P w = .ok 0 w) (hg : sLen ≤ sCap) :
  (Builtin.append_ #[sT, xT] ty #[.slice base sLen sCap, x]).run P w = .ok (.slice base sLen sCap) w := by
 have hf : (Builtin.firstCells i.size 0 x).run P w = .ok #[] w := by
  have h0 := hn w
  cases x <;> simp [Builtin.lenOf] at h0
  case slice a l c => cases a <;> simp [Builtin.firstCells, loadCells, loadCellsFrom]
  case string s => simp [Builtin.firstCells]
 rcases hxt with ⟨u, hu⟩ | hu <;> cases base <;>
  simp [Builtin.append_, run_underlying ht, run_underlying hu, sizeOf, typeInfo, hi, hn, hg, hf, storeCells]
theorem toList2 {α : Type} {xs : Array α} {a b : α} (h : xs.toList = [a, b]) : xs = #[a, b] := by
 apply Array.ext'; simpa using h
theorem VR.ζmp {μ : Mu} {x x' : Value} (hx : VR μ x x') : ∀ a l c, x = .slice a l c → a = none → l = 0 := by
 intro a l c e h
 subst e h
 cases hx
 rfl
structure Apd (P : Program) (μ : Mu) (w : World) (sT xT ty e : TypeId) (i : TypeInfo) (z x' : Value) (n : Nat) (nw : List Value) : Prop where
 len : nw.length = n * i.size
 ones : Ones nw
 zero : n = 0 → ∀ base sLen sCap, sLen ≤ sCap → (Builtin.append_ #[sT, xT] ty #[.slice base sLen sCap, x']).run P w = .ok (.slice base sLen sCap) w
 grow : n ≠ 0 → ∃ news, VRs μ nw news ∧ ∀ base sLen sCap (olds : List Value), (Builtin.firstCells i.size sLen (.slice base sLen sCap)).run P w.drew = .ok olds.toArray w.drew → sCap < sLen + n → ((sLen + n : Nat) : Int) ≤ 9223372036854775807 →
  Builtin.nextslicecap (sLen + n) sCap * i.bytes ≤ 281474976710656 →
  (Builtin.append_ #[sT, xT] ty #[.slice base sLen sCap, x']).run P w =
   .ok (.slice (some ⟨w.heap.size, 0, none⟩) (sLen + n) (grownCap w (sLen + n) sCap e))
    (w.drew.alloc (.cells (olds.toArray ++ news.toArray ++ Builtin.zeroCells z.cells (grownCap w (sLen + n) sCap e - (sLen + n))) e))
 fits : n ≠ 0 → ∃ news, VRs μ nw news ∧ ∀ a sLen sCap w', (storeCells (a.add (sLen * i.size)) news).run P w = .ok () w' → sLen + n ≤ sCap →
  (Builtin.append_ #[sT, xT] ty #[.slice (some a) sLen sCap, x']).run P w = .ok (.slice (some a) (sLen + n) sCap) w'
theorem ζix {w0 : Base} {μ : Mu} {H H' : Heap} {w : World} (h : HR w0 μ H w) {sT xT ty e : TypeId} {i : TypeInfo} {z : Value}
  {base : Option Addr} {sLen sCap n : Nat} {nw : Option (List Value)} {s' x' v : Value} (hs' : VR μ (.slice base sLen sCap) s') (hA : n = 0 ∨ sLen + n ≤ 2 ^ 31 ∧ i.bytes ≤ 2 ^ 10 → ∀ new, nw = some new ∨ n = 0 ∧ new = [] → Apd P μ w sT xT ty e i z x' n new)
  (hv : appendN i.size i.bytes z.cells.size n base sLen sCap nw H = .ok v H') :
  ∃ μ' v' w', (Builtin.append_ #[sT, xT] ty #[s', x']).run P w = .ok v' w' ∧ μ.le μ' ∧ HR w0 μ' H' w' ∧ VR μ' v v' := by
 unfold appendN at hv
 split at hv
 ·rename_i hn0
  subst hn0
  injection hv with hv hH
  subst hv hH
  refine ⟨μ, s', w, ?_, Mu.le_refl _, h, hs'⟩
  have hz0 := (hA (.inl rfl) [] (.inr ⟨rfl, rfl⟩)).zero rfl
  cases hs' with
  | nilSlice => exact hz0 _ _ _ (Nat.le_refl _)
  | bare a => exact hz0 _ _ _ (Nat.le_refl _)
  | unsure a => exact hz0 _ _ _ (Nat.le_refl _)
  | slice b off off' _ _ cap' m hm hl hc hoo hxx => exact hz0 _ _ _ (by omega)
 ·rename_i hn0
  split at hv
  rotate_left
  ·cases hv
  rename_i hb
  obtain ⟨hb1, hb2, hb3⟩ := hb
  split at hv
  ·cases hv
  rename_i new
  obtain hA := hA (.inr ⟨hb1, hb2⟩) new (.inl rfl)
  have hfit : ∀ c, c < sLen + n → Builtin.nextslicecap (sLen + n) c * i.bytes ≤ 281474976710656 := fun c hc => growslice_fits hc (by
   have : (sLen + n) * i.bytes ≤ 2 ^ 31 * 2 ^ 10 := Nat.mul_le_mul hb1 hb2
   omega)
  have h63 : ((sLen + n : Nat) : Int) ≤ 9223372036854775807 := by omega
  have hd : HR w0 μ H w.drew := h.drew rfl rfl rfl rfl
  have hnl : new.length = n * i.size := hA.len
  have hon := hA.ones
  obtain ⟨news, hvn, hgr⟩ := hA.grow hn0
  -- a grown row
  have grow : ∀ (b' : Option Addr) (cap' : Nat) (olds olds' : List Value), cap' < sLen + n → (Builtin.firstCells i.size sLen (.slice b' sLen cap')).run P w.drew = .ok olds'.toArray w.drew → VRs μ olds olds' → Ones olds →
    olds'.length = sLen * i.size → ∀ HX : Heap, HX.n = H.n → HR w0 μ HX w.drew →
    ∃ μ' v' w', (Builtin.append_ #[sT, xT] ty #[.slice b' sLen cap', x']).run P w = .ok v' w' ∧ μ.le μ' ∧ HR w0 μ' (HX.push ⟨olds ++ new, i.size, false⟩) w' ∧ VR μ' (.slice (some ⟨H.n, 0, none⟩) (sLen + n) (sLen + n)) v' := by
   intro b' cap' olds olds' hcap hro hvo hoo holl HX hHX hRX
   have hrun := hgr b' sLen cap' olds' hro hcap h63 (hfit cap' hcap)
   have hge := grownCap_ge w (sLen + n) cap' e
   have hmul : (sLen + n) * i.size ≤ grownCap w (sLen + n) cap' e * i.size := Nat.mul_le_mul_right _ hge
   have hmul2 := hmul
   rw [Nat.add_mul] at hmul2
   have hsz : (olds'.toArray ++ news.toArray ++ Builtin.zeroCells z.cells (grownCap w (sLen + n) cap' e - (sLen + n))).size = grownCap w (sLen + n) cap' e * i.size := by
    have := hvn.1
    simp only [Array.size_append, List.size_toArray, size_zeroCells, hb3, Nat.sub_mul, Nat.add_mul]
    omega
   refine ⟨μ.set H.n ⟨w.heap.size, 0, grownCap w (sLen + n) cap' e * i.size, i.size, false⟩, _, _, hrun, ?_, ?_, ?_⟩
   ·exact Mu.le_set h.dom _
   ·have := hRX.alloc (olds ++ new) (olds'.toArray ++ news.toArray ++ Builtin.zeroCells z.cells (grownCap w (sLen + n) cap' e - (sLen + n))) e i.size (grownCap w (sLen + n) cap' e * i.size) (by omega)
     (by
      have h1 := hvo.1
      simp only [List.length_append]
      omega) (hoo.append hon) (fun j u hj => by
      obtain ⟨u', e', r⟩ := (hvo.append hvn).get hj
      refine ⟨u', ?_, r⟩
      have hlt : j < (olds' ++ news).length := (List.getElem?_eq_some_iff.1 e').1
      rw [Array.getElem?_append_left (by simpa using hlt)]
      simpa using e')
    rw [hHX] at this
    exact this
   ·exact VR.slice H.n 0 0 _ _ _ ⟨w.heap.size, 0, grownCap w (sLen + n) cap' e * i.size, i.size, false⟩ (by simp [Mu.set]) (Nat.le_refl _) hge (.inr rfl) (.inr (.inr (by simp)))
  split at hv
  ·
   injection hv with hv hH
   subst hv hH
   cases hs'
   have := grow none 0 [] [] (by omega) (run_firstCells_none _ _ _ _ _) VRs.nil Ones.nil (by simp) H rfl hd
   simpa using this
  ·rename_i b off
   split at hv
   rotate_left
   ·cases hv
   rename_i k hk
   split at hv
   rotate_left
   ·cases hv
   rename_i hc
   injection hv with hv hH
   subst hv hH
   simp only [Bool.and_eq_true, Bool.not_eq_true', beq_iff_eq] at hc
   obtain ⟨⟨hro, hesz⟩, hle⟩ := hc
   have hle := Nat.le_of_ble_eq_true hle
   cases hs' with
   | slice _ _ off' _ _ cap' m hm hl hcap hoo hxx =>
    have hsm : sLen * i.size ≤ sCap * i.size := Nat.mul_le_mul_right _ hl
    obtain ⟨m1, e1, b1⟩ := h.blk b k hk
    rw [hm] at e1; injection e1 with e1; subst e1
    have hold : cellsAt H b off (sLen * i.size) = some ((k.cells.drop off).take (sLen * i.size)) := by
     unfold cellsAt
     simp only [hk, Option.bind_some]
     rw [if_pos (Nat.ble_eq_true_of_le (by omega))]
    by_cases hgrow : cap' < sLen + n
    ·
     have hfo : firstV i.size sLen (.slice (some ⟨b, off, none⟩) sLen sCap) H = some ((k.cells.drop off).take (sLen * i.size)) := by
      unfold firstV
      dsimp only
      split
      ·rename_i h0; rw [h0]; simp
      ·exact hold
     obtain ⟨olds', hro', hvo, hoo'⟩ := ζbt (P := P) hd (VR.slice b off off' sLen sCap cap' m hm hl hcap hoo hxx) hfo (fun l hl => by simp [lenV] at hl; omega)
     have hol : olds'.length = sLen * i.size := by rw [← hvo.1]; simp; omega
     exact grow _ cap' _ olds' hgrow hro' hvo hoo' hol (H.set b none) (Heap.n_set _ _ _) ((h.kill hk).drew rfl rfl rfl rfl)
    ·
     have hpos : off' = m.base + off := hoo.resolve_left (by omega)
     subst hpos
     obtain ⟨cs, el, fz, g1, g2, g3, g4⟩ := b1.here
     have hfz := g2 hro
     subst hfz
     obtain ⟨news2, hvn2, hfi⟩ := hA.fits hn0
     have hon2 := hA.ones
     have hmesz : m.esz = i.size := b1.esz.trans hesz
     have hxb : off + cap' * i.size ≤ m.ext := by
      rcases hxx with hxx | hxx | hxx
      ·subst hxx; have := b1.ext; omega
      ·rw [b1.ro, hro] at hxx; cases hxx
      ·rw [hmesz] at hxx; exact hxx
     have hnl2 : news2.length = n * i.size := by rw [← hvn2.1]; exact hnl
     have hmulc : (sLen + n) * i.size ≤ cap' * i.size := Nat.mul_le_mul_right _ (by omega)
     have hmulc2 := hmulc
     rw [Nat.add_mul] at hmulc2
     have hst := run_storeCells_at P m.blk (m.base + off + sLen * i.size) el news2 0 cs w g1 (by omega) (hvn2.ones hon2)
     have hrun := hfi ⟨m.blk, m.base + off, none⟩ sLen cap' _ (by rw [add_at]; exact hst) (by omega)
     have hkill := h.kill hk
     have hB := b1.own hro
     have hsp : (cs.toList.take (m.base + off + sLen * i.size + 0) ++ news2 ++ cs.toList.drop (m.base + off + sLen * i.size + 0 + news2.length)) = splice cs.toList (m.base + off + sLen * i.size) news2 := by simp [splice]
     rw [hsp] at hrun
     have hspl : (splice cs.toList (m.base + off + sLen * i.size) news2).length = cs.size := by rw [ζg2 _ _ _ (by simp; omega)]; simp
     refine ⟨μ.set H.n ⟨m.blk, m.base + off, m.ext - off, i.size, false⟩, _, _, hrun, Mu.le_set h.dom _, ?_, ?_⟩
     ·have hup := Mu.le_set (μ := μ) h.dom ⟨m.blk, m.base + off, m.ext - off, i.size, false⟩
      have hoth : ∀ c x mm, H.get c = some x → c ≠ b → μ c = some mm → mm.blk ≠ m.blk := fun c x mm hc hcb hmm => h.other hk hc hm hmm hro hcb
      constructor
      ·intro c mm hcm
       rw [Heap.n_push, Heap.n_set]
       rw [Mu.set_get] at hcm
       split at hcm
       ·omega
       ·have := h.dom c mm hcm; omega
      ·intro c x hx
       rw [Heap.get_push, Heap.n_set] at hx
       split at hx
       ·rename_i hcn
        injection hx with hx
        subst hx hcn
        refine ⟨⟨m.blk, m.base + off, m.ext - off, i.size, false⟩, by simp [Mu.set], rfl, rfl, ⟨(splice cs.toList (m.base + off + sLen * i.size) news2).toArray, el, (0, 0), setRow_heap w m.blk cs _ el _ g1, fun _ => rfl, ?_, fun j u hj => ?_⟩, ?_, ?_, fun _ => hB, fun hf => by cases hf⟩
        ·have hspl2 : (splice cs.toList (m.base + off + sLen * i.size) news2).toArray.size = cs.size := by simpa using hspl
         show m.base + off + (m.ext - off) ≤ _
         rw [hspl2]; omega
        ·show ∃ v', (splice cs.toList (m.base + off + sLen * i.size) news2).toArray[m.base + off + j]? = some v' ∧ _
         have hg := ζcc cs.toList (m.base + off + sLen * i.size) news2 (by simp; omega) (m.base + off + j)
         simp only [List.getElem?_toArray]
         rw [hg]
         have hol : ((k.cells.drop off).take (sLen * i.size)).length = sLen * i.size := by simp; omega
         by_cases hjo : j < sLen * i.size
         ·rw [if_pos (by omega)]
          rw [List.getElem?_append_left (by omega), List.getElem?_take, if_pos hjo, List.getElem?_drop] at hj
          obtain ⟨u', e', r⟩ := g4 _ u hj
          exact ⟨u', by rw [← Nat.add_assoc] at e'; simpa using e', r.up hup⟩
         ·rw [if_neg (by omega)]
          rw [List.getElem?_append_right (by omega), hol] at hj
          obtain ⟨u', e', r⟩ := hvn2.get hj
          have hjn : j - sLen * i.size < news2.length := (List.getElem?_eq_some_iff.1 e').1
          rw [if_pos (by omega), show m.base + off + j - (m.base + off + sLen * i.size) = j - sLen * i.size by omega]
          exact ⟨u', e', r.up hup⟩
        ·exact ((b1.ones.drop _).take _).append hon2
        ·show (_ ++ new).length ≤ m.ext - off
         simp only [List.length_append, List.length_take, List.length_drop]
         omega
       ·rename_i hcn
        rw [Heap.get_set hk] at hx
        split at hx
        ·cases hx
        ·rename_i hcb
         obtain ⟨mm, hmm, hbb⟩ := h.blk c x hx
         exact ⟨mm, hup.f _ _ hmm, hbb.keep hup (setRow_other w m.blk mm.blk _ (hoth c x mm hx hcb hmm))⟩
      ·intro c c' x x' mm mm' hx hx2 r r' hmm hmm' he
       rw [Heap.get_push, Heap.n_set, Heap.get_set hk] at hx hx2
       rw [Mu.set_get] at hmm hmm'
       by_cases q1 : c = H.n <;> by_cases q2 : c' = H.n
       ·omega
       ·rw [if_pos q1] at hmm
        rw [if_neg q2] at hx2 hmm'
        split at hx2
        ·cases hx2
        ·rename_i hcb
         injection hmm with hmm; subst hmm
         exact absurd he.symm (hoth c' x' mm' hx2 hcb hmm')
       ·rw [if_neg q1] at hx hmm
        rw [if_pos q2] at hmm'
        split at hx
        ·cases hx
        ·rename_i hcb
         injection hmm' with hmm'; subst hmm'
         exact absurd he (hoth c x mm hx hcb hmm)
       ·rw [if_neg q1] at hx hmm
        rw [if_neg q2] at hx2 hmm'
        split at hx
        ·cases hx
        ·split at hx2
         ·cases hx2
         ·exact h.inj c c' x x' mm mm' hx hx2 r r' hmm hmm' he
      ·exact h.below.step rfl rfl rfl (by simp) fun j hj => setRow_other w m.blk j _ (fun q => hB (q ▸ hj))
      ·refine h.zr.step rfl (fun j o hj => setRow_other w m.blk j _ fun q => h.zr.apart j o b k m hj hk hro hm q.symm) fun c x mm hx hr hmm => ?_
       rw [Heap.get_push, Heap.n_set] at hx
       rw [Mu.set_get] at hmm
       split at hx
       ·rename_i hcn
        rw [if_pos hcn] at hmm
        injection hmm with hmm; subst hmm
        exact .inl ⟨b, k, hk, hro, m, hm, rfl⟩
       ·rename_i hcn
        rw [if_neg hcn] at hmm
        rw [Heap.get_set hk] at hx
        split at hx
        ·cases hx
        ·exact .inl ⟨c, x, hx, hr, mm, hmm, rfl⟩
     ·exact VR.slice H.n 0 (m.base + off) _ _ _ ⟨m.blk, m.base + off, m.ext - off, i.size, false⟩ (by simp [Mu.set]) (Nat.le_refl _) (by omega) (.inr rfl) (.inr (.inr (by
       show 0 + cap' * i.size ≤ m.ext - off
       omega)))
  ·
   split at hv
   rotate_left
   ·cases hv
   rename_i h00
   obtain ⟨rfl, rfl⟩ := h00
   injection hv with hv hH
   subst hv hH
   have key : ∀ b', s' = .slice b' 0 0 → ∃ μ' v' w', (Builtin.append_ #[sT, xT] ty #[s', x']).run P w = .ok v' w' ∧ μ.le μ' ∧ HR w0 μ' (H.push ⟨new, i.size, false⟩) w' ∧ VR μ' (.slice (some ⟨H.n, 0, none⟩) n n) v' := by
    intro b' he
    subst he
    have hro : (Builtin.firstCells i.size 0 (.slice b' 0 0)).run P w.drew = .ok ([] : List Value).toArray w.drew := by
     cases b' with
     | none => exact run_firstCells_none _ _ _ _ _
     | some a => simp [Builtin.firstCells, loadCells, loadCellsFrom]
    have := grow b' 0 [] [] (by omega) hro VRs.nil Ones.nil (by simp) H rfl hd
    simpa using this
   cases hs' with
   | bare a => exact key _ rfl
   | unsure a => exact key _ rfl
theorem ζph {w0 : Base} {μ : Mu} {H : Heap} {w : World} (h : HR w0 μ H w) {sT xT ty e : TypeId} {i : TypeInfo} {z : Value} (ht : P.underlying sT = some (.slice e)) (hxt : (∃ u, P.underlying xT = some (.slice u)) ∨ P.underlying xT = some .string)
  (hi : P.info? e = some i) (hz : i.zero = some z) {n : Nat} {x x' : Value} (hx' : VR μ x x') (hln : lenV x = some n) {new : List Value} (hnew : firstV i.size n x H = some new ∨ n = 0 ∧ new = []) : Apd P μ w sT xT ty e i z x' n new := by
 have hlen : ∀ w : World, (Builtin.lenOf x').run P w = .ok n w := fun w => lenV_sim hx' hln w
 have hlx : ∀ l, lenV x = some l → n ≤ l := fun l hl => by rw [hln] at hl; injection hl with hl; omega
 have hd : HR w0 μ H w.drew := h.drew rfl rfl rfl rfl
 have hz0 : n = 0 → ∀ base sLen sCap, sLen ≤ sCap → (Builtin.append_ #[sT, xT] ty #[.slice base sLen sCap, x']).run P w = .ok (.slice base sLen sCap) w := fun h0 base sLen sCap hc => by
  subst h0
  exact ζhz w sT xT ty e i ht hxt hi _ _ _ _ hlen hc
 rcases hnew with hnew | ⟨h0, rfl⟩
 ·obtain ⟨news, hrn, hvn, hon⟩ := ζbt (P := P) hd hx' hnew hlx
  obtain ⟨news2, hrn2, hvn2, hon2⟩ := ζbt (P := P) h hx' hnew hlx
  refine ⟨ζke hnew hlx hx'.ζmp, hon, hz0, fun _ => ⟨news, hvn, fun base sLen sCap olds hro hcap h63 hfit => ?_⟩, fun _ => ⟨news2, hvn2, fun a sLen sCap w' hst hcap => ?_⟩⟩
  ·exact ζhy (P := P) w sT xT ty e i z ht hxt hi hz base sLen sCap n x' hlen olds news hro hrn hcap h63 hfit
  ·exact ζhx (P := P) w _ sT xT ty e i ht hxt hi a sLen sCap n x' hlen news2 hrn2 hst hcap
 ·subst h0
  exact ⟨by simp, Ones.nil, hz0, fun h => absurd rfl h, fun h => absurd rfl h⟩
theorem ζiw {w0 : Base} {μ : Mu} {H H' : Heap} {w : World} (h : HR w0 μ H w) {sT xT ty e : TypeId} {i : TypeInfo} {z : Value} (ht : P.underlying sT = some (.slice e)) (hxt : (∃ u, P.underlying xT = some (.slice u)) ∨ P.underlying xT = some .string)
  (hi : P.info? e = some i) (hz : i.zero = some z) {base : Option Addr} {sLen sCap n : Nat} {s' x x' v : Value} (hs' : VR μ (.slice base sLen sCap) s') (hx' : VR μ x x') (hln : lenV x = some n)
  (hv : appendK i.size i.bytes z.cells.size n base sLen sCap x H = .ok v H') :
  ∃ μ' v' w', (Builtin.append_ #[sT, xT] ty #[s', x']).run P w = .ok v' w' ∧ μ.le μ' ∧ HR w0 μ' H' w' ∧ VR μ' v v' :=
 ζix h hs' (fun _ new hn => ζph h ht hxt hi hz hx' hln hn) (by rw [← ζpj]; exact hv)
theorem ζjj {μ : Mu} {w : World} {sT xT ty e : TypeId} {i : TypeInfo} {z : Value} {kt : IntKind} (ht : P.underlying sT = some (.slice e)) (hxt : P.underlying xT = some (.int kt)) (hi : P.info? e = some i) {k : IntKind} :
  Apd P μ w sT xT ty e i z (.int k ((0 : Nat) : Int)) 0 [] := by
 have hw : IntKind.i64.wrap 0 = 0 := rfl
 refine ⟨by simp, Ones.nil, fun _ base sLen sCap hc => ?_, fun h => absurd rfl h, fun h => absurd rfl h⟩
 cases base <;> simp [Builtin.append_, run_underlying ht, run_underlying hxt, sizeOf, typeInfo, hi, asInt, asIntOf, hc, storeCells, hw]
theorem ζpi {μ : Mu} {w : World} {sT xT ty e : TypeId} {i : TypeInfo} {z : Value} {kt : IntKind} (ht : P.underlying sT = some (.slice e)) (hxt : P.underlying xT = some (.int kt))
  (hi : P.info? e = some i) (hz : i.zero = some z) (hzs : z.cells.size = i.size) (hself : VRs μ z.cells.toList z.cells.toList) (hones : Ones z.cells.toList) {k : IntKind} {n : Nat} (hn : n ≤ 2 ^ 31) (hb : i.bytes ≤ 2 ^ 10) :
  Apd P μ w sT xT ty e i z (.int k n) n (repeatCells z.cells.toList n) := by
 have hl : ∀ n, (repeatCells z.cells.toList n).length = n * i.size := fun n => by rw [ζ4v, Array.length_toList, hzs]
 have hw : IntKind.i64.wrap (n : Int) = n := by rw [IntKind.wrap_i64]; omega
 have hneg : ¬ ((n : Int) < 0) := by omega
 have hmul : n * i.bytes ≤ 2 ^ 31 * 2 ^ 10 := Nat.mul_le_mul hn hb
 have h48i : ¬ (281474976710656 < (n : Int) * (i.bytes : Int)) := by
  rw [← Int.natCast_mul]; omega
 have hrep : (repeatCells z.cells.toList n).toArray = if n * i.size = 0 then #[] else Builtin.zeroCells z.cells n := by
  split
  ·rename_i h0
   have := hl n
   rw [h0] at this
   rw [List.length_eq_zero_iff.1 this]
  ·rename_i h0
   unfold Builtin.zeroCells
   rw [ζa3 z.cells n _ rfl]
 refine ⟨hl n, hones.repeat n, fun h0 base sLen sCap hc => ?_, fun h0 => ⟨_, hself.repeat n, fun base sLen sCap olds hro hcap h63 hfit => ?_⟩, fun h0 => ⟨_, hself.repeat n, fun a sLen sCap w' hst hcap => ?_⟩⟩
 ·subst h0
  exact (ζjj (z := z) (μ := μ) (k := k) ht hxt hi).zero rfl base sLen sCap hc
 ·have hle : ¬ (sLen + n ≤ sCap) := by omega
  have h63' : ¬ (9223372036854775807 < ((sLen : Int) + (n : Int))) := by omega
  have h48' : ¬ (281474976710656 < Builtin.nextslicecap (sLen + n) sCap * i.bytes) := by omega
  rw [hrep]
  by_cases hs0 : n * i.size = 0
  ·rw [if_pos hs0]
   simp [Builtin.append_, run_underlying ht, run_underlying hxt, sizeOf, typeInfo, zeroValue, hi, hz, asInt, asIntOf, hw, hneg, h48i, hle, h63', h48', Question.forced, hro, newRow, grownCap]
   exact fun h => absurd hs0 h
  ·rw [if_neg hs0]
   simp [Builtin.append_, run_underlying ht, run_underlying hxt, sizeOf, typeInfo, zeroValue, hi, hz, asInt, asIntOf, hw, hneg, h48i, hle, h63', h48', Question.forced, hro, newRow, grownCap]
   exact fun h => absurd h hs0
 ·have hrl : (repeatCells z.cells.toList n) = (if n * i.size = 0 then #[] else Builtin.zeroCells z.cells n).toList := by rw [← hrep]
  rw [hrl] at hst
  by_cases hs0 : n * i.size = 0
  ·rw [if_pos hs0] at hst
   simp [Builtin.append_, run_underlying ht, run_underlying hxt, sizeOf, typeInfo, zeroValue, hi, hz, asInt, asIntOf, hw, hneg, h48i, hcap, hst]
   exact fun h => absurd hs0 h
  ·rw [if_neg hs0] at hst
   simp [Builtin.append_, run_underlying ht, run_underlying hxt, sizeOf, typeInfo, zeroValue, hi, hz, asInt, asIntOf, hw, hneg, h48i, hcap, hst]
   exact fun h => absurd h hs0
theorem ζnv {w0 : Base} {μ : Mu} {H H' : Heap} {w : World} (h : HR w0 μ H w) {ts : Array TypeId} {ty : TypeId} {args : List Value} {args' : Array Value} {v : Value} (ha : VRs μ args args'.toList) (hv : appendV P ts.toList args H = .ok v H') :
  ∃ μ' v' w', (Builtin.append_ ts ty args').run P w = .ok v' w' ∧ μ.le μ' ∧ HR w0 μ' H' w' ∧ VR μ' v v' := by
 unfold appendV at hv
 split at hv
 rotate_left
 ·cases hv
 rename_i sT xT base sLen sCap x hts
 have hts := toList2 hts
 subst hts
 obtain ⟨s', r', e', hs', ha⟩ := ha.cons_inv
 obtain ⟨x', r'', rfl, hx', ha⟩ := ha.cons_inv
 have := ha.nil_inv
 subst this
 have e' := toList2 e'
 subst e'
 split at hv
 rotate_left
 ·split at hv
  rotate_left
  ·cases hv
  rename_i e kt k m h1 h2 _
  split at hv
  rotate_left
  ·cases hv
  rename_i size i z hsz hi hz
  have hisz := ζcb hsz hi
  subst hisz
  obtain ⟨⟨i2, hi2, hz2⟩, hzp, hst⟩ := ζ4i hz
  rw [hi] at hi2; injection hi2 with hi2; subst hi2
  cases hx'
  split at hv
  rotate_left
  ·cases hv
  ·rename_i hd
   obtain ⟨n, rfl⟩ := Int.eq_ofNat_of_zero_le hd.1
   rw [Int.toNat_natCast] at hv
   have hzs : n = 0 ∨ z.cells.size = i.size := by
    unfold appendN at hv
    split at hv
    ·rename_i h0; exact .inl h0
    ·split at hv
     ·rename_i hb; exact .inr hb.2.2
     ·cases hv
   refine ζix (e := e) (z := z) h hs' (fun hb new hn => ?_) hv
   rcases hn with hn | ⟨rfl, rfl⟩
   ·injection hn with hn
    subst hn
    by_cases hn0 : n = 0
    ·subst hn0
     exact ζjj h1 h2 hi
    ·exact ζpi h1 h2 hi hz2 (hzs.resolve_left hn0) (VR.zero hz μ).cells ((VR.zero hz μ).ζ62 hst) (by omega) (hb.resolve_left hn0).2
   ·exact ζjj h1 h2 hi
 rename_i e hT
 split at hv
 rotate_left
 ·cases hv
 rename_i size i n z hsz hi hln hz
 have hisz := ζcb hsz hi
 subst hisz
 obtain ⟨⟨i2, hi2, hz2⟩, hzp⟩ := ζ4i hz
 rw [hi] at hi2; injection hi2 with hi2; subst hi2
 unfold appendT at hT
 split at hT
 ·rename_i e2 u h1 h2
  injection hT with hT; subst hT
  exact ζiw h h1 (.inl ⟨u, h2⟩) hi hz2 hs' hx' hln hv
 ·rename_i e2 h1 h2
  injection hT with hT; subst hT
  exact ζiw h h1 (.inr h2) hi hz2 hs' hx' hln hv
 ·cases hT
end
end Go.Sw
end
