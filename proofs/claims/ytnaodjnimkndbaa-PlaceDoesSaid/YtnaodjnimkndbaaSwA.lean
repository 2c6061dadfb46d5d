/-
  The evaluator: a deterministic reading of a program's code over an abstract heap. Nothing is proved here but small laws of the heap and the frame.
-/
import Derived.Below
import Derived.Orders
namespace Go.Sw

/-- A block of the abstract heap: its cells, how many cells an element has, and whether it may only be read. -/
structure Blk where
  cells : List Value
  esz : Nat
  ro : Bool

/-- The abstract heap: how many blocks there are, and the blocks, the youngest first; a block that is gone is none. -/
structure Heap where
  n : Nat
  l : List (Option Blk)

def Heap.empty : Heap := ⟨0, []⟩
def Heap.get (H : Heap) (b : Nat) : Option Blk := if b < H.n then (H.l[H.n - 1 - b]?).join else none
def Heap.push (H : Heap) (k : Blk) : Heap := ⟨H.n + 1, some k :: H.l⟩
def Heap.set (H : Heap) (b : Nat) (k : Option Blk) : Heap := if b < H.n then ⟨H.n, H.l.set (H.n - 1 - b) k⟩ else H

theorem Heap.get_push (H : Heap) (k : Blk) (b : Nat) : (H.push k).get b = if b = H.n then some k else H.get b := by
  unfold Heap.get Heap.push
  dsimp only
  by_cases h : b = H.n
  · subst h; simp
  · by_cases h2 : b < H.n
    · have h3 : H.n + 1 - 1 - b = (H.n - 1 - b) + 1 := by omega
      rw [if_neg h, if_pos h2, if_pos (by omega), h3, List.getElem?_cons_succ]
    · rw [if_neg h, if_neg h2, if_neg (by omega)]
theorem Heap.n_push (H : Heap) (k : Blk) : (H.push k).n = H.n + 1 := rfl
theorem Heap.n_set (H : Heap) (b : Nat) (k : Option Blk) : (H.set b k).n = H.n := by unfold Heap.set; split <;> rfl
theorem Heap.get_lt {H : Heap} {b : Nat} {k : Blk} (h : H.get b = some k) : b < H.n := by
  unfold Heap.get at h
  split at h
  · assumption
  · cases h
theorem Heap.get_set {H : Heap} {b : Nat} {k : Blk} (h : H.get b = some k) (x : Option Blk) (c : Nat) : (H.set b x).get c = if c = b then x else H.get c := by
  have hb := Heap.get_lt h
  unfold Heap.get at h
  rw [if_pos hb] at h
  unfold Heap.get Heap.set
  rw [if_pos hb]
  dsimp only
  have hl : H.n - 1 - b < H.l.length := by
    rcases Nat.lt_or_ge (H.n - 1 - b) H.l.length with h1 | h1
    · exact h1
    · rw [List.getElem?_eq_none h1] at h; cases h
  by_cases hc : c = b
  · subst hc
    rw [if_pos rfl, if_pos hb, List.getElem?_set_self hl]
    cases x <;> rfl
  · rw [if_neg hc]
    by_cases h2 : c < H.n
    · rw [if_pos h2, if_pos h2, List.getElem?_set_ne (by omega)]
    · rw [if_neg h2, if_neg h2]

/-- What an operation, a piece of code or a call comes to. -/
inductive Res (α : Type) where
  | ok (a : α) (H : Heap)
  | panic (v : Value) (H : Heap)
  | stuck

def Res.bind {α β : Type} (r : Res α) (f : α → Heap → Res β) : Res β :=
  match r with
  | .ok a H => f a H
  | .panic v H => .panic v H
  | .stuck => .stuck

/-- An option as a result; none is stuck. -/
def opt {α : Type} (o : Option α) (H : Heap) : Res α :=
  match o with
  | some a => .ok a H
  | none => .stuck

/-- The frame: what the slots hold that are known, by their numbers. -/
abbrev Env := List (Nat × Value)
def Env.get : Env → Nat → Option Value
  | [], _ => none
  | (s, v) :: e, t => if s == t then some v else Env.get e t
def Env.put : Env → Nat → Value → Env
  | [], t, v => [(t, v)]
  | (s, u) :: e, t, v => if s == t then (t, v) :: e else if Nat.blt t s then (t, v) :: (s, u) :: e else (s, u) :: Env.put e t v
def Env.keep (ks : List Nat) : Env → Env
  | [] => []
  | (s, u) :: e => if ks.contains s then (s, u) :: Env.keep ks e else Env.keep ks e
def Env.of : Nat → List Value → Env
  | _, [] => []
  | i, v :: vs => (i, v) :: Env.of (i + 1) vs

/-- A value that leads to no memory. -/
def plainList (p : Value → Bool) : List Value → Bool
  | [] => true
  | v :: vs => p v && plainList p vs
def plain1 : Value → Bool
  | .bool _ | .int _ _ | .string _ | .pointer none | .slice none 0 0 | .map none | .nilFunc | .nilIface => true
  | _ => false
def plain : Value → Bool
  | .agg cs => plainList plain1 cs.toList
  | .tuple cs => plainList plain1 cs.toList
  | .func (.func _) first captured => plainList plain1 first.toList && plainList plain1 captured.toList
  | v => plain1 v

def opnd (e : Env) : Operand → Option Value
  | .tmp t => e.get t
  | .const v => if plain v then some v else none
  | .global _ => none
  | .func f => some (.func (.func f) #[] #[])

def opnds (e : Env) : List Operand → Option (List Value)
  | [] => some []
  | x :: xs => (opnd e x).bind fun v => (opnds e xs).map (v :: ·)

/-- Cells of a block from a place on. -/
def cellsAt (H : Heap) (b off n : Nat) : Option (List Value) :=
  (H.get b).bind fun k => if Nat.ble (off + n) k.cells.length then some ((k.cells.drop off).take n) else none

def splice (l : List Value) (off : Nat) (vs : List Value) : List Value := l.take off ++ (vs ++ l.drop (off + vs.length))

/-- Cells are written. -/
def putCells (H : Heap) (b off : Nat) (vs : List Value) : Res Unit :=
  match H.get b with
  | some k => if Nat.ble (off + vs.length) k.cells.length && !k.ro then .ok () (H.set b (some { k with cells := splice k.cells off vs })) else .stuck
  | none => .stuck

/-- A new block. -/
def newBlk (H : Heap) (cells : List Value) (esz : Nat) : Res Addr := .ok ⟨H.n, 0, none⟩ (H.push ⟨cells, esz, false⟩)

/-- Slices and pointers whose memory stays as it is for ever: told by what lies there. -/
def listV (len : Nat) (cells : Array Value) : Value := .func (.via len #[] 0 false) cells #[]
def boxV (cells : Array Value) : Value := .func (.via 0 #[] 0 true) cells #[]
/-- No element: of a slice that is nil, or that is none; whose memory stays. -/
def noneV (isNil : Bool) : Value := .func (.via 0 #[] (bif isNil then 2 else 1) false) #[] #[]
/-- An empty slice, nil or not. -/
def emptyV : Value := .slice (some ⟨0, 0, some 1⟩) 0 0
/-- An empty slice that is not nil, and has no room. -/
def bareV : Value := .slice (some ⟨0, 0, some 0⟩) 0 0
/-- Is it nil? -/
def nilS : Option Addr → Option Bool
  | none => some true
  | some ⟨_, _, some (_ + 1)⟩ => none
  | some _ => some false

/-- What may lie in a variable. -/
def storable : Value → Bool
  | .tuple _ => false
  | _ => true

section
variable (P : Program)

def isAggT (t : TypeId) : Option Bool :=
  (P.underlying t).map fun | .struct _ | .array _ _ => true | _ => false

def sizeT (t : TypeId) : Option Nat := (P.info? t).map (·.size)
def zeroT (t : TypeId) : Option Value := ((P.info? t).bind (·.zero)).bind fun v => if plain v && storable v then some v else none

def loadV (t : TypeId) (a : Value) (H : Heap) : Option Value :=
  match a with
  | .pointer (some ⟨b, off, none⟩) =>
    match isAggT P t, sizeT P t with
    | some true, some n => (cellsAt H b off n).map fun cs => .agg cs.toArray
    | some false, _ => (H.get b).bind fun k => k.cells[off]?
    | _, _ => none
  | .func (.via _ _ _ true) cs _ =>
    match isAggT P t, sizeT P t with
    | some true, some n => if n ≤ cs.size then some (.agg (cs.extract 0 n)) else none
    | some false, _ => cs[0]?
    | _, _ => none
  | _ => none

def storeV (t : TypeId) (a v : Value) (H : Heap) : Res Unit :=
  match a with
  | .pointer (some ⟨b, off, none⟩) =>
    match sizeT P t with
    | some n => if v.cells.size == n && storable v then putCells H b off v.cells.toList else .stuck
    | none => .stuck
  | _ => .stuck

def fieldOf (s : TypeId) (i : Nat) : Option Field :=
  match P.underlying s with
  | some (.struct fs) => fs[i]?
  | _ => none

def fieldAddrV (s : TypeId) (a : Value) (i : Nat) : Option Value :=
  match a, fieldOf P s i with
  | .pointer (some ⟨b, off, none⟩), some f =>
    match sizeT P f.type with
    | some (_ + 1) => some (.pointer (some ⟨b, off + f.offset, none⟩))
    | _ => none
  | .func (.via _ _ _ true) cs _, some f =>
    match sizeT P f.type with
    | some (n + 1) => if f.offset + (n + 1) ≤ cs.size then some (boxV (cs.extract f.offset (f.offset + (n + 1)))) else none
    | _ => none
  | _, _ => none

def partV (t : TypeId) (cs : Array Value) (off : Nat) : Option Value :=
  match isAggT P t, sizeT P t with
  | some true, some n => some (.agg (cs.extract off (off + n)))
  | some false, _ => cs[off]?
  | _, _ => none

def fieldV (s : TypeId) (x : Value) (i : Nat) : Option Value :=
  match x, fieldOf P s i with
  | .agg cs, some f => partV P f.type cs f.offset
  | _, _ => none

def indexAddrV (t : TypeId) (x ix : Value) : Option Value :=
  match ix with
  | .int _ i =>
    match P.underlying t, x with
    | some (.array len elem), .pointer (some ⟨b, off, none⟩) =>
      match sizeT P elem with
      | some n => if 0 ≤ i ∧ i < len then some (.pointer (some ⟨b, off + i.toNat * n, none⟩)) else none
      | none => none
    | some (.slice elem), .slice (some ⟨b, off, none⟩) len _ =>
      match sizeT P elem with
      | some n => if 0 ≤ i ∧ i < len then some (.pointer (some ⟨b, off + i.toNat * n, none⟩)) else none
      | none => none
    | some (.array len elem), .func (.via _ _ _ true) cs _ =>
      match sizeT P elem with
      | some n => if 0 ≤ i ∧ i < len ∧ i.toNat * n + n ≤ cs.size then some (boxV (cs.extract (i.toNat * n) (i.toNat * n + n))) else none
      | none => none
    | some (.slice elem), .func (.via len _ _ false) cs _ =>
      match sizeT P elem with
      | some n => if 0 ≤ i ∧ i < len ∧ i.toNat * n + n ≤ cs.size then some (boxV (cs.extract (i.toNat * n) (i.toNat * n + n))) else none
      | none => none
    | _, _ => none
  | _ => none

def indexV (t : TypeId) (x ix : Value) : Option Value :=
  match ix with
  | .int _ i =>
    match P.underlying t, x with
    | some (.array len elem), .agg cs =>
      match sizeT P elem with
      | some n => if 0 ≤ i ∧ i < len then partV P elem cs (i.toNat * n) else none
      | none => none
    | some .string, .string s => if 0 ≤ i then (s[i.toNat]?).map fun c => .int .u8 c.toNat else none
    | _, _ => none
  | _ => none

def boundOf (v : Option Value) (d : Nat) : Option Nat :=
  match v with
  | none => some d
  | some (.int _ i) => if 0 ≤ i then some i.toNat else none
  | some _ => none

/-- The block of a slice whose room behind its end stays open has elements of that size. -/
def openOk (H : Heap) (b size : Nat) (mx : Option Value) : Bool :=
  mx.isSome || (match H.get b with
    | some k => k.ro || k.esz == size
    | none => false)

/-- s[lo:hi:mx]; no bound stands behind what is surely there. -/
def sliceV (t : TypeId) (x : Value) (lo hi mx : Option Value) (H : Heap) : Option Value :=
  match P.underlying t, x with
  | some (.slice elem), .slice a len cap =>
    match sizeT P elem, boundOf mx cap, boundOf hi len, boundOf lo 0 with
    | some size, some m, some h, some l =>
      if m ≤ cap ∧ h ≤ m ∧ l ≤ h ∧ (mx.isSome → hi.isSome) then
        match a with
        | none => some (.slice none 0 0)
        | some ⟨b, off, none⟩ => if openOk H b size mx then some (.slice (some ⟨b, off + l * size, none⟩) (h - l) (m - l)) else none
        | _ => none
      else none
    | _, _, _, _ => none
  | some (.array n elem), .pointer (some ⟨b, off, none⟩) =>
    match sizeT P elem, boundOf mx n, boundOf hi n, boundOf lo 0 with
    | some size, some m, some h, some l =>
      if m ≤ n ∧ h ≤ m ∧ l ≤ h ∧ (mx.isSome → hi.isSome) then some (.slice (some ⟨b, off + l * size, none⟩) (h - l) (m - l)) else none
    | _, _, _, _ => none
  | some (.slice elem), .func (.via len _ _ false) cs _ =>
    match sizeT P elem, boundOf mx len, boundOf hi len, boundOf lo 0 with
    | some size, some m, some h, some l =>
      if m ≤ len ∧ h ≤ m ∧ l ≤ h ∧ (mx.isSome → hi.isSome) ∧ h * size ≤ cs.size then some (listV (h - l) (cs.extract (l * size) (h * size))) else none
    | _, _, _, _ => none
  | some .string, .string s =>
    match mx, boundOf hi s.size, boundOf lo 0 with
    | none, some h, some l => if h ≤ s.size ∧ l ≤ h then some (.string (s.extract l h)) else none
    | _, _, _ => none
  | _, _ => none

def intBin (op : BinOp) (k : IntKind) (a b : Int) : Option Value :=
  match op with
  | .add => some (.int k (k.wrap (a + b)))
  | .sub => some (.int k (k.wrap (a - b)))
  | .mul => some (.int k (k.wrap (a * b)))
  | .quo => if b = 0 then none else some (.int k (k.wrap (a.tdiv b)))
  | .rem => if b = 0 then none else some (.int k (a.tmod b))
  | .and => some (.int k (k.wrap (BitVec.ofInt k.bits a &&& BitVec.ofInt k.bits b).toNat))
  | .or => some (.int k (k.wrap (BitVec.ofInt k.bits a ||| BitVec.ofInt k.bits b).toNat))
  | .xor => some (.int k (k.wrap (BitVec.ofInt k.bits a ^^^ BitVec.ofInt k.bits b).toNat))
  | .andNot => some (.int k (k.wrap (BitVec.ofInt k.bits a &&& ~~~(BitVec.ofInt k.bits b)).toNat))
  | .eql => some (.bool (a == b))
  | .neq => some (.bool (a != b))
  | .lss => some (.bool (decide (a < b)))
  | .leq => some (.bool (decide (a ≤ b)))
  | .gtr => some (.bool (decide (a > b)))
  | .geq => some (.bool (decide (a ≥ b)))
  | _ => none

def shiftV (op : BinOp) (k : IntKind) (a b : Int) : Option Value :=
  if b < 0 then none else
  match op with
  | .shl => some (.int k (k.wrap (a * 2 ^ (min b.toNat k.bits))))
  | .shr => some (.int k (a.fdiv (2 ^ (min b.toNat k.bits))))
  | _ => none

def eqFields (eq : TypeId → Value → Value → Option Bool) (xs ys : Array Value) : List Field → Option Bool
  | [] => some true
  | f :: fs =>
    if f.name == "_" then none else
    match partV P f.type xs f.offset, partV P f.type ys f.offset with
    | some a, some b =>
      match eq f.type a b with
      | some true => eqFields eq xs ys fs
      | r => r
    | _, _ => none

/-- Equal values of a type: numbers, bools, strings, structs of these; pointers, slices and maps against nil alone. -/
def eqV : Nat → TypeId → Value → Value → Option Bool
  | 0, _, _, _ => none
  | d + 1, t, x, y =>
    match P.underlying t, x, y with
    | some .bool, .bool a, .bool b => some (a == b)
    | some (.int _), .int k a, .int k' b => if k = k' then some (a == b) else none
    | some .string, .string a, .string b => some (a == b)
    | some (.pointer _), .pointer none, .pointer b => some b.isNone
    | some (.pointer _), .pointer (some _), .pointer none => some false
    | some (.slice _), .slice none _ _, .slice b _ _ => nilS b
    | some (.slice _), .slice (some a) _ _, .slice none _ _ => nilS (some a)
    | some (.pointer _), .func (.via _ _ _ true) _ _, .pointer none => some false
    | some (.pointer _), .pointer none, .func (.via _ _ _ true) _ _ => some false
    | some (.slice _), .func (.via (_ + 1) _ _ false) _ _, .slice none _ _ => some false
    | some (.slice _), .func (.via 0 _ 1 false) _ _, .slice none _ _ => some false
    | some (.slice _), .func (.via 0 _ 2 false) _ _, .slice none _ _ => some true
    | some (.slice _), .slice none _ _, .func (.via (_ + 1) _ _ false) _ _ => some false
    | some (.map _ _), .map none, .map b => some b.isNone
    | some (.map _ _), .map (some _), .map none => some false
    | some (.struct fields), .agg xs, .agg ys =>
      if P.stoodInHeld t then none else eqFields P (eqV d) xs ys fields.toList
    | _, _, _ => none

/-- How deep equality looks. -/
def eqDepth : Nat := 8

def binV (op : BinOp) (t : TypeId) (x y : Value) : Option Value :=
  match op, x, y with
  | .shl, .int k a, .int _ b | .shr, .int k a, .int _ b => shiftV op k a b
  | _, .int k a, .int k' b => if k = k' then intBin op k a b else none
  | .eql, .string a, .string b => some (.bool (a == b))
  | .neq, .string a, .string b => some (.bool (!(a == b)))
  | .lss, .string a, .string b => some (.bool (Op.bytesLess a.toList b.toList))
  | .eql, .agg a, .agg b => if P.eqGuardType P.depth t then none else (eqV P eqDepth t (.agg a) (.agg b)).map .bool
  | .neq, .agg a, .agg b => if P.eqGuardType P.depth t then none else (eqV P eqDepth t (.agg a) (.agg b)).map fun r => .bool (!r)
  | .eql, .pointer a, .pointer b => (eqV P eqDepth t (.pointer a) (.pointer b)).map .bool
  | .neq, .pointer a, .pointer b => (eqV P eqDepth t (.pointer a) (.pointer b)).map fun r => .bool (!r)
  | .eql, .slice a l c, .slice b m d => (eqV P eqDepth t (.slice a l c) (.slice b m d)).map .bool
  | .neq, .slice a l c, .slice b m d => (eqV P eqDepth t (.slice a l c) (.slice b m d)).map fun r => .bool (!r)
  | .eql, .func f a b, .pointer y => (eqV P eqDepth t (.func f a b) (.pointer y)).map .bool
  | .neq, .func f a b, .pointer y => (eqV P eqDepth t (.func f a b) (.pointer y)).map fun r => .bool (!r)
  | .eql, .pointer y, .func f a b => (eqV P eqDepth t (.pointer y) (.func f a b)).map .bool
  | .neq, .pointer y, .func f a b => (eqV P eqDepth t (.pointer y) (.func f a b)).map fun r => .bool (!r)
  | .eql, .func f a b, .slice y l c => (eqV P eqDepth t (.func f a b) (.slice y l c)).map .bool
  | .neq, .func f a b, .slice y l c => (eqV P eqDepth t (.func f a b) (.slice y l c)).map fun r => .bool (!r)
  | .eql, .slice y l c, .func f a b => (eqV P eqDepth t (.slice y l c) (.func f a b)).map .bool
  | .neq, .slice y l c, .func f a b => (eqV P eqDepth t (.slice y l c) (.func f a b)).map fun r => .bool (!r)
  | .eql, .bool a, .bool b => (eqV P eqDepth t (.bool a) (.bool b)).map .bool
  | .neq, .bool a, .bool b => (eqV P eqDepth t (.bool a) (.bool b)).map fun r => .bool (!r)
  | _, _, _ => none

def unV (op : UnOp) (x : Value) : Option Value :=
  match op, x with
  | .neg, .int k n => some (.int k (k.wrap (0 - n)))
  | .xor, .int k n => intBin .xor k (if k.signed then -1 else k.max) n
  | .not, .bool b => some (.bool !b)
  | _, _ => none

def convV (dst : TypeId) (x : Value) : Option Value :=
  match P.underlying dst, x with
  | some (.int k), .int _ n => some (.int k (k.wrap n))
  | _, _ => none

def placesOf (t : TypeId) : Option (List (Nat × Nat)) :=
  match P.underlying t with
  | some (.struct fs) => fs.toList.mapM fun f => (sizeT P f.type).map fun n => (f.offset, n)
  | _ => none

def buildV (t : TypeId) (parts : List (Nat × Value)) : Option Value :=
  (zeroT P t).bind fun z =>
    match P.underlying t with
    | some (.struct _) => (placesOf P t).bind fun ps => (Instr.fill (ps[·]?) z.cells parts).map .agg
    | some (.array _ e) => (sizeT P e).bind fun n => (Instr.fill (fun i => some (i * n, n)) z.cells parts).map .agg
    | _ => none

/-- The parts of a literal: each may lie in a variable. -/
def partsV : List (Nat × Value) → Option (List (Nat × Value))
  | [] => some []
  | (i, v) :: xs => if storable v then (partsV xs).map ((i, v) :: ·) else none

def opndsP (e : Env) : List (Nat × Operand) → Option (List (Nat × Value))
  | [] => some []
  | (i, x) :: xs => (opnd e x).bind fun v => (opndsP e xs).map ((i, v) :: ·)

def repeatCells (z : List Value) : Nat → List Value
  | 0 => []
  | n + 1 => z ++ repeatCells z n

/-- n elements that are zero. -/
def zeros (e : TypeId) (n : Nat) : Option (List Value) :=
  (zeroT P e).bind fun z => (sizeT P e).bind fun s => if z.cells.size == s then some (repeatCells z.cells.toList n) else none

def buildSliceV (t : TypeId) (len : Nat) (ps : List (Nat × Value)) (H : Heap) : Res Value :=
  match P.underlying t with
  | some (.slice e) =>
    match sizeT P e, zeros P e len with
    | some n, some z =>
      if Nat.ble (len * n) (2 ^ 24) then
        match Instr.fill (fun i => some (i * n, n)) z.toArray ps with
        | some cs => bif Nat.beq len 0 then .ok bareV H else .ok (.slice (some ⟨H.n, 0, none⟩) len len) (H.push ⟨cs.toList, n, false⟩)
        | none => .stuck
      else .stuck
    | _, _ => .stuck
  | _ => .stuck

def makeSliceV (t : TypeId) (l c : Value) (H : Heap) : Res Value :=
  match P.underlying t, l, c with
  | some (.slice e), .int _ n, .int _ m =>
    match sizeT P e, P.info? e with
    | some s, some i =>
      if 0 ≤ n ∧ n = m ∧ n ≤ 2 ^ 31 ∧ i.bytes ≤ 2 ^ 10 then
        match zeros P e n.toNat with
        | some z => .ok (.slice (some ⟨H.n, 0, none⟩) n.toNat n.toNat) (H.push ⟨z, s, false⟩)
        | none => .stuck
      else .stuck
    | _, _ => .stuck
  | _, _, _ => .stuck

/-- The first n elements of a slice, or of a string. -/
def firstV (size n : Nat) (x : Value) (H : Heap) : Option (List Value) :=
  match x with
  | .slice (some ⟨b, off, none⟩) _ _ => if n * size = 0 then some [] else cellsAt H b off (n * size)
  | .slice none _ _ => some []
  | .slice (some ⟨_, _, some _⟩) _ _ => if n = 0 then some [] else none
  | .func (.via _ _ _ false) cs _ => if n * size ≤ cs.size then some (cs.extract 0 (n * size)).toList else none
  | .string s => if size == 1 then some ((s.extract 0 n).data.toList.map fun b => .int .u8 b.toNat) else none
  | _ => none

def lenV : Value → Option Nat
  | .slice _ n _ => some n
  | .func (.via n _ _ false) _ _ => some n
  | .string s => some s.size
  | _ => none

/-- append: always a new block; the old one is gone, for its room may have been used. -/
def appendK (size bytes zs n : Nat) (base : Option Addr) (sLen sCap : Nat) (x : Value) (H : Heap) : Res Value :=
  if n = 0 then .ok (.slice base sLen sCap) H else
  if sLen + n ≤ 2 ^ 31 ∧ bytes ≤ 2 ^ 10 ∧ zs = size then
    match firstV size n x H with
    | none => .stuck
    | some new =>
      match base with
      | none => .ok (.slice (some ⟨H.n, 0, none⟩) n n) (H.push ⟨new, size, false⟩)
      | some ⟨b, off, none⟩ =>
        match H.get b with
        | some k =>
          if !k.ro && k.esz == size && Nat.ble (off + sCap * size) k.cells.length then
            .ok (.slice (some ⟨H.n, 0, none⟩) (sLen + n) (sLen + n)) ((H.set b none).push ⟨((k.cells.drop off).take (sLen * size)) ++ new, size, false⟩)
          else .stuck
        | none => .stuck
      | some ⟨_, _, some _⟩ => if sLen = 0 ∧ sCap = 0 then .ok (.slice (some ⟨H.n, 0, none⟩) n n) (H.push ⟨new, size, false⟩) else .stuck
  else .stuck

/-- The element's type, where append takes such two. -/
def appendT (sT xT : TypeId) : Option TypeId :=
  match P.underlying sT, P.underlying xT with
  | some (.slice e), some (.slice _) => some e
  | some (.slice e), some .string => some e
  | _, _ => none

def appendV (ts : List TypeId) (args : List Value) (H : Heap) : Res Value :=
  match ts, args with
  | [sT, xT], [.slice base sLen sCap, x] =>
    match appendT P sT xT with
    | some e =>
      match sizeT P e, P.info? e, lenV x, zeroT P e with
      | some size, some i, some n, some z => appendK size i.bytes z.cells.size n base sLen sCap x H
      | _, _, _, _ => .stuck
    | none => .stuck
  | _, _ => .stuck

def copyV (ts : List TypeId) (args : List Value) (H : Heap) : Res Value :=
  match ts, args with
  | dT :: _, [.slice base dLen _, src] =>
    match P.underlying dT with
    | some (.slice e) =>
      match sizeT P e, lenV src with
      | some size, some sn =>
        match firstV size (min sn dLen) src H with
        | none => .stuck
        | some cs =>
          if cs.isEmpty then .ok (.int .i64 (min sn dLen)) H else
          match base with
          | some ⟨b, off, none⟩ => (putCells H b off cs).bind fun _ H' => .ok (.int .i64 (min sn dLen)) H'
          | _ => .stuck
      | _, _ => .stuck
    | _ => .stuck
  | _, _ => .stuck

def clearV (ts : List TypeId) (args : List Value) (H : Heap) : Res Value :=
  match ts, args with
  | t :: _, [.slice base n _] =>
    match P.underlying t with
    | some (.slice e) =>
      if n = 0 then .ok undef H else
      match base, zeros P e n with
      | some ⟨b, off, none⟩, some z => (putCells H b off z).bind fun _ H' => .ok undef H'
      | _, _ => .stuck
    | _ => .stuck
  | _, _ => .stuck

def lenB (ts : List TypeId) (args : List Value) : Option Value :=
  match ts, args with
  | [t], [x] =>
    match P.underlying t, x with
    | some .string, .string s => some (.int .i64 s.size)
    | some (.slice _), .slice _ n _ => some (.int .i64 n)
    | some (.slice _), .func (.via n _ _ false) _ _ => some (.int .i64 n)
    | some (.array n _), _ => some (.int .i64 n)
    | _, _ => none
  | _, _ => none

def minB : List Value → Option Value
  | [.int k x, .int _ y] => some (.int k (if y < x then y else x))
  | _ => none
def maxB : List Value → Option Value
  | [.int k x, .int _ y] => some (.int k (if y > x then y else x))
  | _ => none

def builtinV (b : Builtin) (ts : List TypeId) (args : List Value) (H : Heap) : Res Value :=
  match b with
  | .append => appendV P ts args H
  | .copy => copyV P ts args H
  | .clear => clearV P ts args H
  | .len => opt (lenB P ts args) H
  | .min => opt (minB args) H
  | .max => opt (maxB args) H
  | .panic => match args with | [.iface t v] => .panic (.iface t v) H | _ => .stuck
  | _ => .stuck

end
end Go.Sw
