/-
  A speaking function, run by itself, answers true.
-/
import Derived.Test.YtnaodjnimkndbabSwLib6
section
namespace Go.Sw
open Go.RowKit
def newP (cells : List Value) (h : Heap) : Res Value := .ok (.pointer (some ⟨h.n, 0, none⟩)) (h.push ⟨cells, 1, false⟩)
def ldA (n : Nat) (a : Value) (h : Heap) : Res Value :=
 match a with
 | .pointer (some ⟨b, off, none⟩) => opt ((cellsAt h b off n).map fun cs => .agg cs.toArray) h
 | .func (.via _ _ _ true) cs _ => if n ≤ cs.size then .ok (.agg (cs.extract 0 n)) h else .stuck
 | _ => .stuck
def ld1 (a : Value) (h : Heap) : Res Value :=
 match a with
 | .pointer (some ⟨b, off, none⟩) => opt ((h.get b).bind fun k => k.cells[off]?) h
 | .func (.via _ _ _ true) cs _ => opt cs[0]? h
 | _ => .stuck
def stR (n : Nat) (a v : Value) (h : Heap) : Res Value :=
 match a with
 | .pointer (some ⟨b, off, none⟩) => if v.cells.size == n && storable v then (putCells h b off v.cells.toList).bind fun _ h' => .ok undef h' else .stuck
 | _ => .stuck
def faR (off n : Nat) (a : Value) (h : Heap) : Res Value :=
 match a with
 | .pointer (some ⟨b, o, none⟩) => .ok (.pointer (some ⟨b, o + off, none⟩)) h
 | .func (.via _ _ _ true) cs _ => if off + n ≤ cs.size then .ok (boxV (cs.extract off (off + n))) h else .stuck
 | _ => .stuck
def fvA (off n : Nat) (x : Value) (h : Heap) : Res Value :=
 match x with
 | .agg cs => .ok (.agg (cs.extract off (off + n))) h
 | _ => .stuck
def fv1 (off : Nat) (x : Value) (h : Heap) : Res Value :=
 match x with
 | .agg cs => opt cs[off]? h
 | _ => .stuck
def ixS (n : Nat) (x ix : Value) (h : Heap) : Res Value :=
 match ix with
 | .int _ i =>
  match x with
  | .slice (some ⟨b, off, none⟩) len _ => if 0 ≤ i ∧ i < len then .ok (.pointer (some ⟨b, off + i.toNat * n, none⟩)) h else .stuck
  | .func (.via len _ _ false) cs _ => if 0 ≤ i ∧ i < len ∧ i.toNat * n + n ≤ cs.size then .ok (boxV (cs.extract (i.toNat * n) (i.toNat * n + n))) h else .stuck
  | _ => .stuck
 | _ => .stuck
def ixA (len n : Nat) (x ix : Value) (h : Heap) : Res Value :=
 match ix with
 | .int _ i =>
  match x with
  | .pointer (some ⟨b, off, none⟩) => if 0 ≤ i ∧ i < len then .ok (.pointer (some ⟨b, off + i.toNat * n, none⟩)) h else .stuck
  | .func (.via _ _ _ true) cs _ => if 0 ≤ i ∧ i < len ∧ i.toNat * n + n ≤ cs.size then .ok (boxV (cs.extract (i.toNat * n) (i.toNat * n + n))) h else .stuck
  | _ => .stuck
 | _ => .stuck
def slS (size : Nat) (x : Value) (lo hi mx : Option Value) (H : Heap) : Res Value :=
 match x with
 | .slice a len cap =>
  match boundOf mx cap, boundOf hi len, boundOf lo 0 with
  | some m, some h, some l =>
   if m ≤ cap ∧ h ≤ m ∧ l ≤ h ∧ (mx.isSome → hi.isSome) then
    match a with
    | none => .ok (.slice none 0 0) H
    | some ⟨b, off, none⟩ => if openOk H b size mx then .ok (.slice (some ⟨b, off + l * size, none⟩) (h - l) (m - l)) H else .stuck
    | some ⟨_, _, some _⟩ => .ok emptyV H
   else .stuck
  | _, _, _ => .stuck
 | .func (.via len _ _ false) cs _ =>
  match boundOf mx len, boundOf hi len, boundOf lo 0 with
  | some m, some h, some l =>
   if m ≤ len ∧ h ≤ m ∧ l ≤ h ∧ (mx.isSome → hi.isSome) ∧ h * size ≤ cs.size then .ok (listV (h - l) (cs.extract (l * size) (h * size))) H else .stuck
  | _, _, _ => .stuck
 | _ => .stuck
def slA (n size : Nat) (x : Value) (lo hi mx : Option Value) (H : Heap) : Res Value :=
 match x with
 | .pointer (some ⟨b, off, none⟩) =>
  match boundOf mx n, boundOf hi n, boundOf lo 0 with
  | some m, some h, some l =>
   if m ≤ n ∧ h ≤ m ∧ l ≤ h ∧ (mx.isSome → hi.isSome) then .ok (.slice (some ⟨b, off + l * size, none⟩) (h - l) (m - l)) H else .stuck
  | _, _, _ => .stuck
 | _ => .stuck
def lnS (x : Value) (h : Heap) : Res Value :=
 match x with
 | .slice _ n _ => .ok (.int .i64 n) h
 | .func (.via n _ _ false) _ _ => .ok (.int .i64 n) h
 | _ => .stuck
def apR (size bytes : Nat) (a b : Value) (h : Heap) : Res Value :=
 match a with
 | .slice base sLen sCap => match lenV b with
  | some n => appendK size bytes size n base sLen sCap b h
  | none => .stuck
 | _ => .stuck
def mkR (size bytes : Nat) (z : List Value) (l c : Value) (h : Heap) : Res Value :=
 match l, c with
 | .int _ n, .int _ m => if 0 ≤ n ∧ n = m ∧ n ≤ 2 ^ 31 ∧ bytes ≤ 2 ^ 10 then .ok (.slice (some ⟨h.n, 0, none⟩) n.toNat n.toNat) (h.push ⟨repeatCells z n.toNat, size, false⟩) else .stuck
 | _, _ => .stuck
def bdR (places : List (Nat × Nat)) : List (Nat × Value) → List Value → Heap → Res Value
 | [], z, h => .ok (.agg z.toArray) h
 | (i, v) :: ps, z, h =>
  match places[i]? with
  | some (off, size) => if storable v && v.cells.size == size && Nat.ble (off + size) z.length then bdR places ps (splice z off v.cells.toList) h else .stuck
  | none => .stuck
def beR (size len : Nat) : List (Nat × Value) → List Value → Heap → Res Value
 | [], z, h => bif Nat.beq len 0 then .ok bareV h else .ok (.slice (some ⟨h.n, 0, none⟩) len len) (h.push ⟨z, size, false⟩)
 | (i, v) :: ps, z, h => if storable v && v.cells.size == size && Nat.ble (i * size + size) z.length then beR size len ps (splice z (i * size) v.cells.toList) h else .stuck
def baR (size : Nat) : List (Nat × Value) → List Value → Heap → Res Value
 | [], z, h => .ok (.agg z.toArray) h
 | (i, v) :: ps, z, h => if storable v && v.cells.size == size && Nat.ble (i * size + size) z.length then baR size ps (splice z (i * size) v.cells.toList) h else .stuck
section
variable {P : Program} {t e : TypeId}
theorem al_eq {z : Value} (hz : zeroT P t = some z) (h : Heap) : allocR P t h = newP z.cells.toList h := by
 unfold allocR; rw [hz]; rfl
theorem ldA_eq {n : Nat} (h1 : isAggT P t = some true) (h2 : sizeT P t = some n) (a : Value) (h : Heap) : loadR P t a h = ldA n a h := by
 unfold loadR loadV ldA
 rw [h1, h2]
 cases a with
 | pointer p =>
  cases p with
  | none => rfl
  | some q =>
   obtain ⟨b, o, s⟩ := q
   cases s with
   | none => dsimp only; try (split <;> rfl)
   | some s => rfl
 | func fn xs ys =>
  cases fn with
  | via n' p g t =>
   cases t with
   | true => dsimp only; try (split <;> rfl)
   | false => rfl
  | _ => rfl
 | _ => rfl
theorem ld1_eq (h1 : isAggT P t = some false) (a : Value) (h : Heap) : loadR P t a h = ld1 a h := by
 unfold loadR loadV ld1
 rw [h1]
 cases a with
 | pointer p =>
  cases p with
  | none => rfl
  | some q =>
   obtain ⟨b, o, s⟩ := q
   cases s with
   | none => dsimp only; try (split <;> rfl)
   | some s => rfl
 | func fn xs ys =>
  cases fn with
  | via n' p g t =>
   cases t with
   | true => dsimp only; try (split <;> rfl)
   | false => rfl
  | _ => rfl
 | _ => rfl
theorem st_eq {n : Nat} (h2 : sizeT P t = some n) (a v : Value) (h : Heap) : storeR P t a v h = stR n a v h := by
 unfold storeR storeV stR
 rw [h2]
 cases a with
 | pointer p =>
  cases p with
  | none => rfl
  | some q =>
   obtain ⟨b, o, s⟩ := q
   cases s with
   | none => dsimp only; split <;> rfl
   | some s => rfl
 | _ => rfl
theorem fa_eq {i : Nat} {f : Field} {n : Nat} (h1 : fieldOf P t i = some f) (h2 : sizeT P f.type = some (n + 1)) (a : Value) (h : Heap) : fieldAddrR P t a i h = faR f.offset (n + 1) a h := by
 unfold fieldAddrR fieldAddrV faR
 rw [h1]
 cases a with
 | pointer p =>
  cases p with
  | none => rfl
  | some q =>
   obtain ⟨b, o, s⟩ := q
   cases s <;> simp only [h2] <;> rfl
 | func fn xs ys =>
  cases fn with
  | via n' p g t =>
   cases t with
   | true => simp only [h2]; split <;> rfl
   | false => rfl
  | _ => rfl
 | _ => rfl
theorem ixS_eq {n : Nat} (h1 : P.underlying t = some (.slice e)) (h2 : sizeT P e = some n) (x i : Value) (h : Heap) : indexAddrR P t x i h = ixS n x i h := by
 unfold indexAddrR indexAddrV ixS
 cases i with
 | int k i =>
  simp only [h1]
  cases x with
  | slice a len cap =>
   cases a with
   | none => rfl
   | some q =>
    obtain ⟨b, o, s⟩ := q
    cases s with
    | none => simp only [h2]; split <;> rfl
    | some s => rfl
  | func fn xs ys =>
   cases fn with
   | via n' p g t =>
    cases t with
    | true => rfl
    | false => simp only [h2]; split <;> rfl
   | _ => rfl
  | _ => rfl
 | _ => rfl
theorem ixA_eq {n len : Nat} (h1 : P.underlying t = some (.array len e)) (h2 : sizeT P e = some n) (x i : Value) (h : Heap) : indexAddrR P t x i h = ixA len n x i h := by
 unfold indexAddrR indexAddrV ixA
 cases i with
 | int k i =>
  simp only [h1]
  cases x with
  | pointer a =>
   cases a with
   | none => rfl
   | some q =>
    obtain ⟨b, o, s⟩ := q
    cases s with
    | none => simp only [h2]; split <;> rfl
    | some s => rfl
  | func fn xs ys =>
   cases fn with
   | via n' p g t =>
    cases t with
    | false => rfl
    | true => simp only [h2]; split <;> rfl
   | _ => rfl
  | _ => rfl
 | _ => rfl
theorem slS_eq {n : Nat} (h1 : P.underlying t = some (.slice e)) (h2 : sizeT P e = some n) (x : Value) (lo hi mx : Option Value) (h : Heap) : sliceR P t x lo hi mx h = slS n x lo hi mx h := by
 unfold sliceR sliceV slS
 simp only [h1]
 cases x with
 | slice a len cap =>
  simp only [h2]
  cases boundOf mx cap <;> cases boundOf hi len <;> cases boundOf lo 0 <;> try rfl
  dsimp only
  split
  ·cases a with
   | none => rfl
   | some q =>
    obtain ⟨b, o, s⟩ := q
    cases s with
    | none => dsimp only; split <;> rfl
    | some s => rfl
  ·rfl
 | func fn xs ys =>
  cases fn with
  | via n' p g t =>
   cases t with
   | true => rfl
   | false =>
    simp only [h2]
    cases boundOf mx n' <;> cases boundOf hi n' <;> cases boundOf lo 0 <;> try rfl
    dsimp only
    split <;> rfl
  | _ => rfl
 | _ => rfl
theorem slA_eq {n len : Nat} (h1 : P.underlying t = some (.array len e)) (h2 : sizeT P e = some n) (x : Value) (lo hi mx : Option Value) (h : Heap) : sliceR P t x lo hi mx h = slA len n x lo hi mx h := by
 unfold sliceR sliceV slA
 simp only [h1]
 cases x with
 | pointer a =>
  cases a with
  | none => rfl
  | some q =>
   obtain ⟨b, o, s⟩ := q
   cases s with
   | none =>
    simp only [h2]
    cases boundOf mx len <;> cases boundOf hi len <;> cases boundOf lo 0 <;> try rfl
    dsimp only
    split <;> rfl
   | some s => rfl
 | _ => rfl
theorem lnS_eq (h1 : P.underlying t = some (.slice e)) (x : Value) (h : Heap) : builtinV P .len [t] [x] h = lnS x h := by
 unfold builtinV lenB lnS
 simp only [h1]
 cases x with
 | func fn xs ys =>
  cases fn with
  | via n' p g t => cases t <;> rfl
  | _ => rfl
 | _ => rfl
def cpR (size : Nat) (d s : Value) (h : Heap) : Res Value :=
 match d with
 | .slice base dLen _ => match lenV s with
  | some sn => match firstV size (min sn dLen) s h with
   | none => .stuck
   | some cs => if cs.isEmpty then .ok (.int .i64 (min sn dLen)) h else
    match base with
    | some ⟨b, off, none⟩ => (putCells h b off cs).bind fun _ H' => .ok (.int .i64 (min sn dLen)) H'
    | _ => .stuck
  | none => .stuck
 | _ => .stuck
theorem cp_is {u : TypeId} {size : Nat} (h1 : P.underlying t = some (.slice e)) (h2 : sizeT P e = some size) (d s : Value) (h : Heap) : builtinV P .copy [t, u] [d, s] h = cpR size d s h := by
 show copyV P [t, u] [d, s] h = _
 unfold copyV cpR
 cases d with
 | slice base dLen c =>
  dsimp only
  rw [h1]
  dsimp only
  rw [h2]
  cases lenV s <;> rfl
 | _ => rfl
theorem ap_eq {size : Nat} {i : TypeInfo} {z : Value} (h1 : P.underlying t = some (.slice e)) (h2 : sizeT P e = some size) (h3 : P.info? e = some i) (h4 : zeroT P e = some z) (h5 : z.cells.size = size) (a b : Value) (h : Heap) :
  builtinV P .append [t, t] [a, b] h = apR size i.bytes a b h := by
 unfold builtinV appendV apR
 cases a with
 | slice base l c =>
  simp only [appendT, h1, h2, h3, h4]
  cases lenV b with
  | none => rfl
  | some n => dsimp only; rw [h5]
 | _ => rfl
theorem mk_eq {size : Nat} {i : TypeInfo} {z : Value} (h1 : P.underlying t = some (.slice e)) (h2 : sizeT P e = some size) (h3 : P.info? e = some i) (h4 : zeroT P e = some z) (h5 : (z.cells.size == size) = true) (l c : Value) (h : Heap) :
  makeSliceV P t l c h = mkR size i.bytes z.cells.toList l c h := by
 unfold makeSliceV mkR
 simp only [h1]
 cases l <;> try rfl
 cases c <;> try rfl
 simp only [h2, h3, zeros, h4, Option.bind_some]
 rw [if_pos h5]
theorem ζhg (off : Nat) : ∀ (l : List Value) (k : Nat) (c : Array Value), off + k + l.length ≤ c.size → ((l.zipIdx k).foldl (fun cs (x, j) => cs.setIfInBounds (off + j) x) c).toList = splice c.toList (off + k) l
 | [], k, c, _ => by simp [splice]
 | x :: l, k, c, h => by
  rw [List.zipIdx_cons, List.foldl_cons, ζhg off l (k + 1) _ (by simp at h ⊢; omega)]
  simp only [List.length_cons] at h
  have hl : off + k < c.toList.length := by simp; omega
  rw [Array.toList_setIfInBounds, List.set_eq_take_append_cons_drop, if_pos hl]
  unfold splice
  have ht : (c.toList.take (off + k)).length = off + k := by simp; omega
  rw [List.take_append, List.drop_append, ht, show off + (k + 1) - (off + k) = 1 by omega, show off + (k + 1) + l.length - (off + k) = l.length + 1 by omega]
  rw [List.take_of_length_le (by rw [ht]; omega), List.drop_of_length_le (l := List.take (off + k) c.toList) (by rw [ht]; omega)]
  simp [List.drop_drop, Nat.add_assoc, Nat.add_comm, Nat.add_left_comm]
theorem fill_bd {β : Type} (place : Nat → Option (Nat × Nat)) (k : List Value → Res β) (H : Heap) (go : List (Nat × Value) → List Value → Res β) (hnil : ∀ z, go [] z = k z)
  (hcons : ∀ i v ps z, go ((i, v) :: ps) z = match place i with
   | some (off, size) => if storable v && v.cells.size == size && Nat.ble (off + size) z.length then go ps (splice z off v.cells.toList) else .stuck
   | none => .stuck) : ∀ (ps : List (Nat × Value)) (c : Array Value),
  ((opt (partsV ps) H).bind fun ps _ => match Instr.fill place c ps with | some r => k r.toList | none => .stuck) = go ps c.toList
 | [], c => by rw [hnil]; rfl
 | (i, v) :: ps, c => by
  rw [hcons]
  simp only [partsV]
  cases hp : place i with
  | none =>
   dsimp only
   split
   ·cases partsV ps with
    | none => rfl
    | some r => simp only [Option.map_some, opt, Res.bind, Instr.fill, hp]
   ·rfl
  | some q =>
   obtain ⟨off, size⟩ := q
   dsimp only
   cases hs : storable v with
   | false => rfl
   | true =>
    simp only [if_true, Bool.true_and]
    by_cases hz : v.cells.size = size
    ·by_cases hb : off + size ≤ c.size
     ·have hb1 : Nat.ble (off + size) c.toList.length = true := Nat.ble_eq_true_of_le (by simpa using hb)
      rw [if_pos (by rw [hb1]; simpa using hz)]
      have hf : (v.cells.zipIdx.foldl (fun cs (x, j) => cs.setIfInBounds (off + j) x) c).toList = splice c.toList off v.cells.toList := by
       rw [ζ73, ζhg off v.cells.toList 0 c (by simp [hz]; exact hb)]; rfl
      have ih := fill_bd place k H go hnil hcons ps (v.cells.zipIdx.foldl (fun cs (x, j) => cs.setIfInBounds (off + j) x) c)
      rw [hf] at ih
      rw [← ih]
      cases partsV ps with
      | none => rfl
      | some r =>
       simp only [Option.map_some, opt, Res.bind, Instr.fill, hp]
       rw [if_neg (by simp [hz]; exact hb)]
     ·have hb1 : Nat.ble (off + size) c.toList.length = false := by
       cases hb2 : Nat.ble (off + size) c.toList.length with
       | false => rfl
       | true => have := Nat.le_of_ble_eq_true hb2; simp at this; omega
      rw [if_neg (by rw [hb1]; simp)]
      cases partsV ps with
      | none => rfl
      | some r =>
       simp only [Option.map_some, opt, Res.bind, Instr.fill, hp]
       rw [if_pos (by simp [hz]; omega)]
    ·rw [if_neg (by simp [hz])]
     cases partsV ps with
     | none => rfl
     | some r =>
      simp only [Option.map_some, opt, Res.bind, Instr.fill, hp]
      rw [if_pos (by simp [hz])]
theorem bd_eq {fs : Array Field} {places : List (Nat × Nat)} {z : Value} (h1 : P.underlying t = some (.struct fs)) (h2 : placesOf P t = some places) (h3 : zeroT P t = some z) (ps : List (Nat × Value)) (h : Heap) :
  buildR P t ps h = bdR places ps z.cells.toList h := by
 have := fill_bd (β := Value) (places[·]?) (fun l => .ok (.agg l.toArray) h) h (fun ps z => bdR places ps z h) (fun z => rfl) (fun i v ps z => by
  show bdR places ((i, v) :: ps) z h = _
  rw [bdR]) ps z.cells
 rw [← this]
 unfold buildR buildV
 simp only [h1, h2, h3, Option.bind_some]
 cases partsV ps with
 | none => rfl
 | some r =>
  simp only [opt, Res.bind]
  cases Instr.fill (fun x => places[x]?) z.cells r with
  | none => rfl
  | some q => simp only [Option.map_some, Array.toArray_toList]
theorem be_eq {size n : Nat} {z : List Value} (h1 : P.underlying t = some (.slice e)) (h2 : sizeT P e = some size) (h3 : zeros P e n = some z) (h4 : Nat.ble (n * size) (2 ^ 24) = true) (ps : List (Nat × Value)) (h : Heap) :
  buildSliceR P t n ps h = beR size n ps z h := by
 have := fill_bd (β := Value) (fun i => some (i * size, size)) (fun l => bif Nat.beq n 0 then .ok bareV h else .ok (.slice (some ⟨h.n, 0, none⟩) n n) (h.push ⟨l, size, false⟩)) h (fun ps z => beR size n ps z h) (fun z => rfl) (fun i v ps z => by
  show beR size n ((i, v) :: ps) z h = _
  rw [beR]) ps z.toArray
 rw [show z.toArray.toList = z from rfl] at this
 rw [← this]
 unfold buildSliceR buildSliceV
 simp only [h1, h2, h3, h4, if_true]
 cases hp : partsV ps with
 | none => rfl
 | some r => rfl
theorem fa_is {i off n : Nat} {ft : TypeId} (h1 : (fieldOf P t i).map (fun f => (f.offset, f.type)) = some (off, ft)) (h2 : sizeT P ft = some (n + 1)) (a : Value) (h : Heap) : fieldAddrR P t a i h = faR off (n + 1) a h := by
 obtain ⟨f, hf, he⟩ := Option.map_eq_some_iff.1 h1
 injection he with e1 e2
 subst e1 e2
 exact fa_eq hf h2 a h
def isStructB (P : Program) (t : TypeId) : Bool := match P.underlying t with
 | some (.struct _) => true
 | _ => false
theorem bd_is {places : List (Nat × Nat)} {z : Value} (h1 : isStructB P t = true) (h2 : placesOf P t = some places) (h3 : zeroT P t = some z) (ps : List (Nat × Value)) (h : Heap) : buildR P t ps h = bdR places ps z.cells.toList h := by
 unfold isStructB at h1
 split at h1
 ·rename_i fs hu; exact bd_eq hu h2 h3 ps h
 ·cases h1
theorem ap_is {size bytes : Nat} {z : Value} (h1 : P.underlying t = some (.slice e)) (h2 : sizeT P e = some size) (h3 : (P.info? e).map (·.bytes) = some bytes) (h4 : zeroT P e = some z) (h5 : z.cells.size = size) (a b : Value) (h : Heap) :
  builtinV P .append [t, t] [a, b] h = apR size bytes a b h := by
 obtain ⟨i, hi, he⟩ := Option.map_eq_some_iff.1 h3
 rw [← he]
 exact ap_eq h1 h2 hi h4 h5 a b h
theorem mk_is {size bytes : Nat} {z : Value} (h1 : P.underlying t = some (.slice e)) (h2 : sizeT P e = some size) (h3 : (P.info? e).map (·.bytes) = some bytes) (h4 : zeroT P e = some z) (h5 : (z.cells.size == size) = true) (l c : Value) (h : Heap) :
  makeSliceV P t l c h = mkR size bytes z.cells.toList l c h := by
 obtain ⟨i, hi, he⟩ := Option.map_eq_some_iff.1 h3
 rw [← he]
 exact mk_eq h1 h2 hi h4 h5 l c h
def intFields (P : Program) : Nat → List Field → List IntKind → Bool
 | _, [], [] => true
 | i, f :: fs, k :: ks => !(f.name == "_") && (Nat.beq f.offset i && ((match P.underlying f.type with | some (.int k') => k' == k | _ => false) && intFields P (i + 1) fs ks))
 | _, _, _ => false
def eqIntsB (P : Program) (t : TypeId) (ks : List IntKind) : Bool := (match P.underlying t with | some (.struct fs) => intFields P 0 fs.toList ks | _ => false) && (!P.stoodInHeld t && !(P.eqGuardType P.depth t))
def icells : List IntKind → List Int → List Value
 | k :: ks, a :: l => .int k a :: icells ks l
 | _, _ => []
theorem ζm1 {d : Nat} : ∀ (fs : List Field) (ks : List IntKind) (i : Nat) (p q : List Value) (xs ys : List Int), intFields P i fs ks = true → xs.length = ks.length → ys.length = ks.length → p.length = i → q.length = i →
  eqFields P (eqV P (d + 1)) (p ++ icells ks xs).toArray (q ++ icells ks ys).toArray fs = some (xs == ys)
 | [], [], i, p, q, xs, ys, _, hx, hy, _, _ => by
  have e1 := List.length_eq_zero_iff.1 hx
  have e2 := List.length_eq_zero_iff.1 hy
  subst e1 e2
  rfl
 | [], k :: ks, i, p, q, xs, ys, h, _, _, _, _ => by simp [intFields] at h
 | f :: fs, [], i, p, q, xs, ys, h, _, _, _, _ => by simp [intFields] at h
 | f :: fs, k :: ks, i, p, q, x :: xs, y :: ys, h, hx, hy, hp, hq => by
  simp only [intFields, Bool.and_eq_true, Bool.not_eq_true'] at h
  obtain ⟨h1, h2, h3, h4⟩ := h
  have h2 := Nat.eq_of_beq_eq_true h2
  split at h3
  ·rename_i k' hu
   have h3 : k' = k := by simpa using h3
   subst h3
   have hag : isAggT P f.type = some false := by unfold isAggT; rw [hu]; rfl
   have part : ∀ (l : List Value) (z : Int) (zs : List Int), l.length = i → partV P f.type (l ++ icells (k' :: ks) (z :: zs)).toArray f.offset = some (.int k' z) := by
    intro l z zs hl
    unfold partV
    rw [hag]
    simp only [icells, h2]
    rw [List.getElem?_toArray, List.getElem?_append_right (by omega), hl]
    simp
   simp only [eqFields]
   rw [h1, part p x xs hp, part q y ys hq]
   have he : eqV P (d + 1) f.type (.int k' x) (.int k' y) = some (x == y) := by unfold eqV; rw [hu]; simp
   simp only [he, Bool.false_eq_true, if_false]
   have ih := ζm1 (d := d) fs ks (i + 1) (p ++ [Value.int k' x]) (q ++ [Value.int k' y]) xs ys h4 (by simpa using hx) (by simpa using hy) (by simp [hp]) (by simp [hq])
   simp only [List.append_assoc, List.singleton_append] at ih
   show (match some (x == y) with | some true => eqFields P (eqV P (d + 1)) (p ++ (Value.int k' x :: icells ks xs)).toArray (q ++ (Value.int k' y :: icells ks ys)).toArray fs | r => r) = _
   rw [ih, List.cons_beq_cons]
   cases x == y <;> rfl
  ·cases h3
 | f :: fs, k :: ks, i, p, q, [], ys, h, hx, _, _, _ => by simp at hx
 | f :: fs, k :: ks, i, p, q, x :: xs, [], h, _, hy, _, _ => by simp at hy
theorem neI_is {ks : List IntKind} (hb : eqIntsB P t ks = true) (xs ys : List Int) (hx : xs.length = ks.length) (hy : ys.length = ks.length) (h : Heap) : binR P .neq t (.agg (icells ks xs).toArray) (.agg (icells ks ys).toArray) h = .ok (.bool (!(xs == ys))) h := by
 unfold eqIntsB at hb
 simp only [Bool.and_eq_true, Bool.not_eq_true'] at hb
 obtain ⟨h1, h2, h3⟩ := hb
 split at h1
 ·rename_i fs hu
  have := ζm1 (P := P) (d := 6) fs.toList ks 0 [] [] xs ys h1 hx hy rfl rfl
  simp only [List.nil_append] at this
  unfold binR binV eqDepth eqV
  simp only [h3, h2, hu, this]
  rfl
 ·cases h1
end
end Go.Sw
end
section
namespace Go.Sw
open Go.RowKit
@[simp] theorem g0 (a : Value) (l : List Value) : (a :: l)[0]? = some a := rfl
@[simp] theorem gS (a : Value) (l : List Value) (n : Nat) : (a :: l)[n + 1]? = l[n]? := rfl
@[simp] theorem gN (n : Nat) : ([] : List Value)[n]? = none := rfl
@[simp] theorem gp0 (a : Nat × Nat) (l : List (Nat × Nat)) : (a :: l)[0]? = some a := rfl
@[simp] theorem gpS (a : Nat × Nat) (l : List (Nat × Nat)) (n : Nat) : (a :: l)[n + 1]? = l[n]? := rfl
@[simp] theorem hn_push (h : Heap) (k : Blk) : (h.push k).n = h.n + 1 := rfl
@[simp] theorem hn_set (h : Heap) (b : Nat) (x : Option Blk) : (h.set b x).n = h.n := Heap.n_set h b x
theorem ζg (h : Heap) (k : Blk) (b : Nat) (hb : b = h.n) : (h.push k).get b = some k := by rw [Heap.get_push, if_pos hb]
theorem ζj3 (h : Heap) (k : Blk) (b : Nat) (hb : ¬ b = h.n) : (h.push k).get b = h.get b := by rw [Heap.get_push, if_neg hb]
theorem ζ2d (h : Heap) (k : Blk) (b : Nat) (hb : b < h.n) : (h.push k).get b = h.get b := ζj3 h k b (by omega)
theorem ζ3b (h : Heap) (b c : Nat) (x : Option Blk) (hc : ¬ c = b) : (h.set b x).get c = h.get c := by
 unfold Heap.set
 split
 ·unfold Heap.get
  dsimp only
  split
  ·rw [List.getElem?_set_ne (by omega)]
  ·rfl
 ·rfl
@[simp] theorem ζ85 (h : Heap) (b : Nat) (x : Option Blk) (hb : (h.get b).isSome = true) : (h.set b x).get b = x := by
 obtain ⟨k, hk⟩ := Option.isSome_iff_exists.1 hb
 rw [Heap.get_set hk, if_pos rfl]
attribute [simp] Heap.get_push
@[simp] theorem ζqz (h : Heap) (k k' : Blk) (b : Nat) : (h.push k).set b (some k') = if b = h.n then h.push k' else (h.set b (some k')).push k := by
 by_cases hb : b = h.n
 ·subst hb
  rw [if_pos rfl]
  unfold Heap.set Heap.push
  dsimp only
  rw [if_pos (by omega)]
  simp
 ·rw [if_neg hb]
  unfold Heap.set Heap.push
  dsimp only
  by_cases h1 : b < h.n
  ·rw [if_pos h1, if_pos (by omega)]
   rw [show h.n + 1 - 1 - b = (h.n - 1 - b) + 1 by omega]
   rfl
  ·rw [if_neg h1, if_neg (by omega)]
@[simp] theorem newP_ok (cells : List Value) (h : Heap) : newP cells h = .ok (.pointer (some ⟨h.n, 0, none⟩)) (h.push ⟨cells, 1, false⟩) := rfl
@[simp] theorem boxR_int (k : IntKind) (n : Int) (h : Heap) : boxR (.int k n) h = newP [.int k n] h := rfl
@[simp] theorem ζrx (b : Bool) (h : Heap) : boxR (.bool b) h = newP [.bool b] h := rfl
@[simp] theorem boxR_ptr (a : Option Addr) (h : Heap) : boxR (.pointer a) h = newP [.pointer a] h := rfl
@[simp] theorem ζrq (a : Option Addr) (l c : Nat) (h : Heap) : boxR (.slice a l c) h = newP [.slice a l c] h := rfl
@[simp] theorem ζrz (n : Nat) (cs : Array Value) (h : Heap) : boxR (listV n cs) h = newP [listV n cs] h := rfl
@[simp] theorem boxR_box (cs : Array Value) (h : Heap) : boxR (boxV cs) h = newP [boxV cs] h := rfl
@[simp] theorem ζry (f : Fn) (a b : Array Value) (h : Heap) : boxR (.func f a b) h = newP [.func f a b] h := rfl
@[simp] theorem boxR_agg (cs : Array Value) (h : Heap) : boxR (.agg cs) h = newP cs.toList h := rfl
@[simp] theorem ζr8 (k : IntKind) (n : Int) : storable (.int k n) = true := rfl
@[simp] theorem ζr0 (b : Bool) : storable (.bool b) = true := rfl
@[simp] theorem ζr9 (a : Option Addr) : storable (.pointer a) = true := rfl
@[simp] theorem ζqs (a : Option Addr) (l c : Nat) : storable (.slice a l c) = true := rfl
@[simp] theorem ζr2 (n : Nat) (cs : Array Value) : storable (listV n cs) = true := rfl
@[simp] theorem ζr7 (cs : Array Value) : storable (boxV cs) = true := rfl
@[simp] theorem ζr1 (f : Fn) (a b : Array Value) : storable (.func f a b) = true := rfl
@[simp] theorem ζr6 (cs : Array Value) : storable (.agg cs) = true := rfl
@[simp] theorem ζqr (t : TypeId) (v : Value) : storable (.iface t v) = true := rfl
@[simp] theorem ζs2 (k : IntKind) (n : Int) : (Value.int k n).cells = #[.int k n] := rfl
@[simp] theorem ζrr (b : Bool) : (Value.bool b).cells = #[.bool b] := rfl
@[simp] theorem ζs3 (a : Option Addr) : (Value.pointer a).cells = #[.pointer a] := rfl
@[simp] theorem ζrh (a : Option Addr) (l c : Nat) : (Value.slice a l c).cells = #[.slice a l c] := rfl
@[simp] theorem ζrt (n : Nat) (cs : Array Value) : (listV n cs).cells = #[listV n cs] := rfl
@[simp] theorem ζs1 (cs : Array Value) : (boxV cs).cells = #[boxV cs] := rfl
@[simp] theorem ζrs (f : Fn) (a b : Array Value) : (Value.func f a b).cells = #[.func f a b] := rfl
@[simp] theorem ζs0 (cs : Array Value) : (Value.agg cs).cells = cs := rfl
@[simp] theorem ld1_box (cs : Array Value) (h : Heap) : ld1 (boxV cs) h = opt cs[0]? h := rfl
@[simp] theorem ld1_ptr (b off : Nat) (h : Heap) : ld1 (.pointer (some ⟨b, off, none⟩)) h = opt ((h.get b).bind fun k => k.cells[off]?) h := rfl
@[simp] theorem ldA_box (n : Nat) (cs : Array Value) (h : Heap) : ldA n (boxV cs) h = if n ≤ cs.size then .ok (.agg (cs.extract 0 n)) h else .stuck := rfl
theorem ζ7z (h : Heap) (b off n : Nat) : cellsAt h b off n = (h.get b).bind fun k => if off + n ≤ k.cells.length then some ((k.cells.drop off).take n) else none := by
 unfold cellsAt
 congr 1
 funext k
 by_cases hh : off + n ≤ k.cells.length
 ·rw [if_pos hh, if_pos (Nat.ble_eq_true_of_le hh)]
 ·rw [if_neg hh, if_neg]
  intro hb; exact hh (Nat.le_of_ble_eq_true hb)
@[simp] theorem ldA_ptr (n b off : Nat) (h : Heap) : ldA n (.pointer (some ⟨b, off, none⟩)) h = opt (((h.get b).bind fun k => if off + n ≤ k.cells.length then some ((k.cells.drop off).take n) else none).map fun cs => .agg cs.toArray) h := by
 show opt ((cellsAt h b off n).map _) h = _
 rw [ζ7z]
@[simp] theorem faR_ptr (off n b o : Nat) (h : Heap) : faR off n (.pointer (some ⟨b, o, none⟩)) h = .ok (.pointer (some ⟨b, o + off, none⟩)) h := rfl
@[simp] theorem faR_box (off n : Nat) (cs : Array Value) (h : Heap) : faR off n (boxV cs) h = if off + n ≤ cs.size then .ok (boxV (cs.extract off (off + n))) h else .stuck := rfl
@[simp] theorem fvA_agg (off n : Nat) (cs : Array Value) (h : Heap) : fvA off n (.agg cs) h = .ok (.agg (cs.extract off (off + n))) h := rfl
@[simp] theorem fv1_agg (off : Nat) (cs : Array Value) (h : Heap) : fv1 off (.agg cs) h = opt cs[off]? h := rfl
@[simp] theorem nilR_ptr (a : Addr) (h : Heap) : nilR (.pointer (some a)) h = .ok (.pointer (some a)) h := rfl
@[simp] theorem nilR_box (cs : Array Value) (h : Heap) : nilR (boxV cs) h = .ok (boxV cs) h := rfl
@[simp] theorem ζs5 (a : Option Addr) (n c : Nat) (h : Heap) : lnS (.slice a n c) h = .ok (.int .i64 n) h := rfl
@[simp] theorem lnS_list (n : Nat) (cs : Array Value) (h : Heap) : lnS (listV n cs) h = .ok (.int .i64 n) h := rfl
@[simp] theorem ζpv (vs : Array Value) (i : Nat) (h : Heap) : extractR (.tuple vs) i h = opt vs[i]? h := rfl
@[simp] theorem ζr4 (t : TypeId) (v : Value) (h : Heap) : panicR (.iface t v) h = .panic (.iface t v) h := rfl
@[simp] theorem ζs6 {α : Type} (H : Heap) : (opt (none : Option α) H) = .stuck := rfl
@[simp] theorem Res.ζrp {α β : Type} (f : α → Heap → Res β) : (Res.stuck : Res α).bind f = .stuck := rfl
@[simp] theorem Res.ζrd {α β : Type} (f : α → Heap → Res β) : (Res.stuck : Res α).bindN f = .stuck := rfl
@[simp] theorem Res.ζrc {α β : Type} (v : Value) (H : Heap) (f : α → Heap → Res β) : (Res.panic v H : Res α).bindN f = .stuck := rfl
@[simp] theorem Res.ζrg {α β : Type} (g : Value → Heap → Res β) (f : α → Heap → Res β) : (Res.stuck : Res α).bindT g f = .stuck := rfl
@[simp] theorem bdR_nil (places : List (Nat × Nat)) (z : List Value) (h : Heap) : bdR places [] z h = .ok (.agg z.toArray) h := rfl
@[simp] theorem bdR_cons (places : List (Nat × Nat)) (i : Nat) (v : Value) (ps : List (Nat × Value)) (z : List Value) (h : Heap) :
  bdR places ((i, v) :: ps) z h = match places[i]? with
   | some (off, size) => if storable v = true ∧ v.cells.size = size ∧ off + size ≤ z.length then bdR places ps (splice z off v.cells.toList) h else .stuck
   | none => .stuck := by
 rw [bdR]
 cases places[i]? with
 | none => rfl
 | some q =>
  obtain ⟨off, size⟩ := q
  dsimp only
  by_cases hc : storable v = true ∧ v.cells.size = size ∧ off + size ≤ z.length
  ·rw [if_pos hc, if_pos (by rw [hc.1, hc.2.1, Nat.ble_eq_true_of_le hc.2.2]; simp)]
  ·rw [if_neg hc, if_neg]
   intro hb
   simp only [Bool.and_eq_true, beq_iff_eq] at hb
   exact hc ⟨hb.1.1, hb.1.2, Nat.le_of_ble_eq_true hb.2⟩
@[simp] theorem baR_nil (size : Nat) (z : List Value) (h : Heap) : baR size [] z h = .ok (.agg z.toArray) h := rfl
@[simp] theorem beR_nil (size len : Nat) (z : List Value) (h : Heap) : beR size (len + 1) [] z h = .ok (.slice (some ⟨h.n, 0, none⟩) (len + 1) (len + 1)) (h.push ⟨z, size, false⟩) := rfl
@[simp] theorem beR_bare (size : Nat) (z : List Value) (h : Heap) : beR size 0 [] z h = .ok bareV h := rfl
@[simp] theorem beR_cons (size len i : Nat) (v : Value) (ps : List (Nat × Value)) (z : List Value) (h : Heap) :
  beR size len ((i, v) :: ps) z h = if storable v = true ∧ v.cells.size = size ∧ i * size + size ≤ z.length then beR size len ps (splice z (i * size) v.cells.toList) h else .stuck := by
 rw [beR]
 by_cases hc : storable v = true ∧ v.cells.size = size ∧ i * size + size ≤ z.length
 ·rw [if_pos hc, if_pos (by rw [hc.1, hc.2.1, Nat.ble_eq_true_of_le hc.2.2]; simp)]
 ·rw [if_neg hc, if_neg]
  intro hb
  simp only [Bool.and_eq_true, beq_iff_eq] at hb
  exact hc ⟨hb.1.1, hb.1.2, Nat.le_of_ble_eq_true hb.2⟩
@[simp] theorem stR_ptr (n b off : Nat) (v : Value) (h : Heap) : stR n (.pointer (some ⟨b, off, none⟩)) v h = if storable v = true ∧ v.cells.size = n then (putCells h b off v.cells.toList).bind fun _ h' => .ok undef h' else .stuck := by
 unfold stR
 dsimp only
 by_cases hc : storable v = true ∧ v.cells.size = n
 ·rw [if_pos hc, if_pos (by rw [hc.1, hc.2]; simp)]
 ·rw [if_neg hc, if_neg]
  intro hb
  simp only [Bool.and_eq_true, beq_iff_eq] at hb
  exact hc ⟨hb.2, hb.1⟩
@[simp] theorem put_eq (h : Heap) (b off : Nat) (vs : List Value) : putCells h b off vs = match h.get b with
  | some k => if off + vs.length ≤ k.cells.length ∧ k.ro = false then .ok () (h.set b (some ⟨splice k.cells off vs, k.esz, k.ro⟩)) else .stuck
  | none => .stuck := by
 unfold putCells
 cases h.get b with
 | none => rfl
 | some k =>
  dsimp only
  by_cases hh : off + vs.length ≤ k.cells.length ∧ k.ro = false
  ·rw [if_pos hh, if_pos (by rw [Nat.ble_eq_true_of_le hh.1, hh.2]; rfl)]
  ·rw [if_neg hh, if_neg]
   intro hb
   simp only [Bool.and_eq_true, Bool.not_eq_true'] at hb
   exact hh ⟨Nat.le_of_ble_eq_true hb.1, hb.2⟩
@[simp] theorem ζrm (z vs : List Value) : splice z 0 vs = vs ++ z.drop vs.length := by simp [splice]
@[simp] theorem ζrl (a : Value) (z : List Value) (n : Nat) (vs : List Value) : splice (a :: z) (n + 1) vs = a :: splice z n vs := by
 unfold splice
 simp [Nat.add_right_comm]
attribute [simp] wrap_i64 wrap_i32
end Go.Sw
end
section
namespace Go.Sw
open Go.RowKit
def lenL : Value → Option Nat
 | .slice _ n _ => some n
 | .func (.via n _ _ false) _ _ => some n
 | _ => none
theorem ζju {v : Value} {n : Nat} (h : lenL v = some n) : lenV v = some n := by
 unfold lenL at h
 split at h <;> first | exact h | cases h
def cloneV (size bytes : Nat) (args : List Value) (H : Heap) : Res Value :=
 match args with
 | [a] => match lenL a with
  | some 0 => .ok emptyV H
  | some (_ + 1) => apR size bytes bareV a H
  | none => .stuck
 | _ => .stuck
def insertV (size bytes : Nat) (args : List Value) (H : Heap) : Res Value :=
 match args with
 | [.slice base n cap, .int .i64 i, v] =>
  match lenL v with
  | none => .stuck
  | some 0 => if 0 ≤ i ∧ i ≤ n then .ok (.slice base n cap) H else .stuck
  | some (_ + 1) =>
   if i = n then apR size bytes (.slice base n cap) v H else
   match base, v with
   | some ⟨b, off, none⟩, .slice (some ⟨c, voff, none⟩) m _ =>
    match H.get b, H.get c with
    | some k, some kc =>
     if 0 ≤ i ∧ i < n ∧ n ≤ cap ∧ n + m ≤ 2 ^ 31 ∧ bytes ≤ 2 ^ 10 ∧ k.ro = false ∧ k.esz = size ∧ off + cap * size ≤ k.cells.length ∧ c ≠ b ∧ kc.ro = false ∧ voff + m * size ≤ kc.cells.length then
      .ok (.slice (some ⟨H.n, 0, none⟩) (n + m) (n + m)) ((H.set b none).push ⟨((k.cells.drop off).take (n * size)).take (i.toNat * size) ++ ((kc.cells.drop voff).take (m * size) ++ ((k.cells.drop off).take (n * size)).drop (i.toNat * size)), size, false⟩)
     else .stuck
    | _, _ => .stuck
   | _, _ => .stuck
 | _ => .stuck
def cloneF (P : Program) (t : TypeId) (size bytes : Nat) (a : Value) (H : Heap) : Res Value :=
 (binR P .eql t a (.slice none 0 0) H).bind fun v1 h2 =>
 condV (some v1) (.ok (.slice none 0 0) h2) ((Res.ok bareV h2).bind fun v3 h4 => (apR size bytes v3 a h4).bind fun v5 h6 => .ok v5 h6)
theorem body_is {c : Cfg} {call : Caller} (hN : NamesOk c.P) (hmix : c.P.follows .mixedOrders = true) (hc : CallOk c.P call) {f : FuncId} {args : List Value} {H : Heap} {r : Res Value} (hr : bodyK c call f args H = r) (hne : r ≠ .stuck) :
  (∃ fn, c.P.funcs[f]? = some fn ∧ fn.body.isSome = true ∧ (fn.name == "runtime.NumGoroutine") = false) ∧
  ∀ w0 μ w args', HR w0 μ H w → VRs μ args args' → Calls c.P f args'.toArray w fun e w' => Ended w0 μ r e w' := by
 rw [← hr] at hne ⊢
 unfold bodyK at hne ⊢
 cases hf : c.P.funcs[f]? with
 | none => rw [hf] at hne; exact absurd rfl hne
 | some fn =>
  rw [hf] at hne
  dsimp only at hne ⊢
  cases hb : fn.body with
  | none => rw [hb] at hne; exact absurd rfl hne
  | some code =>
   rw [hb] at hne
   dsimp only at hne ⊢
   cases hl : Nat.ble args.length fn.ntmps with
   | false => rw [hl] at hne; exact absurd rfl hne
   | true =>
    rw [hl] at hne
    simp only [cond_true, execK_eq, kDone_eq] at hne ⊢
    have := body_ok (draw := fun nt => runDraw c call nt) hN hc (fun nt => draw_ok hc hmix nt) hf hb (Nat.le_of_ble_eq_true hl) hne
    rw [hf] at this
    exact this
theorem clone_is {c : Cfg} (hN : NamesOk c.P) (hmix : c.P.follows .mixedOrders = true) {f : FuncId} {t e : TypeId} {size bytes : Nat} (hu : c.P.underlying t = some (.slice e)) (hform : ∀ call a H, bodyK c call f [a] H = cloneF c.P t size bytes a H) :
  SpIs c.P f fun _ args H => cloneV size bytes args H := by
 intro call hc args H hne
 -- its text, of a value that is nil or isn't
 have heq : ∀ (x : Value) (b : Bool), eqV c.P eqDepth t x (.slice none 0 0) = some b → (∀ o, binV c.P .eql t x (.slice none 0 0) = o → o = (eqV c.P eqDepth t x (.slice none 0 0)).map .bool) → cloneF c.P t size bytes x H = (if b then .ok (.slice none 0 0) H else (apR size bytes bareV x H).bind fun v5 h6 => .ok v5 h6) := by
  intro x b hx hb
  unfold cloneF binR
  rw [hb _ rfl, hx]
  cases b <;> rfl
 have hbind : ∀ r : Res Value, (r.bind fun v5 h6 => .ok v5 h6) = r := fun r => by cases r <;> rfl
 have hlist : ∀ n p g cs ys, binV c.P .eql t (.func (.via n p g false) cs ys) (.slice none 0 0) = (eqV c.P eqDepth t (.func (.via n p g false) cs ys) (.slice none 0 0)).map .bool := fun _ _ _ _ _ => rfl
 have hsl : ∀ a l k, binV c.P .eql t (.slice a l k) (.slice none 0 0) = (eqV c.P eqDepth t (.slice a l k) (.slice none 0 0)).map .bool := fun _ _ _ => rfl
 have e1 : ∀ n p g cs ys, eqV c.P eqDepth t (.func (.via (n + 1) p g false) cs ys) (.slice none 0 0) = some false := fun n p g cs ys => by
  unfold eqDepth eqV; rw [hu]
 have e2 : ∀ p cs ys, eqV c.P eqDepth t (.func (.via 0 p 1 false) cs ys) (.slice none 0 0) = some false := fun p cs ys => by
  unfold eqDepth eqV; rw [hu]; rfl
 have e3 : ∀ p cs ys, eqV c.P eqDepth t (.func (.via 0 p 2 false) cs ys) (.slice none 0 0) = some true := fun p cs ys => by
  unfold eqDepth eqV; rw [hu]; rfl
 have e4 : ∀ b off l k, eqV c.P eqDepth t (.slice (some ⟨b, off, none⟩) l k) (.slice none 0 0) = some false := fun b off l k => by
  unfold eqDepth eqV; rw [hu]; rfl
 have ap0 : ∀ x, lenV x = some 0 → apR size bytes bareV x H = .ok bareV H := fun x hx => by
  unfold apR bareV appendK
  dsimp only
  rw [hx]
  rfl
 have hnil : cloneF c.P t size bytes (noneV true) H = .ok (.slice none 0 0) H := by
  rw [heq (noneV true) true (e3 _ _ _) (fun o ho => by rw [← ho]; exact hlist _ _ _ _ _)]; rfl
 have hnone : cloneF c.P t size bytes (noneV false) H = .ok bareV H := by
  rw [heq (noneV false) false (e2 _ _ _) (fun o ho => by rw [← ho]; exact hlist _ _ _ _ _)]
  simp only [Bool.false_eq_true, if_false, hbind]
  exact ap0 _ rfl
 have hex : ∃ fn, c.P.funcs[f]? = some fn ∧ fn.body.isSome = true ∧ (fn.name == "runtime.NumGoroutine") = false :=
  (body_is hN hmix hc (hform call (noneV true) H) (by rw [hnil]; simp)).1
 refine ⟨hex, fun w0 μ w args' hH hargs => ?_⟩
 dsimp only at hne ⊢
 unfold cloneV at hne ⊢
 split at hne
 rotate_left
 ·exact absurd rfl hne
 rename_i a
 obtain ⟨a', r', rfl, ha, hr⟩ := hargs.cons_inv
 have := hr.nil_inv
 subst this
 split at hne
 ·
  rename_i hl
  have hshape : ∃ x k, a' = .slice x 0 k ∧ (x = none → k = 0) := by
   unfold lenL at hl
   split at hl
   ·injection hl with hl; subst hl
    cases ha with
    | nilSlice => exact ⟨_, _, rfl, fun _ => rfl⟩
    | slice => exact ⟨_, _, rfl, fun h => by cases h⟩
    | bare x => exact ⟨_, _, rfl, fun h => by cases h⟩
    | unsure x => exact ⟨_, _, rfl, fun _ => rfl⟩
   ·injection hl with hl; subst hl
    cases ha with
    | list => exact ⟨_, _, rfl, fun h => by cases h⟩
    | empty _ _ _ _ x k hn hs => exact ⟨_, _, rfl, fun h => (hn h).1⟩
   ·cases hl
  obtain ⟨x, k, rfl, hk⟩ := hshape
  cases x with
  | none =>
   have hk := hk rfl
   subst hk
   have hv : VR μ (noneV true) (.slice none 0 0) := .empty _ _ _ _ _ _ (fun _ => ⟨rfl, by decide⟩) fun _ => rfl
   refine ((body_is hN hmix hc (hform call (noneV true) H) (by rw [hnil]; simp)).2 w0 μ w _ hH (VRs.cons hv VRs.nil)).mono fun e w' he => ?_
   rw [hnil] at he
   obtain ⟨μ', v', h1, h2, h3, rfl⟩ := he
   cases h3
   exact ⟨μ', _, h1, h2, .unsure _, rfl⟩
  | some q =>
   have hv : VR μ (noneV false) (.slice (some q) 0 k) := .empty _ _ _ _ _ _ (fun h => by cases h) fun h => by cases h
   refine ((body_is hN hmix hc (hform call (noneV false) H) (by rw [hnone]; simp)).2 w0 μ w _ hH (VRs.cons hv VRs.nil)).mono fun e w' he => ?_
   rw [hnone] at he
   obtain ⟨μ', v', h1, h2, h3, rfl⟩ := he
   cases h3
   exact ⟨μ', _, h1, h2, .unsure _, rfl⟩
 ·rename_i n hl
  have hform2 : cloneF c.P t size bytes a H = apR size bytes bareV a H := by
   unfold lenL at hl
   split at hl
   ·injection hl with hl; subst hl
    cases ha with
    | slice => rw [heq _ false (e4 _ _ _ _) (fun o ho => by rw [← ho]; exact hsl _ _ _)]; simp [hbind]
   ·injection hl with hl; subst hl
    rw [heq _ false (e1 _ _ _ _ _) (fun o ho => by rw [← ho]; exact hlist _ _ _ _ _)]; simp [hbind]
   ·cases hl
  have hb := body_is hN hmix hc (hform call a H) (by rw [hform2]; exact hne)
  rw [hform2] at hb
  exact hb.2 w0 μ w _ hH (VRs.cons ha VRs.nil)
 ·exact absurd rfl hne
end Go.Sw
end
