/-
  Operations without the program: what each comes to, its types' sizes known.
-/
import Derived.Test.YtnaodjnimkndbaaSwAD
namespace Go.Sw
open Go.RowKit

/-! ### what they are -/
def newP (cells : List Value) (h : Heap) : Res Value := .ok (.pointer (some ⟨h.n, 0, none⟩)) (h.push ⟨cells, 1, false⟩)
def ldA (n : Nat) (a : Value) (h : Heap) : Res Value :=
  match a with
  | .pointer (some ⟨b, off, none⟩) => opt ((cellsAt h b off n).map fun cs => .agg cs.toArray) h
  | .func (.via _ _ _ true) cs _ => if n ≤ cs.size then .ok (.agg (cs.extract 0 n)) h else .stuck
  | _ => .stuck
def ld1 (a : Value) (h : Heap) : Res Value :=
  match a with
  | .pointer (some ⟨b, off, none⟩) => opt ((h.get b).bind fun k => k.cells[off]?) h
  | .func (.via _ _ _ true) cs _ => opt cs[0]? h
  | _ => .stuck
def stR (n : Nat) (a v : Value) (h : Heap) : Res Value :=
  match a with
  | .pointer (some ⟨b, off, none⟩) => if v.cells.size == n && storable v then (putCells h b off v.cells.toList).bind fun _ h' => .ok undef h' else .stuck
  | _ => .stuck
def faR (off n : Nat) (a : Value) (h : Heap) : Res Value :=
  match a with
  | .pointer (some ⟨b, o, none⟩) => .ok (.pointer (some ⟨b, o + off, none⟩)) h
  | .func (.via _ _ _ true) cs _ => if off + n ≤ cs.size then .ok (boxV (cs.extract off (off + n))) h else .stuck
  | _ => .stuck
def fvA (off n : Nat) (x : Value) (h : Heap) : Res Value :=
  match x with
  | .agg cs => .ok (.agg (cs.extract off (off + n))) h
  | _ => .stuck
def fv1 (off : Nat) (x : Value) (h : Heap) : Res Value :=
  match x with
  | .agg cs => opt cs[off]? h
  | _ => .stuck
def ixS (n : Nat) (x ix : Value) (h : Heap) : Res Value :=
  match ix with
  | .int _ i =>
    match x with
    | .slice (some ⟨b, off, none⟩) len _ => if 0 ≤ i ∧ i < len then .ok (.pointer (some ⟨b, off + i.toNat * n, none⟩)) h else .stuck
    | .func (.via len _ _ false) cs _ => if 0 ≤ i ∧ i < len ∧ i.toNat * n + n ≤ cs.size then .ok (boxV (cs.extract (i.toNat * n) (i.toNat * n + n))) h else .stuck
    | _ => .stuck
  | _ => .stuck
def ixA (len n : Nat) (x ix : Value) (h : Heap) : Res Value :=
  match ix with
  | .int _ i =>
    match x with
    | .pointer (some ⟨b, off, none⟩) => if 0 ≤ i ∧ i < len then .ok (.pointer (some ⟨b, off + i.toNat * n, none⟩)) h else .stuck
    | .func (.via _ _ _ true) cs _ => if 0 ≤ i ∧ i < len ∧ i.toNat * n + n ≤ cs.size then .ok (boxV (cs.extract (i.toNat * n) (i.toNat * n + n))) h else .stuck
    | _ => .stuck
  | _ => .stuck
def iv1 (len n : Nat) (x ix : Value) (h : Heap) : Res Value :=
  match ix with
  | .int _ i =>
    match x with
    | .agg cs => if 0 ≤ i ∧ i < len then opt cs[i.toNat * n]? h else .stuck
    | _ => .stuck
  | _ => .stuck
def ivA (len n : Nat) (x ix : Value) (h : Heap) : Res Value :=
  match ix with
  | .int _ i =>
    match x with
    | .agg cs => if 0 ≤ i ∧ i < len then .ok (.agg (cs.extract (i.toNat * n) (i.toNat * n + n))) h else .stuck
    | _ => .stuck
  | _ => .stuck
def slS (size : Nat) (x : Value) (lo hi mx : Option Value) (H : Heap) : Res Value :=
  match x with
  | .slice a len cap =>
    match boundOf mx cap, boundOf hi len, boundOf lo 0 with
    | some m, some h, some l =>
      if m ≤ cap ∧ h ≤ m ∧ l ≤ h ∧ (mx.isSome → hi.isSome) then
        match a with
        | none => .ok (.slice none 0 0) H
        | some ⟨b, off, none⟩ => if openOk H b size mx then .ok (.slice (some ⟨b, off + l * size, none⟩) (h - l) (m - l)) H else .stuck
        | _ => .stuck
      else .stuck
    | _, _, _ => .stuck
  | .func (.via len _ _ false) cs _ =>
    match boundOf mx len, boundOf hi len, boundOf lo 0 with
    | some m, some h, some l =>
      if m ≤ len ∧ h ≤ m ∧ l ≤ h ∧ (mx.isSome → hi.isSome) ∧ h * size ≤ cs.size then .ok (listV (h - l) (cs.extract (l * size) (h * size))) H else .stuck
    | _, _, _ => .stuck
  | _ => .stuck
def slA (n size : Nat) (x : Value) (lo hi mx : Option Value) (H : Heap) : Res Value :=
  match x with
  | .pointer (some ⟨b, off, none⟩) =>
    match boundOf mx n, boundOf hi n, boundOf lo 0 with
    | some m, some h, some l =>
      if m ≤ n ∧ h ≤ m ∧ l ≤ h ∧ (mx.isSome → hi.isSome) then .ok (.slice (some ⟨b, off + l * size, none⟩) (h - l) (m - l)) H else .stuck
    | _, _, _ => .stuck
  | _ => .stuck
def lnS (x : Value) (h : Heap) : Res Value :=
  match x with
  | .slice _ n _ => .ok (.int .i64 n) h
  | .func (.via n _ _ false) _ _ => .ok (.int .i64 n) h
  | _ => .stuck
def apR (size bytes : Nat) (a b : Value) (h : Heap) : Res Value :=
  match a with
  | .slice base sLen sCap => match lenV b with
    | some n => appendK size bytes size n base sLen sCap b h
    | none => .stuck
  | _ => .stuck
def mkR (size bytes : Nat) (z : List Value) (l c : Value) (h : Heap) : Res Value :=
  match l, c with
  | .int _ n, .int _ m => if 0 ≤ n ∧ n = m ∧ n ≤ 2 ^ 31 ∧ bytes ≤ 2 ^ 10 then .ok (.slice (some ⟨h.n, 0, none⟩) n.toNat n.toNat) (h.push ⟨repeatCells z n.toNat, size, false⟩) else .stuck
  | _, _ => .stuck
/-- A struct, its fields' places told, part by part. -/
def bdR (places : List (Nat × Nat)) : List (Nat × Value) → List Value → Heap → Res Value
  | [], z, h => .ok (.agg z.toArray) h
  | (i, v) :: ps, z, h =>
    match places[i]? with
    | some (off, size) => if storable v && v.cells.size == size && Nat.ble (off + size) z.length then bdR places ps (splice z off v.cells.toList) h else .stuck
    | none => .stuck
/-- Elements of a row, part by part. -/
def beR (size len : Nat) : List (Nat × Value) → List Value → Heap → Res Value
  | [], z, h => bif Nat.beq len 0 then .ok bareV h else .ok (.slice (some ⟨h.n, 0, none⟩) len len) (h.push ⟨z, size, false⟩)
  | (i, v) :: ps, z, h => if storable v && v.cells.size == size && Nat.ble (i * size + size) z.length then beR size len ps (splice z (i * size) v.cells.toList) h else .stuck

/-- An array, part by part. -/
def baR (size : Nat) : List (Nat × Value) → List Value → Heap → Res Value
  | [], z, h => .ok (.agg z.toArray) h
  | (i, v) :: ps, z, h => if storable v && v.cells.size == size && Nat.ble (i * size + size) z.length then baR size ps (splice z (i * size) v.cells.toList) h else .stuck

/-! ### that they are that -/
section
variable {P : Program} {t e : TypeId}
theorem al_eq {z : Value} (hz : zeroT P t = some z) (h : Heap) : allocR P t h = newP z.cells.toList h := by
  unfold allocR; rw [hz]; rfl
theorem ldA_eq {n : Nat} (h1 : isAggT P t = some true) (h2 : sizeT P t = some n) (a : Value) (h : Heap) : loadR P t a h = ldA n a h := by
  unfold loadR loadV ldA
  rw [h1, h2]
  cases a with
  | pointer p =>
    cases p with
    | none => rfl
    | some q =>
      obtain ⟨b, o, s⟩ := q
      cases s with
      | none => dsimp only; try (split <;> rfl)
      | some s => rfl
  | func fn xs ys =>
    cases fn with
    | via n' p g t =>
      cases t with
      | true => dsimp only; try (split <;> rfl)
      | false => rfl
    | _ => rfl
  | _ => rfl
theorem ld1_eq (h1 : isAggT P t = some false) (a : Value) (h : Heap) : loadR P t a h = ld1 a h := by
  unfold loadR loadV ld1
  rw [h1]
  cases a with
  | pointer p =>
    cases p with
    | none => rfl
    | some q =>
      obtain ⟨b, o, s⟩ := q
      cases s with
      | none => dsimp only; try (split <;> rfl)
      | some s => rfl
  | func fn xs ys =>
    cases fn with
    | via n' p g t =>
      cases t with
      | true => dsimp only; try (split <;> rfl)
      | false => rfl
    | _ => rfl
  | _ => rfl
theorem st_eq {n : Nat} (h2 : sizeT P t = some n) (a v : Value) (h : Heap) : storeR P t a v h = stR n a v h := by
  unfold storeR storeV stR
  rw [h2]
  cases a with
  | pointer p =>
    cases p with
    | none => rfl
    | some q =>
      obtain ⟨b, o, s⟩ := q
      cases s with
      | none => dsimp only; split <;> rfl
      | some s => rfl
  | _ => rfl
theorem fa_eq {i : Nat} {f : Field} {n : Nat} (h1 : fieldOf P t i = some f) (h2 : sizeT P f.type = some (n + 1)) (a : Value) (h : Heap) : fieldAddrR P t a i h = faR f.offset (n + 1) a h := by
  unfold fieldAddrR fieldAddrV faR
  rw [h1]
  cases a with
  | pointer p =>
    cases p with
    | none => rfl
    | some q =>
      obtain ⟨b, o, s⟩ := q
      cases s <;> simp only [h2] <;> rfl
  | func fn xs ys =>
    cases fn with
    | via n' p g t =>
      cases t with
      | true => simp only [h2]; split <;> rfl
      | false => rfl
    | _ => rfl
  | _ => rfl
theorem fvA_eq {i : Nat} {f : Field} {n : Nat} (h1 : fieldOf P t i = some f) (h2 : isAggT P f.type = some true) (h3 : sizeT P f.type = some n) (x : Value) (h : Heap) : fieldR P t x i h = fvA f.offset n x h := by
  unfold fieldR fieldV fvA
  rw [h1]
  cases x <;> first | rfl | (simp only [partV, h2, h3]; rfl)
theorem fv1_eq {i : Nat} {f : Field} (h1 : fieldOf P t i = some f) (h2 : isAggT P f.type = some false) (x : Value) (h : Heap) : fieldR P t x i h = fv1 f.offset x h := by
  unfold fieldR fieldV fv1
  rw [h1]
  cases x <;> first | rfl | (simp only [partV, h2])
theorem ixS_eq {n : Nat} (h1 : P.underlying t = some (.slice e)) (h2 : sizeT P e = some n) (x i : Value) (h : Heap) : indexAddrR P t x i h = ixS n x i h := by
  unfold indexAddrR indexAddrV ixS
  cases i with
  | int k i =>
    simp only [h1]
    cases x with
    | slice a len cap =>
      cases a with
      | none => rfl
      | some q =>
        obtain ⟨b, o, s⟩ := q
        cases s with
        | none => simp only [h2]; split <;> rfl
        | some s => rfl
    | func fn xs ys =>
      cases fn with
      | via n' p g t =>
        cases t with
        | true => rfl
        | false => simp only [h2]; split <;> rfl
      | _ => rfl
    | _ => rfl
  | _ => rfl
theorem ixA_eq {n len : Nat} (h1 : P.underlying t = some (.array len e)) (h2 : sizeT P e = some n) (x i : Value) (h : Heap) : indexAddrR P t x i h = ixA len n x i h := by
  unfold indexAddrR indexAddrV ixA
  cases i with
  | int k i =>
    simp only [h1]
    cases x with
    | pointer a =>
      cases a with
      | none => rfl
      | some q =>
        obtain ⟨b, o, s⟩ := q
        cases s with
        | none => simp only [h2]; split <;> rfl
        | some s => rfl
    | func fn xs ys =>
      cases fn with
      | via n' p g t =>
        cases t with
        | false => rfl
        | true => simp only [h2]; split <;> rfl
      | _ => rfl
    | _ => rfl
  | _ => rfl
theorem iv1_eq {n len : Nat} (h1 : P.underlying t = some (.array len e)) (h2 : sizeT P e = some n) (h3 : isAggT P e = some false) (x i : Value) (h : Heap) : indexR P t x i h = iv1 len n x i h := by
  unfold indexR indexV iv1
  cases i with
  | int k i =>
    simp only [h1]
    cases x <;> first | rfl | (simp only [h2, partV, h3]; split <;> rfl)
  | _ => rfl
theorem ivA_eq {n len : Nat} (h1 : P.underlying t = some (.array len e)) (h2 : sizeT P e = some n) (h3 : isAggT P e = some true) (x i : Value) (h : Heap) : indexR P t x i h = ivA len n x i h := by
  unfold indexR indexV ivA
  cases i with
  | int k i =>
    simp only [h1]
    cases x <;> first | rfl | (simp only [h2, partV, h3]; split <;> rfl)
  | _ => rfl
theorem slS_eq {n : Nat} (h1 : P.underlying t = some (.slice e)) (h2 : sizeT P e = some n) (x : Value) (lo hi mx : Option Value) (h : Heap) : sliceR P t x lo hi mx h = slS n x lo hi mx h := by
  unfold sliceR sliceV slS
  simp only [h1]
  cases x with
  | slice a len cap =>
    simp only [h2]
    cases boundOf mx cap <;> cases boundOf hi len <;> cases boundOf lo 0 <;> try rfl
    dsimp only
    split
    · cases a with
      | none => rfl
      | some q =>
        obtain ⟨b, o, s⟩ := q
        cases s with
        | none => dsimp only; split <;> rfl
        | some s => rfl
    · rfl
  | func fn xs ys =>
    cases fn with
    | via n' p g t =>
      cases t with
      | true => rfl
      | false =>
        simp only [h2]
        cases boundOf mx n' <;> cases boundOf hi n' <;> cases boundOf lo 0 <;> try rfl
        dsimp only
        split <;> rfl
    | _ => rfl
  | _ => rfl
theorem slA_eq {n len : Nat} (h1 : P.underlying t = some (.array len e)) (h2 : sizeT P e = some n) (x : Value) (lo hi mx : Option Value) (h : Heap) : sliceR P t x lo hi mx h = slA len n x lo hi mx h := by
  unfold sliceR sliceV slA
  simp only [h1]
  cases x with
  | pointer a =>
    cases a with
    | none => rfl
    | some q =>
      obtain ⟨b, o, s⟩ := q
      cases s with
      | none =>
        simp only [h2]
        cases boundOf mx len <;> cases boundOf hi len <;> cases boundOf lo 0 <;> try rfl
        dsimp only
        split <;> rfl
      | some s => rfl
  | _ => rfl
theorem lnS_eq (h1 : P.underlying t = some (.slice e)) (x : Value) (h : Heap) : builtinV P .len [t] [x] h = lnS x h := by
  unfold builtinV lenB lnS
  simp only [h1]
  cases x with
  | func fn xs ys =>
    cases fn with
    | via n' p g t => cases t <;> rfl
    | _ => rfl
  | _ => rfl
theorem lnA_eq {n : Nat} (h1 : P.underlying t = some (.array n e)) (x : Value) (h : Heap) : builtinV P .len [t] [x] h = .ok (.int .i64 n) h := by
  unfold builtinV lenB
  simp only [h1]
  rfl
theorem ap_eq {size : Nat} {i : TypeInfo} {z : Value} (h1 : P.underlying t = some (.slice e)) (h2 : sizeT P e = some size) (h3 : P.info? e = some i) (h4 : zeroT P e = some z) (h5 : z.cells.size = size) (a b : Value) (h : Heap) :
    builtinV P .append [t, t] [a, b] h = apR size i.bytes a b h := by
  unfold builtinV appendV apR
  cases a with
  | slice base l c =>
    simp only [appendT, h1, h2, h3, h4]
    cases lenV b with
    | none => rfl
    | some n => dsimp only; rw [h5]
  | _ => rfl
theorem mk_eq {size : Nat} {i : TypeInfo} {z : Value} (h1 : P.underlying t = some (.slice e)) (h2 : sizeT P e = some size) (h3 : P.info? e = some i) (h4 : zeroT P e = some z) (h5 : (z.cells.size == size) = true) (l c : Value) (h : Heap) :
    makeSliceV P t l c h = mkR size i.bytes z.cells.toList l c h := by
  unfold makeSliceV mkR
  simp only [h1]
  cases l <;> try rfl
  cases c <;> try rfl
  simp only [h2, h3, zeros, h4, Option.bind_some]
  rw [if_pos h5]
theorem if_eq {u : TypeDesc} (h1 : P.underlying t = some u) (h2 : ∀ ms, u ≠ .interface ms) (x : Value) (h : Heap) : ifaceR P t x h = .ok (.iface t x) h := by
  unfold ifaceR
  rw [h1]
  cases u <;> first | rfl | exact absurd rfl (h2 _)

theorem foldl_splice (off : Nat) : ∀ (l : List Value) (k : Nat) (c : Array Value), off + k + l.length ≤ c.size → ((l.zipIdx k).foldl (fun cs (x, j) => cs.setIfInBounds (off + j) x) c).toList = splice c.toList (off + k) l
  | [], k, c, _ => by simp [splice]
  | x :: l, k, c, h => by
    rw [List.zipIdx_cons, List.foldl_cons, foldl_splice off l (k + 1) _ (by simp at h ⊢; omega)]
    simp only [List.length_cons] at h
    have hl : off + k < c.toList.length := by simp; omega
    rw [Array.toList_setIfInBounds, List.set_eq_take_append_cons_drop, if_pos hl]
    unfold splice
    have ht : (c.toList.take (off + k)).length = off + k := by simp; omega
    rw [List.take_append, List.drop_append, ht, show off + (k + 1) - (off + k) = 1 by omega, show off + (k + 1) + l.length - (off + k) = l.length + 1 by omega]
    rw [List.take_of_length_le (by rw [ht]; omega), List.drop_of_length_le (l := List.take (off + k) c.toList) (by rw [ht]; omega)]
    simp [List.drop_drop, Nat.add_assoc, Nat.add_comm, Nat.add_left_comm]

theorem fill_bd {β : Type} (place : Nat → Option (Nat × Nat)) (k : List Value → Res β) (H : Heap) (go : List (Nat × Value) → List Value → Res β) (hnil : ∀ z, go [] z = k z)
    (hcons : ∀ i v ps z, go ((i, v) :: ps) z = match place i with
      | some (off, size) => if storable v && v.cells.size == size && Nat.ble (off + size) z.length then go ps (splice z off v.cells.toList) else .stuck
      | none => .stuck) : ∀ (ps : List (Nat × Value)) (c : Array Value),
    ((opt (partsV ps) H).bind fun ps _ => match Instr.fill place c ps with | some r => k r.toList | none => .stuck) = go ps c.toList
  | [], c => by rw [hnil]; rfl
  | (i, v) :: ps, c => by
    rw [hcons]
    simp only [partsV]
    cases hp : place i with
    | none =>
      dsimp only
      split
      · cases partsV ps with
        | none => rfl
        | some r => simp only [Option.map_some, opt, Res.bind, Instr.fill, hp]
      · rfl
    | some q =>
      obtain ⟨off, size⟩ := q
      dsimp only
      cases hs : storable v with
      | false => rfl
      | true =>
        simp only [if_true, Bool.true_and]
        by_cases hz : v.cells.size = size
        · by_cases hb : off + size ≤ c.size
          · have hb1 : Nat.ble (off + size) c.toList.length = true := Nat.ble_eq_true_of_le (by simpa using hb)
            rw [if_pos (by rw [hb1]; simpa using hz)]
            have hf : (v.cells.zipIdx.foldl (fun cs (x, j) => cs.setIfInBounds (off + j) x) c).toList = splice c.toList off v.cells.toList := by
              rw [foldl_zipIdx, foldl_splice off v.cells.toList 0 c (by simp [hz]; exact hb)]; rfl
            have ih := fill_bd place k H go hnil hcons ps (v.cells.zipIdx.foldl (fun cs (x, j) => cs.setIfInBounds (off + j) x) c)
            rw [hf] at ih
            rw [← ih]
            cases partsV ps with
            | none => rfl
            | some r =>
              simp only [Option.map_some, opt, Res.bind, Instr.fill, hp]
              rw [if_neg (by simp [hz]; exact hb)]
          · have hb1 : Nat.ble (off + size) c.toList.length = false := by
              cases hb2 : Nat.ble (off + size) c.toList.length with
              | false => rfl
              | true => have := Nat.le_of_ble_eq_true hb2; simp at this; omega
            rw [if_neg (by rw [hb1]; simp)]
            cases partsV ps with
            | none => rfl
            | some r =>
              simp only [Option.map_some, opt, Res.bind, Instr.fill, hp]
              rw [if_pos (by simp [hz]; omega)]
        · rw [if_neg (by simp [hz])]
          cases partsV ps with
          | none => rfl
          | some r =>
            simp only [Option.map_some, opt, Res.bind, Instr.fill, hp]
            rw [if_pos (by simp [hz])]

theorem bd_eq {fs : Array Field} {places : List (Nat × Nat)} {z : Value} (h1 : P.underlying t = some (.struct fs)) (h2 : placesOf P t = some places) (h3 : zeroT P t = some z) (ps : List (Nat × Value)) (h : Heap) :
    buildR P t ps h = bdR places ps z.cells.toList h := by
  have := fill_bd (β := Value) (places[·]?) (fun l => .ok (.agg l.toArray) h) h (fun ps z => bdR places ps z h) (fun z => rfl) (fun i v ps z => by
    show bdR places ((i, v) :: ps) z h = _
    rw [bdR]) ps z.cells
  rw [← this]
  unfold buildR buildV
  simp only [h1, h2, h3, Option.bind_some]
  cases partsV ps with
  | none => rfl
  | some r =>
    simp only [opt, Res.bind]
    cases Instr.fill (fun x => places[x]?) z.cells r with
    | none => rfl
    | some q => simp only [Option.map_some, Array.toArray_toList]

theorem be_eq {size n : Nat} {z : List Value} (h1 : P.underlying t = some (.slice e)) (h2 : sizeT P e = some size) (h3 : zeros P e n = some z) (h4 : Nat.ble (n * size) (2 ^ 24) = true) (ps : List (Nat × Value)) (h : Heap) :
    buildSliceR P t n ps h = beR size n ps z h := by
  have := fill_bd (β := Value) (fun i => some (i * size, size)) (fun l => bif Nat.beq n 0 then .ok bareV h else .ok (.slice (some ⟨h.n, 0, none⟩) n n) (h.push ⟨l, size, false⟩)) h (fun ps z => beR size n ps z h) (fun z => rfl) (fun i v ps z => by
    show beR size n ((i, v) :: ps) z h = _
    rw [beR]) ps z.toArray
  rw [show z.toArray.toList = z from rfl] at this
  rw [← this]
  unfold buildSliceR buildSliceV
  simp only [h1, h2, h3, h4, if_true]
  cases hp : partsV ps with
  | none => rfl
  | some r => rfl

theorem ba_eq {n size : Nat} {z : Value} (h1 : P.underlying t = some (.array n e)) (h2 : sizeT P e = some size) (h3 : zeroT P t = some z) (ps : List (Nat × Value)) (h : Heap) : buildR P t ps h = baR size ps z.cells.toList h := by
  have := fill_bd (β := Value) (fun i => some (i * size, size)) (fun l => .ok (.agg l.toArray) h) h (fun ps z => baR size ps z h) (fun z => rfl) (fun i v ps z => by
    show baR size ((i, v) :: ps) z h = _
    rw [baR]) ps z.cells
  rw [← this]
  unfold buildR buildV
  simp only [h1, h2, h3, Option.bind_some]
  cases partsV ps with
  | none => rfl
  | some r =>
    simp only [opt, Res.bind]
    cases Instr.fill (fun i => some (i * size, size)) z.cells r with
    | none => rfl
    | some q => simp only [Option.map_some, Array.toArray_toList]

/-! ### the same, asked for in numbers -/
theorem fa_is {i off n : Nat} {ft : TypeId} (h1 : (fieldOf P t i).map (fun f => (f.offset, f.type)) = some (off, ft)) (h2 : sizeT P ft = some (n + 1)) (a : Value) (h : Heap) : fieldAddrR P t a i h = faR off (n + 1) a h := by
  obtain ⟨f, hf, he⟩ := Option.map_eq_some_iff.1 h1
  injection he with e1 e2
  subst e1 e2
  exact fa_eq hf h2 a h
theorem fvA_is {i off n : Nat} {ft : TypeId} (h1 : (fieldOf P t i).map (fun f => (f.offset, f.type)) = some (off, ft)) (h2 : isAggT P ft = some true) (h3 : sizeT P ft = some n) (x : Value) (h : Heap) : fieldR P t x i h = fvA off n x h := by
  obtain ⟨f, hf, he⟩ := Option.map_eq_some_iff.1 h1
  injection he with e1 e2
  subst e1 e2
  exact fvA_eq hf h2 h3 x h
theorem fv1_is {i off : Nat} {ft : TypeId} (h1 : (fieldOf P t i).map (fun f => (f.offset, f.type)) = some (off, ft)) (h2 : isAggT P ft = some false) (x : Value) (h : Heap) : fieldR P t x i h = fv1 off x h := by
  obtain ⟨f, hf, he⟩ := Option.map_eq_some_iff.1 h1
  injection he with e1 e2
  subst e1 e2
  exact fv1_eq hf h2 x h
def isStructB (P : Program) (t : TypeId) : Bool := match P.underlying t with
  | some (.struct _) => true
  | _ => false
theorem bd_is {places : List (Nat × Nat)} {z : Value} (h1 : isStructB P t = true) (h2 : placesOf P t = some places) (h3 : zeroT P t = some z) (ps : List (Nat × Value)) (h : Heap) : buildR P t ps h = bdR places ps z.cells.toList h := by
  unfold isStructB at h1
  split at h1
  · rename_i fs hu; exact bd_eq hu h2 h3 ps h
  · cases h1
theorem ap_is {size bytes : Nat} {z : Value} (h1 : P.underlying t = some (.slice e)) (h2 : sizeT P e = some size) (h3 : (P.info? e).map (·.bytes) = some bytes) (h4 : zeroT P e = some z) (h5 : z.cells.size = size) (a b : Value) (h : Heap) :
    builtinV P .append [t, t] [a, b] h = apR size bytes a b h := by
  obtain ⟨i, hi, he⟩ := Option.map_eq_some_iff.1 h3
  rw [← he]
  exact ap_eq h1 h2 hi h4 h5 a b h
theorem mk_is {size bytes : Nat} {z : Value} (h1 : P.underlying t = some (.slice e)) (h2 : sizeT P e = some size) (h3 : (P.info? e).map (·.bytes) = some bytes) (h4 : zeroT P e = some z) (h5 : (z.cells.size == size) = true) (l c : Value) (h : Heap) :
    makeSliceV P t l c h = mkR size bytes z.cells.toList l c h := by
  obtain ⟨i, hi, he⟩ := Option.map_eq_some_iff.1 h3
  rw [← he]
  exact mk_eq h1 h2 hi h4 h5 l c h

/-! ### structs of numbers, held against each other -/
def intFields (P : Program) : Nat → List Field → List IntKind → Bool
  | _, [], [] => true
  | i, f :: fs, k :: ks => !(f.name == "_") && (Nat.beq f.offset i && ((match P.underlying f.type with | some (.int k') => k' == k | _ => false) && intFields P (i + 1) fs ks))
  | _, _, _ => false
def eqIntsB (P : Program) (t : TypeId) (ks : List IntKind) : Bool := (match P.underlying t with | some (.struct fs) => intFields P 0 fs.toList ks | _ => false) && (!P.stoodInHeld t && !(P.eqGuardType P.depth t))
def icells : List IntKind → List Int → List Value
  | k :: ks, a :: l => .int k a :: icells ks l
  | _, _ => []
theorem eq_fields {d : Nat} : ∀ (fs : List Field) (ks : List IntKind) (i : Nat) (p q : List Value) (xs ys : List Int), intFields P i fs ks = true → xs.length = ks.length → ys.length = ks.length → p.length = i → q.length = i →
    eqFields P (eqV P (d + 1)) (p ++ icells ks xs).toArray (q ++ icells ks ys).toArray fs = some (xs == ys)
  | [], [], i, p, q, xs, ys, _, hx, hy, _, _ => by
    have e1 := List.length_eq_zero_iff.1 hx
    have e2 := List.length_eq_zero_iff.1 hy
    subst e1 e2
    rfl
  | [], k :: ks, i, p, q, xs, ys, h, _, _, _, _ => by simp [intFields] at h
  | f :: fs, [], i, p, q, xs, ys, h, _, _, _, _ => by simp [intFields] at h
  | f :: fs, k :: ks, i, p, q, x :: xs, y :: ys, h, hx, hy, hp, hq => by
    simp only [intFields, Bool.and_eq_true, Bool.not_eq_true'] at h
    obtain ⟨h1, h2, h3, h4⟩ := h
    have h2 := Nat.eq_of_beq_eq_true h2
    split at h3
    · rename_i k' hu
      have h3 : k' = k := by simpa using h3
      subst h3
      have hag : isAggT P f.type = some false := by unfold isAggT; rw [hu]; rfl
      have part : ∀ (l : List Value) (z : Int) (zs : List Int), l.length = i → partV P f.type (l ++ icells (k' :: ks) (z :: zs)).toArray f.offset = some (.int k' z) := by
        intro l z zs hl
        unfold partV
        rw [hag]
        simp only [icells, h2]
        rw [List.getElem?_toArray, List.getElem?_append_right (by omega), hl]
        simp
      simp only [eqFields]
      rw [h1, part p x xs hp, part q y ys hq]
      have he : eqV P (d + 1) f.type (.int k' x) (.int k' y) = some (x == y) := by unfold eqV; rw [hu]; simp
      simp only [he, Bool.false_eq_true, if_false]
      have ih := eq_fields (d := d) fs ks (i + 1) (p ++ [Value.int k' x]) (q ++ [Value.int k' y]) xs ys h4 (by simpa using hx) (by simpa using hy) (by simp [hp]) (by simp [hq])
      simp only [List.append_assoc, List.singleton_append] at ih
      show (match some (x == y) with | some true => eqFields P (eqV P (d + 1)) (p ++ (Value.int k' x :: icells ks xs)).toArray (q ++ (Value.int k' y :: icells ks ys)).toArray fs | r => r) = _
      rw [ih, List.cons_beq_cons]
      cases x == y <;> rfl
    · cases h3
  | f :: fs, k :: ks, i, p, q, [], ys, h, hx, _, _, _ => by simp at hx
  | f :: fs, k :: ks, i, p, q, x :: xs, [], h, _, hy, _, _ => by simp at hy

theorem eqI_is {ks : List IntKind} (hb : eqIntsB P t ks = true) (xs ys : List Int) (hx : xs.length = ks.length) (hy : ys.length = ks.length) (h : Heap) : binR P .eql t (.agg (icells ks xs).toArray) (.agg (icells ks ys).toArray) h = .ok (.bool (xs == ys)) h := by
  unfold eqIntsB at hb
  simp only [Bool.and_eq_true, Bool.not_eq_true'] at hb
  obtain ⟨h1, h2, h3⟩ := hb
  split at h1
  · rename_i fs hu
    have := eq_fields (P := P) (d := 6) fs.toList ks 0 [] [] xs ys h1 hx hy rfl rfl
    simp only [List.nil_append] at this
    unfold binR binV eqDepth eqV
    simp only [h3, h2, hu, this]
    rfl
  · cases h1
theorem neI_is {ks : List IntKind} (hb : eqIntsB P t ks = true) (xs ys : List Int) (hx : xs.length = ks.length) (hy : ys.length = ks.length) (h : Heap) : binR P .neq t (.agg (icells ks xs).toArray) (.agg (icells ks ys).toArray) h = .ok (.bool (!(xs == ys))) h := by
  unfold eqIntsB at hb
  simp only [Bool.and_eq_true, Bool.not_eq_true'] at hb
  obtain ⟨h1, h2, h3⟩ := hb
  split at h1
  · rename_i fs hu
    have := eq_fields (P := P) (d := 6) fs.toList ks 0 [] [] xs ys h1 hx hy rfl rfl
    simp only [List.nil_append] at this
    unfold binR binV eqDepth eqV
    simp only [h3, h2, hu, this]
    rfl
  · cases h1
end
end Go.Sw
