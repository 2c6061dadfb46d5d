/-
  What is left of a call: new memory that nobody sees is forgotten; new memory that is answered may be frozen.
-/
import Derived.Test.YtnaodjnimkndbaaSwAA
import Derived.Test.YtnaodjnimkndbaaSwH
namespace Go.Sw
open Go.RowKit

/-! ### values that lead to known blocks alone -/

inductive Alive (H : Heap) : Value → Prop
  | bool (b : Bool) : Alive H (.bool b)
  | int (k : IntKind) (n : Int) : Alive H (.int k n)
  | string (s : ByteArray) : Alive H (.string s)
  | nilPtr : Alive H (.pointer none)
  | ptr (b off : Nat) (k : Blk) (h : H.get b = some k) : Alive H (.pointer (some ⟨b, off, none⟩))
  | nilSlice : Alive H (.slice none 0 0)
  | slice (b off len cap : Nat) (k : Blk) (h : H.get b = some k) : Alive H (.slice (some ⟨b, off, none⟩) len cap)
  | unsure : Alive H (.slice (some ⟨0, 0, some 1⟩) 0 0)
  | bare : Alive H (.slice (some ⟨0, 0, some 0⟩) 0 0)
  | list (len : Nat) (p : Array FieldStep) (g : FuncId) (cells ys : Array Value) (h : ∀ (i : Nat) (v : Value), cells[i]? = some v → Alive H v) : Alive H (.func (.via len p g false) cells ys)
  | box (n : Nat) (p : Array FieldStep) (g : FuncId) (cells ys : Array Value) (h : ∀ (i : Nat) (v : Value), cells[i]? = some v → Alive H v) : Alive H (.func (.via n p g true) cells ys)
  | nilMap : Alive H (.map none)
  | nilFunc : Alive H .nilFunc
  | func (fn : FuncId) (xs ys : Array Value) (h1 : ∀ (i : Nat) (v : Value), xs[i]? = some v → Alive H v) (h2 : ∀ (i : Nat) (v : Value), ys[i]? = some v → Alive H v) : Alive H (.func (.func fn) xs ys)
  | nilIface : Alive H .nilIface
  | iface (t : TypeId) (v : Value) (h : Alive H v) : Alive H (.iface t v)
  | agg (xs : Array Value) (h : ∀ (i : Nat) (v : Value), xs[i]? = some v → Alive H v) : Alive H (.agg xs)
  | tuple (xs : Array Value) (h : ∀ (i : Nat) (v : Value), xs[i]? = some v → Alive H v) : Alive H (.tuple xs)

/-- The blocks that a value leads to are told by μ. -/
inductive Known (μ : Mu) : Value → Prop
  | bool (b : Bool) : Known μ (.bool b)
  | int (k : IntKind) (n : Int) : Known μ (.int k n)
  | string (s : ByteArray) : Known μ (.string s)
  | nilPtr : Known μ (.pointer none)
  | ptr (b off : Nat) (m : MB) (h : μ b = some m) : Known μ (.pointer (some ⟨b, off, none⟩))
  | slice (a : Option Addr) (len cap : Nat) (h : ∀ b off, a = some ⟨b, off, none⟩ → ∃ m, μ b = some m) : Known μ (.slice a len cap)
  | via (n : Nat) (p : Array FieldStep) (g : FuncId) (t : Bool) (cells ys : Array Value) (h : ∀ (i : Nat) (v : Value), cells[i]? = some v → Known μ v) : Known μ (.func (.via n p g t) cells ys)
  | empty (p : Array FieldStep) (g : FuncId) (cells ys : Array Value) : Known μ (.func (.via 0 p g false) cells ys)
  | nilMap : Known μ (.map none)
  | map (b : Nat) (m : MB) (h : μ b = some m) : Known μ (.map (some b))
  | nilFunc : Known μ .nilFunc
  | func (fn : FuncId) (xs ys : Array Value) (h1 : ∀ (i : Nat) (v : Value), xs[i]? = some v → Known μ v) (h2 : ∀ (i : Nat) (v : Value), ys[i]? = some v → Known μ v) : Known μ (.func (.func fn) xs ys)
  | nilIface : Known μ .nilIface
  | iface (t : TypeId) (v : Value) (h : Known μ v) : Known μ (.iface t v)
  | agg (xs : Array Value) (h : ∀ (i : Nat) (v : Value), xs[i]? = some v → Known μ v) : Known μ (.agg xs)
  | tuple (xs : Array Value) (h : ∀ (i : Nat) (v : Value), xs[i]? = some v → Known μ v) : Known μ (.tuple xs)

theorem arr_other {α : Type} {xs ys : Array α} (h : xs.size = ys.size) {i : Nat} {v : α} (hv : xs[i]? = some v) : ∃ u, ys[i]? = some u := by
  have hi : i < xs.size := by
    rcases Nat.lt_or_ge i xs.size with h1 | h1
    · exact h1
    · rw [Array.getElem?_eq_none h1] at hv; cases hv
  exact ⟨ys[i], Array.getElem?_eq_getElem (by omega)⟩
theorem arr_at {α : Type} {xs ys : Array α} {off : Nat} (h : off + xs.size ≤ ys.size) {i : Nat} {v : α} (hv : xs[i]? = some v) : ∃ u, ys[off + i]? = some u := by
  have hi : i < xs.size := by
    rcases Nat.lt_or_ge i xs.size with h1 | h1
    · exact h1
    · rw [Array.getElem?_eq_none h1] at hv; cases hv
  exact ⟨ys[off + i], Array.getElem?_eq_getElem (by omega)⟩

theorem VR.known {μ : Mu} {v v' : Value} (h : VR μ v v') : Known μ v := by
  induction h with
  | bool b => exact .bool b
  | int k n => exact .int k n
  | string s => exact .string s
  | nilPtr => exact .nilPtr
  | ptr b off m h => exact .ptr b off m h
  | nilSlice => exact .slice _ _ _ fun b off h => by cases h
  | slice b off off' len cap cap' m h hl hc ho hx => exact .slice _ _ _ fun b' off' he => by injection he with he; injection he with e1 e2 e3; subst e1; exact ⟨m, h⟩
  | unsure a => exact .slice _ _ _ fun b off h => by injection h with h; injection h with h1 h2 h3; cases h3
  | list len p g cells ys blk off cap cs el fz hz hl hc hg h0 _ ih =>
    refine .via _ _ _ _ _ _ fun i v hv => ?_
    obtain ⟨u, hu⟩ := arr_at hl hv
    exact ih i v u hv hu
  | empty p g cells ys a cap hn hs => exact .empty p g cells ys
  | box n p g cells ys blk off cs el fz hz hl h0 _ ih =>
    refine .via _ _ _ _ _ _ fun i v hv => ?_
    obtain ⟨u, hu⟩ := arr_at hl hv
    exact ih i v u hv hu
  | bare a => exact .slice _ _ _ fun b off h => by injection h with h; injection h with h1 h2 h3; cases h3
  | nilMap => exact .nilMap
  | map b m h => exact .map b m h
  | nilFunc => exact .nilFunc
  | func fn xs xs' ys ys' h1 _ h3 _ ih1 ih2 =>
    refine .func fn xs ys (fun i v hv => ?_) (fun i v hv => ?_)
    · obtain ⟨u, hu⟩ := arr_other h1 hv; exact ih1 i v u hv hu
    · obtain ⟨u, hu⟩ := arr_other h3 hv; exact ih2 i v u hv hu
  | nilIface => exact .nilIface
  | iface t v v' _ ih => exact .iface t v ih
  | agg xs xs' h0 h1 _ ih => exact .agg xs fun i v hv => by obtain ⟨u, hu⟩ := arr_other h1 hv; exact ih i v u hv hu
  | tuple xs xs' h1 _ ih => exact .tuple xs fun i v hv => by obtain ⟨u, hu⟩ := arr_other h1 hv; exact ih i v u hv hu

theorem Alive.known {H : Heap} {μ : Mu} (hb : ∀ b k, H.get b = some k → ∃ m, μ b = some m) {v : Value} (h : Alive H v) : Known μ v := by
  induction h with
  | bool b => exact .bool b
  | int k n => exact .int k n
  | string s => exact .string s
  | nilPtr => exact .nilPtr
  | ptr b off k h => obtain ⟨m, hm⟩ := hb b k h; exact .ptr b off m hm
  | nilSlice => exact .slice _ _ _ fun b off h => by cases h
  | slice b off len cap k h => exact .slice _ _ _ fun b' off' he => by injection he with he; injection he with e1 e2 e3; subst e1; exact hb _ k h
  | unsure => exact .slice _ _ _ fun b off h => by injection h with h; injection h with h1 h2 h3; cases h3
  | bare => exact .slice _ _ _ fun b off h => by injection h with h; injection h with h1 h2 h3; cases h3
  | list len p g cells ys _ ih => exact .via _ _ _ _ _ _ ih
  | box n p g cells ys _ ih => exact .via _ _ _ _ _ _ ih
  | nilMap => exact .nilMap
  | nilFunc => exact .nilFunc
  | func fn xs ys _ _ ih1 ih2 => exact .func fn xs ys ih1 ih2
  | nilIface => exact .nilIface
  | iface t v _ ih => exact .iface t v ih
  | agg xs _ ih => exact .agg xs ih
  | tuple xs _ ih => exact .tuple xs ih

/-- The newer of two tellings, with the elder's blocks alone. -/
def Mu.cut (μ μ' : Mu) : Mu := ⟨μ.f, μ'.z⟩
theorem Known.cut {μ μ' : Mu} (hle : μ.le μ') {v : Value} (h : Known μ v) : ∀ v', VR μ' v v' → VR (μ.cut μ') v v' := by
  induction h with
  | bool b => intro v' hv; cases hv; exact .bool b
  | int k n => intro v' hv; cases hv; exact .int k n
  | string s => intro v' hv; cases hv; exact .string s
  | nilPtr => intro v' hv; cases hv; exact .nilPtr
  | ptr b off m h =>
    intro v' hv
    cases hv with
    | ptr _ _ m' h' =>
      rw [hle.f _ _ h] at h'; injection h' with h'; subst h'
      exact .ptr b off m h
  | slice a len cap h =>
    intro v' hv
    cases hv with
    | nilSlice => exact .nilSlice
    | slice b off off' len cap cap' m h' hl hc ho hx =>
      obtain ⟨m2, hm2⟩ := h b off rfl
      rw [hle.f _ _ hm2] at h'; injection h' with h'; subst h'
      exact .slice b off off' len cap cap' m2 hm2 hl hc ho hx
    | unsure a => exact .unsure a
    | bare a => exact .bare a
  | via n p g t cells ys _ ih =>
    intro v' hv
    cases hv with
    | list len p g cells ys blk off cap cs el fz hz hl hc hg h0 h2 => exact .list n p g cells ys blk off cap cs el fz hz hl hc hg h0 fun i v u hv hu => ih i v hv u (h2 i v u hv hu)
    | empty p g cells ys a cap hn hs => exact .empty p g cells ys a cap hn hs
    | box n p g cells ys blk off cs el fz hz hl h0 h2 => exact .box n p g cells ys blk off cs el fz hz hl h0 fun i v u hv hu => ih i v hv u (h2 i v u hv hu)
  | empty p g cells ys =>
    intro v' hv
    cases hv with
    | list len p g cells ys blk off cap cs el fz hz hl hc hg h0 h2 => exact .empty p g cells ys _ _ (fun h => by cases h) (fun h => absurd h hg)
    | empty p g cells ys a cap hn hs => exact .empty p g cells ys a cap hn hs
  | nilMap => intro v' hv; cases hv; exact .nilMap
  | map b m h =>
    intro v' hv
    cases hv with
    | map _ m' h' =>
      rw [hle.f _ _ h] at h'; injection h' with h'; subst h'
      exact .map b m h
  | nilFunc => intro v' hv; cases hv; exact .nilFunc
  | func fn xs ys _ _ ih1 ih2 =>
    intro v' hv
    cases hv with
    | func _ _ xs' _ ys' h1 h2 h3 h4 => exact .func fn xs xs' ys ys' h1 (fun i v u hv hu => ih1 i v hv u (h2 i v u hv hu)) h3 (fun i v u hv hu => ih2 i v hv u (h4 i v u hv hu))
  | nilIface => intro v' hv; cases hv; exact .nilIface
  | iface t v _ ih => intro v' hv; cases hv with | iface _ _ u h => exact .iface t v u (ih u h)
  | agg xs _ ih => intro v' hv; cases hv with | agg _ xs' h0 h1 h2 => exact .agg xs xs' h0 h1 fun i v u hv hu => ih i v hv u (h2 i v u hv hu)
  | tuple xs _ ih => intro v' hv; cases hv with | tuple _ xs' h1 h2 => exact .tuple xs xs' h1 fun i v u hv hu => ih i v hv u (h2 i v u hv hu)

/-- What was there before a call is there behind it: what is new is forgotten. -/
theorem HR.cut {w0 : Base} {μ μ' : Mu} {H H' : Heap} {w w' : World} (h : HR w0 μ H w) (h' : HR w0 μ' H' w') (hle : μ.le μ') (hk : Keeps [] H H') : HR w0 (μ.cut μ') H w' := by
  have hget : ∀ b k, H.get b = some k → H'.get b = some k := fun b k hb => hk.get hb (by simp)
  constructor
  · exact h.dom
  · intro b k hb
    obtain ⟨m, hm, hB⟩ := h.blk b k hb
    obtain ⟨m', hm', hB'⟩ := h'.blk b k (hget b k hb)
    rw [hle.f _ _ hm] at hm'; injection hm' with hm'; subst hm'
    obtain ⟨cs, el, fz, g1, g2, g3, g4⟩ := hB'.here
    refine ⟨m, hm, hB'.esz, hB'.ro, ⟨cs, el, fz, g1, g2, g3, fun i v hv => ?_⟩, hB'.ones, hB'.ext, hB'.own, hB'.low⟩
    obtain ⟨cs0, el0, fz0, k1, k2, k3, k4⟩ := hB.here
    obtain ⟨u, hu, r⟩ := g4 i v hv
    obtain ⟨u0, _, r0⟩ := k4 i v hv
    exact ⟨u, hu, r0.known.cut hle u r⟩
  · intro b b' k k' m m' hb hb' r r' hm hm' he
    exact h'.inj b b' k k' m m' (hget _ _ hb) (hget _ _ hb') r r' (hle.f _ _ hm) (hle.f _ _ hm') he
  · exact h'.below
  · exact ⟨h'.zr.at_, h'.zr.old, fun k o b x m hz hb hr hm => h'.zr.apart k o b x m hz (hget _ _ hb) hr (hle.f _ _ hm)⟩

theorem Mu.le_cut {μ μ' : Mu} (hle : μ.le μ') : μ.le (μ.cut μ') := ⟨fun _ _ h => h, hle.z⟩

theorem ended_cut {w0 : Base} {μ μ' : Mu} {H H' : Heap} {w w' : World} {v v' : Value} (h : HR w0 μ H w) (h' : HR w0 μ' H' w') (hle : μ.le μ') (hv : VR μ' v v') (hk : Keeps [] H H') (ha : Alive H v) :
    μ.le (μ.cut μ') ∧ HR w0 (μ.cut μ') H w' ∧ VR (μ.cut μ') v v' :=
  ⟨Mu.le_cut hle, h.cut h' hle hk, (ha.known fun b k hb => by obtain ⟨m, hm, _⟩ := h.blk b k hb; exact ⟨m, hm⟩).cut hle v' hv⟩

/-! ### freezing -/

theorem Heap.get_set_none (H : Heap) (b c : Nat) : (H.set b none).get c = if c = b then none else H.get c := by
  unfold Heap.get Heap.set
  by_cases hb : b < H.n
  · rw [if_pos hb]
    dsimp only
    by_cases hc : c < H.n
    · rw [if_pos hc, if_pos hc]
      by_cases hcb : c = b
      · subst hcb
        rw [if_pos rfl, List.getElem?_set]
        simp only [if_true]
        split <;> rfl
      · rw [if_neg hcb, List.getElem?_set_ne (by omega)]
    · rw [if_neg hc, if_neg hc]; split <;> rfl
  · rw [if_neg hb]
    by_cases hcb : c = b
    · subst hcb; rw [if_pos rfl, if_neg hb]
    · rw [if_neg hcb]

def killAll (H : Heap) : List Nat → Heap
  | [] => H
  | b :: L => killAll (H.set b none) L
theorem killAll_n : ∀ (L : List Nat) (H : Heap), (killAll H L).n = H.n
  | [], _ => rfl
  | b :: L, H => by rw [killAll, killAll_n L, Heap.n_set]
theorem killAll_get : ∀ (L : List Nat) (H : Heap) (c : Nat), (killAll H L).get c = if c ∈ L then none else H.get c
  | [], _, _ => by simp [killAll]
  | b :: L, H, c => by
    rw [killAll, killAll_get L, Heap.get_set_none]
    by_cases h1 : c ∈ L
    · simp [h1]
    · by_cases h2 : c = b
      · simp [h2]
      · simp [h1, h2]

/-- One block of one's own is frozen. -/
theorem HR.freeze {w0 : Base} {μ : Mu} {H : Heap} {w : World} (h : HR w0 μ H w) {b : Nat} {k : Blk} {m : MB} (hk : H.get b = some k) (hr : k.ro = false) (hm : μ b = some m) :
    ∃ μ' : Mu, μ.le μ' ∧ HR w0 μ' (H.set b none) w ∧ μ'.f = μ.f ∧ μ'.z m.blk = w.heap[m.blk]? := by
  have hd : ∀ j, Decidable (j = m.blk) := fun j => inferInstance
  have hle : μ.le ⟨μ.f, fun j => if j = m.blk then w.heap[j]? else μ.z j⟩ := by
    refine ⟨fun _ _ h => h, fun j o hj => ?_⟩
    dsimp only
    split
    · exact h.zr.at_ j o hj
    · exact hj
  refine ⟨⟨μ.f, fun j => if j = m.blk then w.heap[j]? else μ.z j⟩, hle, ?_, rfl, by simp⟩
  obtain ⟨m2, hm2, hB⟩ := h.blk b k hk
  rw [hm] at hm2; injection hm2 with hm2; subst hm2
  constructor
  · intro c x hc; rw [Heap.n_set]; exact h.dom c x hc
  · intro c x hc
    rw [Heap.get_set hk] at hc
    split at hc
    · cases hc
    · obtain ⟨mm, hmm, hBB⟩ := h.blk c x hc
      exact ⟨mm, hmm, hBB.keep hle rfl⟩
  · intro c c' x x' mm mm' hc hc'
    rw [Heap.get_set hk] at hc hc'
    split at hc
    · cases hc
    · split at hc'
      · cases hc'
      · exact h.inj c c' x x' mm mm' hc hc'
  · exact h.below
  · constructor
    · intro j o hj
      dsimp only at hj
      split at hj
      · exact hj
      · exact h.zr.at_ j o hj
    · intro j o hj hS
      dsimp only at hj
      split at hj
      · rename_i he; subst he; exact absurd hS (hB.own hr)
      · exact h.zr.old j o hj hS
    · intro j o c x mm hj hc hxr hmm
      dsimp only at hj
      rw [Heap.get_set hk] at hc
      split at hc
      · cases hc
      · rename_i hcb
        split at hj
        · rename_i he
          subst he
          exact fun he => hcb (h.inj c b x k mm m hc hk hxr hr hmm hm he)
        · exact h.zr.apart j o c x mm hj hc hxr hmm

theorem HR.freezeL {w0 : Base} {w : World} : ∀ (L : List Nat) {μ : Mu} {H : Heap}, HR w0 μ H w → (∀ b, b ∈ L → ∀ k, H.get b = some k → k.ro = false) →
    ∃ μ' : Mu, μ.le μ' ∧ HR w0 μ' (killAll H L) w ∧ μ'.f = μ.f ∧ ∀ b k m, b ∈ L → H.get b = some k → μ b = some m → μ'.z m.blk = w.heap[m.blk]?
  | [], μ, H, h, _ => ⟨μ, Mu.le_refl _, h, rfl, fun b k m hb => by simp at hb⟩
  | b :: L, μ, H, h, hL => by
    cases hk : H.get b with
    | none =>
      have hs : ∀ c, (H.set b none).get c = H.get c := fun c => by
        rw [Heap.get_set_none]
        split
        · rename_i hc; subst hc; exact hk.symm
        · rfl
      have h1 : HR w0 μ (H.set b none) w := by
        constructor
        · intro c m hc; rw [Heap.n_set]; exact h.dom c m hc
        · intro c x hc; rw [hs] at hc; exact h.blk c x hc
        · intro c c' x x' m m' hc hc'; rw [hs] at hc hc'; exact h.inj c c' x x' m m' hc hc'
        · exact h.below
        · exact ⟨h.zr.at_, h.zr.old, fun j o c x m hj hc => by rw [hs] at hc; exact h.zr.apart j o c x m hj hc⟩
      obtain ⟨μ', k1, k2, k3, k4⟩ := HR.freezeL L h1 fun c hc x hx => by rw [hs] at hx; exact hL c (by simp [hc]) x hx
      refine ⟨μ', k1, k2, k3, fun c x m hc hx hm => ?_⟩
      rcases List.mem_cons.1 hc with rfl | hc
      · rw [hk] at hx; cases hx
      · exact k4 c x m hc (by rw [hs]; exact hx) hm
    | some k =>
      obtain ⟨m, hm, _⟩ := h.blk b k hk
      obtain ⟨μ1, j1, j2, j3, j4⟩ := h.freeze hk (hL b (by simp) k hk) hm
      obtain ⟨μ', k1, k2, k3, k4⟩ := HR.freezeL L j2 fun c hc x hx => by
        rw [Heap.get_set hk] at hx
        split at hx
        · cases hx
        · exact hL c (by simp [hc]) x hx
      have hat := k2.zr.at_
      refine ⟨μ', Mu.le_trans j1 k1, k2, k3.trans j3, fun c x mm hc hx hmm => ?_⟩
      by_cases hcb : c = b
      · subst hcb
        rw [hm] at hmm; injection hmm with hmm; subst hmm
        cases ho : w.heap[m.blk]? with
        | none => 
          obtain ⟨m2, hm2, hB⟩ := h.blk c k hk
          rw [hm] at hm2; injection hm2 with hm2; subst hm2
          obtain ⟨cs, el, fz, g1, _⟩ := hB.here
          rw [ho] at g1; cases g1
        | some o => exact k1.z _ _ (by rw [j4, ho])
      · rcases List.mem_cons.1 hc with rfl | hc
        · exact absurd rfl hcb
        · exact k4 c x mm hc (by rw [Heap.get_set hk, if_neg hcb]; exact hx) (by show μ1.f c = some mm; rw [j3]; exact hmm)

def mapF (f : Value → Option (Value × List Nat)) : List Value → Option (List Value × List Nat)
  | [] => some ([], [])
  | v :: vs => match f v, mapF f vs with
    | some a, some b => some (a.1 :: b.1, a.2 ++ b.2)
    | _, _ => none

/-- A value with all new memory that it leads to told by what lies there; and which blocks these are. -/
def fzV (n0 : Nat) (H : Heap) : Nat → Value → Option (Value × List Nat)
  | 0, _ => none
  | d + 1, v => match v with
    | .pointer (some ⟨b, off, none⟩) =>
      bif Nat.blt b n0 then some (v, []) else
      match H.get b with
      | some k => bif k.ro || !Nat.ble off k.cells.length then none else (mapF (fzV n0 H d) (k.cells.drop off)).map fun r => (boxV r.1.toArray, b :: r.2)
      | none => none
    | .slice (some ⟨b, off, none⟩) len _ =>
      bif Nat.blt b n0 then some (v, []) else
      match H.get b with
      | some k => bif k.ro || !Nat.ble (off + len * k.esz) k.cells.length then none else (mapF (fzV n0 H d) ((k.cells.drop off).take (len * k.esz))).map fun r => (listV len r.1.toArray, b :: r.2)
      | none => none
    | .slice none 0 0 => some (listV 0 #[], [])
    | .slice (some ⟨_, _, some _⟩) 0 0 => some (listV 0 #[], [])
    | .iface t u => (fzV n0 H d u).map fun r => (.iface t r.1, r.2)
    | .agg cs => (mapF (fzV n0 H d) cs.toList).map fun r => (.agg r.1.toArray, r.2)
    | .tuple cs => (mapF (fzV n0 H d) cs.toList).map fun r => (.tuple r.1.toArray, r.2)
    | v => some (v, [])

theorem mapF_spec {f : Value → Option (Value × List Nat)} {R : Value → Value → Prop} : ∀ {l r : List Value} {L : List Nat}, mapF f l = some (r, L) →
    (∀ v u M, v ∈ l → f v = some (u, M) → (∀ b, b ∈ M → b ∈ L) → R v u) → r.length = l.length ∧ ∀ (i : Nat) v u, l[i]? = some v → r[i]? = some u → R v u
  | [], r, L, h, _ => by
    simp only [mapF] at h
    injection h with h; injection h with h1 h2; subst h1
    exact ⟨rfl, fun i v u hv => by simp at hv⟩
  | v :: l, r, L, h, hR => by
    simp only [mapF] at h
    split at h
    · rename_i a b ha hb
      injection h with h; injection h with h1 h2; subst h1 h2
      obtain ⟨a1, a2⟩ := a
      obtain ⟨b1, b2⟩ := b
      have ih := mapF_spec (R := R) hb fun v u M hv hf hM => hR v u M (by simp [hv]) hf fun x hx => by simp [hM x hx]
      refine ⟨by simp [ih.1], fun i x u hx hu => ?_⟩
      cases i with
      | zero =>
        simp at hx hu
        subst hx hu
        exact hR v a1 a2 (by simp) ha fun x hx => by simp [hx]
      | succ i => exact ih.2 i x u (by simpa using hx) (by simpa using hu)
    · cases h

theorem fz_one {n0 : Nat} {H : Heap} : ∀ {d : Nat} {v u : Value} {L : List Nat}, fzV n0 H d v = some (u, L) → v.oneCell' = true → u.oneCell' = true
  | 0, v, u, L, h, _ => by simp [fzV] at h
  | d + 1, v, u, L, h, ho => by
    unfold fzV at h
    split at h
    · cases hb : Nat.blt _ n0 with
      | true => rw [hb] at h; simp only [cond_true] at h; injection h with h; injection h with h1 _; subst h1; exact ho
      | false =>
        rw [hb] at h; simp only [cond_false] at h
        split at h
        · revert h
          cases (_ || _ : Bool)
          · simp only [cond_false]; intro h
            obtain ⟨r, _, he⟩ := Option.map_eq_some_iff.1 h
            injection he with h1 _; subst h1; rfl
          · simp only [cond_true]; intro h; cases h
        · cases h
    · cases hb : Nat.blt _ n0 with
      | true => rw [hb] at h; simp only [cond_true] at h; injection h with h; injection h with h1 _; subst h1; exact ho
      | false =>
        rw [hb] at h; simp only [cond_false] at h
        split at h
        · revert h
          cases (_ || _ : Bool)
          · simp only [cond_false]; intro h
            obtain ⟨r, _, he⟩ := Option.map_eq_some_iff.1 h
            injection he with h1 _; subst h1; rfl
          · simp only [cond_true]; intro h; cases h
        · cases h
    · injection h with h; injection h with h1 _; subst h1; rfl
    · injection h with h; injection h with h1 _; subst h1; rfl
    · obtain ⟨r, _, he⟩ := Option.map_eq_some_iff.1 h
      injection he with h1 _; subst h1; rfl
    · cases ho
    · cases ho
    · injection h with h; injection h with h1 _; subst h1; exact ho

/-- What was frozen is as the world has it. -/
theorem fz_sim {w0 : Base} {n0 : Nat} {μ μ' : Mu} {H : Heap} {w : World} (h : HR w0 μ H w) (hle : μ.le μ') : ∀ (d : Nat) {v u v' : Value} {L : List Nat}, fzV n0 H d v = some (u, L) →
    (∀ b k m, b ∈ L → H.get b = some k → μ b = some m → μ'.z m.blk = w.heap[m.blk]?) → VR μ v v' → VR μ' u v'
  | 0, v, u, v', L, hf, _, _ => by simp [fzV] at hf
  | d + 1, v, u, v', L, hf, hL, hv => by
    have ih : ∀ {v u v' : Value} {M : List Nat}, fzV n0 H d v = some (u, M) → (∀ b, b ∈ M → b ∈ L) → VR μ v v' → VR μ' u v' := fun hf hM hv =>
      fz_sim h hle d hf (fun b k m hb hk hm => hL b k m (hM b hb) hk hm) hv
    have lists : ∀ {l r : List Value} {M : List Nat}, mapF (fzV n0 H d) l = some (r, M) → (∀ b, b ∈ M → b ∈ L) → Ones l → r.length = l.length ∧ Ones r ∧ ∀ (i : Nat) v u v', l[i]? = some v → r[i]? = some u → VR μ v v' → VR μ' u v' := by
      intro l r M hm hM ho
      obtain ⟨h1, h2⟩ := mapF_spec (R := fun v u => u.oneCell' = true ∧ ∀ v', VR μ v v' → VR μ' u v') hm fun v u M' hv hf hM' => ⟨fz_one hf (ho v hv), fun v' hv' => ih hf (fun b hb => hM b (hM' b hb)) hv'⟩
      refine ⟨h1, fun u hu => ?_, fun i v u v' hv hu hvv => (h2 i v u hv hu).2 v' hvv⟩
      obtain ⟨i, hi⟩ := List.mem_iff_getElem?.1 hu
      have hlt : i < l.length := by rw [← h1]; exact (List.getElem?_eq_some_iff.1 hi).1
      exact (h2 i _ u (List.getElem?_eq_getElem hlt) hi).1
    have lists2 : ∀ {l r : List Value} {M : List Nat}, mapF (fzV n0 H d) l = some (r, M) → (∀ b, b ∈ M → b ∈ L) → r.length = l.length ∧ ∀ (i : Nat) v u v', l[i]? = some v → r[i]? = some u → VR μ v v' → VR μ' u v' := by
      intro l r M hm hM
      obtain ⟨h1, h2⟩ := mapF_spec (R := fun v u => ∀ v', VR μ v v' → VR μ' u v') hm fun v u M' hv hf hM' => fun v' hv' => ih hf (fun b hb => hM b (hM' b hb)) hv'
      exact ⟨h1, fun i v u v' hv hu hvv => h2 i v u hv hu v' hvv⟩
    unfold fzV at hf
    split at hf
    · rename_i b off
      cases hb : Nat.blt b n0 with
      | true => rw [hb] at hf; simp only [cond_true] at hf; injection hf with hf; injection hf with h1 _; subst h1; exact hv.up hle
      | false =>
        rw [hb] at hf; simp only [cond_false] at hf
        split at hf
        · rename_i k hk
          cases hc : (k.ro || !Nat.ble off k.cells.length : Bool) with
          | true => rw [hc] at hf; cases hf
          | false =>
            rw [hc] at hf; simp only [cond_false] at hf
            simp only [Bool.or_eq_false_iff, Bool.not_eq_false'] at hc
            have hle2 := Nat.le_of_ble_eq_true hc.2
            obtain ⟨r, hr, he⟩ := Option.map_eq_some_iff.1 hf
            injection he with h1 h2; subst h1 h2
            cases hv with
            | ptr _ _ m hm =>
              obtain ⟨m2, hm2, hB⟩ := h.blk b k hk
              rw [hm] at hm2; injection hm2 with hm2; subst hm2
              obtain ⟨cs, el, fz, g1, g2, g3, g4⟩ := hB.here
              obtain ⟨l1, l2, l3⟩ := lists hr (fun x hx => by simp [hx]) (hB.ones.drop off)
              have hz : μ'.z m.blk = some (.cells cs el fz) := by rw [hL b k m (by simp) hk hm, g1]
              have hx := hB.ext
              refine VR.box _ _ _ _ _ m.blk _ cs el fz hz (by simp [l1]; omega) (fun v hv => l2 v (by simpa using hv)) fun i x x' hx hx' => ?_
              have hi : i < r.1.length := (List.getElem?_eq_some_iff.1 (by simpa using hx)).1
              have hlt : i < (k.cells.drop off).length := by omega
              have e1 : k.cells[off + i]? = some (k.cells.drop off)[i] := by rw [← List.getElem?_drop]; exact List.getElem?_eq_getElem hlt
              obtain ⟨x2, e2, r2⟩ := g4 _ _ e1
              rw [Nat.add_assoc] at hx'
              rw [hx'] at e2; injection e2 with e2; subst e2
              exact l3 i _ x x' (List.getElem?_eq_getElem hlt) (by simpa using hx) r2
        · cases hf
    · rename_i b off len cap
      cases hb : Nat.blt b n0 with
      | true => rw [hb] at hf; simp only [cond_true] at hf; injection hf with hf; injection hf with h1 _; subst h1; exact hv.up hle
      | false =>
        rw [hb] at hf; simp only [cond_false] at hf
        split at hf
        · rename_i k hk
          cases hc : (k.ro || !Nat.ble (off + len * k.esz) k.cells.length : Bool) with
          | true => rw [hc] at hf; cases hf
          | false =>
            rw [hc] at hf; simp only [cond_false] at hf
            simp only [Bool.or_eq_false_iff, Bool.not_eq_false'] at hc
            have hle2 := Nat.le_of_ble_eq_true hc.2
            obtain ⟨r, hr, he⟩ := Option.map_eq_some_iff.1 hf
            injection he with h1 h2; subst h1 h2
            cases hv with
            | slice _ _ off' _ _ cap' m hm hl hcc ho hxx =>
              obtain ⟨m2, hm2, hB⟩ := h.blk b k hk
              rw [hm] at hm2; injection hm2 with hm2; subst hm2
              obtain ⟨cs, el, fz, g1, g2, g3, g4⟩ := hB.here
              obtain ⟨l1, l2, l3⟩ := lists hr (fun x hx => by simp [hx]) ((hB.ones.drop off).take _)
              rcases Nat.eq_zero_or_pos len with h0 | h0
              · subst h0; exact VR.empty _ _ _ _ _ _ (fun h => by cases h) (fun h => by cases h)
              · have hpos : off' = m.base + off := ho.resolve_left (by omega)
                subst hpos
                have hz : μ'.z m.blk = some (.cells cs el fz) := by rw [hL b k m (by simp) hk hm, g1]
                have hx := hB.ext
                have hl1 : r.1.length = len * k.esz := by rw [l1]; simp; omega
                refine VR.list _ _ _ _ _ m.blk _ _ cs el fz hz (by simp [hl1]; omega) (by omega) (by decide) (fun v hv => l2 v (by simpa using hv)) fun i x x' hx hx' => ?_
                have hi : i < r.1.length := (List.getElem?_eq_some_iff.1 (by simpa using hx)).1
                have hlt : i < ((k.cells.drop off).take (len * k.esz)).length := by omega
                have e1 : k.cells[off + i]? = some ((k.cells.drop off).take (len * k.esz))[i] := by
                  rw [← List.getElem?_drop]
                  have := List.getElem?_eq_getElem hlt
                  rw [List.getElem?_take, if_pos (by omega)] at this
                  exact this
                obtain ⟨x2, e2, r2⟩ := g4 _ _ e1
                rw [Nat.add_assoc] at hx'
                rw [hx'] at e2; injection e2 with e2; subst e2
                exact l3 i _ x x' (List.getElem?_eq_getElem hlt) (by simpa using hx) r2
        · cases hf
    · injection hf with hf; injection hf with h1 _; subst h1
      cases hv
      exact VR.empty _ _ _ _ _ _ (fun _ => ⟨rfl, by decide⟩) (fun h => by cases h)
    · injection hf with hf; injection hf with h1 _; subst h1
      cases hv with
      | bare a => exact VR.empty _ _ _ _ _ _ (fun _ => ⟨rfl, by decide⟩) (fun h => by cases h)
      | unsure a => exact VR.empty _ _ _ _ _ _ (fun _ => ⟨rfl, by decide⟩) (fun h => by cases h)
    · obtain ⟨r, hr, he⟩ := Option.map_eq_some_iff.1 hf
      injection he with h1 h2; subst h1 h2
      cases hv with
      | iface _ _ x' hx => exact .iface _ _ _ (ih (M := r.2) hr (fun b hb => hb) hx)
    · obtain ⟨r, hr, he⟩ := Option.map_eq_some_iff.1 hf
      injection he with h1 h2; subst h1 h2
      cases hv with
      | agg _ xs' h0 h1 h2 =>
        obtain ⟨l1, l2, l3⟩ := lists hr (fun b hb => hb) h0
        refine .agg _ _ (fun v hv => l2 v (by simpa using hv)) (by simp [l1, h1]) fun i x x' hx hx' => ?_
        have hi : i < r.1.length := (List.getElem?_eq_some_iff.1 (by simpa using hx)).1
        rename_i cs
        have hlt : i < cs.toList.length := by omega
        exact l3 i _ x x' (List.getElem?_eq_getElem hlt) (by simpa using hx) (h2 i _ x' (by rw [← Array.getElem?_toList]; exact List.getElem?_eq_getElem hlt) hx')
    · obtain ⟨r, hr, he⟩ := Option.map_eq_some_iff.1 hf
      injection he with h1 h2; subst h1 h2
      cases hv with
      | tuple _ xs' h1 h2 =>
        obtain ⟨l1, l3⟩ := lists2 hr (fun b hb => hb)
        refine .tuple _ _ (by simp [l1, h1]) fun i x x' hx hx' => ?_
        have hi : i < r.1.length := (List.getElem?_eq_some_iff.1 (by simpa using hx)).1
        rename_i cs
        have hlt : i < cs.toList.length := by omega
        exact l3 i _ x x' (List.getElem?_eq_getElem hlt) (by simpa using hx) (h2 i _ x' (by rw [← Array.getElem?_toList]; exact List.getElem?_eq_getElem hlt) hx')
    · injection hf with hf; injection hf with h1 _; subst h1
      exact hv.up hle

theorem blt_false {a b : Nat} (h : Nat.blt a b = false) : b ≤ a := by
  refine Nat.le_of_not_lt fun hl => ?_
  have := Nat.ble_eq_true_of_le (show a + 1 ≤ b from hl)
  unfold Nat.blt at h
  rw [this] at h; cases h

theorem mapF_own {n0 : Nat} {H : Heap} {f : Value → Option (Value × List Nat)} : ∀ {l r : List Value} {L : List Nat}, mapF f l = some (r, L) →
    (∀ v u M, f v = some (u, M) → ∀ b, b ∈ M → n0 ≤ b ∧ ∃ k, H.get b = some k ∧ k.ro = false) → ∀ b, b ∈ L → n0 ≤ b ∧ ∃ k, H.get b = some k ∧ k.ro = false
  | [], r, L, h, _, b, hb => by
    simp only [mapF] at h
    injection h with h; injection h with h1 h2; subst h2; simp at hb
  | v :: l, r, L, h, hf, b, hb => by
    simp only [mapF] at h
    split at h
    · rename_i a c ha hc
      injection h with h; injection h with h1 h2; subst h1 h2
      rcases List.mem_append.1 hb with hb | hb
      · exact hf v a.1 a.2 ha b hb
      · exact mapF_own (r := c.1) (L := c.2) hc hf b hb
    · cases h

/-- What is frozen is new, and one's own. -/
theorem fz_own {n0 : Nat} {H : Heap} : ∀ (d : Nat) (v u : Value) (L : List Nat), fzV n0 H d v = some (u, L) → ∀ b, b ∈ L → n0 ≤ b ∧ ∃ k, H.get b = some k ∧ k.ro = false
  | 0, v, u, L, h, _, _ => by simp [fzV] at h
  | d + 1, v, u, L, hf, x, hx => by
    have ih := fz_own (n0 := n0) (H := H) d
    unfold fzV at hf
    split at hf
    · rename_i b off
      cases hb : Nat.blt b n0 with
      | true => rw [hb] at hf; simp only [cond_true] at hf; injection hf with hf; injection hf with _ h1; subst h1; simp at hx
      | false =>
        rw [hb] at hf; simp only [cond_false] at hf
        split at hf
        · rename_i k hk
          cases hc : (k.ro || !Nat.ble off k.cells.length : Bool) with
          | true => rw [hc] at hf; cases hf
          | false =>
            rw [hc] at hf; simp only [cond_false] at hf
            simp only [Bool.or_eq_false_iff, Bool.not_eq_false'] at hc
            obtain ⟨r, hr, he⟩ := Option.map_eq_some_iff.1 hf
            injection he with h1 h2; subst h1 h2
            rcases List.mem_cons.1 hx with rfl | hx
            · exact ⟨blt_false hb, k, hk, hc.1⟩
            · exact mapF_own (r := r.1) (L := r.2) hr ih x hx
        · cases hf
    · rename_i b off len cap
      cases hb : Nat.blt b n0 with
      | true => rw [hb] at hf; simp only [cond_true] at hf; injection hf with hf; injection hf with _ h1; subst h1; simp at hx
      | false =>
        rw [hb] at hf; simp only [cond_false] at hf
        split at hf
        · rename_i k hk
          cases hc : (k.ro || !Nat.ble (off + len * k.esz) k.cells.length : Bool) with
          | true => rw [hc] at hf; cases hf
          | false =>
            rw [hc] at hf; simp only [cond_false] at hf
            simp only [Bool.or_eq_false_iff, Bool.not_eq_false'] at hc
            obtain ⟨r, hr, he⟩ := Option.map_eq_some_iff.1 hf
            injection he with h1 h2; subst h1 h2
            rcases List.mem_cons.1 hx with rfl | hx
            · exact ⟨blt_false hb, k, hk, hc.1⟩
            · exact mapF_own (r := r.1) (L := r.2) hr ih x hx
        · cases hf
    · injection hf with hf; injection hf with _ h1; subst h1; simp at hx
    · injection hf with hf; injection hf with _ h1; subst h1; simp at hx
    · obtain ⟨r, hr, he⟩ := Option.map_eq_some_iff.1 hf
      injection he with h1 h2; subst h1 h2
      exact ih _ r.1 r.2 hr x hx
    · obtain ⟨r, hr, he⟩ := Option.map_eq_some_iff.1 hf
      injection he with h1 h2; subst h1 h2
      exact mapF_own (r := r.1) (L := r.2) hr ih x hx
    · obtain ⟨r, hr, he⟩ := Option.map_eq_some_iff.1 hf
      injection he with h1 h2; subst h1 h2
      exact mapF_own (r := r.1) (L := r.2) hr ih x hx
    · injection hf with hf; injection hf with _ h1; subst h1; simp at hx

/-! ### behind a call -/

inductive Mode where
  | no
  | gc
  | fz

def fzDepth : Nat := 8

/-- What is answered, and the heap, once what is new and answered is frozen. -/
def frozen (md : Mode) (H : Heap) (v : Value) (H' : Heap) : Value × Heap :=
  match md with
  | .fz => match fzV H.n H' fzDepth v with
    | some (u, L) => (u, killAll H' L)
    | none => (v, H')
  | _ => (v, H')

open Classical in
/-- Behind a call: new memory that nobody sees is forgotten. -/
noncomputable def nrm (md : Mode) (H : Heap) (r : Res Value) : Res Value :=
  match r with
  | .ok v H' =>
    match md with
    | .no => .ok v H'
    | md => if Keeps [] H (frozen md H v H').2 ∧ Alive H (frozen md H v H').1 then .ok (frozen md H v H').1 H else .ok (frozen md H v H').1 (frozen md H v H').2
  | .panic v H' => if Keeps [] H H' ∧ Alive H v then .panic v H else .panic v H'
  | .stuck => .stuck

theorem frozen_sim {w0 : Base} {μ : Mu} {H H' : Heap} {w : World} (md : Mode) (h' : HR w0 μ H' w) {v v' : Value} (hv : VR μ v v') :
    ∃ μ' : Mu, μ.le μ' ∧ HR w0 μ' (frozen md H v H').2 w ∧ VR μ' (frozen md H v H').1 v' := by
  unfold frozen
  split
  · split
    · rename_i u L hf
      obtain ⟨μ', k1, k2, k3, k4⟩ := h'.freezeL L fun b hb k hk => by
        obtain ⟨_, k2, h1, h2⟩ := fz_own _ _ _ _ hf b hb
        rw [hk] at h1; injection h1 with h1; subst h1; exact h2
      exact ⟨μ', k1, k2, fz_sim h' k1 _ hf (fun b k m hb hk hm => k4 b k m hb hk hm) hv⟩
    · exact ⟨μ, Mu.le_refl _, h', hv⟩
  · exact ⟨μ, Mu.le_refl _, h', hv⟩

theorem nrm_sim {w0 : Base} {μ : Mu} {H : Heap} {w w' : World} (md : Mode) (h : HR w0 μ H w) {r : Res Value} {e : Ending} (he : Ended w0 μ r e w') : Ended w0 μ (nrm md H r) e w' := by
  unfold Ended at he
  unfold nrm
  split at he
  · rename_i v H'
    obtain ⟨μ', v', h1, h2, h3, rfl⟩ := he
    dsimp only
    split
    · exact ⟨μ', v', h1, h2, h3, rfl⟩
    · obtain ⟨μ2, k1, k2, k3⟩ := frozen_sim (H := H) md h2 h3
      split
      · rename_i hc
        obtain ⟨j1, j2, j3⟩ := ended_cut h k2 (Mu.le_trans h1 k1) k3 hc.1 hc.2
        exact ⟨_, v', j1, j2, j3, rfl⟩
      · exact ⟨μ2, v', Mu.le_trans h1 k1, k2, k3, rfl⟩
  · rename_i v H'
    obtain ⟨μ', v', h1, h2, h3, rfl⟩ := he
    dsimp only
    split
    · rename_i hc
      obtain ⟨j1, j2, j3⟩ := ended_cut h h2 h1 h3 hc.1 hc.2
      exact ⟨_, v', j1, j2, j3, rfl⟩
    · exact ⟨μ', v', h1, h2, h3, rfl⟩
  · exact he.elim
theorem nrm_stuck {md : Mode} {H : Heap} {r : Res Value} (h : nrm md H r ≠ .stuck) : r ≠ .stuck := by
  intro e; subst e; exact h rfl
end Go.Sw
