/-
  Each operation of the evaluator is what the model's operation does: reading, writing, new memory.
-/
import Derived.Test.YtnaodjnimkndbaaSwR
import Derived.Laws.CopyRow
import Derived.Laws.CopyOwn
import Derived.Laws.MakeOwn
import Derived.Laws.StructEq
import Derived.Laws.Tables
import Derived.Laws.Slices
namespace Go.Sw
open Go.RowKit

theorem HR.other {w0 : Base} {μ : Mu} {H : Heap} {w : World} (h : HR w0 μ H w) {b b' : Nat} {k k' : Blk} {m m' : MB} (hk : H.get b = some k) (hk' : H.get b' = some k') (hm : μ b = some m) (hm' : μ b' = some m')
    (ho : k.ro = false) (hne : b' ≠ b) : m'.blk ≠ m.blk := by
  obtain ⟨m1, e1, b1⟩ := h.blk b k hk
  rw [hm] at e1; injection e1 with e1; subst e1
  obtain ⟨m2, e2, b2⟩ := h.blk b' k' hk'
  rw [hm'] at e2; injection e2 with e2; subst e2
  intro he
  cases hr : k'.ro with
  | true =>
    have l1 := b1.own ho
    have l2 := h.below.sub _ (b2.low hr)
    rw [he] at l2
    exact l1 l2
  | false => exact hne (h.inj b' b k' k _ _ hk' hk hr ho hm' hm he)

/-- A block of one's own is written anew. -/
theorem HR.rewrite {w0 : Base} {μ : Mu} {H : Heap} {w : World} (h : HR w0 μ H w) {b : Nat} {k : Blk} {m : MB} (hk : H.get b = some k) (hm : μ b = some m) (ho : k.ro = false)
    {cs : Array Value} {el : TypeId} {fz : Nat × Nat} (hw : w.heap[m.blk]? = some (.cells cs el fz)) (cs2 : Array Value) (cells2 : List Value) (hs : cs2.size = cs.size) (hl : cells2.length = k.cells.length) (h1 : Ones cells2)
    (hv : ∀ (i : Nat) v, cells2[i]? = some v → ∃ v', cs2[m.base + i]? = some v' ∧ VR μ v v') :
    HR w0 μ (H.set b (some { k with cells := cells2 })) (w.setRow m.blk cs2) := by
  obtain ⟨m1, e1, b1⟩ := h.blk b k hk
  rw [hm] at e1; injection e1 with e1; subst e1
  obtain ⟨cs', el', fz', g1, g2, g3, g4⟩ := b1.here
  rw [hw] at g1; injection g1 with g1; injection g1 with g1 g1' g1''; subst g1 g1' g1''
  have hB := b1.own ho
  constructor
  · intro c x hc; rw [Heap.n_set]; exact h.dom c x hc
  · intro c x hc
    rw [Heap.get_set hk] at hc
    split at hc
    · rename_i hcb
      injection hc with hc
      subst hc hcb
      refine ⟨m, hm, b1.esz, b1.ro, ⟨cs2, el, fz, setRow_heap w m.blk cs cs2 el fz hw, g2, by rw [hs]; exact g3, hv⟩, h1, ?_, b1.own, b1.low⟩
      show cells2.length ≤ m.ext
      rw [hl]; exact b1.ext
    · rename_i hcb
      obtain ⟨m', hm', hb'⟩ := h.blk c x hc
      exact ⟨m', hm', hb'.keep (Mu.le_refl _) (setRow_other w m.blk m'.blk cs2 (h.other hk hc hm hm' ho hcb))⟩
  · intro c c' x x' mm mm' hc hc' r r' hmm hmm' he
    rw [Heap.get_set hk] at hc hc'
    split at hc <;> split at hc'
    · omega
    · rename_i p q
      subst p
      rw [hm] at hmm; injection hmm with hmm; subst hmm
      exact absurd he.symm (h.other hk hc' hm hmm' ho q)
    · rename_i p q
      subst q
      rw [hm] at hmm'; injection hmm' with hmm'; subst hmm'
      exact absurd he (h.other hk hc hm hmm ho p)
    · exact h.inj c c' x x' mm mm' hc hc' r r' hmm hmm' he
  · exact h.below.step rfl rfl rfl (by simp) fun i hi => setRow_other w m.blk i cs2 (fun q => hB (q ▸ hi))
  · refine h.zr.step rfl (fun i o hi => setRow_other w m.blk i cs2 fun q => h.zr.apart i o b k m hi hk ho hm q.symm) fun c x mm hx hr hmm => ?_
    rw [Heap.get_set hk] at hx
    split at hx
    · rename_i hcb
      subst hcb
      exact .inl ⟨c, k, hk, ho, mm, hmm, rfl⟩
    · exact .inl ⟨c, x, hx, hr, mm, hmm, rfl⟩

theorem splice_length (l : List Value) (off : Nat) (vs : List Value) (h : off + vs.length ≤ l.length) : (splice l off vs).length = l.length := by
  simp [splice]; omega

theorem splice_get (l : List Value) (off : Nat) (vs : List Value) (h : off + vs.length ≤ l.length) (i : Nat) :
    (splice l off vs)[i]? = if i < off then l[i]? else if i < off + vs.length then vs[i - off]? else l[i]? := by
  unfold splice
  by_cases h1 : i < off
  · rw [if_pos h1, List.getElem?_append_left (by simp; omega), List.getElem?_take, if_pos h1]
  · rw [if_neg h1, List.getElem?_append_right (by simp; omega)]
    have ht : (l.take off).length = off := by simp; omega
    rw [ht]
    by_cases h2 : i < off + vs.length
    · rw [if_pos h2, List.getElem?_append_left (by omega)]
    · rw [if_neg h2, List.getElem?_append_right (by omega), List.getElem?_drop]
      congr 1
      omega

theorem splice_ones {l vs : List Value} (h : Ones l) (hv : Ones vs) (off : Nat) : Ones (splice l off vs) := (h.take _).append (hv.append (h.drop _))

section
variable {P : Program}

/-- Cells are written. -/
theorem putCells_sim {w0 : Base} {μ : Mu} {H H' : Heap} {w : World} (h : HR w0 μ H w) {b off off' : Nat} {m : MB} (hm : μ b = some m) {vs vs' : List Value} (hr : VRs μ vs vs') (h1 : Ones vs) (hp : putCells H b off vs = .ok () H')
    (hoff : vs = [] ∨ off' = m.base + off) :
    ∃ w', (storeCells ⟨m.blk, off', none⟩ vs').run P w = .ok () w' ∧ HR w0 μ H' w' := by
  unfold putCells at hp
  cases hk : H.get b with
  | none => simp [hk] at hp
  | some k =>
    simp only [hk] at hp
    split at hp
    · rename_i hc
      injection hp with _ hp
      subst hp
      simp only [Bool.and_eq_true] at hc
      have hle := Nat.le_of_ble_eq_true hc.1
      have hro : k.ro = false := by simpa using hc.2
      obtain ⟨m1, e1, b1⟩ := h.blk b k hk
      rw [hm] at e1; injection e1 with e1; subst e1
      obtain ⟨cs, el, fz, g1, g2, g3, g4⟩ := b1.here
      have hfz := g2 hro
      subst hfz
      have hx := b1.ext
      have hlen := hr.1
      have hkl : (splice k.cells off vs).length = k.cells.length := splice_length _ _ _ hle
      have ho1 : Ones (splice k.cells off vs) := splice_ones b1.ones h1 off
      by_cases hnil : vs = []
      · subst hnil
        have hnil' := hr.nil_inv
        subst hnil'
        refine ⟨w, rfl, ?_⟩
        have := h.rewrite hk hm hro g1 cs (splice k.cells off []) rfl hkl ho1 (fun i v hi => by
          rw [splice_get _ _ _ hle] at hi
          refine g4 i v ?_
          split at hi
          · exact hi
          · split at hi
            · simp at hi
            · exact hi)
        rwa [setRow_self w m.blk cs el (0, 0) g1] at this
      · have hoff := hoff.resolve_left hnil
        subst hoff
        have hst := run_storeCells_at P m.blk (m.base + off) el vs' 0 cs w g1 (by omega) (hr.ones h1)
        refine ⟨_, hst, ?_⟩
        refine h.rewrite hk hm hro g1 _ _ (by simp; omega) hkl ho1 (fun i v hi => ?_)
        rw [splice_get _ _ _ hle] at hi
        have hsp : (cs.toList.take (m.base + off + 0) ++ vs' ++ cs.toList.drop (m.base + off + 0 + vs'.length)) = splice cs.toList (m.base + off) vs' := by simp [splice]
        rw [hsp]
        have hg := splice_get cs.toList (m.base + off) vs' (by simp; omega) (m.base + i)
        simp only [List.getElem?_toArray]
        rw [hg]
        split at hi
        · rename_i c1
          rw [if_pos (by omega)]
          obtain ⟨v', e, r⟩ := g4 i v hi
          exact ⟨v', by simpa using e, r⟩
        · rename_i c1
          rw [if_neg (by omega)]
          split at hi
          · rename_i c2
            rw [if_pos (by omega), show m.base + i - (m.base + off) = i - off by omega]
            exact hr.get hi
          · rename_i c2
            rw [if_neg (by omega)]
            obtain ⟨v', e, r⟩ := g4 i v hi
            exact ⟨v', by simpa using e, r⟩
    · cases hp

theorem run_isAgg {t : TypeId} {b : Bool} (h : isAggT P t = some b) (w : World) : (isAgg t).run P w = .ok b w := by
  unfold isAggT at h
  cases hu : P.underlying t with
  | none => simp [hu] at h
  | some d =>
    simp only [hu, Option.map_some, Option.some.injEq] at h
    simp only [isAgg, Sem.run_bind, run_underlying hu, Result.andThen_ok]
    cases d <;> simp_all

theorem run_sizeT {t : TypeId} {n : Nat} (h : sizeT P t = some n) (w : World) : (sizeOf t).run P w = .ok n w := by
  unfold sizeT at h
  cases hi : P.info? t with
  | none => simp [hi] at h
  | some i =>
    simp [hi] at h
    simp [sizeOf, typeInfo, hi, h]

theorem zeroT_some {t : TypeId} {z : Value} (h : zeroT P t = some z) : (∃ i, P.info? t = some i ∧ i.zero = some z) ∧ plain z = true ∧ storable z = true := by
  unfold zeroT at h
  cases hi : P.info? t with
  | none => simp [hi] at h
  | some i =>
    cases hz : i.zero with
    | none => simp [hi, hz] at h
    | some v =>
      simp [hi, hz] at h
      obtain ⟨h1, h2⟩ := h
      subst h2
      exact ⟨⟨i, rfl, hz⟩, h1.1, h1.2⟩

theorem run_zeroT {t : TypeId} {z : Value} (h : zeroT P t = some z) (w : World) : (zeroValue t).run P w = .ok z w := by
  obtain ⟨⟨i, hi, hz⟩, _⟩ := zeroT_some h
  simp [zeroValue, typeInfo, hi, hz]

theorem sizeT_info {t : TypeId} {n : Nat} {i : TypeInfo} (h : sizeT P t = some n) (hi : P.info? t = some i) : i.size = n := by
  unfold sizeT at h; simp [hi] at h; exact h

theorem frozen_sub {μ : Mu} {cells cs : Array Value} {off : Nat} (h2 : ∀ (i : Nat) (v v' : Value), cells[i]? = some v → cs[off + i]? = some v' → VR μ v v') (a b : Nat) :
    ∀ (i : Nat) (v v' : Value), (cells.extract a b)[i]? = some v → cs[off + a + i]? = some v' → VR μ v v' := by
  intro i v v' hv hv'
  rw [Array.getElem?_extract] at hv
  split at hv
  · exact h2 (a + i) v v' hv (by rw [← Nat.add_assoc]; exact hv')
  · cases hv
theorem frozen_ones {cells : Array Value} (h0 : ∀ v, v ∈ cells.toList → v.oneCell' = true) (a b : Nat) : ∀ v, v ∈ (cells.extract a b).toList → v.oneCell' = true := by
  intro v hv
  rw [Array.toList_extract] at hv
  exact h0 v (List.mem_of_mem_drop (List.mem_of_mem_take hv))
theorem extract_size (cells : Array Value) (a b : Nat) (h : b ≤ cells.size) : (cells.extract a b).size = b - a := by
  rw [Array.size_extract, Nat.min_eq_left h]

/-- Frozen cells in a row are read. -/
theorem frozen_cells {μ : Mu} {w : World} {cells cs : Array Value} {blk off n : Nat} {el : TypeId} {fz : Nat × Nat} (hat : w.heap[blk]? = some (.cells cs el fz)) (hl : off + cells.size ≤ cs.size) (h0 : ∀ v, v ∈ cells.toList → v.oneCell' = true)
    (h2 : ∀ (i : Nat) (v v' : Value), cells[i]? = some v → cs[off + i]? = some v' → VR μ v v') (hn : n ≤ cells.size) :
    ∃ vs', vs'.length = n ∧ (∀ j v, vs'[j]? = some v → w.cell? ((⟨blk, off, none⟩ : Addr).add j) = some v) ∧ VRs μ (cells.extract 0 n).toList vs' ∧ Ones (cells.extract 0 n).toList := by
  have hlen : ((cs.toList.drop off).take n).length = n := by simp; omega
  refine ⟨(cs.toList.drop off).take n, hlen, fun j v hj => ?_, ⟨?_, fun j v v' hj hj' => ?_⟩, frozen_ones h0 0 n⟩
  · rw [List.getElem?_take] at hj
    split at hj
    · rw [List.getElem?_drop] at hj
      rw [add_at]
      simp only [World.cell?, hat]
      simpa using hj
    · cases hj
  · rw [hlen]
    have := extract_size cells 0 n hn
    rw [Array.length_toList, this]; omega
  · rw [List.getElem?_take] at hj'
    split at hj'
    · rw [List.getElem?_drop] at hj'
      rw [Array.getElem?_toList, Array.getElem?_extract] at hj
      split at hj
      · rw [Nat.zero_add] at hj
        exact h2 j v v' hj (by simpa using hj')
      · cases hj
    · cases hj'

/-- A variable is read. -/
theorem load_sim {w0 : Base} {μ : Mu} {H : Heap} {w : World} (h : HR w0 μ H w) {t : TypeId} {a a' v : Value} (ha : VR μ a a') (hv : loadV P t a H = some v) :
    ∃ v', (Instr.loadAt t a').run P w = .ok v' w ∧ VR μ v v' := by
  unfold loadV at hv
  split at hv
  · rename_i b off
    cases ha with
    | ptr _ _ m hm =>
      split at hv
      · rename_i n ht hn
        cases hc : cellsAt H b off n with
        | none => simp [hc] at hv
        | some cs =>
          simp [hc] at hv
          subst hv
          obtain ⟨vs', hl, hcell, hr, ho⟩ := h.cells hm hc
          have hrun := run_loadCells_list (P := P) w ⟨m.blk, m.base + off, none⟩ vs' hcell
          refine ⟨.agg vs'.toArray, ?_, VR.agg' hr ho⟩
          rw [hl] at hrun
          simp [Instr.loadAt, Instr.sureAddr, loadVar, run_isAgg ht, run_sizeT hn, hrun]
      · rename_i ht
        cases hk : H.get b with
        | none => simp [hk] at hv
        | some k =>
          simp [hk] at hv
          obtain ⟨v', hc, hr, _⟩ := h.cell hk hm hv
          refine ⟨v', ?_, hr⟩
          simp [Instr.loadAt, Instr.sureAddr, loadVar, run_isAgg ht, hc]
      · cases hv
  · rename_i cs _
    cases ha with
    | box _ _ _ _ _ blk off cs2 el fz hz hl h0 h2 =>
      have hat := h.zr.at_ _ _ hz
      split at hv
      · rename_i n ht hn
        split at hv
        · rename_i hle
          injection hv with hv
          subst hv
          obtain ⟨vs', hlen, hcell, hr, ho⟩ := frozen_cells hat hl h0 h2 hle
          have hrun := run_loadCells_list (P := P) w ⟨blk, off, none⟩ vs' hcell
          refine ⟨.agg vs'.toArray, ?_, ?_⟩
          · rw [hlen] at hrun
            simp [Instr.loadAt, Instr.sureAddr, loadVar, run_isAgg ht, run_sizeT hn, hrun]
          · have := VR.agg' hr ho
            rwa [Array.toArray_toList] at this
        · cases hv
      · rename_i ht
        have hlt : 0 < cs.size := by
          rcases Nat.eq_zero_or_pos cs.size with h1 | h1
          · rw [Array.getElem?_eq_none (by omega)] at hv; cases hv
          · exact h1
        have hc : cs2[off]? = some cs2[off] := Array.getElem?_eq_getElem (by omega)
        refine ⟨cs2[off], ?_, h2 0 v _ hv (by rw [Nat.add_zero]; exact hc)⟩
        simp [Instr.loadAt, Instr.sureAddr, loadVar, run_isAgg ht, World.cell?, hat, hc]
      · cases hv
  · cases hv

/-- A variable is written. -/
theorem store_sim {w0 : Base} {μ : Mu} {H H' : Heap} {w : World} (h : HR w0 μ H w) {t : TypeId} {a a' v v' : Value} (ha : VR μ a a') (hv : VR μ v v') (hst : storeV P t a v H = .ok () H') :
    ∃ w', (Instr.storeAt t a' v').run P w = .ok () w' ∧ HR w0 μ H' w' := by
  unfold storeV at hst
  split at hst
  · rename_i b off
    cases ha with
    | ptr _ _ m hm =>
      split at hst
      · rename_i n hn
        split at hst
        · rename_i hsz
          simp only [Bool.and_eq_true] at hsz
          have hs := hsz.2
          have hsz : v.cells.size = n := by simpa using hsz.1
          have hc := hv.cells
          have hsz' : v'.cells.size = n := by have := hc.1; simp at this; omega
          obtain ⟨w', hrun, hr⟩ := putCells_sim (P := P) h hm hc (hv.cells_ones hs) hst (.inr rfl)
          refine ⟨w', ?_, hr⟩
          simp [Instr.storeAt, Instr.sureAddr, storeVar, run_sizeT hn, hsz', hrun]
        · cases hst
      · cases hst
  · cases hst

/-- New memory. -/
theorem newVar_sim {w0 : Base} {μ : Mu} {H : Heap} {w : World} (h : HR w0 μ H w) (t : TypeId) {v v' : Value} (hv : VR μ v v') (hs : storable v = true) :
    ∃ μ' w', (newVar t v').run P w = .ok ⟨w.heap.size, 0, none⟩ w' ∧ μ.le μ' ∧ HR w0 μ' (H.push ⟨v.cells.toList, 1, false⟩) w' ∧ VR μ' (.pointer (some ⟨H.n, 0, none⟩)) (.pointer (some ⟨w.heap.size, 0, none⟩)) := by
  have hc := hv.cells
  refine ⟨μ.set H.n ⟨w.heap.size, 0, v'.cells.size, 1, false⟩, w.alloc (.cells v'.cells t), ?_, Mu.le_set h.dom _, ?_, ?_⟩
  · simp [newVar, newRow]
  · refine h.alloc v.cells.toList v'.cells t 1 v'.cells.size (Nat.le_refl _) (by have := hc.1; simp at this ⊢; omega) (hv.cells_ones hs) (fun i u hu => ?_)
    obtain ⟨u', e, r⟩ := hc.get hu
    exact ⟨u', by simpa using e, r⟩
  · exact VR.ptr H.n 0 ⟨w.heap.size, 0, v'.cells.size, 1, false⟩ (by simp [Mu.set])

theorem VR.zero {t : TypeId} {z : Value} (h : zeroT P t = some z) (μ : Mu) : VR μ z z := VR.of_plain (zeroT_some h).2.1

/-- Where a slice's first cells lie. -/
theorem firstV_sim {w0 : Base} {μ : Mu} {H : Heap} {w : World} (h : HR w0 μ H w) {size n : Nat} {x x' : Value} {cs : List Value} (hx : VR μ x x') (hv : firstV size n x H = some cs) (hn : ∀ l, lenV x = some l → n ≤ l) :
    ∃ cs', (Builtin.firstCells size n x').run P w = .ok cs'.toArray w ∧ VRs μ cs cs' ∧ Ones cs := by
  unfold firstV at hv
  split at hv
  · rename_i b off len cap
    cases hx with
    | slice _ _ off' _ _ cap' m hm hl hc ho hx =>
      split at hv
      · rename_i h0
        injection hv with hv
        subst hv
        refine ⟨[], ?_, VRs.nil, Ones.nil⟩
        simp only [Builtin.firstCells, h0]
        simp [loadCells, loadCellsFrom]
      · rename_i h0
        obtain ⟨vs', hlen, hcell, hr, h1⟩ := h.cells hm hv
        have hnl := hn len rfl
        have hpos : 0 < n := by rcases Nat.eq_zero_or_pos n with h | h; · subst h; simp at h0
                                · exact h
        have ho : off' = m.base + off := ho.resolve_left (by omega)
        subst ho
        exact ⟨vs', run_firstCells_some w size n _ len cap' vs' hlen hcell, hr, h1⟩
  · injection hv with hv
    subst hv
    cases hx
    exact ⟨[], run_firstCells_none w size n _ _, VRs.nil, Ones.nil⟩
  · split at hv
    rotate_left
    · cases hv
    rename_i hn0
    subst hn0
    injection hv with hv
    subst hv
    refine ⟨[], ?_, VRs.nil, Ones.nil⟩
    cases hx with
    | bare a => simp [Builtin.firstCells, loadCells, loadCellsFrom]
    | unsure a => cases a <;> simp [Builtin.firstCells, loadCells, loadCellsFrom]
  · rename_i len _ _ cs _
    split at hv
    rotate_left
    · cases hv
    rename_i hle
    injection hv with hv
    subst hv
    cases hx with
    | list _ _ _ _ _ blk off cap cs2 el fz hz hl hc hg h0 h2 =>
      obtain ⟨vs', hlen, hcell, hr, ho⟩ := frozen_cells (h.zr.at_ _ _ hz) hl h0 h2 hle
      exact ⟨vs', run_firstCells_some w size n _ len cap vs' hlen hcell, hr, ho⟩
    | empty _ _ _ _ a cap hn1 hs =>
      have := hn 0 rfl
      have hn0 : n = 0 := by omega
      subst hn0
      refine ⟨[], ?_, ?_, ?_⟩
      · cases a <;> simp [Builtin.firstCells, loadCells, loadCellsFrom]
      · simp; exact VRs.nil
      · simp; exact Ones.nil
  · rename_i s
    split at hv
    rotate_left
    · cases hv
    injection hv with hv
    subst hv
    cases hx
    refine ⟨(s.extract 0 n).data.toList.map fun b => .int .u8 b.toNat, ?_, ?_, ?_⟩
    · simp only [Builtin.firstCells, Sem.run_pure]
      congr 1
      apply Array.ext'
      simp only [Array.toList_map]
    · refine ⟨rfl, fun i v v' hv hv' => ?_⟩
      rw [hv] at hv'; injection hv' with hv'; subst hv'
      obtain ⟨c, _, rfl⟩ := List.mem_map.1 (List.mem_of_getElem? hv)
      exact .int _ _
    · intro v hv
      obtain ⟨c, _, rfl⟩ := List.mem_map.1 hv
      rfl
  · cases hv

theorem firstV_len {H : Heap} {size n : Nat} {x : Value} {cs : List Value} (hv : firstV size n x H = some cs) (hn : ∀ l, lenV x = some l → n ≤ l) (h0 : ∀ a l c, x = .slice a l c → a = none → l = 0) : cs.length = n * size := by
  unfold firstV at hv
  split at hv
  · rename_i b off len cap
    split at hv
    · rename_i h
      injection hv with hv; subst hv; simp; omega
    · unfold cellsAt at hv
      cases hk : H.get b with
      | none => simp [hk] at hv
      | some k =>
        simp only [hk, Option.bind_some] at hv
        split at hv
        · rename_i hle
          have hle := Nat.le_of_ble_eq_true hle
          injection hv with hv; subst hv; simp; omega
        · cases hv
  · rename_i l c
    have := hn l rfl
    have := h0 none l c rfl rfl
    injection hv with hv; subst hv
    have : n = 0 := by omega
    subst this; simp
  · split at hv
    · rename_i h; subst h; injection hv with hv; subst hv; simp
    · cases hv
  · rename_i cs _
    split at hv
    · rename_i hle
      injection hv with hv; subst hv
      rw [Array.length_toList, extract_size _ _ _ hle]; omega
    · cases hv
  · rename_i s
    have hns := hn s.size rfl
    split at hv
    · rename_i h1
      have h1 : size = 1 := by simpa using h1
      subst h1
      injection hv with hv; subst hv
      have : s.data.size = s.size := rfl
      simp; omega
    · cases hv
  · cases hv

theorem lenV_sim {μ : Mu} {x x' : Value} {n : Nat} (hx : VR μ x x') (h : lenV x = some n) (w : World) : (Builtin.lenOf x').run P w = .ok n w := by
  unfold lenV at h
  split at h
  · injection h with h; subst h
    cases hx <;> simp [Builtin.lenOf]
  · injection h with h; subst h
    cases hx <;> simp [Builtin.lenOf]
  · injection h with h; subst h
    cases hx; simp [Builtin.lenOf]
  · cases h
end
end Go.Sw
