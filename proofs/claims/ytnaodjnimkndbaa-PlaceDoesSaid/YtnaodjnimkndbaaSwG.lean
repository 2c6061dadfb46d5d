/-
  New memory, made at whatever time: what it is, in both.
-/
import Derived.Test.YtnaodjnimkndbaaSwE
namespace Go.Sw
open Go.RowKit

/-- A pointer to a block, or a slice of all of it. -/
def formV (f : Option Nat) (b : Nat) : Value :=
  match f with
  | none => .pointer (some ⟨b, 0, none⟩)
  | some n => .slice (some ⟨b, 0, none⟩) n n

section
variable {c : Cfg} {call : Caller} {nt : Nat}

theorem isMk_loud {o : Oper} (h : isMk o = true) : isLoud o.op = true ∧ o.guard = none := by
  unfold isMk at h
  simp only [Bool.and_eq_true] at h
  refine ⟨?_, by simpa using h.1⟩
  have h2 := h.2
  split at h2 <;> simp_all [isLoud]

theorem isMk_read {o : Oper} (h : isMk o = true) : isRead o.op = false := by
  unfold isMk at h
  simp only [Bool.and_eq_true] at h
  have h2 := h.2
  split at h2 <;> simp_all [isRead]

theorem mk_step {e : Env} {H H1 : Heap} {o : Oper} {v : Value} (hm : isMk o = true) (h : stepOp c call e H o.op = .ok v H1) :
    ∃ f cells esz, v = formV f H.n ∧ H1 = H.push ⟨cells, esz, false⟩ ∧ (∀ n, f = some n → True) ∧
      ∀ μ (a : Act) (w : World), ER μ nt e a.tmps → ∃ cs el, (execOp a.eval o).run c.P w = .ok (.value (formV f w.heap.size)) (w.alloc (.cells cs el)) ∧ VRs μ cells cs.toList ∧ Ones cells := by
  have hop := (Bool.and_eq_true _ _ ▸ (show (o.guard.isNone && (match o.op with
    | .alloc _ | .box _ _ => true
    | .buildSlice _ n _ => !(Nat.beq n 0)
    | _ => false)) = true from hm) : _ ∧ _).2
  generalize hog : o.op = op at h hop
  split at hop
  · rename_i t
    simp only [stepOp, allocR] at h
    split at h
    · rename_i z hz
      simp only [newBlk, Res.bind, Res.ok.injEq] at h
      obtain ⟨rfl, rfl⟩ := h
      refine ⟨none, z.cells.toList, 1, rfl, rfl, fun _ _ => trivial, fun μ a w hE => ⟨z.cells, t, ?_, (VR.zero hz μ).cells, (VR.zero hz μ).cells_ones (zeroT_some hz).2.2⟩⟩
      simp [execOp, hog, Instr.alloc, run_zeroT hz, newVar, newRow, formV]
    · cases h
  · rename_i t x
    simp only [stepOp, boxR] at h
    cases hx : opnd e x with
    | none => rw [hx] at h; cases h
    | some u =>
      rw [hx] at h
      simp only [opt, Res.bind] at h
      cases hs : storable u with
      | false => rw [hs] at h; cases h
      | true =>
        rw [hs] at h
        simp only [cond_true, newBlk, Res.ok.injEq] at h
        obtain ⟨rfl, rfl⟩ := h
        refine ⟨none, u.cells.toList, 1, rfl, rfl, fun _ _ => trivial, fun μ a w hE => ⟨(a.eval x).cells, t, ?_, (opnd_sim hE hx).cells, (opnd_sim hE hx).cells_ones hs⟩⟩
        simp [execOp, hog, Instr.box, newVar, newRow, formV]
  · rename_i t len ps
    simp only [stepOp, buildSliceR] at h
    cases hx0 : opndsP e ps.toList with
    | none => rw [hx0] at h; cases h
    | some us =>
    rw [hx0] at h
    simp only [opt, Res.bind] at h
    cases hx : partsV us with
    | none => rw [hx] at h; cases h
    | some vs =>
      rw [hx] at h
      simp only at h
      unfold buildSliceV at h
      split at h
      rotate_left
      · cases h
      rename_i el hu
      split at h
      rotate_left
      · cases h
      rename_i n z hn hz
      split at h
      rotate_left
      · cases h
      rename_i hb
      split at h
      rotate_left
      · cases h
      rename_i cs hcs
      have hn0 : Nat.beq len 0 = false := by simpa using hop
      rw [hn0] at h
      simp only [cond_false, Res.ok.injEq] at h
      obtain ⟨rfl, rfl⟩ := h
      refine ⟨some len, cs.toList, n, rfl, rfl, fun _ _ => trivial, fun μ a w hE => ?_⟩
      obtain ⟨h1, h2⟩ := parts_sim hE hx0 hx
      have harr : (ps.map fun (i, x) => (i, a.eval x)) = (ps.toList.map fun (i, x) => (i, a.eval x)).toArray := by apply Array.ext'; simp
      obtain ⟨cs', hrun, hr, ho⟩ := buildSlice_cells (P := c.P) (μ := μ) h1 h2 hu hn hz hb hcs w
      refine ⟨cs', el, ?_, hr, ho⟩
      simp only [execOp, hog, Sem.run_bind]
      rw [harr, hrun]
      rfl
  · cases hop
where
  buildSlice_cells {P : Program} {μ : Mu} {t e : TypeId} {len n : Nat} {ps ps' : List (Nat × Value)} {z : List Value} {cs : Array Value} (hl : ps.length = ps'.length) (hp : ∀ (i : Nat) a a', ps[i]? = some a → ps'[i]? = some a' → a.1 = a'.1 ∧ VR μ a.2 a'.2 ∧ storable a.2 = true)
      (hu : P.underlying t = some (.slice e)) (hn : sizeT P e = some n) (hz : zeros P e len = some z) (hb : Nat.ble (len * n) (2 ^ 24) = true) (hcs : Instr.fill (fun i => some (i * n, n)) z.toArray ps = some cs) (w : World) :
      ∃ cs', (Instr.buildSlice t len ps'.toArray).run P w = .ok (.slice (some ⟨w.heap.size, 0, none⟩) len len) (w.alloc (.cells cs' e)) ∧ VRs μ cs.toList cs'.toList ∧ Ones cs.toList := by
    have hb := Nat.le_of_ble_eq_true hb
    obtain ⟨hzr, hzo⟩ := zeros_rel hz μ
    obtain ⟨cs', hcs', hr, ho⟩ := fill_sim (fun i => some (i * n, n)) ps ps' z.toArray z.toArray cs hl hp (by simpa using hzr) (by simpa using hzo) hcs
    obtain ⟨zv, s, hz1, hz2, hz3, rfl⟩ := zeros_some hz
    rw [hn] at hz2; injection hz2 with hz2; subst hz2
    refine ⟨cs', ?_, hr, ho⟩
    have hno : ¬ (2 ^ 24 < len * n) := by omega
    have harr : ((Array.range (len * n)).map fun i => (if len * n = 0 then (#[] : Array Value) else zv.cells)[i % (if len * n = 0 then (#[] : Array Value) else zv.cells).size]!) = (repeatCells zv.cells.toList len).toArray := by
      by_cases h0 : len * n = 0
      · rw [h0]
        apply Array.ext'
        have : repeatCells zv.cells.toList len = [] := List.length_eq_zero_iff.1 (by rw [repeat_length]; simp [hz3, h0])
        simp [this]
      · rw [if_neg h0]
        exact zero_cells zv.cells len (len * n) (by rw [hz3])
    simp only [Instr.buildSlice, Sem.run_bind, run_underlying hu, Result.andThen_ok, run_sizeT hn, if_neg hno]
    by_cases h0 : len * n = 0
    · simp only [if_pos h0] at harr
      rw [h0] at harr
      simp only [h0, if_true, Sem.run_bind, Sem.run_pure, Result.andThen_ok]
      rw [harr, hcs']
      simp [newRow]
    · simp only [if_neg h0] at harr
      simp only [if_neg h0, Sem.run_bind, run_zeroT hz1, Sem.run_pure, Result.andThen_ok]
      rw [harr, hcs']
      simp [newRow]

end

/-- A block that lies there is taken for one of the evaluator's. -/
theorem HR.adopt {w0 : Base} {μ : Mu} {H : Heap} {w : World} (h : HR w0 μ H w) (cells : List Value) (cs : Array Value) (el : TypeId) (esz B : Nat) (hB : w.heap[B]? = some (.cells cs el (0, 0)))
    (hS : ¬ w0.S B) (hfree : ∀ b k m, H.get b = some k → k.ro = false → μ b = some m → m.blk ≠ B) (hr : VRs μ cells cs.toList) (h1 : Ones cells) (hz : ∀ o, μ.z B ≠ some o) :
    HR w0 (μ.set H.n ⟨B, 0, cs.size, esz, false⟩) (H.push ⟨cells, esz, false⟩) w := by
  have hle := Mu.le_set h.dom (μ := μ) (H := H) ⟨B, 0, cs.size, esz, false⟩
  constructor
  · intro b m hb
    rw [Heap.n_push]
    rw [Mu.set_get] at hb
    split at hb
    · omega
    · have := h.dom b m hb; omega
  · intro b k hk
    rw [Heap.get_push] at hk
    split at hk
    · rename_i hb
      injection hk with hk
      subst hk hb
      refine ⟨⟨B, 0, cs.size, esz, false⟩, by simp [Mu.set], rfl, rfl, ⟨cs, el, (0, 0), hB, fun _ => rfl, by simp, fun i v hi => ?_⟩, h1, ?_, fun _ => hS, fun hf => by cases hf⟩
      · obtain ⟨v', e, r⟩ := hr.get hi
        exact ⟨v', by simpa using e, r.up hle⟩
      · have := hr.1; simp at this ⊢; omega
    · obtain ⟨m, hm, hb⟩ := h.blk b k hk
      exact ⟨m, hle.f _ _ hm, hb.keep hle rfl⟩
  · intro b b' k k' m m' hk hk' r r' hm hm' he
    rw [Heap.get_push] at hk hk'
    rw [Mu.set_get] at hm hm'
    by_cases e1 : b = H.n <;> by_cases e2 : b' = H.n
    · omega
    · rw [if_neg e2] at hk' hm'
      rw [if_pos e1] at hm
      injection hm with hm; subst hm
      exact absurd he.symm (hfree b' k' m' hk' r' hm')
    · rw [if_neg e1] at hk hm
      rw [if_pos e2] at hm'
      injection hm' with hm'; subst hm'
      exact absurd he (hfree b k m hk r hm)
    · rw [if_neg e1] at hk hm
      rw [if_neg e2] at hk' hm'
      exact h.inj b b' k k' m m' hk hk' r r' hm hm' he
  · exact h.below
  · refine ⟨h.zr.at_, h.zr.old, fun k o b x m hk hx hr hm => ?_⟩
    rw [Heap.get_push] at hx
    rw [Mu.set_get] at hm
    split at hx
    · rename_i hb
      rw [if_pos hb] at hm
      injection hm with hm; subst hm
      intro he
      have he : B = k := he
      exact hz o (by rw [he]; exact hk)
    · rename_i hb
      rw [if_neg hb] at hm
      exact h.zr.apart k o b x m hk hx hr hm

theorem VR.form {μ : Mu} {n B ext esz : Nat} (f : Option Nat) : VR (μ.set n ⟨B, 0, ext, esz, false⟩) (formV f n) (formV f B) := by
  cases f with
  | none => exact VR.ptr n 0 ⟨B, 0, ext, esz, false⟩ (by simp [Mu.set])
  | some l => exact VR.slice n 0 0 l l l ⟨B, 0, ext, esz, false⟩ (by simp [Mu.set]) (Nat.le_refl _) (Nat.le_refl _) (.inr rfl) (.inl rfl)

/-- Blocks more are held fast: from here on. -/
def Base.more (w0 : Base) (μ : Mu) (w : World) (T : Nat → Prop) : Base := ⟨w, fun k => w0.S k ∨ T k, w0.R, fun k => ∃ o, μ.z k = some o⟩

theorem HR.toMore {w0 : Base} {μ : Mu} {H : Heap} {w : World} (h : HR w0 μ H w) (T : Nat → Prop) (hT : ∀ k, T k → k < w.heap.size) (hfree : ∀ b k m, H.get b = some k → k.ro = false → μ b = some m → ¬ T m.blk) : HR (w0.more μ w T) μ H w := by
  constructor
  · exact h.dom
  · intro b k hk
    obtain ⟨m, hm, hb⟩ := h.blk b k hk
    refine ⟨m, hm, hb.esz, hb.ro, hb.here, hb.ones, hb.ext, fun hr hS => ?_, hb.low⟩
    rcases hS with hS | hS
    · exact hb.own hr hS
    · exact hfree b k m hk hr hm hS
  · exact h.inj
  · refine ⟨rfl, rfl, rfl, Nat.le_refl _, fun _ _ => rfl, fun k hk => ?_, fun k hk => .inl (h.below.sub k hk)⟩
    rcases hk with hk | hk
    · have := h.below.lt k hk; have := h.below.size; show k < w.heap.size; omega
    · exact hT k hk
  · exact ⟨h.zr.at_, fun k o hk _ => ⟨o, hk⟩, h.zr.apart⟩

theorem HR.ofMore {w0 : Base} {μ μ0 : Mu} {H H0 : Heap} {w w' : World} {T : Nat → Prop} (h0 : HR w0 μ0 H0 w) (h : HR (w0.more μ0 w T) μ H w') : HR w0 μ H w' := by
  have hb := h.below
  constructor
  · exact h.dom
  · intro b k hk
    obtain ⟨m, hm, hbr⟩ := h.blk b k hk
    exact ⟨m, hm, hbr.esz, hbr.ro, hbr.here, hbr.ones, hbr.ext, fun hr hS => hbr.own hr (.inl hS), hbr.low⟩
  · exact h.inj
  · exact h0.below.step hb.os hb.tape hb.output hb.size fun k hk => hb.block k (.inl hk)
  · refine ⟨h.zr.at_, fun k o hk hS => ?_, h.zr.apart⟩
    obtain ⟨o', ho⟩ := h.zr.old k o hk (.inl hS)
    exact h0.zr.old k o' ho hS

/-- What was to be held fast beside the frozen is not frozen meanwhile. -/
theorem HR.more_free {w0 : Base} {μ μ0 : Mu} {H : Heap} {w w' : World} {T : Nat → Prop} (h : HR (w0.more μ0 w T) μ H w') {k : Nat} (hT : T k) (h0 : ∀ o, μ0.z k ≠ some o) : ∀ o, μ.z k ≠ some o := by
  intro o ho
  obtain ⟨o', h1⟩ := h.zr.old k o ho (.inr hT)
  exact h0 o' h1
end Go.Sw
