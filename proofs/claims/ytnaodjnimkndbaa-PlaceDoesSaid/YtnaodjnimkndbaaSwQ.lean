/-
  The evaluator's pure operations against the model's.
-/
import Derived.Test.YtnaodjnimkndbaaSwP
namespace Go.Sw
open Go.RowKit

section
variable {P : Program}

theorem fieldOf_some {s : TypeId} {i : Nat} {f : Field} (h : fieldOf P s i = some f) : ∃ fs, P.underlying s = some (.struct fs) ∧ fs[i]? = some f := by
  unfold fieldOf at h
  split at h
  · rename_i fs hu; exact ⟨fs, hu, h⟩
  · cases h

theorem fieldAddr_sim {μ : Mu} {s : TypeId} {a a' v : Value} {i : Nat} (ha : VR μ a a') (hv : fieldAddrV P s a i = some v) (w : World) :
    ∃ v', (Instr.fieldAt s a' i).run P w = .ok v' w ∧ VR μ v v' := by
  unfold fieldAddrV at hv
  split at hv
  · rename_i b off f hf
    obtain ⟨fs, hu, hi⟩ := fieldOf_some hf
    cases ha with
    | ptr _ _ m hm =>
      split at hv
      · rename_i n hn
        injection hv with hv
        subst hv
        refine ⟨.pointer (some ⟨m.blk, m.base + (off + f.offset), none⟩), ?_, VR.ptr b _ m hm⟩
        simp [Instr.fieldAt, run_underlying hu, hi, Instr.sureAddr, fieldPlace, run_sizeT hn, add_at, Nat.add_assoc]
      · cases hv
  · rename_i cs _ f hf
    obtain ⟨fs, hu, hi⟩ := fieldOf_some hf
    cases ha with
    | box _ _ _ _ _ blk off cs2 el fz hz hl h0 h2 =>
      split at hv
      · rename_i n hn
        split at hv
        · rename_i hle
          injection hv with hv
          subst hv
          refine ⟨.pointer (some ⟨blk, off + f.offset, none⟩), ?_, VR.box _ _ _ _ _ blk _ cs2 el fz hz ?_ (frozen_ones h0 _ _) (frozen_sub h2 _ _)⟩
          · simp [Instr.fieldAt, run_underlying hu, hi, Instr.sureAddr, fieldPlace, run_sizeT hn, add_at]
          · rw [extract_size _ _ _ hle]; omega
        · cases hv
      · cases hv
  · cases hv

theorem VR.agg_extract {μ : Mu} {cs cs' : Array Value} (h : VR μ (.agg cs) (.agg cs')) (a b : Nat) : VR μ (.agg (cs.extract a b)) (.agg (cs'.extract a b)) := by
  cases h with
  | agg _ _ h0 h1 h2 =>
    refine .agg _ _ (fun v hv => h0 v ?_) (by simp [h1]) fun i v v' hv hv' => ?_
    · rw [Array.toList_extract] at hv
      exact List.mem_of_mem_drop (List.mem_of_mem_take hv)
    · rw [Array.getElem?_extract] at hv hv'
      split at hv
      · split at hv'
        · exact h2 _ _ _ hv hv'
        · cases hv'
      · cases hv

theorem part_sim {μ : Mu} {t : TypeId} {cs cs' : Array Value} {off : Nat} {v : Value} (h : VR μ (.agg cs) (.agg cs')) (hv : partV P t cs off = some v) (w : World) :
    ∃ v', (part t cs' off).run P w = .ok v' w ∧ VR μ v v' := by
  unfold partV at hv
  split at hv
  · rename_i n ht hn
    injection hv with hv
    subst hv
    exact ⟨_, by simp [part, run_isAgg ht, run_sizeT hn], h.agg_extract _ _⟩
  · rename_i ht
    cases h with
    | agg _ _ h0 h1 h2 =>
      obtain ⟨v', e, r⟩ := (VRs.of_arr h1 h2).get (by simpa using hv)
      have e : cs'[off]? = some v' := by simpa using e
      exact ⟨v', by simp [part, run_isAgg ht, e], r⟩
  · cases hv

theorem VR.agg_inv {μ : Mu} {cs : Array Value} {x : Value} (h : VR μ (.agg cs) x) : ∃ cs', x = .agg cs' := by cases h; exact ⟨_, rfl⟩

theorem field_sim {μ : Mu} {s : TypeId} {x x' v : Value} {i : Nat} (hx : VR μ x x') (hv : fieldV P s x i = some v) (w : World) :
    ∃ v', (Instr.field s x' i).run P w = .ok v' w ∧ VR μ v v' := by
  unfold fieldV at hv
  split at hv
  · rename_i cs f hf
    obtain ⟨fs, hu, hi⟩ := fieldOf_some hf
    obtain ⟨cs', rfl⟩ := hx.agg_inv
    obtain ⟨v', e, r⟩ := part_sim hx hv w
    exact ⟨v', by simp [Instr.field, run_underlying hu, hi, asAgg, e], r⟩
  · cases hv

theorem indexAddr_sim {μ : Mu} {t : TypeId} {x x' ix ix' v : Value} (hx : VR μ x x') (hi : VR μ ix ix') (hv : indexAddrV P t x ix = some v) (w : World) :
    ∃ v', (Instr.indexAt t x' ix').run P w = .ok v' w ∧ VR μ v v' := by
  unfold indexAddrV at hv
  split at hv
  rotate_left
  · cases hv
  rename_i k i
  cases hi
  split at hv
  · rename_i len elem b off hu
    cases hx with
    | ptr _ _ m hm =>
      split at hv
      · rename_i n hn
        split at hv
        · rename_i hb
          injection hv with hv
          subst hv
          refine ⟨.pointer (some ⟨m.blk, m.base + (off + i.toNat * n), none⟩), ?_, VR.ptr b _ m hm⟩
          simp [Instr.indexAt, asIntOf, run_underlying hu, Instr.sureAddr, hb.1, hb.2, run_sizeT hn, add_at, Nat.add_assoc]
        · cases hv
      · cases hv
  · rename_i elem b off len cap hu
    cases hx with
    | slice _ _ off' _ _ cap' m hm hl hc ho hxx =>
      split at hv
      · rename_i n hn
        split at hv
        · rename_i hb
          injection hv with hv
          subst hv
          have hpos : off' = m.base + off := ho.resolve_left (by omega)
          subst hpos
          refine ⟨.pointer (some ⟨m.blk, m.base + (off + i.toNat * n), none⟩), ?_, VR.ptr b _ m hm⟩
          simp [Instr.indexAt, asIntOf, run_underlying hu, hb.1, hb.2, run_sizeT hn, add_at, Nat.add_assoc]
        · cases hv
      · cases hv
  · rename_i len elem _ _ _ cs _ hu
    cases hx with
    | box _ _ _ _ _ blk off cs2 el fz hz hl h0 h2 =>
      split at hv
      · rename_i n hn
        split at hv
        · rename_i hb
          injection hv with hv
          subst hv
          refine ⟨.pointer (some ⟨blk, off + i.toNat * n, none⟩), ?_, VR.box _ _ _ _ _ blk _ cs2 el fz hz ?_ (frozen_ones h0 _ _) (frozen_sub h2 _ _)⟩
          · simp [Instr.indexAt, asIntOf, run_underlying hu, Instr.sureAddr, hb.1, hb.2.1, run_sizeT hn, add_at]
          · rw [extract_size _ _ _ hb.2.2]; omega
        · cases hv
      · cases hv
  · rename_i elem len _ _ cs _ hu
    cases hx with
    | list _ _ _ _ _ blk off cap cs2 el fz hz hl hc hg h0 h2 =>
      split at hv
      · rename_i n hn
        split at hv
        · rename_i hb
          injection hv with hv
          subst hv
          refine ⟨.pointer (some ⟨blk, off + i.toNat * n, none⟩), ?_, VR.box _ _ _ _ _ blk _ cs2 el fz hz ?_ (frozen_ones h0 _ _) (frozen_sub h2 _ _)⟩
          · simp [Instr.indexAt, asIntOf, run_underlying hu, hb.1, hb.2.1, run_sizeT hn, add_at]
          · rw [extract_size _ _ _ hb.2.2]; omega
        · cases hv
      · cases hv
    | empty _ _ _ _ a cap hn hs =>
      split at hv
      · split at hv
        · rename_i hb
          exfalso
          have h1 := hb.1
          have h2 := hb.2.1
          omega
        · cases hv
      · cases hv
  · cases hv

theorem index_sim {μ : Mu} {t : TypeId} {x x' ix ix' v : Value} (hx : VR μ x x') (hi : VR μ ix ix') (hv : indexV P t x ix = some v) (w : World) :
    ∃ v', (Instr.index t x' ix').run P w = .ok v' w ∧ VR μ v v' := by
  unfold indexV at hv
  split at hv
  rotate_left
  · cases hv
  rename_i k i
  cases hi
  split at hv
  · rename_i len elem cs hu
    obtain ⟨cs', rfl⟩ := hx.agg_inv
    split at hv
    · rename_i n hn
      split at hv
      · rename_i hb
        obtain ⟨v', e, r⟩ := part_sim hx hv w
        exact ⟨v', by simp [Instr.index, asIntOf, run_underlying hu, hb.1, hb.2, run_sizeT hn, e], r⟩
      · cases hv
    · cases hv
  · rename_i s hu
    cases hx
    split at hv
    · rename_i h0
      cases hs : s[i.toNat]? with
      | none => simp [hs] at hv
      | some c =>
        simp [hs] at hv
        subst hv
        exact ⟨_, by simp [Instr.index, asIntOf, run_underlying hu, h0, hs], .int _ _⟩
    · cases hv
  · cases hv

theorem boundOf_sim {μ : Mu} {v v' : Value} {d n : Nat} (h : VR μ v v') (hb : boundOf (some v) d = some n) : ∃ k i, v' = .int k i ∧ 0 ≤ i ∧ n = i.toNat := by
  unfold boundOf at hb
  split at hb
  · rename_i hh; cases hh
  · rename_i k i hh
    injection hh with hh
    subst hh
    cases h
    split at hb
    · rename_i h0
      injection hb with hb
      exact ⟨k, i, rfl, h0, hb.symm⟩
    · cases hb
  · cases hb

/-- Optional operands, place by place. -/
def VRo (μ : Mu) : Option Value → Option Value → Prop
  | none, none => True
  | some a, some b => VR μ a b
  | _, _ => False

theorem run_bound {k : IntKind} {i : Int} {y : Nat} (code : BoundsCode) (h0 : 0 ≤ i) (h1 : i.toNat ≤ y) (w : World) : (Instr.sliceBound (.int k i) y code).run P w = .ok i.toNat w := by
  have : i ≤ (y : Int) := by omega
  simp [Instr.sliceBound, asIntOf, h0, this]

/-- The bounds of a slice expression: what the evaluator reckons is what the model reckons, with the model's own length and capacity. -/
theorem sliceBounds_sim {μ : Mu} {lo lo' hi hi' mx mx' : Option Value} (hlo : VRo μ lo lo') (hhi : VRo μ hi hi') (hmx : VRo μ mx mx') {len cap cap' m h l : Nat} (isS : Bool)
    (hm : boundOf mx cap = some m) (hh : boundOf hi len = some h) (hl : boundOf lo 0 = some l) (hc : cap ≤ cap') (c1 : m ≤ cap) (c2 : h ≤ m) (c3 : l ≤ h) (c4 : mx.isSome → hi.isSome) (w : World) :
    ∃ m', (Instr.sliceBounds isS len cap' lo' hi' mx').run P w = .ok (l, h, m') w ∧ m ≤ m' ∧ m' ≤ cap' ∧ (mx = none → m = cap ∧ m' = cap') ∧ (mx ≠ none → m' = m) := by
  cases mx with
  | none =>
    cases mx' with
    | some _ => exact hmx.elim
    | none =>
      simp [boundOf] at hm
      subst hm
      refine ⟨cap', ?_, hc, Nat.le_refl _, fun _ => ⟨rfl, rfl⟩, fun h => absurd rfl h⟩
      cases hi with
      | none =>
        cases hi' with
        | some _ => exact hhi.elim
        | none =>
          simp [boundOf] at hh
          subst hh
          cases lo with
          | none =>
            cases lo' with
            | some _ => exact hlo.elim
            | none => simp [boundOf] at hl; subst hl; simp [Instr.sliceBounds]
          | some lv =>
            cases lo' with
            | none => exact hlo.elim
            | some lv' =>
              obtain ⟨k, i, rfl, h0, rfl⟩ := boundOf_sim hlo hl
              simp [Instr.sliceBounds, run_bound _ h0 c3]
      | some hv =>
        cases hi' with
        | none => exact hhi.elim
        | some hv' =>
          obtain ⟨k, i, rfl, h0, rfl⟩ := boundOf_sim hhi hh
          have hb := run_bound (P := P) (k := k) (if isS then .sliceAcap else .sliceAlen) h0 (Nat.le_trans c2 hc) w
          cases lo with
          | none =>
            cases lo' with
            | some _ => exact hlo.elim
            | none => simp [boundOf] at hl; subst hl; simp [Instr.sliceBounds, hb]
          | some lv =>
            cases lo' with
            | none => exact hlo.elim
            | some lv' =>
              obtain ⟨k, i, rfl, h0, rfl⟩ := boundOf_sim hlo hl
              simp [Instr.sliceBounds, hb, run_bound _ h0 c3]
  | some mv =>
    cases mx' with
    | none => exact hmx.elim
    | some mv' =>
      obtain ⟨km, im, rfl, hm0, rfl⟩ := boundOf_sim hmx hm
      refine ⟨im.toNat, ?_, Nat.le_refl _, Nat.le_trans c1 hc, (fun h => by cases h), fun _ => rfl⟩
      have hbm := run_bound (P := P) (k := km) (if isS then .slice3Acap else .slice3Alen) hm0 (Nat.le_trans c1 hc) w
      cases hi with
      | none => simp at c4
      | some hv =>
        cases hi' with
        | none => exact hhi.elim
        | some hv' =>
          obtain ⟨k, i, rfl, h0, rfl⟩ := boundOf_sim hhi hh
          have hb := run_bound (P := P) (k := k) .slice3B h0 c2 w
          cases lo with
          | none =>
            cases lo' with
            | some _ => exact hlo.elim
            | none => simp [boundOf] at hl; subst hl; simp [Instr.sliceBounds, hbm, hb]
          | some lv =>
            cases lo' with
            | none => exact hlo.elim
            | some lv' =>
              obtain ⟨k, i, rfl, h0, rfl⟩ := boundOf_sim hlo hl
              simp [Instr.sliceBounds, hbm, hb, run_bound _ h0 c3]

theorem slice_sim {w0 : Base} {μ : Mu} {H : Heap} {w : World} (hr : HR w0 μ H w) {t : TypeId} {x x' v : Value} {lo lo' hi hi' mx mx' : Option Value} (hx : VR μ x x') (hlo : VRo μ lo lo') (hhi : VRo μ hi hi') (hmx : VRo μ mx mx')
    (hv : sliceV P t x lo hi mx H = some v) : ∃ v', (Instr.sliceAt t x' lo' hi' mx').run P w = .ok v' w ∧ VR μ v v' := by
  unfold sliceV at hv
  split at hv
  · rename_i elem a len cap hu
    split at hv
    rotate_left
    · cases hv
    rename_i size m h l hsz hm hh hl
    split at hv
    rotate_left
    · cases hv
    rename_i hc
    obtain ⟨c1, c2, c3, c4⟩ := hc
    split at hv
    · injection hv with hv
      subst hv
      cases hx
      obtain ⟨m', hrun, k1, k2, _, _⟩ := sliceBounds_sim (P := P) hlo hhi hmx true hm hh hl (Nat.le_refl 0) c1 c2 c3 c4 w
      have e1 : m' = 0 := by omega
      have e2 : h = 0 := by omega
      have e3 : l = 0 := by omega
      subst e1 e2 e3
      exact ⟨.slice none 0 0, by simp [Instr.sliceAt, Instr.slice, run_underlying hu, hrun, run_sizeT hsz], .nilSlice⟩
    · rename_i b off
      split at hv
      rotate_left
      · cases hv
      rename_i hok
      injection hv with hv
      subst hv
      cases hx with
      | slice _ _ off' _ _ cap' mb hmb hlc hcc hoo hxx =>
        obtain ⟨m', hrun, k1, k2, k3, k4⟩ := sliceBounds_sim (P := P) hlo hhi hmx true hm hh hl hcc c1 c2 c3 c4 w
        by_cases hml : m' = l
        · subst hml
          refine ⟨.slice (some ⟨mb.blk, off', none⟩) (h - m') (m' - m'), by simp [Instr.sliceAt, Instr.slice, run_underlying hu, hrun, run_sizeT hsz], ?_⟩
          have e1 : h = m' := by omega
          have e2 : m = m' := by omega
          rw [e1, e2]
          exact VR.slice b _ off' _ _ _ mb hmb (by omega) (by omega) (.inl (by omega)) (.inl (by omega))
        · have hpos : off' = mb.base + off := hoo.resolve_left (by omega)
          subst hpos
          refine ⟨.slice (some ⟨mb.blk, mb.base + off + l * size, none⟩) (h - l) (m' - l), by simp [Instr.sliceAt, Instr.slice, run_underlying hu, hrun, run_sizeT hsz, hml, add_at], ?_⟩
          refine VR.slice b _ _ _ _ _ mb hmb (by omega) (by omega) (.inr (by omega)) ?_
          by_cases hmn : mx = none
          · obtain ⟨q1, q2⟩ := k3 hmn
            subst q1 q2
            rcases hxx with hxx | hxx | hxx
            · exact .inl (by omega)
            · exact .inr (.inl hxx)
            · unfold openOk at hok
              subst hmn
              simp only [Option.isSome_none, Bool.false_or] at hok
              split at hok
              · rename_i k hk
                obtain ⟨mb2, hmb2, hB⟩ := hr.blk b k hk
                rw [hmb] at hmb2; injection hmb2 with hmb2; subst hmb2
                simp only [Bool.or_eq_true, beq_iff_eq] at hok
                rcases hok with hok | hok
                · exact .inr (.inl (by rw [hB.ro]; exact hok))
                · refine .inr (.inr ?_)
                  have : mb.esz = size := hB.esz.trans hok
                  rw [this] at hxx ⊢
                  have : l * size + (m' - l) * size = m' * size := by rw [← Nat.add_mul]; congr 1; omega
                  omega
              · cases hok
          · exact .inl (by rw [k4 hmn])
    · cases hv
  · rename_i n elem b off hu
    split at hv
    rotate_left
    · cases hv
    rename_i size m h l hsz hm hh hl
    split at hv
    rotate_left
    · cases hv
    rename_i hc
    obtain ⟨c1, c2, c3, c4⟩ := hc
    injection hv with hv
    subst hv
    cases hx with
    | ptr _ _ mb hmb =>
      obtain ⟨m', hrun, k1, k2, k3, k4⟩ := sliceBounds_sim (P := P) hlo hhi hmx false hm hh hl (Nat.le_refl n) c1 c2 c3 c4 w
      have hmm : m' = m := by
        by_cases hmn : mx = none
        · obtain ⟨q1, q2⟩ := k3 hmn; omega
        · exact k4 hmn
      subst hmm
      by_cases hml : m' = l
      · subst hml
        have e1 : h = m' := by omega
        subst e1
        refine ⟨.slice (some ⟨mb.blk, mb.base + off, none⟩) (h - h) (h - h), by simp [Instr.sliceAt, run_underlying hu, hrun, run_sizeT hsz, Instr.sureAddr], ?_⟩
        exact VR.slice b _ _ _ _ _ mb hmb (by omega) (by omega) (.inl (by omega)) (.inl (by omega))
      · refine ⟨.slice (some ⟨mb.blk, mb.base + off + l * size, none⟩) (h - l) (m' - l), by simp [Instr.sliceAt, run_underlying hu, hrun, run_sizeT hsz, Instr.sureAddr, hml, add_at], ?_⟩
        exact VR.slice b _ _ _ _ _ mb hmb (by omega) (by omega) (.inr (by omega)) (.inl rfl)
  · rename_i elem len _ _ cs _ hu
    split at hv
    rotate_left
    · cases hv
    rename_i size m h l hsz hm hh hl
    split at hv
    rotate_left
    · cases hv
    rename_i hc
    obtain ⟨c1, c2, c3, c4, c5⟩ := hc
    injection hv with hv
    subst hv
    cases hx with
    | list _ _ _ _ _ blk off cap cs2 el fz hz hlc hcc hg h0 h2 =>
      obtain ⟨m', hrun, k1, k2, k3, k4⟩ := sliceBounds_sim (P := P) hlo hhi hmx true hm hh hl hcc c1 c2 c3 c4 w
      by_cases hml : m' = l
      · refine ⟨.slice (some ⟨blk, off, none⟩) (h - l) (m' - l), by simp [Instr.sliceAt, Instr.slice, run_underlying hu, hrun, run_sizeT hsz, hml], ?_⟩
        have e1 : h - l = 0 := by omega
        rw [e1]
        exact VR.empty _ _ _ _ _ _ (fun h => by cases h) (fun h => by cases h)
      · refine ⟨.slice (some ⟨blk, off + l * size, none⟩) (h - l) (m' - l), by simp [Instr.sliceAt, Instr.slice, run_underlying hu, hrun, run_sizeT hsz, hml, add_at], ?_⟩
        have hle : l * size ≤ h * size := Nat.mul_le_mul_right _ c3
        refine VR.list _ _ _ _ _ blk _ _ cs2 el fz hz ?_ (by omega) (by decide) (frozen_ones h0 _ _) (frozen_sub h2 _ _)
        rw [extract_size _ _ _ c5]; omega
    | empty _ _ _ _ a cap hn hs =>
      obtain ⟨m', hrun, k1, k2, k3, k4⟩ := sliceBounds_sim (P := P) hlo hhi hmx true hm hh hl (Nat.zero_le cap) c1 c2 c3 c4 w
      have e1 : h = 0 := by omega
      have e2 : l = 0 := by omega
      subst e1 e2
      refine ⟨.slice (if m' = 0 then a else a.map (·.add (0 * size))) 0 (m' - 0), by simp [Instr.sliceAt, Instr.slice, run_underlying hu, hrun, run_sizeT hsz], ?_⟩
      refine VR.empty _ _ _ _ _ _ (fun he => ?_) (fun h => by cases h)
      by_cases hm0 : m' = 0
      · exact ⟨by omega, by decide⟩
      · rw [if_neg hm0] at he
        cases a with
        | none => have := (hn rfl).1; omega
        | some q => cases he
  · rename_i s hu
    split at hv
    · rename_i h l hh hl
      split at hv
      · rename_i hc
        injection hv with hv
        subst hv
        cases hx
        obtain ⟨m', hrun, k1, k2, k3, k4⟩ := sliceBounds_sim (P := P) (mx := none) (mx' := mx') hlo hhi hmx false (cap := s.size) rfl hh hl (Nat.le_refl s.size) (Nat.le_refl _) hc.1 hc.2 (by simp) w
        cases mx' with
        | some _ => exact hmx.elim
        | none => exact ⟨.string (s.extract l h), by simp [Instr.sliceAt, Instr.slice, run_underlying hu, hrun], .string _⟩
      · cases hv
    · cases hv
  · cases hv

theorem intBin_sim {op : BinOp} {k : IntKind} {a b : Int} {v : Value} (μ : Mu) (hv : intBin op k a b = some v) (t : TypeId) (w : World) (hop : op ≠ .shl ∧ op ≠ .shr) : (binOp op t (.int k a) (.int k b)).run P w = .ok v w ∧ VR μ v v := by
  unfold intBin at hv
  split at hv <;> first
    | (split at hv
       · cases hv
       · rename_i hb
         injection hv with hv; subst hv
         exact ⟨by simp [binOp, Op.intDiv, hb], .int _ _⟩)
    | (injection hv with hv; subst hv
       refine ⟨by simp [binOp, Op.intArith, Op.intBits, Op.intCmp], ?_⟩
       first | exact .int _ _ | exact .bool _)
    | cases hv

theorem shift_sim {op : BinOp} {k k' : IntKind} {a b : Int} {v : Value} (μ : Mu) (hop : op = .shl ∨ op = .shr) (hv : shiftV op k a b = some v) (t : TypeId) (w : World) : (binOp op t (.int k a) (.int k' b)).run P w = .ok v w ∧ VR μ v v := by
  unfold shiftV at hv
  split at hv
  · cases hv
  · rename_i hb
    rcases hop with rfl | rfl <;> (injection hv with hv; subst hv; exact ⟨by simp [binOp, Op.shift, hb], .int _ _⟩)

theorem eqFields_sim {μ : Mu} (d : Nat) (E : TypeId → Value → Value → Option Bool) (hE : ∀ t x x' y y' r, VR μ x x' → VR μ y y' → E t x y = some r → ∀ w, (Op.equalIn d t x' y').run P w = .ok r w)
    {xs ys xs' ys' : Array Value} (hx : VR μ (.agg xs) (.agg xs')) (hy : VR μ (.agg ys) (.agg ys')) : ∀ (fs : List Field) (r : Bool), eqFields P E xs ys fs = some r → ∀ w, (Op.eqFields d xs' ys' fs).run P w = .ok r w
  | [], r, h, w => by simp [eqFields] at h; subst h; simp [Op.eqFields]
  | f :: fs, r, h, w => by
    simp only [eqFields] at h
    split at h
    · cases h
    · rename_i hf
      have hf : f.name ≠ "_" := by simpa using hf
      split at h
      · rename_i a b ha hb
        obtain ⟨a', ea, ra⟩ := part_sim hx ha w
        obtain ⟨b', eb, rb⟩ := part_sim hy hb w
        split at h
        · rename_i hE1
          have := hE _ _ _ _ _ _ ra rb hE1 w
          simp [Op.eqFields, hf, ea, eb, this, eqFields_sim d E hE hx hy fs r h w]
        · rename_i hne
          cases r with
          | true => exact (hne h).elim
          | false =>
            have := hE _ _ _ _ _ _ ra rb h w
            simp [Op.eqFields, hf, ea, eb, this]
      · cases h

set_option maxHeartbeats 1000000 in
theorem eq_sim {μ : Mu} : ∀ (d : Nat) (t : TypeId) (x x' y y' : Value) (r : Bool), VR μ x x' → VR μ y y' → eqV P d t x y = some r → ∀ w e, (Op.equalIn (d + e) t x' y').run P w = .ok r w
  | 0, t, x, x', y, y', r, _, _, h, _, _ => by simp [eqV] at h
  | d + 1, t, x, x', y, y', r, hx, hy, h, w, e => by
    have he : d + 1 + e = (d + e) + 1 := by omega
    rw [he]
    unfold eqV at h
    split at h
    · rename_i a b hu; injection h with h; subst h; cases hx; cases hy; simp [Op.equalIn, run_underlying hu]
    · rename_i k a k' b hu
      split at h
      · rename_i hk; injection h with h; subst h; subst hk; cases hx; cases hy; simp [Op.equalIn, run_underlying hu]
      · cases h
    · rename_i a b hu; injection h with h; subst h; cases hx; cases hy; simp [Op.equalIn, run_underlying hu]
    · rename_i b hu; injection h with h; subst h; cases hx; cases hy <;> simp [Op.equalIn, run_underlying hu]
    · rename_i a hu; injection h with h; subst h; cases hx; cases hy; simp [Op.equalIn, run_underlying hu]
    · rename_i a b c d hu; cases hx; cases hy <;> simp [nilS] at h <;> subst h <;> simp [Op.equalIn, run_underlying hu]
    · rename_i a b c d hu; cases hx <;> cases hy <;> simp [nilS] at h <;> subst h <;> simp [Op.equalIn, run_underlying hu]
    · rename_i hu; injection h with h; subst h; cases hx; cases hy; simp [Op.equalIn, run_underlying hu]
    · rename_i hu; injection h with h; subst h; cases hx; cases hy; simp [Op.equalIn, run_underlying hu]
    · rename_i hu; injection h with h; subst h; cases hx; cases hy; simp [Op.equalIn, run_underlying hu]
    · rename_i hu; injection h with h; subst h; cases hy; cases hx with
      | list _ _ _ _ _ blk off cap cs2 el fz hz hl hc hg h0 h2 => simp [Op.equalIn, run_underlying hu]
      | empty _ _ _ _ a cap hn hs =>
        cases a with
        | none => exact absurd rfl (hn rfl).2
        | some q => simp [Op.equalIn, run_underlying hu]
    · rename_i hu; injection h with h; subst h; cases hy; cases hx with
      | list _ _ _ _ _ blk off cap cs2 el fz hz hl hc hg h0 h2 => exact absurd rfl hg
      | empty _ _ _ _ a cap hn hs =>
        have := hs rfl
        subst this
        simp [Op.equalIn, run_underlying hu]
    · rename_i hu; injection h with h; subst h; cases hx; cases hy; simp [Op.equalIn, run_underlying hu]
    · rename_i b hu; injection h with h; subst h; cases hx; cases hy <;> simp [Op.equalIn, run_underlying hu]
    · rename_i a hu; injection h with h; subst h; cases hx; cases hy; simp [Op.equalIn, run_underlying hu]
    · rename_i fs xs ys hu
      split at h
      · cases h
      · rename_i hst
        obtain ⟨xs', rfl⟩ := hx.agg_inv
        obtain ⟨ys', rfl⟩ := hy.agg_inv
        have hfo : P.fieldsOf t = fs := by simp [Program.fieldsOf, hu]
        rw [run_equalIn_struct w (d + e) t xs' ys' (by rw [hfo]; exact hu) (by simpa using hst), hfo]
        exact eqFields_sim (d + e) (eqV P d) (fun t x x' y y' r a b c w => eq_sim d t x x' y y' r a b c w e) hx hy fs.toList r h w
    · cases h

theorem run_eqGuard_ne {op : BinOp} (t : TypeId) (x y : Operand) (a b : Value) (h : op ≠ .eql ∧ op ≠ .neq) (w : World) : (eqGuard op t x y a b).run P w = .ok () w := by
  cases op <;> simp_all [eqGuard]
theorem run_eqGuard_plain {op : BinOp} (t : TypeId) (x y : Operand) (a b : Value) (h : ∀ c, a ≠ .agg c) (h2 : a ≠ .nilIface) (w : World) : (eqGuard op t x y a b).run P w = .ok () w := by
  cases op <;> simp only [eqGuard] <;> first | (simp; done) | (cases a <;> simp_all)

theorem run_eqGuard_agg' {op : BinOp} (t : TypeId) (x y : Operand) (xs ys : Array Value) (hm : P.eqGuardType P.depth t = false) (w : World) : (eqGuard op t x y (.agg xs) (.agg ys)).run P w = .ok () w := run_eqGuard_agg w op t x y xs ys hm

theorem run_equal {μ : Mu} {t : TypeId} {x x' y y' : Value} {r : Bool} (hx : VR μ x x') (hy : VR μ y y') (h : eqV P eqDepth t x y = some r) (w : World) : (Op.equal t x' y').run P w = .ok r w := by
  have := eq_sim eqDepth t x x' y y' r hx hy h w 9992
  exact this

theorem run_eql_of {t : TypeId} {x y : Value} {r : Bool} {w : World} (h : (Op.equal t x y).run P w = .ok r w) (hx : ∀ k n, x ≠ .int k n) (hf : ∀ k n, x ≠ .float k n) (hc : ∀ k a b, x ≠ .complex k a b) (hs : ∀ s, x ≠ .string s) :
    (binOp .eql t x y).run P w = .ok (.bool r) w ∧ (binOp .neq t x y).run P w = .ok (.bool (!r)) w := by
  constructor <;> cases x <;> simp_all [binOp]

theorem bin_sim {μ : Mu} {op : BinOp} {t : TypeId} {x x' y y' v : Value} (hx : VR μ x x') (hy : VR μ y y') (hv : binV P op t x y = some v) (ox oy : Operand) (w : World) :
    ∃ v', (do eqGuard op t ox oy x' y'; binOp op t x' y' : Sem Value).run P w = .ok v' w ∧ VR μ v v' := by
  unfold binV at hv
  split at hv
  · cases hx; cases hy
    obtain ⟨h1, h2⟩ := shift_sim (P := P) μ (.inl rfl) hv t w
    exact ⟨v, by rw [Sem.run_bind, run_eqGuard_ne t ox oy _ _ (by simp) w]; exact h1, h2⟩
  · cases hx; cases hy
    obtain ⟨h1, h2⟩ := shift_sim (P := P) μ (.inr rfl) hv t w
    exact ⟨v, by rw [Sem.run_bind, run_eqGuard_ne t ox oy _ _ (by simp) w]; exact h1, h2⟩
  · rename_i k a k' b h1 h2
    split at hv
    · rename_i hk
      subst hk
      cases hx; cases hy
      obtain ⟨e1, e2⟩ := intBin_sim (P := P) μ hv t w ⟨by rintro rfl; simp at h1, by rintro rfl; simp at h2⟩
      exact ⟨v, by rw [Sem.run_bind, run_eqGuard_plain t ox oy _ _ (by simp) (by simp) w]; exact e1, e2⟩
    · cases hv
  · injection hv with hv; subst hv; cases hx; cases hy
    exact ⟨_, by rw [Sem.run_bind, run_eqGuard_plain t ox oy _ _ (by simp) (by simp) w]; simp [binOp, Op.stringOp, beq_toListBytes], .bool _⟩
  · injection hv with hv; subst hv; cases hx; cases hy
    exact ⟨_, by rw [Sem.run_bind, run_eqGuard_plain t ox oy _ _ (by simp) (by simp) w]; simp [binOp, Op.stringOp, beq_toListBytes], .bool _⟩
  · injection hv with hv; subst hv; cases hx; cases hy
    exact ⟨_, by rw [Sem.run_bind, run_eqGuard_plain t ox oy _ _ (by simp) (by simp) w]; simp [binOp, Op.stringOp], .bool _⟩
  all_goals
    first
      | cases hv
      | (split at hv
         · cases hv
         rename_i hg
         obtain ⟨r, hr, rfl⟩ := Option.map_eq_some_iff.1 hv
         obtain ⟨xs', rfl⟩ := hx.agg_inv
         obtain ⟨ys', rfl⟩ := hy.agg_inv
         have e := run_eql_of (run_equal hx hy hr w) (by simp) (by simp) (by simp) (by simp)
         refine ⟨_, ?_, .bool _⟩
         rw [Sem.run_bind, run_eqGuard_agg' t ox oy _ _ (by simpa using hg) w]
         first | exact e.1 | exact e.2)
      | (obtain ⟨r, hr, rfl⟩ := Option.map_eq_some_iff.1 hv
         have e := run_eql_of (run_equal hx hy hr w) (by cases hx <;> simp) (by cases hx <;> simp) (by cases hx <;> simp) (by cases hx <;> simp)
         refine ⟨_, ?_, .bool _⟩
         rw [Sem.run_bind, run_eqGuard_plain t ox oy _ _ (by cases hx <;> simp) (by cases hx <;> simp) w]
         first | exact e.1 | exact e.2)

theorem un_sim {μ : Mu} {op : UnOp} {x x' v : Value} (hx : VR μ x x') (hv : unV op x = some v) (w : World) : (Op.unary op x').run P w = .ok v w ∧ VR μ v v := by
  unfold unV at hv
  split at hv
  · injection hv with hv; subst hv; cases hx; exact ⟨by simp [Op.unary, Op.intArith], .int _ _⟩
  · cases hx
    rename_i k n
    unfold intBin at hv
    simp only at hv
    injection hv with hv; subst hv
    exact ⟨by simp [Op.unary, Op.intBits], .int _ _⟩
  · injection hv with hv; subst hv; cases hx; exact ⟨by simp [Op.unary], .bool _⟩
  · cases hv

theorem conv_sim {μ : Mu} {src dst : TypeId} {x x' v : Value} (hx : VR μ x x') (hv : convV P dst x = some v) (hs : (P.underlying src).isSome) (w : World) : (convert src dst x').run P w = .ok v w ∧ VR μ v v := by
  unfold convV at hv
  split at hv
  · rename_i k k2 n hu
    injection hv with hv; subst hv; cases hx
    obtain ⟨d, hd⟩ := Option.isSome_iff_exists.1 hs
    refine ⟨?_, .int _ _⟩
    simp only [convert, Sem.run_bind, run_underlying hd, run_underlying hu, Result.andThen_ok]
    cases d <;> simp [Conv.intToInt]
  · cases hv

theorem foldl_zipIdx (f : Array Value → Value × Nat → Array Value) (a c : Array Value) : a.zipIdx.foldl f c = (a.toList.zipIdx 0).foldl f c := by
  rw [← Array.foldl_toList, Array.toList_zipIdx]

theorem fill_sim {μ : Mu} (place : Nat → Option (Nat × Nat)) : ∀ (ps ps' : List (Nat × Value)) (c c' r : Array Value), ps.length = ps'.length → (∀ (i : Nat) a a', ps[i]? = some a → ps'[i]? = some a' → a.1 = a'.1 ∧ VR μ a.2 a'.2 ∧ storable a.2 = true) →
    VRs μ c.toList c'.toList → Ones c.toList → Instr.fill place c ps = some r → ∃ r', Instr.fill place c' ps' = some r' ∧ VRs μ r.toList r'.toList ∧ Ones r.toList
  | [], ps', c, c', r, hl, _, hc, ho, h => by
    have : ps' = [] := List.length_eq_zero_iff.1 hl.symm
    subst this
    simp [Instr.fill] at h
    subst h
    exact ⟨c', rfl, hc, ho⟩
  | (i, v) :: ps, ps', c, c', r, hl, hp, hc, ho, h => by
    cases ps' with
    | nil => simp at hl
    | cons q ps' =>
      obtain ⟨j, v'⟩ := q
      obtain ⟨e1, hv, hst⟩ := hp 0 (i, v) (j, v') rfl rfl
      dsimp only at e1 hv hst
      subst e1
      simp only [Instr.fill] at h ⊢
      split at h
      · cases h
      · rename_i off size hpl
        split at h
        · cases h
        · rename_i hsz
          have hcells := hv.cells
          have hvs : v'.cells.size = v.cells.size := by have := hcells.1; simp at this; omega
          have hcs : c'.size = c.size := by have := hc.1; simp at this; omega
          rw [hvs, hcs, if_neg hsz]
          have key : ∀ (l l' : List Value) (k : Nat) (a a' : Array Value), VRs μ l l' → Ones l → VRs μ a.toList a'.toList → Ones a.toList →
              VRs μ ((l.zipIdx k).foldl (fun cs (c, j) => cs.setIfInBounds (off + j) c) a).toList ((l'.zipIdx k).foldl (fun cs (c, j) => cs.setIfInBounds (off + j) c) a').toList ∧
              Ones ((l.zipIdx k).foldl (fun cs (c, j) => cs.setIfInBounds (off + j) c) a).toList := by
            intro l
            induction l with
            | nil => intro l' k a a' hl _ ha hao; have := hl.nil_inv; subst this; exact ⟨ha, hao⟩
            | cons x l ih =>
              intro l' k a a' hl hlo ha hao
              obtain ⟨x', l'', rfl, hx, hl⟩ := hl.cons_inv
              simp only [List.zipIdx_cons, List.foldl_cons]
              have hxo := hlo x (by simp)
              refine ih l'' (k + 1) _ _ hl (fun u hu => hlo u (by simp [hu])) ⟨by simpa using ha.1, fun n u u' hu hu' => ?_⟩ (fun u hu => ?_)
              · rw [Array.toList_setIfInBounds, List.getElem?_set] at hu hu'
                split at hu
                · rename_i hn
                  rw [if_pos hn] at hu'
                  split at hu
                  · injection hu with hu
                    split at hu'
                    · injection hu' with hu'; subst hu hu'; exact hx
                    · cases hu'
                  · cases hu
                · rename_i hn
                  rw [if_neg hn] at hu'
                  exact ha.2 n u u' hu hu'
              · rw [Array.toList_setIfInBounds] at hu
                rcases List.mem_or_eq_of_mem_set hu with h | h
                · exact hao u h
                · subst h; exact hxo
          have hk := key v.cells.toList v'.cells.toList 0 c c' hcells (hv.cells_ones hst) hc ho
          refine fill_sim place ps ps' _ _ r (by simpa using hl) (fun n a a' ha ha' => hp (n + 1) a a' (by simpa using ha) (by simpa using ha')) ?_ ?_ h
          · have := hk.1
            rw [← foldl_zipIdx, ← foldl_zipIdx] at this
            exact this
          · have := hk.2
            rw [← foldl_zipIdx] at this
            exact this
end
end Go.Sw
