/-
  A speaking function, run by itself, answers true.
-/
import Derived.Test.YtnaodjnimkndbabSwLib1
import Derived.LoopN
section
namespace Go.Sw
open Go.RowKit
section
variable {P : Program}
theorem ζbe {s : TypeId} {i : Nat} {f : Field} (h : fieldOf P s i = some f) : ∃ fs, P.underlying s = some (.struct fs) ∧ fs[i]? = some f := by
 unfold fieldOf at h
 split at h
 ·rename_i fs hu; exact ⟨fs, hu, h⟩
 ·cases h
theorem ζkc {μ : Mu} {s : TypeId} {a a' v : Value} {i : Nat} (ha : VR μ a a') (hv : fieldAddrV P s a i = some v) (w : World) :
  ∃ v', (Instr.fieldAt s a' i).run P w = .ok v' w ∧ VR μ v v' := by
 unfold fieldAddrV at hv
 split at hv
 ·rename_i b off f hf
  obtain ⟨fs, hu, hi⟩ := ζbe hf
  cases ha with
  | ptr _ _ m hm =>
   split at hv
   ·rename_i n hn
    injection hv with hv
    subst hv
    refine ⟨.pointer (some ⟨m.blk, m.base + (off + f.offset), none⟩), ?_, VR.ptr b _ m hm⟩
    simp [Instr.fieldAt, run_underlying hu, hi, Instr.sureAddr, fieldPlace, ζ1u hn, add_at, Nat.add_assoc]
   ·cases hv
 ·rename_i cs _ f hf
  obtain ⟨fs, hu, hi⟩ := ζbe hf
  cases ha with
  | box _ _ _ _ _ blk off cs2 el fz hz hl h0 h2 =>
   split at hv
   ·rename_i n hn
    split at hv
    ·rename_i hle
     injection hv with hv
     subst hv
     refine ⟨.pointer (some ⟨blk, off + f.offset, none⟩), ?_, VR.box _ _ _ _ _ blk _ cs2 el fz hz ?_ (ζ84 h0 _ _) (ζbv h2 _ _)⟩
     ·simp [Instr.fieldAt, run_underlying hu, hi, Instr.sureAddr, fieldPlace, ζ1u hn, add_at]
     ·rw [ζ5p _ _ _ hle]; omega
    ·cases hv
   ·cases hv
 ·cases hv
theorem VR.ζmx {μ : Mu} {cs cs' : Array Value} (h : VR μ (.agg cs) (.agg cs')) (a b : Nat) : VR μ (.agg (cs.extract a b)) (.agg (cs'.extract a b)) := by
 cases h with
 | agg _ _ h0 h1 h2 =>
  refine .agg _ _ (fun v hv => h0 v ?_) (by simp [h1]) fun i v v' hv hv' => ?_
  ·rw [Array.toList_extract] at hv
   exact List.mem_of_mem_drop (List.mem_of_mem_take hv)
  ·rw [Array.getElem?_extract] at hv hv'
   split at hv
   ·split at hv'
    ·exact h2 _ _ _ hv hv'
    ·cases hv'
   ·cases hv
theorem part_sim {μ : Mu} {t : TypeId} {cs cs' : Array Value} {off : Nat} {v : Value} (h : VR μ (.agg cs) (.agg cs')) (hv : partV P t cs off = some v) (w : World) :
  ∃ v', (part t cs' off).run P w = .ok v' w ∧ VR μ v v' := by
 unfold partV at hv
 split at hv
 ·rename_i n ht hn
  injection hv with hv
  subst hv
  exact ⟨_, by simp [part, ζah ht, ζ1u hn], h.ζmx _ _⟩
 ·rename_i ht
  cases h with
  | agg _ _ h0 h1 h2 =>
   obtain ⟨v', e, r⟩ := (VRs.of_arr h1 h2).get (by simpa using hv)
   have e : cs'[off]? = some v' := by simpa using e
   exact ⟨v', by simp [part, ζah ht, e], r⟩
 ·cases hv
theorem VR.agg_inv {μ : Mu} {cs : Array Value} {x : Value} (h : VR μ (.agg cs) x) : ∃ cs', x = .agg cs' := by cases h; exact ⟨_, rfl⟩
theorem ζpw {μ : Mu} {s : TypeId} {x x' v : Value} {i : Nat} (hx : VR μ x x') (hv : fieldV P s x i = some v) (w : World) :
  ∃ v', (Instr.field s x' i).run P w = .ok v' w ∧ VR μ v v' := by
 unfold fieldV at hv
 split at hv
 ·rename_i cs f hf
  obtain ⟨fs, hu, hi⟩ := ζbe hf
  obtain ⟨cs', rfl⟩ := hx.agg_inv
  obtain ⟨v', e, r⟩ := part_sim hx hv w
  exact ⟨v', by simp [Instr.field, run_underlying hu, hi, asAgg, e], r⟩
 ·cases hv
theorem ζkg {μ : Mu} {t : TypeId} {x x' ix ix' v : Value} (hx : VR μ x x') (hi : VR μ ix ix') (hv : indexAddrV P t x ix = some v) (w : World) :
  ∃ v', (Instr.indexAt t x' ix').run P w = .ok v' w ∧ VR μ v v' := by
 unfold indexAddrV at hv
 split at hv
 rotate_left
 ·cases hv
 rename_i k i
 cases hi
 split at hv
 ·rename_i len elem b off hu
  cases hx with
  | ptr _ _ m hm =>
   split at hv
   ·rename_i n hn
    split at hv
    ·rename_i hb
     injection hv with hv
     subst hv
     refine ⟨.pointer (some ⟨m.blk, m.base + (off + i.toNat * n), none⟩), ?_, VR.ptr b _ m hm⟩
     simp [Instr.indexAt, asIntOf, run_underlying hu, Instr.sureAddr, hb.1, hb.2, ζ1u hn, add_at, Nat.add_assoc]
    ·cases hv
   ·cases hv
 ·rename_i elem b off len cap hu
  cases hx with
  | slice _ _ off' _ _ cap' m hm hl hc ho hxx =>
   split at hv
   ·rename_i n hn
    split at hv
    ·rename_i hb
     injection hv with hv
     subst hv
     have hpos : off' = m.base + off := ho.resolve_left (by omega)
     subst hpos
     refine ⟨.pointer (some ⟨m.blk, m.base + (off + i.toNat * n), none⟩), ?_, VR.ptr b _ m hm⟩
     simp [Instr.indexAt, asIntOf, run_underlying hu, hb.1, hb.2, ζ1u hn, add_at, Nat.add_assoc]
    ·cases hv
   ·cases hv
 ·rename_i len elem _ _ _ cs _ hu
  cases hx with
  | box _ _ _ _ _ blk off cs2 el fz hz hl h0 h2 =>
   split at hv
   ·rename_i n hn
    split at hv
    ·rename_i hb
     injection hv with hv
     subst hv
     refine ⟨.pointer (some ⟨blk, off + i.toNat * n, none⟩), ?_, VR.box _ _ _ _ _ blk _ cs2 el fz hz ?_ (ζ84 h0 _ _) (ζbv h2 _ _)⟩
     ·simp [Instr.indexAt, asIntOf, run_underlying hu, Instr.sureAddr, hb.1, hb.2.1, ζ1u hn, add_at]
     ·rw [ζ5p _ _ _ hb.2.2]; omega
    ·cases hv
   ·cases hv
 ·rename_i elem len _ _ cs _ hu
  cases hx with
  | list _ _ _ _ _ blk off cap cs2 el fz hz hl hc hg h0 h2 =>
   split at hv
   ·rename_i n hn
    split at hv
    ·rename_i hb
     injection hv with hv
     subst hv
     refine ⟨.pointer (some ⟨blk, off + i.toNat * n, none⟩), ?_, VR.box _ _ _ _ _ blk _ cs2 el fz hz ?_ (ζ84 h0 _ _) (ζbv h2 _ _)⟩
     ·simp [Instr.indexAt, asIntOf, run_underlying hu, hb.1, hb.2.1, ζ1u hn, add_at]
     ·rw [ζ5p _ _ _ hb.2.2]; omega
    ·cases hv
   ·cases hv
  | empty _ _ _ _ a cap hn hs =>
   split at hv
   ·split at hv
    ·rename_i hb
     exfalso
     have h1 := hb.1
     have h2 := hb.2.1
     omega
    ·cases hv
   ·cases hv
 ·cases hv
theorem ζq0 {μ : Mu} {t : TypeId} {x x' ix ix' v : Value} (hx : VR μ x x') (hi : VR μ ix ix') (hv : indexV P t x ix = some v) (w : World) :
  ∃ v', (Instr.index t x' ix').run P w = .ok v' w ∧ VR μ v v' := by
 unfold indexV at hv
 split at hv
 rotate_left
 ·cases hv
 rename_i k i
 cases hi
 split at hv
 ·rename_i len elem cs hu
  obtain ⟨cs', rfl⟩ := hx.agg_inv
  split at hv
  ·rename_i n hn
   split at hv
   ·rename_i hb
    obtain ⟨v', e, r⟩ := part_sim hx hv w
    exact ⟨v', by simp [Instr.index, asIntOf, run_underlying hu, hb.1, hb.2, ζ1u hn, e], r⟩
   ·cases hv
  ·cases hv
 ·rename_i s hu
  cases hx
  split at hv
  ·rename_i h0
   cases hs : s[i.toNat]? with
   | none => simp [hs] at hv
   | some c =>
    simp [hs] at hv
    subst hv
    exact ⟨_, by simp [Instr.index, asIntOf, run_underlying hu, h0, hs], .int _ _⟩
  ·cases hv
 ·cases hv
theorem ζ72 {μ : Mu} {v v' : Value} {d n : Nat} (h : VR μ v v') (hb : boundOf (some v) d = some n) : ∃ k i, v' = .int k i ∧ 0 ≤ i ∧ n = i.toNat := by
 unfold boundOf at hb
 split at hb
 ·rename_i hh; cases hh
 ·rename_i k i hh
  injection hh with hh
  subst hh
  cases h
  split at hb
  ·rename_i h0
   injection hb with hb
   exact ⟨k, i, rfl, h0, hb.symm⟩
  ·cases hb
 ·cases hb
def VRo (μ : Mu) : Option Value → Option Value → Prop
 | none, none => True
 | some a, some b => VR μ a b
 | _, _ => False
theorem ζag {k : IntKind} {i : Int} {y : Nat} (code : BoundsCode) (h0 : 0 ≤ i) (h1 : i.toNat ≤ y) (w : World) : (Instr.sliceBound (.int k i) y code).run P w = .ok i.toNat w := by
 have : i ≤ (y : Int) := by omega
 simp [Instr.sliceBound, asIntOf, h0, this]
theorem ζ36 {μ : Mu} {lo lo' hi hi' mx mx' : Option Value} (hlo : VRo μ lo lo') (hhi : VRo μ hi hi') (hmx : VRo μ mx mx') {len cap cap' m h l : Nat} (isS : Bool)
  (hm : boundOf mx cap = some m) (hh : boundOf hi len = some h) (hl : boundOf lo 0 = some l) (hc : cap ≤ cap') (c1 : m ≤ cap) (c2 : h ≤ m) (c3 : l ≤ h) (c4 : mx.isSome → hi.isSome) (w : World) :
  ∃ m', (Instr.sliceBounds isS len cap' lo' hi' mx').run P w = .ok (l, h, m') w ∧ m ≤ m' ∧ m' ≤ cap' ∧ (mx = none → m = cap ∧ m' = cap') ∧ (mx ≠ none → m' = m) := by
 cases mx with
 | none =>
  cases mx' with
  | some _ => exact hmx.elim
  | none =>
   simp [boundOf] at hm
   subst hm
   refine ⟨cap', ?_, hc, Nat.le_refl _, fun _ => ⟨rfl, rfl⟩, fun h => absurd rfl h⟩
   cases hi with
   | none =>
    cases hi' with
    | some _ => exact hhi.elim
    | none =>
     simp [boundOf] at hh
     subst hh
     cases lo with
     | none =>
      cases lo' with
      | some _ => exact hlo.elim
      | none => simp [boundOf] at hl; subst hl; simp [Instr.sliceBounds]
     | some lv =>
      cases lo' with
      | none => exact hlo.elim
      | some lv' =>
       obtain ⟨k, i, rfl, h0, rfl⟩ := ζ72 hlo hl
       simp [Instr.sliceBounds, ζag _ h0 c3]
   | some hv =>
    cases hi' with
    | none => exact hhi.elim
    | some hv' =>
     obtain ⟨k, i, rfl, h0, rfl⟩ := ζ72 hhi hh
     have hb := ζag (P := P) (k := k) (if isS then .sliceAcap else .sliceAlen) h0 (Nat.le_trans c2 hc) w
     cases lo with
     | none =>
      cases lo' with
      | some _ => exact hlo.elim
      | none => simp [boundOf] at hl; subst hl; simp [Instr.sliceBounds, hb]
     | some lv =>
      cases lo' with
      | none => exact hlo.elim
      | some lv' =>
       obtain ⟨k, i, rfl, h0, rfl⟩ := ζ72 hlo hl
       simp [Instr.sliceBounds, hb, ζag _ h0 c3]
 | some mv =>
  cases mx' with
  | none => exact hmx.elim
  | some mv' =>
   obtain ⟨km, im, rfl, hm0, rfl⟩ := ζ72 hmx hm
   refine ⟨im.toNat, ?_, Nat.le_refl _, Nat.le_trans c1 hc, (fun h => by cases h), fun _ => rfl⟩
   have hbm := ζag (P := P) (k := km) (if isS then .slice3Acap else .slice3Alen) hm0 (Nat.le_trans c1 hc) w
   cases hi with
   | none => simp at c4
   | some hv =>
    cases hi' with
    | none => exact hhi.elim
    | some hv' =>
     obtain ⟨k, i, rfl, h0, rfl⟩ := ζ72 hhi hh
     have hb := ζag (P := P) (k := k) .slice3B h0 c2 w
     cases lo with
     | none =>
      cases lo' with
      | some _ => exact hlo.elim
      | none => simp [boundOf] at hl; subst hl; simp [Instr.sliceBounds, hbm, hb]
     | some lv =>
      cases lo' with
      | none => exact hlo.elim
      | some lv' =>
       obtain ⟨k, i, rfl, h0, rfl⟩ := ζ72 hlo hl
       simp [Instr.sliceBounds, hbm, hb, ζag _ h0 c3]
theorem ζqm {w0 : Base} {μ : Mu} {H : Heap} {w : World} (hr : HR w0 μ H w) {t : TypeId} {x x' v : Value} {lo lo' hi hi' mx mx' : Option Value} (hx : VR μ x x') (hlo : VRo μ lo lo') (hhi : VRo μ hi hi') (hmx : VRo μ mx mx')
  (hv : sliceV P t x lo hi mx H = some v) : ∃ v', (Instr.sliceAt t x' lo' hi' mx').run P w = .ok v' w ∧ VR μ v v' := by
 unfold sliceV at hv
 split at hv
 ·rename_i elem a len cap hu
  split at hv
  rotate_left
  ·cases hv
  rename_i size m h l hsz hm hh hl
  split at hv
  rotate_left
  ·cases hv
  rename_i hc
  obtain ⟨c1, c2, c3, c4⟩ := hc
  split at hv
  ·injection hv with hv
   subst hv
   cases hx
   obtain ⟨m', hrun, k1, k2, _, _⟩ := ζ36 (P := P) hlo hhi hmx true hm hh hl (Nat.le_refl 0) c1 c2 c3 c4 w
   have e1 : m' = 0 := by omega
   have e2 : h = 0 := by omega
   have e3 : l = 0 := by omega
   subst e1 e2 e3
   exact ⟨.slice none 0 0, by simp [Instr.sliceAt, Instr.slice, run_underlying hu, hrun, ζ1u hsz], .nilSlice⟩
  ·rename_i b off
   split at hv
   rotate_left
   ·cases hv
   rename_i hok
   injection hv with hv
   subst hv
   cases hx with
   | slice _ _ off' _ _ cap' mb hmb hlc hcc hoo hxx =>
    obtain ⟨m', hrun, k1, k2, k3, k4⟩ := ζ36 (P := P) hlo hhi hmx true hm hh hl hcc c1 c2 c3 c4 w
    by_cases hml : m' = l
    ·subst hml
     refine ⟨.slice (some ⟨mb.blk, off', none⟩) (h - m') (m' - m'), by simp [Instr.sliceAt, Instr.slice, run_underlying hu, hrun, ζ1u hsz], ?_⟩
     have e1 : h = m' := by omega
     have e2 : m = m' := by omega
     rw [e1, e2]
     exact VR.slice b _ off' _ _ _ mb hmb (by omega) (by omega) (.inl (by omega)) (.inl (by omega))
    ·have hpos : off' = mb.base + off := hoo.resolve_left (by omega)
     subst hpos
     refine ⟨.slice (some ⟨mb.blk, mb.base + off + l * size, none⟩) (h - l) (m' - l), by simp [Instr.sliceAt, Instr.slice, run_underlying hu, hrun, ζ1u hsz, hml, add_at], ?_⟩
     refine VR.slice b _ _ _ _ _ mb hmb (by omega) (by omega) (.inr (by omega)) ?_
     by_cases hmn : mx = none
     ·obtain ⟨q1, q2⟩ := k3 hmn
      subst q1 q2
      rcases hxx with hxx | hxx | hxx
      ·exact .inl (by omega)
      ·exact .inr (.inl hxx)
      ·unfold openOk at hok
       subst hmn
       simp only [Option.isSome_none, Bool.false_or] at hok
       split at hok
       ·rename_i k hk
        obtain ⟨mb2, hmb2, hB⟩ := hr.blk b k hk
        rw [hmb] at hmb2; injection hmb2 with hmb2; subst hmb2
        simp only [Bool.or_eq_true, beq_iff_eq] at hok
        rcases hok with hok | hok
        ·exact .inr (.inl (by rw [hB.ro]; exact hok))
        ·refine .inr (.inr ?_)
         have : mb.esz = size := hB.esz.trans hok
         rw [this] at hxx ⊢
         have : l * size + (m' - l) * size = m' * size := by rw [← Nat.add_mul]; congr 1; omega
         omega
       ·cases hok
     ·exact .inl (by rw [k4 hmn])
  ·injection hv with hv
   subst hv
   have fin : ∀ a' : Option Addr, x' = .slice a' 0 0 → len = 0 → cap = 0 → ∃ v', (Instr.sliceAt t x' lo' hi' mx').run P w = .ok v' w ∧ VR μ emptyV v' := fun a' hx' hl0 hc0 => by
    subst hx' hl0 hc0
    obtain ⟨m', hrun, k1, k2, k3, k4⟩ := ζ36 (P := P) hlo hhi hmx true hm hh hl (Nat.le_refl 0) c1 c2 c3 c4 w
    have e1 : m' = 0 := by omega
    have e2 : h = 0 := by omega
    have e3 : l = 0 := by omega
    subst e1 e2 e3
    exact ⟨.slice a' 0 0, by simp [Instr.sliceAt, Instr.slice, run_underlying hu, hrun, ζ1u hsz], .unsure _⟩
   cases hx with
   | bare a => exact fin _ rfl rfl rfl
   | unsure a => exact fin _ rfl rfl rfl
 ·rename_i n elem b off hu
  split at hv
  rotate_left
  ·cases hv
  rename_i size m h l hsz hm hh hl
  split at hv
  rotate_left
  ·cases hv
  rename_i hc
  obtain ⟨c1, c2, c3, c4⟩ := hc
  injection hv with hv
  subst hv
  cases hx with
  | ptr _ _ mb hmb =>
   obtain ⟨m', hrun, k1, k2, k3, k4⟩ := ζ36 (P := P) hlo hhi hmx false hm hh hl (Nat.le_refl n) c1 c2 c3 c4 w
   have hmm : m' = m := by
    by_cases hmn : mx = none
    ·obtain ⟨q1, q2⟩ := k3 hmn; omega
    ·exact k4 hmn
   subst hmm
   by_cases hml : m' = l
   ·subst hml
    have e1 : h = m' := by omega
    subst e1
    refine ⟨.slice (some ⟨mb.blk, mb.base + off, none⟩) (h - h) (h - h), by simp [Instr.sliceAt, run_underlying hu, hrun, ζ1u hsz, Instr.sureAddr], ?_⟩
    exact VR.slice b _ _ _ _ _ mb hmb (by omega) (by omega) (.inl (by omega)) (.inl (by omega))
   ·refine ⟨.slice (some ⟨mb.blk, mb.base + off + l * size, none⟩) (h - l) (m' - l), by simp [Instr.sliceAt, run_underlying hu, hrun, ζ1u hsz, Instr.sureAddr, hml, add_at], ?_⟩
    exact VR.slice b _ _ _ _ _ mb hmb (by omega) (by omega) (.inr (by omega)) (.inl rfl)
 ·rename_i elem len _ _ cs _ hu
  split at hv
  rotate_left
  ·cases hv
  rename_i size m h l hsz hm hh hl
  split at hv
  rotate_left
  ·cases hv
  rename_i hc
  obtain ⟨c1, c2, c3, c4, c5⟩ := hc
  injection hv with hv
  subst hv
  cases hx with
  | list _ _ _ _ _ blk off cap cs2 el fz hz hlc hcc hg h0 h2 =>
   obtain ⟨m', hrun, k1, k2, k3, k4⟩ := ζ36 (P := P) hlo hhi hmx true hm hh hl hcc c1 c2 c3 c4 w
   by_cases hml : m' = l
   ·refine ⟨.slice (some ⟨blk, off, none⟩) (h - l) (m' - l), by simp [Instr.sliceAt, Instr.slice, run_underlying hu, hrun, ζ1u hsz, hml], ?_⟩
    have e1 : h - l = 0 := by omega
    rw [e1]
    exact VR.empty _ _ _ _ _ _ (fun h => by cases h) (fun h => by cases h)
   ·refine ⟨.slice (some ⟨blk, off + l * size, none⟩) (h - l) (m' - l), by simp [Instr.sliceAt, Instr.slice, run_underlying hu, hrun, ζ1u hsz, hml, add_at], ?_⟩
    have hle : l * size ≤ h * size := Nat.mul_le_mul_right _ c3
    refine VR.list _ _ _ _ _ blk _ _ cs2 el fz hz ?_ (by omega) (by decide) (ζ84 h0 _ _) (ζbv h2 _ _)
    rw [ζ5p _ _ _ c5]; omega
  | empty _ _ _ _ a cap hn hs =>
   obtain ⟨m', hrun, k1, k2, k3, k4⟩ := ζ36 (P := P) hlo hhi hmx true hm hh hl (Nat.zero_le cap) c1 c2 c3 c4 w
   have e1 : h = 0 := by omega
   have e2 : l = 0 := by omega
   subst e1 e2
   refine ⟨.slice (if m' = 0 then a else a.map (·.add (0 * size))) 0 (m' - 0), by simp [Instr.sliceAt, Instr.slice, run_underlying hu, hrun, ζ1u hsz], ?_⟩
   refine VR.empty _ _ _ _ _ _ (fun he => ?_) (fun h => by cases h)
   by_cases hm0 : m' = 0
   ·exact ⟨by omega, by decide⟩
   ·rw [if_neg hm0] at he
    cases a with
    | none => have := (hn rfl).1; omega
    | some q => cases he
 ·rename_i s hu
  split at hv
  ·rename_i h l hh hl
   split at hv
   ·rename_i hc
    injection hv with hv
    subst hv
    cases hx
    obtain ⟨m', hrun, k1, k2, k3, k4⟩ := ζ36 (P := P) (mx := none) (mx' := mx') hlo hhi hmx false (cap := s.size) rfl hh hl (Nat.le_refl s.size) (Nat.le_refl _) hc.1 hc.2 (by simp) w
    cases mx' with
    | some _ => exact hmx.elim
    | none => exact ⟨.string (s.extract l h), by simp [Instr.sliceAt, Instr.slice, run_underlying hu, hrun], .string _⟩
   ·cases hv
  ·cases hv
 ·cases hv
theorem ζoe {op : BinOp} {k : IntKind} {a b : Int} {v : Value} (μ : Mu) (hv : intBin op k a b = some v) (t : TypeId) (w : World) (hop : op ≠ .shl ∧ op ≠ .shr) : (binOp op t (.int k a) (.int k b)).run P w = .ok v w ∧ VR μ v v := by
  unfold intBin at hv
  split at hv <;> first
    | (split at hv
       · cases hv
       · rename_i hb
         injection hv with hv; subst hv
         exact ⟨by simp [binOp, Op.intDiv, hb], .int _ _⟩)
    | (injection hv with hv; subst hv
       refine ⟨by simp [binOp, Op.intArith, Op.intBits, Op.intCmp], ?_⟩
       first | exact .int _ _ | exact .bool _)
    | cases hv
theorem ζmo {op : BinOp} {k k' : IntKind} {a b : Int} {v : Value} (μ : Mu) (hop : op = .shl ∨ op = .shr) (hv : shiftV op k a b = some v) (t : TypeId) (w : World) : (binOp op t (.int k a) (.int k' b)).run P w = .ok v w ∧ VR μ v v := by
 unfold shiftV at hv
 split at hv
 ·cases hv
 ·rename_i hb
  rcases hop with rfl | rfl <;> (injection hv with hv; subst hv; exact ⟨by simp [binOp, Op.shift, hb], .int _ _⟩)
theorem ζhf {μ : Mu} (d : Nat) (E : TypeId → Value → Value → Option Bool) (hE : ∀ t x x' y y' r, VR μ x x' → VR μ y y' → E t x y = some r → ∀ w, (Op.equalIn d t x' y').run P w = .ok r w)
  {xs ys xs' ys' : Array Value} (hx : VR μ (.agg xs) (.agg xs')) (hy : VR μ (.agg ys) (.agg ys')) : ∀ (fs : List Field) (r : Bool), eqFields P E xs ys fs = some r → ∀ w, (Op.eqFields d xs' ys' fs).run P w = .ok r w
 | [], r, h, w => by simp [eqFields] at h; subst h; simp [Op.eqFields]
 | f :: fs, r, h, w => by
  simp only [eqFields] at h
  split at h
  ·cases h
  ·rename_i hf
   have hf : f.name ≠ "_" := by simpa using hf
   split at h
   ·rename_i a b ha hb
    obtain ⟨a', ea, ra⟩ := part_sim hx ha w
    obtain ⟨b', eb, rb⟩ := part_sim hy hb w
    split at h
    ·rename_i hE1
     have := hE _ _ _ _ _ _ ra rb hE1 w
     simp [Op.eqFields, hf, ea, eb, this, ζhf d E hE hx hy fs r h w]
    ·rename_i hne
     cases r with
     | true => exact (hne h).elim
     | false =>
      have := hE _ _ _ _ _ _ ra rb h w
      simp [Op.eqFields, hf, ea, eb, this]
   ·cases h
set_option maxHeartbeats 1000000 in
theorem eq_sim {μ : Mu} : ∀ (d : Nat) (t : TypeId) (x x' y y' : Value) (r : Bool), VR μ x x' → VR μ y y' → eqV P d t x y = some r → ∀ w e, (Op.equalIn (d + e) t x' y').run P w = .ok r w
 | 0, t, x, x', y, y', r, _, _, h, _, _ => by simp [eqV] at h
 | d + 1, t, x, x', y, y', r, hx, hy, h, w, e => by
  have he : d + 1 + e = (d + e) + 1 := by omega
  rw [he]
  unfold eqV at h
  split at h
  ·rename_i a b hu; injection h with h; subst h; cases hx; cases hy; simp [Op.equalIn, run_underlying hu]
  ·rename_i k a k' b hu
   split at h
   ·rename_i hk; injection h with h; subst h; subst hk; cases hx; cases hy; simp [Op.equalIn, run_underlying hu]
   ·cases h
  ·rename_i a b hu; injection h with h; subst h; cases hx; cases hy; simp [Op.equalIn, run_underlying hu]
  ·rename_i b hu; injection h with h; subst h; cases hx; cases hy <;> simp [Op.equalIn, run_underlying hu]
  ·rename_i a hu; injection h with h; subst h; cases hx; cases hy; simp [Op.equalIn, run_underlying hu]
  ·rename_i a b c d hu; cases hx; cases hy <;> simp [nilS] at h <;> subst h <;> simp [Op.equalIn, run_underlying hu]
  ·rename_i a b c d hu; cases hx <;> cases hy <;> simp [nilS] at h <;> subst h <;> simp [Op.equalIn, run_underlying hu]
  ·rename_i hu; injection h with h; subst h; cases hx; cases hy; simp [Op.equalIn, run_underlying hu]
  ·rename_i hu; injection h with h; subst h; cases hx; cases hy; simp [Op.equalIn, run_underlying hu]
  ·rename_i hu; injection h with h; subst h; cases hx; cases hy; simp [Op.equalIn, run_underlying hu]
  ·rename_i hu; injection h with h; subst h; cases hy; cases hx with
   | list _ _ _ _ _ blk off cap cs2 el fz hz hl hc hg h0 h2 => simp [Op.equalIn, run_underlying hu]
   | empty _ _ _ _ a cap hn hs =>
    cases a with
    | none => exact absurd rfl (hn rfl).2
    | some q => simp [Op.equalIn, run_underlying hu]
  ·rename_i hu; injection h with h; subst h; cases hy; cases hx with
   | list _ _ _ _ _ blk off cap cs2 el fz hz hl hc hg h0 h2 => exact absurd rfl hg
   | empty _ _ _ _ a cap hn hs =>
    have := hs rfl
    subst this
    simp [Op.equalIn, run_underlying hu]
  ·rename_i hu; injection h with h; subst h; cases hx; cases hy; simp [Op.equalIn, run_underlying hu]
  ·rename_i b hu; injection h with h; subst h; cases hx; cases hy <;> simp [Op.equalIn, run_underlying hu]
  ·rename_i a hu; injection h with h; subst h; cases hx; cases hy; simp [Op.equalIn, run_underlying hu]
  ·rename_i fs xs ys hu
   split at h
   ·cases h
   ·rename_i hst
    obtain ⟨xs', rfl⟩ := hx.agg_inv
    obtain ⟨ys', rfl⟩ := hy.agg_inv
    have hfo : P.fieldsOf t = fs := by simp [Program.fieldsOf, hu]
    rw [run_equalIn_struct w (d + e) t xs' ys' (by rw [hfo]; exact hu) (by simpa using hst), hfo]
    exact ζhf (d + e) (eqV P d) (fun t x x' y y' r a b c w => eq_sim d t x x' y y' r a b c w e) hx hy fs.toList r h w
  ·cases h
theorem ζc8 {op : BinOp} (t : TypeId) (x y : Operand) (a b : Value) (h : op ≠ .eql ∧ op ≠ .neq) (w : World) : (eqGuard op t x y a b).run P w = .ok () w := by
 cases op <;> simp_all [eqGuard]
theorem ζ3r {op : BinOp} (t : TypeId) (x y : Operand) (a b : Value) (h : ∀ c, a ≠ .agg c) (h2 : a ≠ .nilIface) (w : World) : (eqGuard op t x y a b).run P w = .ok () w := by
 cases op <;> simp only [eqGuard] <;> first | (simp; done) | (cases a <;> simp_all)
theorem ζi0 {op : BinOp} (t : TypeId) (x y : Operand) (xs ys : Array Value) (hm : P.eqGuardType P.depth t = false) (w : World) : (eqGuard op t x y (.agg xs) (.agg ys)).run P w = .ok () w := run_eqGuard_agg w op t x y xs ys hm
theorem ζmn {μ : Mu} {t : TypeId} {x x' y y' : Value} {r : Bool} (hx : VR μ x x') (hy : VR μ y y') (h : eqV P eqDepth t x y = some r) (w : World) : (Op.equal t x' y').run P w = .ok r w := by
 have := eq_sim eqDepth t x x' y y' r hx hy h w 9992
 exact this
theorem ζl4 {t : TypeId} {x y : Value} {r : Bool} {w : World} (h : (Op.equal t x y).run P w = .ok r w) (hx : ∀ k n, x ≠ .int k n) (hf : ∀ k n, x ≠ .float k n) (hc : ∀ k a b, x ≠ .complex k a b) (hs : ∀ s, x ≠ .string s) :
  (binOp .eql t x y).run P w = .ok (.bool r) w ∧ (binOp .neq t x y).run P w = .ok (.bool (!r)) w := by
 constructor <;> cases x <;> simp_all [binOp]
theorem bin_sim {μ : Mu} {op : BinOp} {t : TypeId} {x x' y y' v : Value} (hx : VR μ x x') (hy : VR μ y y') (hv : binV P op t x y = some v) (ox oy : Operand) (w : World) :
    ∃ v', (do eqGuard op t ox oy x' y'; binOp op t x' y' : Sem Value).run P w = .ok v' w ∧ VR μ v v' := by
  unfold binV at hv
  split at hv
  · cases hx; cases hy
    obtain ⟨h1, h2⟩ := ζmo (P := P) μ (.inl rfl) hv t w
    exact ⟨v, by rw [Sem.run_bind, ζc8 t ox oy _ _ (by simp) w]; exact h1, h2⟩
  · cases hx; cases hy
    obtain ⟨h1, h2⟩ := ζmo (P := P) μ (.inr rfl) hv t w
    exact ⟨v, by rw [Sem.run_bind, ζc8 t ox oy _ _ (by simp) w]; exact h1, h2⟩
  · rename_i k a k' b h1 h2
    split at hv
    · rename_i hk
      subst hk
      cases hx; cases hy
      obtain ⟨e1, e2⟩ := ζoe (P := P) μ hv t w ⟨by rintro rfl; simp at h1, by rintro rfl; simp at h2⟩
      exact ⟨v, by rw [Sem.run_bind, ζ3r t ox oy _ _ (by simp) (by simp) w]; exact e1, e2⟩
    · cases hv
  · injection hv with hv; subst hv; cases hx; cases hy
    exact ⟨_, by rw [Sem.run_bind, ζ3r t ox oy _ _ (by simp) (by simp) w]; simp [binOp, Op.stringOp, beq_toListBytes], .bool _⟩
  · injection hv with hv; subst hv; cases hx; cases hy
    exact ⟨_, by rw [Sem.run_bind, ζ3r t ox oy _ _ (by simp) (by simp) w]; simp [binOp, Op.stringOp, beq_toListBytes], .bool _⟩
  · injection hv with hv; subst hv; cases hx; cases hy
    exact ⟨_, by rw [Sem.run_bind, ζ3r t ox oy _ _ (by simp) (by simp) w]; simp [binOp, Op.stringOp], .bool _⟩
  all_goals
    first
      | cases hv
      | (split at hv
         · cases hv
         rename_i hg
         obtain ⟨r, hr, rfl⟩ := Option.map_eq_some_iff.1 hv
         obtain ⟨xs', rfl⟩ := hx.agg_inv
         obtain ⟨ys', rfl⟩ := hy.agg_inv
         have e := ζl4 (ζmn hx hy hr w) (by simp) (by simp) (by simp) (by simp)
         refine ⟨_, ?_, .bool _⟩
         rw [Sem.run_bind, ζi0 t ox oy _ _ (by simpa using hg) w]
         first | exact e.1 | exact e.2)
      | (obtain ⟨r, hr, rfl⟩ := Option.map_eq_some_iff.1 hv
         have e := ζl4 (ζmn hx hy hr w) (by cases hx <;> simp) (by cases hx <;> simp) (by cases hx <;> simp) (by cases hx <;> simp)
         refine ⟨_, ?_, .bool _⟩
         rw [Sem.run_bind, ζ3r t ox oy _ _ (by cases hx <;> simp) (by cases hx <;> simp) w]
         first | exact e.1 | exact e.2)
theorem un_sim {μ : Mu} {op : UnOp} {x x' v : Value} (hx : VR μ x x') (hv : unV op x = some v) (w : World) : (Op.unary op x').run P w = .ok v w ∧ VR μ v v := by
 unfold unV at hv
 split at hv
 ·injection hv with hv; subst hv; cases hx; exact ⟨by simp [Op.unary, Op.intArith], .int _ _⟩
 ·cases hx
  rename_i k n
  unfold intBin at hv
  simp only at hv
  injection hv with hv; subst hv
  exact ⟨by simp [Op.unary, Op.intBits], .int _ _⟩
 ·injection hv with hv; subst hv; cases hx; exact ⟨by simp [Op.unary], .bool _⟩
 ·cases hv
theorem conv_sim {μ : Mu} {src dst : TypeId} {x x' v : Value} (hx : VR μ x x') (hv : convV P dst x = some v) (hs : (P.underlying src).isSome) (w : World) : (convert src dst x').run P w = .ok v w ∧ VR μ v v := by
 unfold convV at hv
 split at hv
 ·rename_i k k2 n hu
  injection hv with hv; subst hv; cases hx
  obtain ⟨d, hd⟩ := Option.isSome_iff_exists.1 hs
  refine ⟨?_, .int _ _⟩
  simp only [convert, Sem.run_bind, run_underlying hd, run_underlying hu, Result.andThen_ok]
  cases d <;> simp [Conv.intToInt]
 ·cases hv
theorem ζ73 (f : Array Value → Value × Nat → Array Value) (a c : Array Value) : a.zipIdx.foldl f c = (a.toList.zipIdx 0).foldl f c := by
 rw [← Array.foldl_toList, Array.toList_zipIdx]
theorem fill_sim {μ : Mu} (place : Nat → Option (Nat × Nat)) : ∀ (ps ps' : List (Nat × Value)) (c c' r : Array Value), ps.length = ps'.length → (∀ (i : Nat) a a', ps[i]? = some a → ps'[i]? = some a' → a.1 = a'.1 ∧ VR μ a.2 a'.2 ∧ storable a.2 = true) →
  VRs μ c.toList c'.toList → Ones c.toList → Instr.fill place c ps = some r → ∃ r', Instr.fill place c' ps' = some r' ∧ VRs μ r.toList r'.toList ∧ Ones r.toList
 | [], ps', c, c', r, hl, _, hc, ho, h => by
  have : ps' = [] := List.length_eq_zero_iff.1 hl.symm
  subst this
  simp [Instr.fill] at h
  subst h
  exact ⟨c', rfl, hc, ho⟩
 | (i, v) :: ps, ps', c, c', r, hl, hp, hc, ho, h => by
  cases ps' with
  | nil => simp at hl
  | cons q ps' =>
   obtain ⟨j, v'⟩ := q
   obtain ⟨e1, hv, hst⟩ := hp 0 (i, v) (j, v') rfl rfl
   dsimp only at e1 hv hst
   subst e1
   simp only [Instr.fill] at h ⊢
   split at h
   ·cases h
   ·rename_i off size hpl
    split at h
    ·cases h
    ·rename_i hsz
     have hcells := hv.cells
     have hvs : v'.cells.size = v.cells.size := by have := hcells.1; simp at this; omega
     have hcs : c'.size = c.size := by have := hc.1; simp at this; omega
     rw [hvs, hcs, if_neg hsz]
     have key : ∀ (l l' : List Value) (k : Nat) (a a' : Array Value), VRs μ l l' → Ones l → VRs μ a.toList a'.toList → Ones a.toList →
       VRs μ ((l.zipIdx k).foldl (fun cs (c, j) => cs.setIfInBounds (off + j) c) a).toList ((l'.zipIdx k).foldl (fun cs (c, j) => cs.setIfInBounds (off + j) c) a').toList ∧
       Ones ((l.zipIdx k).foldl (fun cs (c, j) => cs.setIfInBounds (off + j) c) a).toList := by
      intro l
      induction l with
      | nil => intro l' k a a' hl _ ha hao; have := hl.nil_inv; subst this; exact ⟨ha, hao⟩
      | cons x l ih =>
       intro l' k a a' hl hlo ha hao
       obtain ⟨x', l'', rfl, hx, hl⟩ := hl.cons_inv
       simp only [List.zipIdx_cons, List.foldl_cons]
       have hxo := hlo x (by simp)
       refine ih l'' (k + 1) _ _ hl (fun u hu => hlo u (by simp [hu])) ⟨by simpa using ha.1, fun n u u' hu hu' => ?_⟩ (fun u hu => ?_)
       ·rw [Array.toList_setIfInBounds, List.getElem?_set] at hu hu'
        split at hu
        ·rename_i hn
         rw [if_pos hn] at hu'
         split at hu
         ·injection hu with hu
          split at hu'
          ·injection hu' with hu'; subst hu hu'; exact hx
          ·cases hu'
         ·cases hu
        ·rename_i hn
         rw [if_neg hn] at hu'
         exact ha.2 n u u' hu hu'
       ·rw [Array.toList_setIfInBounds] at hu
        rcases List.mem_or_eq_of_mem_set hu with h | h
        ·exact hao u h
        ·subst h; exact hxo
     have hk := key v.cells.toList v'.cells.toList 0 c c' hcells (hv.ζ62 hst) hc ho
     refine fill_sim place ps ps' _ _ r (by simpa using hl) (fun n a a' ha ha' => hp (n + 1) a a' (by simpa using ha) (by simpa using ha')) ?_ ?_ h
     ·have := hk.1
      rw [← ζ73, ← ζ73] at this
      exact this
     ·have := hk.2
      rw [← ζ73] at this
      exact this
end
end Go.Sw
end
section
namespace Go.Sw
open Go.RowKit
section
variable {P : Program}
theorem ζkn {w0 : Base} {μ : Mu} {H : Heap} {w : World} (h : HR w0 μ H w) (t : TypeId) (esz len : Nat) {cs cs' : List Value} (hr : VRs μ cs cs') (h1 : Ones cs) (_hl : len * esz ≤ cs.length) :
  ∃ μ', μ.le μ' ∧ HR w0 μ' (H.push ⟨cs, esz, false⟩) (w.alloc (.cells cs'.toArray t)) ∧ VR μ' (.slice (some ⟨H.n, 0, none⟩) len len) (.slice (some ⟨w.heap.size, 0, none⟩) len len) := by
 refine ⟨μ.set H.n ⟨w.heap.size, 0, cs'.length, esz, false⟩, Mu.le_set h.dom _, ?_, ?_⟩
 ·refine h.alloc cs cs'.toArray t esz cs'.length (by simp) (by rw [hr.1]; exact Nat.le_refl _) h1 (fun i v hv => ?_)
  obtain ⟨v', e, r⟩ := hr.get hv
  exact ⟨v', by simpa using e, r⟩
 ·exact VR.slice H.n 0 0 _ _ _ ⟨w.heap.size, 0, cs'.length, esz, false⟩ (by simp [Mu.set]) (Nat.le_refl _) (Nat.le_refl _) (.inr rfl) (.inl rfl)
theorem ζpl {μ : Mu} {t : TypeId} {ps ps' : List (Nat × Value)} {v : Value} (hl : ps.length = ps'.length) (hp : ∀ (i : Nat) a a', ps[i]? = some a → ps'[i]? = some a' → a.1 = a'.1 ∧ VR μ a.2 a'.2 ∧ storable a.2 = true)
  (hv : buildV P t ps = some v) (w : World) : ∃ v', (Instr.build t ps'.toArray).run P w = .ok v' w ∧ VR μ v v' := by
 unfold buildV at hv
 cases hz : zeroT P t with
 | none => simp [hz] at hv
 | some z =>
  simp only [hz, Option.bind_some] at hv
  have hzr : VRs μ z.cells.toList z.cells.toList := (VR.zero hz μ).cells
  have hzo : Ones z.cells.toList := (VR.zero hz μ).ζ62 (ζ4i hz).2.2
  obtain ⟨⟨i, hi, hiz⟩, _⟩ := ζ4i hz
  split at hv
  ·rename_i fs hu
   cases hpl : placesOf P t with
   | none => simp [hpl] at hv
   | some places =>
    simp only [hpl, Option.bind_some] at hv
    obtain ⟨r, hr, rfl⟩ := Option.map_eq_some_iff.1 hv
    obtain ⟨r', hr', hrr, hro⟩ := fill_sim _ ps ps' z.cells z.cells r hl hp hzr hzo hr
    have hb : P.built t ps' = some r' := by
     unfold Program.built
     have hpl' : fs.toList.mapM (fun f => (P.info? f.type).map fun i => (f.offset, i.size)) = some places := by
      unfold placesOf at hpl
      rw [hu] at hpl
      rw [← hpl]
      congr 1
      funext f
      unfold sizeT
      cases P.info? f.type <;> rfl
     rw [hi, hu]
     dsimp only
     rw [hiz, hpl']
     dsimp only
     rw [← hr']
     congr 1
     funext k
     simp
    refine ⟨.agg r', run_build w t ps'.toArray r' (by simpa using hb), ?_⟩
    exact .agg _ _ hro hrr.arr.1 hrr.arr.2
  ·rename_i n e hu
   cases hs : sizeT P e with
   | none => simp [hs] at hv
   | some s =>
    simp only [hs, Option.bind_some] at hv
    obtain ⟨r, hr, rfl⟩ := Option.map_eq_some_iff.1 hv
    obtain ⟨r', hr', hrr, hro⟩ := fill_sim _ ps ps' z.cells z.cells r hl hp hzr hzo hr
    have hb : P.built t ps' = some r' := by
     unfold Program.built
     cases hie : P.info? e with
     | none => unfold sizeT at hs; simp [hie] at hs
     | some ie =>
      have := ζcb hs hie
      subst this
      rw [hi, hu]
      dsimp only
      rw [hiz, hie]
      exact hr'
    refine ⟨.agg r', run_build w t ps'.toArray r' (by simpa using hb), ?_⟩
    exact .agg _ _ hro hrr.arr.1 hrr.arr.2
  ·cases hv
theorem ζbu (off : Nat) : ∀ (l : List (Value × Nat)) (c : Array Value), (l.foldl (fun cs (c, j) => cs.setIfInBounds (off + j) c) c).size = c.size
 | [], c => rfl
 | x :: l, c => by
  simp only [List.foldl_cons]
  rw [ζbu off l]
  simp
theorem ζj1 (place : Nat → Option (Nat × Nat)) : ∀ (ps : List (Nat × Value)) (c r : Array Value), Instr.fill place c ps = some r → r.size = c.size
 | [], c, r, h => by simp [Instr.fill] at h; subst h; rfl
 | (i, v) :: ps, c, r, h => by
  simp only [Instr.fill] at h
  split at h
  ·cases h
  ·split at h
   ·cases h
   ·rw [ζj1 place ps _ r h, ζ73, ζbu]
theorem ζjl {w0 : Base} {μ : Mu} {H H' : Heap} {w : World} (h : HR w0 μ H w) {t : TypeId} {len : Nat} {ps ps' : List (Nat × Value)} {v : Value} (hl : ps.length = ps'.length) (hp : ∀ (i : Nat) a a', ps[i]? = some a → ps'[i]? = some a' → a.1 = a'.1 ∧ VR μ a.2 a'.2 ∧ storable a.2 = true)
  (hv : buildSliceV P t len ps H = .ok v H') : ∃ μ' v' w', (Instr.buildSlice t len ps'.toArray).run P w = .ok v' w' ∧ μ.le μ' ∧ HR w0 μ' H' w' ∧ VR μ' v v' := by
 unfold buildSliceV at hv
 split at hv
 rotate_left
 ·cases hv
 rename_i e hu
 split at hv
 rotate_left
 ·cases hv
 rename_i n z hn hz
 split at hv
 rotate_left
 ·cases hv
 rename_i hb
 have hb := Nat.le_of_ble_eq_true hb
 split at hv
 rotate_left
 ·cases hv
 rename_i cs hcs
 obtain ⟨hzr, hzo⟩ := ζh9 hz μ
 obtain ⟨cs', hcs', hr, ho⟩ := fill_sim (fun i => some (i * n, n)) ps ps' z.toArray z.toArray cs hl hp (by simpa using hzr) (by simpa using hzo) hcs
 obtain ⟨zv, s, hz1, hz2, hz3, rfl⟩ := ζa4 hz
 rw [hn] at hz2; injection hz2 with hz2; subst hz2
 have hlen : cs.toList.length = len * n := by
  have := ζj1 _ _ _ _ hcs
  simp [ζ4v, hz3] at this
  simpa using this
 suffices hall : (Instr.buildSlice t len ps'.toArray).run P w = .ok (.slice (some ⟨w.heap.size, 0, none⟩) len len) (w.alloc (.cells cs' e)) by
  cases hb0 : Nat.beq len 0 with
  | true =>
   have := Nat.eq_of_beq_eq_true hb0
   subst this
   rw [hb0] at hv
   simp only [cond_true] at hv
   injection hv with hv hH
   subst hv hH
   exact ⟨μ, _, _, hall, Mu.le_refl _, h.extra _, .bare _⟩
  | false =>
   rw [hb0] at hv
   simp only [cond_false] at hv
   injection hv with hv hH
   subst hv hH
   obtain ⟨μ', hle, hR, hV⟩ := ζkn h e n len hr ho (by omega)
   have e1 : cs'.toList.toArray = cs' := by simp
   rw [e1] at hR
   exact ⟨μ', _, _, hall, hle, hR, hV⟩
 have hno : ¬ (2 ^ 24 < len * n) := by omega
 have harr : ((Array.range (len * n)).map fun i => (if len * n = 0 then (#[] : Array Value) else zv.cells)[i % (if len * n = 0 then (#[] : Array Value) else zv.cells).size]!) = (repeatCells zv.cells.toList len).toArray := by
  by_cases h0 : len * n = 0
  ·rw [h0]
   apply Array.ext'
   have : repeatCells zv.cells.toList len = [] := List.length_eq_zero_iff.1 (by rw [ζ4v]; simp [hz3, h0])
   simp [this]
  ·rw [if_neg h0]
   exact ζa3 zv.cells len (len * n) (by rw [hz3])
 simp only [Instr.buildSlice, Sem.run_bind, run_underlying hu, Result.andThen_ok, ζ1u hn, if_neg hno]
 by_cases h0 : len * n = 0
 ·simp only [if_pos h0] at harr
  rw [h0] at harr
  simp only [h0, if_true, Sem.run_bind, Sem.run_pure, Result.andThen_ok]
  rw [harr, hcs']
  simp [newRow]
 ·simp only [if_neg h0] at harr
  simp only [if_neg h0, Sem.run_bind, ζc9 hz1, Sem.run_pure, Result.andThen_ok]
  rw [harr, hcs']
  simp [newRow]
theorem ζkl {w0 : Base} {μ : Mu} {H H' : Heap} {w : World} (h : HR w0 μ H w) {t : TypeId} {l l' c c' v : Value} (hl : VR μ l l') (hc : VR μ c c') (hv : makeSliceV P t l c H = .ok v H') :
  ∃ μ' v' w', (Instr.makeSlice t l' c').run P w = .ok v' w' ∧ μ.le μ' ∧ HR w0 μ' H' w' ∧ VR μ' v v' := by
 unfold makeSliceV at hv
 split at hv
 rotate_left
 ·cases hv
 rename_i e k n k2 m hu
 cases hl; cases hc
 split at hv
 rotate_left
 ·cases hv
 rename_i s i hs hi
 split at hv
 rotate_left
 ·cases hv
 rename_i hb
 obtain ⟨h0, h1, h2, h3⟩ := hb
 subst h1
 split at hv
 rotate_left
 ·cases hv
 rename_i z hz
 injection hv with hv hH
 subst hv hH
 obtain ⟨hzr, hzo⟩ := ζh9 hz μ
 obtain ⟨zv, s2, hz1, hz2, hz3, rfl⟩ := ζa4 hz
 rw [hs] at hz2; injection hz2 with hz2; subst hz2
 obtain ⟨⟨i2, hi2, hiz⟩, _⟩ := ζ4i hz1
 rw [hi] at hi2; injection hi2 with hi2; subst hi2
 have hsi := ζcb hs hi
 have hlen : (repeatCells zv.cells.toList n.toNat).length = n.toNat * s := by rw [ζ4v]; simp [hz3]
 obtain ⟨μ', hle, hR, hV⟩ := ζkn h e s n.toNat hzr hzo (by omega)
 refine ⟨μ', _, _, ?_, hle, hR, hV⟩
 have hmul : (i.bytes : Int) * n ≤ 281474976710656 := by
  have : (i.bytes : Int) * n ≤ 2 ^ 10 * 2 ^ 31 := Int.mul_le_mul (by omega) (by omega) h0 (by omega)
  omega
 rw [run_make w t e i zv hu hi hiz k k2 n n h0 (Int.le_refl _) hmul (by omega)]
 congr 2
 congr 1
 unfold madeCells
 rw [hsi]
 exact ζa3 zv.cells n.toNat (n.toNat * s) (by rw [hz3])
theorem copy_sim {w0 : Base} {μ : Mu} {H H' : Heap} {w : World} (h : HR w0 μ H w) {ts : Array TypeId} {ty : TypeId} {args : List Value} {args' : Array Value} {v : Value} (ha : VRs μ args args'.toList) (hv : copyV P ts.toList args H = .ok v H') :
  ∃ v' w', (Builtin.copy_ ts ty args').run P w = .ok v' w' ∧ HR w0 μ H' w' ∧ VR μ v v' := by
 unfold copyV at hv
 split at hv
 rotate_left
 ·cases hv
 rename_i dT tl base dLen dCap src hts
 obtain ⟨s', r', e', hs', ha⟩ := ha.cons_inv
 obtain ⟨x', r'', rfl, hx', ha⟩ := ha.cons_inv
 have := ha.nil_inv
 subst this
 have e' := toList2 e'
 subst e'
 have ht0 : ts[0]? = some dT := by rw [← Array.getElem?_toList, hts]; rfl
 split at hv
 rotate_left
 ·cases hv
 rename_i e hu
 split at hv
 rotate_left
 ·cases hv
 rename_i size sn hs hln
 split at hv
 ·cases hv
 rename_i cs hcs
 have hlen : (Builtin.lenOf x').run P w = .ok sn w := lenV_sim hx' hln w
 obtain ⟨cs', hrun, hr, ho⟩ := ζbt (P := P) h hx' hcs (fun l hl => by rw [hln] at hl; injection hl with hl; omega)
 have hbase : ∃ base' dCap', s' = .slice base' dLen dCap' := by cases hs' <;> exact ⟨_, _, rfl⟩
 obtain ⟨base', dCap', rfl⟩ := hbase
 have hmin : Nat.min sn dLen = min sn dLen := rfl
 split at hv
 ·rename_i hnil
  injection hv with hv hH
  subst hv hH
  have hnil : cs = [] := by simpa using hnil
  subst hnil
  have := hr.nil_inv
  subst this
  refine ⟨_, w, ?_, h, .int _ _⟩
  cases base' <;> (simp [Builtin.copy_, ht0, run_underlying hu, hlen, ζ1u hs, hmin, hrun, storeCells, goInt]; omega)
 ·rename_i hnil
  split at hv
  rotate_left
  ·cases hv
  rename_i b off
  cases hp : putCells H b off cs with
  | stuck => simp [hp, Res.bind] at hv
  | panic q Hq => simp [hp, Res.bind] at hv
  | ok u H2 =>
   simp only [hp, Res.bind] at hv
   injection hv with hv hH
   subst hv hH
   cases hs' with
   | slice _ _ off' _ _ cap' m hm hl hc hoo hxx =>
    have hne : dLen ≠ 0 := by
     intro h0
     subst h0
     have := ζke hcs (fun l hl => by rw [hln] at hl; injection hl with hl; omega) hx'.ζmp
     simp at this
     exact hnil (by simpa using this)
    obtain ⟨w', hst, hR⟩ := ζbi (P := P) h hm hr ho hp (off' := off') (.inr (hoo.resolve_left (by omega)))
    refine ⟨_, w', ?_, hR, .int _ _⟩
    simp [Builtin.copy_, ht0, run_underlying hu, hlen, ζ1u hs, hmin, hrun, hst, goInt]
    omega
theorem ζpn {w0 : Base} {μ : Mu} {H H' : Heap} {w : World} (h : HR w0 μ H w) {ts : Array TypeId} {ty : TypeId} {args : List Value} {args' : Array Value} {v : Value} (ha : VRs μ args args'.toList) (hv : clearV P ts.toList args H = .ok v H') :
  ∃ v' w', (Builtin.clear_ ts ty args').run P w = .ok v' w' ∧ HR w0 μ H' w' ∧ VR μ v v' := by
 unfold clearV at hv
 split at hv
 rotate_left
 ·cases hv
 rename_i dT tl base n cap hts
 obtain ⟨s', r', e', hs', ha⟩ := ha.cons_inv
 have := ha.nil_inv
 subst this
 have e' : args' = #[s'] := by apply Array.ext'; simpa using e'
 subst e'
 have ht0 : ts[0]? = some dT := by rw [← Array.getElem?_toList, hts]; rfl
 have hu0 : VR μ undef undef := .tuple _ _ rfl (fun i v v' hv => by simp at hv)
 split at hv
 rotate_left
 ·cases hv
 rename_i e hu
 split at hv
 ·rename_i h0
  subst h0
  injection hv with hv hH
  subst hv hH
  refine ⟨undef, w, ?_, h, hu0⟩
  cases hs' with
  | unsure a => cases a <;> simp [Builtin.clear_, ht0, run_underlying hu, undef]
  | _ => simp [Builtin.clear_, ht0, run_underlying hu, undef]
 ·rename_i h0
  split at hv
  rotate_left
  ·cases hv
  rename_i b off z hz
  cases hp : putCells H b off z with
  | stuck => simp [hp, Res.bind] at hv
  | panic q Hq => simp [hp, Res.bind] at hv
  | ok u H2 =>
   simp only [hp, Res.bind] at hv
   injection hv with hv hH
   subst hv hH
   obtain ⟨hzr, hzo⟩ := ζh9 hz μ
   obtain ⟨zv, s2, hz1, hz2, hz3, rfl⟩ := ζa4 hz
   cases hs' with
   | slice _ _ off' _ _ cap' m hm hl hc hoo hxx =>
    obtain ⟨w', hst, hR⟩ := ζbi (P := P) h hm hzr hzo hp (off' := off') (.inr (hoo.resolve_left (by omega)))
    refine ⟨undef, w', ?_, hR, hu0⟩
    have hzc : (Builtin.zeroCells zv.cells n).toList = repeatCells zv.cells.toList n := by
     unfold Builtin.zeroCells
     rw [ζa3 zv.cells n _ rfl]
    obtain ⟨n', rfl⟩ : ∃ n', n = n' + 1 := ⟨n - 1, by omega⟩
    simp [Builtin.clear_, ht0, run_underlying hu, ζc9 hz1, hzc, hst, undef]
theorem len_sim {μ : Mu} {ts : Array TypeId} {ty : TypeId} {args : List Value} {args' : Array Value} {v : Value} (ha : VRs μ args args'.toList) (hv : lenB P ts.toList args = some v) (w : World) :
  (Builtin.len_ ts ty args').run P w = .ok v w ∧ VR μ v v := by
 unfold lenB at hv
 split at hv
 rotate_left
 ·cases hv
 rename_i t x hts
 obtain ⟨s', r', e', hs', ha⟩ := ha.cons_inv
 have := ha.nil_inv
 subst this
 have e' : args' = #[s'] := by apply Array.ext'; simpa using e'
 subst e'
 have ht0 : ts[0]? = some t := by rw [← Array.getElem?_toList, hts]; rfl
 split at hv
 ·rename_i s hu; injection hv with hv; subst hv; cases hs'; exact ⟨by simp [Builtin.len_, ht0, run_underlying hu, goInt], .int _ _⟩
 ·rename_i hu; injection hv with hv; subst hv; cases hs' <;> exact ⟨by simp [Builtin.len_, ht0, run_underlying hu, goInt], .int _ _⟩
 ·rename_i hu; injection hv with hv; subst hv; cases hs' <;> exact ⟨by simp [Builtin.len_, ht0, run_underlying hu, goInt], .int _ _⟩
 ·rename_i n e hu; injection hv with hv; subst hv; exact ⟨by simp [Builtin.len_, ht0, run_underlying hu, goInt], .int _ _⟩
 ·cases hv
theorem min_sim {μ : Mu} {ts : Array TypeId} {ty : TypeId} {args : List Value} {args' : Array Value} {v : Value} (ha : VRs μ args args'.toList) (hv : minB args = some v) (w : World) :
  (Builtin.min_ ts ty args').run P w = .ok v w ∧ VR μ v v := by
 unfold minB at hv
 split at hv
 ·rename_i k x k2 y
  injection hv with hv; subst hv
  obtain ⟨s', r', e', hs', ha⟩ := ha.cons_inv
  obtain ⟨x', r'', rfl, hx', ha⟩ := ha.cons_inv
  have := ha.nil_inv
  subst this
  cases hs'; cases hx'
  exact ⟨by simp [Builtin.min_, e', Builtin.min2], .int _ _⟩
 ·cases hv
theorem max_sim {μ : Mu} {ts : Array TypeId} {ty : TypeId} {args : List Value} {args' : Array Value} {v : Value} (ha : VRs μ args args'.toList) (hv : maxB args = some v) (w : World) :
  (Builtin.max_ ts ty args').run P w = .ok v w ∧ VR μ v v := by
 unfold maxB at hv
 split at hv
 ·rename_i k x k2 y
  injection hv with hv; subst hv
  obtain ⟨s', r', e', hs', ha⟩ := ha.cons_inv
  obtain ⟨x', r'', rfl, hx', ha⟩ := ha.cons_inv
  have := ha.nil_inv
  subst this
  cases hs'; cases hx'
  exact ⟨by simp [Builtin.max_, e', Builtin.max2], .int _ _⟩
 ·cases hv
end
end Go.Sw
end
section
namespace Go.Sw
open Go.RowKit
structure ER (μ : Mu) (nt : Nat) (e : Env) (tmps : Array Value) : Prop where
 size : nt ≤ tmps.size
 get : ∀ t v, e.get t = some v → ∃ v', tmps[t]? = some v' ∧ VR μ v v'
theorem ER.up {μ μ' : Mu} {nt : Nat} {e : Env} {tmps : Array Value} (hle : μ.le μ') (h : ER μ nt e tmps) : ER μ' nt e tmps :=
 ⟨h.size, fun t v hv => by obtain ⟨v', e, r⟩ := h.get t v hv; exact ⟨v', e, r.up hle⟩⟩
theorem Env.get_put (e : Env) (t : Nat) (v : Value) (s : Nat) : (e.put t v).get s = if s = t then some v else e.get s := by
 induction e with
 | nil =>
  simp only [Env.put, Env.get, beq_iff_eq]
  by_cases h : s = t
  ·simp [h]
  ·rw [if_neg (fun k => h k.symm), if_neg h]
 | cons x e ih =>
  obtain ⟨k, u⟩ := x
  simp only [Env.put]
  split
  ·rename_i hk
   have hk : k = t := by simpa using hk
   subst hk
   simp only [Env.get, beq_iff_eq]
   by_cases h : s = k
   ·simp [h]
   ·rw [if_neg (fun q => h q.symm), if_neg h, if_neg (fun q => h q.symm)]
  ·rename_i hk
   have hk : k ≠ t := by simpa using hk
   split
   ·simp only [Env.get, beq_iff_eq]
    by_cases h : s = t
    ·subst h; simp
    ·rw [if_neg (fun q => h q.symm), if_neg h]
   ·simp only [Env.get, beq_iff_eq]
    by_cases h : k = s
    ·subst h; simp [hk]
    ·rw [if_neg h, if_neg h, ih]
theorem Env.get_keep (ks : List Nat) (e : Env) {t : Nat} {v : Value} (h : (Env.keep ks e).get t = some v) : e.get t = some v := by
 induction e with
 | nil => exact h
 | cons x e ih =>
  obtain ⟨k, u⟩ := x
  simp only [Env.keep] at h
  split at h
  ·simp only [Env.get] at h ⊢
   split
   ·rename_i hk; rw [if_pos hk] at h; exact h
   ·rename_i hk; rw [if_neg hk] at h; exact ih h
  ·rename_i hc
   simp only [Env.get]
   split
   ·rename_i hk
    have hk : k = t := by simpa using hk
    subst hk
    exfalso
    have : ∀ e' : Env, (Env.keep ks e').get k = none := by
     intro e'
     induction e' with
     | nil => rfl
     | cons y e' ih' =>
      obtain ⟨k', u'⟩ := y
      simp only [Env.keep]
      split
      ·rename_i hk'
       simp only [Env.get]
       rw [if_neg]
       ·exact ih'
       ·intro q
        have q : k' = k := by simpa using q
        subst q
        exact hc hk'
      ·exact ih'
    rw [this e] at h
    cases h
   ·exact ih h
theorem ER.keep {μ : Mu} {nt : Nat} {e : Env} {tmps : Array Value} (h : ER μ nt e tmps) (ks : List Nat) : ER μ nt (Env.keep ks e) tmps :=
 ⟨h.size, fun t v hv => h.get t v (Env.get_keep ks e hv)⟩
theorem ER.put {μ : Mu} {nt : Nat} {e : Env} {a : Act} (h : ER μ nt e a.tmps) {d : Option Tmp} (hd : dstOk nt d = true) {v v' : Value} (hv : VR μ v v') : ER μ nt (putDst e d v) (a.put d v').tmps := by
 cases d with
 | none => exact h
 | some t =>
  have ht : @LT.lt Nat _ t nt := by
   simp only [dstOk] at hd
   exact Nat.le_of_ble_eq_true hd
  refine ⟨by simpa [Act.put] using h.size, fun s u hu => ?_⟩
  simp only [putDst, Env.get_put] at hu
  simp only [Act.put]
  have hsz := h.size
  by_cases hs : s = t
  ·rw [if_pos hs] at hu
   injection hu with hu
   subst hu
   subst hs
   have hlt : s < a.tmps.size := by omega
   exact ⟨v', by simp [hlt], hv⟩
  ·rw [if_neg hs] at hu
   obtain ⟨u', e1, r⟩ := h.get s u hu
   exact ⟨u', by rw [Array.getElem?_setIfInBounds_ne (fun q => hs q.symm)]; exact e1, r⟩
theorem opnd_sim {μ : Mu} {nt : Nat} {e : Env} {a : Act} (h : ER μ nt e a.tmps) {x : Operand} {v : Value} (hv : opnd e x = some v) : VR μ v (a.eval x) := by
 cases x with
 | tmp t =>
  obtain ⟨v', e1, r⟩ := h.get t v hv
  have : a.eval (.tmp t) = v' := by simp [Act.eval, e1]
  rw [this]; exact r
 | const c =>
  simp only [opnd] at hv
  split at hv
  ·rename_i hp
   injection hv with hv
   subst hv
   exact VR.of_plain hp
  ·cases hv
 | global g => simp [opnd] at hv
 | func f =>
  simp only [opnd] at hv
  injection hv with hv
  subst hv
  exact .func _ _ _ _ _ rfl (fun i v v' hv => by simp at hv) rfl (fun i v v' hv => by simp at hv)
theorem ζh7 {μ : Mu} {nt : Nat} {e : Env} {a : Act} (h : ER μ nt e a.tmps) : ∀ {xs : List Operand} {vs : List Value}, opnds e xs = some vs → VRs μ vs (xs.map a.eval)
 | [], vs, hv => by simp only [opnds] at hv; injection hv with hv; subst hv; exact VRs.nil
 | x :: xs, vs, hv => by
  simp only [opnds] at hv
  cases hx : opnd e x with
  | none => simp [hx] at hv
  | some v =>
   simp only [hx, Option.bind_some] at hv
   obtain ⟨vs', h1, rfl⟩ := Option.map_eq_some_iff.1 hv
   exact VRs.cons (opnd_sim h hx) (ζh7 h h1)
theorem ζkr {μ : Mu} {nt : Nat} {e : Env} {a : Act} (h : ER μ nt e a.tmps) : ∀ {xs : List (Nat × Operand)} {vs : List (Nat × Value)}, opndsP e xs = some vs →
  vs.length = (xs.map fun (i, x) => (i, a.eval x)).length ∧ ∀ (i : Nat) (p p' : Nat × Value), vs[i]? = some p → (xs.map fun (i, x) => (i, a.eval x))[i]? = some p' → p.1 = p'.1 ∧ VR μ p.2 p'.2
 | [], vs, hv => by simp only [opndsP] at hv; injection hv with hv; subst hv; exact ⟨rfl, fun i p p' hp => by simp at hp⟩
 | (k, x) :: xs, vs, hv => by
  simp only [opndsP] at hv
  cases hx : opnd e x with
  | none => simp [hx] at hv
  | some v =>
   simp only [hx, Option.bind_some] at hv
   obtain ⟨vs', h1, rfl⟩ := Option.map_eq_some_iff.1 hv
   obtain ⟨i1, i2⟩ := ζkr h h1
   refine ⟨by simpa using i1, fun i p p' hp hp' => ?_⟩
   cases i with
   | zero =>
    simp only [List.getElem?_cons_zero, Option.some.injEq] at hp
    simp only [List.map_cons, List.getElem?_cons_zero, Option.some.injEq] at hp'
    subst hp hp'
    exact ⟨rfl, opnd_sim h hx⟩
   | succ i =>
    simp only [List.getElem?_cons_succ] at hp
    simp only [List.map_cons, List.getElem?_cons_succ] at hp'
    exact i2 i p p' hp hp'
theorem ζj9 : ∀ {xs vs : List (Nat × Value)}, partsV xs = some vs → vs = xs ∧ ∀ (i : Nat) p, xs[i]? = some p → storable p.2 = true
 | [], vs, h => by simp only [partsV] at h; injection h with h; subst h; exact ⟨rfl, fun i p hp => by simp at hp⟩
 | (k, x) :: xs, vs, h => by
  simp only [partsV] at h
  split at h
  ·rename_i hs
   obtain ⟨vs', h1, rfl⟩ := Option.map_eq_some_iff.1 h
   obtain ⟨rfl, h2⟩ := ζj9 h1
   refine ⟨rfl, fun i p hp => ?_⟩
   cases i with
   | zero => simp only [List.getElem?_cons_zero, Option.some.injEq] at hp; subst hp; exact hs
   | succ i => exact h2 i p (by simpa using hp)
  ·cases h
theorem ζk0 {μ : Mu} {nt : Nat} {e : Env} {a : Act} (h : ER μ nt e a.tmps) {xs : List (Nat × Operand)} {us vs : List (Nat × Value)} (h1 : opndsP e xs = some us) (h2 : partsV us = some vs) :
  vs.length = (xs.map fun (i, x) => (i, a.eval x)).length ∧ ∀ (i : Nat) (p p' : Nat × Value), vs[i]? = some p → (xs.map fun (i, x) => (i, a.eval x))[i]? = some p' → p.1 = p'.1 ∧ VR μ p.2 p'.2 ∧ storable p.2 = true := by
 obtain ⟨rfl, h3⟩ := ζj9 h2
 obtain ⟨h4, h5⟩ := ζkr h h1
 exact ⟨h4, fun i p p' hp hp' => ⟨(h5 i p p' hp hp').1, (h5 i p p' hp hp').2, h3 i p hp⟩⟩
theorem ζjz {μ : Mu} {nt : Nat} {e : Env} {a : Act} (h : ER μ nt e a.tmps) {x : Option Operand} {v : Option Value} (hv : opndO e x = some v) : VRo μ v (x.map a.eval) := by
 cases x with
 | none => simp only [opndO] at hv; injection hv with hv; subst hv; trivial
 | some x =>
  simp only [opndO] at hv
  obtain ⟨u, h1, rfl⟩ := Option.map_eq_some_iff.1 hv
  exact opnd_sim h h1
def Ended (w0 : Base) (μ : Mu) (r : Res Value) (e : Ending) (w' : World) : Prop :=
 match r with
 | .ok v H' => ∃ μ' v', μ.le μ' ∧ HR w0 μ' H' w' ∧ VR μ' v v' ∧ e = .returned v'
 | .panic v H' => ∃ μ' v', μ.le μ' ∧ HR w0 μ' H' w' ∧ VR μ' v v' ∧ e = .panicked [{ v := v', recovered := false }]
 | .stuck => False
def CallOk (P : Program) (call : Caller) : Prop :=
 ∀ f args H, call f args H ≠ .stuck →
  (∃ fn, P.funcs[f]? = some fn ∧ fn.body.isSome = true ∧ (fn.name == "runtime.NumGoroutine") = false) ∧
  ∀ w0 μ w args', HR w0 μ H w → VRs μ args args' → Calls P f args'.toArray w fun e w' => Ended w0 μ (call f args H) e w'
theorem Res.bind_ne {α β : Type} {r : Res α} {f : α → Heap → Res β} (h : r.bind f ≠ .stuck) : r ≠ .stuck := by
 intro e; subst e; exact h rfl
def OpEnd (w0 : Base) (μ : Mu) (a : Act) (dst : Option Tmp) (r : Res Value) (K : Act → World → Prop) (Q : Exit → Act → World → Prop) : Prop :=
 match r with
 | .ok v H' => ∀ μ' v' w', μ.le μ' → HR w0 μ' H' w' → VR μ' v v' → K (a.put dst v') w'
 | .panic v H' => ∀ μ' v' w', μ.le μ' → HR w0 μ' H' w' → VR μ' v v' → Q (.panic [{ v := v', recovered := false }]) a w'
 | .stuck => False
section
variable {c : Cfg} {call : Caller}
theorem wp_value {P : Program} {o : Oper} {a : Act} {w w' : World} {v : Value} {K : Act → World → Prop} {Q : Exit → Act → World → Prop} (h : (execOp a.eval o).run P w = .ok (.value v) w') (hk : K (a.put o.dst v) w') : o.wp P a w K Q := by
 unfold Oper.wp; rw [h]; exact hk
theorem wp_skip' {P : Program} {o : Oper} {a : Act} {w w' : World} {K : Act → World → Prop} {Q : Exit → Act → World → Prop} (h : (execOp a.eval o).run P w = .ok .skip w') (hk : K (a.put o.dst undef) w') : o.wp P a w K Q := by
 unfold Oper.wp; rw [h]; exact hk
theorem VR.undef {μ : Mu} : VR μ undef undef := .tuple _ _ rfl (fun i v v' hv => by simp at hv)
theorem call_sim {P : Program} (hc : CallOk P call) {w0 : Base} {w : World} {μ : Mu} {H : Heap} (hH : HR w0 μ H w) {a : Act} {o : Oper} {f : FuncId} {args args' : List Value} (hargs : VRs μ args args') (hne : call f args H ≠ .stuck)
  {K : Act → World → Prop} {Q : Exit → Act → World → Prop} (hend : OpEnd w0 μ a o.dst (call f args H) K Q) (hrun : (execOp a.eval o).run P w = (callFunc f args'.toArray).run P w) : o.wp P a w K Q := by
 obtain ⟨⟨fn, hf, hb, hn⟩, hcalls⟩ := hc f args H hne
 have hc2 := hcalls w0 μ w args' hH hargs
 have hrun2 : (callFunc f args'.toArray).run P w = .ok (.enter f args'.toArray) w := by
  have hn' : fn.name ≠ "runtime.NumGoroutine" := by simpa using hn
  obtain ⟨code, hcode⟩ := Option.isSome_iff_exists.1 hb
  simp [callFunc, hf, hn', hcode]
 unfold Oper.wp
 rw [hrun, hrun2]
 refine hc2.mono fun e w' he => ?_
 unfold Ended at he
 unfold OpEnd at hend
 cases hr : call f args H with
 | stuck => rw [hr] at he; exact he.elim
 | ok v H' =>
  rw [hr] at he hend
  obtain ⟨μ', v', h1, h2, h3, rfl⟩ := he
  exact hend μ' v' w' h1 h2 h3
 | panic v H' =>
  rw [hr] at he hend
  obtain ⟨μ', v', h1, h2, h3, rfl⟩ := he
  exact hend μ' v' w' h1 h2 h3
theorem opt_ok {α : Type} {x : Option α} {H : Heap} (h : opt x H ≠ .stuck) : ∃ v, x = some v := by
 cases x with
 | none => exact absurd rfl h
 | some v => exact ⟨v, rfl⟩
theorem bind_ok {α β : Type} (v : α) (H : Heap) (f : α → Heap → Res β) : (Res.ok v H).bind f = f v H := rfl
end
end Go.Sw
end
section
namespace Go.Sw
open Go.RowKit
theorem opt_bind {α β : Type} {x : Option α} {H : Heap} {f : α → Heap → Res β} (h : (opt x H).bind f ≠ .stuck) : ∃ v, x = some v ∧ (opt x H).bind f = f v H ∧ f v H ≠ .stuck := by
 cases x with
 | none => exact absurd rfl h
 | some v => exact ⟨v, rfl, rfl, h⟩
section
variable {c : Cfg} {call : Caller} {w0 : Base} {w : World} {μ : Mu} {H : Heap} {nt : Nat} {e : Env} {a : Act} {o : Oper} {K : Act → World → Prop} {Q : Exit → Act → World → Prop}
theorem ζbs (hH : HR w0 μ H w) {v v' : Value} (hend : OpEnd w0 μ a o.dst (.ok v H) K Q) (hv : VR μ v v') (hrun : (execOp a.eval o).run c.P w = .ok (.value v') w) : o.wp c.P a w K Q :=
 wp_value hrun (hend μ v' w (Mu.le_refl _) hH hv)
theorem end_opt (hH : HR w0 μ H w) {x : Option Value} (hne : opt x H ≠ .stuck) (hend : OpEnd w0 μ a o.dst (opt x H) K Q) (h : ∀ v, x = some v → ∃ v', VR μ v v' ∧ (execOp a.eval o).run c.P w = .ok (.value v') w) : o.wp c.P a w K Q := by
 obtain ⟨v, rfl⟩ := opt_ok hne
 obtain ⟨v', h1, h2⟩ := h v rfl
 exact ζbs hH hend h1 h2
theorem ζok {P : Program} {μ : Mu} {t : TypeId} {name : String} {f : FuncId} {v v' : Value} (h : methodV P t name = some f) (_hv : VR μ v v') (w : World) : (method (P.types.size + Made.depth) t v' name).run P w = .ok (f, v') w := by
 unfold methodV at h
 split at h
 rotate_left
 ·cases h
 rename_i i u hi hu
 split at h
 rotate_left
 ·cases h
 rename_i m hm
 have hd : 0 < Made.depth := by decide
 obtain ⟨fuel, hfuel⟩ : ∃ fuel, P.types.size + Made.depth = fuel + 1 := ⟨P.types.size + Made.depth - 1, by omega⟩
 rw [hfuel]
 split at h
 ·cases h
 ·rename_i g hp hf hnp
  injection h with h
  subst h
  have hpl : m.path.toList = [] := by
   have : m.path = #[] := by simpa using hp
   rw [this]
  have hpe : m.path.isEmpty = true := hp
  simp only [method, Sem.run_bind, typeInfo, run_program, Result.andThen_ok, hi, Sem.run_pure, hm, hpl, follow, hf, receiverAt, run_underlying hu]
  simp [Place.get]
 ·cases h
theorem ζpm (hc : CallOk c.P call) (hH : HR w0 μ H w) {f f' : Value} {args args' : List Value} (hf : VR μ f f') (hargs : VRs μ args args') (hne : callV call f args H ≠ .stuck) (hend : OpEnd w0 μ a o.dst (callV call f args H) K Q)
  (hrun : (execOp a.eval o).run c.P w = (do let d ← Deferred.ofValue f' args'.toArray; invoke d.target d.args : Sem Next).run c.P w) : o.wp c.P a w K Q := by
 unfold callV at hne hend
 split at hne
 ·rename_i g xs ys
  cases hf with
  | func _ _ xs' _ ys' h1 h2 h3 h4 =>
   refine call_sim hc hH (((VRs.of_arr h1 h2).append hargs).append (VRs.of_arr h3 h4)) hne hend ?_
   rw [hrun]
   have harr : (xs'.toList ++ args' ++ ys'.toList).toArray = xs' ++ args'.toArray ++ ys' := by apply Array.ext'; simp
   rw [harr]
   simp [Deferred.ofValue, invoke]
 ·exact absurd rfl hne
theorem ζmz {b : Builtin} {ts : Array TypeId} {args args' : List Value} (hH : HR w0 μ H w) (hargs : VRs μ args args') (hne : builtinV c.P b ts.toList args H ≠ .stuck) (hend : OpEnd w0 μ a o.dst (builtinV c.P b ts.toList args H) K Q)
  (hrun : ∃ ty consts, (execOp a.eval o).run c.P w = (builtin b ts ty consts args'.toArray).run c.P w) : o.wp c.P a w K Q := by
 obtain ⟨ty, consts, hrun⟩ := hrun
 have hargs' : VRs μ args (args'.toArray).toList := by simpa using hargs
 unfold builtinV at hne hend
 split at hne
 ·
  cases hr : appendV c.P ts.toList args H with
  | stuck => rw [hr] at hne; exact absurd rfl hne
  | panic v H' =>
   exfalso
   revert hr
   unfold appendV appendK appendN
   repeat' split
   all_goals (intro h; cases h)
  | ok v H' =>
   rw [hr] at hend
   obtain ⟨μ', v', w', h1, h2, h3, h4⟩ := ζnv (ty := ty) hH hargs' hr
   refine wp_value (v := v') (w' := w') ?_ (hend μ' v' w' h2 h3 h4)
   rw [hrun]; simp [builtin, h1]
 ·cases hr : copyV c.P ts.toList args H with
  | stuck => rw [hr] at hne; exact absurd rfl hne
  | panic v H' =>
   exfalso
   revert hr
   unfold copyV putCells
   repeat' split
   all_goals (intro h; first | (cases h; done) | (revert h; simp only [Res.bind]; repeat' split) <;> (intro h; cases h))
  | ok v H' =>
   rw [hr] at hend
   obtain ⟨v', w', h1, h3, h4⟩ := copy_sim (ty := ty) hH hargs' hr
   refine wp_value (v := v') (w' := w') ?_ (hend μ v' w' (Mu.le_refl _) h3 h4)
   rw [hrun]; simp [builtin, h1]
 ·cases hr : clearV c.P ts.toList args H with
  | stuck => rw [hr] at hne; exact absurd rfl hne
  | panic v H' =>
   exfalso
   revert hr
   unfold clearV putCells
   repeat' split
   all_goals (intro h; first | (cases h; done) | (revert h; simp only [Res.bind]; repeat' split) <;> (intro h; cases h))
  | ok v H' =>
   rw [hr] at hend
   obtain ⟨v', w', h1, h3, h4⟩ := ζpn (ty := ty) hH hargs' hr
   refine wp_value (v := v') (w' := w') ?_ (hend μ v' w' (Mu.le_refl _) h3 h4)
   rw [hrun]; simp [builtin, h1]
 ·refine end_opt hH hne hend fun v hv => ?_
  obtain ⟨h1, h2⟩ := len_sim (ty := ty) hargs' hv w
  exact ⟨v, h2, by rw [hrun]; simp [builtin, h1]⟩
 ·refine end_opt hH hne hend fun v hv => ?_
  obtain ⟨h1, h2⟩ := min_sim (P := c.P) (ts := ts) (ty := ty) hargs' hv w
  exact ⟨v, h2, by rw [hrun]; simp [builtin, h1]⟩
 ·refine end_opt hH hne hend fun v hv => ?_
  obtain ⟨h1, h2⟩ := max_sim (P := c.P) (ts := ts) (ty := ty) hargs' hv w
  exact ⟨v, h2, by rw [hrun]; simp [builtin, h1]⟩
 ·split at hne
  ·rename_i t v
   obtain ⟨v', r', rfl, h1, h2⟩ := hargs.cons_inv
   cases h1 with
   | iface _ _ u' hu =>
    have hend2 := hend μ _ w (Mu.le_refl _) hH (.iface t v u' hu)
    unfold Oper.wp
    rw [hrun]
    simp [builtin, Instr.panic, Oper.upon_panic]
    exact hend2
  ·exact absurd rfl hne
 ·exact absurd rfl hne
end
end Go.Sw
end
section
namespace Go.Sw
open Go.RowKit
section
variable {c : Cfg} {call : Caller} {w0 : Base} {w : World} {μ : Mu} {H : Heap} {nt : Nat} {e : Env} {a : Act} {o : Oper} {K : Act → World → Prop} {Q : Exit → Act → World → Prop}
theorem condV_ne {α : Type} {v : Option Value} {x y : Res α} (h : condV v x y ≠ .stuck) : ∃ b, v = some (.bool b) ∧ condV v x y = (if b then x else y) := by
 unfold condV at h
 split at h
 ·exact ⟨true, rfl, rfl⟩
 ·exact ⟨false, rfl, rfl⟩
 ·exact absurd rfl h
theorem VR.bool_inv {b : Bool} {x : Value} (h : VR μ (.bool b) x) : x = .bool b := by cases h; rfl
theorem VRs.arr_map {xs : Array Operand} {vs : List Value} (h : VRs μ vs (xs.toList.map a.eval)) : vs.toArray.size = (xs.map a.eval).size ∧ ∀ (i : Nat) (v v' : Value), vs.toArray[i]? = some v → (xs.map a.eval)[i]? = some v' → VR μ v v' := by
 refine ⟨by have := h.1; simpa using this, fun i v v' hv hv' => h.2 i v v' (by simpa using hv) ?_⟩
 rw [← Array.getElem?_toList] at hv'
 simpa using hv'
set_option maxHeartbeats 1000000 in
theorem step_sim (hc : CallOk c.P call) (hH : HR w0 μ H w) (hE : ER μ nt e a.tmps) {op : Op} (ho : o.op = op) (hne : stepOp c call e H op ≠ .stuck) (hend : OpEnd w0 μ a o.dst (stepOp c call e H op) K Q) : o.wp c.P a w K Q := by
 cases op <;> simp only [stepOp, allocR, boxR, buildR, buildSliceR, loadR, storeR, nilR, binR, unR, convR, ifaceR, sliceR, fieldAddrR, fieldR, indexAddrR, indexR, extractR, invokeR, panicR] at hne hend
 case move x => exact end_opt hH hne hend fun v hv => ⟨_, opnd_sim hE hv, by simp [execOp, ho]⟩
 case assign x => exact end_opt hH hne hend fun v hv => ⟨_, opnd_sim hE hv, by simp [execOp, ho]⟩
 case pick b x y =>
  obtain ⟨t, hb, he⟩ := condV_ne hne
  rw [he] at hne hend
  have hb' := (opnd_sim hE hb).bool_inv
  cases t
  ·exact end_opt hH hne hend fun v hv => ⟨_, opnd_sim hE hv, by simp [execOp, ho, hb', asBool]⟩
  ·exact end_opt hH hne hend fun v hv => ⟨_, opnd_sim hE hv, by simp [execOp, ho, hb', asBool]⟩
 case alloc t =>
  split at hne
  ·rename_i z hz
   simp only [hz] at hend
   obtain ⟨μ', w', h1, h2, h3, h4⟩ := ζko (P := c.P) hH t (VR.zero hz μ) (ζ4i hz).2.2
   refine wp_value ?_ (hend μ' _ w' h2 h3 h4)
   simp [execOp, ho, Instr.alloc, ζc9 hz, h1]
  ·exact absurd rfl hne
 case box t x =>
  obtain ⟨v, hv, he, hne⟩ := opt_bind hne
  rw [he] at hend
  cases hs : storable v with
  | false => rw [hs] at hne; exact absurd rfl hne
  | true =>
   rw [hs] at hend
   obtain ⟨μ', w', h1, h2, h3, h4⟩ := ζko (P := c.P) hH t (opnd_sim hE hv) hs
   refine wp_value ?_ (hend μ' _ w' h2 h3 h4)
   simp [execOp, ho, Instr.box, h1]
 case build t ps =>
  obtain ⟨us, hv, he, hne⟩ := opt_bind hne
  rw [he] at hend
  obtain ⟨vs, hv1, he, hne⟩ := opt_bind hne
  rw [he] at hend
  refine end_opt hH hne hend fun v hv2 => ?_
  obtain ⟨h1, h2⟩ := ζk0 hE hv hv1
  obtain ⟨v', h3, h4⟩ := ζpl h1 h2 hv2 w
  refine ⟨v', h4, ?_⟩
  have harr : (ps.map fun (i, x) => (i, a.eval x)) = (ps.toList.map fun (i, x) => (i, a.eval x)).toArray := by apply Array.ext'; simp
  simp only [execOp, ho, Sem.run_bind]
  rw [harr, h3]
  rfl
 case buildSlice t n ps =>
  obtain ⟨us, hv, he, hne⟩ := opt_bind hne
  rw [he] at hend
  obtain ⟨vs, hv1, he, hne⟩ := opt_bind hne
  rw [he] at hend
  obtain ⟨h1, h2⟩ := ζk0 hE hv hv1
  have harr : (ps.map fun (i, x) => (i, a.eval x)) = (ps.toList.map fun (i, x) => (i, a.eval x)).toArray := by apply Array.ext'; simp
  cases hr : buildSliceV c.P t n vs H with
  | stuck => exact absurd hr hne
  | panic v H' =>
   exfalso
   revert hr
   unfold buildSliceV
   repeat' split
   all_goals first | (intro h; cases h; done) | (cases Nat.beq n 0 <;> (intro h; cases h))
  | ok v H' =>
   rw [hr] at hend
   obtain ⟨μ', v', w', h3, h4, h5, h6⟩ := ζjl hH h1 h2 hr
   refine wp_value (v := v') (w' := w') ?_ (hend μ' v' w' h4 h5 h6)
   simp only [execOp, ho, Sem.run_bind]
   rw [harr, h3]
   rfl
 case load t x =>
  obtain ⟨v, hv, he, hne⟩ := opt_bind hne
  rw [he] at hend
  refine end_opt hH hne hend fun u hu => ?_
  obtain ⟨u', h1, h2⟩ := load_sim (P := c.P) hH (opnd_sim hE hv) hu
  exact ⟨u', h2, by simp [execOp, ho, h1]⟩
 case store t x y =>
  obtain ⟨p, hp, he, hne⟩ := opt_bind hne
  rw [he] at hend
  obtain ⟨v, hv, he, hne⟩ := opt_bind hne
  rw [he] at hend
  cases hs : storeV c.P t p v H with
  | stuck => rw [hs] at hne; exact absurd rfl hne
  | panic q Hq =>
   exfalso
   revert hs
   unfold storeV putCells
   repeat' split
   all_goals (intro h; cases h)
  | ok u H' =>
   rw [hs] at hend
   obtain ⟨w', h1, h2⟩ := ζqt (P := c.P) hH (opnd_sim hE hp) (opnd_sim hE hv) hs
   refine wp_skip' (w' := w') ?_ (hend μ undef w' (Mu.le_refl _) h2 VR.undef)
   simp [execOp, ho, h1]
 case nilCheck x =>
  obtain ⟨v, hv, he, hne⟩ := opt_bind hne
  rw [he] at hend
  have hx := opnd_sim hE hv
  split at hne
  ·rename_i p
   have hx' : ∃ q, a.eval x = .pointer (some q) := by
    generalize a.eval x = y at hx
    cases hx
    exact ⟨_, rfl⟩
   obtain ⟨q, hq⟩ := hx'
   rw [hq] at hx
   exact ζbs hH hend hx (by simp [execOp, ho, hq])
  ·rename_i n p f xs ys
   have hx' : ∃ q, a.eval x = .pointer (some q) := by
    generalize a.eval x = y at hx
    cases hx
    exact ⟨_, rfl⟩
   obtain ⟨q, hq⟩ := hx'
   rw [hq] at hx
   exact ζbs hH hend hx (by simp [execOp, ho, hq])
  ·exact absurd rfl hne
 case binOp b t x y yT =>
  obtain ⟨u, hu, he, hne⟩ := opt_bind hne
  rw [he] at hend
  obtain ⟨v, hv, he, hne⟩ := opt_bind hne
  rw [he] at hend
  refine end_opt hH hne hend fun r hr => ?_
  obtain ⟨r', h1, h2⟩ := bin_sim (P := c.P) (opnd_sim hE hu) (opnd_sim hE hv) hr x y w
  refine ⟨r', h2, ?_⟩
  simp only [execOp, ho]
  rw [Sem.run_bind, h1]
  rfl
 case unOp b t x =>
  obtain ⟨u, hu, he, hne⟩ := opt_bind hne
  rw [he] at hend
  refine end_opt hH hne hend fun r hr => ?_
  obtain ⟨h1, h2⟩ := un_sim (P := c.P) (opnd_sim hE hu) hr w
  exact ⟨r, h2, by simp [execOp, ho, h1]⟩
 case convert src dst x =>
  obtain ⟨u, hu, he, hne⟩ := opt_bind hne
  rw [he] at hend
  cases hs : (c.P.underlying src).isSome with
  | false => rw [hs] at hne; exact absurd rfl hne
  | true =>
   rw [hs] at hend hne
   refine end_opt hH hne hend fun r hr => ?_
   obtain ⟨h1, h2⟩ := conv_sim (P := c.P) (opnd_sim hE hu) hr hs w
   exact ⟨r, h2, by simp [execOp, ho, h1]⟩
 case makeInterface t x =>
  obtain ⟨u, hu, he, hne⟩ := opt_bind hne
  rw [he] at hend
  split at hne
  ·exact absurd rfl hne
  ·exact absurd rfl hne
  ·rename_i d hni hd
   have hrun : (Instr.makeInterface t (a.eval x)).run c.P w = .ok (.iface t (a.eval x)) w := by
    simp only [Instr.makeInterface, Sem.run_bind, run_underlying hd, Result.andThen_ok]
    cases d <;> first | rfl | (exfalso; exact hni _ rfl)
   split at hend
   ·rename_i ms heq
    rw [hd] at heq
    injection heq with heq
    exact (hni ms heq).elim
   ·simp_all
   ·exact ζbs hH hend (.iface t u _ (opnd_sim hE hu)) (by simp [execOp, ho, hrun])
 case makeFunc fn xs ys =>
  obtain ⟨us, hu, he, hne⟩ := opt_bind hne
  rw [he] at hend
  obtain ⟨vs, hv, he, hne⟩ := opt_bind hne
  rw [he] at hend
  have h1 := VRs.arr_map (ζh7 hE hu)
  have h2 := VRs.arr_map (ζh7 hE hv)
  unfold makeFuncR at hne hend
  split at hne
  ·exact ζbs hH hend (.func _ _ _ _ _ h1.1 h1.2 h2.1 h2.2) (by simp [execOp, ho, Instr.makeFunc])
  ·exact absurd rfl hne
 case makeSlice t l k =>
  obtain ⟨u, hu, he, hne⟩ := opt_bind hne
  rw [he] at hend
  obtain ⟨v, hv, he, hne⟩ := opt_bind hne
  rw [he] at hend
  cases hr : makeSliceV c.P t u v H with
  | stuck => exact absurd hr hne
  | panic q Hq =>
   exfalso
   revert hr
   unfold makeSliceV
   repeat' split
   all_goals (intro h; cases h)
  | ok r H' =>
   rw [hr] at hend
   obtain ⟨μ', v', w', h3, h4, h5, h6⟩ := ζkl hH (opnd_sim hE hu) (opnd_sim hE hv) hr
   refine wp_value (v := v') (w' := w') ?_ (hend μ' v' w' h4 h5 h6)
   simp [execOp, ho, h3]
 case slice t x lo hi mx =>
  obtain ⟨u, hu, he, hne⟩ := opt_bind hne
  rw [he] at hend
  obtain ⟨l, hl, he, hne⟩ := opt_bind hne
  rw [he] at hend
  obtain ⟨h, hh, he, hne⟩ := opt_bind hne
  rw [he] at hend
  obtain ⟨m, hm, he, hne⟩ := opt_bind hne
  rw [he] at hend
  refine end_opt hH hne hend fun r hr => ?_
  obtain ⟨r', h1, h2⟩ := ζqm (P := c.P) hH (opnd_sim hE hu) (ζjz hE hl) (ζjz hE hh) (ζjz hE hm) hr
  exact ⟨r', h2, by simp [execOp, ho, h1]⟩
 case fieldAddr t x i =>
  obtain ⟨u, hu, he, hne⟩ := opt_bind hne
  rw [he] at hend
  refine end_opt hH hne hend fun r hr => ?_
  obtain ⟨r', h1, h2⟩ := ζkc (P := c.P) (opnd_sim hE hu) hr w
  exact ⟨r', h2, by simp [execOp, ho, h1]⟩
 case field t x i =>
  obtain ⟨u, hu, he, hne⟩ := opt_bind hne
  rw [he] at hend
  refine end_opt hH hne hend fun r hr => ?_
  obtain ⟨r', h1, h2⟩ := ζpw (P := c.P) (opnd_sim hE hu) hr w
  exact ⟨r', h2, by simp [execOp, ho, h1]⟩
 case indexAddr t x i =>
  obtain ⟨u, hu, he, hne⟩ := opt_bind hne
  rw [he] at hend
  obtain ⟨v, hv, he, hne⟩ := opt_bind hne
  rw [he] at hend
  refine end_opt hH hne hend fun r hr => ?_
  obtain ⟨r', h1, h2⟩ := ζkg (P := c.P) (opnd_sim hE hu) (opnd_sim hE hv) hr w
  exact ⟨r', h2, by simp [execOp, ho, h1]⟩
 case index t x i =>
  obtain ⟨u, hu, he, hne⟩ := opt_bind hne
  rw [he] at hend
  obtain ⟨v, hv, he, hne⟩ := opt_bind hne
  rw [he] at hend
  refine end_opt hH hne hend fun r hr => ?_
  obtain ⟨r', h1, h2⟩ := ζq0 (P := c.P) (opnd_sim hE hu) (opnd_sim hE hv) hr w
  exact ⟨r', h2, by simp [execOp, ho, h1]⟩
 case extract x i =>
  obtain ⟨u, hu, he, hne⟩ := opt_bind hne
  rw [he] at hend
  have hx := opnd_sim hE hu
  split at hne
  ·rename_i vs
   generalize hy : a.eval x = y at hx
   cases hx with
   | tuple _ vs' h1 h2 =>
    refine end_opt hH hne hend fun r hr => ?_
    obtain ⟨r', h3, h4⟩ := (VRs.of_arr h1 h2).get (i := i) (v := r) (by simpa using hr)
    have h3 : vs'[i]? = some r' := by simpa using h3
    exact ⟨r', h4, by simp [execOp, ho, hy, Instr.extract, h3]⟩
  ·exact absurd rfl hne
 case call k =>
  obtain ⟨args, hargs, he, hne⟩ := opt_bind hne
  rw [he] at hend
  have ha := ζh7 hE hargs
  have harr : k.args.map a.eval = (k.args.toList.map a.eval).toArray := by apply Array.ext'; simp
  split at hne
  ·rename_i b hb
   simp only [hb] at hend
   refine ζmz hH ha hne hend ⟨o.type, k.args.map fun | .const _ => true | _ => false, ?_⟩
   simp only [execOp, ho, resolve, hb, Sem.run_bind, Sem.run_pure, Result.andThen_ok, invoke]
   rw [harr]
   rfl
  ·rename_i f hf
   simp only [hf] at hend
   obtain ⟨fv, hfv, he, hne⟩ := opt_bind hne
   rw [he] at hend
   refine ζpm hc hH (opnd_sim hE hfv) ha hne hend ?_
   simp only [execOp, ho, resolve, hf]
   rw [harr]
  ·rename_i r name hf
   simp only [hf] at hend
   obtain ⟨rv, hrv, he, hne⟩ := opt_bind hne
   rw [he] at hend
   have hx := opnd_sim hE hrv
   split at hne
   ·rename_i t v
    obtain ⟨g, hg, he, hne⟩ := opt_bind hne
    dsimp only at hend
    rw [he] at hend
    generalize hy : a.eval r = y at hx
    cases hx with
    | iface _ _ v' hv =>
     refine call_sim hc hH (VRs.cons hv ha) hne hend ?_
     have hm := ζok (P := c.P) hg hv w
     have hext : (#[Value.iface t v'] ++ k.args.map a.eval).extract 1 (#[Value.iface t v'] ++ k.args.map a.eval).size = k.args.map a.eval := by
      apply Array.ext'
      simp
      exact List.take_of_length_le (by simp)
     have harr2 : (v' :: (k.args.toList.map a.eval)).toArray = #[v'] ++ k.args.map a.eval := by rw [harr]; apply Array.ext'; rw [Array.toList_append]; rfl
     have hget : (#[Value.iface t v'] ++ k.args.map a.eval)[0]? = some (Value.iface t v') := by rw [← Array.getElem?_toList, Array.toList_append]; rfl
     simp only [execOp, ho, resolve, hf, hy, Sem.run_bind, Sem.run_pure, Result.andThen_ok, invoke, hget, hext, callMethod, run_program, hm, harr2]
   ·exact absurd rfl hne
 case panic x =>
  obtain ⟨u, hu, he, hne⟩ := opt_bind hne
  rw [he] at hend
  have hx := opnd_sim hE hu
  split at hne
  ·rename_i t v
   generalize hy : a.eval x = y at hx
   cases hx with
   | iface _ _ v' hv =>
    have hend2 := hend μ _ w (Mu.le_refl _) hH (.iface t v v' hv)
    unfold Oper.wp
    simp [execOp, ho, hy, Instr.panic, Oper.upon_panic]
    exact hend2
  ·exact absurd rfl hne
 all_goals exact absurd rfl hne
end
end Go.Sw
end
