/-
  Struct and slice literals, make, copy, clear, len, min, max: the evaluator's against the model's.
-/
import Derived.Test.YtnaodjnimkndbaaSwQ
namespace Go.Sw
open Go.RowKit

theorem repeat_get (z : List Value) : ∀ (n i : Nat), (repeatCells z n)[i]? = if i < n * z.length then z[i % z.length]? else none
  | 0, i => by simp [repeatCells]
  | n + 1, i => by
    simp only [repeatCells]
    by_cases hi : i < z.length
    · rw [List.getElem?_append_left hi, if_pos (by rw [Nat.add_mul]; omega), Nat.mod_eq_of_lt hi]
    · rw [List.getElem?_append_right (by omega), repeat_get z n (i - z.length)]
      have h1 : (i - z.length < n * z.length) ↔ (i < (n + 1) * z.length) := by rw [Nat.add_mul]; omega
      have h2 : (i - z.length) % z.length = i % z.length := by
        conv => rhs; rw [show i = (i - z.length) + z.length by omega]
        rw [Nat.add_mod_right]
      rw [h2]
      by_cases h3 : i - z.length < n * z.length
      · rw [if_pos h3, if_pos (h1.1 h3)]
      · rw [if_neg h3, if_neg (fun h => h3 (h1.2 h))]

theorem repeat_length (z : List Value) : ∀ n, (repeatCells z n).length = n * z.length
  | 0 => by simp [repeatCells]
  | n + 1 => by simp [repeatCells, repeat_length z n, Nat.add_mul, Nat.add_comm]

theorem zero_cells (z : Array Value) (n m : Nat) (h : m = n * z.size) : ((Array.range m).map fun i => z[i % z.size]!) = (repeatCells z.toList n).toArray := by
  subst h
  apply Array.ext'
  apply List.ext_getElem?
  intro i
  rw [repeat_get]
  simp only [Array.toList_map, Array.toList_range, List.getElem?_map, Array.length_toList]
  by_cases hi : i < n * z.size
  · rw [if_pos hi, List.getElem?_range hi]
    have hz : 0 < z.size := by
      rcases Nat.eq_zero_or_pos z.size with h | h
      · rw [h] at hi; simp at hi
      · exact h
    have hm : i % z.size < z.size := Nat.mod_lt _ hz
    simp [hm]
  · rw [if_neg hi, List.getElem?_eq_none (by simpa using hi)]
    rfl

section
variable {P : Program}

theorem zeros_some {e : TypeId} {n : Nat} {zs : List Value} (h : zeros P e n = some zs) : ∃ z s, zeroT P e = some z ∧ sizeT P e = some s ∧ z.cells.size = s ∧ zs = repeatCells z.cells.toList n := by
  unfold zeros at h
  cases hz : zeroT P e with
  | none => simp [hz] at h
  | some z =>
    cases hs : sizeT P e with
    | none => simp [hz, hs] at h
    | some s =>
      simp [hz, hs] at h
      exact ⟨z, s, rfl, rfl, h.1, h.2.symm⟩

theorem VRs.repeat {μ : Mu} {z : List Value} (hz : VRs μ z z) (n : Nat) : VRs μ (repeatCells z n) (repeatCells z n) := by
  induction n with
  | zero => exact VRs.nil
  | succ n ih => exact hz.append ih
theorem Ones.repeat {z : List Value} (hz : Ones z) (n : Nat) : Ones (repeatCells z n) := by
  induction n with
  | zero => exact Ones.nil
  | succ n ih => exact hz.append ih
theorem zeros_rel {e : TypeId} {n : Nat} {zs : List Value} (h : zeros P e n = some zs) (μ : Mu) : VRs μ zs zs ∧ Ones zs := by
  obtain ⟨z, s, hz, _, _, rfl⟩ := zeros_some h
  exact ⟨(VR.zero hz μ).cells.repeat n, ((VR.zero hz μ).cells_ones (zeroT_some hz).2.2).repeat n⟩

/-- A row laid anew. -/
theorem newRow_sim {w0 : Base} {μ : Mu} {H : Heap} {w : World} (h : HR w0 μ H w) (t : TypeId) (esz len : Nat) {cs cs' : List Value} (hr : VRs μ cs cs') (h1 : Ones cs) (_hl : len * esz ≤ cs.length) :
    ∃ μ', μ.le μ' ∧ HR w0 μ' (H.push ⟨cs, esz, false⟩) (w.alloc (.cells cs'.toArray t)) ∧ VR μ' (.slice (some ⟨H.n, 0, none⟩) len len) (.slice (some ⟨w.heap.size, 0, none⟩) len len) := by
  refine ⟨μ.set H.n ⟨w.heap.size, 0, cs'.length, esz, false⟩, Mu.le_set h.dom _, ?_, ?_⟩
  · refine h.alloc cs cs'.toArray t esz cs'.length (by simp) (by rw [hr.1]; exact Nat.le_refl _) h1 (fun i v hv => ?_)
    obtain ⟨v', e, r⟩ := hr.get hv
    exact ⟨v', by simpa using e, r⟩
  · exact VR.slice H.n 0 0 _ _ _ ⟨w.heap.size, 0, cs'.length, esz, false⟩ (by simp [Mu.set]) (Nat.le_refl _) (Nat.le_refl _) (.inr rfl) (.inl rfl)

theorem build_sim {μ : Mu} {t : TypeId} {ps ps' : List (Nat × Value)} {v : Value} (hl : ps.length = ps'.length) (hp : ∀ (i : Nat) a a', ps[i]? = some a → ps'[i]? = some a' → a.1 = a'.1 ∧ VR μ a.2 a'.2 ∧ storable a.2 = true)
    (hv : buildV P t ps = some v) (w : World) : ∃ v', (Instr.build t ps'.toArray).run P w = .ok v' w ∧ VR μ v v' := by
  unfold buildV at hv
  cases hz : zeroT P t with
  | none => simp [hz] at hv
  | some z =>
    simp only [hz, Option.bind_some] at hv
    have hzr : VRs μ z.cells.toList z.cells.toList := (VR.zero hz μ).cells
    have hzo : Ones z.cells.toList := (VR.zero hz μ).cells_ones (zeroT_some hz).2.2
    obtain ⟨⟨i, hi, hiz⟩, _⟩ := zeroT_some hz
    split at hv
    · rename_i fs hu
      cases hpl : placesOf P t with
      | none => simp [hpl] at hv
      | some places =>
        simp only [hpl, Option.bind_some] at hv
        obtain ⟨r, hr, rfl⟩ := Option.map_eq_some_iff.1 hv
        obtain ⟨r', hr', hrr, hro⟩ := fill_sim _ ps ps' z.cells z.cells r hl hp hzr hzo hr
        have hb : P.built t ps' = some r' := by
          unfold Program.built
          have hpl' : fs.toList.mapM (fun f => (P.info? f.type).map fun i => (f.offset, i.size)) = some places := by
            unfold placesOf at hpl
            rw [hu] at hpl
            rw [← hpl]
            congr 1
            funext f
            unfold sizeT
            cases P.info? f.type <;> rfl
          rw [hi, hu]
          dsimp only
          rw [hiz, hpl']
          dsimp only
          rw [← hr']
          congr 1
          funext k
          simp
        refine ⟨.agg r', run_build w t ps'.toArray r' (by simpa using hb), ?_⟩
        exact .agg _ _ hro hrr.arr.1 hrr.arr.2
    · rename_i n e hu
      cases hs : sizeT P e with
      | none => simp [hs] at hv
      | some s =>
        simp only [hs, Option.bind_some] at hv
        obtain ⟨r, hr, rfl⟩ := Option.map_eq_some_iff.1 hv
        obtain ⟨r', hr', hrr, hro⟩ := fill_sim _ ps ps' z.cells z.cells r hl hp hzr hzo hr
        have hb : P.built t ps' = some r' := by
          unfold Program.built
          cases hie : P.info? e with
          | none => unfold sizeT at hs; simp [hie] at hs
          | some ie =>
            have := sizeT_info hs hie
            subst this
            rw [hi, hu]
            dsimp only
            rw [hiz, hie]
            exact hr'
        refine ⟨.agg r', run_build w t ps'.toArray r' (by simpa using hb), ?_⟩
        exact .agg _ _ hro hrr.arr.1 hrr.arr.2
    · cases hv

theorem foldl_set_size (off : Nat) : ∀ (l : List (Value × Nat)) (c : Array Value), (l.foldl (fun cs (c, j) => cs.setIfInBounds (off + j) c) c).size = c.size
  | [], c => rfl
  | x :: l, c => by
    simp only [List.foldl_cons]
    rw [foldl_set_size off l]
    simp

theorem fill_length (place : Nat → Option (Nat × Nat)) : ∀ (ps : List (Nat × Value)) (c r : Array Value), Instr.fill place c ps = some r → r.size = c.size
  | [], c, r, h => by simp [Instr.fill] at h; subst h; rfl
  | (i, v) :: ps, c, r, h => by
    simp only [Instr.fill] at h
    split at h
    · cases h
    · split at h
      · cases h
      · rw [fill_length place ps _ r h, foldl_zipIdx, foldl_set_size]

theorem buildSlice_sim {w0 : Base} {μ : Mu} {H H' : Heap} {w : World} (h : HR w0 μ H w) {t : TypeId} {len : Nat} {ps ps' : List (Nat × Value)} {v : Value} (hl : ps.length = ps'.length) (hp : ∀ (i : Nat) a a', ps[i]? = some a → ps'[i]? = some a' → a.1 = a'.1 ∧ VR μ a.2 a'.2 ∧ storable a.2 = true)
    (hv : buildSliceV P t len ps H = .ok v H') : ∃ μ' v' w', (Instr.buildSlice t len ps'.toArray).run P w = .ok v' w' ∧ μ.le μ' ∧ HR w0 μ' H' w' ∧ VR μ' v v' := by
  unfold buildSliceV at hv
  split at hv
  rotate_left
  · cases hv
  rename_i e hu
  split at hv
  rotate_left
  · cases hv
  rename_i n z hn hz
  split at hv
  rotate_left
  · cases hv
  rename_i hb
  have hb := Nat.le_of_ble_eq_true hb
  split at hv
  rotate_left
  · cases hv
  rename_i cs hcs
  obtain ⟨hzr, hzo⟩ := zeros_rel hz μ
  obtain ⟨cs', hcs', hr, ho⟩ := fill_sim (fun i => some (i * n, n)) ps ps' z.toArray z.toArray cs hl hp (by simpa using hzr) (by simpa using hzo) hcs
  obtain ⟨zv, s, hz1, hz2, hz3, rfl⟩ := zeros_some hz
  rw [hn] at hz2; injection hz2 with hz2; subst hz2
  have hlen : cs.toList.length = len * n := by
    have := fill_length _ _ _ _ hcs
    simp [repeat_length, hz3] at this
    simpa using this
  suffices hall : (Instr.buildSlice t len ps'.toArray).run P w = .ok (.slice (some ⟨w.heap.size, 0, none⟩) len len) (w.alloc (.cells cs' e)) by
    cases hb0 : Nat.beq len 0 with
    | true =>
      have := Nat.eq_of_beq_eq_true hb0
      subst this
      rw [hb0] at hv
      simp only [cond_true] at hv
      injection hv with hv hH
      subst hv hH
      exact ⟨μ, _, _, hall, Mu.le_refl _, h.extra _, .bare _⟩
    | false =>
      rw [hb0] at hv
      simp only [cond_false] at hv
      injection hv with hv hH
      subst hv hH
      obtain ⟨μ', hle, hR, hV⟩ := newRow_sim h e n len hr ho (by omega)
      have e1 : cs'.toList.toArray = cs' := by simp
      rw [e1] at hR
      exact ⟨μ', _, _, hall, hle, hR, hV⟩
  have hno : ¬ (2 ^ 24 < len * n) := by omega
  have harr : ((Array.range (len * n)).map fun i => (if len * n = 0 then (#[] : Array Value) else zv.cells)[i % (if len * n = 0 then (#[] : Array Value) else zv.cells).size]!) = (repeatCells zv.cells.toList len).toArray := by
    by_cases h0 : len * n = 0
    · rw [h0]
      apply Array.ext'
      have : repeatCells zv.cells.toList len = [] := List.length_eq_zero_iff.1 (by rw [repeat_length]; simp [hz3, h0])
      simp [this]
    · rw [if_neg h0]
      exact zero_cells zv.cells len (len * n) (by rw [hz3])
  simp only [Instr.buildSlice, Sem.run_bind, run_underlying hu, Result.andThen_ok, run_sizeT hn, if_neg hno]
  by_cases h0 : len * n = 0
  · simp only [if_pos h0] at harr
    rw [h0] at harr
    simp only [h0, if_true, Sem.run_bind, Sem.run_pure, Result.andThen_ok]
    rw [harr, hcs']
    simp [newRow]
  · simp only [if_neg h0] at harr
    simp only [if_neg h0, Sem.run_bind, run_zeroT hz1, Sem.run_pure, Result.andThen_ok]
    rw [harr, hcs']
    simp [newRow]

theorem makeSlice_sim {w0 : Base} {μ : Mu} {H H' : Heap} {w : World} (h : HR w0 μ H w) {t : TypeId} {l l' c c' v : Value} (hl : VR μ l l') (hc : VR μ c c') (hv : makeSliceV P t l c H = .ok v H') :
    ∃ μ' v' w', (Instr.makeSlice t l' c').run P w = .ok v' w' ∧ μ.le μ' ∧ HR w0 μ' H' w' ∧ VR μ' v v' := by
  unfold makeSliceV at hv
  split at hv
  rotate_left
  · cases hv
  rename_i e k n k2 m hu
  cases hl; cases hc
  split at hv
  rotate_left
  · cases hv
  rename_i s i hs hi
  split at hv
  rotate_left
  · cases hv
  rename_i hb
  obtain ⟨h0, h1, h2, h3⟩ := hb
  subst h1
  split at hv
  rotate_left
  · cases hv
  rename_i z hz
  injection hv with hv hH
  subst hv hH
  obtain ⟨hzr, hzo⟩ := zeros_rel hz μ
  obtain ⟨zv, s2, hz1, hz2, hz3, rfl⟩ := zeros_some hz
  rw [hs] at hz2; injection hz2 with hz2; subst hz2
  obtain ⟨⟨i2, hi2, hiz⟩, _⟩ := zeroT_some hz1
  rw [hi] at hi2; injection hi2 with hi2; subst hi2
  have hsi := sizeT_info hs hi
  have hlen : (repeatCells zv.cells.toList n.toNat).length = n.toNat * s := by rw [repeat_length]; simp [hz3]
  obtain ⟨μ', hle, hR, hV⟩ := newRow_sim h e s n.toNat hzr hzo (by omega)
  refine ⟨μ', _, _, ?_, hle, hR, hV⟩
  have hmul : (i.bytes : Int) * n ≤ 281474976710656 := by
    have : (i.bytes : Int) * n ≤ 2 ^ 10 * 2 ^ 31 := Int.mul_le_mul (by omega) (by omega) h0 (by omega)
    omega
  rw [run_make w t e i zv hu hi hiz k k2 n n h0 (Int.le_refl _) hmul (by omega)]
  congr 2
  congr 1
  unfold madeCells
  rw [hsi]
  exact zero_cells zv.cells n.toNat (n.toNat * s) (by rw [hz3])

theorem copy_sim {w0 : Base} {μ : Mu} {H H' : Heap} {w : World} (h : HR w0 μ H w) {ts : Array TypeId} {ty : TypeId} {args : List Value} {args' : Array Value} {v : Value} (ha : VRs μ args args'.toList) (hv : copyV P ts.toList args H = .ok v H') :
    ∃ v' w', (Builtin.copy_ ts ty args').run P w = .ok v' w' ∧ HR w0 μ H' w' ∧ VR μ v v' := by
  unfold copyV at hv
  split at hv
  rotate_left
  · cases hv
  rename_i dT tl base dLen dCap src hts
  obtain ⟨s', r', e', hs', ha⟩ := ha.cons_inv
  obtain ⟨x', r'', rfl, hx', ha⟩ := ha.cons_inv
  have := ha.nil_inv
  subst this
  have e' := toList2 e'
  subst e'
  have ht0 : ts[0]? = some dT := by rw [← Array.getElem?_toList, hts]; rfl
  split at hv
  rotate_left
  · cases hv
  rename_i e hu
  split at hv
  rotate_left
  · cases hv
  rename_i size sn hs hln
  split at hv
  · cases hv
  rename_i cs hcs
  have hlen : (Builtin.lenOf x').run P w = .ok sn w := lenV_sim hx' hln w
  obtain ⟨cs', hrun, hr, ho⟩ := firstV_sim (P := P) h hx' hcs (fun l hl => by rw [hln] at hl; injection hl with hl; omega)
  have hbase : ∃ base' dCap', s' = .slice base' dLen dCap' := by cases hs' <;> exact ⟨_, _, rfl⟩
  obtain ⟨base', dCap', rfl⟩ := hbase
  have hmin : Nat.min sn dLen = min sn dLen := rfl
  split at hv
  · rename_i hnil
    injection hv with hv hH
    subst hv hH
    have hnil : cs = [] := by simpa using hnil
    subst hnil
    have := hr.nil_inv
    subst this
    refine ⟨_, w, ?_, h, .int _ _⟩
    cases base' <;> (simp [Builtin.copy_, ht0, run_underlying hu, hlen, run_sizeT hs, hmin, hrun, storeCells, goInt]; omega)
  · rename_i hnil
    split at hv
    rotate_left
    · cases hv
    rename_i b off
    cases hp : putCells H b off cs with
    | stuck => simp [hp, Res.bind] at hv
    | panic q Hq => simp [hp, Res.bind] at hv
    | ok u H2 =>
      simp only [hp, Res.bind] at hv
      injection hv with hv hH
      subst hv hH
      cases hs' with
      | slice _ _ off' _ _ cap' m hm hl hc hoo hxx =>
        have hne : dLen ≠ 0 := by
          intro h0
          subst h0
          have := firstV_len hcs (fun l hl => by rw [hln] at hl; injection hl with hl; omega) hx'.slice_nil
          simp at this
          exact hnil (by simpa using this)
        obtain ⟨w', hst, hR⟩ := putCells_sim (P := P) h hm hr ho hp (off' := off') (.inr (hoo.resolve_left (by omega)))
        refine ⟨_, w', ?_, hR, .int _ _⟩
        simp [Builtin.copy_, ht0, run_underlying hu, hlen, run_sizeT hs, hmin, hrun, hst, goInt]
        omega

theorem clear_sim {w0 : Base} {μ : Mu} {H H' : Heap} {w : World} (h : HR w0 μ H w) {ts : Array TypeId} {ty : TypeId} {args : List Value} {args' : Array Value} {v : Value} (ha : VRs μ args args'.toList) (hv : clearV P ts.toList args H = .ok v H') :
    ∃ v' w', (Builtin.clear_ ts ty args').run P w = .ok v' w' ∧ HR w0 μ H' w' ∧ VR μ v v' := by
  unfold clearV at hv
  split at hv
  rotate_left
  · cases hv
  rename_i dT tl base n cap hts
  obtain ⟨s', r', e', hs', ha⟩ := ha.cons_inv
  have := ha.nil_inv
  subst this
  have e' : args' = #[s'] := by apply Array.ext'; simpa using e'
  subst e'
  have ht0 : ts[0]? = some dT := by rw [← Array.getElem?_toList, hts]; rfl
  have hu0 : VR μ undef undef := .tuple _ _ rfl (fun i v v' hv => by simp at hv)
  split at hv
  rotate_left
  · cases hv
  rename_i e hu
  split at hv
  · rename_i h0
    subst h0
    injection hv with hv hH
    subst hv hH
    refine ⟨undef, w, ?_, h, hu0⟩
    cases hs' with
    | unsure a => cases a <;> simp [Builtin.clear_, ht0, run_underlying hu, undef]
    | _ => simp [Builtin.clear_, ht0, run_underlying hu, undef]
  · rename_i h0
    split at hv
    rotate_left
    · cases hv
    rename_i b off z hz
    cases hp : putCells H b off z with
    | stuck => simp [hp, Res.bind] at hv
    | panic q Hq => simp [hp, Res.bind] at hv
    | ok u H2 =>
      simp only [hp, Res.bind] at hv
      injection hv with hv hH
      subst hv hH
      obtain ⟨hzr, hzo⟩ := zeros_rel hz μ
      obtain ⟨zv, s2, hz1, hz2, hz3, rfl⟩ := zeros_some hz
      cases hs' with
      | slice _ _ off' _ _ cap' m hm hl hc hoo hxx =>
        obtain ⟨w', hst, hR⟩ := putCells_sim (P := P) h hm hzr hzo hp (off' := off') (.inr (hoo.resolve_left (by omega)))
        refine ⟨undef, w', ?_, hR, hu0⟩
        have hzc : (Builtin.zeroCells zv.cells n).toList = repeatCells zv.cells.toList n := by
          unfold Builtin.zeroCells
          rw [zero_cells zv.cells n _ rfl]
        obtain ⟨n', rfl⟩ : ∃ n', n = n' + 1 := ⟨n - 1, by omega⟩
        simp [Builtin.clear_, ht0, run_underlying hu, run_zeroT hz1, hzc, hst, undef]

theorem len_sim {μ : Mu} {ts : Array TypeId} {ty : TypeId} {args : List Value} {args' : Array Value} {v : Value} (ha : VRs μ args args'.toList) (hv : lenB P ts.toList args = some v) (w : World) :
    (Builtin.len_ ts ty args').run P w = .ok v w ∧ VR μ v v := by
  unfold lenB at hv
  split at hv
  rotate_left
  · cases hv
  rename_i t x hts
  obtain ⟨s', r', e', hs', ha⟩ := ha.cons_inv
  have := ha.nil_inv
  subst this
  have e' : args' = #[s'] := by apply Array.ext'; simpa using e'
  subst e'
  have ht0 : ts[0]? = some t := by rw [← Array.getElem?_toList, hts]; rfl
  split at hv
  · rename_i s hu; injection hv with hv; subst hv; cases hs'; exact ⟨by simp [Builtin.len_, ht0, run_underlying hu, goInt], .int _ _⟩
  · rename_i hu; injection hv with hv; subst hv; cases hs' <;> exact ⟨by simp [Builtin.len_, ht0, run_underlying hu, goInt], .int _ _⟩
  · rename_i hu; injection hv with hv; subst hv; cases hs' <;> exact ⟨by simp [Builtin.len_, ht0, run_underlying hu, goInt], .int _ _⟩
  · rename_i n e hu; injection hv with hv; subst hv; exact ⟨by simp [Builtin.len_, ht0, run_underlying hu, goInt], .int _ _⟩
  · cases hv

theorem min_sim {μ : Mu} {ts : Array TypeId} {ty : TypeId} {args : List Value} {args' : Array Value} {v : Value} (ha : VRs μ args args'.toList) (hv : minB args = some v) (w : World) :
    (Builtin.min_ ts ty args').run P w = .ok v w ∧ VR μ v v := by
  unfold minB at hv
  split at hv
  · rename_i k x k2 y
    injection hv with hv; subst hv
    obtain ⟨s', r', e', hs', ha⟩ := ha.cons_inv
    obtain ⟨x', r'', rfl, hx', ha⟩ := ha.cons_inv
    have := ha.nil_inv
    subst this
    cases hs'; cases hx'
    exact ⟨by simp [Builtin.min_, e', Builtin.min2], .int _ _⟩
  · cases hv

theorem max_sim {μ : Mu} {ts : Array TypeId} {ty : TypeId} {args : List Value} {args' : Array Value} {v : Value} (ha : VRs μ args args'.toList) (hv : maxB args = some v) (w : World) :
    (Builtin.max_ ts ty args').run P w = .ok v w ∧ VR μ v v := by
  unfold maxB at hv
  split at hv
  · rename_i k x k2 y
    injection hv with hv; subst hv
    obtain ⟨s', r', e', hs', ha⟩ := ha.cons_inv
    obtain ⟨x', r'', rfl, hx', ha⟩ := ha.cons_inv
    have := ha.nil_inv
    subst this
    cases hs'; cases hx'
    exact ⟨by simp [Builtin.max_, e', Builtin.max2], .int _ _⟩
  · cases hv
end
end Go.Sw
