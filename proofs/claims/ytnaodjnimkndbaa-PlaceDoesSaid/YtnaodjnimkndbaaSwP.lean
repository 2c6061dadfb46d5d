/-
  append, copy, clear, make, slice literals: the evaluator's against the model's.
-/
import Derived.Test.YtnaodjnimkndbaaSwO
namespace Go.Sw
open Go.RowKit

section
variable {P : Program}

theorem run_append_grow' (w : World) (sT xT ty e : TypeId) (i : TypeInfo) (z : Value) (ht : P.underlying sT = some (.slice e)) (hxt : (∃ u, P.underlying xT = some (.slice u)) ∨ P.underlying xT = some .string)
    (hi : P.info? e = some i) (hz : i.zero = some z) (base : Option Addr) (sLen sCap n : Nat) (x : Value) (hn : ∀ w : World, (Builtin.lenOf x).run P w = .ok n w) (olds news : List Value)
    (ho : (Builtin.firstCells i.size sLen (.slice base sLen sCap)).run P w.drew = .ok olds.toArray w.drew) (hnew : (Builtin.firstCells i.size n x).run P w.drew = .ok news.toArray w.drew)
    (hg : sCap < sLen + n) (h63 : ((sLen + n : Nat) : Int) ≤ 9223372036854775807) (hfit : Builtin.nextslicecap (sLen + n) sCap * i.bytes ≤ 281474976710656) :
    (Builtin.append_ #[sT, xT] ty #[.slice base sLen sCap, x]).run P w =
      .ok (.slice (some ⟨w.heap.size, 0, none⟩) (sLen + n) (grownCap w (sLen + n) sCap e))
        (w.drew.alloc (.cells (olds.toArray ++ news.toArray ++ Builtin.zeroCells z.cells (grownCap w (sLen + n) sCap e - (sLen + n))) e)) := by
  have hle : ¬ (sLen + n ≤ sCap) := by omega
  have h63' : ¬ (9223372036854775807 < ((sLen : Int) + (n : Int))) := by omega
  have h48' : ¬ (281474976710656 < Builtin.nextslicecap (sLen + n) sCap * i.bytes) := by omega
  rcases hxt with ⟨u, hu⟩ | hu <;>
    simp [Builtin.append_, run_underlying ht, run_underlying hu, sizeOf, typeInfo, zeroValue, hi, hz, hn, hle, h63', h48', Question.forced, ho, hnew, newRow, grownCap] <;>
    (congr 2; simp only [← List.append_toArray, Array.append_assoc])

theorem run_append_fits' (w w' : World) (sT xT ty e : TypeId) (i : TypeInfo) (ht : P.underlying sT = some (.slice e)) (hxt : (∃ u, P.underlying xT = some (.slice u)) ∨ P.underlying xT = some .string)
    (hi : P.info? e = some i) (a : Addr) (sLen sCap n : Nat) (x : Value) (hn : ∀ w : World, (Builtin.lenOf x).run P w = .ok n w) (news : List Value)
    (hnew : (Builtin.firstCells i.size n x).run P w = .ok news.toArray w) (hst : (storeCells (a.add (sLen * i.size)) news).run P w = .ok () w')
    (hg : sLen + n ≤ sCap) :
    (Builtin.append_ #[sT, xT] ty #[.slice (some a) sLen sCap, x]).run P w = .ok (.slice (some a) (sLen + n) sCap) w' := by
  rcases hxt with ⟨u, hu⟩ | hu <;>
    simp [Builtin.append_, run_underlying ht, run_underlying hu, sizeOf, typeInfo, hi, hn, hg, hnew, hst]

theorem run_append_zero' (w : World) (sT xT ty e : TypeId) (i : TypeInfo) (ht : P.underlying sT = some (.slice e)) (hxt : (∃ u, P.underlying xT = some (.slice u)) ∨ P.underlying xT = some .string)
    (hi : P.info? e = some i) (base : Option Addr) (sLen sCap : Nat) (x : Value) (hn : ∀ w : World, (Builtin.lenOf x).run P w = .ok 0 w) (hg : sLen ≤ sCap) :
    (Builtin.append_ #[sT, xT] ty #[.slice base sLen sCap, x]).run P w = .ok (.slice base sLen sCap) w := by
  have hf : (Builtin.firstCells i.size 0 x).run P w = .ok #[] w := by
    have h0 := hn w
    cases x <;> simp [Builtin.lenOf] at h0
    case slice a l c => cases a <;> simp [Builtin.firstCells, loadCells, loadCellsFrom]
    case string s => simp [Builtin.firstCells]
  rcases hxt with ⟨u, hu⟩ | hu <;> cases base <;>
    simp [Builtin.append_, run_underlying ht, run_underlying hu, sizeOf, typeInfo, hi, hn, hg, hf, storeCells]

theorem toList2 {α : Type} {xs : Array α} {a b : α} (h : xs.toList = [a, b]) : xs = #[a, b] := by
  apply Array.ext'; simpa using h

theorem VR.slice_nil {μ : Mu} {x x' : Value} (hx : VR μ x x') : ∀ a l c, x = .slice a l c → a = none → l = 0 := by
  intro a l c e h
  subst e h
  cases hx
  rfl

/-- append, the types known. -/
theorem appendK_sim {w0 : Base} {μ : Mu} {H H' : Heap} {w : World} (h : HR w0 μ H w) {sT xT ty e : TypeId} {i : TypeInfo} {z : Value} (ht : P.underlying sT = some (.slice e)) (hxt : (∃ u, P.underlying xT = some (.slice u)) ∨ P.underlying xT = some .string)
    (hi : P.info? e = some i) (hz : i.zero = some z) {base : Option Addr} {sLen sCap n : Nat} {s' x x' v : Value} (hs' : VR μ (.slice base sLen sCap) s') (hx' : VR μ x x') (hln : lenV x = some n)
    (hv : appendK i.size i.bytes z.cells.size n base sLen sCap x H = .ok v H') :
    ∃ μ' v' w', (Builtin.append_ #[sT, xT] ty #[s', x']).run P w = .ok v' w' ∧ μ.le μ' ∧ HR w0 μ' H' w' ∧ VR μ' v v' := by
  unfold appendK at hv
  have hlen : ∀ w : World, (Builtin.lenOf x').run P w = .ok n w := fun w => lenV_sim hx' hln w
  split at hv
  · rename_i hn0
    subst hn0
    injection hv with hv hH
    subst hv hH
    refine ⟨μ, s', w, ?_, Mu.le_refl _, h, hs'⟩
    cases hs' with
    | nilSlice => exact run_append_zero' w sT xT ty e i ht hxt hi _ _ _ _ hlen (Nat.le_refl _)
    | bare a => exact run_append_zero' w sT xT ty e i ht hxt hi _ _ _ _ hlen (Nat.le_refl _)
    | unsure a => exact run_append_zero' w sT xT ty e i ht hxt hi _ _ _ _ hlen (Nat.le_refl _)
    | slice b off off' _ _ cap' m hm hl hc hoo hxx => exact run_append_zero' w sT xT ty e i ht hxt hi _ _ _ _ hlen (by omega)
  · rename_i hn0
    split at hv
    rotate_left
    · cases hv
    rename_i hb
    obtain ⟨hb1, hb2, hb3⟩ := hb
    split at hv
    · cases hv
    rename_i new hnew
    have hfit : ∀ c, c < sLen + n → Builtin.nextslicecap (sLen + n) c * i.bytes ≤ 281474976710656 := fun c hc => growslice_fits hc (by
      have : (sLen + n) * i.bytes ≤ 2 ^ 31 * 2 ^ 10 := Nat.mul_le_mul hb1 hb2
      omega)
    have h63 : ((sLen + n : Nat) : Int) ≤ 9223372036854775807 := by omega
    have hd : HR w0 μ H w.drew := h.drew rfl rfl rfl rfl
    have hlx : ∀ l, lenV x = some l → n ≤ l := fun l hl => by rw [hln] at hl; injection hl with hl; omega
    have hnl : new.length = n * i.size := firstV_len hnew hlx hx'.slice_nil
    obtain ⟨news, hrn, hvn, hon⟩ := firstV_sim (P := P) hd hx' hnew hlx
    -- a grown row
    have grow : ∀ (b' : Option Addr) (cap' : Nat) (olds olds' : List Value), cap' < sLen + n → (Builtin.firstCells i.size sLen (.slice b' sLen cap')).run P w.drew = .ok olds'.toArray w.drew → VRs μ olds olds' → Ones olds →
        olds'.length = sLen * i.size → ∀ HX : Heap, HX.n = H.n → HR w0 μ HX w.drew →
        ∃ μ' v' w', (Builtin.append_ #[sT, xT] ty #[.slice b' sLen cap', x']).run P w = .ok v' w' ∧ μ.le μ' ∧ HR w0 μ' (HX.push ⟨olds ++ new, i.size, false⟩) w' ∧ VR μ' (.slice (some ⟨H.n, 0, none⟩) (sLen + n) (sLen + n)) v' := by
      intro b' cap' olds olds' hcap hro hvo hoo holl HX hHX hRX
      have hrun := run_append_grow' (P := P) w sT xT ty e i z ht hxt hi hz b' sLen cap' n x' hlen olds' news hro hrn hcap h63 (hfit cap' hcap)
      have hge := grownCap_ge w (sLen + n) cap' e
      have hmul : (sLen + n) * i.size ≤ grownCap w (sLen + n) cap' e * i.size := Nat.mul_le_mul_right _ hge
      have hmul2 := hmul
      rw [Nat.add_mul] at hmul2
      have hsz : (olds'.toArray ++ news.toArray ++ Builtin.zeroCells z.cells (grownCap w (sLen + n) cap' e - (sLen + n))).size = grownCap w (sLen + n) cap' e * i.size := by
        have := hvn.1
        simp only [Array.size_append, List.size_toArray, size_zeroCells, hb3, Nat.sub_mul, Nat.add_mul]
        omega
      refine ⟨μ.set H.n ⟨w.heap.size, 0, grownCap w (sLen + n) cap' e * i.size, i.size, false⟩, _, _, hrun, ?_, ?_, ?_⟩
      · exact Mu.le_set h.dom _
      · have := hRX.alloc (olds ++ new) (olds'.toArray ++ news.toArray ++ Builtin.zeroCells z.cells (grownCap w (sLen + n) cap' e - (sLen + n))) e i.size (grownCap w (sLen + n) cap' e * i.size) (by omega)
          (by
            have h1 := hvo.1
            simp only [List.length_append]
            omega) (hoo.append hon) (fun j u hj => by
            obtain ⟨u', e', r⟩ := (hvo.append hvn).get hj
            refine ⟨u', ?_, r⟩
            have hlt : j < (olds' ++ news).length := (List.getElem?_eq_some_iff.1 e').1
            rw [Array.getElem?_append_left (by simpa using hlt)]
            simpa using e')
        rw [hHX] at this
        exact this
      · exact VR.slice H.n 0 0 _ _ _ ⟨w.heap.size, 0, grownCap w (sLen + n) cap' e * i.size, i.size, false⟩ (by simp [Mu.set]) (Nat.le_refl _) hge (.inr rfl) (.inr (.inr (by simp)))
    split at hv
    · -- onto nil
      injection hv with hv hH
      subst hv hH
      cases hs'
      have := grow none 0 [] [] (by omega) (run_firstCells_none _ _ _ _ _) VRs.nil Ones.nil (by simp) H rfl hd
      simpa using this
    · rename_i b off
      split at hv
      rotate_left
      · cases hv
      rename_i k hk
      split at hv
      rotate_left
      · cases hv
      rename_i hc
      injection hv with hv hH
      subst hv hH
      simp only [Bool.and_eq_true, Bool.not_eq_true', beq_iff_eq] at hc
      obtain ⟨⟨hro, hesz⟩, hle⟩ := hc
      have hle := Nat.le_of_ble_eq_true hle
      cases hs' with
      | slice _ _ off' _ _ cap' m hm hl hcap hoo hxx =>
        have hsm : sLen * i.size ≤ sCap * i.size := Nat.mul_le_mul_right _ hl
        obtain ⟨m1, e1, b1⟩ := h.blk b k hk
        rw [hm] at e1; injection e1 with e1; subst e1
        have hold : cellsAt H b off (sLen * i.size) = some ((k.cells.drop off).take (sLen * i.size)) := by
          unfold cellsAt
          simp only [hk, Option.bind_some]
          rw [if_pos (Nat.ble_eq_true_of_le (by omega))]
        by_cases hgrow : cap' < sLen + n
        · -- a new row
          have hfo : firstV i.size sLen (.slice (some ⟨b, off, none⟩) sLen sCap) H = some ((k.cells.drop off).take (sLen * i.size)) := by
            unfold firstV
            dsimp only
            split
            · rename_i h0; rw [h0]; simp
            · exact hold
          obtain ⟨olds', hro', hvo, hoo'⟩ := firstV_sim (P := P) hd (VR.slice b off off' sLen sCap cap' m hm hl hcap hoo hxx) hfo (fun l hl => by simp [lenV] at hl; omega)
          have hol : olds'.length = sLen * i.size := by rw [← hvo.1]; simp; omega
          exact grow _ cap' _ olds' hgrow hro' hvo hoo' hol (H.set b none) (Heap.n_set _ _ _) ((h.kill hk).drew rfl rfl rfl rfl)
        · -- in place
          have hpos : off' = m.base + off := hoo.resolve_left (by omega)
          subst hpos
          obtain ⟨cs, el, fz, g1, g2, g3, g4⟩ := b1.here
          have hfz := g2 hro
          subst hfz
          obtain ⟨news2, hrn2, hvn2, hon2⟩ := firstV_sim (P := P) h hx' hnew hlx
          have hmesz : m.esz = i.size := b1.esz.trans hesz
          have hxb : off + cap' * i.size ≤ m.ext := by
            rcases hxx with hxx | hxx | hxx
            · subst hxx; have := b1.ext; omega
            · rw [b1.ro, hro] at hxx; cases hxx
            · rw [hmesz] at hxx; exact hxx
          have hnl2 : news2.length = n * i.size := by rw [← hvn2.1]; exact hnl
          have hmulc : (sLen + n) * i.size ≤ cap' * i.size := Nat.mul_le_mul_right _ (by omega)
          have hmulc2 := hmulc
          rw [Nat.add_mul] at hmulc2
          have hst := run_storeCells_at P m.blk (m.base + off + sLen * i.size) el news2 0 cs w g1 (by omega) (hvn2.ones hon2)
          have hrun := run_append_fits' (P := P) w _ sT xT ty e i ht hxt hi ⟨m.blk, m.base + off, none⟩ sLen cap' n x' hlen news2 hrn2 (by rw [add_at]; exact hst) (by omega)
          have hkill := h.kill hk
          have hB := b1.own hro
          have hsp : (cs.toList.take (m.base + off + sLen * i.size + 0) ++ news2 ++ cs.toList.drop (m.base + off + sLen * i.size + 0 + news2.length)) = splice cs.toList (m.base + off + sLen * i.size) news2 := by simp [splice]
          rw [hsp] at hrun
          have hspl : (splice cs.toList (m.base + off + sLen * i.size) news2).length = cs.size := by rw [splice_length _ _ _ (by simp; omega)]; simp
          refine ⟨μ.set H.n ⟨m.blk, m.base + off, m.ext - off, i.size, false⟩, _, _, hrun, Mu.le_set h.dom _, ?_, ?_⟩
          · have hup := Mu.le_set (μ := μ) h.dom ⟨m.blk, m.base + off, m.ext - off, i.size, false⟩
            have hoth : ∀ c x mm, H.get c = some x → c ≠ b → μ c = some mm → mm.blk ≠ m.blk := fun c x mm hc hcb hmm => h.other hk hc hm hmm hro hcb
            constructor
            · intro c mm hcm
              rw [Heap.n_push, Heap.n_set]
              rw [Mu.set_get] at hcm
              split at hcm
              · omega
              · have := h.dom c mm hcm; omega
            · intro c x hx
              rw [Heap.get_push, Heap.n_set] at hx
              split at hx
              · rename_i hcn
                injection hx with hx
                subst hx hcn
                refine ⟨⟨m.blk, m.base + off, m.ext - off, i.size, false⟩, by simp [Mu.set], rfl, rfl, ⟨(splice cs.toList (m.base + off + sLen * i.size) news2).toArray, el, (0, 0), setRow_heap w m.blk cs _ el _ g1, fun _ => rfl, ?_, fun j u hj => ?_⟩, ?_, ?_, fun _ => hB, fun hf => by cases hf⟩
                · have hspl2 : (splice cs.toList (m.base + off + sLen * i.size) news2).toArray.size = cs.size := by simpa using hspl
                  show m.base + off + (m.ext - off) ≤ _
                  rw [hspl2]; omega
                · show ∃ v', (splice cs.toList (m.base + off + sLen * i.size) news2).toArray[m.base + off + j]? = some v' ∧ _
                  have hg := splice_get cs.toList (m.base + off + sLen * i.size) news2 (by simp; omega) (m.base + off + j)
                  simp only [List.getElem?_toArray]
                  rw [hg]
                  have hol : ((k.cells.drop off).take (sLen * i.size)).length = sLen * i.size := by simp; omega
                  by_cases hjo : j < sLen * i.size
                  · rw [if_pos (by omega)]
                    rw [List.getElem?_append_left (by omega), List.getElem?_take, if_pos hjo, List.getElem?_drop] at hj
                    obtain ⟨u', e', r⟩ := g4 _ u hj
                    exact ⟨u', by rw [← Nat.add_assoc] at e'; simpa using e', r.up hup⟩
                  · rw [if_neg (by omega)]
                    rw [List.getElem?_append_right (by omega), hol] at hj
                    obtain ⟨u', e', r⟩ := hvn2.get hj
                    have hjn : j - sLen * i.size < news2.length := (List.getElem?_eq_some_iff.1 e').1
                    rw [if_pos (by omega), show m.base + off + j - (m.base + off + sLen * i.size) = j - sLen * i.size by omega]
                    exact ⟨u', e', r.up hup⟩
                · exact ((b1.ones.drop _).take _).append hon2
                · show (_ ++ new).length ≤ m.ext - off
                  simp only [List.length_append, List.length_take, List.length_drop]
                  omega
              · rename_i hcn
                rw [Heap.get_set hk] at hx
                split at hx
                · cases hx
                · rename_i hcb
                  obtain ⟨mm, hmm, hbb⟩ := h.blk c x hx
                  exact ⟨mm, hup.f _ _ hmm, hbb.keep hup (setRow_other w m.blk mm.blk _ (hoth c x mm hx hcb hmm))⟩
            · intro c c' x x' mm mm' hx hx2 r r' hmm hmm' he
              rw [Heap.get_push, Heap.n_set, Heap.get_set hk] at hx hx2
              rw [Mu.set_get] at hmm hmm'
              by_cases q1 : c = H.n <;> by_cases q2 : c' = H.n
              · omega
              · rw [if_pos q1] at hmm
                rw [if_neg q2] at hx2 hmm'
                split at hx2
                · cases hx2
                · rename_i hcb
                  injection hmm with hmm; subst hmm
                  exact absurd he.symm (hoth c' x' mm' hx2 hcb hmm')
              · rw [if_neg q1] at hx hmm
                rw [if_pos q2] at hmm'
                split at hx
                · cases hx
                · rename_i hcb
                  injection hmm' with hmm'; subst hmm'
                  exact absurd he (hoth c x mm hx hcb hmm)
              · rw [if_neg q1] at hx hmm
                rw [if_neg q2] at hx2 hmm'
                split at hx
                · cases hx
                · split at hx2
                  · cases hx2
                  · exact h.inj c c' x x' mm mm' hx hx2 r r' hmm hmm' he
            · exact h.below.step rfl rfl rfl (by simp) fun j hj => setRow_other w m.blk j _ (fun q => hB (q ▸ hj))
            · refine h.zr.step rfl (fun j o hj => setRow_other w m.blk j _ fun q => h.zr.apart j o b k m hj hk hro hm q.symm) fun c x mm hx hr hmm => ?_
              rw [Heap.get_push, Heap.n_set] at hx
              rw [Mu.set_get] at hmm
              split at hx
              · rename_i hcn
                rw [if_pos hcn] at hmm
                injection hmm with hmm; subst hmm
                exact .inl ⟨b, k, hk, hro, m, hm, rfl⟩
              · rename_i hcn
                rw [if_neg hcn] at hmm
                rw [Heap.get_set hk] at hx
                split at hx
                · cases hx
                · exact .inl ⟨c, x, hx, hr, mm, hmm, rfl⟩
          · exact VR.slice H.n 0 (m.base + off) _ _ _ ⟨m.blk, m.base + off, m.ext - off, i.size, false⟩ (by simp [Mu.set]) (Nat.le_refl _) (by omega) (.inr rfl) (.inr (.inr (by
              show 0 + cap' * i.size ≤ m.ext - off
              omega)))
    · -- onto an empty one
      split at hv
      rotate_left
      · cases hv
      rename_i h00
      obtain ⟨rfl, rfl⟩ := h00
      injection hv with hv hH
      subst hv hH
      have key : ∀ b', s' = .slice b' 0 0 → ∃ μ' v' w', (Builtin.append_ #[sT, xT] ty #[s', x']).run P w = .ok v' w' ∧ μ.le μ' ∧ HR w0 μ' (H.push ⟨new, i.size, false⟩) w' ∧ VR μ' (.slice (some ⟨H.n, 0, none⟩) n n) v' := by
        intro b' he
        subst he
        have hro : (Builtin.firstCells i.size 0 (.slice b' 0 0)).run P w.drew = .ok ([] : List Value).toArray w.drew := by
          cases b' with
          | none => exact run_firstCells_none _ _ _ _ _
          | some a => simp [Builtin.firstCells, loadCells, loadCellsFrom]
        have := grow b' 0 [] [] (by omega) hro VRs.nil Ones.nil (by simp) H rfl hd
        simpa using this
      cases hs' with
      | bare a => exact key _ rfl
      | unsure a => exact key _ rfl

/-- append. -/
theorem append_sim {w0 : Base} {μ : Mu} {H H' : Heap} {w : World} (h : HR w0 μ H w) {ts : Array TypeId} {ty : TypeId} {args : List Value} {args' : Array Value} {v : Value} (ha : VRs μ args args'.toList) (hv : appendV P ts.toList args H = .ok v H') :
    ∃ μ' v' w', (Builtin.append_ ts ty args').run P w = .ok v' w' ∧ μ.le μ' ∧ HR w0 μ' H' w' ∧ VR μ' v v' := by
  unfold appendV at hv
  split at hv
  rotate_left
  · cases hv
  rename_i sT xT base sLen sCap x hts
  have hts := toList2 hts
  subst hts
  obtain ⟨s', r', e', hs', ha⟩ := ha.cons_inv
  obtain ⟨x', r'', rfl, hx', ha⟩ := ha.cons_inv
  have := ha.nil_inv
  subst this
  have e' := toList2 e'
  subst e'
  split at hv
  rotate_left
  · cases hv
  rename_i e hT
  split at hv
  rotate_left
  · cases hv
  rename_i size i n z hsz hi hln hz
  have hisz := sizeT_info hsz hi
  subst hisz
  obtain ⟨⟨i2, hi2, hz2⟩, hzp⟩ := zeroT_some hz
  rw [hi] at hi2; injection hi2 with hi2; subst hi2
  unfold appendT at hT
  split at hT
  · rename_i e2 u h1 h2
    injection hT with hT; subst hT
    exact appendK_sim h h1 (.inl ⟨u, h2⟩) hi hz2 hs' hx' hln hv
  · rename_i e2 h1 h2
    injection hT with hT; subst hT
    exact appendK_sim h h1 (.inr h2) hi hz2 hs' hx' hln hv
  · cases hT
end
end Go.Sw
