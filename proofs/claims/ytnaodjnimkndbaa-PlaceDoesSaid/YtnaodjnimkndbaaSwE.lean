/-
  A drawn region is told truly, whatever order is drawn.
-/
import Derived.Test.YtnaodjnimkndbaaSwD
namespace Go.Sw
open Go.RowKit

section
variable {c : Cfg} {call : Caller} {ops : Array Oper}

theorem envF_congr {L L' : Nat → Bool} {t : Nat} : ∀ (i : Nat) (rs : List Rec) (e e' : Env), (∀ (k : Nat) (r : Rec), rs[k]? = some r → r.o.dst = some t → L (i + k) = L' (i + k)) → e.get t = e'.get t → (envF L e i rs).get t = (envF L' e' i rs).get t
  | _, [], e, e', _, h => h
  | i, r :: rs, e, e', hL, h => by
    simp only [envF]
    refine envF_congr (i + 1) rs _ _ (fun k q hq hd => by have := hL (k + 1) q (by simpa using hq) hd; rwa [show i + 1 + k = i + (k + 1) by omega]) ?_
    by_cases hd : r.o.dst = some t
    · have := hL 0 r rfl hd
      simp only [Nat.add_zero] at this
      rw [this]
      cases L' i with
      | true => rw [hd]; simp [putDst, Env.get_put]
      | false => exact h
    · have hne : ∀ e0 : Env, (putDst e0 r.o.dst r.v).get t = e0.get t := by
        intro e0
        cases hdd : r.o.dst with
        | none => rfl
        | some s => simp only [putDst, Env.get_put]; rw [if_neg]; intro q; subst q; exact hd hdd
      cases L i <;> cases L' i <;> simp only [hne, cond_true, cond_false] <;> exact h

theorem heapF_congr {L L' : Nat → Bool} : ∀ (i : Nat) (rs : List Rec) (H : Heap), (∀ (k : Nat) (r : Rec), rs[k]? = some r → isLoud r.o.op = true → L (i + k) = L' (i + k)) → heapF L H i rs = heapF L' H i rs
  | _, [], H, _ => rfl
  | i, r :: rs, H, hL => by
    simp only [heapF]
    have hrest := fun H => heapF_congr (L := L) (L' := L') (i + 1) rs H (fun k q hq hd => by have := hL (k + 1) q (by simpa using hq) hd; rwa [show i + 1 + k = i + (k + 1) by omega])
    by_cases hd : isLoud r.o.op = true
    · have := hL 0 r rfl hd
      simp only [Nat.add_zero] at this
      rw [this, hrest]
    · have hd : isLoud r.o.op = false := by simpa using hd
      rw [hd, Bool.and_false, Bool.and_false]
      exact hrest H

theorem envF_put {L : Nat → Bool} {d : Option Tmp} {v : Value} {t : Nat} : ∀ (i : Nat) (rs : List Rec) (e : Env), (∀ (k : Nat) (r : Rec) (s : Tmp), rs[k]? = some r → r.o.dst = some s → d = some s → L (i + k) = false) →
    (envF L (putDst e d v) i rs).get t = (putDst (envF L e i rs) d v).get t
  | _, [], e, _ => rfl
  | i, r :: rs, e, hL => by
    have hrest := fun e => envF_put (v := v) (t := t) (i + 1) rs e (fun k q s hq hd hs => by have := hL (k + 1) q s (by simpa using hq) hd hs; rwa [show i + 1 + k = i + (k + 1) by omega])
    simp only [envF]
    cases hLi : L i with
    | false => exact hrest e
    | true =>
      simp only [cond_true]
      rw [← hrest]
      cases d with
      | none => rfl
      | some s =>
        cases hdd : r.o.dst with
        | none => rfl
        | some s' =>
          have hne : s' ≠ s := by
            intro q
            subst q
            have := hL 0 r s' rfl hdd rfl
            simp only [Nat.add_zero] at this
            rw [hLi] at this; cases this
          refine envF_congr (i + 1) rs _ _ (fun _ _ _ _ => rfl) ?_
          simp only [putDst, Env.get_put]
          by_cases h1 : t = s
          · subst h1
            rw [if_neg (fun q => hne q.symm), if_pos rfl, if_pos rfl]
          · by_cases h2 : t = s'
            · rw [if_pos h2, if_neg h1, if_pos h2]
            · rw [if_neg h2, if_neg h1, if_neg h1, if_neg h2]

/-- One more is done: the frame. -/
theorem envF_add {L : Nat → Bool} {j : Nat} {t : Nat} {r0 : Rec} : ∀ (i k0 : Nat) (rs : List Rec) (e : Env), i + k0 = j → rs[k0]? = some r0 → L j = false →
    (∀ (k : Nat) (r : Rec) (s : Tmp), k0 < k → rs[k]? = some r → r.o.dst = some s → r0.o.dst = some s → L (i + k) = false) →
    (envF (fun x => x == j || L x) e i rs).get t = (putDst (envF L e i rs) r0.o.dst r0.v).get t
  | i, 0, [], e, _, h, _, _ => by simp at h
  | i, 0, r :: rs, e, hij, hr, hLj, hlater => by
    simp only [List.getElem?_cons_zero, Option.some.injEq] at hr
    subst hr
    have hij : i = j := by omega
    subst hij
    simp only [envF, beq_self_eq_true, Bool.true_or, cond_true, hLj, cond_false]
    rw [← envF_put (i + 1) rs e (fun k q s hq hd hs => by have := hlater (k + 1) q s (by omega) (by simpa using hq) hd hs; rwa [show i + 1 + k = i + (k + 1) by omega])]
    refine envF_congr (i + 1) rs _ _ (fun k q _ _ => ?_) rfl
    have : (i + 1 + k == i) = false := by simp; omega
    rw [this, Bool.false_or]
  | i, k0 + 1, [], e, _, h, _, _ => by simp at h
  | i, k0 + 1, r :: rs, e, hij, hr, hLj, hlater => by
    simp only [List.getElem?_cons_succ] at hr
    simp only [envF]
    have : (i == j) = false := by simp; omega
    rw [this, Bool.false_or]
    exact envF_add (i + 1) k0 rs _ (by omega) hr hLj (fun k q s hk hq hd hs => by have := hlater (k + 1) q s (by omega) (by simpa using hq) hd hs; rwa [show i + 1 + k = i + (k + 1) by omega])

/-- One more is done: the heap. -/
theorem heapF_add {L : Nat → Bool} {j : Nat} {r0 : Rec} : ∀ (i k0 : Nat) (rs : List Rec) (H : Heap), i + k0 = j → rs[k0]? = some r0 → isLoud r0.o.op = true →
    (∀ (k : Nat) (r : Rec), k0 < k → rs[k]? = some r → isLoud r.o.op = true → L (i + k) = false) →
    heapF (fun x => x == j || L x) H i rs = r0.H'
  | i, 0, [], H, _, h, _, _ => by simp at h
  | i, 0, r :: rs, H, hij, hr, hl, hlater => by
    simp only [List.getElem?_cons_zero, Option.some.injEq] at hr
    subst hr
    have hij : i = j := by omega
    subst hij
    simp only [heapF, beq_self_eq_true, Bool.true_or, hl, Bool.and_true, cond_true]
    rw [heapF_congr (L' := fun _ => false) (i + 1) rs _ (fun k q hq hd => ?_)]
    · exact heapF_none _ _ _ fun _ _ => rfl
    · have h1 : (i + 1 + k == i) = false := by simp; omega
      have h2 := hlater (k + 1) q (by omega) (by simpa using hq) hd
      rw [h1, Bool.false_or, show i + 1 + k = i + (k + 1) by omega, h2]
  | i, k0 + 1, [], H, _, h, _, _ => by simp at h
  | i, k0 + 1, r :: rs, H, hij, hr, hl, hlater => by
    simp only [List.getElem?_cons_succ] at hr
    simp only [heapF]
    exact heapF_add (i + 1) k0 rs _ (by omega) hr hl (fun k q hk hq hd => by have := hlater (k + 1) q (by omega) (by simpa using hq) hd; rwa [show i + 1 + k = i + (k + 1) by omega])

theorem heapF_quiet {L : Nat → Bool} {j : Nat} (i : Nat) (rs : List Rec) (H : Heap) (hq : ∀ (k : Nat) (r : Rec), rs[k]? = some r → i + k = j → isLoud r.o.op = false) :
    heapF (fun x => x == j || L x) H i rs = heapF L H i rs := by
  refine heapF_congr i rs H fun k r hr hl => ?_
  have : (i + k == j) = false := by
    simp only [beq_eq_false_iff_ne]
    intro h
    have := hq k r hr h
    rw [hl] at this; cases this
  rw [this, Bool.false_or]

/-- The last of the loud ones that have been done. -/
theorem heapF_last {L : Nat → Bool} : ∀ (i : Nat) (rs : List Rec) (H : Heap),
    (heapF L H i rs = H ∧ ∀ (k : Nat) (r : Rec), rs[k]? = some r → isLoud r.o.op = true → L (i + k) = false) ∨
    (∃ (k : Nat) (r : Rec), rs[k]? = some r ∧ isLoud r.o.op = true ∧ L (i + k) = true ∧ heapF L H i rs = r.H' ∧ ∀ (k' : Nat) (r' : Rec), k < k' → rs[k']? = some r' → isLoud r'.o.op = true → L (i + k') = false)
  | i, [], H => .inl ⟨rfl, fun k r hr => by simp at hr⟩
  | i, r :: rs, H => by
    simp only [heapF]
    rcases heapF_last (L := L) (i + 1) rs (bif (L i && isLoud r.o.op) then r.H' else H) with ⟨h1, h2⟩ | ⟨k, q, h1, h2, h3, h4, h5⟩
    · by_cases hb : (L i && isLoud r.o.op) = true
      · rw [hb, cond_true] at h1 ⊢
        simp only [Bool.and_eq_true] at hb
        refine .inr ⟨0, r, rfl, hb.2, hb.1, h1, fun k' r' hk hr hl => ?_⟩
        obtain ⟨k', rfl⟩ : ∃ m, k' = m + 1 := ⟨k' - 1, by omega⟩
        have := h2 k' r' (by simpa using hr) hl
        rwa [show i + 1 + k' = i + (k' + 1) by omega] at this
      · have hb : (L i && isLoud r.o.op) = false := by simpa using hb
        rw [hb, cond_false] at h1 ⊢
        refine .inl ⟨h1, fun k q hq hl => ?_⟩
        cases k with
        | zero =>
          simp only [List.getElem?_cons_zero, Option.some.injEq] at hq
          subst hq
          rw [hl, Bool.and_true] at hb
          exact hb
        | succ k =>
          have := h2 k q (by simpa using hq) hl
          rwa [show i + 1 + k = i + (k + 1) by omega] at this
    · refine .inr ⟨k + 1, q, by simpa using h1, h2, by rwa [show i + (k + 1) = i + 1 + k by omega], h4, fun k' r' hk hr hl => ?_⟩
      obtain ⟨k', rfl⟩ : ∃ m, k' = m + 1 := ⟨k' - 1, by omega⟩
      have := h5 k' r' (by omega) (by simpa using hr) hl
      rwa [show i + 1 + k' = i + (k' + 1) by omega] at this

theorem maskOf_bit (ms : List Nat) (o : Oper) (i : Nat) : ∀ (es : List Edge), (maskOf ms o es).testBit i = true → ∃ e ∈ es, Region.binds .any e = true ∧ (e.on = i ∨ (ms.getD e.on 0).testBit i = true)
  | [], h => by simp [maskOf] at h
  | e :: es, h => by
    simp only [maskOf] at h
    split at h
    · rename_i hb
      simp only [Nat.testBit_or, Bool.or_eq_true, Nat.testBit_two_pow, decide_eq_true_eq] at h
      rcases h with h | h | h
      · exact ⟨e, by simp, hb, .inl h⟩
      · exact ⟨e, by simp, hb, .inr h⟩
      · obtain ⟨e', h1, h2⟩ := maskOf_bit ms o i es h
        exact ⟨e', by simp [h1], h2⟩
    · obtain ⟨e', h1, h2⟩ := maskOf_bit ms o i es h
      exact ⟨e', by simp [h1], h2⟩

theorem static_spec {ms : List Nat} {nt : Nat} : ∀ (ol : List Oper) (j0 : Nat), staticOk ops ms nt j0 ol = true → ∀ (k : Nat) (o : Oper), ol[k]? = some o →
    dstOk nt o.dst = true ∧ (∀ e ∈ o.after.toList, Region.binds .any e = true → e.on < j0 + k) ∧ ms.getD (j0 + k) 0 = maskOf ms o o.after.toList ∧ pairsOk ops (ms.getD (j0 + k) 0) o 0 (ops.toList.take (j0 + k)) = true ∧ mkOk (ms.getD (j0 + k) 0) ops.toList 0 ops.toList = true
  | [], _, _, k, o, h => by simp at h
  | x :: xs, j0, hs, k, o, h => by
    simp only [staticOk, Bool.and_eq_true, List.all_eq_true, beq_iff_eq] at hs
    obtain ⟨⟨⟨⟨⟨h1, h2⟩, h3⟩, h4⟩, h6⟩, h5⟩ := hs
    cases k with
    | zero =>
      simp only [List.getElem?_cons_zero, Option.some.injEq] at h
      subst h
      refine ⟨h1, fun e he hb => ?_, h3, h4, h6⟩
      have := h2 e he
      simp only [hb, Bool.not_true, Bool.false_or] at this
      exact Nat.le_of_ble_eq_true this
    | succ k =>
      have := static_spec xs (j0 + 1) h5 k o (by simpa using h)
      rwa [show j0 + 1 + k = j0 + (k + 1) by omega] at this

theorem pairs_spec {m : Nat} {o : Oper} : ∀ (i0 : Nat) (l : List Oper), pairsOk ops m o i0 l = true → ∀ (k : Nat) (x : Oper), l[k]? = some x → ((Oper.apart ops x o = true ∧ (isLoud x.op = false ∨ isLoud o.op = false ∨ isMk o = true)) ∨ m.testBit (i0 + k) = true)
  | _, [], _, k, x, h => by simp at h
  | i0, y :: ys, hp, k, x, h => by
    simp only [pairsOk, Bool.and_eq_true, Bool.or_eq_true, Bool.not_eq_true'] at hp
    cases k with
    | zero =>
      simp only [List.getElem?_cons_zero, Option.some.injEq] at h
      subst h
      rcases hp.1 with ⟨h1, h2⟩ | h1
      · refine .inl ⟨h1, ?_⟩
        cases h3 : isLoud y.op <;> cases h4 : isLoud o.op <;> cases h5 : isMk o <;> simp_all
      · exact .inr h1
    | succ k =>
      have := pairs_spec (i0 + 1) ys hp.2 k x (by simpa using h)
      rwa [show i0 + 1 + k = i0 + (k + 1) by omega] at this

theorem loudIn_spec {m n : Nat} : ∀ (i0 : Nat) (l : List Oper), loudIn m n i0 l = true → ∀ (k : Nat) (x : Oper), l[k]? = some x → isLoud x.op = true → i0 + k < n → m.testBit (i0 + k) = true
  | _, [], _, k, x, h, _, _ => by simp at h
  | i0, y :: ys, hp, k, x, h, hl, hk => by
    simp only [loudIn, Bool.and_eq_true, Bool.or_eq_true, Bool.not_eq_true'] at hp
    cases k with
    | zero =>
      simp only [List.getElem?_cons_zero, Option.some.injEq] at h
      subst h
      rcases hp.1 with h1 | h1
      · rw [hl, Bool.true_and] at h1
        rw [show Nat.blt i0 n = true from Nat.ble_eq_true_of_le hk] at h1; cases h1
      · exact h1
    | succ k =>
      have := loudIn_spec (i0 + 1) ys hp.2 k x (by simpa using h) hl (by omega)
      rwa [show i0 + 1 + k = i0 + (k + 1) by omega] at this

theorem mkOk_spec {m : Nat} {all : List Oper} : ∀ (k0 : Nat) (l : List Oper), mkOk m all k0 l = true → ∀ (k : Nat) (x : Oper), l[k]? = some x → isMk x = true → m.testBit (k0 + k) = true → loudIn m (k0 + k) 0 all = true
  | _, [], _, k, x, h, _, _ => by simp at h
  | k0, y :: ys, hp, k, x, h, hl, hk => by
    simp only [mkOk, Bool.and_eq_true, Bool.or_eq_true, Bool.not_eq_true'] at hp
    cases k with
    | zero =>
      simp only [List.getElem?_cons_zero, Option.some.injEq] at h
      subst h
      rcases hp.1 with h1 | h1
      · rw [hl, Bool.true_and] at h1
        simp only [Nat.add_zero] at hk
        rw [hk] at h1; cases h1
      · exact h1
    | succ k =>
      have := mkOk_spec (k0 + 1) ys hp.2 k x (by simpa using h) hl (by rwa [show k0 + 1 + k = k0 + (k + 1) by omega])
      rwa [show k0 + 1 + k = k0 + (k + 1) by omega] at this
end
end Go.Sw
