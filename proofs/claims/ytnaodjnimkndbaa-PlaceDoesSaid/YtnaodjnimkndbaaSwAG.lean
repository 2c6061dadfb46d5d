/-
  slices.Clone, told: an empty slice, or a new row of the same elements.
-/
import Derived.Test.YtnaodjnimkndbaaSwAF
namespace Go.Sw
open Go.RowKit

/-- How long a slice is. -/
def lenL : Value → Option Nat
  | .slice _ n _ => some n
  | .func (.via n _ _ false) _ _ => some n
  | _ => none
theorem lenL_lenV {v : Value} {n : Nat} (h : lenL v = some n) : lenV v = some n := by
  unfold lenL at h
  split at h <;> first | exact h | cases h

/-- slices.Clone: a row of its own; of nothing comes an empty slice, nil or not. -/
def cloneV (size bytes : Nat) (args : List Value) (H : Heap) : Res Value :=
  match args with
  | [a] => match lenL a with
    | some 0 => .ok emptyV H
    | some (_ + 1) => apR size bytes bareV a H
    | none => .stuck
  | _ => .stuck

/-- The elements of a slice. -/
def cellsL (size n : Nat) (a : Value) (H : Heap) : Option (List Value) := firstV size n a H

/-- slices.Insert into a row of one's own: a new row, the old one is gone. -/
def insertV (size bytes : Nat) (args : List Value) (H : Heap) : Res Value :=
  match args with
  | [.slice base n cap, .int .i64 i, v] =>
    match lenL v with
    | none => .stuck
    | some m =>
      bif decide (0 ≤ i ∧ i ≤ n ∧ n + m ≤ 2 ^ 31 ∧ bytes ≤ 2 ^ 10) then
        bif Nat.beq m 0 then .ok (.slice base n cap) H else
        match firstV size n (.slice base n cap) H, firstV size m v H with
        | some old, some new =>
          match base with
          | some ⟨b, off, none⟩ =>
            match H.get b with
            | some k => bif !k.ro && Nat.beq k.esz size && Nat.ble (off + cap * size) k.cells.length then
                .ok (.slice (some ⟨H.n, 0, none⟩) (n + m) (n + m)) ((H.set b none).push ⟨old.take (i.toNat * size) ++ new ++ old.drop (i.toNat * size), size, false⟩)
              else .stuck
            | none => .stuck
          | none => .ok (.slice (some ⟨H.n, 0, none⟩) (n + m) (n + m)) (H.push ⟨new, size, false⟩)
          | some ⟨_, _, some _⟩ => bif Nat.beq n 0 && Nat.beq cap 0 then .ok (.slice (some ⟨H.n, 0, none⟩) m m) (H.push ⟨new, size, false⟩) else .stuck
        | _, _ => .stuck
      else .stuck
  | _ => .stuck

/-- What its text does. -/
def cloneF (P : Program) (t : TypeId) (size bytes : Nat) (a : Value) (H : Heap) : Res Value :=
  (binR P .eql t a (.slice none 0 0) H).bind fun v1 h2 =>
  condV (some v1) (.ok (.slice none 0 0) h2) ((Res.ok bareV h2).bind fun v3 h4 => (apR size bytes v3 a h4).bind fun v5 h6 => .ok v5 h6)

theorem body_is {c : Cfg} {call : Caller} (hN : NamesOk c.P) (hmix : c.P.follows .mixedOrders = true) (hc : CallOk c.P call) {f : FuncId} {args : List Value} {H : Heap} {r : Res Value} (hr : bodyK c call f args H = r) (hne : r ≠ .stuck) :
    (∃ fn, c.P.funcs[f]? = some fn ∧ fn.body.isSome = true ∧ (fn.name == "runtime.NumGoroutine") = false) ∧
    ∀ w0 μ w args', HR w0 μ H w → VRs μ args args' → Calls c.P f args'.toArray w fun e w' => Ended w0 μ r e w' := by
  rw [← hr] at hne ⊢
  unfold bodyK at hne ⊢
  cases hf : c.P.funcs[f]? with
  | none => rw [hf] at hne; exact absurd rfl hne
  | some fn =>
    rw [hf] at hne
    dsimp only at hne ⊢
    cases hb : fn.body with
    | none => rw [hb] at hne; exact absurd rfl hne
    | some code =>
      rw [hb] at hne
      dsimp only at hne ⊢
      cases hl : Nat.ble args.length fn.ntmps with
      | false => rw [hl] at hne; exact absurd rfl hne
      | true =>
        rw [hl] at hne
        simp only [cond_true, execK_eq, kDone_eq] at hne ⊢
        have := body_ok (draw := fun nt => runDraw c call nt) hN hc (fun nt => draw_ok hc hmix nt) hf hb (Nat.le_of_ble_eq_true hl) hne
        rw [hf] at this
        exact this

theorem apR_bare_ne {size bytes : Nat} {a : Value} {H : Heap} {n : Nat} (hn : lenV a = some (n + 1)) : apR size bytes bareV a H = appendK size bytes size (n + 1) (some ⟨0, 0, some 0⟩) 0 0 a H := by
  unfold apR bareV
  dsimp only
  rw [hn]

theorem clone_is {c : Cfg} (hN : NamesOk c.P) (hmix : c.P.follows .mixedOrders = true) {f : FuncId} {t e : TypeId} {size bytes : Nat} (hu : c.P.underlying t = some (.slice e)) (hform : ∀ call a H, bodyK c call f [a] H = cloneF c.P t size bytes a H) :
    SpIs c.P f fun _ args H => cloneV size bytes args H := by
  intro call hc args H hne
  -- its text, of a value that is nil or isn't
  have heq : ∀ (x : Value) (b : Bool), eqV c.P eqDepth t x (.slice none 0 0) = some b → (∀ o, binV c.P .eql t x (.slice none 0 0) = o → o = (eqV c.P eqDepth t x (.slice none 0 0)).map .bool) → cloneF c.P t size bytes x H = (if b then .ok (.slice none 0 0) H else (apR size bytes bareV x H).bind fun v5 h6 => .ok v5 h6) := by
    intro x b hx hb
    unfold cloneF binR
    rw [hb _ rfl, hx]
    cases b <;> rfl
  have hbind : ∀ r : Res Value, (r.bind fun v5 h6 => .ok v5 h6) = r := fun r => by cases r <;> rfl
  have hlist : ∀ n p g cs ys, binV c.P .eql t (.func (.via n p g false) cs ys) (.slice none 0 0) = (eqV c.P eqDepth t (.func (.via n p g false) cs ys) (.slice none 0 0)).map .bool := fun _ _ _ _ _ => rfl
  have hsl : ∀ a l k, binV c.P .eql t (.slice a l k) (.slice none 0 0) = (eqV c.P eqDepth t (.slice a l k) (.slice none 0 0)).map .bool := fun _ _ _ => rfl
  have e1 : ∀ n p g cs ys, eqV c.P eqDepth t (.func (.via (n + 1) p g false) cs ys) (.slice none 0 0) = some false := fun n p g cs ys => by
    unfold eqDepth eqV; rw [hu]
  have e2 : ∀ p cs ys, eqV c.P eqDepth t (.func (.via 0 p 1 false) cs ys) (.slice none 0 0) = some false := fun p cs ys => by
    unfold eqDepth eqV; rw [hu]; rfl
  have e3 : ∀ p cs ys, eqV c.P eqDepth t (.func (.via 0 p 2 false) cs ys) (.slice none 0 0) = some true := fun p cs ys => by
    unfold eqDepth eqV; rw [hu]; rfl
  have e4 : ∀ b off l k, eqV c.P eqDepth t (.slice (some ⟨b, off, none⟩) l k) (.slice none 0 0) = some false := fun b off l k => by
    unfold eqDepth eqV; rw [hu]; rfl
  have ap0 : ∀ x, lenV x = some 0 → apR size bytes bareV x H = .ok bareV H := fun x hx => by
    unfold apR bareV appendK
    dsimp only
    rw [hx]
    rfl
  have hnil : cloneF c.P t size bytes (noneV true) H = .ok (.slice none 0 0) H := by
    rw [heq (noneV true) true (e3 _ _ _) (fun o ho => by rw [← ho]; exact hlist _ _ _ _ _)]; rfl
  have hnone : cloneF c.P t size bytes (noneV false) H = .ok bareV H := by
    rw [heq (noneV false) false (e2 _ _ _) (fun o ho => by rw [← ho]; exact hlist _ _ _ _ _)]
    simp only [Bool.false_eq_true, if_false, hbind]
    exact ap0 _ rfl
  have hex : ∃ fn, c.P.funcs[f]? = some fn ∧ fn.body.isSome = true ∧ (fn.name == "runtime.NumGoroutine") = false :=
    (body_is hN hmix hc (hform call (noneV true) H) (by rw [hnil]; simp)).1
  refine ⟨hex, fun w0 μ w args' hH hargs => ?_⟩
  dsimp only at hne ⊢
  unfold cloneV at hne ⊢
  split at hne
  rotate_left
  · exact absurd rfl hne
  rename_i a
  obtain ⟨a', r', rfl, ha, hr⟩ := hargs.cons_inv
  have := hr.nil_inv
  subst this
  split at hne
  · -- nothing
    rename_i hl
    have hshape : ∃ x k, a' = .slice x 0 k ∧ (x = none → k = 0) := by
      unfold lenL at hl
      split at hl
      · injection hl with hl; subst hl
        cases ha with
        | nilSlice => exact ⟨_, _, rfl, fun _ => rfl⟩
        | slice => exact ⟨_, _, rfl, fun h => by cases h⟩
        | bare x => exact ⟨_, _, rfl, fun h => by cases h⟩
        | unsure x => exact ⟨_, _, rfl, fun _ => rfl⟩
      · injection hl with hl; subst hl
        cases ha with
        | list => exact ⟨_, _, rfl, fun h => by cases h⟩
        | empty _ _ _ _ x k hn hs => exact ⟨_, _, rfl, fun h => (hn h).1⟩
      · cases hl
    obtain ⟨x, k, rfl, hk⟩ := hshape
    cases x with
    | none =>
      have hk := hk rfl
      subst hk
      have hv : VR μ (noneV true) (.slice none 0 0) := .empty _ _ _ _ _ _ (fun _ => ⟨rfl, by decide⟩) fun _ => rfl
      refine ((body_is hN hmix hc (hform call (noneV true) H) (by rw [hnil]; simp)).2 w0 μ w _ hH (VRs.cons hv VRs.nil)).mono fun e w' he => ?_
      rw [hnil] at he
      obtain ⟨μ', v', h1, h2, h3, rfl⟩ := he
      cases h3
      exact ⟨μ', _, h1, h2, .unsure _, rfl⟩
    | some q =>
      have hv : VR μ (noneV false) (.slice (some q) 0 k) := .empty _ _ _ _ _ _ (fun h => by cases h) fun h => by cases h
      refine ((body_is hN hmix hc (hform call (noneV false) H) (by rw [hnone]; simp)).2 w0 μ w _ hH (VRs.cons hv VRs.nil)).mono fun e w' he => ?_
      rw [hnone] at he
      obtain ⟨μ', v', h1, h2, h3, rfl⟩ := he
      cases h3
      exact ⟨μ', _, h1, h2, .unsure _, rfl⟩
  · rename_i n hl
    have hform2 : cloneF c.P t size bytes a H = apR size bytes bareV a H := by
      unfold lenL at hl
      split at hl
      · injection hl with hl; subst hl
        cases ha with
        | slice => rw [heq _ false (e4 _ _ _ _) (fun o ho => by rw [← ho]; exact hsl _ _ _)]; simp [hbind]
      · injection hl with hl; subst hl
        rw [heq _ false (e1 _ _ _ _ _) (fun o ho => by rw [← ho]; exact hlist _ _ _ _ _)]; simp [hbind]
      · cases hl
    have hb := body_is hN hmix hc (hform call a H) (by rw [hform2]; exact hne)
    rw [hform2] at hb
    exact hb.2 w0 μ w _ hH (VRs.cons ha VRs.nil)
  · exact absurd rfl hne
end Go.Sw
