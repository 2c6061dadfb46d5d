/-
  Calls that may throw, against what is said of them.
-/
import Derived.Test.YtnaodjnimkndbaaSwView
import Derived.Test.YtnaodjnimkndbaaSwLib9
namespace Go.Sw
open Go.RowKit

@[simp] theorem neb_4 (a b : Bool) (h : Heap) : binR Prog .neq 4 (.bool a) (.bool b) h = .ok (.bool (a != b)) h := by cases a <;> cases b <;> kernel_rfl
@[simp] theorem eqb_4 (a b : Bool) (h : Heap) : binR Prog .eql 4 (.bool a) (.bool b) h = .ok (.bool (a == b)) h := by cases a <;> cases b <;> kernel_rfl

section
variable {α β γ δ : Type} {E : Heap → Prop} {o : Option β} {f : β → Value} {r : Res Value} {H : Heap} {Q : δ → γ → Heap → Prop}
theorem Cp.call {K : Value → Heap → Res γ} {g : β → Option δ} (hr : r = orF o f H) (hE : E H) (hk : ∀ b, o = some b → Cp failV E (K (f b) H) (g b) Q) : Cp failV E (r.bind K) (o.bind g) Q := by
  subst hr
  cases o with
  | none => exact ⟨H, rfl, hE⟩
  | some b => exact hk b rfl
theorem Cp.callM {K : Value → Heap → Res γ} {g : β → δ} (hr : r = orF o f H) (hE : E H) (hk : ∀ b, o = some b → Cp failV E (K (f b) H) (some (g b)) Q) : Cp failV E (r.bind K) (o.map g) Q := by
  subst hr
  cases o with
  | none => exact ⟨H, rfl, hE⟩
  | some b => exact hk b rfl
/-- The last call. -/
theorem Cp.callL {Q : β → γ → Heap → Prop} {K : Value → Heap → Res γ} (hr : r = orF o f H) (hE : E H) (hk : ∀ b, o = some b → Cp failV E (K (f b) H) (some b) Q) : Cp failV E (r.bind K) o Q := by
  subst hr
  cases o with
  | none => exact ⟨H, rfl, hE⟩
  | some b => exact hk b rfl
theorem Cp.callLT {Q : β → γ → Heap → Prop} {G : Value → Heap → Res γ} {K : Value → Heap → Res γ} (hr : r = orF o f H) (hp : o = none → ∃ H', G failV H = .panic failV H' ∧ E H') (hk : ∀ b, o = some b → Cp failV E (K (f b) H) (some b) Q) : Cp failV E (r.bindT G K) o Q := by
  subst hr
  cases o with
  | none => exact hp rfl
  | some b => exact hk b rfl
theorem Cp.callT {G : Value → Heap → Res γ} {K : Value → Heap → Res γ} {g : β → Option δ} (hr : r = orF o f H) (hp : o = none → ∃ H', G failV H = .panic failV H' ∧ E H') (hk : ∀ b, o = some b → Cp failV E (K (f b) H) (g b) Q) : Cp failV E (r.bindT G K) (o.bind g) Q := by
  subst hr
  cases o with
  | none => exact hp rfl
  | some b => exact hk b rfl
theorem Cp.callTM {G : Value → Heap → Res γ} {K : Value → Heap → Res γ} {g : β → δ} (hr : r = orF o f H) (hp : o = none → ∃ H', G failV H = .panic failV H' ∧ E H') (hk : ∀ b, o = some b → Cp failV E (K (f b) H) (some (g b)) Q) : Cp failV E (r.bindT G K) (o.map g) Q := by
  subst hr
  cases o with
  | none => exact hp rfl
  | some b => exact hk b rfl
/-- Something that must hold. -/
theorem Cp.need {k : Nat} {p : Prop} [Decidable p] {K : Value → Heap → Res γ} {g : Option δ} (hE : E H) (hk : p → Cp failV E (K (.tuple #[]) H) g Q) : Cp failV E ((R (T k) F.view_Need [.bool (decide p)] H).bind K) (if p then g else none) Q := by
  by_cases h : p
  · rw [if_pos h, decide_eq_true h, Need_true]
    exact hk h
  · rw [if_neg h, decide_eq_false h, Need_false]
    exact ⟨H, rfl, hE⟩
theorem Cp.needT {k : Nat} {p : Prop} [Decidable p] {G : Value → Heap → Res γ} {K : Value → Heap → Res γ} {g : Option δ} (hp : ∃ H', G failV H = .panic failV H' ∧ E H') (hk : p → Cp failV E (K (.tuple #[]) H) g Q) : Cp failV E ((R (T k) F.view_Need [.bool (decide p)] H).bindT G K) (if p then g else none) Q := by
  by_cases h : p
  · rw [if_pos h, decide_eq_true h, Need_true]
    exact hk h
  · rw [if_neg h, decide_eq_false h, Need_false]
    exact hp
end
section
variable {β : Type} {H : Heap} {r : Res Value} {o : Option β} {f : β → Value}
theorem gc_orF (h : Cp failV (Ext H) r o fun b v _ => v = f b) (ha : ∀ b, o = some b → Alive H (f b)) : nrm .gc H r = orF o f H := by
  rw [nrm_gc_cp h ha Flat.fail.alive]
  cases o <;> rfl
theorem fz_orF (h : Cp failV (Ext H) r o fun b v H' => ∃ L, fzV H.n H' fzDepth v = some (f b, L)) (ha : ∀ b, o = some b → Alive H (f b)) : nrm .fz H r = orF o f H := by
  rw [nrm_fz_cp h ha Flat.fail.alive]
  cases o <;> rfl
end
end Go.Sw
