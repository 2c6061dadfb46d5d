/-
  Calls without counting: what a call comes to, however deep it goes.
-/
import Derived.Test.YtnaodjnimkndbaaSwM
namespace Go.Sw

/-- A row of callers comes to one, call by call. -/
def Appr (s : Nat → Caller) (lim : Caller) : Prop := ∀ f a H, lim f a H ≠ .stuck → ∃ n, ∀ m, n ≤ m → s m f a H = lim f a H
/-- What is made of a caller hangs on finitely many calls. -/
def Scott {α : Type} (F : Caller → Res α) : Prop := ∀ s lim, Appr s lim → F lim ≠ .stuck → ∃ n, ∀ m, n ≤ m → F (s m) = F lim

theorem Scott.const {α : Type} (r : Res α) : Scott fun _ => r := fun _ _ _ _ => ⟨0, fun _ _ => rfl⟩
theorem Scott.call (f : FuncId) (a : List Value) (H : Heap) : Scott fun call => call f a H := fun _ _ h hne => h f a H hne
theorem Scott.bind {α β : Type} {F : Caller → Res α} {G : Caller → α → Heap → Res β} (hF : Scott F) (hG : ∀ a H, Scott fun call => G call a H) : Scott fun call => (F call).bind (G call) := by
  intro s lim h hne
  have hne1 : F lim ≠ .stuck := Res.bind_ne hne
  obtain ⟨n1, h1⟩ := hF s lim h hne1
  cases hr : F lim with
  | stuck => exact absurd hr hne1
  | panic v H =>
    refine ⟨n1, fun m hm => ?_⟩
    show (F (s m)).bind (G (s m)) = (F lim).bind (G lim)
    rw [h1 m hm, hr]; rfl
  | ok a H =>
    have hne2 : G lim a H ≠ .stuck := by
      have := hne
      dsimp only at this
      rw [hr] at this
      exact this
    obtain ⟨n2, h2⟩ := hG a H s lim h hne2
    refine ⟨max n1 n2, fun m hm => ?_⟩
    show (F (s m)).bind (G (s m)) = (F lim).bind (G lim)
    rw [h1 m (by omega), hr]
    exact h2 m (by omega)
theorem Scott.condV {α : Type} {F G : Caller → Res α} (v : Option Value) (hF : Scott F) (hG : Scott G) : Scott fun call => condV v (F call) (G call) := by
  unfold Go.Sw.condV
  split
  · exact hF
  · exact hG
  · exact Scott.const _
theorem Scott.bif {α : Type} {F G : Caller → Res α} (b : Bool) (hF : Scott F) (hG : Scott G) : Scott fun call => bif b then F call else G call := by
  cases b
  · exact hG
  · exact hF

theorem Scott.callV (f : Value) (args : List Value) (H : Heap) : Scott fun call => callV call f args H := by
  unfold Go.Sw.callV
  split
  · exact Scott.call _ _ _
  · exact Scott.const _
theorem Scott.invokeR (P : Program) (r : Value) (name : String) (args : List Value) (H : Heap) : Scott fun call => invokeR P call r name args H := by
  unfold Go.Sw.invokeR
  split
  · exact Scott.bind (Scott.const _) fun f H => Scott.call _ _ _
  · exact Scott.const _

theorem Scott.stepOp (c : Cfg) (e : Env) (H : Heap) (op : Op) : Scott fun call => stepOp c call e H op := by
  cases op <;> simp only [Go.Sw.stepOp] <;> first
    | exact Scott.const _
    | skip
  case call k =>
    refine Scott.bind (Scott.const _) fun args H => ?_
    split
    · exact Scott.const _
    · exact Scott.bind (Scott.const _) fun f H => Scott.callV _ _ _
    · exact Scott.bind (Scott.const _) fun r H => Scott.invokeR _ _ _ _ _

theorem Scott.stepO (c : Cfg) (ops : Array Oper) (e : Env) (H : Heap) (o : Oper) : Scott fun call => stepO c call ops e H o := by
  unfold Go.Sw.stepO
  split
  · exact Scott.const _
  · exact Scott.bif _ (Scott.stepOp _ _ _ _) (Scott.const _)

theorem Scott.runOps (c : Cfg) (nt : Nat) (ops : Array Oper) : ∀ (os : List Oper) (e : Env) (H : Heap), Scott fun call => runOps c call nt ops os e H
  | [], e, H => Scott.const _
  | o :: os, e, H => by
    simp only [Go.Sw.runOps]
    exact Scott.bif _ (Scott.bind (Scott.stepO _ _ _ _ _) fun v H' => Scott.runOps c nt ops os _ _) (Scott.const _)

theorem Scott.loopN {F : Caller → Env → Heap → Res (AExit × Env)} (hF : ∀ e H, Scott fun call => F call e H) : ∀ (n : Nat) (e : Env) (H : Heap), Scott fun call => loopN (F call) n e H
  | 0, _, _ => Scott.const _
  | n + 1, e, H => by
    simp only [Go.Sw.loopN]
    refine Scott.bind (hF e H) fun r H' => ?_
    split
    · exact Scott.loopN hF n _ _
    · exact Scott.const _

theorem Scott.bindN {α β : Type} {F : Caller → Res α} {G : Caller → α → Heap → Res β} (hF : Scott F) (hG : ∀ a H, Scott fun call => G call a H) : Scott fun call => (F call).bindN (G call) := by
  intro s lim h hne
  have hne1 : F lim ≠ .stuck := fun e => hne (by dsimp only; rw [e]; rfl)
  obtain ⟨n1, h1⟩ := hF s lim h hne1
  cases hr : F lim with
  | stuck => exact absurd hr hne1
  | panic v H => exact absurd (by dsimp only; rw [hr]; rfl) hne
  | ok a H =>
    have hne2 : G lim a H ≠ .stuck := by
      have := hne
      dsimp only at this
      rw [hr] at this
      exact this
    obtain ⟨n2, h2⟩ := hG a H s lim h hne2
    refine ⟨max n1 n2, fun m hm => ?_⟩
    show (F (s m)).bindN (G (s m)) = (F lim).bindN (G lim)
    rw [h1 m (by omega), hr]
    exact h2 m (by omega)
theorem Scott.bindP {α β : Type} {F : Caller → Res α} {G : Caller → α → Heap → Res β} {K : Caller → Value → Heap → Res β} (hF : Scott F) (hG : ∀ a H, Scott fun call => G call a H) (hK : ∀ a H, Scott fun call => K call a H) :
    Scott fun call => (F call).bindP (G call) (K call) := by
  intro s lim h hne
  have hne1 : F lim ≠ .stuck := fun e => hne (by dsimp only; rw [e]; rfl)
  obtain ⟨n1, h1⟩ := hF s lim h hne1
  cases hr : F lim with
  | stuck => exact absurd hr hne1
  | panic a H =>
    have hne2 : K lim a H ≠ .stuck := by
      have := hne
      dsimp only at this
      rw [hr] at this
      exact this
    obtain ⟨n2, h2⟩ := hK a H s lim h hne2
    refine ⟨max n1 n2, fun m hm => ?_⟩
    show (F (s m)).bindP (G (s m)) (K (s m)) = (F lim).bindP (G lim) (K lim)
    rw [h1 m (by omega), hr]
    exact h2 m (by omega)
  | ok a H =>
    have hne2 : G lim a H ≠ .stuck := by
      have := hne
      dsimp only at this
      rw [hr] at this
      exact this
    obtain ⟨n2, h2⟩ := hG a H s lim h hne2
    refine ⟨max n1 n2, fun m hm => ?_⟩
    show (F (s m)).bindP (G (s m)) (K (s m)) = (F lim).bindP (G lim) (K lim)
    rw [h1 m (by omega), hr]
    exact h2 m (by omega)

/-- A read hangs on no call. -/
theorem stepO_read {c : Cfg} {call call' : Caller} {ops : Array Oper} {e : Env} {H : Heap} {o : Oper} (h : isRead o.op = true) : stepO c call ops e H o = stepO c call' ops e H o := by
  unfold stepO
  cases ho : o.op <;> rw [ho] at h <;> first | rfl | cases h

theorem stages_call {c : Cfg} {call call' : Caller} {ops : Array Oper} {ms : List Nat} {D : Nat → Bool} {all : List Rec} {j : Nat} {r : Rec} (h : isRead r.o.op = true) : ∀ (l : Nat) (ss : List Rec), stagesOk c call ops ms D all j r l ss = stagesOk c call' ops ms D all j r l ss
  | _, [] => rfl
  | l, s :: ss => by simp only [stagesOk]; rw [stages_call (call := call) (call' := call') h (l + 1) ss, stepO_read (call := call) (call' := call') h]

theorem stable_call {c : Cfg} {call call' : Caller} {ops : Array Oper} {ms : List Nat} {D : Nat → Bool} {H0 : Heap} {all : List Rec} : ∀ (j : Nat) (rs : List Rec), stable c call ops ms D H0 all j rs = stable c call' ops ms D H0 all j rs
  | _, [] => rfl
  | j, r :: rs => by
    simp only [stable]
    rw [stable_call (call := call) (call' := call') (j + 1) rs]
    cases hr : isRead r.o.op with
    | false => simp
    | true => rw [stepO_read (call := call) (call' := call') hr, stages_call (call := call) (call' := call') hr]

theorem Scott.tailK {β : Type} {K : Caller → List Rec → Res β} (c : Cfg) (ops : Array Oper) (D : Nat → Bool) (hK : ∀ rs, Scott fun call => K call rs) : ∀ (os : List Oper) (acc : List Rec) (i : Nat) (e : Env) (H : Heap), Scott fun call => tailK c call ops D os acc i e H (K call)
  | [], acc, i, e, H => hK acc
  | o :: os, acc, i, e, H => by
    simp only [Go.Sw.tailK]
    exact Scott.bif _ (Scott.tailK c ops D hK os _ _ _ _) (Scott.bindN (Scott.stepO _ _ _ _ _) fun v H' => Scott.tailK c ops D hK os _ _ _ _)
theorem Scott.stableIf {β : Type} {F : Caller → Res β} (c : Cfg) (ops : Array Oper) (ms : List Nat) (D : Nat → Bool) (H0 : Heap) (all rs : List Rec) (j : Nat) (hF : Scott F) : Scott fun call => bif stable c call ops ms D H0 all j rs then F call else .stuck := by
  have : (fun call => bif stable c call ops ms D H0 all j rs then F call else .stuck) = fun call => bif stable c (fun _ _ _ => .stuck) ops ms D H0 all j rs then F call else .stuck := by
    funext call
    rw [stable_call (call := call) (call' := fun _ _ _ => .stuck)]
  rw [this]
  exact Scott.bif _ hF (Scott.const _)
theorem Scott.drawK {β : Type} {K : Caller → List Rec → Heap → Res β} (c : Cfg) (ops : Array Oper) (ms : List Nat) (H0 : Heap) (hK : ∀ rs H, Scott fun call => K call rs H) : ∀ (os : List Oper) (acc : List Rec) (i : Nat) (e : Env) (H : Heap), Scott fun call => drawK c call ops ms H0 os acc i e H (K call)
  | [], acc, i, e, H => hK acc H
  | o :: os, acc, i, e, H => by
    simp only [Go.Sw.drawK]
    refine Scott.bif _ (Scott.bindP (Scott.stepO _ _ _ _ _) (fun v H' => Scott.drawK c ops ms H0 hK os _ _ _ _) fun v H' => ?_) (Scott.bindN (Scott.stepO _ _ _ _ _) fun v H' => Scott.drawK c ops ms H0 hK os _ _ _ _)
    exact Scott.tailK c ops _ (fun rs => Scott.stableIf c ops ms _ H0 rs rs 0 (Scott.const _)) os _ _ _ _
end Go.Sw
