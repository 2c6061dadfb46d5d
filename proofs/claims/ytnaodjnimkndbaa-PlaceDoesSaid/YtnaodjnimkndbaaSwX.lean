/-
  Code and calls: the evaluator's against the model's.
-/
import Derived.Test.YtnaodjnimkndbaaSwW
namespace Go.Sw
open Go.RowKit

abbrev Draw := Array Oper → Env → Heap → Res Env

/-- A drawn region is told truly, in whatever order it is drawn. -/
def DrawOk (P : Program) (nt : Nat) (draw : Draw) : Prop :=
  ∀ ops e H, draw ops e H ≠ .stuck → ∀ w0 μ a w id, HR w0 μ H w → ER μ nt e a.tmps → a.defers = [] →
    (Code.region id ops true).wp P (Out w0 μ nt ((draw ops e H).bind fun e' H' => .ok (.normal, e') H')) a w

section
variable {c : Cfg} {call : Caller} {draw : Draw} {w0 : Base} {nt : Nat} {kp : Nat → List Nat}

theorem Out.keep {μ : Mu} {r : Res Env} {ks : List Nat} {x : Exit} {a : Act} {w : World} (h : Out w0 μ nt (r.bind fun e' H' => .ok (.normal, e') H') x a w) :
    Out w0 μ nt (r.bind fun e' H' => .ok (.normal, Env.keep ks e') H') x a w := by
  cases r with
  | ok e H => obtain ⟨μ', h1, h2, h3, h4, h5⟩ := h; exact ⟨μ', h1, h2, h3.keep ks, h4, h5⟩
  | panic v H => exact h
  | stuck => exact h

theorem Out.round {μ : Mu} {r : Res (AExit × Env)} {ks : List Nat} {x : Exit} {a : Act} {w : World} (h : Out w0 μ nt r x a w) :
    Out w0 μ nt (r.bind fun r H' => .ok (roundK ks r) H') x a w := by
  cases r with
  | ok r H =>
    obtain ⟨y, e⟩ := r
    obtain ⟨μ', h1, h2, h3, h4, h5⟩ := h
    cases y with
    | normal => exact ⟨μ', h1, h2, h3.keep ks, h4, h5⟩
    | exit i => exact ⟨μ', h1, h2, h3, h4, h5⟩
    | ret => exact ⟨μ', h1, h2, h3, h4, h5⟩
  | panic v H => exact h
  | stuck => exact h

theorem rounds_sim {b : Code} {body : Env → Heap → Res (AExit × Env)}
    (hb : ∀ e H, body e H ≠ .stuck → ∀ μ a w, HR w0 μ H w → ER μ nt e a.tmps → a.defers = [] → b.wp c.P (Out w0 μ nt (body e H)) a w) :
    ∀ n e H, loopN body n e H ≠ .stuck → ∀ μ a w, HR w0 μ H w → ER μ nt e a.tmps → a.defers = [] → Code.rounds c.P b (Out w0 μ nt (loopN body n e H)) n a w
  | 0, e, H, hne, μ, a, w, _, _, _ => absurd rfl hne
  | n + 1, e, H, hne, μ, a, w, hH, hE, hd => by
    rw [rounds_succ]
    simp only [loopN] at hne ⊢
    refine wp_mono (hb e H (Res.bind_ne hne) μ a w hH hE hd) fun x a' w' ho => ?_
    unfold Out at ho
    split at ho
    · rename_i y e' H' hr
      obtain ⟨μ', h1, h2, h3, h4, h5⟩ := ho
      rw [hr] at hne ⊢
      simp only [Res.bind] at hne ⊢
      cases y with
      | normal =>
        simp only at h5 hne ⊢
        subst h5
        have ih := rounds_sim hb n e' H' hne μ' a' w' h2 h3 h4
        simp only [Exit.then]
        exact mono n _ _ ih fun x a w => Out.up h1
      | exit i =>
        simp only at h5 ⊢
        subst h5
        exact ⟨μ', h1, h2, h3, h4, rfl⟩
      | ret =>
        simp only at h5 ⊢
        subst h5
        exact ⟨μ', h1, h2, h3, h4, rfl⟩
    · rename_i v H' hr
      obtain ⟨μ', v', h1, h2, h3, h4, rfl⟩ := ho
      rw [hr]
      exact ⟨μ', v', h1, h2, h3, h4, rfl⟩
    · exact ho.elim
where
  mono {P : Program} {b : Code} {Q Q' : Exit → Act → World → Prop} (n : Nat) (a : Act) (w : World) (h : Code.rounds P b Q n a w) (hq : ∀ x a w, Q x a w → Q' x a w) : Code.rounds P b Q' n a w := by
    induction n generalizing a w with
    | zero => exact h
    | succ n ih =>
      rw [rounds_succ] at h ⊢
      refine wp_mono h fun x a w hx => ?_
      cases x with
      | normal => exact ih _ _ hx
      | _ => exact hq _ _ _ hx

theorem exec_sim (hc : CallOk c.P call) (hdr : DrawOk c.P nt draw) : ∀ (code : Code) e H, exec c call draw nt kp code e H ≠ .stuck → ∀ μ a w, HR w0 μ H w → ER μ nt e a.tmps → a.defers = [] →
    code.wp c.P (Out w0 μ nt (exec c call draw nt kp code e H)) a w
  | .skip, e, H, hne, μ, a, w, hH, hE, hd => wp_skip ⟨μ, Mu.le_refl _, hH, hE, hd, rfl⟩
  | .label l, e, H, hne, μ, a, w, hH, hE, hd => wp_label ⟨μ, Mu.le_refl _, hH, hE, hd, rfl⟩
  | .exit i, e, H, hne, μ, a, w, hH, hE, hd => wp_exit ⟨μ, Mu.le_refl _, hH, hE, hd, rfl⟩
  | .ret, e, H, hne, μ, a, w, hH, hE, hd => wp_ret ⟨μ, Mu.le_refl _, hH, hE, hd, rfl⟩
  | .region id ops d, e, H, hne, μ, a, w, hH, hE, hd => by
    cases d with
    | false =>
      simp only [exec, cond_false] at hne ⊢
      refine wp_region ?_
      have h := runOps_sim (w0 := w0) (nt := nt) hc ops ops.toList 0 e H μ a w rfl (Res.bind_ne hne) hH hE hd
      rw [Array.length_toList, ← List.range_eq_range'] at h
      exact runOps_sim.wpOps_mono _ (fun x a w hx => hx.keep) h
    | true =>
      simp only [exec, cond_true] at hne ⊢
      exact wp_mono (hdr ops e H (Res.bind_ne hne) w0 μ a w id hH hE hd) fun x a w hx => hx.keep
  | .seq x y, e, H, hne, μ, a, w, hH, hE, hd => by
    simp only [exec] at hne ⊢
    refine wp_seq (wp_mono (exec_sim hc hdr x e H (Res.bind_ne hne) μ a w hH hE hd) fun q a' w' ho => ?_)
    unfold Out at ho
    split at ho
    · rename_i z e' H' hr
      obtain ⟨μ', h1, h2, h3, h4, h5⟩ := ho
      rw [hr] at hne ⊢
      simp only [Res.bind, seqK] at hne ⊢
      cases z with
      | normal =>
        simp only at h5 hne ⊢
        subst h5
        simp only [Exit.then]
        exact wp_mono (exec_sim hc hdr y e' H' hne μ' a' w' h2 h3 h4) fun x a w => Out.up h1
      | exit i =>
        simp only at h5 ⊢
        subst h5
        exact ⟨μ', h1, h2, h3, h4, rfl⟩
      | ret =>
        simp only at h5 ⊢
        subst h5
        exact ⟨μ', h1, h2, h3, h4, rfl⟩
    · rename_i v H' hr
      obtain ⟨μ', v', h1, h2, h3, h4, rfl⟩ := ho
      rw [hr]
      exact ⟨μ', v', h1, h2, h3, h4, rfl⟩
    · exact ho.elim
  | .cond x y z, e, H, hne, μ, a, w, hH, hE, hd => by
    simp only [exec] at hne ⊢
    obtain ⟨t, hb, he⟩ := condV_ne hne
    rw [he] at hne ⊢
    refine wp_cond (opnd_sim hE hb).bool_inv ?_
    cases t with
    | true => exact exec_sim hc hdr y e H hne μ a w hH hE hd
    | false => exact exec_sim hc hdr z e H hne μ a w hH hE hd
  | .block id x, e, H, hne, μ, a, w, hH, hE, hd => by
    simp only [exec] at hne ⊢
    refine wp_block (wp_mono (exec_sim hc hdr x e H (Res.bind_ne hne) μ a w hH hE hd) fun q a' w' ho => ?_)
    unfold Out at ho
    split at ho
    · rename_i z e' H' hr
      obtain ⟨μ', h1, h2, h3, h4, h5⟩ := ho
      rw [hr] at hne ⊢
      simp only [Res.bind, blockK] at hne ⊢
      cases z with
      | normal =>
        simp only at h5 ⊢
        subst h5
        exact ⟨μ', h1, h2, h3, h4, rfl⟩
      | exit i =>
        simp only at h5 ⊢
        subst h5
        simp only [Exit.inBlock]
        by_cases hi : i = id
        · rw [if_pos hi, if_pos (by simpa using hi)]
          exact ⟨μ', h1, h2, h3, h4, rfl⟩
        · rw [if_neg hi, if_neg (by simpa using hi)]
          exact ⟨μ', h1, h2, h3, h4, rfl⟩
      | ret =>
        simp only at h5 ⊢
        subst h5
        exact ⟨μ', h1, h2, h3, h4, rfl⟩
    · rename_i v H' hr
      obtain ⟨μ', v', h1, h2, h3, h4, rfl⟩ := ho
      rw [hr]
      exact ⟨μ', v', h1, h2, h3, h4, rfl⟩
    · exact ho.elim
  | .loop x, e, H, hne, μ, a, w, hH, hE, hd => by
    simp only [exec] at hne ⊢
    exact wp_loop_rounds loopFuel (rounds_sim (fun e H h μ a w hH hE hd => wp_mono (exec_sim hc hdr x e H (Res.bind_ne h) μ a w hH hE hd) fun _ _ _ ho => ho.round) loopFuel _ H hne μ a w hH (hE.keep _) hd)
  | .scope x, e, H, hne, μ, a, w, hH, hE, hd => absurd rfl hne
  | .rangeFunc _ _ _ _, e, H, hne, μ, a, w, hH, hE, hd => absurd rfl hne
  | .goto _, e, H, hne, μ, a, w, hH, hE, hd => absurd rfl hne
  | .refuse _, e, H, hne, μ, a, w, hH, hE, hd => absurd rfl hne

theorem Env.get_of (i : Nat) (vs : List Value) (t : Nat) : (Env.of i vs).get t = if i ≤ t then vs[t - i]? else none := by
  induction vs generalizing i with
  | nil => simp [Env.of, Env.get]
  | cons v vs ih =>
    simp only [Env.of, Env.get, ih]
    by_cases h : i = t
    · subst h; simp
    · rw [if_neg (by simpa using h)]
      by_cases h2 : i ≤ t
      · rw [if_pos h2, if_pos (by omega), show t - i = (t - (i + 1)) + 1 by omega, List.getElem?_cons_succ]
      · rw [if_neg h2, if_neg (by omega)]

theorem ER.start {μ : Mu} {args args' : List Value} (h : VRs μ args args') (hl : args.length ≤ nt) : ER μ nt (Env.of 0 args) (args'.toArray ++ Array.replicate (nt - args'.toArray.size) undef) := by
  have := h.1
  refine ⟨by simp; omega, fun t v hv => ?_⟩
  rw [Env.get_of] at hv
  simp only [Nat.zero_le, if_true, Nat.sub_zero] at hv
  obtain ⟨v', e, r⟩ := h.get hv
  have hlt : t < args'.length := (List.getElem?_eq_some_iff.1 e).1
  exact ⟨v', by rw [Array.getElem?_append_left (by simpa using hlt)]; simpa using e, r⟩

def resVal (tmps : Array Value) : ResultVar → Sem Value
  | .tmp t => pure (tmps.getD t undef)
  | .cell a t => do loadVar t (← asAddr (tmps.getD a undef))

theorem results_eq (fn : Func) (tmps : Array Value) : results fn tmps = (do let vs ← fn.results.mapM (resVal tmps); pure (if h : vs.size = 1 then vs[0] else .tuple vs)) := by
  unfold results
  congr 1

theorem result_sim {μ : Mu} {H : Heap} {w : World} (hH : HR w0 μ H w) {e : Env} {tmps : Array Value} (hE : ER μ nt e tmps) : ∀ {rs : List ResultVar} {vs : List Value}, resultV c.P e H rs = some vs →
    ∃ vs', (rs.mapM (resVal tmps)).run c.P w = .ok vs' w ∧ VRs μ vs vs'
  | [], vs, h => by simp [resultV] at h; subst h; exact ⟨[], by simp, VRs.nil⟩
  | .tmp t :: rs, vs, h => by
    simp only [resultV] at h
    cases hg : e.get t with
    | none => simp [hg] at h
    | some v =>
      simp only [hg, Option.bind_some] at h
      obtain ⟨vs2, h2, rfl⟩ := Option.map_eq_some_iff.1 h
      obtain ⟨v', e1, r⟩ := hE.get t v hg
      obtain ⟨vs', e2, r2⟩ := result_sim hH hE h2
      refine ⟨v' :: vs', ?_, VRs.cons r r2⟩
      have : tmps.getD t undef = v' := by simp [e1]
      simp only [List.mapM_cons, Sem.run_bind, resVal, this, Sem.run_pure, Result.andThen_ok, e2]
  | .cell x t :: rs, vs, h => by
    simp only [resultV] at h
    cases hg : e.get x with
    | none => simp [hg] at h
    | some p =>
      simp only [hg, Option.bind_some] at h
      cases hl : loadV c.P t p H with
      | none => simp [hl] at h
      | some v =>
        simp only [hl, Option.bind_some] at h
        obtain ⟨vs2, h2, rfl⟩ := Option.map_eq_some_iff.1 h
        obtain ⟨p', e1, r⟩ := hE.get x p hg
        obtain ⟨v', e3, r3⟩ := load_sim (P := c.P) hH r hl
        obtain ⟨vs', e2, r2⟩ := result_sim hH hE h2
        refine ⟨v' :: vs', ?_, VRs.cons r3 r2⟩
        have hp : ∃ q, p' = .pointer (some q) := by
          unfold loadV at hl
          split at hl
          · cases r; exact ⟨_, rfl⟩
          · cases r; exact ⟨_, rfl⟩
          · cases hl
        obtain ⟨q, rfl⟩ := hp
        have e3 : (loadVar t q).run c.P w = .ok v' w := by simpa [Instr.loadAt, Instr.sureAddr] using e3
        have : tmps.getD x undef = .pointer (some q) := by simp [e1]
        simp only [List.mapM_cons, Sem.run_bind, resVal, this, asAddr, Sem.run_pure, Result.andThen_ok, e3, e2]

end

/-- A call: a function that is told, or its body. -/
def callF (c : Cfg) (draw : Caller → Nat → Draw) : Nat → Caller
  | 0 => fun _ _ _ => .stuck
  | n + 1 => fun f args H =>
    match c.sp f with
    | some s => s (callF c draw n) args H
    | none =>
      match c.P.funcs[f]? with
      | some fn =>
        match fn.body with
        | some code =>
          bif Nat.ble args.length fn.ntmps then
            (exec c (callF c draw n) (draw (callF c draw n) fn.ntmps) fn.ntmps (c.kp f) code (Env.of 0 args) H).bind (doneK c.P fn.results.toList)
          else .stuck
        | none => .stuck
      | none => .stuck

/-- What is asked of the program: no function with a body bears the one name that the model reads otherwise. -/
def NamesOk (P : Program) : Prop := ∀ (f : FuncId) (fn : Func), P.funcs[f]? = some fn → fn.body.isSome = true → (fn.name == "runtime.NumGoroutine") = false

def SpOk (c : Cfg) : Prop :=
  ∀ f s, c.sp f = some s → ∀ call, CallOk c.P call → ∀ args H, s call args H ≠ .stuck →
    (∃ fn, c.P.funcs[f]? = some fn ∧ fn.body.isSome = true ∧ (fn.name == "runtime.NumGoroutine") = false) ∧
    ∀ w0 μ w args', HR w0 μ H w → VRs μ args args' → Calls c.P f args'.toArray w fun e w' => Ended w0 μ (s call args H) e w'

theorem tuple_sim {μ : Mu} {vs vs' : List Value} (h : VRs μ vs vs') : VR μ (tupleV vs) (if h : vs'.toArray.size = 1 then vs'.toArray[0] else .tuple vs'.toArray) := by
  unfold tupleV
  split
  · rename_i v
    obtain ⟨v', r', rfl, hv, hr⟩ := h.cons_inv
    have := hr.nil_inv
    subst this
    simpa using hv
  · rename_i hne
    have hl := h.1
    have : vs'.toArray.size ≠ 1 := by
      intro h1
      cases vs with
      | nil => simp at hl h1; omega
      | cons v vs =>
        cases vs with
        | nil => exact hne v rfl
        | cons u vs => simp at hl h1; omega
    rw [dif_neg this]
    exact .tuple _ _ (by simpa using hl) fun i v v' a b => h.2 i v v' (by simpa using a) (by simpa using b)

/-- A body: the evaluator's against the model's. -/
theorem body_ok {c : Cfg} {call : Caller} {draw : Nat → Draw} (hN : NamesOk c.P) (ih : CallOk c.P call) (hdr : ∀ nt, DrawOk c.P nt (draw nt)) {f : FuncId} {fn : Func} {code : Code} {args : List Value} {H : Heap}
    (hf : c.P.funcs[f]? = some fn) (hb : fn.body = some code) (hl : args.length ≤ fn.ntmps) (hne : (exec c call (draw fn.ntmps) fn.ntmps (c.kp f) code (Env.of 0 args) H).bind (doneK c.P fn.results.toList) ≠ .stuck) :
    (∃ fn, c.P.funcs[f]? = some fn ∧ fn.body.isSome = true ∧ (fn.name == "runtime.NumGoroutine") = false) ∧
    ∀ w0 μ w args', HR w0 μ H w → VRs μ args args' → Calls c.P f args'.toArray w fun e w' => Ended w0 μ ((exec c call (draw fn.ntmps) fn.ntmps (c.kp f) code (Env.of 0 args) H).bind (doneK c.P fn.results.toList)) e w' := by
  refine ⟨⟨fn, hf, by rw [hb]; rfl, hN f fn hf (by rw [hb]; rfl)⟩, fun w0 μ w args' hH hargs => ?_⟩
  refine calls_of_wp hf hb ?_
  have hx := exec_sim (kp := c.kp f) (w0 := w0) ih (hdr fn.ntmps) code (Env.of 0 args) H (Res.bind_ne hne) μ { tmps := args'.toArray ++ Array.replicate (fn.ntmps - args'.toArray.size) undef, defers := [] } w hH (ER.start hargs hl) rfl
  refine wp_mono hx fun x a' w' ho => ?_
  unfold Out at ho
  split at ho
  · rename_i y e' H' hr
    obtain ⟨μ', h1, h2, h3, h4, h5⟩ := ho
    rw [hr] at hne ⊢
    simp only [Res.bind, doneK] at hne ⊢
    have fin : ∀ q : Res Value, q = opt ((resultV c.P e' H' fn.results.toList).map tupleV) H' → q ≠ .stuck → (a'.defers = [] ∧ ∃ v, (results fn a'.tmps).run c.P w' = .ok v w' ∧ Ended w0 μ q (.returned v) w') := by
      intro q hq hqne
      refine ⟨h4, ?_⟩
      cases hrv : resultV c.P e' H' fn.results.toList with
      | none => rw [hrv] at hq; subst hq; exact absurd rfl hqne
      | some vs =>
        rw [hrv] at hq
        simp only [Option.map_some, opt] at hq
        subst hq
        obtain ⟨vs', e1, r1⟩ := result_sim (c := c) h2 h3 hrv
        refine ⟨_, ?_, μ', _, h1, h2, tuple_sim r1, rfl⟩
        rw [results_eq]
        simp only [Sem.run_bind, Array.mapM_eq_mapM_toList, Sem.run_map, e1, Result.andThen_ok, Sem.run_pure]
    cases y with
    | normal =>
      simp only at h5 hne ⊢
      subst h5
      exact fin _ rfl hne
    | exit i => exact absurd rfl hne
    | ret =>
      simp only at h5 hne ⊢
      subst h5
      exact fin _ rfl hne
  · rename_i v H' hr
    obtain ⟨μ', v', h1, h2, h3, h4, rfl⟩ := ho
    rw [hr]
    exact ⟨h4, μ', v', h1, h2, h3, rfl⟩
  · exact ho.elim

theorem callF_ok (c : Cfg) (draw : Caller → Nat → Draw) (hN : NamesOk c.P) (hsp : SpOk c) (hdr : ∀ call nt, CallOk c.P call → DrawOk c.P nt (draw call nt)) : ∀ n, CallOk c.P (callF c draw n)
  | 0 => fun f args H hne => absurd rfl hne
  | n + 1 => by
    intro f args H hne
    have ih := callF_ok c draw hN hsp hdr n
    simp only [callF] at hne ⊢
    cases hs : c.sp f with
    | some s =>
      rw [hs] at hne
      exact hsp f s hs _ ih args H hne
    | none =>
      rw [hs] at hne
      simp only at hne ⊢
      cases hf : c.P.funcs[f]? with
      | none => rw [hf] at hne; exact absurd rfl hne
      | some fn =>
        rw [hf] at hne
        simp only at hne ⊢
        cases hb : fn.body with
        | none => rw [hb] at hne; exact absurd rfl hne
        | some code =>
          rw [hb] at hne
          simp only at hne ⊢
          cases hl : Nat.ble args.length fn.ntmps with
          | false => rw [hl] at hne; exact absurd rfl hne
          | true =>
            rw [hl] at hne
            simp only [cond_true] at hne ⊢
            have hl := Nat.le_of_ble_eq_true hl
            have := body_ok (draw := draw (callF c draw n)) hN ih (fun nt => hdr _ nt ih) hf hb hl hne
            rw [hf] at this
            exact this
end Go.Sw
