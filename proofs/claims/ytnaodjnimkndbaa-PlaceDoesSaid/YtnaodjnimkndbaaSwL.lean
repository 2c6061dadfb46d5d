/-
  How pieces of the evaluator come out on values that are known: laws to simplify with.
-/
import Derived.Test.YtnaodjnimkndbaaSwK
namespace Go.Sw

/-- A check that must hold. -/
def chkR {α : Type} (b : Bool) (r : Res α) : Res α := bif b then r else .stuck

/-- A throw goes one way, a result another. -/
def Res.bindT {α β : Type} (r : Res α) (g : Value → Heap → Res β) (f : α → Heap → Res β) : Res β := r.bindP f g

@[congr] theorem Res.bindT_congr {α β : Type} {r r' : Res α} {g : Value → Heap → Res β} {f : α → Heap → Res β} (h : r = r') : r.bindT g f = r'.bindT g f := by rw [h]
@[simp] theorem Res.bindT_ok {α β : Type} (a : α) (H : Heap) (g : Value → Heap → Res β) (f : α → Heap → Res β) : (Res.ok a H).bindT g f = f a H := rfl
@[simp] theorem Res.bindT_panic {α β : Type} (v : Value) (H : Heap) (g : Value → Heap → Res β) (f : α → Heap → Res β) : (Res.panic v H : Res α).bindT g f = g v H := rfl
@[congr] theorem Res.bind_congr {α β : Type} {r r' : Res α} {f : α → Heap → Res β} (h : r = r') : r.bind f = r'.bind f := by rw [h]
@[congr] theorem Res.bindN_congr {α β : Type} {r r' : Res α} {f : α → Heap → Res β} (h : r = r') : r.bindN f = r'.bindN f := by rw [h]
@[congr] theorem condV_congr {α : Type} {v v' : Option Value} {x y : Res α} (h : v = v') : condV v x y = condV v' x y := by rw [h]
@[congr] theorem chkR_congr {α : Type} {b b' : Bool} {r : Res α} (h : b = b') : chkR b r = chkR b' r := by rw [h]
@[simp] theorem chkR_true {α : Type} (r : Res α) : chkR true r = r := rfl
@[simp] theorem Res.bind_ok {α β : Type} (a : α) (H : Heap) (f : α → Heap → Res β) : (Res.ok a H).bind f = f a H := rfl
@[simp] theorem Res.bind_panic {α β : Type} (v : Value) (H : Heap) (f : α → Heap → Res β) : (Res.panic v H).bind f = .panic v H := rfl
@[simp] theorem Res.bindN_ok {α β : Type} (a : α) (H : Heap) (f : α → Heap → Res β) : (Res.ok a H).bindN f = f a H := rfl
@[simp] theorem condV_true {α : Type} (x y : Res α) : condV (some (.bool true)) x y = x := rfl
@[simp] theorem condV_false {α : Type} (x y : Res α) : condV (some (.bool false)) x y = y := rfl
theorem condV_bool {α : Type} (b : Bool) (x y : Res α) : condV (some (.bool b)) x y = if b then x else y := by cases b <;> rfl
@[simp] theorem optR_some {α : Type} (a : α) (H : Heap) : opt (some a) H = .ok a H := rfl
@[simp] theorem wantVal_bool (b w : Bool) : wantVal (.bool b) w = (b == w) := rfl

section
variable (P : Program) (t : TypeId) (H : Heap) (k : IntKind) (a b : Int)
@[simp] theorem bin_add : binR P .add t (.int k a) (.int k b) H = .ok (.int k (k.wrap (a + b))) H := by simp [binR, binV, intBin]
@[simp] theorem bin_sub : binR P .sub t (.int k a) (.int k b) H = .ok (.int k (k.wrap (a - b))) H := by simp [binR, binV, intBin]
@[simp] theorem bin_mul : binR P .mul t (.int k a) (.int k b) H = .ok (.int k (k.wrap (a * b))) H := by simp [binR, binV, intBin]
@[simp] theorem bin_lss : binR P .lss t (.int k a) (.int k b) H = .ok (.bool (decide (a < b))) H := by simp [binR, binV, intBin]
@[simp] theorem bin_leq : binR P .leq t (.int k a) (.int k b) H = .ok (.bool (decide (a ≤ b))) H := by simp [binR, binV, intBin]
@[simp] theorem bin_gtr : binR P .gtr t (.int k a) (.int k b) H = .ok (.bool (decide (a > b))) H := by simp [binR, binV, intBin]
@[simp] theorem bin_geq : binR P .geq t (.int k a) (.int k b) H = .ok (.bool (decide (a ≥ b))) H := by simp [binR, binV, intBin]
@[simp] theorem bin_eql : binR P .eql t (.int k a) (.int k b) H = .ok (.bool (a == b)) H := by simp [binR, binV, intBin]
@[simp] theorem bin_neq : binR P .neq t (.int k a) (.int k b) H = .ok (.bool (a != b)) H := by simp [binR, binV, intBin]
theorem bin_quo (h : b ≠ 0) : binR P .quo t (.int k a) (.int k b) H = .ok (.int k (k.wrap (a.tdiv b))) H := by simp [binR, binV, intBin, h]
theorem bin_rem (h : b ≠ 0) : binR P .rem t (.int k a) (.int k b) H = .ok (.int k (a.tmod b)) H := by simp [binR, binV, intBin, h]
@[simp] theorem un_not (x : Bool) : unR .not (.bool x) H = .ok (.bool !x) H := rfl
@[simp] theorem un_neg : unR .neg (.int k a) H = .ok (.int k (k.wrap (0 - a))) H := rfl
@[simp] theorem min_int (ts : List TypeId) (k' : IntKind) : builtinV P .min ts [.int k a, .int k' b] H = .ok (.int k (if b < a then b else a)) H := rfl
@[simp] theorem max_int (ts : List TypeId) (k' : IntKind) : builtinV P .max ts [.int k a, .int k' b] H = .ok (.int k (if b > a then b else a)) H := rfl
end

/-- A number as another kind. -/
def cvK (k : IntKind) (x : Value) (H : Heap) : Res Value :=
  match x with
  | .int _ n => .ok (.int k (k.wrap n)) H
  | _ => .stuck
theorem convR_int {P : Program} {s d : TypeId} {k : IntKind} (h1 : (P.underlying s).isSome = true) (h2 : P.underlying d = some (.int k)) (x : Value) (H : Heap) : convR P s d x H = cvK k x H := by
  unfold convR convV cvK
  rw [h1, h2]
  cases x <;> rfl
@[simp] theorem cvK_int (k k' : IntKind) (n : Int) (H : Heap) : cvK k (.int k' n) H = .ok (.int k (k.wrap n)) H := rfl

theorem wrap_i64 {n : Int} (h1 : -9223372036854775808 ≤ n) (h2 : n ≤ 9223372036854775807) : IntKind.i64.wrap n = n := by
  unfold IntKind.wrap
  simp [IntKind.signed, IntKind.bits]
  omega
theorem wrap_i32 {n : Int} (h1 : -2147483648 ≤ n) (h2 : n ≤ 2147483647) : IntKind.i32.wrap n = n := by
  unfold IntKind.wrap
  simp [IntKind.signed, IntKind.bits]
  omega
end Go.Sw
