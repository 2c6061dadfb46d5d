/-
  Functions' forms, and what is proved of them, part 10.
-/
import Derived.Test.YtnaodjnimkndbabSwW9
import Derived.Test.YtnaodjnimkndbabSwW7
import Derived.Test.YtnaodjnimkndbabSwW8
set_option linter.unusedSimpArgs false
set_option linter.unusedVariables false
set_option linter.unusedSectionVars false
section
namespace Go.Sw
open Go.RowKit
structure CPlan where
 m : Plan
 subs : List (List Int)
def CPlan.ok (p : CPlan) : Prop := (p.m.ok ∧ p.subs.length < 2 ^ 63) ∧ ∀ s, s ∈ p.subs → ∀ n, n ∈ s → 0 ≤ n ∧ n < 65536
def CSmall (p : CPlan) (n : Nat) : Prop := (∀ s, s ∈ p.subs → s.length ≤ 60) ∧ p.m.cls.length ≤ 40 ∧ p.m.rows.length ≤ 20 ∧ p.m.ents.length ≤ 40 ∧ p.subs.length ≤ 20 ∧ n ≤ 60
instance (p : CPlan) (n : Nat) : Decidable (CSmall p n) := by unfold CSmall; infer_instance
end Go.Sw
end
section
namespace Go.Sw
open Go.RowKit
end Go.Sw
end
section
namespace Go.Sw
open Go.RowKit
end Go.Sw
end
section
namespace Go.Sw
open Go.RowKit
end Go.Sw
end
