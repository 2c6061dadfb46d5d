/-
  What came in: data of numbers, bools, arrays, structs and slices, told by value: the world keeps them as they are.
-/
import Derived.Test.YtnaodjnimkndbaaSwAC
import Derived.ProofKit
namespace Go.Sw
open Go.RowKit

/-- The kinds of cells that data of plain types have. -/
inductive Sh where
  | bool
  | int (k : IntKind)
  | slice (e : List Sh)

/-- The data themselves. -/
inductive Da where
  | bool (b : Bool)
  | int (n : Int)
  | slice (rows : List (List Da))

mutual
/-- A cell of that kind and datum. -/
inductive Lay : Sh → Da → Value → Prop
  | bool (b : Bool) : Lay .bool (.bool b) (.bool b)
  | int (k : IntKind) (n : Int) (h : (Lit.int k n).wf = true) : Lay (.int k) (.int n) (.int k n)
  | slice (e : List Sh) (rows : List (List Da)) (cells : List Value) (hr : LayRows e rows cells) : Lay (.slice e) (.slice rows) (listV rows.length cells.toArray)
inductive LayRow : List Sh → List Da → List Value → Prop
  | nil : LayRow [] [] []
  | cons (s : Sh) (d : Da) (v : Value) (ss : List Sh) (ds : List Da) (vs : List Value) (h : Lay s d v) (hr : LayRow ss ds vs) : LayRow (s :: ss) (d :: ds) (v :: vs)
inductive LayRows : List Sh → List (List Da) → List Value → Prop
  | nil (e : List Sh) : LayRows e [] []
  | cons (e : List Sh) (row : List Da) (cs : List Value) (rows : List (List Da)) (cells : List Value) (h : LayRow e row cs) (hr : LayRows e rows cells) : LayRows e (row :: rows) (cs ++ cells)
end

theorem LayRow.length : ∀ {s : List Sh} {d : List Da} {v : List Value}, LayRow s d v → v.length = s.length ∧ d.length = s.length
  | _, _, _, .nil => ⟨rfl, rfl⟩
  | _, _, _, .cons s d v ss ds vs h hr => by have := LayRow.length hr; simp [this.1, this.2]
theorem LayRows.length : ∀ {s : List Sh} {d : List (List Da)} {v : List Value}, LayRows s d v → v.length = d.length * s.length
  | _, _, _, .nil e => by simp
  | _, _, _, .cons e row cs rows cells h hr => by have := LayRows.length hr; simp [this, h.length.1, Nat.add_mul, Nat.add_comm]
theorem LayRow.append : ∀ {s s' : List Sh} {d d' : List Da} {v v' : List Value}, LayRow s d v → LayRow s' d' v' → LayRow (s ++ s') (d ++ d') (v ++ v')
  | _, _, _, _, _, _, .nil, h => h
  | _, _, _, _, _, _, .cons s d v _ _ _ h hr, k => .cons s d v _ _ _ h (LayRow.append hr k)

mutual
theorem Lay.one : ∀ {s : Sh} {d : Da} {v : Value}, Lay s d v → v.oneCell' = true
  | _, _, _, .bool _ => rfl
  | _, _, _, .int _ _ _ => rfl
  | _, _, _, .slice _ _ _ _ => rfl
theorem LayRow.ones : ∀ {s : List Sh} {d : List Da} {v : List Value}, LayRow s d v → Ones v
  | _, _, _, .nil => Ones.nil
  | _, _, _, .cons s d v ss ds vs h hr => by
    intro u hu
    rcases List.mem_cons.1 hu with rfl | hu
    · exact Lay.one h
    · exact LayRow.ones hr u hu
theorem LayRows.ones : ∀ {s : List Sh} {d : List (List Da)} {v : List Value}, LayRows s d v → Ones v
  | _, _, _, .nil e => Ones.nil
  | _, _, _, .cons e row cs rows cells h hr => (LayRow.ones h).append (LayRows.ones hr)
end

/-- Those cells of the world are told by value. -/
def Opens (w : World) (cs : List Value) (shs : List Sh) : Prop := ∃ cs' ds, VRs (Mu.start w) cs' cs ∧ LayRow shs ds cs'

variable {w : World}
theorem Opens.nil : Opens w [] [] := ⟨[], [], VRs.nil, .nil⟩
theorem Opens.append {a b : List Value} {s t : List Sh} (h : Opens w a s) (k : Opens w b t) : Opens w (a ++ b) (s ++ t) := by
  obtain ⟨c1, d1, h1, h2⟩ := h
  obtain ⟨c2, d2, k1, k2⟩ := k
  exact ⟨c1 ++ c2, d1 ++ d2, h1.append k1, h2.append k2⟩
theorem Opens.bool (b : Bool) : Opens w [.bool b] [.bool] := ⟨_, _, VRs.cons (.bool b) VRs.nil, .cons _ _ _ _ _ _ (.bool b) .nil⟩
theorem Opens.int (k : IntKind) (n : Int) (hn : (Lit.int k n).wf = true) : Opens w [.int k n] [.int k] := ⟨_, _, VRs.cons (.int k n) VRs.nil, .cons _ _ _ _ _ _ (.int k n hn) .nil⟩
theorem Opens.empty (e : List Sh) (a : Option Addr) (cap : Nat) (hn : a = none → cap = 0) : Opens w [.slice a 0 cap] [.slice e] :=
  ⟨[listV 0 #[]], [.slice []], VRs.cons (.empty _ _ _ _ _ _ (fun h => ⟨hn h, by decide⟩) (fun h => by cases h)) VRs.nil, .cons _ _ _ _ _ _ (.slice e [] [] (.nil e)) .nil⟩

theorem Opens.rows {e : List Sh} : ∀ (rows : List (List Value)), (∀ r, r ∈ rows → Opens w r e) → ∃ cs' ds, VRs (Mu.start w) cs' rows.flatten ∧ LayRows e ds cs' ∧ ds.length = rows.length
  | [], _ => ⟨[], [], VRs.nil, .nil e, rfl⟩
  | r :: rows, hr => by
    obtain ⟨c1, d1, h1, h2⟩ := hr r (by simp)
    obtain ⟨c2, d2, k1, k2, k3⟩ := Opens.rows rows (fun x hx => hr x (by simp [hx]))
    exact ⟨c1 ++ c2, d1 :: d2, by rw [List.flatten_cons]; exact h1.append k1, .cons e _ _ _ _ h2 k2, by simp [k3]⟩

/-- A slice that leads to rows of the world. -/
theorem Opens.slice {e : List Sh} (rows : List (List Value)) {blk off cap : Nat} {cs : Array Value} {el : TypeId} {fz : Nat × Nat} (hr : ∀ r, r ∈ rows → Opens w r e) (hcap : rows.length ≤ cap)
    (hw : w.heap[blk]? = some (.cells cs el fz)) (hlen : off + rows.flatten.length ≤ cs.size) (hc : ∀ (i : Nat) v, rows.flatten[i]? = some v → cs[off + i]? = some v) :
    Opens w [.slice (some ⟨blk, off, none⟩) rows.length cap] [.slice e] := by
  obtain ⟨c1, ds, h1, h2, h3⟩ := Opens.rows rows hr
  refine ⟨[listV ds.length c1.toArray], [.slice ds], VRs.cons ?_ VRs.nil, .cons _ _ _ _ _ _ (.slice e ds c1 h2) .nil⟩
  rw [h3]
  have hl := h1.1
  refine VR.list _ _ _ _ _ blk off cap cs el fz hw (by simp; omega) hcap (by decide) (fun v hv => h2.ones v (by simpa using hv)) fun i v v' hv hv' => ?_
  obtain ⟨u, hu, r⟩ := h1.get (i := i) (v := v) (by simpa using hv)
  have := hc i u hu
  rw [hv'] at this; injection this with this; subst this
  exact r
end Go.Sw
