/-
  Lookups: they are read; and asked.
-/
import Derived.Test.YtnaodjnimkndbaaSwLookD
namespace Go.Sw
open Go.RowKit

theorem tryV_np {short : TypeId} {call : Caller} {args : List Value} {H : Heap} {v : Value} {H' : Heap} : tryV short call args H ≠ .panic v H' := by
  unfold tryV
  split
  · rename_i g f c
    cases call g (f.toList ++ c.toList) H with
    | stuck => simp [Res.bindP]
    | ok a H => simp [Res.bindP]
    | panic a H =>
      simp only [Res.bindP]
      split
      · rename_i t xs
        cases Nat.beq t short && Nat.beq xs.size 0 <;> simp
      · simp
  · simp
theorem Try_R (k : Nat) (f : Value) (H : Heap) : R (T k) F.view_Try [f] H = tryV shortT (R (T k)) [f] H :=
  ((R_sp (t := T k) (T_scott k) (s := tryV shortT) (by kernel_rfl) [f] H).trans (by
    show nrm Mode.no H _ = _
    cases h : tryV shortT (R (T k)) [f] H with
    | ok a H => rfl
    | stuck => rfl
    | panic a H => exact absurd h tryV_np))
theorem Try_ok (k : Nat) (g : FuncId) (cap : Array Value) {H H' : Heap} {v : Value} (h : R (T k) g cap.toList H = .ok v H') : R (T k) F.view_Try [.func (.func g) #[] cap] H = .ok (.bool true) H' := by
  rw [Try_R]
  unfold tryV
  simp [h, Res.bindP]
theorem Try_no (k : Nat) (g : FuncId) (cap : Array Value) {H H' : Heap} (h : R (T k) g cap.toList H = .panic failV H') : R (T k) F.view_Try [.func (.func g) #[] cap] H = .ok (.bool false) H' := by
  rw [Try_R]
  unfold tryV
  simp [h, Res.bindP]

theorem Sl.boxR {α : Type} {enc : α → List Value} {H : Heap} {m : Nat} {v : Value} {l : List α} (h : Sl H m v enc l) (H' : Heap) : Go.Sw.boxR v H' = newP [v] H' := by
  unfold Go.Sw.boxR
  rw [h.storable, h.cells]
  rfl

/-- What is read, as it is answered. -/
def lookV (o : Option (Int × List Pt)) : Value := match o with | some x => tabV x | none => .pointer none
theorem lookV_flat (o : Option (Int × List Pt)) : Flat (lookV o) := by
  cases o with
  | none => exact .nilPtr
  | some x => exact Flat.tab x

theorem in1_run (k : Nat) {H : Heap} {v : Value} {b : List Int} (hv : Sl H 1 v encB b) (hb : Byt b) (g z : Int) (hg1 : 1 ≤ g) (hg2 : g ≤ 65535) (hz : z = 2 ∨ z = 4) (hl : b.length < 2 ^ 31) (p1 p2 p3 p4 : Nat) (old : Value)
    (h1 : H.get p1 = some ⟨[v], 1, false⟩) (h2 : H.get p2 = some ⟨[.int .i64 g], 1, false⟩) (h3 : H.get p3 = some ⟨[.int .i64 z], 1, false⟩) (h4 : H.get p4 = some ⟨[old], 1, false⟩) :
    R (T k) F.lookup_Read_in1 [.pointer (some ⟨p1, 0, none⟩), .pointer (some ⟨p2, 0, none⟩), .pointer (some ⟨p3, 0, none⟩), .pointer (some ⟨p4, 0, none⟩)] H =
      match lookS b g z with
      | some x => .ok (.tuple #[]) (H.set p4 (some ⟨[tabV x], 1, false⟩))
      | none => .panic failV H := by
  rw [lookup_Read_in1_R]
  have ht := lookTake_run k hv hb g z hg1 hg2 hz hl
  cases h : lookS b g z with
  | none =>
    rw [h] at ht
    refine nrm_throw ⟨H, ?_, Ext.refl H⟩ Flat.fail.alive
    simp -implicitDefEqProofs (disch := omega) [lookup_Read_in1, h1, h2, h3, Of_run k hv, ht]
  | some x =>
    rw [h] at ht
    simp -implicitDefEqProofs (disch := omega) [lookup_Read_in1, h1, h2, h3, h4, Of_run k hv, ht]

def badS (g z : Int) : Bool := decide (g < 1) || decide (g > 65535) || (z != 2 && z != 4)
theorem badS_no {g z : Int} (h : badS g z = false) : 1 ≤ g ∧ g ≤ 65535 ∧ (z = 2 ∨ z = 4) := by
  unfold badS at h
  simp at h
  omega
/-- The lookup that bytes begin with, and the error's number. -/
def lookO (b : List Int) (g z : Int) : Option (Int × List Pt) := if badS g z then none else lookS b g z
def lookN (b : List Int) (g z : Int) : Int := if badS g z then 1 else if (lookS b g z).isSome then 0 else 2

theorem lookRead_run (k : Nat) {H : Heap} {v : Value} {b : List Int} (hv : Sl H 1 v encB b) (hb : Byt b) (g z : Int) (hl : b.length < 2 ^ 31) :
    R (T k) F.lookup_Read [v, .int .i64 g, .int .i64 z] H = .ok (.tuple #[lookV (lookO b g z), .int .i64 (lookN b g z)]) H := by
  rw [lookup_Read_R]
  have hbx := fun H' => hv.boxR H'
  have hx1 : Ext H (H.push ⟨[v], 1, false⟩) := (Ext.refl H).push _
  have hx2 := (hx1.push ⟨[.int .i64 g], 1, false⟩).push ⟨[.int .i64 z], 1, false⟩
  have al : ∀ o n, Alive H (.tuple #[lookV o, .int .i64 n]) := fun o n => (Flat.tupleL (l := [lookV o, .int .i64 n]) (.cons (lookV_flat o) (.cons (.int _ _) .nil))).alive
  have fz : ∀ H' o n, fzV H.n H' fzDepth (.tuple #[lookV o, .int .i64 n]) = some (.tuple #[lookV o, .int .i64 n], []) := fun H' o n => by
    cases o <;> rfl
  cases hbad : badS g z with
  | true =>
    refine nrm_fz (H' := (((H.push ⟨[v], 1, false⟩).push ⟨[.int .i64 g], 1, false⟩).push ⟨[.int .i64 z], 1, false⟩).push ⟨[.pointer none], 1, false⟩) (v := .tuple #[lookV none, .int .i64 1]) ?_ (by unfold lookO lookN; rw [hbad]; exact fz _ _ _) (hx2.push _) (al _ _)
    unfold badS at hbad
    by_cases c1 : g < 1
    · simp -implicitDefEqProofs (disch := omega) [lookup_Read, hbx, c1, lookV]
    · by_cases c2 : g > 65535
      · simp -implicitDefEqProofs (disch := omega) [lookup_Read, hbx, c1, c2, lookV]
      · have c3 : (z == 2) = false := by simp [c1, c2] at hbad; simp; omega
        have c4 : (z == 4) = false := by simp [c1, c2] at hbad; simp; omega
        simp -implicitDefEqProofs (disch := omega) [lookup_Read, hbx, c1, c2, bne, c3, c4, lookV]
  | false =>
    obtain ⟨h1, h2, h3⟩ := badS_no hbad
    have c1 : ¬ g < 1 := by omega
    have c2 : ¬ g > 65535 := by omega
    have hx3 := hx2.push ⟨[.pointer none], 1, false⟩
    have hin := in1_run k (hv.up hx3) hb g z h1 h2 h3 hl H.n (H.n + 1) (H.n + 2) (H.n + 3) (.pointer none) (by simp) (by simp) (by simp) (by simp)
    cases hlk : lookS b g z with
    | none =>
      rw [hlk] at hin
      have ht := Try_no k F.lookup_Read_in1 #[.pointer (some ⟨H.n, 0, none⟩), .pointer (some ⟨H.n + 1, 0, none⟩), .pointer (some ⟨H.n + 2, 0, none⟩), .pointer (some ⟨H.n + 3, 0, none⟩)] hin
      refine nrm_fz (H' := (((H.push ⟨[v], 1, false⟩).push ⟨[.int .i64 g], 1, false⟩).push ⟨[.int .i64 z], 1, false⟩).push ⟨[.pointer none], 1, false⟩) (v := .tuple #[lookV none, .int .i64 2]) ?_ (by unfold lookO lookN; rw [hbad, hlk]; exact fz _ _ _) hx3 (al _ _)
      rcases h3 with rfl | rfl <;> simp -implicitDefEqProofs (disch := omega) [lookup_Read, hbx, c1, c2, bne, ht, lookV]
    | some x =>
      rw [hlk] at hin
      have ht := Try_ok k F.lookup_Read_in1 #[.pointer (some ⟨H.n, 0, none⟩), .pointer (some ⟨H.n + 1, 0, none⟩), .pointer (some ⟨H.n + 2, 0, none⟩), .pointer (some ⟨H.n + 3, 0, none⟩)] hin
      refine nrm_fz (H' := (((H.push ⟨[v], 1, false⟩).push ⟨[.int .i64 g], 1, false⟩).push ⟨[.int .i64 z], 1, false⟩).push ⟨[tabV x], 1, false⟩) (v := .tuple #[lookV (some x), .int .i64 0]) ?_ (by unfold lookO lookN; rw [hbad, hlk]; exact fz _ _ _) (hx2.push _) (al _ _)
      simp at ht
      rcases h3 with rfl | rfl <;> simp -implicitDefEqProofs (disch := omega) [lookup_Read, hbx, c1, c2, bne, ht, lookV]
end Go.Sw
