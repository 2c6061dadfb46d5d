/-
  Functions' forms, and what is proved of them, part 4.
-/
import Derived.Test.YtnaodjnimkndbaaSwW1
import Derived.Test.YtnaodjnimkndbaaSwW3
import Derived.Test.YtnaodjnimkndbaaSwCfg
import Derived.Test.YtnaodjnimkndbaaSwLib8
import Derived.Test.YtnaodjnimkndbaaSwLib9
set_option linter.unusedSimpArgs false
set_option linter.unusedVariables false
set_option linter.unusedSectionVars false
section
namespace Go.Sw
open Go.RowKit
theorem inS_piece {b : List Int} {i n : Int} : (pieceS b i n).isSome = inS b.length i n := by
  unfold pieceS inS
  split
  · rename_i h; rw [decide_eq_true h]; rfl
  · rename_i h; rw [decide_eq_false h]; rfl
theorem uS_of_in {b : List Int} {i n : Int} (h : inS b.length i n = true) : ∃ x, uS b i n = some x := by
  rw [← inS_piece, Option.isSome_iff_exists] at h
  obtain ⟨r, hr⟩ := h
  exact ⟨num r, by unfold uS; rw [hr]; rfl⟩
end Go.Sw
end
section
set_option maxRecDepth 100000
set_option linter.unusedVariables false
namespace Go.Sw
noncomputable section
end
end Go.Sw
end
section
namespace Go.Sw
open Go.RowKit
abbrev encRP (r : RP) : List Value := [.int .i64 r.first, .int .i64 r.last, .int .i64 r.pos, .int .i64 r.size, .int .i64 r.step]
theorem Flat.RPs (l : List RP) : Flat (Go.Sw.lv encRP l) := .lv fun p _ => .cons (.int _ _) (.cons (.int _ _) (.cons (.int _ _) (.cons (.int _ _) (.cons (.int _ _) .nil))))
def PartsAre (o : Option (List RP)) (v : Value) : Prop := ∃ l, v = .tuple #[lv encRP l, .bool o.isSome] ∧ (∀ x, o = some x → l = x) ∧ l.length ≤ 65536
end Go.Sw
end
section
namespace Go.Sw
open Go.RowKit
theorem PartsAre.no : PartsAre none (.tuple #[lv encRP [], .bool false]) := ⟨[], rfl, fun x h => (by cases h), by simp⟩
end Go.Sw
end
section
namespace Go.Sw
open Go.RowKit
def RP.ok (r : RP) : Prop := -1 ≤ r.first ∧ r.first ≤ 65536 ∧ -1 ≤ r.last ∧ r.last ≤ 65536 ∧ -1 ≤ r.pos ∧ r.pos < 2 ^ 35 ∧ 0 ≤ r.step ∧ r.step ≤ 4 ∧ 0 ≤ r.size ∧ r.size ≤ 4
end Go.Sw
end
section
namespace Go.Sw
open Go.RowKit
theorem restS_iff {b rv : List Int} {j : Int} : restS b j = some rv ↔ (0 ≤ j ∧ j ≤ b.length) ∧ rv = b.drop j.toNat := by
  unfold restS
  split
  · rename_i h
    exact ⟨fun e => by injection e with e; exact ⟨h, e.symm⟩, fun e => by rw [e.2]⟩
  · rename_i h
    exact ⟨fun e => (by cases e), fun e => absurd e.1 h⟩
theorem restS_length {b rv : List Int} {j : Int} (h : restS b j = some rv) : (rv.length : Int) = b.length - j := by
  obtain ⟨h1, rfl⟩ := restS_iff.1 h
  simp
  omega
theorem uS_rest {b rv : List Int} {j : Int} (h : restS b j = some rv) {x : Int} (hx : 0 ≤ x) (z : Int) : uS rv x z = uS b (j + x) z := by
  have hl := restS_length h
  obtain ⟨h1, rfl⟩ := restS_iff.1 h
  unfold uS pieceS
  by_cases hc : 0 ≤ z ∧ x ≤ b.length - j ∧ z ≤ b.length - j - x
  · rw [if_pos (by omega), if_pos (by omega), List.drop_drop, show j.toNat + x.toNat = (j + x).toNat by omega]
  · rw [if_neg (by omega), if_neg (by omega)]
theorem rowK_iff {rv : List Int} {n : Int} (hn : 0 < n) {k : Nat} : (rowK rv n k).isSome = true ↔ 2 * n * (k + 1) ≤ rv.length := by
  unfold rowK
  rw [listS_isSome (by omega), rowsB_iff (by omega)]
  have h0 : 0 ≤ 2 * n * (k : Int) := Int.mul_nonneg (by omega) (by omega)
  have h1 : 2 * n * ((k : Int) + 1) = 2 * n * k + 2 * n := by rw [Int.mul_add]; omega
  constructor
  · rintro ⟨_, _, _, h⟩; omega
  · intro h; exact ⟨h0, by omega, by omega, by omega⟩
theorem row_at {b rv : List Int} {j : Int} (h : restS b j = some rv) {n : Int} {k : Nat} {r : List Int} (hn : 0 < n) (hr : rowK rv n k = some r) : r = (List.range n.toNat).map fun i => gU b (j + (n * k + (i : Nat)) * 2) 2 := by
  have hs := (rowK_iff (rv := rv) (k := k) hn).1 (by rw [hr]; rfl)
  have hr' := hr
  unfold rowK listS at hr'
  obtain ⟨q, hq, hqr⟩ := Option.map_eq_some_iff.1 hr'
  have hlen : r.length = n.toNat := by rw [← hqr]; simp
  have hk0 : 0 ≤ n * (k : Int) := Int.mul_nonneg (by omega) (by omega)
  apply List.ext_getElem?
  intro i
  by_cases hi : i < n.toNat
  · rw [listS_get (by omega) hr i (by omega), List.getElem?_map, List.getElem?_range hi, uS_rest h (by rw [Int.mul_assoc]; omega)]
    have e : j + (2 * n * (k : Int) + (i : Int) * 2) = j + (n * k + (i : Nat)) * 2 := by rw [Int.mul_assoc, Int.add_mul]; omega
    rw [e]
    have hlen := restS_length h
    have hj := (restS_iff.1 h).1
    have h1 : 2 * n * ((k : Int) + 1) = 2 * (n * k) + 2 * n := by rw [Int.mul_add, Int.mul_assoc]; omega
    obtain ⟨x, hx⟩ : ∃ x, uS b (j + (n * k + (i : Nat)) * 2) 2 = some x := uS_of_in (by unfold inS; exact decide_eq_true (by rw [Int.add_mul]; omega))
    rw [hx, Option.map_some, gU_some hx]
  · rw [List.getElem?_eq_none (by omega), List.getElem?_eq_none (by simp; omega)]
theorem needR_mono {rv : List Int} {n : Int} {s t : Nat} (hst : s ≤ t) {rs rt : List (List Int)} (h1 : rowsTo rv n s = some rs) (h2 : rowsTo rv n t = some rt) : needR rs ≤ needR rt := by
  have h3 := mapO_prefix hst h2
  have h4 : mapO (rowK rv n) (List.range s) = some rs := h1
  rw [h4] at h3
  injection h3 with h3
  rw [h3]
  have := List.take_append_drop s rt
  conv => rhs; rw [← this]
  unfold needR
  rw [List.flatten_append, needL_append]
  omega
structure RMach where
  b : List Int
  cl : Int
  rowsAt : Int
  entsAt : Int
  states : Int
  n : Int
  words : Int
  tb : List Int
  parts : List RP
end Go.Sw
end
section
namespace Go.Sw
open Go.RowKit
def machP (o : Option Mach) : Value := match o with | some x => machV x | none => .pointer none
theorem machP_flat (o : Option Mach) : Flat (machP o) := by
  cases o with
  | none => exact .nilPtr
  | some x => exact Flat.mach x
theorem state_in1_run (k : Nat) {H : Heap} {v : Value} {b : List Int} (hv : Sl H 1 v encB b) (hb : Byt b) (g w : Int) (hg1 : 1 ≤ g) (hg2 : g ≤ 65535) (hw : w = 0 ∨ w = 1 ∨ w = 2) (hl : b.length < 2 ^ 31) (p1 p2 p3 p4 : Nat) (old : Value)
    (h1 : H.get p1 = some ⟨[v], 1, false⟩) (h2 : H.get p2 = some ⟨[.int .i64 g], 1, false⟩) (h3 : H.get p3 = some ⟨[.int .i64 w], 1, false⟩) (h4 : H.get p4 = some ⟨[old], 1, false⟩) :
    R (T k) F.state_Read_in1 [ptrV p1, ptrV p2, ptrV p3, ptrV p4] H =
      match machS b g w with
      | some x => .ok (.tuple #[]) (H.set p4 (some ⟨[machV x], 1, false⟩))
      | none => .panic failV H := by
  rw [state_Read_in1_R]
  have ht := stateTake_run k hv hb g w hg1 hg2 hw hl
  cases h : machS b g w with
  | none =>
    rw [h] at ht
    refine nrm_throw ⟨H, ?_, Ext.refl H⟩ Flat.fail.alive
    simp -implicitDefEqProofs (disch := omega) [state_Read_in1, h1, h2, h3, Of_run k hv, ht]
  | some x =>
    rw [h] at ht
    simp -implicitDefEqProofs (disch := omega) [state_Read_in1, h1, h2, h3, h4, Of_run k hv, ht]
def badM (g w : Int) : Bool := decide (g < 1) || decide (g > 65535) || decide (w < 0) || decide (w > 2)
theorem badM_no {g w : Int} (h : badM g w = false) : 1 ≤ g ∧ g ≤ 65535 ∧ (w = 0 ∨ w = 1 ∨ w = 2) := by
  unfold badM at h
  simp at h
  omega
def machO (b : List Int) (g w : Int) : Option Mach := if badM g w then none else machS b g w
def machN (b : List Int) (g w : Int) : Int := if badM g w then 1 else if (machS b g w).isSome then 0 else 2
theorem stateRead_run (k : Nat) {H : Heap} {v : Value} {b : List Int} (hv : Sl H 1 v encB b) (hb : Byt b) (g w : Int) (hl : b.length < 2 ^ 31) :
    R (T k) F.state_Read [v, .int .i64 g, .int .i64 w] H = .ok (.tuple #[machP (machO b g w), .int .i64 (machN b g w)]) H := by
  rw [state_Read_R]
  have hbx := fun H' => hv.boxR H'
  have hx1 : Ext H (H.push ⟨[v], 1, false⟩) := (Ext.refl H).push _
  have hx2 := (hx1.push ⟨[.int .i64 g], 1, false⟩).push ⟨[.int .i64 w], 1, false⟩
  have al : ∀ o n, Alive H (.tuple #[machP o, .int .i64 n]) := fun o n => (Flat.tupleL (l := [machP o, .int .i64 n]) (.cons (machP_flat o) (.cons (.int _ _) .nil))).alive
  have fz : ∀ H' o n, fzV H.n H' fzDepth (.tuple #[machP o, .int .i64 n]) = some (.tuple #[machP o, .int .i64 n], []) := fun H' o n => by
    cases o <;> rfl
  cases hbad : badM g w with
  | true =>
    refine nrm_fz (H' := (((H.push ⟨[v], 1, false⟩).push ⟨[.int .i64 g], 1, false⟩).push ⟨[.int .i64 w], 1, false⟩).push ⟨[.pointer none], 1, false⟩) (v := .tuple #[machP none, .int .i64 1]) ?_ (by unfold machO machN; rw [hbad]; exact fz _ _ _) (hx2.push _) (al _ _)
    unfold badM at hbad
    by_cases c1 : g < 1
    · simp -implicitDefEqProofs (disch := omega) [state_Read, hbx, c1, machP]
    · by_cases c2 : g > 65535
      · simp -implicitDefEqProofs (disch := omega) [state_Read, hbx, c1, c2, machP]
      · by_cases c3 : w < 0
        · simp -implicitDefEqProofs (disch := omega) [state_Read, hbx, c1, c2, c3, machP]
        · have c4 : w > 2 := by simp [c1, c2, c3] at hbad; omega
          simp -implicitDefEqProofs (disch := omega) [state_Read, hbx, c1, c2, c3, c4, machP]
  | false =>
    obtain ⟨h1, h2, h3⟩ := badM_no hbad
    have c1 : ¬ g < 1 := by omega
    have c2 : ¬ g > 65535 := by omega
    have c3 : ¬ w < 0 := by omega
    have c4 : ¬ w > 2 := by omega
    have hx3 := hx2.push ⟨[.pointer none], 1, false⟩
    have hin := state_in1_run k (hv.up hx3) hb g w h1 h2 h3 hl H.n (H.n + 1) (H.n + 2) (H.n + 3) (.pointer none) (by simp) (by simp) (by simp) (by simp)
    cases hlk : machS b g w with
    | none =>
      rw [hlk] at hin
      have ht := Try_no k F.state_Read_in1 #[ptrV H.n, ptrV (H.n + 1), ptrV (H.n + 2), ptrV (H.n + 3)] hin
      refine nrm_fz (H' := (((H.push ⟨[v], 1, false⟩).push ⟨[.int .i64 g], 1, false⟩).push ⟨[.int .i64 w], 1, false⟩).push ⟨[.pointer none], 1, false⟩) (v := .tuple #[machP none, .int .i64 2]) ?_ (by unfold machO machN; rw [hbad, hlk]; exact fz _ _ _) hx3 (al _ _)
      simp -implicitDefEqProofs (disch := omega) [state_Read, hbx, c1, c2, c3, c4, ht, machP]
    | some x =>
      rw [hlk] at hin
      have ht := Try_ok k F.state_Read_in1 #[ptrV H.n, ptrV (H.n + 1), ptrV (H.n + 2), ptrV (H.n + 3)] hin
      refine nrm_fz (H' := (((H.push ⟨[v], 1, false⟩).push ⟨[.int .i64 g], 1, false⟩).push ⟨[.int .i64 w], 1, false⟩).push ⟨[machV x], 1, false⟩) (v := .tuple #[machP (some x), .int .i64 0]) ?_ (by unfold machO machN; rw [hbad, hlk]; exact fz _ _ _) (hx2.push _) (al _ _)
      simp at ht
      simp -implicitDefEqProofs (disch := omega) [state_Read, hbx, c1, c2, c3, c4, ht, machP]
theorem Classes_run (k : Nat) (m : Mach) (H : Heap) : R (T k) F.state_Machine_Classes [machV m] H = .ok (.int .i64 m.classes) H := by
  rw [state_Machine_Classes_R]
  refine nrm_gc (Pure.of ?_) (.int _ _)
  simp -implicitDefEqProofs (disch := omega) [state_Machine_Classes]
theorem States_run (k : Nat) (m : Mach) (H : Heap) : R (T k) F.state_Machine_States [machV m] H = .ok (.int .i64 m.rows.length) H := by
  rw [state_Machine_States_R]
  refine nrm_gc (Pure.of ?_) (.int _ _)
  simp -implicitDefEqProofs (disch := omega) [state_Machine_States]
def encEA (o : Option En) : Value := .agg (encEn (o.getD ⟨0, 0, 0, 0⟩)).toArray
theorem encEA_flat (o : Option En) : Flat (encEA o) := Flat.ofEn _
theorem stepS_some {m : Mach} (hm : m.ok) {s c : Int} (h : 0 ≤ s ∧ s < m.rows.length ∧ 0 ≤ c ∧ c < m.classes) :
    ∃ r x e, m.rows[s.toNat]? = some r ∧ r[c.toNat]? = some x ∧ 0 ≤ x ∧ m.ents[x.toNat]? = some e ∧ stepS m s c = some e := by
  obtain ⟨r, hr⟩ : ∃ r, m.rows[s.toNat]? = some r := ⟨_, List.getElem?_eq_getElem (by omega)⟩
  have hrm := hm.row r (List.mem_of_getElem? hr)
  obtain ⟨x, hx⟩ : ∃ x, r[c.toNat]? = some x := ⟨_, List.getElem?_eq_getElem (by omega)⟩
  have hxm := hrm.2 x (List.mem_of_getElem? hx)
  obtain ⟨e, he⟩ : ∃ e, m.ents[x.toNat]? = some e := ⟨_, List.getElem?_eq_getElem (by omega)⟩
  refine ⟨r, x, e, hr, hx, hxm.1, he, ?_⟩
  unfold stepS
  rw [if_pos h, hr, Option.bind_some, hx, Option.bind_some, he]
theorem Step_run (k : Nat) (m : Mach) (hm : m.ok) (s c : Int) (H : Heap) : R (T k) F.state_Machine_Step [machV m, .int .i64 s, .int .i64 c] H = .ok (.tuple #[encEA (stepS m s c), .bool (stepS m s c).isSome]) H := by
  rw [state_Machine_Step_R]
  have fl : Flat (.tuple #[encEA (stepS m s c), .bool (stepS m s c).isSome]) := .tupleL (.cons (encEA_flat _) (.cons (.bool _) .nil))
  have no : ¬ (0 ≤ s ∧ s < m.rows.length ∧ 0 ≤ c ∧ c < m.classes) → stepS m s c = none := fun h => by unfold stepS; rw [if_neg h]
  have hx : Ext H (H.push ⟨[.int .i64 0, .int .i64 0, .int .i64 0, .int .i64 0], 1, false⟩) := (Ext.refl H).push _
  by_cases h1 : s < 0
  · rw [no (by omega)] at fl ⊢
    refine nrm_gc ⟨_, ?_, hx⟩ fl.alive
    simp -implicitDefEqProofs (disch := omega) [state_Machine_Step, h1, encEA]
  by_cases h2 : s ≥ m.rows.length
  · rw [no (by omega)] at fl ⊢
    refine nrm_gc ⟨_, ?_, hx⟩ fl.alive
    simp -implicitDefEqProofs (disch := omega) [state_Machine_Step, h1, h2, encEA]
  by_cases h3 : c < 0
  · rw [no (by omega)] at fl ⊢
    refine nrm_gc ⟨_, ?_, hx⟩ fl.alive
    simp -implicitDefEqProofs (disch := omega) [state_Machine_Step, h1, h2, h3, encEA]
  by_cases h4 : c ≥ m.classes
  · rw [no (by omega)] at fl ⊢
    refine nrm_gc ⟨_, ?_, hx⟩ fl.alive
    simp -implicitDefEqProofs (disch := omega) [state_Machine_Step, h1, h2, h3, h4, encEA]
  obtain ⟨r, x, e, hr, hxx, hx0, he, hs⟩ := stepS_some hm (s := s) (c := c) (by omega)
  rw [hs] at fl ⊢
  have i1 := fun H' => ixS_lv encRow_len m.rows .i64 s r (by omega) hr H'
  have i2 := fun H' => ixS_lv encI_len r .i64 c x (by omega) hxx H'
  have i3 := fun H' => ixS_lv encEn_len m.ents .i64 x e hx0 he H'
  refine nrm_gc ⟨H.push ⟨encEn e, 1, false⟩, ?_, (Ext.refl H).push _⟩ fl.alive
  simp -implicitDefEqProofs (disch := omega) [state_Machine_Step, h1, h2, h3, h4, i1, i2, i3, encEA]
theorem Entries_run (k : Nat) (hk : k < 1000000) (m : Mach) (hl : m.ents.length ≤ 65536) (H : Heap) : R (T k) F.state_Machine_Entries [machV m] H = .ok (lv encEn m.ents) H := by
  have ho : own k = .fz := by unfold own; rw [show Nat.blt k 1000000 = true from Nat.ble_eq_true_of_le hk]; rfl
  rw [state_Machine_Entries_R, ho]
  have g := (Star.nil H).more_row (Ext.refl _) (OwnO.bare encEn _ 4) (fun b hb => by cases hb)
  obtain ⟨s, o, H1, e1, g⟩ := g.append (bytes := 32) 0 encEn_len rfl (b := lv encEn m.ents) (l2 := m.ents) rfl (lv_first encEn_len m.ents H) (by simp; omega) (by decide)
  simp only [List.nil_append, List.set_cons_zero] at g
  obtain ⟨L, hf⟩ := (g.own 0 rfl).freeze encEn_len (encEn_still _) 6
  refine nrm_fz (v := s) (H' := H1) ?_ hf g.ext (Flat.Ens _).alive
  simp -implicitDefEqProofs (disch := omega) [state_Machine_Entries, e1]
theorem Entries_own (k : Nat) (hk : 1000000 ≤ k) (m : Mach) (hl : m.ents.length ≤ 65536) {H0 H : Heap} {L : List It} (h : Star H0 H L) : ∃ s o H', R (T k) F.state_Machine_Entries [machV m] H = .ok s H' ∧ Star H0 H' (L ++ [itRow o 4 s encEn m.ents]) := by
  have ho : own k = .no := by
    unfold own
    rw [show Nat.blt k 1000000 = false from by
      cases hb : Nat.blt k 1000000 with
      | false => rfl
      | true => exact absurd (Nat.le_of_ble_eq_true hb) (by omega)]
    rfl
  rw [state_Machine_Entries_R, ho]
  have g := h.more_row (Ext.refl _) (OwnO.bare encEn _ 4) (fun b hb => by cases hb)
  obtain ⟨s, o, H1, e1, g⟩ := g.append (bytes := 32) L.length encEn_len (list_at_end _) (b := lv encEn m.ents) (l2 := m.ents) rfl (lv_first encEn_len m.ents H) (by simp; omega) (by decide)
  refine ⟨s, o, H1, nrm_of ?_, by simpa using g⟩
  simp -implicitDefEqProofs (disch := omega) [state_Machine_Entries, e1]
end Go.Sw
end
section
set_option maxRecDepth 100000
set_option linter.unusedVariables false
namespace Go.Sw
noncomputable section
end
end Go.Sw
end
section
namespace Go.Sw
open Go.RowKit
abbrev rmCells (b : List Int) (n j q S N w : Int) (tb : List Int) (ps : List RP) : List Value :=
  [lv encB b, .int .i64 n, .int .i64 j, .int .i64 q, .int .i64 S, .int .i64 N, .int .i64 w, lv encB tb, lv encRP ps]
abbrev rmV (r : RMach) : Value := .agg (rmCells r.b r.cl r.rowsAt r.entsAt r.states r.n r.words r.tb r.parts).toArray
theorem Flat.rm (r : RMach) : Flat (rmV r) := .aggL (.cons (Flat.B _) (.cons (.int _ _) (.cons (.int _ _) (.cons (.int _ _) (.cons (.int _ _) (.cons (.int _ _) (.cons (.int _ _) (.cons (Flat.B _) (.cons (Flat.RPs _) .nil)))))))))
end Go.Sw
end
section
namespace Go.Sw
open Go.RowKit
end Go.Sw
end
section
set_option maxRecDepth 100000
set_option linter.unusedVariables false
namespace Go.Sw
noncomputable section
def swashlaw07_StateClosed_l1 (k : Nat) (call : Caller) : Env → Heap → Res (AExit × Env) := loopB (C k) call F.swashlaw07_StateClosed [1, 1, 1, 1, 1, 1, 1, 0, 1, 0, 0]
def swashlaw07_StateClosed_l1k (k : Nat) (call : Caller) : Kont Value := kBlock 0 (kSeq (pieceK (C k) call F.swashlaw07_StateClosed [1, 1, 1, 1, 1, 1, 1, 1]) (kDone Prog (resOf Prog F.swashlaw07_StateClosed)))
def swashlaw07_StateClosed_l2 (k : Nat) (call : Caller) : Env → Heap → Res (AExit × Env) := loopB (C k) call F.swashlaw07_StateClosed [1, 1, 1, 1, 1, 1, 1, 0, 1, 0, 0, 1, 1, 0, 0, 1, 1, 0, 0]
def swashlaw07_StateClosed_l2k (k : Nat) (call : Caller) : Kont (AExit × Env) := kBlock 2 (kBlock 1 (kSeq (pieceK (C k) call F.swashlaw07_StateClosed [1, 1, 1, 1, 1, 1, 1, 0, 1, 0, 0, 1, 1, 1]) (kRound (ownOf (C k) F.swashlaw07_StateClosed [1, 1, 1, 1, 1, 1, 1, 0, 1, 0, 0]))))
def swashlaw07_StateClosed_l3 (k : Nat) (call : Caller) : Env → Heap → Res (AExit × Env) := loopB (C k) call F.swashlaw07_StateClosed [1, 1, 1, 1, 1, 1, 1, 1, 0, 1, 0, 0]
def swashlaw07_StateClosed_l3k (k : Nat) (call : Caller) : Kont Value := kBlock 4 (kSeq (pieceK (C k) call F.swashlaw07_StateClosed [1, 1, 1, 1, 1, 1, 1, 1, 1]) (kDone Prog (resOf Prog F.swashlaw07_StateClosed)))
def swashlaw07_StateClosed_l4 (k : Nat) (call : Caller) : Env → Heap → Res (AExit × Env) := loopB (C k) call F.swashlaw07_StateClosed [1, 1, 1, 1, 1, 1, 1, 1, 1, 0, 1, 0, 0]
def swashlaw07_StateClosed_l4k (k : Nat) (call : Caller) : Kont Value := kBlock 6 (kSeq (pieceK (C k) call F.swashlaw07_StateClosed [1, 1, 1, 1, 1, 1, 1, 1, 1, 1]) (kDone Prog (resOf Prog F.swashlaw07_StateClosed)))
def swashlaw07_StateClosed_l5 (k : Nat) (call : Caller) : Env → Heap → Res (AExit × Env) := loopB (C k) call F.swashlaw07_StateClosed [1, 1, 1, 1, 1, 1, 1, 1, 1, 0, 1, 0, 0, 1, 1, 0, 0, 1, 1, 0, 0]
def swashlaw07_StateClosed_l5k (k : Nat) (call : Caller) : Kont (AExit × Env) := kBlock 8 (kBlock 7 (kSeq (pieceK (C k) call F.swashlaw07_StateClosed [1, 1, 1, 1, 1, 1, 1, 1, 1, 0, 1, 0, 0, 1, 1, 1]) (kRound (ownOf (C k) F.swashlaw07_StateClosed [1, 1, 1, 1, 1, 1, 1, 1, 1, 0, 1, 0, 0]))))
def swashlaw07_StateClosed_j1 (k : Nat) (call : Caller) (a2 a6 a8 a9 a16 a89 a90 a94 a95 : Value) (h : Heap) : Res (AExit × Env) :=
  kSeq (pieceK (C k) call F.swashlaw07_StateClosed [1, 1, 1, 1, 1, 1, 1, 1, 1, 0, 1, 0, 0, 1, 1, 0, 0, 1, 1, 0, 0, 1, 1, 1]) (kRound (ownOf (C k) F.swashlaw07_StateClosed [1, 1, 1, 1, 1, 1, 1, 1, 1, 0, 1, 0, 0, 1, 1, 0, 0, 1, 1, 0, 0])) .normal [(2, a2), (6, a6), (8, a8), (9, a9), (16, a16), (89, a89), (90, a90), (94, a94), (95, a95)] h
def swashlaw07_StateClosed_j2 (k : Nat) (call : Caller) (a2 a6 a8 a9 a16 a17 a89 a90 a94 a95 a112 : Value) (h : Heap) : Res (AExit × Env) :=
  kSeq (pieceK (C k) call F.swashlaw07_StateClosed [1, 1, 1, 1, 1, 1, 1, 1, 1, 0, 1, 0, 0, 1, 1, 0, 0, 1, 1, 0, 0, 1, 1, 1]) (kRound (ownOf (C k) F.swashlaw07_StateClosed [1, 1, 1, 1, 1, 1, 1, 1, 1, 0, 1, 0, 0, 1, 1, 0, 0, 1, 1, 0, 0])) .normal [(2, a2), (6, a6), (8, a8), (9, a9), (16, a16), (17, a17), (89, a89), (90, a90), (94, a94), (95, a95), (112, a112)] h
def swashlaw07_StateClosed (k : Nat) (call : Caller) (a0 a1 : Value) (h : Heap) : Res Value :=
  (boxR a0 h).bind fun v1 h2 =>
  (call F.swashlaw07_speaks [] h2).bind fun v3 h4 =>
  (unR .not v3 h4).bind fun v5 h6 =>
  condV (some v5) (
    .ok (.bool false) h6)
  (
    (loadR Prog 146 v1 h6).bind fun v7 h8 =>
    (call F.swashlaw07_small [v7] h8).bind fun v9 h10 =>
    (unR .not v9 h10).bind fun v11 h12 =>
    condV (some v11) (
      .ok (.bool true) h12)
    (
      (convR Prog 5 3 a1 h12).bind fun v13 h14 =>
      (binR Prog .rem 3 v13 (.int .i64 3) h14).bind fun v15 h16 =>
      (loadR Prog 146 v1 h16).bind fun v17 h18 =>
      (call F.swashlaw07_Write [v17, v15, (.int .i64 0)] h18).bind fun v19 h20 =>
      (call F.state_Read [v19, (.int .i64 30), v15] h20).bind fun v21 h22 =>
      (extractR v21 0 h22).bind fun v23 h24 =>
      (extractR v21 1 h24).bind fun v25 h26 =>
      (binR Prog .neq 69 v25 (.int .i64 0) h26).bind fun v27 h28 =>
      ((bif wantVal v27 false then Res.ok v23 h28 else Res.ok undef h28)).bind fun v29 h30 =>
      ((bif wantVal v27 false then binR Prog .eql 133 v29 (.pointer none) h30 else Res.ok undef h30)).bind fun v31 h32 =>
      (condV (some v27) (Res.ok (.bool true) h32) (Res.ok v31 h32)).bind fun v33 h34 =>
      condV (some v33) (
        (binR Prog .eql 69 v25 (.int .i64 2) h34).bind fun v35 h36 =>
        .ok v35 h36)
      (
        (call F.state_Machine_States [v23] h34).bind fun v37 h38 =>
        (loopN (swashlaw07_StateClosed_l1 k call) loopFuel [(2, v1), (6, v23), (8, (.int .i64 0)), (9, (.int .i64 2)), (43, v37), (44, (.int .i64 0))] h38).bind fun r39 h40 =>
        swashlaw07_StateClosed_l1k k call r39.1 r39.2 h40)))
theorem swashlaw07_StateClosed_R (k : Nat) (a0 a1 : Value) (h : Heap) : R (T k) F.swashlaw07_StateClosed [a0, a1] h = nrm .gc h (swashlaw07_StateClosed k (R (T k)) a0 a1 h) :=
  (R_body (t := T k) (T_scott k) (by kernel_rfl) _ _).trans (by kernel_rfl)
theorem swashlaw07_StateClosed_l1_eq (k : Nat) (call : Caller) (a2 a6 a8 a9 a43 a44 : Value) (h : Heap) : swashlaw07_StateClosed_l1 k call [(2, a2), (6, a6), (8, a8), (9, a9), (43, a43), (44, a44)] h =
  (binR Prog .lss 3 a44 a43 h).bind fun v41 h42 =>
  condV (some v41) (
    (call F.state_Machine_Classes [a6] h42).bind fun v43 h44 =>
    (loopN (swashlaw07_StateClosed_l2 k call) loopFuel [(2, a2), (6, a6), (8, a8), (9, a9), (10, a44), (43, a43), (44, a44), (48, v43), (49, (.int .i64 0))] h44).bind fun r45 h46 =>
    swashlaw07_StateClosed_l2k k call r45.1 r45.2 h46)
  (
    .ok ((.exit 0), [(2, a2), (6, a6), (8, a8), (9, a9), (43, a43), (44, a44), (45, v41)]) h42) :=
  (loopB_eq _ _).trans (by kernel_rfl)
theorem swashlaw07_StateClosed_l2_eq (k : Nat) (call : Caller) (a2 a6 a8 a9 a10 a43 a44 a48 a49 : Value) (h : Heap) : swashlaw07_StateClosed_l2 k call [(2, a2), (6, a6), (8, a8), (9, a9), (10, a10), (43, a43), (44, a44), (48, a48), (49, a49)] h =
  (binR Prog .lss 3 a49 a48 h).bind fun v47 h48 =>
  condV (some v47) (
    (call F.state_Machine_Step [a6, a10, a49] h48).bind fun v49 h50 =>
    (extractR v49 0 h50).bind fun v51 h52 =>
    (extractR v49 1 h52).bind fun v53 h54 =>
    (allocR Prog 150 h54).bind fun v55 h56 =>
    (storeR Prog 150 v55 v51 h56).bind fun _v57 h58 =>
    (unR .not v53 h58).bindN fun v59 h60 =>
    ((bif wantVal v59 false then fieldAddrR Prog 150 v55 0 h60 else Res.ok undef h60)).bindN fun v61 h62 =>
    ((bif wantVal v59 false then loadR Prog 3 v61 h62 else Res.ok undef h62)).bindN fun v63 h64 =>
    ((bif wantVal v59 false then binR Prog .lss 3 v63 (.int .i64 0) h64 else Res.ok undef h64)).bindN fun v65 h66 =>
    (condV (some v59) (Res.ok (.bool true) h66) (Res.ok v65 h66)).bindN fun v67 h68 =>
    ((bif wantVal v67 false then fieldAddrR Prog 150 v55 0 h68 else Res.ok undef h68)).bindN fun v69 h70 =>
    ((bif wantVal v67 false then loadR Prog 3 v69 h70 else Res.ok undef h70)).bindN fun v71 h72 =>
    ((bif wantVal v67 false then Res.ok a6 h72 else Res.ok undef h72)).bindN fun v73 h74 =>
    ((bif wantVal v67 false then call F.state_Machine_States [v73] h74 else Res.ok undef h74)).bindT (fun p77 h78 => .panic p77 h78) fun v75 h76 =>
    ((bif wantVal v67 false then binR Prog .geq 3 v71 v75 h76 else Res.ok undef h76)).bindN fun v79 h80 =>
    (condV (some v67) (Res.ok (.bool true) h80) (Res.ok v79 h80)).bindN fun v81 h82 =>
    chkR ((okVal ((bif wantVal v67 false then loadR Prog 3 v69 h76 else Res.ok undef h76)) v71 && true) && true) (
    condV (some v81) (
      .ok (.ret, [(4, (.bool false))]) h82)
    (
      (binR Prog .add 3 a49 (.int .i64 1) h82).bind fun v83 h84 =>
      .ok (.normal, [(2, a2), (6, a6), (8, a8), (9, a9), (10, a10), (43, a43), (44, a44), (48, a48), (49, v83)]) h84)))
  (
    .ok ((.exit 2), [(2, a2), (6, a6), (8, a8), (9, a9), (10, a10), (43, a43), (44, a44), (48, a48), (49, a49), (50, v47)]) h48) :=
  (loopB_eq _ _).trans (by kernel_rfl)
theorem swashlaw07_StateClosed_l1k_x0 (k : Nat) (call : Caller) (a2 a6 a8 a9 a43 a44 a45 : Value) (h : Heap) : swashlaw07_StateClosed_l1k k call (.exit 0) [(2, a2), (6, a6), (8, a8), (9, a9), (43, a43), (44, a44), (45, a45)] h =
  (call F.state_Machine_Entries [a6] h).bind fun v85 h86 =>
  (builtinV Prog .len [144] [v85] h86).bind fun v87 h88 =>
  (loopN (swashlaw07_StateClosed_l3 k call) loopFuel [(2, a2), (6, a6), (8, a8), (9, a9), (76, v85), (77, v87), (78, (.int .i64 0))] h88).bind fun r89 h90 =>
  swashlaw07_StateClosed_l3k k call r89.1 r89.2 h90 := by kernel_rfl
theorem swashlaw07_StateClosed_l3_eq (k : Nat) (call : Caller) (a2 a6 a8 a9 a76 a77 a78 : Value) (h : Heap) : swashlaw07_StateClosed_l3 k call [(2, a2), (6, a6), (8, a8), (9, a9), (76, a76), (77, a77), (78, a78)] h =
  (binR Prog .lss 3 a78 a77 h).bind fun v91 h92 =>
  condV (some v91) (
    (indexAddrR Prog 144 a76 a78 h92).bind fun v93 h94 =>
    (loadR Prog 150 v93 h94).bind fun v95 h96 =>
    (allocR Prog 150 h96).bind fun v97 h98 =>
    (storeR Prog 150 v97 v95 h98).bind fun _v99 h100 =>
    (fieldAddrR Prog 150 v97 0 h100).bind fun v101 h102 =>
    (loadR Prog 3 v101 h102).bind fun v103 h104 =>
    (binR Prog .add 3 v103 (.int .i64 1) h104).bind fun v105 h106 =>
    (builtinV Prog .max [3, 3] [a9, v105] h106).bind fun v107 h108 =>
    (binR Prog .add 3 a78 (.int .i64 1) h108).bind fun v109 h110 =>
    .ok (.normal, [(2, a2), (6, a6), (8, a8), (9, v107), (76, a76), (77, a77), (78, v109)]) h110)
  (
    .ok ((.exit 4), [(2, a2), (6, a6), (8, a8), (9, a9), (76, a76), (77, a77), (78, a78), (79, v91)]) h92) :=
  (loopB_eq _ _).trans (by kernel_rfl)
theorem swashlaw07_StateClosed_l2k_x2 (k : Nat) (call : Caller) (a2 a6 a8 a9 a10 a43 a44 a48 a49 a50 : Value) (h : Heap) : swashlaw07_StateClosed_l2k k call (.exit 2) [(2, a2), (6, a6), (8, a8), (9, a9), (10, a10), (43, a43), (44, a44), (48, a48), (49, a49), (50, a50)] h =
  (binR Prog .add 3 a44 (.int .i64 1) h).bind fun v111 h112 =>
  .ok (.normal, [(2, a2), (6, a6), (8, a8), (9, a9), (43, a43), (44, v111)]) h112 := by kernel_rfl
theorem swashlaw07_StateClosed_l3k_x4 (k : Nat) (call : Caller) (a2 a6 a8 a9 a76 a77 a78 a79 : Value) (h : Heap) : swashlaw07_StateClosed_l3k k call (.exit 4) [(2, a2), (6, a6), (8, a8), (9, a9), (76, a76), (77, a77), (78, a78), (79, a79)] h =
  (call F.state_Machine_States [a6] h).bind fun v113 h114 =>
  (loopN (swashlaw07_StateClosed_l4 k call) loopFuel [(2, a2), (6, a6), (8, a8), (9, a9), (89, v113), (90, (.int .i64 0))] h114).bind fun r115 h116 =>
  swashlaw07_StateClosed_l4k k call r115.1 r115.2 h116 := by kernel_rfl
theorem swashlaw07_StateClosed_l4_eq (k : Nat) (call : Caller) (a2 a6 a8 a9 a89 a90 : Value) (h : Heap) : swashlaw07_StateClosed_l4 k call [(2, a2), (6, a6), (8, a8), (9, a9), (89, a89), (90, a90)] h =
  (binR Prog .lss 3 a90 a89 h).bind fun v117 h118 =>
  condV (some v117) (
    (call F.state_Machine_Classes [a6] h118).bind fun v119 h120 =>
    (loopN (swashlaw07_StateClosed_l5 k call) loopFuel [(2, a2), (6, a6), (8, a8), (9, a9), (16, a90), (89, a89), (90, a90), (94, v119), (95, (.int .i64 0))] h120).bind fun r121 h122 =>
    swashlaw07_StateClosed_l5k k call r121.1 r121.2 h122)
  (
    .ok ((.exit 6), [(2, a2), (6, a6), (8, a8), (9, a9), (89, a89), (90, a90), (91, v117)]) h118) :=
  (loopB_eq _ _).trans (by kernel_rfl)
theorem swashlaw07_StateClosed_l5_eq (k : Nat) (call : Caller) (a2 a6 a8 a9 a16 a89 a90 a94 a95 : Value) (h : Heap) : swashlaw07_StateClosed_l5 k call [(2, a2), (6, a6), (8, a8), (9, a9), (16, a16), (89, a89), (90, a90), (94, a94), (95, a95)] h =
  (binR Prog .lss 3 a95 a94 h).bind fun v123 h124 =>
  condV (some v123) (
    (fieldAddrR Prog 146 a2 1 h124).bind fun v125 h126 =>
    (loadR Prog 143 v125 h126).bind fun v127 h128 =>
    (builtinV Prog .len [143] [v127] h128).bind fun v129 h130 =>
    (binR Prog .lss 3 a16 v129 h130).bind fun v131 h132 =>
    ((bif wantVal v131 true then Res.ok a95 h132 else Res.ok undef h132)).bind fun v133 h134 =>
    ((bif wantVal v131 true then fieldAddrR Prog 146 a2 1 h134 else Res.ok undef h134)).bind fun v135 h136 =>
    ((bif wantVal v131 true then loadR Prog 143 v135 h136 else Res.ok undef h136)).bind fun v137 h138 =>
    ((bif wantVal v131 true then Res.ok a16 h138 else Res.ok undef h138)).bind fun v139 h140 =>
    ((bif wantVal v131 true then indexAddrR Prog 143 v137 v139 h140 else Res.ok undef h140)).bind fun v141 h142 =>
    ((bif wantVal v131 true then loadR Prog 65 v141 h142 else Res.ok undef h142)).bind fun v143 h144 =>
    ((bif wantVal v131 true then builtinV Prog .len [65] [v143] h144 else Res.ok undef h144)).bind fun v145 h146 =>
    ((bif wantVal v131 true then binR Prog .lss 3 v133 v145 h146 else Res.ok undef h146)).bind fun v147 h148 =>
    (condV (some v131) (Res.ok v147 h148) (Res.ok (.bool false) h148)).bind fun v149 h150 =>
    condV (some v149) (
      (fieldAddrR Prog 146 a2 1 h150).bind fun v151 h152 =>
      (loadR Prog 143 v151 h152).bind fun v153 h154 =>
      (indexAddrR Prog 143 v153 a16 h154).bind fun v155 h156 =>
      (loadR Prog 65 v155 h156).bind fun v157 h158 =>
      (indexAddrR Prog 65 v157 a95 h158).bind fun v159 h160 =>
      (loadR Prog 5 v159 h160).bind fun v161 h162 =>
      (convR Prog 5 3 v161 h162).bind fun v163 h164 =>
      (builtinV Prog .max [3, 3] [a8, v163] h164).bind fun v165 h166 =>
      swashlaw07_StateClosed_j1 k call a2 a6 v165 a9 a16 a89 a90 a94 a95 h166)
    (
      swashlaw07_StateClosed_j2 k call a2 a6 a8 a9 a16 a95 a89 a90 a94 a95 v149 h150))
  (
    .ok ((.exit 8), [(2, a2), (6, a6), (8, a8), (9, a9), (16, a16), (89, a89), (90, a90), (94, a94), (95, a95), (96, v123)]) h124) :=
  (loopB_eq _ _).trans (by kernel_rfl)
theorem swashlaw07_StateClosed_j1_eq (k : Nat) (call : Caller) (a2 a6 a8 a9 a16 a89 a90 a94 a95 : Value) (h : Heap) : swashlaw07_StateClosed_j1 k call a2 a6 a8 a9 a16 a89 a90 a94 a95 h =
  (binR Prog .add 3 a95 (.int .i64 1) h).bind fun v167 h168 =>
  .ok (.normal, [(2, a2), (6, a6), (8, a8), (9, a9), (16, a16), (89, a89), (90, a90), (94, a94), (95, v167)]) h168 := by kernel_rfl
theorem swashlaw07_StateClosed_j2_eq (k : Nat) (call : Caller) (a2 a6 a8 a9 a16 a17 a89 a90 a94 a95 a112 : Value) (h : Heap) : swashlaw07_StateClosed_j2 k call a2 a6 a8 a9 a16 a17 a89 a90 a94 a95 a112 h =
  (binR Prog .add 3 a95 (.int .i64 1) h).bind fun v169 h170 =>
  .ok (.normal, [(2, a2), (6, a6), (8, a8), (9, a9), (16, a16), (89, a89), (90, a90), (94, a94), (95, v169)]) h170 := by kernel_rfl
theorem swashlaw07_StateClosed_l4k_x6 (k : Nat) (call : Caller) (a2 a6 a8 a9 a89 a90 a91 : Value) (h : Heap) : swashlaw07_StateClosed_l4k k call (.exit 6) [(2, a2), (6, a6), (8, a8), (9, a9), (89, a89), (90, a90), (91, a91)] h =
  (call F.state_Machine_States [a6] h).bind fun v171 h172 =>
  (binR Prog .eql 3 v171 a9 h172).bind fun v173 h174 =>
  ((bif wantVal v173 true then Res.ok a9 h174 else Res.ok undef h174)).bind fun v175 h176 =>
  ((bif wantVal v173 true then fieldAddrR Prog 146 a2 1 h176 else Res.ok undef h176)).bind fun v177 h178 =>
  ((bif wantVal v173 true then loadR Prog 143 v177 h178 else Res.ok undef h178)).bind fun v179 h180 =>
  ((bif wantVal v173 true then builtinV Prog .len [143] [v179] h180 else Res.ok undef h180)).bind fun v181 h182 =>
  ((bif wantVal v173 true then binR Prog .gtr 3 v175 v181 h182 else Res.ok undef h182)).bind fun v183 h184 =>
  ((bif wantVal v173 true then Res.ok v183 h184 else Res.ok undef h184)).bind fun v185 h186 =>
  ((bif wantVal v185 false then Res.ok a6 h186 else Res.ok undef h186)).bind fun v187 h188 =>
  ((bif wantVal v185 false then call F.state_Machine_Entries [v187] h188 else Res.ok undef h188)).bind fun v189 h190 =>
  ((bif wantVal v185 false then builtinV Prog .len [144] [v189] h190 else Res.ok undef h190)).bind fun v191 h192 =>
  ((bif wantVal v185 false then Res.ok a8 h192 else Res.ok undef h192)).bind fun v193 h194 =>
  ((bif wantVal v185 false then binR Prog .add 3 v193 (.int .i64 1) h194 else Res.ok undef h194)).bind fun v195 h196 =>
  ((bif wantVal v185 false then binR Prog .eql 3 v191 v195 h196 else Res.ok undef h196)).bind fun v197 h198 =>
  ((bif wantVal v173 true then condV (some v185) (Res.ok (.bool true) h198) (Res.ok v197 h198) else Res.ok undef h198)).bind fun v199 h200 =>
  (condV (some v173) (Res.ok v199 h200) (Res.ok (.bool false) h200)).bind fun v201 h202 =>
  .ok v201 h202 := by kernel_rfl
theorem swashlaw07_StateClosed_l5k_x8 (k : Nat) (call : Caller) (a2 a6 a8 a9 a16 a89 a90 a94 a95 a96 : Value) (h : Heap) : swashlaw07_StateClosed_l5k k call (.exit 8) [(2, a2), (6, a6), (8, a8), (9, a9), (16, a16), (89, a89), (90, a90), (94, a94), (95, a95), (96, a96)] h =
  (binR Prog .add 3 a90 (.int .i64 1) h).bind fun v203 h204 =>
  .ok (.normal, [(2, a2), (6, a6), (8, a8), (9, a9), (89, a89), (90, v203)]) h204 := by kernel_rfl
def swashlaw07_small (k : Nat) (call : Caller) (a0 : Value) (h : Heap) : Res Value :=
  (boxR a0 h).bind fun v1 h2 =>
  (fieldAddrR Prog 146 v1 0 h2).bind fun v3 h4 =>
  (loadR Prog 65 v3 h4).bind fun v5 h6 =>
  (builtinV Prog .len [65] [v5] h6).bind fun v7 h8 =>
  (binR Prog .leq 3 v7 (.int .i64 40) h8).bind fun v9 h10 =>
  ((bif wantVal v9 true then fieldAddrR Prog 146 v1 1 h10 else Res.ok undef h10)).bind fun v11 h12 =>
  ((bif wantVal v9 true then loadR Prog 143 v11 h12 else Res.ok undef h12)).bind fun v13 h14 =>
  ((bif wantVal v9 true then builtinV Prog .len [143] [v13] h14 else Res.ok undef h14)).bind fun v15 h16 =>
  ((bif wantVal v9 true then binR Prog .leq 3 v15 (.int .i64 20) h16 else Res.ok undef h16)).bind fun v17 h18 =>
  (condV (some v9) (Res.ok v17 h18) (Res.ok (.bool false) h18)).bind fun v19 h20 =>
  ((bif wantVal v19 true then fieldAddrR Prog 146 v1 2 h20 else Res.ok undef h20)).bind fun v21 h22 =>
  ((bif wantVal v19 true then loadR Prog 144 v21 h22 else Res.ok undef h22)).bind fun v23 h24 =>
  ((bif wantVal v19 true then builtinV Prog .len [144] [v23] h24 else Res.ok undef h24)).bind fun v25 h26 =>
  ((bif wantVal v19 true then binR Prog .leq 3 v25 (.int .i64 40) h26 else Res.ok undef h26)).bind fun v27 h28 =>
  (condV (some v19) (Res.ok v27 h28) (Res.ok (.bool false) h28)).bind fun v29 h30 =>
  .ok v29 h30
theorem swashlaw07_small_R (k : Nat) (a0 : Value) (h : Heap) : R (T k) F.swashlaw07_small [a0] h = nrm .gc h (swashlaw07_small k (R (T k)) a0 h) :=
  (R_body (t := T k) (T_scott k) (by kernel_rfl) _ _).trans (by kernel_rfl)
def swashlaw07_Write_l1 (k : Nat) (call : Caller) : Env → Heap → Res (AExit × Env) := loopB (C k) call F.swashlaw07_Write [1, 1, 1, 1, 0, 1, 0, 0]
def swashlaw07_Write_l1k (k : Nat) (call : Caller) : Kont Value := kBlock 0 (kSeq (pieceK (C k) call F.swashlaw07_Write [1, 1, 1, 1, 1]) (kDone Prog (resOf Prog F.swashlaw07_Write)))
def swashlaw07_Write_l2 (k : Nat) (call : Caller) : Env → Heap → Res (AExit × Env) := loopB (C k) call F.swashlaw07_Write [1, 1, 1, 1, 1, 1, 0, 1, 0, 0]
def swashlaw07_Write_l2k (k : Nat) (call : Caller) : Kont Value := kBlock 2 (kSeq (pieceK (C k) call F.swashlaw07_Write [1, 1, 1, 1, 1, 1, 1]) (kDone Prog (resOf Prog F.swashlaw07_Write)))
def swashlaw07_Write_l3 (k : Nat) (call : Caller) : Env → Heap → Res (AExit × Env) := loopB (C k) call F.swashlaw07_Write [1, 1, 1, 1, 1, 1, 0, 1, 0, 0, 1, 1, 0, 0, 1, 1, 0, 0]
def swashlaw07_Write_l3k (k : Nat) (call : Caller) : Kont (AExit × Env) := kBlock 4 (kBlock 3 (kSeq (pieceK (C k) call F.swashlaw07_Write [1, 1, 1, 1, 1, 1, 0, 1, 0, 0, 1, 1, 1]) (kRound (ownOf (C k) F.swashlaw07_Write [1, 1, 1, 1, 1, 1, 0, 1, 0, 0]))))
def swashlaw07_Write_j1 (k : Nat) (call : Caller) (a1 a2 a3 a7 a8 a9 a12 a13 a15 a17 a47 a48 a49 a53 a54 : Value) (h : Heap) : Res (AExit × Env) :=
  kSeq (pieceK (C k) call F.swashlaw07_Write [1, 1, 1, 1, 1, 1, 0, 1, 0, 0, 1, 1, 0, 0, 1, 1, 0, 0, 1, 1, 0, 0, 1, 1, 1]) (kBlock 5 (kSeq (pieceK (C k) call F.swashlaw07_Write [1, 1, 1, 1, 1, 1, 0, 1, 0, 0, 1, 1, 0, 0, 1, 1, 0, 0, 1, 1, 1]) (kRound (ownOf (C k) F.swashlaw07_Write [1, 1, 1, 1, 1, 1, 0, 1, 0, 0, 1, 1, 0, 0, 1, 1, 0, 0])))) .normal [(1, a1), (2, a2), (3, a3), (7, a7), (8, a8), (9, a9), (12, a12), (13, a13), (15, a15), (17, a17), (47, a47), (48, a48), (49, a49), (53, a53), (54, a54)] h
def swashlaw07_Write_j2 (k : Nat) (call : Caller) (a1 a2 a3 a7 a8 a9 a12 a13 a15 a16 a17 a47 a48 a49 a53 a54 a60 : Value) (h : Heap) : Res (AExit × Env) :=
  kSeq (pieceK (C k) call F.swashlaw07_Write [1, 1, 1, 1, 1, 1, 0, 1, 0, 0, 1, 1, 0, 0, 1, 1, 0, 0, 1, 1, 0, 0, 1, 1, 1]) (kBlock 5 (kSeq (pieceK (C k) call F.swashlaw07_Write [1, 1, 1, 1, 1, 1, 0, 1, 0, 0, 1, 1, 0, 0, 1, 1, 0, 0, 1, 1, 1]) (kRound (ownOf (C k) F.swashlaw07_Write [1, 1, 1, 1, 1, 1, 0, 1, 0, 0, 1, 1, 0, 0, 1, 1, 0, 0])))) .normal [(1, a1), (2, a2), (3, a3), (7, a7), (8, a8), (9, a9), (12, a12), (13, a13), (15, a15), (16, a16), (17, a17), (47, a47), (48, a48), (49, a49), (53, a53), (54, a54), (60, a60)] h
def swashlaw07_Write_l4 (k : Nat) (call : Caller) : Env → Heap → Res (AExit × Env) := loopB (C k) call F.swashlaw07_Write [1, 1, 1, 1, 1, 1, 1, 0, 1, 0, 0]
def swashlaw07_Write_l4k (k : Nat) (call : Caller) : Kont Value := kBlock 6 (kSeq (pieceK (C k) call F.swashlaw07_Write [1, 1, 1, 1, 1, 1, 1, 1]) (kDone Prog (resOf Prog F.swashlaw07_Write)))
def swashlaw07_Write_j3 (k : Nat) (call : Caller) (a1 a2 a7 a8 a9 a12 a13 a19 a72 a73 a74 : Value) (h : Heap) : Res (AExit × Env) :=
  kSeq (pieceK (C k) call F.swashlaw07_Write [1, 1, 1, 1, 1, 1, 1, 0, 1, 0, 0, 1, 1, 0, 0, 1, 1, 1]) (kBlock 7 (kSeq (pieceK (C k) call F.swashlaw07_Write [1, 1, 1, 1, 1, 1, 1, 0, 1, 0, 0, 1, 1, 1]) (kRound (ownOf (C k) F.swashlaw07_Write [1, 1, 1, 1, 1, 1, 1, 0, 1, 0, 0])))) .normal [(1, a1), (2, a2), (7, a7), (8, a8), (9, a9), (12, a12), (13, a13), (19, a19), (72, a72), (73, a73), (74, a74)] h
def swashlaw07_Write_j4 (k : Nat) (call : Caller) (a1 a2 a7 a8 a9 a12 a13 a19 a72 a73 a74 a88 : Value) (h : Heap) : Res (AExit × Env) :=
  kSeq (pieceK (C k) call F.swashlaw07_Write [1, 1, 1, 1, 1, 1, 1, 0, 1, 0, 0, 1, 1, 0, 0, 1, 1, 1]) (kBlock 7 (kSeq (pieceK (C k) call F.swashlaw07_Write [1, 1, 1, 1, 1, 1, 1, 0, 1, 0, 0, 1, 1, 1]) (kRound (ownOf (C k) F.swashlaw07_Write [1, 1, 1, 1, 1, 1, 1, 0, 1, 0, 0])))) .normal [(1, a1), (2, a2), (7, a7), (8, a8), (9, a9), (12, a12), (13, a13), (19, a19), (72, a72), (73, a73), (74, a74), (88, a88)] h
def swashlaw07_Write_j5 (k : Nat) (call : Caller) (a1 a2 a7 a8 a9 a12 a13 a72 a73 a74 : Value) (h : Heap) : Res (AExit × Env) :=
  kSeq (pieceK (C k) call F.swashlaw07_Write [1, 1, 1, 1, 1, 1, 1, 0, 1, 0, 0, 1, 1, 1]) (kRound (ownOf (C k) F.swashlaw07_Write [1, 1, 1, 1, 1, 1, 1, 0, 1, 0, 0])) .normal [(1, a1), (2, a2), (7, a7), (8, a8), (9, a9), (12, a12), (13, a13), (72, a72), (73, a73), (74, a74)] h
def swashlaw07_Write_j6 (k : Nat) (call : Caller) (a1 a2 a7 a8 a9 a12 a13 a19 a72 a73 a74 a95 : Value) (h : Heap) : Res (AExit × Env) :=
  kSeq (pieceK (C k) call F.swashlaw07_Write [1, 1, 1, 1, 1, 1, 1, 0, 1, 0, 0, 1, 1, 1]) (kRound (ownOf (C k) F.swashlaw07_Write [1, 1, 1, 1, 1, 1, 1, 0, 1, 0, 0])) .normal [(1, a1), (2, a2), (7, a7), (8, a8), (9, a9), (12, a12), (13, a13), (19, a19), (72, a72), (73, a73), (74, a74), (95, a95)] h
def swashlaw07_Write (k : Nat) (call : Caller) (a0 a1 a2 : Value) (h : Heap) : Res Value :=
  (boxR a0 h).bind fun v1 h2 =>
  (fieldAddrR Prog 146 v1 3 h2).bind fun v3 h4 =>
  (loadR Prog 5 v3 h4).bind fun v5 h6 =>
  (convR Prog 5 3 v5 h6).bind fun v7 h8 =>
  (binR Prog .rem 3 v7 (.int .i64 8) h8).bind fun v9 h10 =>
  (binR Prog .add 3 (.int .i64 4) v9 h10).bind fun v11 h12 =>
  (binR Prog .add 3 (.int .i64 16) a2 h12).bind fun v13 h14 =>
  (call F.swashref02_Put [(.slice none 0 0), (.int .i64 8), (.int .i64 2)] h14).bindT (fun p17 h18 => (fieldAddrR Prog 146 v1 0 h14).bindN fun v19 h20 => (loadR Prog 65 v19 h20).bindN fun v21 h22 => (builtinV Prog .len [65] [v21] h22).bindN fun v23 h24 => chkR ((okVal (loadR Prog 65 v19 h14) v21 && true) && true) (.panic p17 h18)) fun v15 h16 =>
  (call F.swashref02_Put [v15, (.int .i64 0), (.int .i64 2)] h16).bindT (fun p27 h28 => (fieldAddrR Prog 146 v1 0 h16).bindN fun v29 h30 => (loadR Prog 65 v29 h30).bindN fun v31 h32 => (builtinV Prog .len [65] [v31] h32).bindN fun v33 h34 => chkR ((okVal (loadR Prog 65 v29 h14) v31 && (okVal (loadR Prog 65 v29 h16) v31 && true)) && true) (.panic p27 h28)) fun v25 h26 =>
  (fieldAddrR Prog 146 v1 0 h26).bindN fun v35 h36 =>
  (loadR Prog 65 v35 h36).bindN fun v37 h38 =>
  (builtinV Prog .len [65] [v37] h38).bindN fun v39 h40 =>
  (call F.swashref02_Put [v25, v39, (.int .i64 2)] h40).bindT (fun p43 h44 => chkR ((okVal (loadR Prog 65 v35 h14) v37 && (okVal (loadR Prog 65 v35 h16) v37 && true)) && true) (.panic p43 h44)) fun v41 h42 =>
  chkR ((okVal (loadR Prog 65 v35 h14) v37 && (okVal (loadR Prog 65 v35 h16) v37 && true)) && true) (
  (fieldAddrR Prog 146 v1 0 h42).bind fun v45 h46 =>
  (loadR Prog 65 v45 h46).bind fun v47 h48 =>
  (builtinV Prog .len [65] [v47] h48).bind fun v49 h50 =>
  (loopN (swashlaw07_Write_l1 k call) loopFuel [(1, a1), (2, a2), (3, v1), (7, v11), (8, v13), (9, v41), (35, v47), (36, v49), (37, (.int .i64 0))] h50).bind fun r51 h52 =>
  swashlaw07_Write_l1k k call r51.1 r51.2 h52)
theorem swashlaw07_Write_R (k : Nat) (a0 a1 a2 : Value) (h : Heap) : R (T k) F.swashlaw07_Write [a0, a1, a2] h = nrm .fz h (swashlaw07_Write k (R (T k)) a0 a1 a2 h) :=
  (R_body (t := T k) (T_scott k) (by kernel_rfl) _ _).trans (by kernel_rfl)
theorem swashlaw07_Write_l1_eq (k : Nat) (call : Caller) (a1 a2 a3 a7 a8 a9 a35 a36 a37 : Value) (h : Heap) : swashlaw07_Write_l1 k call [(1, a1), (2, a2), (3, a3), (7, a7), (8, a8), (9, a9), (35, a35), (36, a36), (37, a37)] h =
  (binR Prog .lss 3 a37 a36 h).bind fun v53 h54 =>
  condV (some v53) (
    (indexAddrR Prog 65 a35 a37 h54).bind fun v55 h56 =>
    (loadR Prog 5 v55 h56).bind fun v57 h58 =>
    (convR Prog 5 3 v57 h58).bind fun v59 h60 =>
    (call F.swashref02_Put [a9, v59, (.int .i64 2)] h60).bind fun v61 h62 =>
    (binR Prog .add 3 a37 (.int .i64 1) h62).bind fun v63 h64 =>
    .ok (.normal, [(1, a1), (2, a2), (3, a3), (7, a7), (8, a8), (9, v61), (35, a35), (36, a36), (37, v63)]) h64)
  (
    .ok ((.exit 0), [(1, a1), (2, a2), (3, a3), (7, a7), (8, a8), (9, a9), (35, a35), (36, a36), (37, a37), (38, v53)]) h54) :=
  (loopB_eq _ _).trans (by kernel_rfl)
theorem swashlaw07_Write_l1k_x0 (k : Nat) (call : Caller) (a1 a2 a3 a7 a8 a9 a35 a36 a37 a38 : Value) (h : Heap) : swashlaw07_Write_l1k k call (.exit 0) [(1, a1), (2, a2), (3, a3), (7, a7), (8, a8), (9, a9), (35, a35), (36, a36), (37, a37), (38, a38)] h =
  (fieldAddrR Prog 146 a3 1 h).bind fun v65 h66 =>
  (loadR Prog 143 v65 h66).bind fun v67 h68 =>
  (builtinV Prog .len [143] [v67] h68).bind fun v69 h70 =>
  (loopN (swashlaw07_Write_l2 k call) loopFuel [(1, a1), (2, a2), (3, a3), (7, a7), (8, a8), (9, a9), (12, (.slice none 0 0)), (13, (.slice none 0 0)), (47, v67), (48, v69), (49, (.int .i64 0))] h70).bind fun r71 h72 =>
  swashlaw07_Write_l2k k call r71.1 r71.2 h72 := by kernel_rfl
theorem swashlaw07_Write_l2_eq (k : Nat) (call : Caller) (a1 a2 a3 a7 a8 a9 a12 a13 a47 a48 a49 : Value) (h : Heap) : swashlaw07_Write_l2 k call [(1, a1), (2, a2), (3, a3), (7, a7), (8, a8), (9, a9), (12, a12), (13, a13), (47, a47), (48, a48), (49, a49)] h =
  (binR Prog .lss 3 a49 a48 h).bind fun v73 h74 =>
  condV (some v73) (
    (indexAddrR Prog 143 a47 a49 h74).bind fun v75 h76 =>
    (loadR Prog 65 v75 h76).bind fun v77 h78 =>
    (loopN (swashlaw07_Write_l3 k call) loopFuel [(1, a1), (2, a2), (3, a3), (7, a7), (8, a8), (9, a9), (12, a12), (13, a13), (15, v77), (47, a47), (48, a48), (49, a49), (53, a7), (54, (.int .i64 0))] h78).bind fun r79 h80 =>
    swashlaw07_Write_l3k k call r79.1 r79.2 h80)
  (
    .ok ((.exit 2), [(1, a1), (2, a2), (3, a3), (7, a7), (8, a8), (9, a9), (12, a12), (13, a13), (47, a47), (48, a48), (49, a49), (50, v73)]) h74) :=
  (loopB_eq _ _).trans (by kernel_rfl)
theorem swashlaw07_Write_l3_eq (k : Nat) (call : Caller) (a1 a2 a3 a7 a8 a9 a12 a13 a15 a47 a48 a49 a53 a54 : Value) (h : Heap) : swashlaw07_Write_l3 k call [(1, a1), (2, a2), (3, a3), (7, a7), (8, a8), (9, a9), (12, a12), (13, a13), (15, a15), (47, a47), (48, a48), (49, a49), (53, a53), (54, a54)] h =
  (binR Prog .lss 3 a54 a53 h).bind fun v81 h82 =>
  condV (some v81) (
    (builtinV Prog .len [65] [a15] h82).bind fun v83 h84 =>
    (binR Prog .lss 3 a54 v83 h84).bind fun v85 h86 =>
    condV (some v85) (
      (indexAddrR Prog 65 a15 a54 h86).bind fun v87 h88 =>
      (loadR Prog 5 v87 h88).bind fun v89 h90 =>
      (convR Prog 5 3 v89 h90).bind fun v91 h92 =>
      swashlaw07_Write_j1 k call a1 a2 a3 a7 a8 a9 a12 a13 a15 v91 a47 a48 a49 a53 a54 h92)
    (
      swashlaw07_Write_j2 k call a1 a2 a3 a7 a8 a9 a12 a13 a15 a54 (.int .i64 0) a47 a48 a49 a53 a54 v85 h86))
  (
    .ok ((.exit 4), [(1, a1), (2, a2), (3, a3), (7, a7), (8, a8), (9, a9), (12, a12), (13, a13), (15, a15), (47, a47), (48, a48), (49, a49), (53, a53), (54, a54), (55, v81)]) h82) :=
  (loopB_eq _ _).trans (by kernel_rfl)
theorem swashlaw07_Write_j1_eq (k : Nat) (call : Caller) (a1 a2 a3 a7 a8 a9 a12 a13 a15 a17 a47 a48 a49 a53 a54 : Value) (h : Heap) : swashlaw07_Write_j1 k call a1 a2 a3 a7 a8 a9 a12 a13 a15 a17 a47 a48 a49 a53 a54 h =
  (call F.swashref02_Put [a12, a17, (.int .i64 2)] h).bind fun v93 h94 =>
  (binR Prog .add 3 a54 (.int .i64 1) h94).bind fun v95 h96 =>
  .ok (.normal, [(1, a1), (2, a2), (3, a3), (7, a7), (8, a8), (9, a9), (12, v93), (13, a13), (15, a15), (47, a47), (48, a48), (49, a49), (53, a53), (54, v95)]) h96 := by kernel_rfl
theorem swashlaw07_Write_j2_eq (k : Nat) (call : Caller) (a1 a2 a3 a7 a8 a9 a12 a13 a15 a16 a17 a47 a48 a49 a53 a54 a60 : Value) (h : Heap) : swashlaw07_Write_j2 k call a1 a2 a3 a7 a8 a9 a12 a13 a15 a16 a17 a47 a48 a49 a53 a54 a60 h =
  (call F.swashref02_Put [a12, a17, (.int .i64 2)] h).bind fun v97 h98 =>
  (binR Prog .add 3 a54 (.int .i64 1) h98).bind fun v99 h100 =>
  .ok (.normal, [(1, a1), (2, a2), (3, a3), (7, a7), (8, a8), (9, a9), (12, v97), (13, a13), (15, a15), (47, a47), (48, a48), (49, a49), (53, a53), (54, v99)]) h100 := by kernel_rfl
theorem swashlaw07_Write_l2k_x2 (k : Nat) (call : Caller) (a1 a2 a3 a7 a8 a9 a12 a13 a47 a48 a49 a50 : Value) (h : Heap) : swashlaw07_Write_l2k k call (.exit 2) [(1, a1), (2, a2), (3, a3), (7, a7), (8, a8), (9, a9), (12, a12), (13, a13), (47, a47), (48, a48), (49, a49), (50, a50)] h =
  (fieldAddrR Prog 146 a3 2 h).bind fun v101 h102 =>
  (loadR Prog 144 v101 h102).bind fun v103 h104 =>
  (builtinV Prog .len [144] [v103] h104).bind fun v105 h106 =>
  (loopN (swashlaw07_Write_l4 k call) loopFuel [(1, a1), (2, a2), (7, a7), (8, a8), (9, a9), (12, a12), (13, a13), (72, v103), (73, v105), (74, (.int .i64 0))] h106).bind fun r107 h108 =>
  swashlaw07_Write_l4k k call r107.1 r107.2 h108 := by kernel_rfl
theorem swashlaw07_Write_l4_eq (k : Nat) (call : Caller) (a1 a2 a7 a8 a9 a12 a13 a72 a73 a74 : Value) (h : Heap) : swashlaw07_Write_l4 k call [(1, a1), (2, a2), (7, a7), (8, a8), (9, a9), (12, a12), (13, a13), (72, a72), (73, a73), (74, a74)] h =
  (binR Prog .lss 3 a74 a73 h).bind fun v109 h110 =>
  condV (some v109) (
    (indexAddrR Prog 144 a72 a74 h110).bind fun v111 h112 =>
    (loadR Prog 150 v111 h112).bind fun v113 h114 =>
    (allocR Prog 150 h114).bind fun v115 h116 =>
    (storeR Prog 150 v115 v113 h116).bind fun _v117 h118 =>
    (fieldAddrR Prog 150 v115 0 h118).bindN fun v119 h120 =>
    (loadR Prog 3 v119 h120).bindN fun v121 h122 =>
    (binR Prog .and 3 v121 (.int .i64 65535) h122).bindN fun v123 h124 =>
    (call F.swashref02_Put [a13, v123, (.int .i64 2)] h124).bindT (fun p127 h128 => (fieldAddrR Prog 150 v115 1 h124).bindN fun v129 h130 => (loadR Prog 3 v129 h130).bindN fun v131 h132 => (binR Prog .and 3 v131 (.int .i64 65535) h132).bindN fun v133 h134 => chkR ((okVal (loadR Prog 3 v129 h118) v131 && true) && true) (.panic p127 h128)) fun v125 h126 =>
    (fieldAddrR Prog 150 v115 1 h126).bindN fun v135 h136 =>
    (loadR Prog 3 v135 h136).bindN fun v137 h138 =>
    (binR Prog .and 3 v137 (.int .i64 65535) h138).bindN fun v139 h140 =>
    (call F.swashref02_Put [v125, v139, (.int .i64 2)] h140).bindT (fun p143 h144 => chkR ((okVal (loadR Prog 3 v135 h118) v137 && true) && true) (.panic p143 h144)) fun v141 h142 =>
    chkR ((okVal (loadR Prog 3 v135 h118) v137 && true) && true) (
    (binR Prog .gtr 3 a1 (.int .i64 0) h142).bind fun v145 h146 =>
    condV (some v145) (
      (fieldAddrR Prog 150 v115 2 h146).bind fun v147 h148 =>
      (loadR Prog 3 v147 h148).bind fun v149 h150 =>
      (binR Prog .and 3 v149 (.int .i64 65535) h150).bind fun v151 h152 =>
      (call F.swashref02_Put [v141, v151, (.int .i64 2)] h152).bind fun v153 h154 =>
      swashlaw07_Write_j3 k call a1 a2 a7 a8 a9 a12 v153 v115 a72 a73 a74 h154)
    (
      swashlaw07_Write_j4 k call a1 a2 a7 a8 a9 a12 v141 v115 a72 a73 a74 v145 h146)))
  (
    .ok ((.exit 6), [(1, a1), (2, a2), (7, a7), (8, a8), (9, a9), (12, a12), (13, a13), (72, a72), (73, a73), (74, a74), (75, v109)]) h110) :=
  (loopB_eq _ _).trans (by kernel_rfl)
theorem swashlaw07_Write_j3_eq (k : Nat) (call : Caller) (a1 a2 a7 a8 a9 a12 a13 a19 a72 a73 a74 : Value) (h : Heap) : swashlaw07_Write_j3 k call a1 a2 a7 a8 a9 a12 a13 a19 a72 a73 a74 h =
  (binR Prog .gtr 3 a1 (.int .i64 1) h).bind fun v155 h156 =>
  condV (some v155) (
    (fieldAddrR Prog 150 a19 3 h156).bind fun v157 h158 =>
    (loadR Prog 3 v157 h158).bind fun v159 h160 =>
    (binR Prog .and 3 v159 (.int .i64 65535) h160).bind fun v161 h162 =>
    (call F.swashref02_Put [a13, v161, (.int .i64 2)] h162).bind fun v163 h164 =>
    swashlaw07_Write_j5 k call a1 a2 a7 a8 a9 a12 v163 a72 a73 a74 h164)
  (
    swashlaw07_Write_j6 k call a1 a2 a7 a8 a9 a12 a13 a19 a72 a73 a74 v155 h156) := by kernel_rfl
theorem swashlaw07_Write_j4_eq (k : Nat) (call : Caller) (a1 a2 a7 a8 a9 a12 a13 a19 a72 a73 a74 a88 : Value) (h : Heap) : swashlaw07_Write_j4 k call a1 a2 a7 a8 a9 a12 a13 a19 a72 a73 a74 a88 h =
  (binR Prog .gtr 3 a1 (.int .i64 1) h).bind fun v165 h166 =>
  condV (some v165) (
    (fieldAddrR Prog 150 a19 3 h166).bind fun v167 h168 =>
    (loadR Prog 3 v167 h168).bind fun v169 h170 =>
    (binR Prog .and 3 v169 (.int .i64 65535) h170).bind fun v171 h172 =>
    (call F.swashref02_Put [a13, v171, (.int .i64 2)] h172).bind fun v173 h174 =>
    swashlaw07_Write_j5 k call a1 a2 a7 a8 a9 a12 v173 a72 a73 a74 h174)
  (
    swashlaw07_Write_j6 k call a1 a2 a7 a8 a9 a12 a13 a19 a72 a73 a74 v165 h166) := by kernel_rfl
theorem swashlaw07_Write_j5_eq (k : Nat) (call : Caller) (a1 a2 a7 a8 a9 a12 a13 a72 a73 a74 : Value) (h : Heap) : swashlaw07_Write_j5 k call a1 a2 a7 a8 a9 a12 a13 a72 a73 a74 h =
  (binR Prog .add 3 a74 (.int .i64 1) h).bind fun v175 h176 =>
  .ok (.normal, [(1, a1), (2, a2), (7, a7), (8, a8), (9, a9), (12, a12), (13, a13), (72, a72), (73, a73), (74, v175)]) h176 := by kernel_rfl
theorem swashlaw07_Write_j6_eq (k : Nat) (call : Caller) (a1 a2 a7 a8 a9 a12 a13 a19 a72 a73 a74 a95 : Value) (h : Heap) : swashlaw07_Write_j6 k call a1 a2 a7 a8 a9 a12 a13 a19 a72 a73 a74 a95 h =
  (binR Prog .add 3 a74 (.int .i64 1) h).bind fun v177 h178 =>
  .ok (.normal, [(1, a1), (2, a2), (7, a7), (8, a8), (9, a9), (12, a12), (13, a13), (72, a72), (73, a73), (74, v177)]) h178 := by kernel_rfl
theorem swashlaw07_Write_l3k_x4 (k : Nat) (call : Caller) (a1 a2 a3 a7 a8 a9 a12 a13 a15 a47 a48 a49 a53 a54 a55 : Value) (h : Heap) : swashlaw07_Write_l3k k call (.exit 4) [(1, a1), (2, a2), (3, a3), (7, a7), (8, a8), (9, a9), (12, a12), (13, a13), (15, a15), (47, a47), (48, a48), (49, a49), (53, a53), (54, a54), (55, a55)] h =
  (binR Prog .add 3 a49 (.int .i64 1) h).bind fun v179 h180 =>
  .ok (.normal, [(1, a1), (2, a2), (3, a3), (7, a7), (8, a8), (9, a9), (12, a12), (13, a13), (47, a47), (48, a48), (49, v179)]) h180 := by kernel_rfl
theorem swashlaw07_Write_l4k_x6 (k : Nat) (call : Caller) (a1 a2 a7 a8 a9 a12 a13 a72 a73 a74 a75 : Value) (h : Heap) : swashlaw07_Write_l4k k call (.exit 6) [(1, a1), (2, a2), (7, a7), (8, a8), (9, a9), (12, a12), (13, a13), (72, a72), (73, a73), (74, a74), (75, a75)] h =
  (call F.swashref02_Put [(.slice none 0 0), a7, (.int .i64 4)] h).bind fun v181 h182 =>
  (call F.swashref02_Put [v181, a8, (.int .i64 4)] h182).bind fun v183 h184 =>
  (builtinV Prog .len [65] [a9] h184).bind fun v185 h186 =>
  (binR Prog .add 3 a8 v185 h186).bind fun v187 h188 =>
  (call F.swashref02_Put [v183, v187, (.int .i64 4)] h188).bind fun v189 h190 =>
  (builtinV Prog .len [65] [a9] h190).bind fun v191 h192 =>
  (binR Prog .add 3 a8 v191 h192).bind fun v193 h194 =>
  (builtinV Prog .len [65] [a12] h194).bind fun v195 h196 =>
  (binR Prog .add 3 v193 v195 h196).bind fun v197 h198 =>
  (call F.swashref02_Put [v189, v197, (.int .i64 4)] h198).bind fun v199 h200 =>
  (builtinV Prog .append [65, 3] [v199, a2] h200).bind fun v201 h202 =>
  (builtinV Prog .append [65, 65] [v201, a9] h202).bind fun v203 h204 =>
  (builtinV Prog .append [65, 65] [v203, a12] h204).bind fun v205 h206 =>
  (builtinV Prog .append [65, 65] [v205, a13] h206).bind fun v207 h208 =>
  .ok v207 h208 := by kernel_rfl
end
end Go.Sw
end
section
namespace Go.Sw
theorem wf_u8 {n : Int} (h : (Lit.int .u8 n).wf = true) : 0 ≤ n ∧ n < 256 := by
  simp [Lit.wf, IntKind.min, IntKind.max, IntKind.signed, IntKind.bits] at h
  omega
theorem row_B {r : List Da} {cs : List Value} (h : LayRow [.int .u8] r cs) : ∃ n : Int, cs = encB n ∧ (0 ≤ n ∧ n < 256) := by
  obtain ⟨d, v, ds, vs, rfl, h1, h2⟩ := h.head
  obtain rfl := h2.done
  obtain ⟨n, rfl, w⟩ := h1.intv
  exact ⟨n, rfl, wf_u8 w⟩
theorem arg_i {k : IntKind} {v : Value} (h : ArgLay (.one (.int k)) v) : ∃ n, v = .int k n ∧ (Lit.int k n).wf = true := by
  obtain ⟨d, h1⟩ := h.cell
  exact h1.intv
end Go.Sw
end
section
namespace Go.Sw
open Go.RowKit
theorem speaks07_run (k : Nat) (hk : k % 1000000 = F.swashlaw07_speaks) (H : Heap) : R (T k) F.swashlaw07_speaks [] H = .ok (.bool true) H :=
  (R_sp (t := T k) (T_scott k) (s := constSp (.bool true)) (by unfold T C; dsimp only; rw [hk]; kernel_rfl) [] H).trans (nrm_gc (Pure.of rfl) (.bool _))
theorem Entries_any (k : Nat) (m : Mach) (hl : m.ents.length ≤ 65536) (H : Heap) : ∃ s H', R (T k) F.state_Machine_Entries [machV m] H = .ok s H' ∧ Sl H' 4 s encEn m.ents ∧ Ext H H' := by
  by_cases hk : k < 1000000
  · exact ⟨_, H, Entries_run k hk m hl H, Sl.lv _ _ _, Ext.refl H⟩
  · obtain ⟨s, o, H', e, g⟩ := Entries_own k (by omega) m hl (Star.nil H)
    exact ⟨s, H', e, (g.own 0 rfl).sl encEn_len, g.ext⟩
theorem mod3 {n : Int} (h0 : 0 ≤ n) : n.tmod 3 = n % 3 := Int.tmod_eq_emod_of_nonneg h0
end Go.Sw
end
section
set_option maxRecDepth 100000
set_option linter.unusedVariables false
namespace Go.Sw
noncomputable section
def swashref02_Put_l1 (k : Nat) (call : Caller) : Env → Heap → Res (AExit × Env) := loopB (C k) call F.swashref02_Put [1, 0, 1, 0, 0]
def swashref02_Put_l1k (k : Nat) (call : Caller) : Kont Value := kBlock 0 (kSeq (pieceK (C k) call F.swashref02_Put [1, 1]) (kDone Prog (resOf Prog F.swashref02_Put)))
def swashref02_Put_l2 (k : Nat) (call : Caller) : Env → Heap → Res (AExit × Env) := loopB (C k) call F.swashref02_Put [1, 0, 1, 0, 0, 1, 0, 0, 1, 0, 1, 0, 0]
def swashref02_Put_l2k (k : Nat) (call : Caller) : Kont (AExit × Env) := kBlock 2 (kSeq (pieceK (C k) call F.swashref02_Put [1, 0, 1, 0, 0, 1, 0, 0, 1, 1]) (kBlock 1 (kSeq (pieceK (C k) call F.swashref02_Put [1, 0, 1, 0, 0, 1, 1]) (kRound (ownOf (C k) F.swashref02_Put [1, 0, 1, 0, 0])))))
def swashref02_Put (k : Nat) (call : Caller) (a0 a1 a2 : Value) (h : Heap) : Res Value :=
  (binR Prog .sub 3 a2 (.int .i64 1) h).bind fun v1 h2 =>
  (loopN (swashref02_Put_l1 k call) loopFuel [(0, a0), (1, a1), (7, v1)] h2).bind fun r3 h4 =>
  swashref02_Put_l1k k call r3.1 r3.2 h4
theorem swashref02_Put_R (k : Nat) (a0 a1 a2 : Value) (h : Heap) : R (T k) F.swashref02_Put [a0, a1, a2] h = nrm .no h (swashref02_Put k (R (T k)) a0 a1 a2 h) :=
  (R_body (t := T k) (T_scott k) (by kernel_rfl) _ _).trans (by kernel_rfl)
theorem swashref02_Put_l1_eq (k : Nat) (call : Caller) (a0 a1 a7 : Value) (h : Heap) : swashref02_Put_l1 k call [(0, a0), (1, a1), (7, a7)] h =
  (binR Prog .geq 3 a7 (.int .i64 0) h).bind fun v5 h6 =>
  condV (some v5) (
    (loopN (swashref02_Put_l2 k call) loopFuel [(0, a0), (1, a1), (7, a7), (8, a1), (9, (.int .i64 0))] h6).bind fun r7 h8 =>
    swashref02_Put_l2k k call r7.1 r7.2 h8)
  (
    .ok ((.exit 0), [(0, a0), (1, a1), (7, a7), (13, v5)]) h6) :=
  (loopB_eq _ _).trans (by kernel_rfl)
theorem swashref02_Put_l2_eq (k : Nat) (call : Caller) (a0 a1 a7 a8 a9 : Value) (h : Heap) : swashref02_Put_l2 k call [(0, a0), (1, a1), (7, a7), (8, a8), (9, a9)] h =
  (binR Prog .lss 3 a9 a7 h).bind fun v9 h10 =>
  condV (some v9) (
    (binR Prog .quo 3 a8 (.int .i64 256) h10).bind fun v11 h12 =>
    (binR Prog .add 3 a9 (.int .i64 1) h12).bind fun v13 h14 =>
    .ok (.normal, [(0, a0), (1, a1), (7, a7), (8, v11), (9, v13)]) h14)
  (
    .ok ((.exit 2), [(0, a0), (1, a1), (7, a7), (8, a8), (9, a9), (19, v9)]) h10) :=
  (loopB_eq _ _).trans (by kernel_rfl)
theorem swashref02_Put_l1k_x0 (k : Nat) (call : Caller) (a0 a1 a7 a13 : Value) (h : Heap) : swashref02_Put_l1k k call (.exit 0) [(0, a0), (1, a1), (7, a7), (13, a13)] h =
  .ok a0 h := by kernel_rfl
theorem swashref02_Put_l2k_x2 (k : Nat) (call : Caller) (a0 a1 a7 a8 a9 a19 : Value) (h : Heap) : swashref02_Put_l2k k call (.exit 2) [(0, a0), (1, a1), (7, a7), (8, a8), (9, a9), (19, a19)] h =
  (binR Prog .rem 3 a8 (.int .i64 256) h).bind fun v15 h16 =>
  (convR Prog 3 5 v15 h16).bind fun v17 h18 =>
  (buildSliceR Prog 65 1 [(0, v17)] h18).bind fun v19 h20 =>
  (builtinV Prog .append [65, 65] [a0, v19] h20).bind fun v21 h22 =>
  (binR Prog .sub 3 a7 (.int .i64 1) h22).bind fun v23 h24 =>
  .ok (.normal, [(0, v21), (1, a1), (7, v23)]) h24 := by kernel_rfl
end
end Go.Sw
end
section
namespace Go.Sw
open Go.RowKit
theorem Put_in (k : Nat) (s : Value) (n : Int) (i : Nat) (h0 : 0 ≤ n) (hn : n < 2 ^ 62) (hi : i < 2 ^ 62) (H : Heap) :
    loopN (swashref02_Put_l2 k (R (T k))) loopFuel [(0, s), (1, .int .i64 n), (7, .int .i64 i), (8, .int .i64 n), (9, .int .i64 0)] H = .ok (.exit 2, [(0, s), (1, .int .i64 n), (7, .int .i64 i), (8, .int .i64 (n / 256 ^ i)), (9, .int .i64 i), (19, .bool false)]) H := by
  obtain ⟨x, e', H1, hr, rfl, rfl, rfl⟩ := loop_up (body := swashref02_Put_l2 k (R (T k))) i
    (fun j e H' => H' = H ∧ e = [(0, s), (1, .int .i64 n), (7, .int .i64 i), (8, .int .i64 (n / 256 ^ j)), (9, .int .i64 j)])
    (fun x e H' => H' = H ∧ x = .exit 2 ∧ e = [(0, s), (1, .int .i64 n), (7, .int .i64 i), (8, .int .i64 (n / 256 ^ i)), (9, .int .i64 i), (19, .bool false)])
    (e0 := [(0, s), (1, .int .i64 n), (7, .int .i64 i), (8, .int .i64 n), (9, .int .i64 0)]) (H0 := H) ⟨rfl, by simp⟩ (by omega)
    (fun j e H' hj ⟨hH, he⟩ => by
      subst he hH
      have hlt : (j : Int) < i := by omega
      have q0 : 0 ≤ n / 256 ^ j := Int.ediv_nonneg h0 (Int.pow_nonneg (by decide))
      have q1 : n / 256 ^ j ≤ n := Int.ediv_le_self _ h0
      have hq : (n / 256 ^ j).tdiv 256 = n / 256 ^ (j + 1) := by
        rw [Int.tdiv_eq_ediv_of_nonneg q0, Int.pow_succ, Int.ediv_ediv_of_nonneg (Int.pow_nonneg (by decide))]
      have q := fun H => bin_quo Prog 3 H .i64 (n / 256 ^ j) 256 (by decide)
      rw [hq] at q
      have q2 : 0 ≤ n / 256 ^ (j + 1) := Int.ediv_nonneg h0 (Int.pow_nonneg (by decide))
      have q3 : n / 256 ^ (j + 1) ≤ n := Int.ediv_le_self _ h0
      generalize n / 256 ^ (j + 1) = m at q q2 q3 ⊢
      generalize n / 256 ^ j = m0 at q ⊢
      refine .inl ⟨_, H', ?_, rfl, rfl⟩
      rw [swashref02_Put_l2_eq]
      simp -implicitDefEqProofs (disch := omega) [hlt, q])
    (fun e H' ⟨hH, he⟩ => by
      subst he hH
      refine ⟨.exit 2, _, H', ?_, by simp, rfl, rfl, rfl⟩
      rw [swashref02_Put_l2_eq]
      simp -implicitDefEqProofs (disch := omega))
  exact hr
theorem Put_star (k : Nat) {H0 H : Heap} {L : List It} (h : Star H0 H L) (i : Nat) {o : Option Nat} {s : Value} {b : List Int} (hi : L[i]? = some (itRow o 1 s encB b)) (n zi : Int) (z : Nat) (hzi : zi = z) (h0 : 0 ≤ n) (hn : n < 2 ^ 62) (hz : z ≤ 8) (hl : b.length < 2 ^ 30) :
    ∃ s' o' H', R (T k) F.swashref02_Put [s, .int .i64 n, .int .i64 zi] H = .ok s' H' ∧ Star H0 H' (L.set i (itRow o' 1 s' encB (b ++ bytesOf n z))) := by
  subst hzi
  rw [swashref02_Put_R]
  have hlt : i < L.length := (List.getElem?_eq_some_iff.1 hi).1
  have hself : L.set i (itRow o 1 s encB b) = L := by
    obtain ⟨hlt, hx⟩ := List.getElem?_eq_some_iff.1 hi
    rw [← hx, List.set_getElem_self]
  obtain ⟨x, e', H1, hr, s', o', rfl, ⟨a, c, rfl⟩, ho⟩ := loopDec (body := swashref02_Put_l1 k (R (T k)))
    (fun m e H' => ∃ s o acc, e = [(0, s), (1, .int .i64 n), (7, .int .i64 ((m : Int) - 1))] ∧ Star H0 H' (L.set i (itRow o 1 s encB acc)) ∧ acc ++ bytesOf n m = b ++ bytesOf n z ∧ m ≤ z)
    (fun x e H' => ∃ s' o', x = .exit 0 ∧ (∃ a c, e = [(0, s'), (1, .int .i64 n), (7, a), (13, c)]) ∧ Star H0 H' (L.set i (itRow o' 1 s' encB (b ++ bytesOf n z))))
    (e0 := [(0, s), (1, .int .i64 n), (7, .int .i64 ((z : Int) - 1))]) (H0 := H) z ⟨s, o, b, rfl, by rw [hself]; exact h, rfl, Nat.le_refl _⟩ (by omega)
    (fun m e H' ⟨s, o, acc, he, ho, ha, hmz⟩ => by
      subst he
      cases m with
      | zero =>
        refine .inr ⟨.exit 0, _, H', ?_, by simp, s, o, rfl, ⟨.int .i64 ((0 : Nat) - 1), .bool false, rfl⟩, by simpa [bytesOf] using (by simpa [bytesOf] using ha) ▸ ho⟩
        rw [swashref02_Put_l1_eq]
        simp -implicitDefEqProofs
      | succ m =>
        have hin := Put_in k s n m h0 hn (by omega) H'
        have q0 : 0 ≤ n / 256 ^ m := Int.ediv_nonneg h0 (Int.pow_nonneg (by decide))
        have hacc : acc.length < 2 ^ 31 := by
          have := congrArg List.length ha
          simp [bytesOf_len] at this
          omega
        obtain ⟨s2, o2, H2, e1, o1⟩ := ho.append1 (bytes := 1) i encB_len (List.getElem?_set_self hlt) ((n / 256 ^ m) % 256) hacc (by decide)
        rw [List.set_set] at o1
        have hrem := fun H => bin_rem Prog 3 H .i64 (n / 256 ^ m) 256 (by decide)
        rw [Int.tmod_eq_emod_of_nonneg q0] at hrem
        have hb : 0 ≤ (n / 256 ^ m) % 256 ∧ (n / 256 ^ m) % 256 < 256 := by omega
        refine .inl ⟨m, _, H2, ?_, by omega, s2, o2, acc ++ [(n / 256 ^ m) % 256], rfl, o1, by rw [List.append_assoc]; exact ha, by omega⟩
        rw [swashref02_Put_l1_eq]
        have hge : (m : Int) ≥ 0 := by omega
        rw [show (((m + 1 : Nat) : Int) - 1) = (m : Int) by omega]
        generalize (n / 256 ^ m) % 256 = y at e1 hrem hb
        simp -implicitDefEqProofs (disch := omega) [hge, hin, swashref02_Put_l2k_x2, hrem, e1])
  refine ⟨s', o', H1, ?_, ho⟩
  simp -implicitDefEqProofs (disch := omega) [swashref02_Put, hr, swashref02_Put_l1k_x0, nrm_no]
end Go.Sw
end
