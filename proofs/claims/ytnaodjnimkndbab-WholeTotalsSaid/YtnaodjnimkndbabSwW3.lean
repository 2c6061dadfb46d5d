/-
  Functions' forms, and what is proved of them, part 3.
-/
import Derived.Test.YtnaodjnimkndbabSwW2
import Derived.Test.YtnaodjnimkndbabSwLib9
import Derived.Test.YtnaodjnimkndbabSwCfg
import Derived.Test.YtnaodjnimkndbabSwLib8
import Derived.Test.YtnaodjnimkndbabSwW1
set_option linter.unusedSimpArgs false
set_option linter.unusedVariables false
set_option linter.unusedSectionVars false
section
namespace Go.Sw
open Go.RowKit
theorem at_run (k : Nat) (p : Pt) (hp : p.ok) (id : Int) (hf : p.first ≤ id) (hi : id ≤ p.last) (H : Heap) : R (T k) F.lookup_part_at [.agg #[.int .i64 p.first, .int .i64 p.last, lv encI p.vals], .int .i64 id] H = .ok (.int .i64 ((p.num id).getD 0)) H := by
 rw [lookup_part_at_R]
 obtain ⟨x, hx, _⟩ := Pt.num_some hp hf
 obtain ⟨h1, h2, h3, h4, h5, h6⟩ := hp
 have hl : 0 < p.vals.length := List.length_pos_iff.2 h4
 refine nrm_gc ⟨_, ?_, (Ext.refl H).push ⟨[.int .i64 p.first, .int .i64 p.last, lv encI p.vals], 1, false⟩⟩ (.int _ _)
 unfold Pt.num at hx ⊢
 obtain ⟨m, hm⟩ : ∃ m : Int, m = (if (p.vals.length : Int) - 1 < id - p.first then (p.vals.length : Int) - 1 else id - p.first) := ⟨_, rfl⟩
 have hm2 : min (id - p.first) ((p.vals.length : Int) - 1) = m := by rw [hm]; split <;> omega
 rw [hm2] at hx ⊢
 have hm0 : 0 ≤ m := by rw [hm]; split <;> omega
 have hix := fun H' => ixS_lv encI_len p.vals .i64 m x hm0 hx H'
 simp only [hx, Option.getD_some]
 simp -implicitDefEqProofs (disch := omega) [lookup_part_at, ← hm, hix]
theorem Get_in1_run (k : Nat) {H : Heap} (x : Int × List Pt) (id : Int) (p1 p2 : Nat) (h1 : H.get p1 = some ⟨[tabV x], 1, false⟩) (h2 : H.get p2 = some ⟨[.int .i64 id], 1, false⟩) (j : Nat) (p : Pt) (hj : x.2[j]? = some p) :
  R (T k) F.lookup_Table_Get_in1 [.int .i64 j, .pointer (some ⟨p1, 0, none⟩), .pointer (some ⟨p2, 0, none⟩)] H = .ok (.bool (decide (id ≤ p.last))) H := by
 rw [lookup_Table_Get_in1_R]
 refine nrm_gc (Pure.of ?_) (.bool _)
 have i1 := fun H' => ixS_lvN encPt_len x.2 .i64 j p hj H'
 simp -implicitDefEqProofs (disch := omega) [lookup_Table_Get_in1, h1, h2, i1]
theorem Get_run (k : Nat) (x : Int × List Pt) (hok : ∀ p, p ∈ x.2 → p.ok) (hr : risesS x.2 = true) (id : Int) (hl : x.2.length < 2 ^ 31) (H : Heap) :
  R (T k) F.lookup_Table_Get [tabV x, .int .i64 id] H = .ok (.tuple #[.int .i64 ((getS x.2 id).getD 0), .bool (getS x.2 id).isSome]) H := by
 rw [lookup_Table_Get_R]
 obtain ⟨fmt, ps⟩ := x
 dsimp only at hok hr hl ⊢
 have hx : Ext H ((H.push ⟨[tabV (fmt, ps)], 1, false⟩).push ⟨[.int .i64 id], 1, false⟩) := ((Ext.refl H).push _).push _
 have hmono : ∀ i j : Nat, i ≤ j → j < ps.length → (ps[i]?).elim false (fun p => decide (id ≤ p.last)) = true → (ps[j]?).elim false (fun p => decide (id ≤ p.last)) = true := by
  intro i j hij hj hi
  by_cases he : i = j
  ·subst he; exact hi
  ·obtain ⟨p, hp⟩ : ∃ p, ps[i]? = some p := ⟨_, List.getElem?_eq_getElem (by omega)⟩
   obtain ⟨q, hq⟩ : ∃ q, ps[j]? = some q := ⟨_, List.getElem?_eq_getElem hj⟩
   have h1 := risesS_get hr hok i j p q (by omega) hp hq
   have h2 := (hok q (List.mem_of_getElem? hq)).2.1
   rw [hp] at hi
   rw [hq]
   simp at hi ⊢
   omega
 obtain ⟨i, hfi⟩ := isFirst_ex ps.length (fun j => (ps[j]?).elim false fun p => decide (id ≤ p.last)) hmono
 have hfirst := First_run k ps.length (.func (.func F.lookup_Table_Get_in1) #[] #[.pointer (some ⟨H.n, 0, none⟩), .pointer (some ⟨H.n + 1, 0, none⟩)]) (fun j => (ps[j]?).elim false fun p => decide (id ≤ p.last)) ((H.push ⟨[tabV (fmt, ps)], 1, false⟩).push ⟨[.int .i64 id], 1, false⟩) (by omega)
  (fun j hj => by
   obtain ⟨p, hp⟩ : ∃ p, ps[j]? = some p := ⟨_, List.getElem?_eq_getElem hj⟩
   have := Get_in1_run k (H := (H.push ⟨[tabV (fmt, ps)], 1, false⟩).push ⟨[.int .i64 id], 1, false⟩) (fmt, ps) id H.n (H.n + 1) (by simp) (by simp) j p hp
   simp only [callV, List.nil_append, List.cons_append]
   rw [hp]
   simpa using this)
  hmono i hfi
 rw [getS_first id i hfi]
 have hle := hfi.1
 by_cases hil : i < ps.length
 ·obtain ⟨p, hp⟩ : ∃ p, ps[i]? = some p := ⟨_, List.getElem?_eq_getElem hil⟩
  have hpok := hok p (List.mem_of_getElem? hp)
  have hne : ((i : Int) == (ps.length : Int)) = false := by simp; omega
  have i1 := fun H' => ixS_lvN encPt_len ps .i64 i p hp H'
  have hlast : id ≤ p.last := by
   have := hfi.2.2 i (Nat.le_refl _) hil
   simp only [hp] at this
   simpa using this
  rw [hp]
  by_cases hf : p.first ≤ id
  ·have hgt : ¬ p.first > id := by omega
   obtain ⟨y, hy, _⟩ := Pt.num_some hpok hf
   have hat := at_run k p hpok id hf hlast ((H.push ⟨[tabV (fmt, ps)], 1, false⟩).push ⟨[.int .i64 id], 1, false⟩)
   refine nrm_gc ⟨_, ?_, hx⟩ (Flat.tupleL (l := [_, _]) (.cons (.int _ _) (.cons (.bool _) .nil))).alive
   simp only [Option.bind_some, if_pos hf]
   rw [hy] at hat ⊢
   simp -implicitDefEqProofs (disch := omega) [lookup_Table_Get, hfirst, hne, i1, hgt, hat]
  ·have hgt : p.first > id := by omega
   refine nrm_gc ⟨_, ?_, hx⟩ (Flat.tupleL (l := [_, _]) (.cons (.int _ _) (.cons (.bool _) .nil))).alive
   simp only [Option.bind_some, if_neg hf]
   simp -implicitDefEqProofs (disch := omega) [lookup_Table_Get, hfirst, hne, i1, hgt]
 ·have e : i = ps.length := by omega
  subst e
  refine nrm_gc ⟨_, ?_, hx⟩ (Flat.tupleL (l := [_, _]) (.cons (.int _ _) (.cons (.bool _) .nil))).alive
  simp -implicitDefEqProofs (disch := omega) [lookup_Table_Get, hfirst]
theorem Most_run (k : Nat) (x : Int × List Pt) (hok : ∀ p, p ∈ x.2 → p.ok) (hl : x.2.length < 2 ^ 31) (H : Heap) : R (T k) F.lookup_Table_Most [tabV x] H = .ok (.int .i64 (mostS x.2)) H := by
 rw [lookup_Table_Most_R]
 obtain ⟨fmt, ps⟩ := x
 dsimp only at hok hl ⊢
 obtain ⟨xx, e', H1, hr, hx, rfl, a, rfl⟩ := loop_up (body := lookup_Table_Most_l1 k (R (T k))) ps.length
  (fun i e H' => Ext H H' ∧ e = [(3, .int .i64 (mostS (ps.take i))), (11, lv encPt ps), (12, .int .i64 ps.length), (13, .int .i64 i)])
  (fun x e H' => Ext H H' ∧ x = .exit 0 ∧ ∃ a, e = [(3, .int .i64 (mostS ps)), (11, lv encPt ps), (12, .int .i64 ps.length), (13, .int .i64 ps.length), (14, a)])
  (e0 := [(3, .int .i64 (-1)), (11, lv encPt ps), (12, .int .i64 ps.length), (13, .int .i64 0)]) (H0 := H) ⟨Ext.refl H, by simp [mostS]⟩ (by omega)
  (fun i e H' hi ⟨hx, he⟩ => by
   subst he
   have hlt : (i : Int) < ps.length := by omega
   obtain ⟨p, hp⟩ : ∃ p, ps[i]? = some p := ⟨_, List.getElem?_eq_getElem hi⟩
   have hpok := hok p (List.mem_of_getElem? hp)
   have i1 := fun H' => ixS_lvN encPt_len ps .i64 i p hp H'
   have hx2 : Ext H (H'.push ⟨[.int .i64 p.first, .int .i64 p.last, lv encI p.vals], 1, false⟩) := hx.push _
   have hmost : mostS (ps.take (i + 1)) = p.vals.foldl max (mostS (ps.take i)) := by
    unfold mostS
    rw [List.take_add_one, hp]
    simp
   obtain ⟨y, e2, H2, hr2, rfl, rfl, a, rfl⟩ := loop_up (body := lookup_Table_Most_l2 k (R (T k))) p.vals.length
    (fun j e H2 => H2 = H'.push ⟨[.int .i64 p.first, .int .i64 p.last, lv encI p.vals], 1, false⟩ ∧ e = [(3, .int .i64 ((p.vals.take j).foldl max (mostS (ps.take i)))), (11, lv encPt ps), (12, .int .i64 ps.length), (13, .int .i64 i), (18, lv encI p.vals), (19, .int .i64 p.vals.length), (20, .int .i64 j)])
    (fun x e H2 => H2 = H'.push ⟨[.int .i64 p.first, .int .i64 p.last, lv encI p.vals], 1, false⟩ ∧ x = .exit 2 ∧ ∃ a, e = [(3, .int .i64 (mostS (ps.take (i + 1)))), (11, lv encPt ps), (12, .int .i64 ps.length), (13, .int .i64 i), (18, lv encI p.vals), (19, .int .i64 p.vals.length), (20, .int .i64 p.vals.length), (21, a)])
    (e0 := [(3, .int .i64 (mostS (ps.take i))), (11, lv encPt ps), (12, .int .i64 ps.length), (13, .int .i64 i), (18, lv encI p.vals), (19, .int .i64 p.vals.length), (20, .int .i64 0)]) (H0 := H'.push ⟨[.int .i64 p.first, .int .i64 p.last, lv encI p.vals], 1, false⟩) ⟨rfl, by simp⟩ (by have := hpok.2.2.2.2.1; omega)
    (fun j e H2 hj ⟨hH, he⟩ => by
     subst he hH
     have hlt2 : (j : Int) < p.vals.length := by omega
     obtain ⟨n, hn⟩ : ∃ n, p.vals[j]? = some n := ⟨_, List.getElem?_eq_getElem hj⟩
     have i2 := fun H' => ixS_lvN encI_len p.vals .i64 j n hn H'
     have hjl := hpok.2.2.2.2.1
     have hmx : (if n > (p.vals.take j).foldl max (mostS (ps.take i)) then n else (p.vals.take j).foldl max (mostS (ps.take i))) = (p.vals.take (j + 1)).foldl max (mostS (ps.take i)) := by
      rw [List.take_add_one, hn]
      simp
      split <;> omega
     refine .inl ⟨_, _, ?_, rfl, rfl⟩
     rw [lookup_Table_Most_l2_eq, ← hmx]
     simp -implicitDefEqProofs (disch := omega) [hlt2, i2])
    (fun e H2 ⟨hH, he⟩ => by
     subst he hH
     rw [List.take_length, ← hmost]
     refine ⟨.exit 2, _, _, ?_, by simp, rfl, rfl, .bool false, rfl⟩
     rw [lookup_Table_Most_l2_eq]
     simp -implicitDefEqProofs (disch := omega))
   refine .inl ⟨_, _, ?_, hx2, rfl⟩
   rw [lookup_Table_Most_l1_eq]
   simp -implicitDefEqProofs (disch := omega) [hlt, i1, hr2, lookup_Table_Most_l2k_x2])
  (fun e H' ⟨hx, he⟩ => by
   subst he
   rw [List.take_length]
   refine ⟨.exit 0, _, H', ?_, by simp, hx, rfl, .bool false, rfl⟩
   rw [lookup_Table_Most_l1_eq]
   simp -implicitDefEqProofs (disch := omega))
 refine nrm_gc ⟨H1, ?_, hx⟩ (.int _ _)
 simp -implicitDefEqProofs (disch := omega) [lookup_Table_Most, hr, lookup_Table_Most_l1k_x0]
end Go.Sw
end
section
namespace Go.Sw
open Go.RowKit
section
variable {α : Type} {enc : α → List Value}
theorem Star.ix {H0 H : Heap} {L : List It} (h : Star H0 H L) (i : Nat) {o : Option Nat} {m : Nat} {s : Value} {l : List α} (hi : L[i]? = some (itRow o m s enc l)) (k : IntKind) (j : Nat) (hj : j < l.length) :
  ∃ b, o = some b ∧ H.get b = some ⟨rows enc l, m, false⟩ ∧ ∀ H', ixS m s (.int k j) H' = .ok (.pointer (some ⟨b, j * m, none⟩)) H' := by
 obtain ⟨b, h1, _, h3, h4⟩ := (h.row i hi).ix k j hj
 exact ⟨b, h1, h3, h4⟩
end
section
variable {α : Type} {enc : α → List Value}
theorem Sl.lenL {H : Heap} {m : Nat} {v : Value} {l : List α} (h : Sl H m v enc l) : Go.Sw.lenL v = some l.length := by
 rcases h with rfl | ⟨rfl, rfl | rfl | rfl⟩ | ⟨b, off, cap, k, rfl, _⟩ <;> rfl
theorem Sl.first {H : Heap} {m : Nat} {v : Value} {l : List α} (he : ∀ x, (enc x).length = m) (h : Sl H m v enc l) : firstV m l.length v H = some (rows enc l) := by
 rcases h with rfl | ⟨rfl, rfl | rfl | rfl⟩ | ⟨b, off, cap, k, rfl, hc, hk, hr⟩
 ·exact lv_first he l H
 ·rfl
 ·rfl
 ·rfl
 ·unfold firstV
  dsimp only
  have hl := rows_length he l
  split
  ·rename_i h0
   rw [List.length_eq_zero_iff.1 (hl.trans h0)]
  ·rename_i h0
   rw [cellsAt_eq, hk, Option.bind_some, hr, if_pos]
   have := congrArg List.length hr
   rw [hl] at this
   simp at this
   omega
theorem Sl.rd {H : Heap} {m : Nat} (hm : 0 < m) {v : Value} {l : List α} (he : ∀ x, (enc x).length = m) (h : Sl H m v enc l) : Rd H m v enc l := by
 have hlen := h.len
 rcases h with rfl | ⟨rfl, _⟩ | ⟨b, off, cap, k, rfl, hc, hk, hr⟩
 ·exact Rd.lv he H l
 ·exact ⟨hlen, fun i x hx => by simp at hx⟩
 ·refine ⟨hlen, fun i x hx => ?_⟩
  have hi := (List.getElem?_eq_some_iff.1 hx).1
  refine ⟨.pointer (some ⟨b, off + i * m, none⟩), fun k H' => ixS_slice m b off l.length cap k i H' hi, ?_⟩
  have hl := rows_length he l
  have hle : i * m + m ≤ l.length * m := by rw [← Nat.succ_mul]; exact Nat.mul_le_mul_right _ hi
  have hkl := congrArg List.length hr
  rw [hl] at hkl
  have hpos : 0 < l.length * m := Nat.mul_pos (by omega) hm
  rw [List.length_take, List.length_drop] at hkl
  have hfit : off + i * m + m ≤ k.cells.length := by omega
  simp only [ldA_ptr, hk, Option.bind_some]
  rw [if_pos hfit]
  have := rows_at he l i x hx
  rw [← hr, List.drop_take, List.take_take, List.drop_drop] at this
  rw [show min m (l.length * m - i * m) = m by omega] at this
  rw [this]
  rfl
end
theorem take_snoc {α : Type} {l : List α} {j : Nat} {p : α} (h : l[j]? = some p) : l.take (j + 1) = l.take j ++ [p] := by
 rw [List.take_add_one, h]; rfl
theorem fz_box {n0 : Nat} {H : Heap} {d c e : Nat} {cells r : List Value} {L : List Nat} (hn : n0 ≤ c) (hc : H.get c = some ⟨cells, e, false⟩) (h : mapF (fzV n0 H d) cells = some (r, L)) : fzV n0 H (d + 1) (.pointer (some ⟨c, 0, none⟩)) = some (boxV r.toArray, c :: L) := by
 have h1 : Nat.blt c n0 = false := by
  cases hb : Nat.blt c n0 with
  | false => rfl
  | true => exact absurd (Nat.le_of_ble_eq_true hb) (by omega)
 simp only [fzV, h1, cond_false, hc, List.drop_zero, h]
 rfl
end Go.Sw
end
section
set_option maxRecDepth 100000
set_option linter.unusedVariables false
namespace Go.Sw
noncomputable section
end
end Go.Sw
end
section
set_option maxRecDepth 100000
set_option linter.unusedVariables false
namespace Go.Sw
noncomputable section
def slices_Clone_of_api_Glyph_api_Glyph (k : Nat) (call : Caller) (a0 : Value) (h : Heap) : Res Value :=
 (binR Prog .eql 48 a0 (.slice none 0 0) h).bind fun v1 h2 =>
 condV (some v1) (
 .ok (.slice none 0 0) h2)
 (
 (buildSliceR Prog 48 0 [] h2).bind fun v3 h4 =>
 (builtinV Prog .append [48, 48] [v3, a0] h4).bind fun v5 h6 =>
 .ok v5 h6)
theorem slices_Clone_of_api_Glyph_api_Glyph_body (k : Nat) (sp : FuncId → Option Sp) (call : Caller) (a0 : Value) (h : Heap) : bodyK { P := Prog, kp := kpS, sp := sp } call F.slices_Clone_of_api_Glyph_api_Glyph [a0] h = slices_Clone_of_api_Glyph_api_Glyph k call a0 h := by kernel_rfl
def slices_Clone_of_api_Place_api_Place (k : Nat) (call : Caller) (a0 : Value) (h : Heap) : Res Value :=
 (binR Prog .eql 70 a0 (.slice none 0 0) h).bind fun v1 h2 =>
 condV (some v1) (
 .ok (.slice none 0 0) h2)
 (
 (buildSliceR Prog 70 0 [] h2).bind fun v3 h4 =>
 (builtinV Prog .append [70, 70] [v3, a0] h4).bind fun v5 h6 =>
 .ok v5 h6)
theorem slices_Clone_of_api_Place_api_Place_body (k : Nat) (sp : FuncId → Option Sp) (call : Caller) (a0 : Value) (h : Heap) : bodyK { P := Prog, kp := kpS, sp := sp } call F.slices_Clone_of_api_Place_api_Place [a0] h = slices_Clone_of_api_Place_api_Place k call a0 h := by kernel_rfl
def slices_Clone_of_sfnt_Part_sfnt_Part (k : Nat) (call : Caller) (a0 : Value) (h : Heap) : Res Value :=
 (binR Prog .eql 167 a0 (.slice none 0 0) h).bind fun v1 h2 =>
 condV (some v1) (
 .ok (.slice none 0 0) h2)
 (
 (buildSliceR Prog 167 0 [] h2).bind fun v3 h4 =>
 (builtinV Prog .append [167, 167] [v3, a0] h4).bind fun v5 h6 =>
 .ok v5 h6)
theorem slices_Clone_of_sfnt_Part_sfnt_Part_body (k : Nat) (sp : FuncId → Option Sp) (call : Caller) (a0 : Value) (h : Heap) : bodyK { P := Prog, kp := kpS, sp := sp } call F.slices_Clone_of_sfnt_Part_sfnt_Part [a0] h = slices_Clone_of_sfnt_Part_sfnt_Part k call a0 h := by kernel_rfl
end
end Go.Sw
end
section
set_option maxRecDepth 100000
set_option linter.unusedVariables false
namespace Go.Sw
noncomputable section
end
end Go.Sw
end
section
namespace Go.Sw
open Go.RowKit
abbrev ptrV (c : Nat) : Value := .pointer (some ⟨c, 0, none⟩)
end Go.Sw
end
section
set_option maxRecDepth 100000
set_option linter.unusedVariables false
namespace Go.Sw
noncomputable section
end
end Go.Sw
end
section
namespace Go.Sw
open Go.RowKit
theorem Star.stCell {H0 H : Heap} {L : List It} (h : Star H0 H L) (i : Nat) {c : Nat} {cells : List Value} {e : Nat} (hi : L[i]? = some (itBlk c ⟨cells, e, false⟩)) (off : Nat) {v : Value} (hs : storable v = true) (hc : v.cells = #[v]) (ho : off < cells.length) :
  ∃ H', stR 1 (.pointer (some ⟨c, off, none⟩)) v H = .ok undef H' ∧ Star H0 H' (L.set i (itBlk c ⟨cells.set off v, e, false⟩)) ∧ H'.n = H.n := by
 have hg := h.get i hi
 have hsp : splice cells off [v] = cells.set off v := by
  unfold splice
  rw [List.set_eq_take_append_cons_drop, if_pos ho]
  rfl
 refine ⟨H.set c (some ⟨cells.set off v, e, false⟩), ?_, h.step i hi (by simp) (fun d _ hd => ?_) _ ?_ fun b hb => .inl hb, by simp⟩
 ·simp [hs, hc, hg, hsp]
  rw [if_pos (show off + 1 ≤ cells.length by omega)]
  rfl
 ·rw [get_set_ne]
  exact fun e => hd (show d ∈ [c] by simp [e])
 ·exact get_set_eq _ _ _ (by rw [hg]; rfl)
end Go.Sw
end
section
namespace Go.Sw
open Go.RowKit
section
variable (k : Nat) {H0 : Heap} {X : List It} {c r : Nat} {n : Int} {tab vR vE : Value} {rv ev : List Int} {w : Int}
 (hn : 0 ≤ n ∧ n ≤ 65535) (hw : w = 0 ∨ w = 1 ∨ w = 2) (hvR : Sl H0 1 vR encB rv) (hvE : Sl H0 1 vE encB ev) (hbR : Byt rv) (hbE : Byt ev) (hlR : rv.length < 2 ^ 31) (hlE : ev.length < 2 ^ 31)
 (hX : itBlk r ⟨[ptrV c, vR, vE, .int .i64 w], 1, false⟩ ∈ X)
include hn hvR hvE hbR hlR hX
end
section
variable (k : Nat) {H0 : Heap} {X : List It} {c r : Nat} {n : Int} {tab vR vE : Value} {rv ev : List Int} {w : Int}
 (hn : 0 ≤ n ∧ n ≤ 65535) (hw : w = 0 ∨ w = 1 ∨ w = 2) (hvR : Sl H0 1 vR encB rv) (hvE : Sl H0 1 vE encB ev) (hbR : Byt rv) (hbE : Byt ev) (hlR : rv.length < 2 ^ 31) (hlE : ev.length < 2 ^ 31)
 (hX : itBlk r ⟨[ptrV c, vR, vE, .int .i64 w], 1, false⟩ ∈ X)
include hw hvR hvE hbE hlE hX
end
section
variable (k : Nat) {H0 : Heap} {X : List It} {c r : Nat} {n : Int} {tab vR vE : Value} {rv ev : List Int} {w : Int}
 (hn : 0 ≤ n ∧ n ≤ 65535) (hw : w = 0 ∨ w = 1 ∨ w = 2) (hvR : Sl H0 1 vR encB rv) (hvE : Sl H0 1 vE encB ev) (hbR : Byt rv) (hbE : Byt ev) (hlR : rv.length < 2 ^ 31) (hlE : ev.length < 2 ^ 31)
 (hX : itBlk r ⟨[ptrV c, vR, vE, .int .i64 w], 1, false⟩ ∈ X)
include hn hw hvR hvE hbR hbE hlR hlE hX
end
end Go.Sw
end
section
namespace Go.Sw
open Go.RowKit
theorem restS_len {b r : List Int} {i : Int} (h : restS b i = some r) : r.length ≤ b.length := by
 unfold restS at h
 split at h
 ·injection h with h
  subst h
  simp
 ·cases h
end Go.Sw
end
section
set_option maxRecDepth 100000
set_option linter.unusedVariables false
namespace Go.Sw
noncomputable section
def pair_Read (k : Nat) (call : Caller) (a0 a1 a2 : Value) (h : Heap) : Res Value :=
 (boxR a0 h).bind fun v1 h2 =>
 (boxR a2 h2).bind fun v3 h4 =>
 (allocR Prog 150 h4).bind fun v5 h6 =>
 (loadR Prog 3 v3 h6).bind fun v7 h8 =>
 (binR Prog .lss 3 v7 (.int .i64 1) h8).bind fun v9 h10 =>
 ((bif wantVal v9 false then loadR Prog 3 v3 h10 else Res.ok undef h10)).bind fun v11 h12 =>
 ((bif wantVal v9 false then binR Prog .gtr 3 v11 (.int .i64 65535) h12 else Res.ok undef h12)).bind fun v13 h14 =>
 (condV (some v9) (Res.ok (.bool true) h14) (Res.ok v13 h14)).bind fun v15 h16 =>
 ((bif wantVal v15 false then loadR Prog 3 v1 h16 else Res.ok undef h16)).bind fun v17 h18 =>
 ((bif wantVal v15 false then binR Prog .neq 3 v17 (.int .i64 0) h18 else Res.ok undef h18)).bind fun v19 h20 =>
 ((bif wantVal v15 false then Res.ok v19 h20 else Res.ok undef h20)).bind fun v21 h22 =>
 ((bif wantVal v21 true then loadR Prog 3 v1 h22 else Res.ok undef h22)).bind fun v23 h24 =>
 ((bif wantVal v21 true then binR Prog .neq 3 v23 (.int .i64 2) h24 else Res.ok undef h24)).bind fun v25 h26 =>
 ((bif wantVal v15 false then condV (some v21) (Res.ok v25 h26) (Res.ok (.bool false) h26) else Res.ok undef h26)).bind fun v27 h28 =>
 ((bif wantVal v15 false then Res.ok v27 h28 else Res.ok undef h28)).bind fun v29 h30 =>
 ((bif wantVal v29 true then loadR Prog 3 v1 h30 else Res.ok undef h30)).bind fun v31 h32 =>
 ((bif wantVal v29 true then binR Prog .neq 3 v31 (.int .i64 6) h32 else Res.ok undef h32)).bind fun v33 h34 =>
 ((bif wantVal v15 false then condV (some v29) (Res.ok v33 h34) (Res.ok (.bool false) h34) else Res.ok undef h34)).bind fun v35 h36 =>
 (condV (some v15) (Res.ok (.bool true) h36) (Res.ok v35 h36)).bind fun v37 h38 =>
 condV (some v37) (
 (storeR Prog 150 v5 (.pointer none) h38).bind fun _v39 h40 =>
 (loadR Prog 150 v5 h40).bind fun v41 h42 =>
 .ok (.tuple #[v41, (.int .i64 1)]) h42)
 (
 (call F.view_Of [a1] h38).bind fun v43 h44 =>
 (call F.view_View_Bytes [v43] h44).bind fun v45 h46 =>
 (call F.view_Of [v45] h46).bind fun v47 h48 =>
 (allocR Prog 55 h48).bind fun v49 h50 =>
 (storeR Prog 55 v49 v47 h50).bind fun _v51 h52 =>
 (call F.view_Try [(.func (.func F.pair_Read_in1) #[] #[v1, v49, v3, v5])] h52).bind fun v53 h54 =>
 (unR .not v53 h54).bind fun v55 h56 =>
 condV (some v55) (
 (storeR Prog 150 v5 (.pointer none) h56).bind fun _v57 h58 =>
 (loadR Prog 150 v5 h58).bind fun v59 h60 =>
 .ok (.tuple #[v59, (.int .i64 2)]) h60)
 (
 (loadR Prog 150 v5 h56).bind fun v61 h62 =>
 (storeR Prog 150 v5 v61 h62).bind fun _v63 h64 =>
 (loadR Prog 150 v5 h64).bind fun v65 h66 =>
 .ok (.tuple #[v65, (.int .i64 0)]) h66))
theorem pair_Read_R (k : Nat) (a0 a1 a2 : Value) (h : Heap) : R (T k) F.pair_Read [a0, a1, a2] h = nrm .fz h (pair_Read k (R (T k)) a0 a1 a2 h) :=
 (R_body (t := T k) (T_scott k) (by kernel_rfl) (by kernel_rfl) _ _).trans (by kernel_rfl)
def pair_Table_Get (k : Nat) (call : Caller) (a0 a1 a2 : Value) (h : Heap) : Res Value :=
 (nilR a0 h).bind fun v1 h2 =>
 (fieldAddrR Prog 266 v1 2 h2).bind fun v3 h4 =>
 (loadR Prog 66 v3 h4).bind fun v5 h6 =>
 (binR Prog .eql 66 v5 (.pointer none) h6).bind fun v7 h8 =>
 condV (some v7) (
 (binR Prog .lss 3 a1 (.int .i64 0) h8).bind fun v9 h10 =>
 ((bif wantVal v9 false then Res.ok a1 h10 else Res.ok undef h10)).bind fun v11 h12 =>
 ((bif wantVal v9 false then binR Prog .gtr 3 v11 (.int .i64 65535) h12 else Res.ok undef h12)).bind fun v13 h14 =>
 (condV (some v9) (Res.ok (.bool true) h14) (Res.ok v13 h14)).bind fun v15 h16 =>
 ((bif wantVal v15 false then Res.ok a2 h16 else Res.ok undef h16)).bind fun v17 h18 =>
 ((bif wantVal v15 false then binR Prog .lss 3 v17 (.int .i64 0) h18 else Res.ok undef h18)).bind fun v19 h20 =>
 (condV (some v15) (Res.ok (.bool true) h20) (Res.ok v19 h20)).bind fun v21 h22 =>
 ((bif wantVal v21 false then Res.ok a2 h22 else Res.ok undef h22)).bind fun v23 h24 =>
 ((bif wantVal v21 false then binR Prog .gtr 3 v23 (.int .i64 65535) h24 else Res.ok undef h24)).bind fun v25 h26 =>
 (condV (some v21) (Res.ok (.bool true) h26) (Res.ok v25 h26)).bind fun v27 h28 =>
 condV (some v27) (
 .ok (.int .i64 0) h28)
 (
 (nilR a0 h28).bind fun v29 h30 =>
 (fieldAddrR Prog 266 v29 0 h30).bind fun v31 h32 =>
 (loadR Prog 27 v31 h32).bind fun v33 h34 =>
 (binR Prog .shl 3 a1 (.int .u64 16) h34).bind fun v35 h36 =>
 (binR Prog .or 3 v35 a2 h36).bind fun v37 h38 =>
 (call F.seek_Place [v33, v37] h38).bind fun v39 h40 =>
 (extractR v39 0 h40).bind fun v41 h42 =>
 (extractR v39 1 h42).bind fun v43 h44 =>
 (unR .not v43 h44).bind fun v45 h46 =>
 condV (some v45) (
 .ok (.int .i64 0) h46)
 (
 (binR Prog .mul 3 (.int .i64 6) v41 h46).bind fun v47 h48 =>
 (binR Prog .add 3 v47 (.int .i64 4) h48).bind fun v49 h50 =>
 (call F.pair_Table_value [a0, v49] h50).bind fun v51 h52 =>
 .ok v51 h52)))
 (
 (nilR a0 h8).bind fun v53 h54 =>
 (fieldAddrR Prog 266 v53 2 h54).bind fun v55 h56 =>
 (loadR Prog 66 v55 h56).bind fun v57 h58 =>
 (call F.lookup_Table_Get [v57, a1] h58).bind fun v59 h60 =>
 (extractR v59 0 h60).bind fun v61 h62 =>
 (extractR v59 1 h62).bind fun v63 h64 =>
 (nilR a0 h64).bind fun v65 h66 =>
 (fieldAddrR Prog 266 v65 3 h66).bind fun v67 h68 =>
 (loadR Prog 66 v67 h68).bind fun v69 h70 =>
 (call F.lookup_Table_Get [v69, a2] h70).bind fun v71 h72 =>
 (extractR v71 0 h72).bind fun v73 h74 =>
 (extractR v71 1 h74).bind fun v75 h76 =>
 (nilR a0 h76).bind fun v77 h78 =>
 (fieldAddrR Prog 266 v77 4 h78).bind fun v79 h80 =>
 (loadR Prog 3 v79 h80).bind fun v81 h82 =>
 (binR Prog .add 3 v61 v73 h82).bind fun v83 h84 =>
 (binR Prog .mul 3 v81 v83 h84).bind fun v85 h86 =>
 (call F.pair_Table_value [a0, v85] h86).bind fun v87 h88 =>
 .ok v87 h88)
theorem pair_Table_Get_R (k : Nat) (a0 a1 a2 : Value) (h : Heap) : R (T k) F.pair_Table_Get [a0, a1, a2] h = nrm .gc h (pair_Table_Get k (R (T k)) a0 a1 a2 h) :=
 (R_body (t := T k) (T_scott k) (by kernel_rfl) (by kernel_rfl) _ _).trans (by kernel_rfl)
def pair_Read_in1 (k : Nat) (call : Caller) (a0 a1 a2 a3 : Value) (h : Heap) : Res Value :=
 (loadR Prog 3 a0 h).bind fun v1 h2 =>
 (loadR Prog 55 a1 h2).bind fun v3 h4 =>
 (loadR Prog 3 a2 h4).bind fun v5 h6 =>
 (call F.pair_Take [v1, v3, v5] h6).bind fun v7 h8 =>
 (storeR Prog 150 a3 v7 h8).bind fun _v9 h10 =>
 .ok (.tuple #[]) h10
theorem pair_Read_in1_R (k : Nat) (a0 a1 a2 a3 : Value) (h : Heap) : R (T k) F.pair_Read_in1 [a0, a1, a2, a3] h = nrm .no h (pair_Read_in1 k (R (T k)) a0 a1 a2 a3 h) :=
 (R_body (t := T k) (T_scott k) (by kernel_rfl) (by kernel_rfl) _ _).trans (by kernel_rfl)
def pair_Take (k : Nat) (call : Caller) (a0 a1 a2 : Value) (h : Heap) : Res Value :=
 (boxR a1 h).bind fun v1 h2 =>
 (binR Prog .eql 3 a0 (.int .i64 0) h2).bind fun v3 h4 =>
 condV (some v3) (
 (loadR Prog 55 v1 h4).bind fun v5 h6 =>
 (call F.pair_list [v5] h6).bind fun v7 h8 =>
 .ok v7 h8)
 (
 (binR Prog .eql 3 a0 (.int .i64 2) h4).bind fun v9 h10 =>
 condV (some v9) (
 (loadR Prog 55 v1 h10).bind fun v11 h12 =>
 (call F.pair_table [v11, (.int .i64 4), a2, (.int .i64 2), (.int .i64 1)] h12).bind fun v13 h14 =>
 .ok v13 h14)
 (
 (binR Prog .eql 3 a0 (.int .i64 6) h10).bind fun v15 h16 =>
 condV (some v15) (
 (loadR Prog 55 v1 h16).bind fun v17 h18 =>
 (call F.view_View_U32 [v17, (.int .i64 0)] h18).bind fun v19 h20 =>
 (binR Prog .and 3 v19 (.int .i64 1) h20).bind fun v21 h22 =>
 (binR Prog .eql 3 v21 (.int .i64 1) h22).bind fun v23 h24 =>
 condV (some v23) (
 (loadR Prog 55 v1 h24).bind fun v25 h26 =>
 (call F.pair_table [v25, (.int .i64 8), a2, (.int .i64 4), (.int .i64 4)] h26).bind fun v27 h28 =>
 .ok v27 h28)
 (
 (loadR Prog 55 v1 h24).bind fun v29 h30 =>
 (call F.pair_table [v29, (.int .i64 8), a2, (.int .i64 2), (.int .i64 2)] h30).bind fun v31 h32 =>
 .ok v31 h32))
 (
 (call F.view_Fail [] h16).bind fun v33 h34 =>
 .ok (.pointer none) h34)))
theorem pair_Take_R (k : Nat) (a0 a1 a2 : Value) (h : Heap) : R (T k) F.pair_Take [a0, a1, a2] h = nrm .fz h (pair_Take k (R (T k)) a0 a1 a2 h) :=
 (R_body (t := T k) (T_scott k) (by kernel_rfl) (by kernel_rfl) _ _).trans (by kernel_rfl)
def pair_Table_value (k : Nat) (call : Caller) (a0 a1 : Value) (h : Heap) : Res Value :=
 (nilR a0 h).bind fun v1 h2 =>
 (fieldAddrR Prog 266 v1 5 h2).bind fun v3 h4 =>
 (loadR Prog 3 v3 h4).bind fun v5 h6 =>
 (binR Prog .eql 3 v5 (.int .i64 4) h6).bind fun v7 h8 =>
 condV (some v7) (
 (nilR a0 h8).bind fun v9 h10 =>
 (fieldAddrR Prog 266 v9 1 h10).bind fun v11 h12 =>
 (loadR Prog 55 v11 h12).bind fun v13 h14 =>
 (call F.view_View_I32 [v13, a1] h14).bind fun v15 h16 =>
 .ok v15 h16)
 (
 (nilR a0 h8).bind fun v17 h18 =>
 (fieldAddrR Prog 266 v17 1 h18).bind fun v19 h20 =>
 (loadR Prog 55 v19 h20).bind fun v21 h22 =>
 (call F.view_View_I16 [v21, a1] h22).bind fun v23 h24 =>
 .ok v23 h24)
theorem pair_Table_value_R (k : Nat) (a0 a1 : Value) (h : Heap) : R (T k) F.pair_Table_value [a0, a1] h = nrm .gc h (pair_Table_value k (R (T k)) a0 a1 h) :=
 (R_body (t := T k) (T_scott k) (by kernel_rfl) (by kernel_rfl) _ _).trans (by kernel_rfl)
def pair_list_l1 (k : Nat) (call : Caller) : Env → Heap → Res (AExit × Env) := loopB (C k) call F.pair_list [1, 1, 1, 1, 0, 1, 0, 0]
def pair_list_l1k (k : Nat) (call : Caller) : Kont Value := kBlock 0 (kSeq (pieceK (C k) call F.pair_list [1, 1, 1, 1, 1]) (kDone Prog (resOf Prog F.pair_list)))
def pair_list (k : Nat) (call : Caller) (a0 : Value) (h : Heap) : Res Value :=
 (boxR a0 h).bind fun v1 h2 =>
 (loadR Prog 55 v1 h2).bind fun v3 h4 =>
 (call F.view_View_U32 [v3, (.int .i64 0)] h4).bind fun v5 h6 =>
 (loadR Prog 55 v1 h6).bind fun v7 h8 =>
 (call F.view_View_Cut [v7, (.int .i64 0), (.int .i64 16)] h8).bind fun v9 h10 =>
 (loadR Prog 55 v1 h10).bind fun v11 h12 =>
 (call F.view_View_Rows [v11, (.int .i64 16), v5, (.int .i64 6)] h12).bind fun v13 h14 =>
 (buildR Prog 266 [(1, v13), (5, (.int .i64 2))] h14).bind fun v15 h16 =>
 (boxR v15 h16).bind fun v17 h18 =>
 (loopN (pair_list_l1 k call) loopFuel [(4, v17), (15, v5), (16, (.int .i64 0))] h18).bind fun r19 h20 =>
 pair_list_l1k k call r19.1 r19.2 h20
theorem pair_list_R (k : Nat) (a0 : Value) (h : Heap) : R (T k) F.pair_list [a0] h = nrm .fz h (pair_list k (R (T k)) a0 h) :=
 (R_body (t := T k) (T_scott k) (by kernel_rfl) (by kernel_rfl) _ _).trans (by kernel_rfl)
theorem pair_list_l1_eq (k : Nat) (call : Caller) (a4 a15 a16 : Value) (h : Heap) : pair_list_l1 k call [(4, a4), (15, a15), (16, a16)] h =
 (binR Prog .lss 3 a16 a15 h).bind fun v21 h22 =>
 condV (some v21) (
 (nilR a4 h22).bindN fun v23 h24 =>
 (fieldAddrR Prog 266 v23 0 h24).bindN fun v25 h26 =>
 (loadR Prog 27 v25 h26).bindN fun v27 h28 =>
 (nilR a4 h28).bindN fun v29 h30 =>
 (fieldAddrR Prog 266 v29 1 h30).bindN fun v31 h32 =>
 (loadR Prog 55 v31 h32).bindN fun v33 h34 =>
 (binR Prog .mul 3 (.int .i64 6) a16 h34).bindN fun v35 h36 =>
 (call F.view_View_U32 [v33, v35] h36).bindT (fun p39 h40 => .panic p39 h40) fun v37 h38 =>
 (buildSliceR Prog 27 1 [(0, v37)] h38).bindN fun v41 h42 =>
 (builtinV Prog .append [27, 27] [v27, v41] h42).bindN fun v43 h44 =>
 (nilR a4 h44).bindN fun v45 h46 =>
 (fieldAddrR Prog 266 v45 0 h46).bindN fun v47 h48 =>
 (storeR Prog 27 v47 v43 h48).bindN fun _v49 h50 =>
 chkR ((okVal (loadR Prog 27 v25 h38) v27 && (okVal (loadR Prog 27 v25 h42) v27 && true)) && true) (
 (binR Prog .eql 3 a16 (.int .i64 0) h50).bindN fun v51 h52 =>
 ((bif wantVal v51 false then Res.ok a4 h52 else Res.ok undef h52)).bindN fun v53 h54 =>
 ((bif wantVal v51 false then nilR v53 h54 else Res.ok undef h54)).bindN fun v55 h56 =>
 ((bif wantVal v51 false then fieldAddrR Prog 266 v55 0 h56 else Res.ok undef h56)).bindN fun v57 h58 =>
 ((bif wantVal v51 false then loadR Prog 27 v57 h58 else Res.ok undef h58)).bindN fun v59 h60 =>
 ((bif wantVal v51 false then Res.ok a16 h60 else Res.ok undef h60)).bindN fun v61 h62 =>
 ((bif wantVal v51 false then binR Prog .sub 3 v61 (.int .i64 1) h62 else Res.ok undef h62)).bindN fun v63 h64 =>
 ((bif wantVal v51 false then indexAddrR Prog 27 v59 v63 h64 else Res.ok undef h64)).bindN fun v65 h66 =>
 ((bif wantVal v51 false then loadR Prog 3 v65 h66 else Res.ok undef h66)).bindN fun v67 h68 =>
 ((bif wantVal v51 false then Res.ok a4 h68 else Res.ok undef h68)).bindN fun v69 h70 =>
 ((bif wantVal v51 false then nilR v69 h70 else Res.ok undef h70)).bindN fun v71 h72 =>
 ((bif wantVal v51 false then fieldAddrR Prog 266 v71 0 h72 else Res.ok undef h72)).bindN fun v73 h74 =>
 ((bif wantVal v51 false then loadR Prog 27 v73 h74 else Res.ok undef h74)).bindN fun v75 h76 =>
 ((bif wantVal v51 false then Res.ok a16 h76 else Res.ok undef h76)).bindN fun v77 h78 =>
 ((bif wantVal v51 false then indexAddrR Prog 27 v75 v77 h78 else Res.ok undef h78)).bindN fun v79 h80 =>
 ((bif wantVal v51 false then loadR Prog 3 v79 h80 else Res.ok undef h80)).bindN fun v81 h82 =>
 ((bif wantVal v51 false then binR Prog .lss 3 v67 v81 h82 else Res.ok undef h82)).bindN fun v83 h84 =>
 (condV (some v51) (Res.ok (.bool true) h84) (Res.ok v83 h84)).bindN fun v85 h86 =>
 (call F.view_Need [v85] h86).bindT (fun p89 h90 => .panic p89 h90) fun v87 h88 =>
 (binR Prog .add 3 a16 (.int .i64 1) h88).bind fun v91 h92 =>
 .ok (.normal, [(4, a4), (15, a15), (16, v91)]) h92))
 (
 .ok ((.exit 0), [(4, a4), (15, a15), (16, a16), (17, v21)]) h22) :=
 (loopB_eq _ _).trans (by kernel_rfl)
theorem pair_list_l1k_x0 (k : Nat) (call : Caller) (a4 a15 a16 a17 : Value) (h : Heap) : pair_list_l1k k call (.exit 0) [(4, a4), (15, a15), (16, a16), (17, a17)] h =
 .ok a4 h := by kernel_rfl
def pair_table (k : Nat) (call : Caller) (a0 a1 a2 a3 a4 : Value) (h : Heap) : Res Value :=
 (boxR a0 h).bind fun v1 h2 =>
 (buildR Prog 266 [(4, a4), (5, a3)] h2).bind fun v3 h4 =>
 (boxR v3 h4).bind fun v5 h6 =>
 (loadR Prog 55 v1 h6).bindN fun v7 h8 =>
 (loadR Prog 55 v1 h8).bindN fun v9 h10 =>
 (call F.view_View_U32 [v9, a1] h10).bindT (fun p13 h14 => .panic p13 h14) fun v11 h12 =>
 (call F.view_View_Rest [v7, v11] h12).bindT (fun p17 h18 => chkR ((okVal (loadR Prog 55 v1 h12) v7 && true) && true) (.panic p17 h18)) fun v15 h16 =>
 (call F.lookup_Take [v15, a2, a3] h16).bindT (fun p21 h22 => chkR ((okVal (loadR Prog 55 v1 h12) v7 && true) && true) (.panic p21 h22)) fun v19 h20 =>
 (nilR v5 h20).bindN fun v23 h24 =>
 (fieldAddrR Prog 266 v23 2 h24).bindN fun v25 h26 =>
 (storeR Prog 66 v25 v19 h26).bindN fun _v27 h28 =>
 chkR ((okVal (loadR Prog 55 v1 h12) v7 && true) && true) (
 (loadR Prog 55 v1 h28).bindN fun v29 h30 =>
 (loadR Prog 55 v1 h30).bindN fun v31 h32 =>
 (binR Prog .add 3 a1 (.int .i64 4) h32).bindN fun v33 h34 =>
 (call F.view_View_U32 [v31, v33] h34).bindT (fun p37 h38 => .panic p37 h38) fun v35 h36 =>
 (call F.view_View_Rest [v29, v35] h36).bindT (fun p41 h42 => chkR ((okVal (loadR Prog 55 v1 h36) v29 && true) && true) (.panic p41 h42)) fun v39 h40 =>
 (call F.lookup_Take [v39, a2, a3] h40).bindT (fun p45 h46 => chkR ((okVal (loadR Prog 55 v1 h36) v29 && true) && true) (.panic p45 h46)) fun v43 h44 =>
 (nilR v5 h44).bindN fun v47 h48 =>
 (fieldAddrR Prog 266 v47 3 h48).bindN fun v49 h50 =>
 (storeR Prog 66 v49 v43 h50).bindN fun _v51 h52 =>
 chkR ((okVal (loadR Prog 55 v1 h36) v29 && true) && true) (
 (loadR Prog 55 v1 h52).bindN fun v53 h54 =>
 (loadR Prog 55 v1 h54).bindN fun v55 h56 =>
 (binR Prog .add 3 a1 (.int .i64 8) h56).bindN fun v57 h58 =>
 (call F.view_View_U32 [v55, v57] h58).bindT (fun p61 h62 => .panic p61 h62) fun v59 h60 =>
 (call F.view_View_Rest [v53, v59] h60).bindT (fun p65 h66 => chkR ((okVal (loadR Prog 55 v1 h60) v53 && true) && true) (.panic p65 h66)) fun v63 h64 =>
 (nilR v5 h64).bindN fun v67 h68 =>
 (fieldAddrR Prog 266 v67 1 h68).bindN fun v69 h70 =>
 (storeR Prog 55 v69 v63 h70).bindN fun _v71 h72 =>
 chkR ((okVal (loadR Prog 55 v1 h60) v53 && true) && true) (
 (nilR v5 h72).bindN fun v73 h74 =>
 (fieldAddrR Prog 266 v73 2 h74).bindN fun v75 h76 =>
 (loadR Prog 66 v75 h76).bindN fun v77 h78 =>
 (call F.lookup_Table_Most [v77] h78).bindT (fun p81 h82 => (nilR v5 h78).bindN fun v83 h84 => (fieldAddrR Prog 266 v83 3 h84).bindN fun v85 h86 => (loadR Prog 66 v85 h86).bindN fun v87 h88 => chkR ((okVal (loadR Prog 66 v85 h72) v87 && true) && true) (.panic p81 h82)) fun v79 h80 =>
 (builtinV Prog .max [3, 3] [v79, (.int .i64 0)] h80).bindN fun v89 h90 =>
 (nilR v5 h90).bindN fun v91 h92 =>
 (fieldAddrR Prog 266 v91 3 h92).bindN fun v93 h94 =>
 (loadR Prog 66 v93 h94).bindN fun v95 h96 =>
 (call F.lookup_Table_Most [v95] h96).bindT (fun p99 h100 => chkR ((okVal (loadR Prog 66 v93 h72) v95 && true) && true) (.panic p99 h100)) fun v97 h98 =>
 (builtinV Prog .max [3, 3] [v97, (.int .i64 0)] h98).bindN fun v101 h102 =>
 (binR Prog .add 3 v89 v101 h102).bindN fun v103 h104 =>
 chkR ((okVal (loadR Prog 66 v93 h72) v95 && true) && true) (
 (nilR v5 h104).bind fun v105 h106 =>
 (fieldAddrR Prog 266 v105 1 h106).bind fun v107 h108 =>
 (loadR Prog 55 v107 h108).bind fun v109 h110 =>
 (binR Prog .mul 3 a4 v103 h110).bind fun v111 h112 =>
 (call F.view_View_Cut [v109, v111, a3] h112).bind fun v113 h114 =>
 .ok v5 h114))))
theorem pair_table_R (k : Nat) (a0 a1 a2 a3 a4 : Value) (h : Heap) : R (T k) F.pair_table [a0, a1, a2, a3, a4] h = nrm .fz h (pair_table k (R (T k)) a0 a1 a2 a3 a4 h) :=
 (R_body (t := T k) (T_scott k) (by kernel_rfl) (by kernel_rfl) _ _).trans (by kernel_rfl)
end
end Go.Sw
end
section
namespace Go.Sw
open Go.RowKit
theorem subV_lv (b : List Int) (a n : Nat) (h : a + n ≤ b.length) : subV 1 (lv encB b) a n = lv encB ((b.drop a).take n) := by
 have h2 := ((Sl.lv Heap.empty 1 b).sub encB_len .i64 .i64 .i64 a n h).1 Heap.empty (Ext.refl _)
 rw [slS_lv encB_len b _ _ _ a (a + n) (a + n) (by simp [boundOf]) (by unfold boundOf; dsimp only; rw [if_pos (by omega), Int.toNat_natCast]) (by unfold boundOf; dsimp only; rw [if_pos (by omega), Int.toNat_natCast]) (fun _ => rfl) (by omega) (Nat.le_refl _) h] at h2
 injection h2 with h2
 rw [← h2, List.drop_take, show a + n - a = n by omega]
theorem piece_lv {b r : List Int} {i n : Int} (h : pieceS b i n = some r) : subV 1 (lv encB b) i.toNat n.toNat = lv encB r := by
 obtain ⟨h1, rfl⟩ := pieceS_iff.1 h
 exact subV_lv b _ _ (by omega)
theorem orF_congr {α : Type} {o : Option α} {f g : α → Value} (h : ∀ a, o = some a → f a = g a) (H : Heap) : orF o f H = orF o g H := by
 cases o with
 | none => rfl
 | some a => show Res.ok (f a) H = Res.ok (g a) H; rw [h a rfl]
abbrev vwB (b : List Int) : Value := .agg #[lv encB b]
theorem Cut_lv (k : Nat) (b : List Int) (i n : Int) (hl : b.length < 2 ^ 62) (H : Heap) : R (T k) F.view_View_Cut [vwB b, .int .i64 i, .int .i64 n] H = orF (pieceS b i n) vwB H :=
 (Cut_run k (Sl.lv H 1 b) i n hl).trans (orF_congr (fun r hr => by rw [piece_lv hr]) H)
theorem Rest_lv (k : Nat) (b : List Int) (i : Int) (hl : b.length < 2 ^ 62) (hi : i ≤ 9223372036854775807) (H : Heap) : R (T k) F.view_View_Rest [vwB b, .int .i64 i] H = orF (restS b i) vwB H :=
 (Rest_run k (Sl.lv H 1 b) i hl hi).trans (orF_congr (fun r hr => by rw [piece_lv (by rw [behind_piece b i hl hi]; exact hr)]) H)
theorem Rows_lv (k : Nat) (b : List Int) (i n s : Int) (hl : b.length < 2 ^ 62) (H : Heap) : R (T k) F.view_View_Rows [vwB b, .int .i64 i, .int .i64 n, .int .i64 s] H = orF (rowsS b i n s) vwB H :=
 (Rows_run k (Sl.lv H 1 b) i n s hl).trans (orF_congr (fun r hr => by rw [piece_lv (rowsS_piece hr)]) H)
theorem Of_lv (k : Nat) (b : List Int) (H : Heap) : R (T k) F.view_Of [lv encB b] H = .ok (vwB b) H := Of_run k (Sl.lv H 1 b)
theorem Bytes_run (k : Nat) {H : Heap} {v : Value} {b : List Int} (hv : Sl H 1 v encB b) (hl : b.length ≤ 2 ^ 30) : R (T k) F.view_View_Bytes [.agg #[v]] H = .ok (lv encB b) H := by
 rw [view_View_Bytes_R]
 have g := (Star.nil H).push ⟨[v], 1, false⟩
 have g := g.more_row (Ext.refl _) (OwnO.bare encB _ 1) (fun b hb => by cases hb)
 obtain ⟨s, o, H1, e1, g⟩ := g.append (bytes := 1) 1 encB_len rfl (b := v) (l2 := b) (lenL_lenV hv.lenL) ((hv.up g.ext).first encB_len) (by simp; omega) (by decide)
 simp only [List.nil_append, List.cons_append, List.set_cons_zero, List.set_cons_succ] at g
 obtain ⟨L, hf⟩ := (g.own 1 rfl).freeze encB_len (fun n _ v hv => by simp at hv; subst hv; trivial) 6
 refine nrm_fz (v := s) (H' := H1) ?_ hf g.ext (Flat.B b).alive
 simp -implicitDefEqProofs [view_View_Bytes, e1]
structure PTab where
 pairs : List Int
 vb : List Int
 rows : Option (Int × List Pt)
 cols : Option (Int × List Pt)
 step : Int
 size : Int
abbrev ptabC (t : PTab) : List Value := [lv encI t.pairs, lv encB t.vb, lookV t.rows, lookV t.cols, .int .i64 t.step, .int .i64 t.size]
abbrev ptabV (t : PTab) : Value := boxV (ptabC t).toArray
theorem Flat.ptab (t : PTab) : Flat (ptabV t) := .boxV (.cons (Flat.I _) (.cons (Flat.B _) (.cons (lookV_flat _) (.cons (lookV_flat _) (.cons (.int _ _) (.cons (.int _ _) .nil))))))
def upS : List Int → Bool
 | [] => true
 | [_] => true
 | a :: b :: l => decide (a < b) && upS (b :: l)
theorem upS_snoc (x : Int) : ∀ l : List Int, upS (l ++ [x]) = (upS l && match l.getLast? with | some y => decide (y < x) | none => true)
 | [] => rfl
 | [a] => by simp [upS]
 | a :: b :: l => by
  have ih := upS_snoc x (b :: l)
  simp only [List.cons_append] at ih ⊢
  simp only [upS, ih, List.getLast?_cons_cons, Bool.and_assoc]
def keysS (r : List Int) (n : Int) : List Int := (cutRows r 6 n.toNat).map fun q => num (q.take 4)
def pListS (b : List Int) : Option PTab :=
 (uS b 0 4).bind fun n => (pieceS b 0 16).bind fun _ => (rowsS b 16 n 6).bind fun r => if upS (keysS r n) then some ⟨keysS r n, r, none, none, 0, 2⟩ else none
def pTabS (b : List Int) (i g z step : Int) : Option PTab :=
 (uS b i 4).bind fun p => (restS b p).bind fun rb => (lookS rb g z).bind fun rows => (uS b (i + 4) 4).bind fun q => (restS b q).bind fun cb => (lookS cb g z).bind fun cols =>
 (uS b (i + 8) 4).bind fun o => (restS b o).bind fun vb => (pieceS vb (step * (max (mostS rows.2) 0 + max (mostS cols.2) 0)) z).map fun _ => ⟨[], vb, some rows, some cols, step, z⟩
def pTakeS (kind : Int) (b : List Int) (g : Int) : Option PTab :=
 if kind = 0 then pListS b else if kind = 2 then pTabS b 4 g 2 1 else if kind = 6 then (uS b 0 4).bind fun f => if f % 2 = 1 then pTabS b 8 g 4 4 else pTabS b 8 g 2 2 else none
theorem mostS_bound {ps : List Pt} (hok : ∀ p, p ∈ ps → p.ok) : -1 ≤ mostS ps ∧ mostS ps < 4294967296 := by
 have inner : ∀ (l : List Int) (m : Int), -1 ≤ m → m < 4294967296 → (∀ x, x ∈ l → 0 ≤ x ∧ x < 4294967296) → -1 ≤ l.foldl max m ∧ l.foldl max m < 4294967296 := by
  intro l
  induction l with
  | nil => intro m h0 h1 _; exact ⟨h0, h1⟩
  | cons x l ih => intro m h0 h1 h; have := h x (by simp); exact ih (max m x) (by omega) (by omega) fun y hy => h y (by simp [hy])
 have : ∀ (ps : List Pt) (m : Int), -1 ≤ m → m < 4294967296 → (∀ p, p ∈ ps → p.ok) → -1 ≤ ps.foldl (fun m p => p.vals.foldl max m) m ∧ ps.foldl (fun m p => p.vals.foldl max m) m < 4294967296 := by
  intro ps
  induction ps with
  | nil => intro m h0 h1 _; exact ⟨h0, h1⟩
  | cons p ps ih =>
   intro m h0 h1 h
   have := inner p.vals m h0 h1 (h p (by simp)).2.2.2.2.2
   exact ih _ this.1 this.2 fun q hq => h q (by simp [hq])
 exact this ps (-1) (by omega) (by omega) hok
theorem getS_most {ps : List Pt} {id x : Int} (h : getS ps id = some x) : x ≤ mostS ps := by
 have inner : ∀ (l : List Int) (m : Int), m ≤ l.foldl max m ∧ ∀ y, y ∈ l → y ≤ l.foldl max m := by
  intro l
  induction l with
  | nil => intro m; exact ⟨Int.le_refl _, fun y hy => by cases hy⟩
  | cons a l ih =>
   intro m
   have := ih (max m a)
   refine ⟨by simp only [List.foldl_cons]; omega, fun y hy => ?_⟩
   rcases List.mem_cons.1 hy with rfl | hy
   ·simp only [List.foldl_cons]; omega
   ·exact this.2 y hy
 have outer : ∀ (ps : List Pt) (m : Int), m ≤ ps.foldl (fun m p => p.vals.foldl max m) m ∧ ∀ p, p ∈ ps → ∀ y, y ∈ p.vals → y ≤ ps.foldl (fun m p => p.vals.foldl max m) m := by
  intro ps
  induction ps with
  | nil => intro m; exact ⟨Int.le_refl _, fun y hy => by cases hy⟩
  | cons p ps ih =>
   intro m
   have h1 := inner p.vals m
   have h2 := ih (p.vals.foldl max m)
   refine ⟨Int.le_trans h1.1 h2.1, fun q hq y hy => ?_⟩
   rcases List.mem_cons.1 hq with rfl | hq
   ·exact Int.le_trans (h1.2 y hy) h2.1
   ·exact h2.2 q hq y hy
 unfold getS at h
 obtain ⟨p, hp, h⟩ := Option.bind_eq_some_iff.1 h
 split at h
 ·exact (outer ps (-1)).2 p (List.mem_of_find?_eq_some hp) x (List.mem_of_getElem? h)
 ·cases h
theorem getS_nonneg {ps : List Pt} (hok : ∀ p, p ∈ ps → p.ok) {id x : Int} (h : getS ps id = some x) : 0 ≤ x := by
 unfold getS at h
 obtain ⟨p, hp, h⟩ := Option.bind_eq_some_iff.1 h
 split at h
 ·exact ((hok p (List.mem_of_find?_eq_some hp)).2.2.2.2.2 x (List.mem_of_getElem? h)).1
 ·cases h
theorem and1 (P : Program) (t : TypeId) (H : Heap) {a : Int} (h0 : 0 ≤ a) (h1 : a < 4294967296) : binR P .and t (.int .i64 a) (.int .i64 1) H = .ok (.int .i64 (a % 2)) H := by
 have e : (BitVec.ofInt 64 a &&& BitVec.ofInt 64 1).toNat = (a % 2).toNat := by
  rw [BitVec.toNat_and, BitVec.toNat_ofInt, BitVec.toNat_ofInt]
  rw [show ((1 : Int) % ((2 ^ 64 : Nat) : Int)).toNat = 2 ^ 1 - 1 from by decide, Nat.and_two_pow_sub_one_eq_mod]
  omega
 have e1 : binV P .and t (.int .i64 a) (.int .i64 1) = some (.int .i64 (IntKind.i64.wrap (BitVec.ofInt 64 a &&& BitVec.ofInt 64 1).toNat)) := rfl
 unfold binR
 rw [e1, e, show (((a % 2).toNat : Nat) : Int) = a % 2 by omega, wrap_i64 (by omega) (by omega)]
 rfl
theorem veq_Pt (l : List Pt) : veq (lv encPt l) (lv encPt l) = true := veq_lv fun p _ v hv => by
 simp [encPt] at hv
 rcases hv with rfl | rfl | rfl <;> simp
theorem veq_tab (x : Int × List Pt) : veq (boxV #[.int .i64 x.1, lv encPt x.2]) (boxV #[.int .i64 x.1, lv encPt x.2]) = true := veq_boxV (l := [.int .i64 x.1, lv encPt x.2]) fun v hv => by
 simp at hv
 rcases hv with rfl | rfl
 ·simp
 ·exact veq_Pt _
theorem orF_some' {α : Type} (a : α) (f : α → Value) (H : Heap) : orF (some a) f H = .ok (f a) H := rfl
theorem ptable_run (k : Nat) (b : List Int) (hb : Byt b) (i g z step : Int) (hi : i = 4 ∨ i = 8) (hg : 1 ≤ g ∧ g ≤ 65535) (hz : z = 2 ∨ z = 4) (hst : step = 1 ∨ step = 2 ∨ step = 4) (hl : b.length < 2 ^ 31) (H : Heap) :
  R (T k) F.pair_table [vwB b, .int .i64 i, .int .i64 g, .int .i64 z, .int .i64 step] H = orF (pTabS b i g z step) ptabV H := by
 rw [pair_table_R]
 have hx : Ext H ((H.push ⟨[lv encB b], 1, false⟩).push ⟨[.slice none 0 0, .slice none 0 0, .pointer none, .pointer none, .int .i64 step, .int .i64 z], 1, false⟩) := ((Ext.refl H).push _).push _
 have hU := fun j H' => U32_run k (Sl.lv H' 1 b) hb j (by omega)
 have hR := fun j hj H' => Rest_lv k b j (by omega) hj H'
 have hT := fun tb htb hl H' => lookTake_run k (Sl.lv H' 1 tb) htb g z hg.1 hg.2 hz hl
 refine fz_orF ?_ fun _ _ => (Flat.ptab _).alive
 simp -implicitDefEqProofs (disch := omega) [pair_table]
 unfold pTabS
 refine Cp.callT (hU i _) (fun _ => ⟨_, rfl, hx⟩) fun p hp => ?_
 have hp := uS_four hb hp
 refine Cp.callT (hR p (by omega) _) (fun _ => ⟨_, by simp -implicitDefEqProofs (disch := omega), hx⟩) fun rb hrb => ?_
 have lrb := restS_len hrb
 refine Cp.callT (hT rb (hb.rest hrb) (by omega) _) (fun _ => ⟨_, by simp -implicitDefEqProofs (disch := omega), hx⟩) fun rows hrows => ?_
 have ok1 := lookS_ok (hb.rest hrb) hg.1 hg.2 hz hrows
 have len1 := lookS_len (hb.rest hrb) hrows
 have hx2 : Ext H ((H.push ⟨[lv encB b], 1, false⟩).push ⟨[.slice none 0 0, .slice none 0 0, tabV rows, .pointer none, .int .i64 step, .int .i64 z], 1, false⟩) := ((Ext.refl H).push _).push _
 simp -implicitDefEqProofs (disch := omega)
 refine Cp.callT (hU (i + 4) _) (fun _ => ⟨_, rfl, hx2⟩) fun q hq => ?_
 have hq := uS_four hb hq
 refine Cp.callT (hR q (by omega) _) (fun _ => ⟨_, by simp -implicitDefEqProofs (disch := omega), hx2⟩) fun cb hcb => ?_
 have lcb := restS_len hcb
 refine Cp.callT (hT cb (hb.rest hcb) (by omega) _) (fun _ => ⟨_, by simp -implicitDefEqProofs (disch := omega), hx2⟩) fun cols hcols => ?_
 have ok2 := lookS_ok (hb.rest hcb) hg.1 hg.2 hz hcols
 have len2 := lookS_len (hb.rest hcb) hcols
 have hx3 : Ext H ((H.push ⟨[lv encB b], 1, false⟩).push ⟨[.slice none 0 0, .slice none 0 0, tabV rows, tabV cols, .int .i64 step, .int .i64 z], 1, false⟩) := ((Ext.refl H).push _).push _
 simp -implicitDefEqProofs (disch := omega)
 refine Cp.callT (hU (i + 8) _) (fun _ => ⟨_, rfl, hx3⟩) fun o ho => ?_
 have ho := uS_four hb ho
 refine Cp.callT (hR o (by omega) _) (fun _ => ⟨_, by simp -implicitDefEqProofs (disch := omega), hx3⟩) fun vb hvb => ?_
 have lvb := restS_len hvb
 have hx4 : Ext H ((H.push ⟨[lv encB b], 1, false⟩).push ⟨[.slice none 0 0, lv encB vb, tabV rows, tabV cols, .int .i64 step, .int .i64 z], 1, false⟩) := ((Ext.refl H).push _).push _
 have m1 := fun H' => Most_run k rows ok1.2.1 len1 H'
 have m2 := fun H' => Most_run k cols ok2.2.1 len2 H'
 have b1 := mostS_bound ok1.2.1
 have b2 := mostS_bound ok2.2.1
 obtain ⟨y1, hy1⟩ : ∃ y1, y1 = max (mostS rows.2) 0 := ⟨_, rfl⟩
 obtain ⟨y2, hy2⟩ : ∃ y2, y2 = max (mostS cols.2) 0 := ⟨_, rfl⟩
 have e1 : (if 0 > mostS rows.2 then 0 else mostS rows.2) = y1 := by rw [hy1]; split <;> omega
 have e2 : (if 0 > mostS cols.2 then 0 else mostS cols.2) = y2 := by rw [hy2]; split <;> omega
 rw [← hy1, ← hy2]
 have s0 : 0 ≤ step * (y1 + y2) := Int.mul_nonneg (by omega) (by omega)
 have s1 : step * (y1 + y2) ≤ 4 * 8589934592 := Int.mul_le_mul (by omega) (by omega) (by omega) (by omega)
 simp -implicitDefEqProofs (disch := omega)
 simp -implicitDefEqProofs (disch := omega) [m1, m2, e1, e2]
 have t2 := veq_tab cols
 simp -implicitDefEqProofs (disch := omega) [t2]
 refine Cp.callM (Cut_lv k vb (step * (y1 + y2)) z (by omega) _) hx4 fun r hr => ?_
 exact .ok hx4 ⟨_, fz_box (by omega) (get_push_eq _ _ _ (by simp)) (mapF_cons (v := .slice none 0 0) (u := lv encI []) (L1 := []) rfl (mapF_still (fun v hv => by
  simp at hv
  rcases hv with rfl | rfl | rfl | rfl | rfl <;> trivial)))⟩
theorem upS_take : ∀ (l : List Int) (m : Nat), upS l = true → upS (l.take m) = true
 | [], m, _ => by simp [upS]
 | [a], 0, _ => rfl
 | [a], m + 1, _ => by simp [upS]
 | a :: b :: l, 0, _ => rfl
 | a :: b :: l, 1, _ => rfl
 | a :: b :: l, m + 2, h => by
  simp only [upS, Bool.and_eq_true] at h
  have := upS_take (b :: l) (m + 1) h.2
  simp only [List.take_succ_cons] at this ⊢
  simp only [upS, h.1, this, Bool.and_self]
theorem keys_at {r : List Int} {n j : Nat} (hr : r.length = n * 6) (hj : j < n) : uS r (6 * (j : Int)) 4 = some (num ((((r.drop (6 * j)).take 6)).take 4)) := by
 have : 6 * j + 6 ≤ r.length := by omega
 unfold uS
 rw [pieceS, if_pos (by omega), show (6 * (j : Int)).toNat = 6 * j by omega, List.take_take]
 rfl
theorem plist_run (k : Nat) (b : List Int) (hb : Byt b) (hl : b.length < 2 ^ 31) (H : Heap) : R (T k) F.pair_list [vwB b] H = orF (pListS b) ptabV H := by
 rw [pair_list_R]
 have hx : Ext H (H.push ⟨[lv encB b], 1, false⟩) := (Ext.refl H).push _
 refine fz_orF ?_ fun _ _ => (Flat.ptab _).alive
 simp -implicitDefEqProofs (disch := omega) [pair_list]
 unfold pListS
 refine Cp.call (U32_run k (Sl.lv _ 1 b) hb 0 (by omega)) hx fun n hn => ?_
 simp -implicitDefEqProofs (disch := omega)
 refine Cp.call (Cut_lv k b 0 16 (by omega) _) hx fun c hc => ?_
 simp -implicitDefEqProofs (disch := omega)
 refine Cp.call (Rows_lv k b 16 n 6 (by omega) _) hx fun r hr => ?_
 have hn := rowsS_n hr
 have hrb := (hb.piece (rowsS_piece hr)).1
 have hrl := pieceS_len (rowsS_piece hr)
 obtain ⟨n, rfl⟩ := Int.eq_ofNat_of_zero_le hn.1
 have hrl : r.length = n * 6 := by exact_mod_cast hrl
 unfold keysS
 simp only [Int.toNat_natCast]
 obtain ⟨ks, hks⟩ : ∃ ks, ks = (cutRows r 6 n).map fun q => num (q.take 4) := ⟨_, rfl⟩
 rw [← hks]
 have hkl : ks.length = n := by rw [hks]; simp
 simp -implicitDefEqProofs (disch := omega)
 have g := (Star.nil H).rest hx
 have g := g.push ⟨[.slice none 0 0, lv encB r, .pointer none, .pointer none, .int .i64 0, .int .i64 2], 1, false⟩
 have g := g.more_row (Ext.refl _) (OwnO.nil encI _ 1) (fun b hb => by cases hb)
 simp only [List.cons_append, List.nil_append, hn_push] at g
 have hU := fun (j : Nat) (hj : j < n) H' => U32_run k (Sl.lv H' 1 r) hrb (6 * (j : Int)) (by omega)
 have hlp : Cp failV (Ext H) (loopN (pair_list_l1 k (R (T k))) loopFuel [(4, ptrV (H.n + 1)), (15, .int .i64 n), (16, .int .i64 0)] ((H.push ⟨[lv encB b], 1, false⟩).push ⟨[.slice none 0 0, lv encB r, .pointer none, .pointer none, .int .i64 0, .int .i64 2], 1, false⟩))
   (if upS ks = true then some () else none) fun _ xe H' => xe = (.exit 0, [(4, ptrV (H.n + 1)), (15, .int .i64 n), (16, .int .i64 n), (17, .bool false)]) ∧ ∃ s o, Star H H' [itBlk (H.n + 1) ⟨[s, lv encB r, .pointer none, .pointer none, .int .i64 0, .int .i64 2], 1, false⟩, itRow o 1 s encI ks] := by
  rcases loop_upP (body := pair_list_l1 k (R (T k))) n
   (fun j e H' => e = [(4, ptrV (H.n + 1)), (15, .int .i64 n), (16, .int .i64 j)] ∧ upS (ks.take j) = true ∧ ∃ s o, Star H H' [itBlk (H.n + 1) ⟨[s, lv encB r, .pointer none, .pointer none, .int .i64 0, .int .i64 2], 1, false⟩, itRow o 1 s encI (ks.take j)])
   (fun x e H' => x = .exit 0 ∧ e = [(4, ptrV (H.n + 1)), (15, .int .i64 n), (16, .int .i64 n), (17, .bool false)] ∧ upS ks = true ∧ ∃ s o, Star H H' [itBlk (H.n + 1) ⟨[s, lv encB r, .pointer none, .pointer none, .int .i64 0, .int .i64 2], 1, false⟩, itRow o 1 s encI ks])
   (fun v H' => v = failV ∧ Ext H H' ∧ upS ks = false)
   (fun j e H' hj ⟨he, hup, s, o, g⟩ => by
    subst he
    have hlt : (j : Int) < n := by omega
    have hM := g.get 0 rfl
    have hu := hU j hj
    simp only [keys_at hrl hj, orF_some'] at hu
    have hy : ks[j]? = some (num ((((r.drop (6 * j)).take 6)).take 4)) := by rw [hks, List.getElem?_map, cutRows_get _ _ _ _ hj]; rfl
    obtain ⟨y, hyd⟩ : ∃ y, y = num ((((r.drop (6 * j)).take 6)).take 4) := ⟨_, rfl⟩
    rw [← hyd] at hy hu
    have hvq := (g.row 1 rfl).veq
    have hne : ¬ H.n + 1 = H'.n := by have := Heap.get_lt hM; omega
    obtain ⟨s', o', H2, e2, g⟩ := g.append1 (bytes := 8) 1 encI_len rfl y (by simp; omega) (by decide)
    simp only [List.set_cons_zero, List.set_cons_succ] at g
    obtain ⟨H3, e3, g, _⟩ := g.stCell 0 rfl 0 (g.row 1 rfl).storable (g.row 1 rfl).cells (by simp)
    simp only [List.set_cons_zero, List.set_cons_succ] at g
    rw [← take_snoc hy] at g
    have hM3 := g.get 0 rfl
    simp only [encI] at e2
    have hups : upS (ks.take (j + 1)) = (upS (ks.take j) && match (ks.take j).getLast? with | some z => decide (z < y) | none => true) := by rw [take_snoc hy, upS_snoc]
    rw [hup, Bool.true_and] at hups
    cases j with
    | zero =>
     refine .inl ⟨_, H3, ?_, rfl, by simpa using hups, s', o', g⟩
     rw [pair_list_l1_eq]
     simp -implicitDefEqProofs (disch := omega) at hu hlt
     simp -implicitDefEqProofs (disch := omega) [-stR_ptr, hlt, hM, hu, hne, hvq, e2, e3]
    | succ i =>
     obtain ⟨x, hxi⟩ : ∃ x, ks[i]? = some x := ⟨_, List.getElem?_eq_getElem (by omega)⟩
     have hlast : (ks.take (i + 1)).getLast? = some x := by rw [take_snoc hxi]; simp
     rw [hlast] at hups
     dsimp only at hups
     obtain ⟨c, hc, hgc, i1⟩ := g.ix 1 rfl .i64 i (by simp; omega)
     obtain ⟨c2, hc2, hgc2, i2⟩ := g.ix 1 rfl .i64 (i + 1) (by simp; omega)
     have l1 := ld1_row encI_len hgc (i := i) (c := 0) (x := x) (by rw [List.getElem?_take, if_pos (by omega), hxi]) (by decide) rfl
     have l2 := ld1_row encI_len hgc2 (i := i + 1) (c := 0) (x := y) (by rw [List.getElem?_take, if_pos (by omega), hy]) (by decide) rfl
     simp -implicitDefEqProofs [-ld1_ptr] at i1 i2 l1 l2
     simp -implicitDefEqProofs (disch := omega) at hu hlt
     have hj0 : ((i : Int) + 1 == 0) = false := by simp; omega
     by_cases hxy : x < y
     ·refine .inl ⟨_, H3, ?_, rfl, by rw [hups]; simpa using hxy, s', o', g⟩
      rw [pair_list_l1_eq]
      simp -implicitDefEqProofs (disch := omega) [-stR_ptr, -ld1_ptr, ld1_ptr (H.n + 1), hlt, hM, hM3, hu, hne, hvq, e2, e3, hj0, i1, i2, l1, l2, hxy]
     ·refine .inr (.inr ⟨failV, H3, ?_, rfl, g.ext, ?_⟩)
      ·rw [pair_list_l1_eq]
       simp -implicitDefEqProofs (disch := omega) [-stR_ptr, -ld1_ptr, ld1_ptr (H.n + 1), hlt, hM, hM3, hu, hne, hvq, e2, e3, hj0, i1, i2, l1, l2, hxy]
      ·cases hall : upS ks with
       | false => rfl
       | true =>
        have := upS_take ks (i + 1 + 1) hall
        rw [hups] at this
        exact absurd (by simpa using this) hxy)
   (fun e H' ⟨he, hup, s, o, g⟩ => by
    subst he
    rw [List.take_of_length_le (by omega)] at hup g
    refine .inl ⟨.exit 0, _, H', ?_, by simp, rfl, rfl, hup, s, o, g⟩
    rw [pair_list_l1_eq]
    simp -implicitDefEqProofs) loopFuel 0 _ _ (Nat.zero_le _) (fuel_big (by omega)) ⟨rfl, rfl, .slice none 0 0, none, by simpa using g⟩ with ⟨x, e', H', h1, rfl, rfl, h2, s, o, g⟩ | ⟨v, H', h1, rfl, h2, h3⟩
  ·rw [if_pos h2]
   exact ⟨_, H', h1, g.ext, rfl, s, o, g⟩
  ·rw [if_neg (by simp [h3])]
   exact ⟨H', h1, h2⟩
 have e0 : (if upS ks = true then some (⟨ks, r, none, none, 0, 2⟩ : PTab) else none) = (if upS ks = true then some () else none).map fun _ => ⟨ks, r, none, none, 0, 2⟩ := by split <;> rfl
 rw [e0]
 refine Cp.bindM hlp ?_
 rintro ⟨⟩ ⟨x, e⟩ H' _ hx' ⟨he, s, o, g⟩
 obtain ⟨rfl, rfl⟩ := Prod.mk.inj he
 simp only [pair_list_l1k_x0]
 obtain ⟨L, hf⟩ := (g.own 1 rfl).freeze encI_len (encI_still _) 5
 exact .ok hx' ⟨_, fz_box (by omega) (g.get 0 rfl) (mapF_cons hf (mapF_still (fun v hv => by
  simp at hv
  rcases hv with rfl | rfl | rfl | rfl | rfl <;> trivial)))⟩
theorem pTake_run (k : Nat) (kind : Int) (b : List Int) (hb : Byt b) (g : Int) (hg : 1 ≤ g ∧ g ≤ 65535) (hl : b.length < 2 ^ 31) (H : Heap) : R (T k) F.pair_Take [.int .i64 kind, vwB b, .int .i64 g] H = orF (pTakeS kind b g) ptabV H := by
 rw [pair_Take_R]
 have hx : Ext H (H.push ⟨[lv encB b], 1, false⟩) := (Ext.refl H).push _
 have fzp : ∀ (t : PTab) (H' : Heap), ∃ L, fzV H.n H' fzDepth (ptabV t) = some (ptabV t, L) := fun t H' => ⟨[], rfl⟩
 refine fz_orF ?_ fun _ _ => (Flat.ptab _).alive
 unfold pTakeS
 by_cases h0 : kind = 0
 ·subst h0
  rw [if_pos rfl]
  simp -implicitDefEqProofs (disch := omega) [pair_Take]
  exact Cp.callL (plist_run k b hb hl _) hx fun t _ => .ok hx (fzp t _)
 rw [if_neg h0]
 have h0' : (kind == 0) = false := by simpa using h0
 by_cases h2 : kind = 2
 ·subst h2
  rw [if_pos rfl]
  simp -implicitDefEqProofs (disch := omega) [pair_Take]
  exact Cp.callL (ptable_run k b hb 4 g 2 1 (by omega) hg (by omega) (by omega) hl _) hx fun t _ => .ok hx (fzp t _)
 rw [if_neg h2]
 have h2' : (kind == 2) = false := by simpa using h2
 by_cases h6 : kind = 6
 ·subst h6
  rw [if_pos rfl]
  simp -implicitDefEqProofs (disch := omega) [pair_Take]
  refine Cp.call (U32_run k (Sl.lv _ 1 b) hb 0 (by omega)) hx fun f hf => ?_
  have hf := uS_four hb hf
  rw [and1 Prog 3 _ hf.1 hf.2]
  by_cases hodd : f % 2 = 1
  ·rw [if_pos hodd]
   simp -implicitDefEqProofs (disch := omega) [hodd]
   exact Cp.callL (ptable_run k b hb 8 g 4 4 (by omega) hg (by omega) (by omega) hl _) hx fun t _ => .ok hx (fzp t _)
  ·rw [if_neg hodd]
   have hodd' : (f % 2 == 1) = false := by simpa using hodd
   simp -implicitDefEqProofs (disch := omega) [hodd']
   exact Cp.callL (ptable_run k b hb 8 g 2 2 (by omega) hg (by omega) (by omega) hl _) hx fun t _ => .ok hx (fzp t _)
 rw [if_neg h6]
 have h6' : (kind == 6) = false := by simpa using h6
 simp -implicitDefEqProofs (disch := omega) [pair_Take, h0', h2', h6']
 exact .throw hx
def pV (o : Option PTab) : Value := match o with | some t => ptabV t | none => .pointer none
theorem pV_flat (o : Option PTab) : Flat (pV o) := by
 cases o with
 | none => exact .nilPtr
 | some t => exact Flat.ptab t
theorem pair_in1_run (k : Nat) {H : Heap} (kind : Int) (b : List Int) (hb : Byt b) (g : Int) (hg : 1 ≤ g ∧ g ≤ 65535) (hl : b.length < 2 ^ 31) (p1 p2 p3 p4 : Nat) (old : Value)
  (h1 : H.get p1 = some ⟨[.int .i64 kind], 1, false⟩) (h2 : H.get p2 = some ⟨[lv encB b], 1, false⟩) (h3 : H.get p3 = some ⟨[.int .i64 g], 1, false⟩) (h4 : H.get p4 = some ⟨[old], 1, false⟩) :
  R (T k) F.pair_Read_in1 [ptrV p1, ptrV p2, ptrV p3, ptrV p4] H = match pTakeS kind b g with
   | some t => .ok (.tuple #[]) (H.set p4 (some ⟨[ptabV t], 1, false⟩))
   | none => .panic failV H := by
 rw [pair_Read_in1_R]
 have ht := pTake_run k kind b hb g hg hl H
 cases h : pTakeS kind b g with
 | none =>
  rw [h] at ht
  refine nrm_throw ⟨H, ?_, Ext.refl H⟩ Flat.fail.alive
  simp -implicitDefEqProofs (disch := omega) [pair_Read_in1, h1, h2, h3, ht]
 | some x =>
  rw [h] at ht
  simp -implicitDefEqProofs (disch := omega) [pair_Read_in1, h1, h2, h3, h4, ht]
def badP (kind g : Int) : Bool := decide (g < 1) || decide (g > 65535) || (kind != 0 && kind != 2 && kind != 6)
def pairO (kind : Int) (b : List Int) (g : Int) : Option PTab := if badP kind g then none else pTakeS kind b g
def pairN (kind : Int) (b : List Int) (g : Int) : Int := if badP kind g then 1 else if (pTakeS kind b g).isSome then 0 else 2
theorem pRead_run (k : Nat) (kind : Int) {H : Heap} {v : Value} {b : List Int} (hv : Sl H 1 v encB b) (hb : Byt b) (g : Int) (hl : b.length ≤ 2 ^ 30) :
  R (T k) F.pair_Read [.int .i64 kind, v, .int .i64 g] H = .ok (.tuple #[pV (pairO kind b g), .int .i64 (pairN kind b g)]) H := by
 rw [pair_Read_R]
 have hx2 := ((Ext.refl H).push ⟨[.int .i64 kind], 1, false⟩).push ⟨[.int .i64 g], 1, false⟩
 have al : ∀ o n, Alive H (.tuple #[pV o, .int .i64 n]) := fun o n => (Flat.tupleL (l := [pV o, .int .i64 n]) (.cons (pV_flat o) (.cons (.int _ _) .nil))).alive
 have fz : ∀ H' o n, fzV H.n H' fzDepth (.tuple #[pV o, .int .i64 n]) = some (.tuple #[pV o, .int .i64 n], []) := fun H' o n => by
  cases o <;> rfl
 cases hbad : badP kind g with
 | true =>
  refine nrm_fz (H' := ((H.push ⟨[.int .i64 kind], 1, false⟩).push ⟨[.int .i64 g], 1, false⟩).push ⟨[.pointer none], 1, false⟩) (v := .tuple #[pV none, .int .i64 1]) ?_ (by unfold pairO pairN; rw [hbad]; exact fz _ _ _) (hx2.push _) (al _ _)
  unfold badP at hbad
  by_cases c1 : g < 1
  ·simp -implicitDefEqProofs (disch := omega) [pair_Read, c1, pV]
  ·by_cases c2 : g > 65535
   ·simp -implicitDefEqProofs (disch := omega) [pair_Read, c1, c2, pV]
   ·have c3 : (kind == 0) = false ∧ (kind == 2) = false ∧ (kind == 6) = false := by simp [c1, c2] at hbad; simp; omega
    simp -implicitDefEqProofs (disch := omega) [pair_Read, c1, c2, bne, c3.1, c3.2.1, c3.2.2, pV]
 | false =>
  have hgg : (1 ≤ g ∧ g ≤ 65535) ∧ (kind = 0 ∨ kind = 2 ∨ kind = 6) := by unfold badP at hbad; simp at hbad; omega
  have c1 : ¬ g < 1 := by omega
  have c2 : ¬ g > 65535 := by omega
  have hx3 := hx2.push ⟨[.pointer none], 1, false⟩
  have hof := fun H' (hx : Ext H H') => Of_run k (hv.up hx)
  have o3 := hof _ hx3
  have by3 := Bytes_run k (hv.up hx3) hl
  have o4 := fun H => Of_lv k b H
  have hin := pair_in1_run k (H := (((H.push ⟨[.int .i64 kind], 1, false⟩).push ⟨[.int .i64 g], 1, false⟩).push ⟨[.pointer none], 1, false⟩).push ⟨[lv encB b], 1, false⟩) kind b hb g hgg.1 (by omega) H.n (H.n + 3) (H.n + 1) (H.n + 2) (.pointer none) (by simp) (by simp) (by simp) (by simp)
  cases hlk : pTakeS kind b g with
  | none =>
   rw [hlk] at hin
   have ht := Try_no k F.pair_Read_in1 #[ptrV H.n, ptrV (H.n + 3), ptrV (H.n + 1), ptrV (H.n + 2)] hin
   refine nrm_fz (H' := (((H.push ⟨[.int .i64 kind], 1, false⟩).push ⟨[.int .i64 g], 1, false⟩).push ⟨[.pointer none], 1, false⟩).push ⟨[lv encB b], 1, false⟩) (v := .tuple #[pV none, .int .i64 2]) ?_ (by unfold pairO pairN; rw [hbad, hlk]; exact fz _ _ _) (hx3.push _) (al _ _)
   rcases hgg.2 with rfl | rfl | rfl <;> simp -implicitDefEqProofs (disch := omega) [pair_Read, c1, c2, bne, o3, by3, o4, ht, pV]
  | some x =>
   rw [hlk] at hin
   have ht := Try_ok k F.pair_Read_in1 #[ptrV H.n, ptrV (H.n + 3), ptrV (H.n + 1), ptrV (H.n + 2)] hin
   refine nrm_fz (H' := (((H.push ⟨[.int .i64 kind], 1, false⟩).push ⟨[.int .i64 g], 1, false⟩).push ⟨[ptabV x], 1, false⟩).push ⟨[lv encB b], 1, false⟩) (v := .tuple #[pV (some x), .int .i64 0]) ?_ (by unfold pairO pairN; rw [hbad, hlk]; exact fz _ _ _) ((hx2.push _).push _) (al _ _)
   simp at ht
   rcases hgg.2 with rfl | rfl | rfl <;> simp -implicitDefEqProofs (disch := omega) [pair_Read, c1, c2, bne, o3, by3, o4, ht, pV]
end Go.Sw
end
section
set_option maxRecDepth 100000
set_option linter.unusedVariables false
namespace Go.Sw
noncomputable section
end
end Go.Sw
end
section
namespace Go.Sw
open Go.RowKit
theorem inS_piece {b : List Int} {i n : Int} : (pieceS b i n).isSome = inS b.length i n := by
 unfold pieceS inS
 split
 ·rename_i h; rw [decide_eq_true h]; rfl
 ·rename_i h; rw [decide_eq_false h]; rfl
end Go.Sw
end
section
set_option maxRecDepth 100000
set_option linter.unusedVariables false
namespace Go.Sw
noncomputable section
end
end Go.Sw
end
section
namespace Go.Sw
open Go.RowKit
end Go.Sw
end
section
namespace Go.Sw
open Go.RowKit
end Go.Sw
end
section
namespace Go.Sw
open Go.RowKit
def RP.ok (r : RP) : Prop := -1 ≤ r.first ∧ r.first ≤ 65536 ∧ -1 ≤ r.last ∧ r.last ≤ 65536 ∧ -1 ≤ r.pos ∧ r.pos < 2 ^ 35 ∧ 0 ≤ r.step ∧ r.step ≤ 4 ∧ 0 ≤ r.size ∧ r.size ≤ 4
end Go.Sw
end
section
namespace Go.Sw
open Go.RowKit
def placeS (l : List Int) (x : Int) : Option Nat := l.findIdx? fun y => decide (y = x)
theorem upS_get : ∀ {l : List Int}, upS l = true → ∀ (i j : Nat) (a b : Int), i < j → l[i]? = some a → l[j]? = some b → a < b
 | [], _, i, j, a, b, _, h, _ => by simp at h
 | [_], _, i, j, a, b, hij, ha, hb => by
  have := (List.getElem?_eq_some_iff.1 hb).1
  simp at this; omega
 | x :: y :: l, h, i, j, a, b, hij, ha, hb => by
  simp only [upS, Bool.and_eq_true, decide_eq_true_eq] at h
  obtain ⟨j, rfl⟩ : ∃ j', j = j' + 1 := ⟨j - 1, by omega⟩
  have hb : (y :: l)[j]? = some b := by simpa using hb
  cases i with
  | succ i => exact upS_get h.2 i j a b (by omega) (by simpa using ha) hb
  | zero =>
   simp at ha
   subst ha
   cases j with
   | zero => simp at hb; subst hb; exact h.1
   | succ j => have := upS_get h.2 0 (j + 1) y b (by omega) (by simp) hb; omega
theorem placeS_at {l : List Int} {x : Int} {i : Nat} (h : l[i]? = some x) (hup : upS l = true) : placeS l x = some i := by
 unfold placeS
 obtain ⟨hi, hg⟩ := List.getElem?_eq_some_iff.1 h
 rw [List.findIdx?_eq_some_iff_getElem]
 refine ⟨hi, by simpa using hg, fun j hj => ?_⟩
 have hjl : j < l.length := by omega
 have := upS_get hup j i l[j] x hj (List.getElem?_eq_getElem hjl) h
 simp; omega
theorem placeS_none {l : List Int} {x : Int} (h : ∀ y, y ∈ l → y ≠ x) : placeS l x = none := by
 unfold placeS
 rw [List.findIdx?_eq_none_iff]
 intro y hy
 simpa using h y hy
theorem Place_in1_run (k : Nat) {H : Heap} (l : List Int) (x : Int) (p1 p2 : Nat) (h1 : H.get p1 = some ⟨[lv encI l], 1, false⟩) (h2 : H.get p2 = some ⟨[.int .i64 x], 1, false⟩) (j : Nat) (y : Int) (hj : l[j]? = some y) :
  R (T k) F.seek_Place_in1 [.int .i64 j, ptrV p1, ptrV p2] H = .ok (.bool (decide (x ≤ y))) H := by
 rw [seek_Place_in1_R]
 refine nrm_gc (Pure.of ?_) (.bool _)
 have i1 := fun H' => ixS_lvN encI_len l .i64 j y hj H'
 simp -implicitDefEqProofs (disch := omega) [seek_Place_in1, h1, h2, i1]
theorem Place_run (k : Nat) (l : List Int) (hup : upS l = true) (hl : l.length < 2 ^ 31) (x : Int) (H : Heap) :
  R (T k) F.seek_Place [lv encI l, .int .i64 x] H = .ok (.tuple #[.int .i64 (((placeS l x).getD 0 : Nat) : Int), .bool (placeS l x).isSome]) H := by
 rw [seek_Place_R]
 have hx : Ext H ((H.push ⟨[lv encI l], 1, false⟩).push ⟨[.int .i64 x], 1, false⟩) := ((Ext.refl H).push _).push _
 have fl : ∀ (n : Int) b, Flat (.tuple #[.int .i64 n, .bool b]) := fun n b => .tupleL (.cons (.int _ _) (.cons (.bool _) .nil))
 have hmono : ∀ i j : Nat, i ≤ j → j < l.length → (l[i]?).elim false (fun y => decide (x ≤ y)) = true → (l[j]?).elim false (fun y => decide (x ≤ y)) = true := by
  intro i j hij hj hi
  by_cases he : i = j
  ·subst he; exact hi
  ·obtain ⟨p, hp⟩ : ∃ p, l[i]? = some p := ⟨_, List.getElem?_eq_getElem (by omega)⟩
   obtain ⟨q, hq⟩ : ∃ q, l[j]? = some q := ⟨_, List.getElem?_eq_getElem hj⟩
   have := upS_get hup i j p q (by omega) hp hq
   rw [hp] at hi
   rw [hq]
   simp at hi ⊢
   omega
 obtain ⟨i, hfi⟩ := isFirst_ex l.length (fun j => (l[j]?).elim false fun y => decide (x ≤ y)) hmono
 have hfirst := First_run k l.length (.func (.func F.seek_Place_in1) #[] #[ptrV H.n, ptrV (H.n + 1)]) (fun j => (l[j]?).elim false fun y => decide (x ≤ y)) ((H.push ⟨[lv encI l], 1, false⟩).push ⟨[.int .i64 x], 1, false⟩) (by omega)
  (fun j hj => by
   obtain ⟨y, hy⟩ : ∃ y, l[j]? = some y := ⟨_, List.getElem?_eq_getElem hj⟩
   have := Place_in1_run k (H := (H.push ⟨[lv encI l], 1, false⟩).push ⟨[.int .i64 x], 1, false⟩) l x H.n (H.n + 1) (by simp) (by simp) j y hy
   simp only [callV, List.nil_append, List.cons_append]
   rw [hy]
   simpa using this)
  hmono i hfi
 by_cases hil : i < l.length
 ·obtain ⟨y, hy⟩ : ∃ y, l[i]? = some y := ⟨_, List.getElem?_eq_getElem hil⟩
  have hne : ((i : Int) == (l.length : Int)) = false := by simp; omega
  have i1 := fun H' => ixS_lvN encI_len l .i64 i y hy H'
  have hxy : x ≤ y := by
   have := hfi.2.2 i (Nat.le_refl _) hil
   simp only [hy] at this
   simpa using this
  by_cases he : y = x
  ·subst he
   rw [placeS_at hy hup]
   refine nrm_gc ⟨_, ?_, hx⟩ (fl _ _).alive
   simp -implicitDefEqProofs (disch := omega) [seek_Place, hfirst, hne, i1, bne]
  ·have hno : placeS l x = none := placeS_none fun z hz e => by
    subst e
    obtain ⟨j, hj⟩ := List.getElem?_of_mem hz
    have hjl := (List.getElem?_eq_some_iff.1 hj).1
    by_cases hji : j < i
    ·have := hfi.2.1 j hji
     simp [hj] at this
    ·by_cases hji2 : j = i
     ·subst hji2; rw [hj] at hy; injection hy with hy; exact he hy.symm
     ·have := upS_get hup i j y z (by omega) hy hj; omega
   rw [hno]
   have he' : (y == x) = false := by simpa using he
   refine nrm_gc ⟨_, ?_, hx⟩ (fl _ _).alive
   simp -implicitDefEqProofs (disch := omega) [seek_Place, hfirst, hne, i1, bne, he']
 ·have hie : i = l.length := by have := hfi.1; omega
  have hno : placeS l x = none := placeS_none fun z hz e => by
   subst e
   obtain ⟨j, hj⟩ := List.getElem?_of_mem hz
   have hjl := (List.getElem?_eq_some_iff.1 hj).1
   have := hfi.2.1 j (by omega)
   simp [hj] at this
  rw [hno]
  subst hie
  refine nrm_gc ⟨_, ?_, hx⟩ (fl _ _).alive
  simp -implicitDefEqProofs (disch := omega) [seek_Place, hfirst, bne]
structure PTab.ok (t : PTab) : Prop where
 byt : Byt t.vb
 len : t.vb.length < 2 ^ 31
 body : (t.rows = none ∧ t.cols = none ∧ t.size = 2 ∧ t.vb.length = t.pairs.length * 6 ∧ upS t.pairs = true ∧ t.pairs.length < 2 ^ 31) ∨
  ∃ r c, t.rows = some r ∧ t.cols = some c ∧ ((∀ p, p ∈ r.2 → p.ok) ∧ risesS r.2 = true ∧ r.2.length < 2 ^ 31) ∧ ((∀ p, p ∈ c.2 → p.ok) ∧ risesS c.2 = true ∧ c.2.length < 2 ^ 31) ∧
   (t.size = 2 ∨ t.size = 4) ∧ (t.step = 1 ∨ t.step = 2 ∨ t.step = 4) ∧ (pieceS t.vb (t.step * (max (mostS r.2) 0 + max (mostS c.2) 0)) t.size).isSome = true
theorem pListS_ok {b : List Int} (hb : Byt b) (hl : b.length < 2 ^ 31) {t : PTab} (h : pListS b = some t) : t.ok := by
 unfold pListS at h
 obtain ⟨n, _, h⟩ := Option.bind_eq_some_iff.1 h
 obtain ⟨c, _, h⟩ := Option.bind_eq_some_iff.1 h
 obtain ⟨r, hr, h⟩ := Option.bind_eq_some_iff.1 h
 split at h
 ·rename_i hup
  injection h with h
  subst h
  have hn := rowsS_n hr
  have hrl := pieceS_len (rowsS_piece hr)
  have hkl : (keysS r n).length = n.toNat := by unfold keysS; simp
  exact ⟨(hb.piece (rowsS_piece hr)).1, by dsimp only; omega, .inl ⟨rfl, rfl, rfl, by dsimp only; omega, hup, by dsimp only; omega⟩⟩
 ·cases h
def pvalS (t : PTab) (i : Int) : Int := if t.size = 4 then s32 (gU t.vb i 4) else s16 (gU t.vb i 2)
def pgetS (t : PTab) (l r : Int) : Int :=
 match t.rows, t.cols with
 | some a, some c => pvalS t (t.step * ((getS a.2 l).getD 0 + (getS c.2 r).getD 0))
 | _, _ => if l < 0 ∨ l > 65535 ∨ r < 0 ∨ r > 65535 then 0 else match placeS t.pairs (l * 65536 + r) with | some i => pvalS t (6 * (i : Int) + 4) | none => 0
theorem pval_run (k : Nat) (t : PTab) (hb : Byt t.vb) (hl : t.vb.length < 2 ^ 31) (hz : t.size = 2 ∨ t.size = 4) (i : Int) (h : (pieceS t.vb i t.size).isSome = true) (H : Heap) : R (T k) F.pair_Table_value [ptabV t, .int .i64 i] H = .ok (.int .i64 (pvalS t i)) H := by
 rw [pair_Table_value_R]
 refine nrm_gc (Pure.of ?_) (.int _ _)
 obtain ⟨r, hr⟩ := Option.isSome_iff_exists.1 h
 unfold pvalS
 rcases hz with hz | hz
 ·rw [hz] at hr ⊢
  have hu : uS t.vb i 2 = some (num r) := by unfold uS; rw [hr]; rfl
  have h16 := I16_run k (Sl.lv H 1 t.vb) hb i (by omega)
  rw [hu, Option.map_some, orF_some'] at h16
  rw [gU_some hu]
  simp -implicitDefEqProofs (disch := omega) [pair_Table_value, hz, h16]
 ·rw [hz] at hr ⊢
  have hu : uS t.vb i 4 = some (num r) := by unfold uS; rw [hr]; rfl
  have h32 := I32_run k (Sl.lv H 1 t.vb) hb i (by omega)
  rw [hu, Option.map_some, orF_some'] at h32
  rw [gU_some hu]
  simp -implicitDefEqProofs (disch := omega) [pair_Table_value, hz, h32]
theorem piece_less {vb : List Int} {i j z : Int} (h0 : 0 ≤ i) (hij : i ≤ j) (h : (pieceS vb j z).isSome = true) : (pieceS vb i z).isSome = true := by
 rw [inS_piece] at h ⊢
 unfold inS at h ⊢
 rw [decide_eq_true_eq] at h ⊢
 omega
theorem pGet_run (k : Nat) (t : PTab) (ht : t.ok) (l r : Int) (H : Heap) : R (T k) F.pair_Table_Get [ptabV t, .int .i64 l, .int .i64 r] H = .ok (.int .i64 (pgetS t l r)) H := by
 rw [pair_Table_Get_R]
 refine nrm_gc (Pure.of ?_) (.int _ _)
 have hval := fun hz i h H => pval_run k t ht.byt ht.len hz i h H
 obtain ⟨pairs, vb, rows, cols, step, size⟩ := t
 obtain ⟨hb, hl, hbody⟩ := ht
 dsimp only at hb hl hbody hval
 rcases hbody with ⟨rfl, rfl, hz, hvl, hup, hpl⟩ | ⟨a, c, rfl, rfl, ha, hc, hz, hst, hp⟩
 ·unfold pgetS
  dsimp only
  by_cases c1 : l < 0
  ·rw [if_pos (.inl c1)]
   simp -implicitDefEqProofs (disch := omega) [pair_Table_Get, lookV, c1]
  by_cases c2 : l > 65535
  ·rw [if_pos (.inr (.inl c2))]
   simp -implicitDefEqProofs (disch := omega) [pair_Table_Get, lookV, c1, c2]
  by_cases c3 : r < 0
  ·rw [if_pos (.inr (.inr (.inl c3)))]
   simp -implicitDefEqProofs (disch := omega) [pair_Table_Get, lookV, c1, c2, c3]
  by_cases c4 : r > 65535
  ·rw [if_pos (.inr (.inr (.inr c4)))]
   simp -implicitDefEqProofs (disch := omega) [pair_Table_Get, lookV, c1, c2, c3, c4]
  rw [if_neg (by omega)]
  have hor := fun H => bin_or Prog 3 H (l * 65536) r 16 (by omega) (by omega) (by omega) (by omega) (by omega)
  have hpl2 := fun H => Place_run k pairs hup hpl (l * 65536 + r) H
  cases hpp : placeS pairs (l * 65536 + r) with
  | none =>
   rw [hpp] at hpl2
   simp at hpl2
   simp -implicitDefEqProofs (disch := omega) [pair_Table_Get, lookV, c1, c2, c3, c4, hor, hpl2]
  | some i =>
   rw [hpp] at hpl2
   simp at hpl2
   have hi : i < pairs.length := by
    unfold placeS at hpp
    obtain ⟨h, _⟩ := List.findIdx?_eq_some_iff_getElem.1 hpp
    exact h
   have hv := fun H => hval (.inl hz) (6 * (i : Int) + 4) (by rw [hz, inS_piece]; unfold inS; rw [decide_eq_true_eq]; omega) H
   simp -implicitDefEqProofs (disch := omega) [pair_Table_Get, lookV, c1, c2, c3, c4, hor, hpl2, hv]
 ·have g1 := fun H => Get_run k a ha.1 ha.2.1 l ha.2.2 H
  have g2 := fun H => Get_run k c hc.1 hc.2.1 r hc.2.2 H
  unfold pgetS
  dsimp only
  have b1 := mostS_bound ha.1
  have b2 := mostS_bound hc.1
  have x1 : 0 ≤ (getS a.2 l).getD 0 ∧ (getS a.2 l).getD 0 ≤ max (mostS a.2) 0 := by
   cases h : getS a.2 l with
   | none => simp; omega
   | some x => have := getS_most h; have := getS_nonneg ha.1 h; simp; omega
  have x2 : 0 ≤ (getS c.2 r).getD 0 ∧ (getS c.2 r).getD 0 ≤ max (mostS c.2) 0 := by
   cases h : getS c.2 r with
   | none => simp; omega
   | some x => have := getS_most h; have := getS_nonneg hc.1 h; simp; omega
  generalize (getS a.2 l).getD 0 = u at g1 x1 ⊢
  generalize (getS c.2 r).getD 0 = v at g2 x2 ⊢
  have s0 : 0 ≤ step * (u + v) := Int.mul_nonneg (by omega) (by omega)
  have s1 : step * (u + v) ≤ step * (max (mostS a.2) 0 + max (mostS c.2) 0) := Int.mul_le_mul_of_nonneg_left (by omega) (by omega)
  have s2 : step * (u + v) ≤ 4 * 8589934592 := Int.mul_le_mul (by omega) (by omega) (by omega) (by omega)
  have hv := fun H => hval hz (step * (u + v)) (piece_less s0 s1 hp) H
  simp -implicitDefEqProofs (disch := omega) [pair_Table_Get, lookV, g1, g2, hv]
end Go.Sw
end
section
set_option maxRecDepth 100000
set_option linter.unusedVariables false
namespace Go.Sw
noncomputable section
def swashlaw22_Write_l1 (k : Nat) (call : Caller) : Env → Heap → Res (AExit × Env) := loopB (C k) call F.swashlaw22_Write [1, 1, 0, 1, 0, 0]
def swashlaw22_Write_l1k (k : Nat) (call : Caller) : Kont Value := kBlock 0 (kSeq (pieceK (C k) call F.swashlaw22_Write [1, 1, 1]) (kDone Prog (resOf Prog F.swashlaw22_Write)))
def swashlaw22_Write (k : Nat) (call : Caller) (a0 : Value) (h : Heap) : Res Value :=
 (builtinV Prog .len [149] [a0] h).bind fun v1 h2 =>
 (call F.swashref02_Put [(.slice none 0 0), v1, (.int .i64 4)] h2).bind fun v3 h4 =>
 (builtinV Prog .append [22, 3] [v3, (.int .i64 12)] h4).bind fun v5 h6 =>
 (builtinV Prog .len [149] [a0] h6).bind fun v7 h8 =>
 (loopN (swashlaw22_Write_l1 k call) loopFuel [(3, v5), (10, a0), (11, v7), (12, (.int .i64 0))] h8).bind fun r9 h10 =>
 swashlaw22_Write_l1k k call r9.1 r9.2 h10
theorem swashlaw22_Write_R (k : Nat) (a0 : Value) (h : Heap) : R (T k) F.swashlaw22_Write [a0] h = nrm .fz h (swashlaw22_Write k (R (T k)) a0 h) :=
 (R_body (t := T k) (T_scott k) (by kernel_rfl) (by kernel_rfl) _ _).trans (by kernel_rfl)
theorem swashlaw22_Write_l1_eq (k : Nat) (call : Caller) (a3 a10 a11 a12 : Value) (h : Heap) : swashlaw22_Write_l1 k call [(3, a3), (10, a10), (11, a11), (12, a12)] h =
 (binR Prog .lss 3 a12 a11 h).bind fun v11 h12 =>
 condV (some v11) (
 (indexAddrR Prog 149 a10 a12 h12).bind fun v13 h14 =>
 (loadR Prog 156 v13 h14).bind fun v15 h16 =>
 (allocR Prog 156 h16).bind fun v17 h18 =>
 (storeR Prog 156 v17 v15 h18).bind fun _v19 h20 =>
 (fieldAddrR Prog 156 v17 0 h20).bindN fun v21 h22 =>
 (loadR Prog 154 v21 h22).bindN fun v23 h24 =>
 (convR Prog 154 3 v23 h24).bindN fun v25 h26 =>
 (call F.swashref02_Put [a3, v25, (.int .i64 2)] h26).bindT (fun p29 h30 => (fieldAddrR Prog 156 v17 1 h26).bindN fun v31 h32 => (loadR Prog 154 v31 h32).bindN fun v33 h34 => (convR Prog 154 3 v33 h34).bindN fun v35 h36 => (fieldAddrR Prog 156 v17 2 h36).bindN fun v37 h38 => (loadR Prog 88 v37 h38).bindN fun v39 h40 => (convR Prog 88 154 v39 h40).bindN fun v41 h42 => (convR Prog 154 3 v41 h42).bindN fun v43 h44 => chkR ((okVal (loadR Prog 154 v31 h20) v33 && true) && ((okVal (loadR Prog 88 v37 h20) v39 && true) && true)) (.panic p29 h30)) fun v27 h28 =>
 (fieldAddrR Prog 156 v17 1 h28).bindN fun v45 h46 =>
 (loadR Prog 154 v45 h46).bindN fun v47 h48 =>
 (convR Prog 154 3 v47 h48).bindN fun v49 h50 =>
 (call F.swashref02_Put [v27, v49, (.int .i64 2)] h50).bindT (fun p53 h54 => (fieldAddrR Prog 156 v17 2 h50).bindN fun v55 h56 => (loadR Prog 88 v55 h56).bindN fun v57 h58 => (convR Prog 88 154 v57 h58).bindN fun v59 h60 => (convR Prog 154 3 v59 h60).bindN fun v61 h62 => chkR ((okVal (loadR Prog 154 v45 h20) v47 && true) && ((okVal (loadR Prog 88 v55 h20) v57 && (okVal (loadR Prog 88 v55 h28) v57 && true)) && true)) (.panic p53 h54)) fun v51 h52 =>
 (fieldAddrR Prog 156 v17 2 h52).bindN fun v63 h64 =>
 (loadR Prog 88 v63 h64).bindN fun v65 h66 =>
 (convR Prog 88 154 v65 h66).bindN fun v67 h68 =>
 (convR Prog 154 3 v67 h68).bindN fun v69 h70 =>
 (call F.swashref02_Put [v51, v69, (.int .i64 2)] h70).bindT (fun p73 h74 => chkR ((okVal (loadR Prog 154 v45 h20) v47 && true) && ((okVal (loadR Prog 88 v63 h20) v65 && (okVal (loadR Prog 88 v63 h28) v65 && true)) && true)) (.panic p73 h74)) fun v71 h72 =>
 chkR ((okVal (loadR Prog 154 v45 h20) v47 && true) && ((okVal (loadR Prog 88 v63 h20) v65 && (okVal (loadR Prog 88 v63 h28) v65 && true)) && true)) (
 (binR Prog .add 3 a12 (.int .i64 1) h72).bind fun v75 h76 =>
 .ok (.normal, [(3, v71), (10, a10), (11, a11), (12, v75)]) h76))
 (
 .ok ((.exit 0), [(3, a3), (10, a10), (11, a11), (12, a12), (13, v11)]) h12) :=
 (loopB_eq _ _).trans (by kernel_rfl)
theorem swashlaw22_Write_l1k_x0 (k : Nat) (call : Caller) (a3 a10 a11 a12 a13 : Value) (h : Heap) : swashlaw22_Write_l1k k call (.exit 0) [(3, a3), (10, a10), (11, a11), (12, a12), (13, a13)] h =
 .ok a3 h := by kernel_rfl
end
end Go.Sw
end
section
namespace Go.Sw
theorem wf_u8 {n : Int} (h : (Lit.int .u8 n).wf = true) : 0 ≤ n ∧ n < 256 := by
 simp [Lit.wf, IntKind.min, IntKind.max, IntKind.signed, IntKind.bits] at h
 omega
theorem wf_u16 {n : Int} (h : (Lit.int .u16 n).wf = true) : 0 ≤ n ∧ n < 65536 := by
 simp [Lit.wf, IntKind.min, IntKind.max, IntKind.signed, IntKind.bits] at h
 omega
theorem row_B {r : List Da} {cs : List Value} (h : LayRow [.int .u8] r cs) : ∃ n : Int, cs = encB n ∧ (0 ≤ n ∧ n < 256) := by
 obtain ⟨d, v, ds, vs, rfl, h1, h2⟩ := h.head
 obtain rfl := h2.done
 obtain ⟨n, rfl, w⟩ := h1.intv
 exact ⟨n, rfl, wf_u8 w⟩
theorem arg_B {v : Value} (h : ArgLay (.one (.slice [.int .u8])) v) : ∃ b, v = lv encB b ∧ Byt b := by
 obtain ⟨d, h1⟩ := h.cell
 obtain ⟨b, rfl, hb⟩ := Lay.list (enc := encB) (ok := fun n => 0 ≤ n ∧ n < 256) (fun r cs h => row_B h) h1
 exact ⟨b, rfl, hb⟩
end Go.Sw
end
section
namespace Go.Sw
open Go.RowKit
end Go.Sw
end
