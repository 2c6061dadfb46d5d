/-
  Lookups: a glyph's number; the greatest one.
-/
import Derived.Test.YtnaodjnimkndbaaSwLookE
namespace Go.Sw
open Go.RowKit

theorem at_run (k : Nat) (p : Pt) (hp : p.ok) (id : Int) (hf : p.first ≤ id) (hi : id ≤ p.last) (H : Heap) : R (T k) F.lookup_part_at [.agg #[.int .i64 p.first, .int .i64 p.last, lv encI p.vals], .int .i64 id] H = .ok (.int .i64 ((p.num id).getD 0)) H := by
  rw [lookup_part_at_R]
  obtain ⟨x, hx, _⟩ := Pt.num_some hp hf
  obtain ⟨h1, h2, h3, h4, h5, h6⟩ := hp
  have hl : 0 < p.vals.length := List.length_pos_iff.2 h4
  refine nrm_gc ⟨_, ?_, (Ext.refl H).push ⟨[.int .i64 p.first, .int .i64 p.last, lv encI p.vals], 1, false⟩⟩ (.int _ _)
  unfold Pt.num at hx ⊢
  obtain ⟨m, hm⟩ : ∃ m : Int, m = (if (p.vals.length : Int) - 1 < id - p.first then (p.vals.length : Int) - 1 else id - p.first) := ⟨_, rfl⟩
  have hm2 : min (id - p.first) ((p.vals.length : Int) - 1) = m := by rw [hm]; split <;> omega
  rw [hm2] at hx ⊢
  have hm0 : 0 ≤ m := by rw [hm]; split <;> omega
  have hix := fun H' => ixS_lv encI_len p.vals .i64 m x hm0 hx H'
  simp only [hx, Option.getD_some]
  simp -implicitDefEqProofs (disch := omega) [lookup_part_at, ← hm, hix]

theorem Get_in1_run (k : Nat) {H : Heap} (x : Int × List Pt) (id : Int) (p1 p2 : Nat) (h1 : H.get p1 = some ⟨[tabV x], 1, false⟩) (h2 : H.get p2 = some ⟨[.int .i64 id], 1, false⟩) (j : Nat) (p : Pt) (hj : x.2[j]? = some p) :
    R (T k) F.lookup_Table_Get_in1 [.int .i64 j, .pointer (some ⟨p1, 0, none⟩), .pointer (some ⟨p2, 0, none⟩)] H = .ok (.bool (decide (id ≤ p.last))) H := by
  rw [lookup_Table_Get_in1_R]
  refine nrm_gc (Pure.of ?_) (.bool _)
  have i1 := fun H' => ixS_lvN encPt_len x.2 .i64 j p hj H'
  simp -implicitDefEqProofs (disch := omega) [lookup_Table_Get_in1, h1, h2, i1]

theorem Get_run (k : Nat) (x : Int × List Pt) (hok : ∀ p, p ∈ x.2 → p.ok) (hr : risesS x.2 = true) (id : Int) (hl : x.2.length < 2 ^ 31) (H : Heap) :
    R (T k) F.lookup_Table_Get [tabV x, .int .i64 id] H = .ok (.tuple #[.int .i64 ((getS x.2 id).getD 0), .bool (getS x.2 id).isSome]) H := by
  rw [lookup_Table_Get_R]
  obtain ⟨fmt, ps⟩ := x
  dsimp only at hok hr hl ⊢
  have hx : Ext H ((H.push ⟨[tabV (fmt, ps)], 1, false⟩).push ⟨[.int .i64 id], 1, false⟩) := ((Ext.refl H).push _).push _
  have hmono : ∀ i j : Nat, i ≤ j → j < ps.length → (ps[i]?).elim false (fun p => decide (id ≤ p.last)) = true → (ps[j]?).elim false (fun p => decide (id ≤ p.last)) = true := by
    intro i j hij hj hi
    by_cases he : i = j
    · subst he; exact hi
    · obtain ⟨p, hp⟩ : ∃ p, ps[i]? = some p := ⟨_, List.getElem?_eq_getElem (by omega)⟩
      obtain ⟨q, hq⟩ : ∃ q, ps[j]? = some q := ⟨_, List.getElem?_eq_getElem hj⟩
      have h1 := risesS_get hr hok i j p q (by omega) hp hq
      have h2 := (hok q (List.mem_of_getElem? hq)).2.1
      rw [hp] at hi
      rw [hq]
      simp at hi ⊢
      omega
  obtain ⟨i, hfi⟩ := isFirst_ex ps.length (fun j => (ps[j]?).elim false fun p => decide (id ≤ p.last)) hmono
  have hfirst := First_run k ps.length (.func (.func F.lookup_Table_Get_in1) #[] #[.pointer (some ⟨H.n, 0, none⟩), .pointer (some ⟨H.n + 1, 0, none⟩)]) (fun j => (ps[j]?).elim false fun p => decide (id ≤ p.last)) ((H.push ⟨[tabV (fmt, ps)], 1, false⟩).push ⟨[.int .i64 id], 1, false⟩) (by omega)
    (fun j hj => by
      obtain ⟨p, hp⟩ : ∃ p, ps[j]? = some p := ⟨_, List.getElem?_eq_getElem hj⟩
      have := Get_in1_run k (H := (H.push ⟨[tabV (fmt, ps)], 1, false⟩).push ⟨[.int .i64 id], 1, false⟩) (fmt, ps) id H.n (H.n + 1) (by simp) (by simp) j p hp
      simp only [callV, List.nil_append, List.cons_append]
      rw [hp]
      simpa using this)
    hmono i hfi
  rw [getS_first id i hfi]
  have hle := hfi.1
  by_cases hil : i < ps.length
  · obtain ⟨p, hp⟩ : ∃ p, ps[i]? = some p := ⟨_, List.getElem?_eq_getElem hil⟩
    have hpok := hok p (List.mem_of_getElem? hp)
    have hne : ((i : Int) == (ps.length : Int)) = false := by simp; omega
    have i1 := fun H' => ixS_lvN encPt_len ps .i64 i p hp H'
    have hlast : id ≤ p.last := by
      have := hfi.2.2 i (Nat.le_refl _) hil
      simp only [hp] at this
      simpa using this
    rw [hp]
    by_cases hf : p.first ≤ id
    · have hgt : ¬ p.first > id := by omega
      obtain ⟨y, hy, _⟩ := Pt.num_some hpok hf
      have hat := at_run k p hpok id hf hlast ((H.push ⟨[tabV (fmt, ps)], 1, false⟩).push ⟨[.int .i64 id], 1, false⟩)
      refine nrm_gc ⟨_, ?_, hx⟩ (Flat.tupleL (l := [_, _]) (.cons (.int _ _) (.cons (.bool _) .nil))).alive
      simp only [Option.bind_some, if_pos hf]
      rw [hy] at hat ⊢
      simp -implicitDefEqProofs (disch := omega) [lookup_Table_Get, hfirst, hne, i1, hgt, hat]
    · have hgt : p.first > id := by omega
      refine nrm_gc ⟨_, ?_, hx⟩ (Flat.tupleL (l := [_, _]) (.cons (.int _ _) (.cons (.bool _) .nil))).alive
      simp only [Option.bind_some, if_neg hf]
      simp -implicitDefEqProofs (disch := omega) [lookup_Table_Get, hfirst, hne, i1, hgt]
  · have e : i = ps.length := by omega
    subst e
    refine nrm_gc ⟨_, ?_, hx⟩ (Flat.tupleL (l := [_, _]) (.cons (.int _ _) (.cons (.bool _) .nil))).alive
    simp -implicitDefEqProofs (disch := omega) [lookup_Table_Get, hfirst]

theorem Format_run (k : Nat) (x : Int × List Pt) (H : Heap) : R (T k) F.lookup_Table_Format [tabV x] H = .ok (.int .i64 x.1) H := by
  rw [lookup_Table_Format_R]
  refine nrm_gc (Pure.of ?_) (.int _ _)
  simp -implicitDefEqProofs (disch := omega) [lookup_Table_Format]

theorem foldl_max_ge (l : List Int) : ∀ m : Int, m ≤ l.foldl max m := by
  induction l with
  | nil => intro m; exact Int.le_refl _
  | cons x l ih => intro m; have := ih (max m x); simp only [List.foldl_cons]; omega

theorem Most_run (k : Nat) (x : Int × List Pt) (hok : ∀ p, p ∈ x.2 → p.ok) (hl : x.2.length < 2 ^ 31) (H : Heap) : R (T k) F.lookup_Table_Most [tabV x] H = .ok (.int .i64 (mostS x.2)) H := by
  rw [lookup_Table_Most_R]
  obtain ⟨fmt, ps⟩ := x
  dsimp only at hok hl ⊢
  obtain ⟨xx, e', H1, hr, hx, rfl, a, rfl⟩ := loop_up (body := lookup_Table_Most_l1 k (R (T k))) ps.length
    (fun i e H' => Ext H H' ∧ e = [(3, .int .i64 (mostS (ps.take i))), (11, lv encPt ps), (12, .int .i64 ps.length), (13, .int .i64 i)])
    (fun x e H' => Ext H H' ∧ x = .exit 0 ∧ ∃ a, e = [(3, .int .i64 (mostS ps)), (11, lv encPt ps), (12, .int .i64 ps.length), (13, .int .i64 ps.length), (14, a)])
    (e0 := [(3, .int .i64 (-1)), (11, lv encPt ps), (12, .int .i64 ps.length), (13, .int .i64 0)]) (H0 := H) ⟨Ext.refl H, by simp [mostS]⟩ (by omega)
    (fun i e H' hi ⟨hx, he⟩ => by
      subst he
      have hlt : (i : Int) < ps.length := by omega
      obtain ⟨p, hp⟩ : ∃ p, ps[i]? = some p := ⟨_, List.getElem?_eq_getElem hi⟩
      have hpok := hok p (List.mem_of_getElem? hp)
      have i1 := fun H' => ixS_lvN encPt_len ps .i64 i p hp H'
      have hx2 : Ext H (H'.push ⟨[.int .i64 p.first, .int .i64 p.last, lv encI p.vals], 1, false⟩) := hx.push _
      have hmost : mostS (ps.take (i + 1)) = p.vals.foldl max (mostS (ps.take i)) := by
        unfold mostS
        rw [List.take_add_one, hp]
        simp
      obtain ⟨y, e2, H2, hr2, rfl, rfl, a, rfl⟩ := loop_up (body := lookup_Table_Most_l2 k (R (T k))) p.vals.length
        (fun j e H2 => H2 = H'.push ⟨[.int .i64 p.first, .int .i64 p.last, lv encI p.vals], 1, false⟩ ∧ e = [(3, .int .i64 ((p.vals.take j).foldl max (mostS (ps.take i)))), (11, lv encPt ps), (12, .int .i64 ps.length), (13, .int .i64 i), (18, lv encI p.vals), (19, .int .i64 p.vals.length), (20, .int .i64 j)])
        (fun x e H2 => H2 = H'.push ⟨[.int .i64 p.first, .int .i64 p.last, lv encI p.vals], 1, false⟩ ∧ x = .exit 2 ∧ ∃ a, e = [(3, .int .i64 (mostS (ps.take (i + 1)))), (11, lv encPt ps), (12, .int .i64 ps.length), (13, .int .i64 i), (18, lv encI p.vals), (19, .int .i64 p.vals.length), (20, .int .i64 p.vals.length), (21, a)])
        (e0 := [(3, .int .i64 (mostS (ps.take i))), (11, lv encPt ps), (12, .int .i64 ps.length), (13, .int .i64 i), (18, lv encI p.vals), (19, .int .i64 p.vals.length), (20, .int .i64 0)]) (H0 := H'.push ⟨[.int .i64 p.first, .int .i64 p.last, lv encI p.vals], 1, false⟩) ⟨rfl, by simp⟩ (by have := hpok.2.2.2.2.1; omega)
        (fun j e H2 hj ⟨hH, he⟩ => by
          subst he hH
          have hlt2 : (j : Int) < p.vals.length := by omega
          obtain ⟨n, hn⟩ : ∃ n, p.vals[j]? = some n := ⟨_, List.getElem?_eq_getElem hj⟩
          have i2 := fun H' => ixS_lvN encI_len p.vals .i64 j n hn H'
          have hjl := hpok.2.2.2.2.1
          have hmx : (if n > (p.vals.take j).foldl max (mostS (ps.take i)) then n else (p.vals.take j).foldl max (mostS (ps.take i))) = (p.vals.take (j + 1)).foldl max (mostS (ps.take i)) := by
            rw [List.take_add_one, hn]
            simp
            split <;> omega
          refine .inl ⟨_, _, ?_, rfl, rfl⟩
          rw [lookup_Table_Most_l2_eq, ← hmx]
          simp -implicitDefEqProofs (disch := omega) [hlt2, i2])
        (fun e H2 ⟨hH, he⟩ => by
          subst he hH
          rw [List.take_length, ← hmost]
          refine ⟨.exit 2, _, _, ?_, by simp, rfl, rfl, .bool false, rfl⟩
          rw [lookup_Table_Most_l2_eq]
          simp -implicitDefEqProofs (disch := omega))
      refine .inl ⟨_, _, ?_, hx2, rfl⟩
      rw [lookup_Table_Most_l1_eq]
      simp -implicitDefEqProofs (disch := omega) [hlt, i1, hr2, lookup_Table_Most_l2k_x2])
    (fun e H' ⟨hx, he⟩ => by
      subst he
      rw [List.take_length]
      refine ⟨.exit 0, _, H', ?_, by simp, hx, rfl, .bool false, rfl⟩
      rw [lookup_Table_Most_l1_eq]
      simp -implicitDefEqProofs (disch := omega))
  refine nrm_gc ⟨H1, ?_, hx⟩ (.int _ _)
  simp -implicitDefEqProofs (disch := omega) [lookup_Table_Most, hr, lookup_Table_Most_l1k_x0]
end Go.Sw
