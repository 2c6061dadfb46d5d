/-
  Subtables of single glyphs.
-/
import Derived.Test.YtnaodjnimkndbaaSwLine
import Derived.Test.YtnaodjnimkndbaaSwLookF
import Derived.Test.YtnaodjnimkndbaaSwGswap
namespace Go.Sw
open Go.RowKit

abbrev swapTab (x : Int × List Pt) : Value := boxV #[tabV x]
theorem Flat.swap (x : Int × List Pt) : Flat (swapTab x) := .boxV (l := [tabV x]) (.cons (Flat.tab x) .nil)
def swapV (o : Option (Int × List Pt)) : Value := match o with | some x => swapTab x | none => .pointer none
theorem swapV_flat (o : Option (Int × List Pt)) : Flat (swapV o) := by
  cases o with
  | none => exact .nilPtr
  | some x => exact Flat.swap x

theorem swapTake_run (k : Nat) {H : Heap} {v : Value} {b : List Int} (hv : Sl H 1 v encB b) (hb : Byt b) (g : Int) (hg1 : 1 ≤ g) (hg2 : g ≤ 65535) (hl : b.length < 2 ^ 31) :
    R (T k) F.swap_Take [.agg #[v], .int .i64 g] H = orF (lookS b g 2) swapTab H := by
  rw [swap_Take_R]
  have hx : Ext H (H.push ⟨[v], 1, false⟩) := (Ext.refl H).push _
  refine fz_orF ?_ fun _ _ => (Flat.swap _).alive
  simp -implicitDefEqProofs [swap_Take]
  refine Cp.callL (lookTake_run k (hv.up hx) hb g 2 hg1 hg2 (.inl rfl) hl) hx fun x hx' => ?_
  simp -implicitDefEqProofs
  exact .ok (hx.push _) ⟨_, fz_box (by omega) (get_push_eq _ _ _ (by simp)) (mapF_one (fzV_still trivial))⟩

theorem swapRead_run (k : Nat) {H : Heap} {v : Value} {b : List Int} (hv : Sl H 1 v encB b) (hb : Byt b) (g : Int) (hl : b.length < 2 ^ 31) :
    R (T k) F.swap_Read [v, .int .i64 g] H = .ok (.tuple #[swapV (lookO b g 2), .int .i64 (lookN b g 2)]) H := by
  rw [swap_Read_R]
  have hr := lookRead_run k hv hb g 2 hl
  have fl : Flat (.tuple #[swapV (lookO b g 2), .int .i64 (lookN b g 2)]) := .tupleL (.cons (swapV_flat _) (.cons (.int _ _) .nil))
  cases h : lookO b g 2 with
  | none =>
    have hn : (lookN b g 2 == 0) = false := by
      unfold lookO at h
      unfold lookN
      cases hbad : badS g 2 with
      | true => rfl
      | false => rw [hbad] at h; simp at h; rw [h]; rfl
    rw [h] at hr fl
    simp [lookV] at hr
    refine nrm_fz (H' := H) (v := .tuple #[.pointer none, .int .i64 (lookN b g 2)]) ?_ rfl (Ext.refl H) fl.alive
    simp -implicitDefEqProofs [swap_Read, hr, bne, hn]
  | some x =>
    have hn : lookN b g 2 = 0 := by
      unfold lookO at h
      unfold lookN
      cases hbad : badS g 2 with
      | true => rw [hbad] at h; simp at h
      | false => rw [hbad] at h; simp at h; rw [h]; rfl
    rw [h] at hr fl
    simp [lookV] at hr
    rw [hn] at hr fl ⊢
    refine nrm_fz (L := [H.n]) (H' := H.push ⟨[tabV x], 1, false⟩) (v := .tuple #[ptrV H.n, .int .i64 0]) ?_ ?_ ((Ext.refl H).push _) fl.alive
    · simp -implicitDefEqProofs [swap_Read, hr, bne]
    · exact fz_tuple (l := [ptrV H.n, .int .i64 0]) (mapF_cons (fz_box (by omega) (get_push_eq _ _ _ rfl) (mapF_one (fzV_still (v := tabV x) trivial))) (mapF_one (L := []) rfl))

/-- What becomes of a glyph. -/
def swapG (ps : List Pt) (g : Gl) : Gl := if g.id = 65535 then g else match getS ps g.id with | some y => ⟨y, g.cl⟩ | none => g

theorem swapRun_star (k : Nat) {H0 H : Heap} {L : List It} (h : Star H0 H L) (i : Nat) {c : Nat} {o : Option Nat} {l : List Gl} (hi : L[i]? = some (itLine c o l)) (hl : l.length < 2 ^ 31)
    (x : Int × List Pt) (hok : ∀ p, p ∈ x.2 → p.ok) (hr : risesS x.2 = true) (hpl : x.2.length < 2 ^ 31) :
    ∃ H', R (T k) F.swap_Table_Run [swapTab x, ptrV c] H = .ok (.int .i64 0) H' ∧ Star H0 H' (L.set i (itLine c o (l.map (swapG x.2)))) := by
  have hil := (List.getElem?_eq_some_iff.1 hi).1
  have hself : L.set i (itLine c o l) = L := by
    obtain ⟨hlt, hx⟩ := List.getElem?_eq_some_iff.1 hi
    rw [← hx, List.set_getElem_self]
  obtain ⟨v, ov, H1, e1, g⟩ := lineGlyphs_any k h i hi (by omega)
  have hget := fun id H => Get_run k x hok hr id hpl H
  have hrdl := (g.sl L.length encG_len (list_at_end _)).len
  obtain ⟨y, e', H2, hr2, rfl, ⟨a, rfl⟩, g2⟩ := loop_up (body := swap_Table_Run_l1 k (R (T k))) l.length
    (fun j e H' => e = [(0, swapTab x), (1, ptrV c), (10, v), (11, .int .i64 l.length), (12, .int .i64 j)] ∧ Star H0 H' ((L.set i (itLine c o ((l.take j).map (swapG x.2) ++ l.drop j))) ++ [itV ov 2 v encG l]))
    (fun y e H' => y = .exit 0 ∧ (∃ a, e = [(0, swapTab x), (1, ptrV c), (10, v), (11, .int .i64 l.length), (12, .int .i64 l.length), (13, a)]) ∧ Star H0 H' ((L.set i (itLine c o (l.map (swapG x.2)))) ++ [itV ov 2 v encG l]))
    (e0 := [(0, swapTab x), (1, ptrV c), (10, v), (11, .int .i64 l.length), (12, .int .i64 0)]) (H0 := H1) ⟨rfl, by simpa [hself] using g⟩ (by omega)
    (fun j e H' hj ⟨he, g⟩ => by
      subst he
      have hlt : (j : Int) < l.length := by omega
      obtain ⟨q, hq⟩ : ∃ q, l[j]? = some q := ⟨_, List.getElem?_eq_getElem hj⟩
      obtain ⟨p, p1, p2⟩ := ((g.sl L.length encG_len (by rw [List.getElem?_append_right (by simp)]; simp; rfl)).rd (by decide) encG_len).2 j q hq
      have gi : ∀ (z : It) (M : List It), ((L.set i z) ++ M)[i]? = some z := fun z M => by rw [List.getElem?_append_left (by simpa using hil), List.getElem?_set_self hil]
      have hx1 : Ext H' (H'.push ⟨encG q, 1, false⟩) := (Ext.refl H').push _
      have g := g.rest hx1
      by_cases hid : q.id = 65535
      · refine .inl ⟨_, _, ?_, rfl, by rw [← map_keep hq (by unfold swapG; rw [if_pos hid])]; exact g⟩
        have hid' : (q.id == 65535) = true := by simpa using hid
        rw [swap_Table_Run_l1_eq]
        simp -implicitDefEqProofs (disch := omega) [-ldA_ptr, hlt, p1, p2, hid, swap_Table_Run_j1_eq]
      · have hid' : (q.id == 65535) = false := by simpa using hid
        cases hgq : getS x.2 q.id with
        | none =>
          refine .inl ⟨_, _, ?_, rfl, by rw [← map_keep hq (by unfold swapG; rw [if_neg hid, hgq])]; exact g⟩
          rw [swap_Table_Run_l1_eq]
          simp -implicitDefEqProofs (disch := omega) [-ldA_ptr, hlt, p1, p2, hid', hget, hgq, swap_Table_Run_j3_eq]
        | some y =>
          obtain ⟨H2, e2, g2⟩ := lineSet_star k g i (gi _ _) j y
          refine .inl ⟨_, H2, ?_, rfl, ?_⟩
          · rw [swap_Table_Run_l1_eq]
            simp -implicitDefEqProofs (disch := omega) [-ldA_ptr, hlt, p1, p2, hid', hget, hgq, e2, swap_Table_Run_j2_eq]
          · have hst : setG ((l.take j).map (swapG x.2) ++ l.drop j) j y = (l.take (j + 1)).map (swapG x.2) ++ l.drop (j + 1) := by
              unfold setG
              rw [if_pos ⟨by omega, by simp; omega⟩, Int.toNat_natCast, modify_set _ _ _ _ (map_at hq), ← map_step hq]
              congr 1
              unfold swapG
              rw [if_neg hid, hgq]
            rw [hst, List.set_append_left _ _ (by simpa using hil), List.set_set] at g2
            exact g2)
    (fun e H' ⟨he, g⟩ => by
      subst he
      refine ⟨.exit 0, _, H', ?_, by simp, rfl, ⟨.bool false, rfl⟩, by simpa using g⟩
      rw [swap_Table_Run_l1_eq]
      simp -implicitDefEqProofs)
  refine ⟨H2, ?_, g2.drop_last⟩
  rw [swap_Table_Run_R]
  refine nrm_of ?_
  simp -implicitDefEqProofs [swap_Table_Run, e1, hrdl, hr2, swap_Table_Run_l1k_x0]
end Go.Sw
