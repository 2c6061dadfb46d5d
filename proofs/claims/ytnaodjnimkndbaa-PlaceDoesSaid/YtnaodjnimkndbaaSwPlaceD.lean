/-
  Places: new ones, all of them, shifted, turned.
-/
import Derived.Test.YtnaodjnimkndbaaSwPlaceC
namespace Go.Sw

theorem cloneP_R (k : Nat) (a : Value) (H : Heap) : R (T k) F.slices_Clone_of_api_Place_api_Place [a] H = nrm .no H (cloneV 3 12 [a] H) :=
  R_sp (t := T k) (T_scott k) (s := fun _ args H => cloneV 3 12 args H) (by kernel_rfl) _ _

theorem Shift_run (k : Nat) {H : Heap} {p : Nat} {o : Option Nat} {down : Bool} {l : List Pl} (h : PlAt H p o down l) (hok : ∀ q, q ∈ l → q.ok) (i x y : Int) :
    ∃ H2, R (T k) F.place_Places_Shift [.pointer (some ⟨p, 0, none⟩), .int .i64 i, .int .i64 x, .int .i64 y] H = .ok (.tuple #[]) H2 ∧ PlAt H2 p o down (updPl l i fun q => ⟨q.adv, addI q.x x, addI q.y y⟩) ∧ Keeps (fpP p o) H H2 := by
  obtain ⟨H1, b, j, l', q, e, a1, _, a2, a3, a4, _, a5⟩ := at_run k h hok i
  have hj := (List.getElem?_eq_some_iff.1 a3).1
  have r1 := ld1_row encP_len a2 (c := 1) a3 (by decide) rfl
  have r2 := ld1_row encP_len a2 (c := 2) a3 (by decide) rfl
  obtain ⟨H2, s1, g1, k1, n1⟩ := st_row encP_len a2 (c := 1) (n := 1) ⟨q.adv, addI q.x x, q.y⟩ (v := .int .i32 (addI q.x x)) a3 rfl rfl (by decide) rfl
  have hq2 : (l'.set j ⟨q.adv, addI q.x x, q.y⟩)[j]? = some ⟨q.adv, addI q.x x, q.y⟩ := by rw [List.getElem?_set_self hj]
  obtain ⟨H3, s2, g2, k2, n2⟩ := st_row encP_len g1 (c := 2) (n := 1) ⟨q.adv, addI q.x x, addI q.y y⟩ (v := .int .i32 (addI q.y y)) hq2 rfl rfl (by decide) rfl
  rw [List.set_set] at g2
  obtain ⟨b1, b2⟩ := a5 H3 (fun q => ⟨q.adv, addI q.x x, addI q.y y⟩) g2 (fun c hc => by rw [k2 c hc, k1 c hc]) (by rw [n2, n1])
  refine ⟨H3, ?_, b1, b2⟩
  rw [place_Places_Shift_R]
  simp -implicitDefEqProofs [-ld1_ptr, -stR_ptr, place_Places_Shift, a1, r1, r2, s1, s2, Add_run _ _ _ a4.2.1.1 a4.2.1.2, Add_run _ _ _ a4.2.2.1 a4.2.2.2]

theorem All_run (k : Nat) (hk : k < 1000000) {H : Heap} {p : Nat} {o : Option Nat} {down : Bool} {l : List Pl} (h : PlAt H p o down l) (hl : l.length ≤ 2 ^ 20) : R (T k) F.place_Places_All [.pointer (some ⟨p, 0, none⟩)] H = .ok (lv encP l) H := by
  obtain ⟨_, s, h2, h3⟩ := h
  obtain ⟨s', H', e1, o1, x1⟩ := clone_own (bytes := 12) encP_len h3 (by omega) (by decide)
  have ho : own k = .fz := by unfold own; rw [show Nat.blt k 1000000 = true from Nat.ble_eq_true_of_le hk]; rfl
  rw [place_Places_All_R, ho]
  obtain ⟨L, hf⟩ := o1.freeze encP_len (encP_still _) 6
  refine nrm_fz (v := s') (H' := H') ?_ hf x1 (Flat.alive (Flat.lv (encP_flat _)))
  simp -implicitDefEqProofs [place_Places_All, h2, cloneP_R, e1]

/-- The same, of laws for which it stays one's own. -/
theorem AllOwn_run (k : Nat) (hk : 1000000 ≤ k) {H : Heap} {p : Nat} {o : Option Nat} {down : Bool} {l : List Pl} (h : PlAt H p o down l) (hl : l.length ≤ 2 ^ 20) :
    ∃ s H', R (T k) F.place_Places_All [.pointer (some ⟨p, 0, none⟩)] H = .ok s H' ∧ Own H H' 3 s encP l ∧ Ext H H' := by
  obtain ⟨_, s, h2, h3⟩ := h
  obtain ⟨s', H', e1, o1, x1⟩ := clone_own (bytes := 12) encP_len h3 (by omega) (by decide)
  have ho : own k = .no := by
    unfold own
    rw [show Nat.blt k 1000000 = false from by
      cases hb : Nat.blt k 1000000 with
      | false => rfl
      | true => have := Nat.le_of_ble_eq_true hb; omega]; rfl
  refine ⟨s', H', ?_, o1, x1⟩
  rw [place_Places_All_R, ho]
  simp -implicitDefEqProofs [place_Places_All, h2, cloneP_R, e1]

theorem New_run (k : Nat) (dir : Int) (l : List Int) (hl : l.length ≤ 2 ^ 20) (H : Heap) :
    ∃ H' o, R (T k) F.place_New [.int .i64 dir, lv encI l] H = .ok (.pointer (some ⟨H.n, 0, none⟩)) H' ∧ PlAt H' H.n o (dir == 2) (newPl l) ∧ (∀ b, o = some b → H.n < b) ∧ Ext H H' := by
  rw [place_New_R]
  obtain ⟨x, e', H1, hr, v, rfl, rfl, o, ho, hf, hx⟩ := loop_up (body := place_New_l1 k (R (T k))) l.length
    (fun i e H' => e = [(5, .pointer (some ⟨H.n, 0, none⟩)), (12, lv encI l), (13, .int .i64 l.length), (14, .int .i64 i)] ∧ ∃ o, PlAt H' H.n o (dir == 2) (newPl (l.take i)) ∧ (∀ b, o = some b → H.n < b) ∧ Ext H H')
    (fun x e H' => ∃ v, x = .exit 0 ∧ e = [(5, .pointer (some ⟨H.n, 0, none⟩)), (12, lv encI l), (13, .int .i64 l.length), (14, .int .i64 l.length), (15, v)] ∧ ∃ o, PlAt H' H.n o (dir == 2) (newPl l) ∧ (∀ b, o = some b → H.n < b) ∧ Ext H H')
    (e0 := [(5, .pointer (some ⟨H.n, 0, none⟩)), (12, lv encI l), (13, .int .i64 l.length), (14, .int .i64 0)]) (H0 := H.push ⟨[.bool (dir == 2), .slice none 0 0], 1, false⟩)
    ⟨rfl, none, ⟨(fun b hb => by cases hb), .slice none 0 0, by rw [Heap.get_push, if_pos rfl], .inl ⟨rfl, rfl, .inl rfl⟩⟩, (fun b hb => by cases hb), (Ext.refl H).push _⟩ (by omega)
    (fun i e H' hi ⟨he, o, ⟨hne, s, h2, h3⟩, hof, hx⟩ => by
      subst he
      obtain ⟨n, hg⟩ : ∃ n, l[i]? = some n := ⟨l[i], List.getElem?_eq_getElem hi⟩
      have hlt : (i : Int) < l.length := by omega
      have hpn : H.n < H'.n := Heap.get_lt h2
      have hlto : ∀ b, o = some b → b < H'.n := fun b hb => by
        rcases h3 with ⟨h4, _⟩ | ⟨c, h4, _, h5⟩
        · rw [h4] at hb; cases hb
        · rw [h4] at hb; injection hb with hb; subst hb; exact Heap.get_lt h5
      have hlen : (newPl (l.take i)).length < 2 ^ 31 := by simp [newPl]; omega
      obtain ⟨s', H2, e1, o1, n1, k1⟩ := ap1_ownO (bytes := 12) encP_len h3 hlto ⟨clampI n, 0, 0⟩ hlen (by decide)
      have k2 := k1 H.n hpn fun e => hne H.n e rfl
      rw [h2] at k2
      have hne2 : ¬ H.n = H'.n := by omega
      have hix := ixS_lvN encI_len l .i64 i n hg
      refine .inl ⟨_, H2.set H.n (some ⟨[.bool (dir == 2), s'], 1, false⟩), ?_, rfl, some (H'.n + 1), ⟨fun b hb => by injection hb; omega, s', by rw [Heap.get_set k2, if_pos rfl], ?_⟩, fun b hb => by injection hb; omega, ?_⟩
      · rw [place_New_l1_eq]
        simp -implicitDefEqProofs (disch := omega) [hlt, hix, h2, e1, k2, hne2, h3.veq, o1.storable, o1.cells]
      · have := o1.up (H' := H2.set H.n (some ⟨[.bool (dir == 2), s'], 1, false⟩)) fun b hb => by
          injection hb with hb
          exact get_set_ne _ _ _ _ (by omega)
        have e : newPl (l.take (i + 1)) = newPl (l.take i) ++ [⟨clampI n, 0, 0⟩] := by
          rw [List.take_add_one, hg]; simp [newPl]
        rw [e]
        exact this
      · refine ⟨by rw [Heap.n_set, n1]; have := hx.n; omega, fun c hc hs => ?_⟩
        rw [get_set_ne _ _ _ _ (by omega), k1 c (by omega) (fun e => by have := hof c e; omega)]
        exact hx.2 c hc hs)
    (fun e H' ⟨he, o, ho, hof, hx⟩ => by
      subst he
      rw [place_New_l1_eq]
      exact ⟨.exit 0, _, H', by simp -implicitDefEqProofs <;> rfl, by simp, _, rfl, rfl, o, by simpa using ho, hof, hx⟩)
  refine ⟨H1, o, ?_, ho, hf, hx⟩
  simp -implicitDefEqProofs [place_New, hr, place_New_l1k_x0]
end Go.Sw
