/-
  Lookups: the table that a view begins with.
-/
import Derived.Test.YtnaodjnimkndbaaSwLookC
namespace Go.Sw
open Go.RowKit

theorem risesS_iff : ∀ {ps : List Pt}, risesS ps = true ↔ ∀ (i : Nat) (p q : Pt), ps[i]? = some p → ps[i + 1]? = some q → p.last < q.first
  | [] => by simp [risesS]
  | [a] => by simp [risesS]
  | a :: b :: l => by
    have ih := risesS_iff (ps := b :: l)
    simp only [risesS, Bool.and_eq_true, decide_eq_true_eq, ih]
    constructor
    · intro ⟨h1, h2⟩ i p q hp hq
      cases i with
      | zero => simp at hp hq; subst hp hq; exact h1
      | succ i => exact h2 i p q (by simpa using hp) (by simpa using hq)
    · intro h
      exact ⟨h 0 a b (by simp) (by simp), fun i p q hp hq => h (i + 1) p q (by simpa using hp) (by simpa using hq)⟩

/-- A table, as it is answered. -/
abbrev tabV (x : Int × List Pt) : Value := boxV #[.int .i64 x.1, lv encPt x.2]
theorem Flat.tab (x : Int × List Pt) : Flat (tabV x) := .boxV (l := [.int .i64 x.1, Go.Sw.lv encPt x.2]) (.cons (.int _ _) (.cons (Flat.Pts _) .nil))

theorem take_j1 (k : Nat) {H0 H : Heap} (p : Nat) (fmt : Int) (s : Value) (ps : List Pt) (hp : H0.n ≤ p) (hx : Ext H0 H) (hg : H.get p = some ⟨[.int .i64 fmt, s], 1, false⟩) (hlen : ps.length < 2 ^ 31)
    (hs : s = lv encPt ps ∨ ps.length = 1 ∧ ∃ a c, s = .slice a 1 c) (hf : ∃ L, fzV H0.n H 7 s = some (lv encPt ps, L)) :
    Cp failV (Ext H0) (lookup_Take_j1 k (R (T k)) (.pointer (some ⟨p, 0, none⟩)) H) (if risesS ps then some (fmt, ps) else none) fun x v H' => ∃ L, fzV H0.n H' fzDepth v = some (tabV x, L) := by
  have hln : ∀ H', lnS s H' = .ok (.int .i64 ps.length) H' := fun H' => by
    rcases hs with rfl | ⟨h, a, c, rfl⟩
    · rfl
    · rw [h]; rfl
  have hfp : ∃ L, fzV H0.n H fzDepth (.pointer (some ⟨p, 0, none⟩)) = some (tabV (fmt, ps), L) := by
    obtain ⟨L, hL⟩ := hf
    have hlt : Nat.blt p H0.n = false := by
      cases hb : Nat.blt p H0.n with
      | false => rfl
      | true => have := Nat.le_of_ble_eq_true hb; omega
    refine ⟨p :: ([] ++ (L ++ [])), ?_⟩
    show fzV H0.n H 8 _ = _
    unfold fzV
    dsimp only
    rw [hlt, cond_false, hg]
    show (bif false || !Nat.ble 0 2 then none else (mapF (fzV H0.n H 7) [.int .i64 fmt, s]).map fun r => (boxV r.1.toArray, p :: r.2)) = _
    rw [show (false || !Nat.ble 0 2) = false from rfl, cond_false, mapF_cons (u := .int .i64 fmt) (L1 := []) rfl (mapF_cons hL (L2 := []) rfl)]
    rfl
  rw [lookup_Take_j1_eq]
  obtain ⟨N, hN⟩ : ∃ N, N = max 1 ps.length := ⟨_, rfl⟩
  rcases loop_upP (body := lookup_Take_l1 k (R (T k))) N
    (fun j e H' => 1 ≤ j ∧ H' = H ∧ e = [(8, .pointer (some ⟨p, 0, none⟩)), (10, .int .i64 j)] ∧ ∀ (i : Nat) (x y : Pt), i + 1 < j → ps[i]? = some x → ps[i + 1]? = some y → x.last < y.first)
    (fun x e H' => H' = H ∧ x = .exit 1 ∧ (∃ a, e = [(8, .pointer (some ⟨p, 0, none⟩)), (10, a), (93, .bool false)]) ∧ risesS ps = true)
    (fun v H' => v = failV ∧ H' = H ∧ risesS ps = false)
    (fun j e H' hj ⟨h1, hH, he, hall⟩ => by
      subst hH he
      have hjl : j < ps.length := by omega
      obtain ⟨y, hy⟩ : ∃ y, ps[j]? = some y := ⟨_, List.getElem?_eq_getElem hjl⟩
      obtain ⟨x, hx'⟩ : ∃ x, ps[j - 1]? = some x := ⟨_, List.getElem?_eq_getElem (by omega)⟩
      rcases hs with rfl | ⟨h, _⟩
      rotate_left
      · omega
      have hlt : (j : Int) < ps.length := by omega
      have i1 := fun H' => ixS_lvN encPt_len ps .i64 j y hy H'
      have i2 := fun H' => ixS_lv encPt_len ps .i64 ((j : Int) - 1) x (by omega) (by rw [show ((j : Int) - 1).toNat = j - 1 by omega]; exact hx') H'
      rw [lookup_Take_l1_eq]
      by_cases hxy : x.last < y.first
      · refine .inl ⟨_, H', by simp -implicitDefEqProofs (disch := omega) [hg, hlt, i1, i2, hxy, Need_true], by omega, rfl, rfl, fun i a b hi ha hb => ?_⟩
        by_cases hij : i + 1 = j
        · subst hij
          simp only [Nat.add_sub_cancel] at hx'
          rw [hx'] at ha; rw [hy] at hb
          injection ha with ha; injection hb with hb
          subst ha hb
          exact hxy
        · exact hall i a b (by omega) ha hb
      · refine .inr (.inr ⟨failV, H', by simp -implicitDefEqProofs (disch := omega) [hg, hlt, i1, i2, hxy, Need_false], rfl, rfl, ?_⟩)
        cases hr : risesS ps with
        | false => rfl
        | true => exact absurd (risesS_iff.1 hr (j - 1) x y hx' (by rw [show j - 1 + 1 = j by omega]; exact hy)) hxy)
    (fun e H' ⟨h1, hH, he, hall⟩ => by
      subst hH he
      have hge : ¬ (N : Int) < ps.length := by omega
      rw [lookup_Take_l1_eq]
      refine .inl ⟨.exit 1, _, H', by simp -implicitDefEqProofs (disch := omega) [hg, hln, hge], by simp, rfl, rfl, ⟨.int .i64 N, rfl⟩, ?_⟩
      refine risesS_iff.2 fun i x y hx hy => hall i x y ?_ hx hy
      have := (List.getElem?_eq_some_iff.1 hy).1
      omega)
    loopFuel 1 [(8, .pointer (some ⟨p, 0, none⟩)), (10, .int .i64 1)] H (by omega) (by unfold loopFuel; omega) ⟨by omega, rfl, rfl, fun i x y h => by omega⟩ with ⟨x, e', H', hr, rfl, rfl, ⟨a, rfl⟩, hri⟩ | ⟨v, H', hr, rfl, rfl, hri⟩
  · rw [hr, hri]
    simp only [Res.bind_ok, lookup_Take_l1k_x1, if_true]
    exact .ok hx hfp
  · rw [hr, hri]
    exact .throw hx

theorem lookTake_run (k : Nat) {H : Heap} {v : Value} {b : List Int} (hv : Sl H 1 v encB b) (hb : Byt b) (g z : Int) (hg1 : 1 ≤ g) (hg2 : g ≤ 65535) (hz : z = 2 ∨ z = 4) (hl : b.length < 2 ^ 31) :
    R (T k) F.lookup_Take [.agg #[v], .int .i64 g, .int .i64 z] H = orF (lookS b g z) tabV H := by
  rw [lookup_Take_R]
  have hx0 : Ext H (H.push ⟨[v], 1, false⟩) := (Ext.refl H).push _
  have hx1 : Ext H ((H.push ⟨[v], 1, false⟩).push ⟨[v, .int .i64 g, .int .i64 z], 1, false⟩) := hx0.push _
  have hst := hv.storable
  have hce := hv.cells
  refine fz_orF ?_ fun x _ => (Flat.tab x).alive
  simp -implicitDefEqProofs (disch := omega) [lookup_Take, hst, hce]
  unfold lookS
  refine Cp.call (U16_run k (hv.up hx1) hb 0 (by omega)) hx1 fun fmt hfmt => ?_
  have hfmt := uS_two hb hfmt
  have hx2 : Ext H (((H.push ⟨[v], 1, false⟩).push ⟨[v, .int .i64 g, .int .i64 z], 1, false⟩).push ⟨[.int .i64 fmt, .slice none 0 0], 1, false⟩) := hx1.push _
  have fin : ∀ ps : List Pt, ps.length < 2 ^ 31 → Cp failV (Ext H) (lookup_Take_j1 k (R (T k)) (.pointer (some ⟨H.n + 2, 0, none⟩)) (((H.push ⟨[v], 1, false⟩).push ⟨[v, .int .i64 g, .int .i64 z], 1, false⟩).push ⟨[.int .i64 fmt, lv encPt ps], 1, false⟩)) (if risesS ps then some (fmt, ps) else none) fun x v H' => ∃ L, fzV H.n H' fzDepth v = some (tabV x, L) := fun ps hps =>
    take_j1 k _ fmt _ ps (by omega) (hx1.push _) (get_push_eq _ _ _ (by simp)) hps (.inl rfl) ⟨_, rfl⟩
  by_cases h0 : fmt = 0
  · subst h0
    simp -implicitDefEqProofs (disch := omega)
    unfold partsS
    rw [if_pos rfl, Option.bind_map]
    refine Cp.call (list_run k (hv.up hx2) hb 2 g z (by omega) hl) hx2 fun vs hvs => ?_
    simp -implicitDefEqProofs (disch := omega)
    have hx3 : Ext H ((((H.push ⟨[v], 1, false⟩).push ⟨[v, .int .i64 g, .int .i64 z], 1, false⟩).push ⟨[.int .i64 0, .slice (some ⟨H.n + 3, 0, none⟩) 1 1], 1, false⟩).push ⟨[.int .i64 0, .int .i64 (g - 1), lv encI vs], 3, false⟩) := (hx1.push _).push _
    refine take_j1 k (H.n + 2) 0 (.slice (some ⟨H.n + 3, 0, none⟩) 1 1) [⟨0, g - 1, vs⟩] (by omega) hx3 (by rw [get_push_lt _ _ _ (by simp), get_push_eq _ _ _ (by simp)]) (by simp) (.inr ⟨rfl, _, _, rfl⟩) ?_
    exact Own.freeze (l := [⟨0, g - 1, vs⟩]) encPt_len (.inr ⟨H.n + 3, rfl, by omega, by rw [get_push_eq _ _ _ (by simp)]; rfl⟩) (encPt_still _) 5
  have h0' : (fmt == 0) = false := by simpa using h0
  have segl : ∀ {each ps}, segS b z each = some ps → ps.length < 2 ^ 31 := fun {each ps} h => by
    obtain ⟨rows, h1, h2⟩ := Option.bind_eq_some_iff.1 h
    obtain ⟨_, n, _, hn, _, hlen, _⟩ := takeS_spec hb h1
    have := uS_two hb hn
    have := mapO_len h2
    omega
  by_cases h2 : fmt = 2
  · subst h2
    simp -implicitDefEqProofs (disch := omega)
    unfold partsS
    rw [if_neg h0, if_pos rfl]
    refine Cp.call (segments_run k (hv.up hx2) hb (.int .i64 g) z hz false hl) hx2 fun ps hps => ?_
    simp -implicitDefEqProofs (disch := omega)
    exact fin ps (segl hps)
  have h2' : (fmt == 2) = false := by simpa using h2
  by_cases h4 : fmt = 4
  · subst h4
    simp -implicitDefEqProofs (disch := omega)
    unfold partsS
    rw [if_neg h0, if_neg h2, if_pos rfl]
    refine Cp.call (segments_run k (hv.up hx2) hb (.int .i64 g) z hz true hl) hx2 fun ps hps => ?_
    simp -implicitDefEqProofs (disch := omega)
    exact fin ps (segl hps)
  have h4' : (fmt == 4) = false := by simpa using h4
  by_cases h6 : fmt = 6
  · subst h6
    simp -implicitDefEqProofs (disch := omega)
    unfold partsS
    rw [if_neg h0, if_neg h2, if_neg h4, if_pos rfl]
    refine Cp.call (single_run k (hv.up hx2) hb (.int .i64 g) z hz hl) hx2 fun ps hps => ?_
    simp -implicitDefEqProofs (disch := omega)
    refine fin ps ?_
    obtain ⟨rows, h1, h2⟩ := Option.bind_eq_some_iff.1 hps
    obtain ⟨_, n, _, hn, _, hlen, _⟩ := takeS_spec hb h1
    have := uS_two hb hn
    have := mapO_len h2
    omega
  have h6' : (fmt == 6) = false := by simpa using h6
  have triml : ∀ {i z ps}, trimS b i z = some ps → ps.length < 2 ^ 31 := fun {i z ps} h => by
    obtain ⟨f, _, h⟩ := Option.bind_eq_some_iff.1 h
    obtain ⟨n, _, h⟩ := Option.bind_eq_some_iff.1 h
    split at h
    · obtain ⟨vs, _, rfl⟩ := Option.map_eq_some_iff.1 h
      split <;> simp
    · cases h
  by_cases h8 : fmt = 8
  · subst h8
    simp -implicitDefEqProofs (disch := omega)
    unfold partsS
    rw [if_neg h0, if_neg h2, if_neg h4, if_neg h6, if_pos rfl]
    refine Cp.call (trimmed_run k (hv.up hx2) hb (.int .i64 g) (.int .i64 z) 2 z (by omega) hl (by omega)) hx2 fun ps hps => ?_
    simp -implicitDefEqProofs (disch := omega)
    exact fin ps (triml hps)
  have h8' : (fmt == 8) = false := by simpa using h8
  by_cases h10 : fmt = 10
  · subst h10
    simp -implicitDefEqProofs (disch := omega)
    unfold partsS
    rw [if_neg h0, if_neg h2, if_neg h4, if_neg h6, if_neg h8, if_pos rfl, Option.bind_assoc]
    refine Cp.call (U16_run k (hv.up hx2) hb 2 (by omega)) hx2 fun u hu => ?_
    by_cases hu4 : u = 1 ∨ u = 2 ∨ u = 4
    · rw [if_pos hu4]
      have hb4 : (R (T k) F.view_Need [.bool true] (((H.push ⟨[v], 1, false⟩).push ⟨[v, .int .i64 g, .int .i64 z], 1, false⟩).push ⟨[.int .i64 10, .slice none 0 0], 1, false⟩)) = .ok (.tuple #[]) _ := Need_true k _
      have ht := fun ps hps => triml (i := 4) (z := u) (ps := ps) hps
      rcases hu4 with rfl | rfl | rfl <;>
      · simp -implicitDefEqProofs (disch := omega) [hb4]
        refine Cp.call (trimmed_run k (hv.up hx2) hb (.int .i64 g) (.int .i64 z) 4 _ (by omega) hl (by omega)) hx2 fun ps hps => ?_
        simp -implicitDefEqProofs (disch := omega)
        exact fin ps (ht ps hps)
    · rw [if_neg hu4]
      have e1 : (u == 1) = false := by simp; omega
      have e2 : (u == 2) = false := by simp; omega
      have e3 : (u == 4) = false := by simp; omega
      simp -implicitDefEqProofs (disch := omega) [e1, e2, e3, Need_false]
      exact .throw hx2
  have h10' : (fmt == 10) = false := by simpa using h10
  simp -implicitDefEqProofs (disch := omega) [h0', h2', h4', h6', h8', h10']
  unfold partsS
  rw [if_neg h0, if_neg h2, if_neg h4, if_neg h6, if_neg h8, if_neg h10]
  exact .throw hx2
end Go.Sw
