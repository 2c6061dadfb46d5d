/-
  The document's lookups: read, and asked for a glyph's number.
-/
import Derived.Test.YtnaodjnimkndbaaSwRef6C
namespace Go.Sw
open Go.RowKit

theorem goodR_snoc (r : RP) : ∀ a : List RP, goodR (a ++ [r]) = (goodR a && decide (r.first ≤ r.last) && match a.getLast? with | some q => decide (q.last < r.first) | none => true)
  | [] => by simp [goodR]
  | [x] => by
    simp only [List.singleton_append, goodR, List.getLast?_singleton]
    cases decide (x.first ≤ x.last) <;> cases decide (x.last < r.first) <;> cases decide (r.first ≤ r.last) <;> rfl
  | x :: y :: t => by
    have ih := goodR_snoc r (y :: t)
    simp only [List.cons_append] at ih ⊢
    simp only [goodR, ih, List.getLast?_cons_cons]
    simp only [Bool.and_assoc]

abbrev tabRV (b : List Int) (rs : List RP) : Value := .agg #[lv encB b, lv encRP rs]
def tabRO (b : List Int) (o : Option (List RP)) : Value := match o with | some rs => tabRV b rs | none => tabRV [] []
theorem Flat.tabRV (b : List Int) (rs : List RP) : Flat (tabRV b rs) := .aggL (.cons (Flat.B _) (.cons (Flat.RPs _) .nil))
theorem tabRO_flat (b : List Int) (o : Option (List RP)) : Flat (tabRO b o) := by
  unfold tabRO
  split
  · exact Flat.tabRV _ _
  · exact Flat.tabRV _ _

theorem read06_run (k : Nat) (b : List Int) (hb : Byt b) (g z : Int) (hg : 1 ≤ g ∧ g ≤ 65535) (hz : z = 2 ∨ z = 4) (hl : b.length < 2 ^ 31) (H : Heap) :
    R (T k) F.swashref06_Read [lv encB b, .int .i64 g, .int .i64 z] H = .ok (.tuple #[tabRO b (refReadS b g z), .bool (refReadS b g z).isSome]) H := by
  have hx0 : Ext H (H.push ⟨[.slice none 0 0, .slice none 0 0], 1, false⟩) := (Ext.refl H).push _
  obtain ⟨v, e, hp⟩ := parts06_run k b hb g z hg hz hl (H.push ⟨[.slice none 0 0, .slice none 0 0], 1, false⟩)
  obtain ⟨l, ok, rfl, ho, hll⟩ := hp.val
  rw [swashref06_Read_R]
  obtain ⟨x, e', H1, hr, rfl, rfl, rfl⟩ := loop_up (body := swashref06_Read_l1 k (R (T k))) l.length
    (fun j e H' => H' = H.push ⟨[.slice none 0 0, .slice none 0 0], 1, false⟩ ∧ e = [(0, lv encB b), (6, .pointer (some ⟨H.n, 0, none⟩)), (8, lv encRP l), (9, .bool (ok && goodR (l.take j))), (10, .int .i64 j)])
    (fun x e H' => H' = H.push ⟨[.slice none 0 0, .slice none 0 0], 1, false⟩ ∧ x = .exit 0 ∧ e = [(0, lv encB b), (6, .pointer (some ⟨H.n, 0, none⟩)), (8, lv encRP l), (9, .bool (ok && goodR l)), (10, .int .i64 l.length), (21, .bool false)])
    (e0 := [(0, lv encB b), (6, .pointer (some ⟨H.n, 0, none⟩)), (8, lv encRP l), (9, .bool ok), (10, .int .i64 0)]) (H0 := H.push ⟨[.slice none 0 0, .slice none 0 0], 1, false⟩) ⟨rfl, by simp [goodR]⟩ (by omega)
    (fun j e H' hj ⟨hH, he⟩ => by
      subst he hH
      have hlt : (j : Int) < l.length := by omega
      obtain ⟨r, hr⟩ : ∃ r, l[j]? = some r := ⟨_, List.getElem?_eq_getElem hj⟩
      have i1 := fun H' => ixS_lvN encRP_len l .i64 j r hr H'
      refine .inl ⟨_, _, ?_, rfl, rfl⟩
      rw [swashref06_Read_l1_eq, take_snoc hr, goodR_snoc]
      by_cases h1 : r.last < r.first
      · have h1' : ¬ r.first ≤ r.last := by omega
        simp -implicitDefEqProofs (disch := omega) [hlt, i1, h1, h1', swashref06_Read_j1_eq]
      · have h1' : r.first ≤ r.last := by omega
        cases j with
        | zero =>
          simp -implicitDefEqProofs (disch := omega) at i1 hlt
          simp -implicitDefEqProofs (disch := omega) [hlt, i1, h1, h1', swashref06_Read_j2_eq, goodR]
        | succ j =>
          obtain ⟨q, hq⟩ : ∃ q, l[j]? = some q := ⟨_, List.getElem?_eq_getElem (by omega)⟩
          have i2 := fun H' => ixS_lvN encRP_len l .i64 j q hq H'
          have hlast : (l.take (j + 1)).getLast? = some q := by rw [take_snoc hq]; simp
          rw [hlast]
          have hj0 : (0 : Int) < (j : Int) + 1 := by omega
          simp -implicitDefEqProofs (disch := omega) at i1 hlt
          by_cases h2 : r.first ≤ q.last
          · have h2' : ¬ q.last < r.first := by omega
            simp -implicitDefEqProofs (disch := omega) [hlt, i1, i2, h1, h1', h2, h2', hj0, swashref06_Read_j1_eq]
          · have h2' : q.last < r.first := by omega
            simp -implicitDefEqProofs (disch := omega) [hlt, i1, i2, h1, h1', h2, h2', hj0, swashref06_Read_j2_eq])
    (fun e H' ⟨hH, he⟩ => by
      subst he hH
      refine ⟨.exit 0, _, _, ?_, by simp, rfl, rfl, rfl⟩
      rw [swashref06_Read_l1_eq, List.take_length]
      simp -implicitDefEqProofs)
  have hread : refReadS b g z = if (ok && goodR l) = true then some l else none := by
    unfold refReadS
    rw [ho]
    cases ok <;> simp
  rw [hread]
  cases hgood : (ok && goodR l) with
  | false =>
    rw [hgood] at hr
    refine nrm_fz (v := .tuple #[.agg #[.slice none 0 0, .slice none 0 0], .bool false]) (L := []) (H' := H.push ⟨[.slice none 0 0, .slice none 0 0], 1, false⟩) ?_ rfl hx0 (Flat.tupleL (.cons (tabRO_flat b none) (.cons (.bool _) .nil))).alive
    simp -implicitDefEqProofs [swashref06_Read, e, hr, swashref06_Read_l1k_x0]
  | true =>
    rw [hgood] at hr
    refine nrm_fz (v := .tuple #[tabRV b l, .bool true]) (L := []) (H' := H.push ⟨[lv encB b, lv encRP l], 1, false⟩) ?_ rfl ((Ext.refl H).push _) (Flat.tupleL (.cons (Flat.tabRV b l) (.cons (.bool _) .nil))).alive
    simp -implicitDefEqProofs [swashref06_Read, e, hr, swashref06_Read_l1k_x0]

/-- A part's numbers are no more than they can be. -/
def RP.ok (r : RP) : Prop := -1 ≤ r.first ∧ r.first ≤ 65536 ∧ -1 ≤ r.last ∧ r.last ≤ 65536 ∧ -1 ≤ r.pos ∧ r.pos < 2 ^ 35 ∧ 0 ≤ r.step ∧ r.step ≤ 4 ∧ 0 ≤ r.size ∧ r.size ≤ 4
theorem posS_bound {b : List Int} (hb : Byt b) {i need : Int} {keys : Nat} {rows : List (List Int)} (h : takeS b i need keys = some rows) (hi : 0 ≤ i ∧ i ≤ 65536) : ∀ p, p ∈ posS i (gU b i 2) rows.length → 0 ≤ p ∧ p < 2 ^ 34 := by
  obtain ⟨s, n, h1, h2, h3, h4, h5, h6⟩ := takeS_get h
  have hs := uS_two hb h1
  have hn := uS_two hb h2
  rw [gU_some h1]
  intro p hp
  obtain ⟨j, hj⟩ := List.getElem?_of_mem hp
  have hjl := (List.getElem?_eq_some_iff.1 hj).1
  rw [posS_len] at hjl
  rw [posS_get _ _ _ _ hjl] at hj
  injection hj with hj
  have h7 := Int.mul_nonneg hs.1 (show (0 : Int) ≤ (j : Int) by omega)
  have h8 : s * (j : Int) ≤ 65536 * 65536 := Int.mul_le_mul (by omega) (by omega) (by omega) (by omega)
  omega
theorem refTrim_ok {b : List Int} (hb : Byt b) {i z : Int} (hi : 0 ≤ i ∧ i ≤ 4) (hz : z = 1 ∨ z = 2 ∨ z = 4) {rs : List RP} (h : refTrimS b i z = some rs) : ∀ r, r ∈ rs → r.ok := by
  unfold refTrimS at h
  obtain ⟨f, hf, h⟩ := Option.bind_eq_some_iff.1 h
  obtain ⟨n, hn, h⟩ := Option.bind_eq_some_iff.1 h
  have hf := uS_two hb hf
  have hn := uS_two hb hn
  split at h
  · rename_i hc
    injection h with h
    subst h
    intro r hr
    split at hr
    · cases hr
    · rw [List.mem_singleton] at hr
      subst hr
      refine ⟨?_, ?_, ?_, ?_, ?_, ?_, ?_, ?_, ?_, ?_⟩ <;> dsimp only <;> omega
  · cases h
theorem refParts_ok {b : List Int} (hb : Byt b) {g z fmt : Int} (hg : 1 ≤ g ∧ g ≤ 65535) (hz : z = 2 ∨ z = 4) {rs : List RP} (h : refPartsS b g z fmt = some rs) : ∀ r, r ∈ rs → r.ok := by
  have seg : ∀ each rs, refSegS b z each = some rs → ∀ r, r ∈ rs → r.ok := fun each rs h => by
    unfold refSegS at h
    obtain ⟨rows, h1, h2⟩ := Option.bind_eq_some_iff.1 h
    refine mapO_all h2 fun p r hp hr => ?_
    have hpb := posS_bound hb h1 (by omega) p hp
    have g0 := gU_two hb p
    have g2 := gU_two hb (p + 2)
    have g4 := gU_two hb (p + 4)
    unfold segR at hr
    split at hr
    · split at hr
      · injection hr with hr
        subst hr
        refine ⟨?_, ?_, ?_, ?_, ?_, ?_, ?_, ?_, ?_, ?_⟩ <;> dsimp only <;> omega
      · cases hr
    · injection hr with hr
      subst hr
      refine ⟨?_, ?_, ?_, ?_, ?_, ?_, ?_, ?_, ?_, ?_⟩ <;> dsimp only <;> omega
  unfold refPartsS at h
  split at h
  · split at h
    · injection h with h
      subst h
      intro r hr
      rw [List.mem_singleton] at hr
      subst hr
      refine ⟨?_, ?_, ?_, ?_, ?_, ?_, ?_, ?_, ?_, ?_⟩ <;> dsimp only <;> omega
    · cases h
  split at h
  · exact seg _ _ h
  split at h
  · exact seg _ _ h
  split at h
  · unfold refOneS at h
    obtain ⟨rows, h1, rfl⟩ := Option.map_eq_some_iff.1 h
    intro r hr
    obtain ⟨p, hp, rfl⟩ := List.mem_map.1 hr
    have hpb := posS_bound hb h1 (by omega) p hp
    have g0 := gU_two hb p
    unfold oneR
    refine ⟨?_, ?_, ?_, ?_, ?_, ?_, ?_, ?_, ?_, ?_⟩ <;> dsimp only <;> omega
  split at h
  · exact refTrim_ok hb (by omega) (by omega) h
  split at h
  · obtain ⟨u, _, h⟩ := Option.bind_eq_some_iff.1 h
    split at h
    · rename_i hu
      exact refTrim_ok hb (by omega) hu h
    · cases h
  · cases h
theorem refRead_ok {b : List Int} (hb : Byt b) {g z : Int} (hg : 1 ≤ g ∧ g ≤ 65535) (hz : z = 2 ∨ z = 4) {rs : List RP} (h : refReadS b g z = some rs) : ∀ r, r ∈ rs → r.ok := by
  unfold refReadS at h
  obtain ⟨qs, h1, h⟩ := Option.bind_eq_some_iff.1 h
  split at h
  · injection h with h
    subst h
    exact refParts_ok hb hg hz h1
  · cases h

theorem get06_run (k : Nat) (b : List Int) (hb : Byt b) (rs : List RP) (hok : ∀ r, r ∈ rs → r.ok) (hrl : rs.length < 2 ^ 31) (hl : b.length < 2 ^ 31) (id : Int) (H : Heap) :
    R (T k) F.swashref06_Get [tabRV b rs, .int .i64 id] H = .ok (.tuple #[.int .i64 ((refGetS b rs id).getD 0), .bool (refGetS b rs id).isSome]) H := by
  rw [swashref06_Get_R]
  obtain ⟨B, hB⟩ : ∃ B : Blk, B = ⟨[lv encB b, lv encRP rs], 1, false⟩ := ⟨_, rfl⟩
  have hx0 : Ext H (H.push B) := (Ext.refl H).push _
  obtain ⟨x, e', H1, hr, hx, hq⟩ := loop_up (body := swashref06_Get_l1 k (R (T k))) rs.length
    (fun j e H' => e = [(1, .int .i64 id), (2, .pointer (some ⟨H.n, 0, none⟩)), (6, .int .i64 j)] ∧ Ext (H.push B) H' ∧ refGetS b rs id = refGetS b (rs.drop j) id)
    (fun x e H' => Ext H H' ∧ ((x = .ret ∧ ∃ n, e = [(4, .int .i64 n), (5, .bool true)] ∧ refGetS b rs id = some n) ∨ (x = .exit 0 ∧ (∃ a c, e = [(1, .int .i64 id), (2, .pointer (some ⟨H.n, 0, none⟩)), (6, a), (12, c)]) ∧ refGetS b rs id = none)))
    (e0 := [(1, .int .i64 id), (2, .pointer (some ⟨H.n, 0, none⟩)), (6, .int .i64 0)]) (H0 := H.push B) ⟨rfl, Ext.refl _, rfl⟩ (by omega)
    (fun j e H' hj ⟨he, hx, hg⟩ => by
      subst he
      have hlt : (j : Int) < rs.length := by omega
      obtain ⟨r, hr⟩ : ∃ r, rs[j]? = some r := ⟨_, List.getElem?_eq_getElem hj⟩
      have hrok := hok r (List.mem_of_getElem? hr)
      obtain ⟨o1, o2, o3, o4, o5, o6, o7, o8, o9, o10⟩ := hrok
      have i1 := fun H' => ixS_lvN encRP_len rs .i64 j r hr H'
      have hget : H'.get H.n = some ⟨[lv encB b, lv encRP rs], 1, false⟩ := hx.get (by rw [get_push_eq _ _ _ rfl, hB])
      have hne : ¬ H.n = H'.n := by have := Heap.get_lt hget; omega
      have hx2 : Ext H' (H'.push ⟨encRP r, 1, false⟩) := (Ext.refl H').push _
      have hdrop : rs.drop j = r :: rs.drop (j + 1) := by
        obtain ⟨h1, h2⟩ := List.getElem?_eq_some_iff.1 hr
        rw [List.drop_eq_getElem_cons h1, h2]
      rw [hdrop] at hg
      unfold refGetS at hg
      rw [List.find?_cons] at hg
      by_cases h1 : r.first ≤ id
      · by_cases h2 : id ≤ r.last
        · rw [decide_eq_true (show r.first ≤ id ∧ id ≤ r.last from ⟨h1, h2⟩)] at hg
          dsimp only at hg
          have hm0 : 0 ≤ (id - r.first) * r.step := Int.mul_nonneg (by omega) o7
          have hm1 : (id - r.first) * r.step ≤ 65540 * 4 := Int.mul_le_mul (by omega) (by omega) (by omega) (by omega)
          have hu := fun H' => refU_run k (H := H') (Sl.lv H' 1 b) hb (r.pos + (id - r.first) * r.step) r.size (by omega) (by omega)
          refine .inr ⟨.ret, _, H'.push ⟨encRP r, 1, false⟩, ?_, by simp, hx0.trans (hx.trans hx2), .inl ⟨rfl, gU b (r.pos + (id - r.first) * r.step) r.size, rfl, hg⟩⟩
          rw [swashref06_Get_l1_eq]
          unfold gU
          simp -implicitDefEqProofs (disch := omega) [hlt, i1, hget, hne, h1, h2, hu]
        · rw [decide_eq_false (fun h => h2 h.2)] at hg
          refine .inl ⟨_, H'.push ⟨encRP r, 1, false⟩, ?_, rfl, hx.trans hx2, hg⟩
          rw [swashref06_Get_l1_eq]
          simp -implicitDefEqProofs (disch := omega) [hlt, i1, hget, hne, h1, h2]
      · rw [decide_eq_false (fun h => h1 h.1)] at hg
        refine .inl ⟨_, H'.push ⟨encRP r, 1, false⟩, ?_, rfl, hx.trans hx2, hg⟩
        rw [swashref06_Get_l1_eq]
        simp -implicitDefEqProofs (disch := omega) [hlt, i1, hget, hne, h1])
    (fun e H' ⟨he, hx, hg⟩ => by
      subst he
      have hget : H'.get H.n = some ⟨[lv encB b, lv encRP rs], 1, false⟩ := hx.get (by rw [get_push_eq _ _ _ rfl, hB])
      refine ⟨.exit 0, _, H', ?_, by simp, hx0.trans hx, .inr ⟨rfl, ⟨.int .i64 rs.length, .bool false, rfl⟩, by rw [hg, List.drop_length]; rfl⟩⟩
      rw [swashref06_Get_l1_eq]
      simp -implicitDefEqProofs [hget])
  rw [hB] at hr
  rcases hq with ⟨rfl, n, rfl, hg⟩ | ⟨rfl, ⟨a, c, rfl⟩, hg⟩
  · rw [hg]
    refine nrm_gc ⟨H1, ?_, hx⟩ (Flat.tupleL (.cons (.int _ _) (.cons (.bool _) .nil))).alive
    simp -implicitDefEqProofs [swashref06_Get, hr, swashref06_Get_l1k_r]
  · rw [hg]
    refine nrm_gc ⟨H1, ?_, hx⟩ (Flat.tupleL (.cons (.int _ _) (.cons (.bool _) .nil))).alive
    simp -implicitDefEqProofs [swashref06_Get, hr, swashref06_Get_l1k_x0]
end Go.Sw
