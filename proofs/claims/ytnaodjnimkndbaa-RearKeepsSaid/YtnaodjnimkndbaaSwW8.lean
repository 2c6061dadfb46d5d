/-
  Functions' forms, and what is proved of them, part 8.
-/
import Derived.Test.YtnaodjnimkndbaaSwW7
import Derived.Test.YtnaodjnimkndbaaSwW5
import Derived.Test.YtnaodjnimkndbaaSwW6
import Derived.Test.YtnaodjnimkndbaaSwCfg
set_option linter.unusedSimpArgs false
set_option linter.unusedVariables false
set_option linter.unusedSectionVars false
section
namespace Go.Sw
open Go.RowKit
theorem ζh2 (r : RP) : ∀ a : List RP, goodR (a ++ [r]) = (goodR a && decide (r.first ≤ r.last) && match a.getLast? with | some q => decide (q.last < r.first) | none => true)
 | [] => by simp [goodR]
 | [x] => by
  simp only [List.singleton_append, goodR, List.getLast?_singleton]
  cases decide (x.first ≤ x.last) <;> cases decide (x.last < r.first) <;> cases decide (r.first ≤ r.last) <;> rfl
 | x :: y :: t => by
  have ih := ζh2 r (y :: t)
  simp only [List.cons_append] at ih ⊢
  simp only [goodR, ih, List.getLast?_cons_cons]
  simp only [Bool.and_assoc]
abbrev tabRV (b : List Int) (rs : List RP) : Value := .agg #[lv encB b, lv encRP rs]
def tabRO (b : List Int) (o : Option (List RP)) : Value := match o with | some rs => tabRV b rs | none => tabRV [] []
theorem Flat.tabRV (b : List Int) (rs : List RP) : Flat (tabRV b rs) := .aggL (.cons (Flat.B _) (.cons (Flat.RPs _) .nil))
theorem ζln (b : List Int) (o : Option (List RP)) : Flat (tabRO b o) := by
 unfold tabRO
 split
 ·exact Flat.tabRV _ _
 ·exact Flat.tabRV _ _
theorem ζlb (k : Nat) (b : List Int) (hb : Byt b) (g z : Int) (hg : 1 ≤ g ∧ g ≤ 65535) (hz : z = 2 ∨ z = 4) (hl : b.length < 2 ^ 31) (H : Heap) :
  R (T k) F.ζp [lv encB b, .int .i64 g, .int .i64 z] H = .ok (.tuple #[tabRO b (refReadS b g z), .bool (refReadS b g z).isSome]) H := by
 have hx0 : Ext H (H.push ⟨[.slice none 0 0, .slice none 0 0], 1, false⟩) := (Ext.refl H).push _
 obtain ⟨v, e, hp⟩ := ζk0 k b hb g z hg hz hl (H.push ⟨[.slice none 0 0, .slice none 0 0], 1, false⟩)
 obtain ⟨l, ok, rfl, ho, hll⟩ := hp.val
 rw [ζdb]
 obtain ⟨x, e', H1, hr, rfl, rfl, rfl⟩ := loop_up (body := ζ57 k (R (T k))) l.length
  (fun j e H' => H' = H.push ⟨[.slice none 0 0, .slice none 0 0], 1, false⟩ ∧ e = [(0, lv encB b), (6, .pointer (some ⟨H.n, 0, none⟩)), (8, lv encRP l), (9, .bool (ok && goodR (l.take j))), (10, .int .i64 j)])
  (fun x e H' => H' = H.push ⟨[.slice none 0 0, .slice none 0 0], 1, false⟩ ∧ x = .exit 0 ∧ e = [(0, lv encB b), (6, .pointer (some ⟨H.n, 0, none⟩)), (8, lv encRP l), (9, .bool (ok && goodR l)), (10, .int .i64 l.length), (21, .bool false)])
  (e0 := [(0, lv encB b), (6, .pointer (some ⟨H.n, 0, none⟩)), (8, lv encRP l), (9, .bool ok), (10, .int .i64 0)]) (H0 := H.push ⟨[.slice none 0 0, .slice none 0 0], 1, false⟩) ⟨rfl, by simp [goodR]⟩ (by omega)
  (fun j e H' hj ⟨hH, he⟩ => by
   subst he hH
   have hlt : (j : Int) < l.length := by omega
   obtain ⟨r, hr⟩ : ∃ r, l[j]? = some r := ⟨_, List.getElem?_eq_getElem hj⟩
   have i1 := fun H' => ixS_lvN ζ6i l .i64 j r hr H'
   refine .inl ⟨_, _, ?_, rfl, rfl⟩
   rw [ζ6f, ζ1c hr, ζh2]
   by_cases h1 : r.last < r.first
   ·have h1' : ¬ r.first ≤ r.last := by omega
    simp -implicitDefEqProofs (disch := omega) [hlt, i1, h1, h1', ζ6d]
   ·have h1' : r.first ≤ r.last := by omega
    cases j with
    | zero =>
     simp -implicitDefEqProofs (disch := omega) at i1 hlt
     simp -implicitDefEqProofs (disch := omega) [hlt, i1, h1, h1', ζ6e, goodR]
    | succ j =>
     obtain ⟨q, hq⟩ : ∃ q, l[j]? = some q := ⟨_, List.getElem?_eq_getElem (by omega)⟩
     have i2 := fun H' => ixS_lvN ζ6i l .i64 j q hq H'
     have hlast : (l.take (j + 1)).getLast? = some q := by rw [ζ1c hq]; simp
     rw [hlast]
     have hj0 : (0 : Int) < (j : Int) + 1 := by omega
     simp -implicitDefEqProofs (disch := omega) at i1 hlt
     by_cases h2 : r.first ≤ q.last
     ·have h2' : ¬ q.last < r.first := by omega
      simp -implicitDefEqProofs (disch := omega) [hlt, i1, i2, h1, h1', h2, h2', hj0, ζ6d]
     ·have h2' : q.last < r.first := by omega
      simp -implicitDefEqProofs (disch := omega) [hlt, i1, i2, h1, h1', h2, h2', hj0, ζ6e])
  (fun e H' ⟨hH, he⟩ => by
   subst he hH
   refine ⟨.exit 0, _, _, ?_, by simp, rfl, rfl, rfl⟩
   rw [ζ6f, List.take_length]
   simp -implicitDefEqProofs)
 have hread : refReadS b g z = if (ok && goodR l) = true then some l else none := by
  unfold refReadS
  rw [ho]
  cases ok <;> simp
 rw [hread]
 cases hgood : (ok && goodR l) with
 | false =>
  rw [hgood] at hr
  refine nrm_fz (v := .tuple #[.agg #[.slice none 0 0, .slice none 0 0], .bool false]) (L := []) (H' := H.push ⟨[.slice none 0 0, .slice none 0 0], 1, false⟩) ?_ rfl hx0 (Flat.tupleL (.cons (ζln b none) (.cons (.bool _) .nil))).alive
  simp -implicitDefEqProofs [ζp, e, hr, ζ5l]
 | true =>
  rw [hgood] at hr
  refine nrm_fz (v := .tuple #[tabRV b l, .bool true]) (L := []) (H' := H.push ⟨[lv encB b, lv encRP l], 1, false⟩) ?_ rfl ((Ext.refl H).push _) (Flat.tupleL (.cons (Flat.tabRV b l) (.cons (.bool _) .nil))).alive
  simp -implicitDefEqProofs [ζp, e, hr, ζ5l]
def RP.ok (r : RP) : Prop := -1 ≤ r.first ∧ r.first ≤ 65536 ∧ -1 ≤ r.last ∧ r.last ≤ 65536 ∧ -1 ≤ r.pos ∧ r.pos < 2 ^ 35 ∧ 0 ≤ r.step ∧ r.step ≤ 4 ∧ 0 ≤ r.size ∧ r.size ≤ 4
theorem ζhh {b : List Int} (hb : Byt b) {i need : Int} {keys : Nat} {rows : List (List Int)} (h : takeS b i need keys = some rows) (hi : 0 ≤ i ∧ i ≤ 65536) : ∀ p, p ∈ posS i (gU b i 2) rows.length → 0 ≤ p ∧ p < 2 ^ 34 := by
 obtain ⟨s, n, h1, h2, h3, h4, h5, h6⟩ := ζca h
 have hs := uS_two hb h1
 have hn := uS_two hb h2
 rw [gU_some h1]
 intro p hp
 obtain ⟨j, hj⟩ := List.getElem?_of_mem hp
 have hjl := (List.getElem?_eq_some_iff.1 hj).1
 rw [posS_len] at hjl
 rw [posS_get _ _ _ _ hjl] at hj
 injection hj with hj
 have h7 := Int.mul_nonneg hs.1 (show (0 : Int) ≤ (j : Int) by omega)
 have h8 : s * (j : Int) ≤ 65536 * 65536 := Int.mul_le_mul (by omega) (by omega) (by omega) (by omega)
 omega
theorem ζhk {b : List Int} (hb : Byt b) {i z : Int} (hi : 0 ≤ i ∧ i ≤ 4) (hz : z = 1 ∨ z = 2 ∨ z = 4) {rs : List RP} (h : refTrimS b i z = some rs) : ∀ r, r ∈ rs → r.ok := by
 unfold refTrimS at h
 obtain ⟨f, hf, h⟩ := Option.bind_eq_some_iff.1 h
 obtain ⟨n, hn, h⟩ := Option.bind_eq_some_iff.1 h
 have hf := uS_two hb hf
 have hn := uS_two hb hn
 split at h
 ·rename_i hc
  injection h with h
  subst h
  intro r hr
  split at hr
  ·cases hr
  ·rw [List.mem_singleton] at hr
   subst hr
   refine ⟨?_, ?_, ?_, ?_, ?_, ?_, ?_, ?_, ?_, ?_⟩ <;> dsimp only <;> omega
 ·cases h
theorem ζk2 {b : List Int} (hb : Byt b) {g z fmt : Int} (hg : 1 ≤ g ∧ g ≤ 65535) (hz : z = 2 ∨ z = 4) {rs : List RP} (h : refPartsS b g z fmt = some rs) : ∀ r, r ∈ rs → r.ok := by
 have seg : ∀ each rs, refSegS b z each = some rs → ∀ r, r ∈ rs → r.ok := fun each rs h => by
  unfold refSegS at h
  obtain ⟨rows, h1, h2⟩ := Option.bind_eq_some_iff.1 h
  refine mapO_all h2 fun p r hp hr => ?_
  have hpb := ζhh hb h1 (by omega) p hp
  have g0 := gU_two hb p
  have g2 := gU_two hb (p + 2)
  have g4 := gU_two hb (p + 4)
  unfold segR at hr
  split at hr
  ·split at hr
   ·injection hr with hr
    subst hr
    refine ⟨?_, ?_, ?_, ?_, ?_, ?_, ?_, ?_, ?_, ?_⟩ <;> dsimp only <;> omega
   ·cases hr
  ·injection hr with hr
   subst hr
   refine ⟨?_, ?_, ?_, ?_, ?_, ?_, ?_, ?_, ?_, ?_⟩ <;> dsimp only <;> omega
 unfold refPartsS at h
 split at h
 ·split at h
  ·injection h with h
   subst h
   intro r hr
   rw [List.mem_singleton] at hr
   subst hr
   refine ⟨?_, ?_, ?_, ?_, ?_, ?_, ?_, ?_, ?_, ?_⟩ <;> dsimp only <;> omega
  ·cases h
 split at h
 ·exact seg _ _ h
 split at h
 ·exact seg _ _ h
 split at h
 ·unfold refOneS at h
  obtain ⟨rows, h1, rfl⟩ := Option.map_eq_some_iff.1 h
  intro r hr
  obtain ⟨p, hp, rfl⟩ := List.mem_map.1 hr
  have hpb := ζhh hb h1 (by omega) p hp
  have g0 := gU_two hb p
  unfold oneR
  refine ⟨?_, ?_, ?_, ?_, ?_, ?_, ?_, ?_, ?_, ?_⟩ <;> dsimp only <;> omega
 split at h
 ·exact ζhk hb (by omega) (by omega) h
 split at h
 ·obtain ⟨u, _, h⟩ := Option.bind_eq_some_iff.1 h
  split at h
  ·rename_i hu
   exact ζhk hb (by omega) hu h
  ·cases h
 ·cases h
theorem ζle {b : List Int} (hb : Byt b) {g z : Int} (hg : 1 ≤ g ∧ g ≤ 65535) (hz : z = 2 ∨ z = 4) {rs : List RP} (h : refReadS b g z = some rs) : ∀ r, r ∈ rs → r.ok := by
 unfold refReadS at h
 obtain ⟨qs, h1, h⟩ := Option.bind_eq_some_iff.1 h
 split at h
 ·injection h with h
  subst h
  exact ζk2 hb hg hz h1
 ·cases h
theorem ζk3 {b : List Int} {g z : Int} {rs : List RP} (hb : Byt b) (hg : 1 ≤ g ∧ g ≤ 65535) (hz : z = 2 ∨ z = 4) {x : Int × List Pt} (hx : lookS b g z = some x) (h : refReadS b g z = some rs) : rs.length < 2 ^ 31 := by
 obtain ⟨rs', h1, h2⟩ := (look_ref hb hg.1 hg.2 hz).1 x hx
 rw [h] at h1
 injection h1 with h1
 subst h1
 have : ∀ (ps : List Pt) (rs : List RP), Rel b ps rs → rs.length = ps.length := by
  intro ps
  induction ps with
  | nil => intro rs h; cases rs with | nil => rfl | cons _ _ => cases h
  | cons p ps ih => intro rs h; cases rs with | nil => cases h | cons r rs => simp [ih rs h.2]
 rw [this _ _ h2]
 exact ζiu hb hx
theorem ζme (k : Nat) (b : List Int) (hb : Byt b) (rs : List RP) (hok : ∀ r, r ∈ rs → r.ok) (hrl : rs.length < 2 ^ 31) (hl : b.length < 2 ^ 31) (id : Int) (H : Heap) :
  R (T k) F.ζ1h [tabRV b rs, .int .i64 id] H = .ok (.tuple #[.int .i64 ((refGetS b rs id).getD 0), .bool (refGetS b rs id).isSome]) H := by
 rw [ζf2]
 obtain ⟨B, hB⟩ : ∃ B : Blk, B = ⟨[lv encB b, lv encRP rs], 1, false⟩ := ⟨_, rfl⟩
 have hx0 : Ext H (H.push B) := (Ext.refl H).push _
 obtain ⟨x, e', H1, hr, hx, hq⟩ := loop_up (body := ζ5z k (R (T k))) rs.length
  (fun j e H' => e = [(1, .int .i64 id), (2, .pointer (some ⟨H.n, 0, none⟩)), (6, .int .i64 j)] ∧ Ext (H.push B) H' ∧ refGetS b rs id = refGetS b (rs.drop j) id)
  (fun x e H' => Ext H H' ∧ ((x = .ret ∧ ∃ n, e = [(4, .int .i64 n), (5, .bool true)] ∧ refGetS b rs id = some n) ∨ (x = .exit 0 ∧ (∃ a c, e = [(1, .int .i64 id), (2, .pointer (some ⟨H.n, 0, none⟩)), (6, a), (12, c)]) ∧ refGetS b rs id = none)))
  (e0 := [(1, .int .i64 id), (2, .pointer (some ⟨H.n, 0, none⟩)), (6, .int .i64 0)]) (H0 := H.push B) ⟨rfl, Ext.refl _, rfl⟩ (by omega)
  (fun j e H' hj ⟨he, hx, hg⟩ => by
   subst he
   have hlt : (j : Int) < rs.length := by omega
   obtain ⟨r, hr⟩ : ∃ r, rs[j]? = some r := ⟨_, List.getElem?_eq_getElem hj⟩
   have hrok := hok r (List.mem_of_getElem? hr)
   obtain ⟨o1, o2, o3, o4, o5, o6, o7, o8, o9, o10⟩ := hrok
   have i1 := fun H' => ixS_lvN ζ6i rs .i64 j r hr H'
   have hget : H'.get H.n = some ⟨[lv encB b, lv encRP rs], 1, false⟩ := hx.get (by rw [ζc _ _ _ rfl, hB])
   have hne : ¬ H.n = H'.n := by have := Heap.get_lt hget; omega
   have hx2 : Ext H' (H'.push ⟨encRP r, 1, false⟩) := (Ext.refl H').push _
   have hdrop : rs.drop j = r :: rs.drop (j + 1) := by
    obtain ⟨h1, h2⟩ := List.getElem?_eq_some_iff.1 hr
    rw [List.drop_eq_getElem_cons h1, h2]
   rw [hdrop] at hg
   unfold refGetS at hg
   rw [List.find?_cons] at hg
   by_cases h1 : r.first ≤ id
   ·by_cases h2 : id ≤ r.last
    ·rw [decide_eq_true (show r.first ≤ id ∧ id ≤ r.last from ⟨h1, h2⟩)] at hg
     dsimp only at hg
     have hm0 : 0 ≤ (id - r.first) * r.step := Int.mul_nonneg (by omega) o7
     have hm1 : (id - r.first) * r.step ≤ 65540 * 4 := Int.mul_le_mul (by omega) (by omega) (by omega) (by omega)
     have hu := fun H' => refU_run k (H := H') (Sl.lv H' 1 b) hb (r.pos + (id - r.first) * r.step) r.size (by omega) (by omega)
     refine .inr ⟨.ret, _, H'.push ⟨encRP r, 1, false⟩, ?_, by simp, hx0.trans (hx.trans hx2), .inl ⟨rfl, gU b (r.pos + (id - r.first) * r.step) r.size, rfl, hg⟩⟩
     rw [ζ2n]
     unfold gU
     simp -implicitDefEqProofs (disch := omega) [hlt, i1, hget, hne, h1, h2, hu]
    ·rw [decide_eq_false (fun h => h2 h.2)] at hg
     refine .inl ⟨_, H'.push ⟨encRP r, 1, false⟩, ?_, rfl, hx.trans hx2, hg⟩
     rw [ζ2n]
     simp -implicitDefEqProofs (disch := omega) [hlt, i1, hget, hne, h1, h2]
   ·rw [decide_eq_false (fun h => h1 h.1)] at hg
    refine .inl ⟨_, H'.push ⟨encRP r, 1, false⟩, ?_, rfl, hx.trans hx2, hg⟩
    rw [ζ2n]
    simp -implicitDefEqProofs (disch := omega) [hlt, i1, hget, hne, h1])
  (fun e H' ⟨he, hx, hg⟩ => by
   subst he
   have hget : H'.get H.n = some ⟨[lv encB b, lv encRP rs], 1, false⟩ := hx.get (by rw [ζc _ _ _ rfl, hB])
   refine ⟨.exit 0, _, H', ?_, by simp, hx0.trans hx, .inr ⟨rfl, ⟨.int .i64 rs.length, .bool false, rfl⟩, by rw [hg, List.drop_length]; rfl⟩⟩
   rw [ζ2n]
   simp -implicitDefEqProofs [hget])
 rw [hB] at hr
 rcases hq with ⟨rfl, n, rfl, hg⟩ | ⟨rfl, ⟨a, c, rfl⟩, hg⟩
 ·rw [hg]
  refine nrm_gc ⟨H1, ?_, hx⟩ (Flat.tupleL (.cons (.int _ _) (.cons (.bool _) .nil))).alive
  simp -implicitDefEqProofs [ζ1h, hr, ζbh]
 ·rw [hg]
  refine nrm_gc ⟨H1, ?_, hx⟩ (Flat.tupleL (.cons (.int _ _) (.cons (.bool _) .nil))).alive
  simp -implicitDefEqProofs [ζ1h, hr, ζas]
end Go.Sw
end
section
namespace Go.Sw
open Go.RowKit
theorem ζ2b {b rv : List Int} {j : Int} : restS b j = some rv ↔ (0 ≤ j ∧ j ≤ b.length) ∧ rv = b.drop j.toNat := by
 unfold restS
 split
 ·rename_i h
  exact ⟨fun e => by injection e with e; exact ⟨h, e.symm⟩, fun e => by rw [e.2]⟩
 ·rename_i h
  exact ⟨fun e => (by cases e), fun e => absurd e.1 h⟩
theorem ζ8t {b rv : List Int} {j : Int} (h : restS b j = some rv) : (rv.length : Int) = b.length - j := by
 obtain ⟨h1, rfl⟩ := ζ2b.1 h
 simp
 omega
theorem uS_rest {b rv : List Int} {j : Int} (h : restS b j = some rv) {x : Int} (hx : 0 ≤ x) (z : Int) : uS rv x z = uS b (j + x) z := by
 have hl := ζ8t h
 obtain ⟨h1, rfl⟩ := ζ2b.1 h
 unfold uS pieceS
 by_cases hc : 0 ≤ z ∧ x ≤ b.length - j ∧ z ≤ b.length - j - x
 ·rw [if_pos (by omega), if_pos (by omega), List.drop_drop, show j.toNat + x.toNat = (j + x).toNat by omega]
 ·rw [if_neg (by omega), if_neg (by omega)]
def needsS (b : List Int) (i step : Int) (n : Nat) : Int := needL ((List.range n).map fun j => gU b (i + (j : Nat) * step) 2)
theorem rowK_iff {rv : List Int} {n : Int} (hn : 0 < n) {k : Nat} : (rowK rv n k).isSome = true ↔ 2 * n * (k + 1) ≤ rv.length := by
 unfold rowK
 rw [ζ8o (by omega), ζag (by omega)]
 have h0 : 0 ≤ 2 * n * (k : Int) := Int.mul_nonneg (by omega) (by omega)
 have h1 : 2 * n * ((k : Int) + 1) = 2 * n * k + 2 * n := by rw [Int.mul_add]; omega
 constructor
 ·rintro ⟨_, _, _, h⟩; omega
 ·intro h; exact ⟨h0, by omega, by omega, by omega⟩
theorem row_at {b rv : List Int} {j : Int} (h : restS b j = some rv) {n : Int} {k : Nat} {r : List Int} (hn : 0 < n) (hr : rowK rv n k = some r) : r = (List.range n.toNat).map fun i => gU b (j + (n * k + (i : Nat)) * 2) 2 := by
 have hs := (rowK_iff (rv := rv) (k := k) hn).1 (by rw [hr]; rfl)
 have hr' := hr
 unfold rowK listS at hr'
 obtain ⟨q, hq, hqr⟩ := Option.map_eq_some_iff.1 hr'
 have hlen : r.length = n.toNat := by rw [← hqr]; simp
 have hk0 : 0 ≤ n * (k : Int) := Int.mul_nonneg (by omega) (by omega)
 apply List.ext_getElem?
 intro i
 by_cases hi : i < n.toNat
 ·rw [ζit (by omega) hr i (by omega), List.getElem?_map, List.getElem?_range hi, uS_rest h (by rw [Int.mul_assoc]; omega)]
  have e : j + (2 * n * (k : Int) + (i : Int) * 2) = j + (n * k + (i : Nat)) * 2 := by rw [Int.mul_assoc, Int.add_mul]; omega
  rw [e]
  have hlen := ζ8t h
  have hj := (ζ2b.1 h).1
  have h1 : 2 * n * ((k : Int) + 1) = 2 * (n * k) + 2 * n := by rw [Int.mul_add, Int.mul_assoc]; omega
  obtain ⟨x, hx⟩ : ∃ x, uS b (j + (n * k + (i : Nat)) * 2) 2 = some x := uS_of_in (by unfold inS; exact decide_eq_true (by rw [Int.add_mul]; omega))
  rw [hx, Option.map_some, gU_some hx]
 ·rw [List.getElem?_eq_none (by omega), List.getElem?_eq_none (by simp; omega)]
theorem ζeq {b rv : List Int} {j : Int} (h : restS b j = some rv) {n : Int} (hn : 0 < n) : ∀ {s : Nat} {rs : List (List Int)}, rowsTo rv n s = some rs → rs.flatten = (List.range (s * n.toNat)).map fun (i : Nat) => gU b (j + (i : Int) * 2) 2
 | 0, rs, hr => by injection hr with hr; subst hr; simp
 | s + 1, rs, hr => by
  unfold rowsTo at hr
  rw [ζ83] at hr
  obtain ⟨rs', h1, hr⟩ := Option.bind_eq_some_iff.1 hr
  obtain ⟨r, h2, rfl⟩ := Option.map_eq_some_iff.1 hr
  rw [List.flatten_append, ζeq h hn h1, Nat.succ_mul, List.range_add, List.map_append]
  congr 1
  simp only [List.flatten_cons, List.flatten_nil, List.append_nil, row_at h hn h2, List.map_map]
  apply List.map_congr_left
  intro i _
  simp only [Function.comp]
  congr 2
  have : ((s * n.toNat + i : Nat) : Int) = n * s + i := by
   obtain ⟨m, rfl⟩ := Int.eq_ofNat_of_zero_le (Int.le_of_lt hn)
   simp [Int.mul_comm]
  rw [this]
theorem ζlh {b rv : List Int} {j : Int} (h : restS b j = some rv) {n : Int} (hn : 0 < n) {s : Nat} {rs : List (List Int)} (hr : rowsTo rv n s = some rs) : needsS b j 2 (s * n.toNat) = needR rs := by
 unfold needsS needR
 rw [ζeq h hn hr]
theorem ζli {b rv : List Int} {j : Int} (h : restS b j = some rv) {n : Int} (hn : 0 < n) {s : Nat} (hs : 0 < s) : (rowsTo rv n s).isSome = rowsB b.length j s (2 * n) := by
 have hl := ζ8t h
 have hj := (ζ2b.1 h).1
 rw [Bool.eq_iff_iff, ζag (by omega)]
 have e : (s : Int) * (2 * n) = 2 * n * s := Int.mul_comm _ _
 constructor
 ·intro hsome
  obtain ⟨rs, hrs⟩ := Option.isSome_iff_exists.1 hsome
  obtain ⟨y, hy, _⟩ := mapO_at hrs (i := s - 1) (by omega)
  have := (rowK_iff (rv := rv) (k := s - 1) hn).1 (by rw [hy]; rfl)
  rw [show (((s - 1 : Nat) : Int) + 1) = s by omega] at this
  exact ⟨hj.1, by omega, hj.2, by omega⟩
 ·rintro ⟨_, _, _, h4⟩
  obtain ⟨r, hr⟩ := ζ9m (f := rowK rv n) (n := s) fun i hi => by
   rw [rowK_iff hn]
   have : 2 * n * ((i : Int) + 1) ≤ 2 * n * s := Int.mul_le_mul_of_nonneg_left (by omega) (by omega)
   omega
  exact Option.isSome_iff_exists.2 ⟨r, hr⟩
theorem entK_iff {ev : List Int} {w : Int} (hw : 0 ≤ w) {k : Nat} : (entK ev w k).isSome = true ↔ (4 + 2 * w) * (k + 1) ≤ ev.length := by
 unfold entK
 rw [Option.isSome_map, ζdm]
 unfold inS
 rw [decide_eq_true_eq]
 have h0 : 0 ≤ (4 + 2 * w) * (k : Int) := Int.mul_nonneg (by omega) (by omega)
 have h1 : (4 + 2 * w) * ((k : Int) + 1) = (4 + 2 * w) * k + (4 + 2 * w) := by rw [Int.mul_add]; omega
 omega
theorem ζkt {b ev : List Int} {q : Int} (h : restS b q = some ev) {w : Int} (hw : 0 ≤ w) (s : Nat) : (entsTo ev w s).isSome = rowsB b.length q s (4 + 2 * w) := by
 have hl := ζ8t h
 have hj := (ζ2b.1 h).1
 rw [Bool.eq_iff_iff, ζag (by omega)]
 have e : (s : Int) * (4 + 2 * w) = (4 + 2 * w) * s := Int.mul_comm _ _
 constructor
 ·intro hsome
  obtain ⟨rs, hrs⟩ := Option.isSome_iff_exists.1 hsome
  refine ⟨hj.1, by omega, hj.2, ?_⟩
  by_cases h0 : s = 0
  ·subst h0; simp; omega
  ·obtain ⟨y, hy, _⟩ := mapO_at hrs (i := s - 1) (by omega)
   have := (entK_iff (ev := ev) (k := s - 1) hw).1 (by rw [hy]; rfl)
   rw [show (((s - 1 : Nat) : Int) + 1) = s by omega] at this
   omega
 ·rintro ⟨_, _, _, h4⟩
  obtain ⟨r, hr⟩ := ζ9m (f := entK ev w) (n := s) fun i hi => by
   rw [entK_iff hw]
   have : (4 + 2 * w) * ((i : Int) + 1) ≤ (4 + 2 * w) * s := Int.mul_le_mul_of_nonneg_left (by omega) (by omega)
   omega
  exact Option.isSome_iff_exists.2 ⟨r, hr⟩
theorem ent_at {b ev : List Int} {q : Int} (h : restS b q = some ev) {w : Int} (hw : 0 ≤ w ∧ w ≤ 2) {k : Nat} {e : En} (he : entK ev w k = some e) :
  e = ⟨gU b (q + (k : Int) * (4 + 2 * w)) 2, gU b (q + (k : Int) * (4 + 2 * w) + 2) 2, if 0 < w then gU b (q + (k : Int) * (4 + 2 * w) + 4) 2 else 0, if 1 < w then gU b (q + (k : Int) * (4 + 2 * w) + 6) 2 else 0⟩ := by
 unfold entK at he
 obtain ⟨r, hr, rfl⟩ := Option.map_eq_some_iff.1 he
 have h0 : 0 ≤ (4 + 2 * w) * (k : Int) := Int.mul_nonneg (by omega) (by omega)
 have sub : ∀ x, 0 ≤ x → x + 2 ≤ 4 + 2 * w → gU r x 2 = gU b (q + (k : Int) * (4 + 2 * w) + x) 2 := fun x hx hx2 => by
  unfold gU
  rw [uS_sub hr hx (by omega) hx2, uS_rest h (by omega), Int.mul_comm (k : Int), Int.add_assoc]
 have s0 := sub 0 (by omega) (by omega)
 rw [Int.add_zero] at s0
 unfold entOf
 rw [s0, sub 2 (by omega) (by omega)]
 congr 1
 ·by_cases h1 : 0 < w
  ·rw [if_pos h1, if_pos h1, sub 4 (by omega) (by omega)]
  ·rw [if_neg h1, if_neg h1]
 ·by_cases h1 : 1 < w
  ·rw [if_pos h1, if_pos h1, sub 6 (by omega) (by omega)]
  ·rw [if_neg h1, if_neg h1]
theorem ζks {b ev : List Int} {q : Int} (h : restS b q = some ev) {w : Int} (hw : 0 ≤ w ∧ w ≤ 2) {s : Nat} {es : List En} (hr : entsTo ev w s = some es) : needsS b q (4 + 2 * w) s = needL (es.map En.next) := by
 unfold needsS
 congr 1
 apply List.ext_getElem?
 intro i
 have hl := mapO_len hr
 rw [List.length_range] at hl
 by_cases hi : i < s
 ·obtain ⟨y, h1, h2⟩ := mapO_at hr hi
  rw [List.getElem?_map, List.getElem?_map, List.getElem?_range hi, h2, Option.map_some, Option.map_some, ent_at h hw h1]
 ·rw [List.getElem?_eq_none (by simp; omega), List.getElem?_eq_none (by simp; omega)]
theorem ζl6 {rv : List Int} {n : Int} {s t : Nat} (hst : s ≤ t) {rs rt : List (List Int)} (h1 : rowsTo rv n s = some rs) (h2 : rowsTo rv n t = some rt) : needR rs ≤ needR rt := by
 have h3 := ζck hst h2
 have h4 : mapO (rowK rv n) (List.range s) = some rs := h1
 rw [h4] at h3
 injection h3 with h3
 rw [h3]
 have := List.take_append_drop s rt
 conv => rhs; rw [← this]
 unfold needR
 rw [List.flatten_append, ζ51]
 omega
structure RMach where
 b : List Int
 cl : Int
 rowsAt : Int
 entsAt : Int
 states : Int
 n : Int
 words : Int
 tb : List Int
 parts : List RP
def rmOf (b : List Int) (g w : Int) (m : Mach) : RMach :=
 ⟨b, m.classes, gU b 8 4, gU b 12 4, m.rows.length, m.ents.length, w, b.drop (gU b 4 4).toNat, (refReadS (b.drop (gU b 4 4).toNat) g 2).getD []⟩
def refMachS (b : List Int) (g w : Int) : Option RMach := (machS b g w).map (rmOf b g w)
theorem ζci {b : List Int} {g w : Int} {m : Mach} (h : machS b g w = some m) : ∃ i j q tb rv ev x, uS b 0 4 = some m.classes ∧ 4 ≤ m.classes ∧ m.classes ≤ 65535 ∧ uS b 4 4 = some i ∧ restS b i = some tb ∧ lookS tb g 2 = some m.tab ∧
  uS b 8 4 = some j ∧ restS b j = some rv ∧ uS b 12 4 = some q ∧ restS b q = some ev ∧ closeA rv ev m.classes w 2 = some x ∧ m.rows = x.1 ∧ m.ents = x.2 := by
 unfold machS at h
 obtain ⟨n, h0, h⟩ := Option.bind_eq_some_iff.1 h
 split at h
 rotate_left
 ·cases h
 rename_i hn
 obtain ⟨i, h1, h⟩ := Option.bind_eq_some_iff.1 h
 obtain ⟨tb, h2, h⟩ := Option.bind_eq_some_iff.1 h
 obtain ⟨tab, h3, h⟩ := Option.bind_eq_some_iff.1 h
 obtain ⟨j, h4, h⟩ := Option.bind_eq_some_iff.1 h
 obtain ⟨rv, h5, h⟩ := Option.bind_eq_some_iff.1 h
 obtain ⟨k, h6, h⟩ := Option.bind_eq_some_iff.1 h
 obtain ⟨ev, h7, h⟩ := Option.bind_eq_some_iff.1 h
 obtain ⟨x, h8, rfl⟩ := Option.map_eq_some_iff.1 h
 exact ⟨i, j, k, tb, rv, ev, x, h0, hn.1, hn.2, h1, h2, h3, h4, h5, h6, h7, h8, rfl, rfl⟩
end Go.Sw
end
section
namespace Go.Sw
open Go.RowKit
def planRoom (p : Plan) (w : Int) (rm : List Int) : List Int :=
 bytesOf (planN p : Int) 4 ++ (bytesOf (16 + rm.length : Int) 4 ++ (bytesOf (16 + rm.length + (ofS p.cls).length : Int) 4 ++ (bytesOf (16 + rm.length + (ofS p.cls).length + (rowsL (planN p) p.rows).length : Int) 4 ++ (rm ++ (ofS p.cls ++ (rowsL (planN p) p.rows ++ entsB w p.ents))))))
theorem ζby (p : Plan) (w : Int) (room : Nat) : planBytes p w room = planRoom p w (List.replicate room 0) := by
 unfold planBytes planRoom
 simp [List.append_assoc]
end Go.Sw
end
section
set_option maxRecDepth 100000
set_option linter.unusedVariables false
namespace Go.Sw
noncomputable section
def ζ20 (k : Nat) (call : Caller) : Env → Heap → Res (AExit × Env) := loopB (C k) call F.ζ7 [1, 1, 1, 1, 1, 1, 1, 0, 0, 0]
def ζ4n (k : Nat) (call : Caller) : Kont Value := kBlock 0 (kSeq (pieceK (C k) call F.ζ7 [1, 1, 1, 1, 1, 1, 1, 1]) (kDone Prog (resOf Prog F.ζ7)))
def ζ8i (k : Nat) (call : Caller) (a0 a6 a8 a11 a12 a13 : Value) (h : Heap) : Res (AExit × Env) :=
 kSeq (pieceK (C k) call F.ζ7 [1, 1, 1, 1, 1, 1, 1, 0, 0, 0, 1, 0, 1, 1, 1]) (kBlock 1 (kRound (ownOf (C k) F.ζ7 [1, 1, 1, 1, 1, 1, 1, 0, 0, 0]))) .normal [(0, a0), (6, a6), (8, a8), (11, a11), (12, a12), (13, a13)] h
def ζ8j (k : Nat) (call : Caller) (a0 a6 a8 a11 a12 a13 a93 : Value) (h : Heap) : Res (AExit × Env) :=
 kSeq (pieceK (C k) call F.ζ7 [1, 1, 1, 1, 1, 1, 1, 0, 0, 0, 1, 0, 1, 1, 1]) (kBlock 1 (kRound (ownOf (C k) F.ζ7 [1, 1, 1, 1, 1, 1, 1, 0, 0, 0]))) .normal [(0, a0), (6, a6), (8, a8), (11, a11), (12, a12), (13, a13), (93, a93)] h
def ζ58 (k : Nat) (call : Caller) (a0 a6 a8 a11 a12 a13 : Value) (h : Heap) : Res (AExit × Env) :=
 kSeq (pieceK (C k) call F.ζ7 [1, 1, 1, 1, 1, 1, 1, 0, 0, 0, 1, 0, 1, 1, 1, 1]) (kBlock 1 (kRound (ownOf (C k) F.ζ7 [1, 1, 1, 1, 1, 1, 1, 0, 0, 0]))) .normal [(0, a0), (6, a6), (8, a8), (11, a11), (12, a12), (13, a13)] h
def ζ59 (k : Nat) (call : Caller) (a0 a6 a8 a11 a12 a13 a115 : Value) (h : Heap) : Res (AExit × Env) :=
 kSeq (pieceK (C k) call F.ζ7 [1, 1, 1, 1, 1, 1, 1, 0, 0, 0, 1, 0, 1, 1, 1, 1]) (kBlock 1 (kRound (ownOf (C k) F.ζ7 [1, 1, 1, 1, 1, 1, 1, 0, 0, 0]))) .normal [(0, a0), (6, a6), (8, a8), (11, a11), (12, a12), (13, a13), (115, a115)] h
def ζ7 (k : Nat) (call : Caller) (a0 a1 a2 : Value) (h : Heap) : Res Value :=
 (allocR Prog 137 h).bind fun v1 h2 =>
 (call F.ζ1 [a0, (.int .i64 0), (.int .i64 4)] h2).bind fun v3 h4 =>
 (call F.ζ1 [a0, (.int .i64 8), (.int .i64 4)] h4).bind fun v5 h6 =>
 (call F.ζ1 [a0, (.int .i64 12), (.int .i64 4)] h6).bind fun v7 h8 =>
 (buildR Prog 137 [(0, a0), (1, v3), (2, v5), (3, v7), (4, (.int .i64 2)), (6, a2)] h8).bind fun v9 h10 =>
 (allocR Prog 137 h10).bind fun v11 h12 =>
 (storeR Prog 137 v11 v9 h12).bind fun _v13 h14 =>
 (call F.ζ1 [a0, (.int .i64 4), (.int .i64 4)] h14).bind fun v15 h16 =>
 (fieldAddrR Prog 137 v11 1 h16).bind fun v17 h18 =>
 (loadR Prog 3 v17 h18).bind fun v19 h20 =>
 (binR Prog .lss 3 v19 (.int .i64 4) h20).bind fun v21 h22 =>
 ((bif wantVal v21 false then fieldAddrR Prog 137 v11 1 h22 else Res.ok undef h22)).bind fun v23 h24 =>
 ((bif wantVal v21 false then loadR Prog 3 v23 h24 else Res.ok undef h24)).bind fun v25 h26 =>
 ((bif wantVal v21 false then binR Prog .gtr 3 v25 (.int .i64 65535) h26 else Res.ok undef h26)).bind fun v27 h28 =>
 (condV (some v21) (Res.ok (.bool true) h28) (Res.ok v27 h28)).bind fun v29 h30 =>
 ((bif wantVal v29 false then fieldAddrR Prog 137 v11 2 h30 else Res.ok undef h30)).bind fun v31 h32 =>
 ((bif wantVal v29 false then loadR Prog 3 v31 h32 else Res.ok undef h32)).bind fun v33 h34 =>
 ((bif wantVal v29 false then binR Prog .lss 3 v33 (.int .i64 0) h34 else Res.ok undef h34)).bind fun v35 h36 =>
 (condV (some v29) (Res.ok (.bool true) h36) (Res.ok v35 h36)).bind fun v37 h38 =>
 ((bif wantVal v37 false then fieldAddrR Prog 137 v11 3 h38 else Res.ok undef h38)).bind fun v39 h40 =>
 ((bif wantVal v37 false then loadR Prog 3 v39 h40 else Res.ok undef h40)).bind fun v41 h42 =>
 ((bif wantVal v37 false then binR Prog .lss 3 v41 (.int .i64 0) h42 else Res.ok undef h42)).bind fun v43 h44 =>
 (condV (some v37) (Res.ok (.bool true) h44) (Res.ok v43 h44)).bind fun v45 h46 =>
 ((bif wantVal v45 false then fieldAddrR Prog 137 v11 2 h46 else Res.ok undef h46)).bind fun v47 h48 =>
 ((bif wantVal v45 false then loadR Prog 3 v47 h48 else Res.ok undef h48)).bind fun v49 h50 =>
 ((bif wantVal v45 false then Res.ok a0 h50 else Res.ok undef h50)).bind fun v51 h52 =>
 ((bif wantVal v45 false then builtinV Prog .len [65] [v51] h52 else Res.ok undef h52)).bind fun v53 h54 =>
 ((bif wantVal v45 false then binR Prog .gtr 3 v49 v53 h54 else Res.ok undef h54)).bind fun v55 h56 =>
 (condV (some v45) (Res.ok (.bool true) h56) (Res.ok v55 h56)).bind fun v57 h58 =>
 ((bif wantVal v57 false then fieldAddrR Prog 137 v11 3 h58 else Res.ok undef h58)).bind fun v59 h60 =>
 ((bif wantVal v57 false then loadR Prog 3 v59 h60 else Res.ok undef h60)).bind fun v61 h62 =>
 ((bif wantVal v57 false then Res.ok a0 h62 else Res.ok undef h62)).bind fun v63 h64 =>
 ((bif wantVal v57 false then builtinV Prog .len [65] [v63] h64 else Res.ok undef h64)).bind fun v65 h66 =>
 ((bif wantVal v57 false then binR Prog .gtr 3 v61 v65 h66 else Res.ok undef h66)).bind fun v67 h68 =>
 (condV (some v57) (Res.ok (.bool true) h68) (Res.ok v67 h68)).bind fun v69 h70 =>
 ((bif wantVal v69 false then Res.ok v15 h70 else Res.ok undef h70)).bind fun v71 h72 =>
 ((bif wantVal v69 false then binR Prog .lss 3 v71 (.int .i64 0) h72 else Res.ok undef h72)).bind fun v73 h74 =>
 (condV (some v69) (Res.ok (.bool true) h74) (Res.ok v73 h74)).bind fun v75 h76 =>
 ((bif wantVal v75 false then Res.ok v15 h76 else Res.ok undef h76)).bind fun v77 h78 =>
 ((bif wantVal v75 false then Res.ok a0 h78 else Res.ok undef h78)).bind fun v79 h80 =>
 ((bif wantVal v75 false then builtinV Prog .len [65] [v79] h80 else Res.ok undef h80)).bind fun v81 h82 =>
 ((bif wantVal v75 false then binR Prog .gtr 3 v77 v81 h82 else Res.ok undef h82)).bind fun v83 h84 =>
 (condV (some v75) (Res.ok (.bool true) h84) (Res.ok v83 h84)).bind fun v85 h86 =>
 condV (some v85) (
 (buildR Prog 137 [] h86).bind fun v87 h88 =>
 (storeR Prog 137 v1 v87 h88).bind fun _v89 h90 =>
 (loadR Prog 137 v1 h90).bind fun v91 h92 =>
 .ok (.tuple #[v91, (.bool false)]) h92)
 (
 (sliceR Prog 65 a0 (some v15) none none h86).bind fun v93 h94 =>
 (call F.ζp [v93, a1, (.int .i64 2)] h94).bind fun v95 h96 =>
 (extractR v95 0 h96).bind fun v97 h98 =>
 (extractR v95 1 h98).bind fun v99 h100 =>
 (allocR Prog 88 h100).bind fun v101 h102 =>
 (storeR Prog 88 v101 v97 h102).bind fun _v103 h104 =>
 (loadR Prog 88 v101 h104).bind fun v105 h106 =>
 (fieldAddrR Prog 137 v11 7 h106).bind fun v107 h108 =>
 (storeR Prog 88 v107 v105 h108).bind fun _v109 h110 =>
 (binR Prog .mul 3 (.int .i64 2) a2 h110).bind fun v111 h112 =>
 (binR Prog .add 3 (.int .i64 4) v111 h112).bind fun v113 h114 =>
 (loopN (ζ20 k call) loopFuel [(0, a0), (6, v1), (8, v11), (11, v99), (12, v113)] h114).bind fun r115 h116 =>
 ζ4n k call r115.1 r115.2 h116)
theorem ζdc (k : Nat) (a0 a1 a2 : Value) (h : Heap) : R (T k) F.ζ7 [a0, a1, a2] h = nrm .fz h (ζ7 k (R (T k)) a0 a1 a2 h) :=
 (R_body (t := T k) (T_scott k) (by kernel_rfl) (by kernel_rfl) _ _).trans (by kernel_rfl)
theorem ζ10 (k : Nat) (call : Caller) (a0 a6 a8 a11 a12 : Value) (h : Heap) : ζ20 k call [(0, a0), (6, a6), (8, a8), (11, a11), (12, a12)] h =
 condV (some a11) (
 (loadR Prog 137 a8 h).bind fun v117 h118 =>
 (allocR Prog 137 h118).bind fun v119 h120 =>
 (storeR Prog 137 v119 v117 h120).bind fun _v121 h122 =>
 (builtinV Prog .len [65] [a0] h122).bind fun v123 h124 =>
 (fieldAddrR Prog 137 a8 2 h124).bind fun v125 h126 =>
 (loadR Prog 3 v125 h126).bind fun v127 h128 =>
 (fieldAddrR Prog 137 a8 4 h128).bind fun v129 h130 =>
 (loadR Prog 3 v129 h130).bind fun v131 h132 =>
 (fieldAddrR Prog 137 a8 1 h132).bind fun v133 h134 =>
 (loadR Prog 3 v133 h134).bind fun v135 h136 =>
 (binR Prog .mul 3 (.int .i64 2) v135 h136).bind fun v137 h138 =>
 (call F.ζl [v123, v127, v131, v137] h138).bind fun v139 h140 =>
 condV (some v139) (
 (fieldAddrR Prog 137 a8 5 h140).bindN fun v141 h142 =>
 (loadR Prog 3 v141 h142).bindN fun v143 h144 =>
 (fieldAddrR Prog 137 a8 2 h144).bindN fun v145 h146 =>
 (loadR Prog 3 v145 h146).bindN fun v147 h148 =>
 (fieldAddrR Prog 137 a8 4 h148).bindN fun v149 h150 =>
 (loadR Prog 3 v149 h150).bindN fun v151 h152 =>
 (fieldAddrR Prog 137 a8 1 h152).bindN fun v153 h154 =>
 (loadR Prog 3 v153 h154).bindN fun v155 h156 =>
 (binR Prog .mul 3 v151 v155 h156).bindN fun v157 h158 =>
 (call F.ζx [a0, v147, v157, (.int .i64 2)] h158).bindT (fun p161 h162 => .panic p161 h162) fun v159 h160 =>
 (builtinV Prog .max [3, 3] [v143, v159] h160).bindN fun v163 h164 =>
 (fieldAddrR Prog 137 a8 5 h164).bindN fun v165 h166 =>
 (storeR Prog 3 v165 v163 h166).bindN fun _v167 h168 =>
 chkR ((okVal (loadR Prog 3 v141 h160) v143 && true) && true) (
 (builtinV Prog .len [65] [a0] h168).bind fun v169 h170 =>
 (fieldAddrR Prog 137 a8 3 h170).bind fun v171 h172 =>
 (loadR Prog 3 v171 h172).bind fun v173 h174 =>
 (fieldAddrR Prog 137 a8 5 h174).bind fun v175 h176 =>
 (loadR Prog 3 v175 h176).bind fun v177 h178 =>
 (call F.ζl [v169, v173, v177, a12] h178).bind fun v179 h180 =>
 ζ8i k call a0 a6 a8 v179 a12 v119 h180))
 (
 ζ8j k call a0 a6 a8 v139 a12 v119 v139 h140))
 (
 .ok ((.exit 0), [(0, a0), (6, a6), (8, a8), (12, a12), (81, a11)]) h) :=
 (loopB_eq _ _).trans (by kernel_rfl)
theorem ζ2e (k : Nat) (call : Caller) (a0 a6 a8 a11 a12 a13 : Value) (h : Heap) : ζ8i k call a0 a6 a8 a11 a12 a13 h =
 condV (some a11) (
 (fieldAddrR Prog 137 a8 4 h).bindN fun v181 h182 =>
 (loadR Prog 3 v181 h182).bindN fun v183 h184 =>
 (fieldAddrR Prog 137 a8 3 h184).bindN fun v185 h186 =>
 (loadR Prog 3 v185 h186).bindN fun v187 h188 =>
 (fieldAddrR Prog 137 a8 5 h188).bindN fun v189 h190 =>
 (loadR Prog 3 v189 h190).bindN fun v191 h192 =>
 (call F.ζx [a0, v187, v191, a12] h192).bindT (fun p195 h196 => .panic p195 h196) fun v193 h194 =>
 (builtinV Prog .max [3, 3] [v183, v193] h194).bindN fun v197 h198 =>
 (fieldAddrR Prog 137 a8 4 h198).bindN fun v199 h200 =>
 (storeR Prog 3 v199 v197 h200).bindN fun _v201 h202 =>
 chkR ((okVal (loadR Prog 3 v181 h194) v183 && true) && true) (
 ζ58 k call a0 a6 a8 a11 a12 a13 h202))
 (
 ζ59 k call a0 a6 a8 a11 a12 a13 a11 h) := by kernel_rfl
theorem ζau (k : Nat) (call : Caller) (a0 a6 a8 a11 a12 a13 a93 : Value) (h : Heap) : ζ8j k call a0 a6 a8 a11 a12 a13 a93 h =
 condV (some a11) (
 (fieldAddrR Prog 137 a8 4 h).bindN fun v203 h204 =>
 (loadR Prog 3 v203 h204).bindN fun v205 h206 =>
 (fieldAddrR Prog 137 a8 3 h206).bindN fun v207 h208 =>
 (loadR Prog 3 v207 h208).bindN fun v209 h210 =>
 (fieldAddrR Prog 137 a8 5 h210).bindN fun v211 h212 =>
 (loadR Prog 3 v211 h212).bindN fun v213 h214 =>
 (call F.ζx [a0, v209, v213, a12] h214).bindT (fun p217 h218 => .panic p217 h218) fun v215 h216 =>
 (builtinV Prog .max [3, 3] [v205, v215] h216).bindN fun v219 h220 =>
 (fieldAddrR Prog 137 a8 4 h220).bindN fun v221 h222 =>
 (storeR Prog 3 v221 v219 h222).bindN fun _v223 h224 =>
 chkR ((okVal (loadR Prog 3 v203 h216) v205 && true) && true) (
 ζ58 k call a0 a6 a8 a11 a12 a13 h224))
 (
 ζ59 k call a0 a6 a8 a11 a12 a13 a11 h) := by kernel_rfl
theorem ζ3i (k : Nat) (call : Caller) (a0 a6 a8 a11 a12 a13 : Value) (h : Heap) : ζ58 k call a0 a6 a8 a11 a12 a13 h =
 ((bif wantVal a11 true then fieldAddrR Prog 137 a8 4 h else Res.ok undef h)).bind fun v225 h226 =>
 ((bif wantVal a11 true then loadR Prog 3 v225 h226 else Res.ok undef h226)).bind fun v227 h228 =>
 ((bif wantVal a11 true then fieldAddrR Prog 137 a13 4 h228 else Res.ok undef h228)).bind fun v229 h230 =>
 ((bif wantVal a11 true then loadR Prog 3 v229 h230 else Res.ok undef h230)).bind fun v231 h232 =>
 ((bif wantVal a11 true then binR Prog .eql 3 v227 v231 h232 else Res.ok undef h232)).bind fun v233 h234 =>
 (condV (some a11) (Res.ok v233 h234) (Res.ok (.bool false) h234)).bind fun v235 h236 =>
 ((bif wantVal v235 true then fieldAddrR Prog 137 a8 5 h236 else Res.ok undef h236)).bind fun v237 h238 =>
 ((bif wantVal v235 true then loadR Prog 3 v237 h238 else Res.ok undef h238)).bind fun v239 h240 =>
 ((bif wantVal v235 true then fieldAddrR Prog 137 a13 5 h240 else Res.ok undef h240)).bind fun v241 h242 =>
 ((bif wantVal v235 true then loadR Prog 3 v241 h242 else Res.ok undef h242)).bind fun v243 h244 =>
 ((bif wantVal v235 true then binR Prog .eql 3 v239 v243 h244 else Res.ok undef h244)).bind fun v245 h246 =>
 (condV (some v235) (Res.ok v245 h246) (Res.ok (.bool false) h246)).bind fun v247 h248 =>
 condV (some v247) (
 (loadR Prog 137 a8 h248).bind fun v249 h250 =>
 (storeR Prog 137 a6 v249 h250).bind fun _v251 h252 =>
 .ok (.ret, [(6, a6), (7, (.bool true))]) h252)
 (
 .ok (.normal, [(0, a0), (6, a6), (8, a8), (11, a11), (12, a12)]) h248) := by kernel_rfl
theorem ζ6g (k : Nat) (call : Caller) (a0 a6 a8 a11 a12 a13 a115 : Value) (h : Heap) : ζ59 k call a0 a6 a8 a11 a12 a13 a115 h =
 ((bif wantVal a11 true then fieldAddrR Prog 137 a8 4 h else Res.ok undef h)).bind fun v253 h254 =>
 ((bif wantVal a11 true then loadR Prog 3 v253 h254 else Res.ok undef h254)).bind fun v255 h256 =>
 ((bif wantVal a11 true then fieldAddrR Prog 137 a13 4 h256 else Res.ok undef h256)).bind fun v257 h258 =>
 ((bif wantVal a11 true then loadR Prog 3 v257 h258 else Res.ok undef h258)).bind fun v259 h260 =>
 ((bif wantVal a11 true then binR Prog .eql 3 v255 v259 h260 else Res.ok undef h260)).bind fun v261 h262 =>
 (condV (some a11) (Res.ok v261 h262) (Res.ok (.bool false) h262)).bind fun v263 h264 =>
 ((bif wantVal v263 true then fieldAddrR Prog 137 a8 5 h264 else Res.ok undef h264)).bind fun v265 h266 =>
 ((bif wantVal v263 true then loadR Prog 3 v265 h266 else Res.ok undef h266)).bind fun v267 h268 =>
 ((bif wantVal v263 true then fieldAddrR Prog 137 a13 5 h268 else Res.ok undef h268)).bind fun v269 h270 =>
 ((bif wantVal v263 true then loadR Prog 3 v269 h270 else Res.ok undef h270)).bind fun v271 h272 =>
 ((bif wantVal v263 true then binR Prog .eql 3 v267 v271 h272 else Res.ok undef h272)).bind fun v273 h274 =>
 (condV (some v263) (Res.ok v273 h274) (Res.ok (.bool false) h274)).bind fun v275 h276 =>
 condV (some v275) (
 (loadR Prog 137 a8 h276).bind fun v277 h278 =>
 (storeR Prog 137 a6 v277 h278).bind fun _v279 h280 =>
 .ok (.ret, [(6, a6), (7, (.bool true))]) h280)
 (
 .ok (.normal, [(0, a0), (6, a6), (8, a8), (11, a11), (12, a12)]) h276) := by kernel_rfl
theorem ζ5t (k : Nat) (call : Caller) (a0 a6 a8 a12 a81 : Value) (h : Heap) : ζ4n k call (.exit 0) [(0, a0), (6, a6), (8, a8), (12, a12), (81, a81)] h =
 (buildR Prog 137 [] h).bind fun v281 h282 =>
 (storeR Prog 137 a6 v281 h282).bind fun _v283 h284 =>
 (loadR Prog 137 a6 h284).bind fun v285 h286 =>
 .ok (.tuple #[v285, (.bool false)]) h286 := by kernel_rfl
theorem ζav (k : Nat) (call : Caller) (a6 a7 : Value) (h : Heap) : ζ4n k call .ret [(6, a6), (7, a7)] h =
 (loadR Prog 137 a6 h).bind fun v287 h288 =>
 .ok (.tuple #[v287, a7]) h288 := by kernel_rfl
def ζ1b (k : Nat) (call : Caller) (a0 a1 : Value) (h : Heap) : Res Value :=
 (boxR a0 h).bind fun v1 h2 =>
 (binR Prog .eql 3 a1 (.int .i64 65535) h2).bind fun v3 h4 =>
 condV (some v3) (
 .ok (.int .i64 2) h4)
 (
 (fieldAddrR Prog 137 v1 7 h4).bind fun v5 h6 =>
 (loadR Prog 88 v5 h6).bind fun v7 h8 =>
 (call F.ζ1h [v7, a1] h8).bind fun v9 h10 =>
 (extractR v9 0 h10).bind fun v11 h12 =>
 (extractR v9 1 h12).bind fun v13 h14 =>
 (unR .not v13 h14).bind fun v15 h16 =>
 ((bif wantVal v15 false then Res.ok v11 h16 else Res.ok undef h16)).bind fun v17 h18 =>
 ((bif wantVal v15 false then fieldAddrR Prog 137 v1 1 h18 else Res.ok undef h18)).bind fun v19 h20 =>
 ((bif wantVal v15 false then loadR Prog 3 v19 h20 else Res.ok undef h20)).bind fun v21 h22 =>
 ((bif wantVal v15 false then binR Prog .geq 3 v17 v21 h22 else Res.ok undef h22)).bind fun v23 h24 =>
 (condV (some v15) (Res.ok (.bool true) h24) (Res.ok v23 h24)).bind fun v25 h26 =>
 condV (some v25) (
 .ok (.int .i64 1) h26)
 (
 .ok v11 h26))
theorem ζcr (k : Nat) (a0 a1 : Value) (h : Heap) : R (T k) F.ζ1b [a0, a1] h = nrm .gc h (ζ1b k (R (T k)) a0 a1 h) :=
 (R_body (t := T k) (T_scott k) (by kernel_rfl) (by kernel_rfl) _ _).trans (by kernel_rfl)
def ζ4o (k : Nat) (call : Caller) : Env → Heap → Res (AExit × Env) := loopB (C k) call F.ζx [1, 1, 0, 1, 0, 0]
def ζ75 (k : Nat) (call : Caller) : Kont Value := kBlock 0 (kSeq (pieceK (C k) call F.ζx [1, 1, 1]) (kDone Prog (resOf Prog F.ζx)))
def ζx (k : Nat) (call : Caller) (a0 a1 a2 a3 : Value) (h : Heap) : Res Value :=
 (loopN (ζ4o k call) loopFuel [(0, a0), (1, a1), (2, a2), (3, a3), (9, (.int .i64 0)), (10, (.int .i64 0))] h).bind fun r1 h2 =>
 ζ75 k call r1.1 r1.2 h2
theorem ζct (k : Nat) (a0 a1 a2 a3 : Value) (h : Heap) : R (T k) F.ζx [a0, a1, a2, a3] h = nrm .gc h (ζx k (R (T k)) a0 a1 a2 a3 h) :=
 (R_body (t := T k) (T_scott k) (by kernel_rfl) (by kernel_rfl) _ _).trans (by kernel_rfl)
theorem ζ5u (k : Nat) (call : Caller) (a0 a1 a2 a3 a9 a10 : Value) (h : Heap) : ζ4o k call [(0, a0), (1, a1), (2, a2), (3, a3), (9, a9), (10, a10)] h =
 (binR Prog .lss 3 a10 a2 h).bind fun v3 h4 =>
 condV (some v3) (
 (binR Prog .mul 3 a10 a3 h4).bind fun v5 h6 =>
 (binR Prog .add 3 a1 v5 h6).bind fun v7 h8 =>
 (call F.ζ1 [a0, v7, (.int .i64 2)] h8).bind fun v9 h10 =>
 (binR Prog .add 3 v9 (.int .i64 1) h10).bind fun v11 h12 =>
 (builtinV Prog .max [3, 3] [a9, v11] h12).bind fun v13 h14 =>
 (binR Prog .add 3 a10 (.int .i64 1) h14).bind fun v15 h16 =>
 .ok (.normal, [(0, a0), (1, a1), (2, a2), (3, a3), (9, v13), (10, v15)]) h16)
 (
 .ok ((.exit 0), [(0, a0), (1, a1), (2, a2), (3, a3), (9, a9), (10, a10), (13, v3)]) h4) :=
 (loopB_eq _ _).trans (by kernel_rfl)
theorem ζ9c (k : Nat) (call : Caller) (a0 a1 a2 a3 a9 a10 a13 : Value) (h : Heap) : ζ75 k call (.exit 0) [(0, a0), (1, a1), (2, a2), (3, a3), (9, a9), (10, a10), (13, a13)] h =
 .ok a9 h := by kernel_rfl
def ζ7q (k : Nat) (call : Caller) (a2 a4 a5 a6 : Value) (h : Heap) : Res Value :=
 kSeq (pieceK (C k) call F.ζh [1, 1, 1, 1]) (kDone Prog (resOf Prog F.ζh)) .normal [(2, a2), (4, a4), (5, a5), (6, a6)] h
def ζ7r (k : Nat) (call : Caller) (a2 a4 a5 a6 a28 : Value) (h : Heap) : Res Value :=
 kSeq (pieceK (C k) call F.ζh [1, 1, 1, 1]) (kDone Prog (resOf Prog F.ζh)) .normal [(2, a2), (4, a4), (5, a5), (6, a6), (28, a28)] h
def ζ4l (k : Nat) (call : Caller) (a4 a6 : Value) (h : Heap) : Res Value :=
 kSeq (pieceK (C k) call F.ζh [1, 1, 1, 1, 1]) (kDone Prog (resOf Prog F.ζh)) .normal [(4, a4), (6, a6)] h
def ζ4m (k : Nat) (call : Caller) (a2 a4 a5 a6 a37 : Value) (h : Heap) : Res Value :=
 kSeq (pieceK (C k) call F.ζh [1, 1, 1, 1, 1]) (kDone Prog (resOf Prog F.ζh)) .normal [(2, a2), (4, a4), (5, a5), (6, a6), (37, a37)] h
def ζh (k : Nat) (call : Caller) (a0 a1 : Value) (h : Heap) : Res Value :=
 (boxR a0 h).bind fun v1 h2 =>
 (allocR Prog 150 h2).bind fun v3 h4 =>
 (fieldAddrR Prog 137 v1 3 h4).bind fun v5 h6 =>
 (loadR Prog 3 v5 h6).bind fun v7 h8 =>
 (fieldAddrR Prog 137 v1 6 h8).bind fun v9 h10 =>
 (loadR Prog 3 v9 h10).bind fun v11 h12 =>
 (binR Prog .mul 3 (.int .i64 2) v11 h12).bind fun v13 h14 =>
 (binR Prog .add 3 (.int .i64 4) v13 h14).bind fun v15 h16 =>
 (binR Prog .mul 3 a1 v15 h16).bind fun v17 h18 =>
 (binR Prog .add 3 v7 v17 h18).bind fun v19 h20 =>
 (fieldAddrR Prog 137 v1 0 h20).bindN fun v21 h22 =>
 (loadR Prog 65 v21 h22).bindN fun v23 h24 =>
 (call F.ζ1 [v23, v19, (.int .i64 2)] h24).bindT (fun p27 h28 => (fieldAddrR Prog 137 v1 0 h24).bindN fun v29 h30 => (loadR Prog 65 v29 h30).bindN fun v31 h32 => (binR Prog .add 3 v19 (.int .i64 2) h32).bindN fun v33 h34 => (allocR Prog 150 h34).bindN fun v35 h36 => chkR ((okVal (loadR Prog 65 v29 h20) v31 && true) && true) (.panic p27 h28)) fun v25 h26 =>
 (fieldAddrR Prog 137 v1 0 h26).bindN fun v37 h38 =>
 (loadR Prog 65 v37 h38).bindN fun v39 h40 =>
 (binR Prog .add 3 v19 (.int .i64 2) h40).bindN fun v41 h42 =>
 (call F.ζ1 [v39, v41, (.int .i64 2)] h42).bindT (fun p45 h46 => (allocR Prog 150 h42).bindN fun v47 h48 => chkR ((okVal (loadR Prog 65 v37 h20) v39 && true) && true) (.panic p45 h46)) fun v43 h44 =>
 (buildR Prog 150 [(0, v25), (1, v43)] h44).bindN fun v49 h50 =>
 (allocR Prog 150 h50).bindN fun v51 h52 =>
 (storeR Prog 150 v51 v49 h52).bindN fun _v53 h54 =>
 chkR ((okVal (loadR Prog 65 v37 h20) v39 && true) && true) (
 (fieldAddrR Prog 137 v1 6 h54).bind fun v55 h56 =>
 (loadR Prog 3 v55 h56).bind fun v57 h58 =>
 (binR Prog .gtr 3 v57 (.int .i64 0) h58).bind fun v59 h60 =>
 condV (some v59) (
 (fieldAddrR Prog 137 v1 0 h60).bind fun v61 h62 =>
 (loadR Prog 65 v61 h62).bind fun v63 h64 =>
 (binR Prog .add 3 v19 (.int .i64 4) h64).bind fun v65 h66 =>
 (call F.ζ1 [v63, v65, (.int .i64 2)] h66).bind fun v67 h68 =>
 (fieldAddrR Prog 150 v51 2 h68).bind fun v69 h70 =>
 (storeR Prog 3 v69 v67 h70).bind fun _v71 h72 =>
 ζ7q k call v1 v3 v19 v51 h72)
 (
 ζ7r k call v1 v3 v19 v51 v59 h60))
theorem ζcs (k : Nat) (a0 a1 : Value) (h : Heap) : R (T k) F.ζh [a0, a1] h = nrm .gc h (ζh k (R (T k)) a0 a1 h) :=
 (R_body (t := T k) (T_scott k) (by kernel_rfl) (by kernel_rfl) _ _).trans (by kernel_rfl)
theorem ζ5r (k : Nat) (call : Caller) (a2 a4 a5 a6 : Value) (h : Heap) : ζ7q k call a2 a4 a5 a6 h =
 (fieldAddrR Prog 137 a2 6 h).bind fun v73 h74 =>
 (loadR Prog 3 v73 h74).bind fun v75 h76 =>
 (binR Prog .gtr 3 v75 (.int .i64 1) h76).bind fun v77 h78 =>
 condV (some v77) (
 (fieldAddrR Prog 137 a2 0 h78).bind fun v79 h80 =>
 (loadR Prog 65 v79 h80).bind fun v81 h82 =>
 (binR Prog .add 3 a5 (.int .i64 6) h82).bind fun v83 h84 =>
 (call F.ζ1 [v81, v83, (.int .i64 2)] h84).bind fun v85 h86 =>
 (fieldAddrR Prog 150 a6 3 h86).bind fun v87 h88 =>
 (storeR Prog 3 v87 v85 h88).bind fun _v89 h90 =>
 ζ4l k call a4 a6 h90)
 (
 ζ4m k call a2 a4 a5 a6 v77 h78) := by kernel_rfl
theorem ζ9y (k : Nat) (call : Caller) (a2 a4 a5 a6 a28 : Value) (h : Heap) : ζ7r k call a2 a4 a5 a6 a28 h =
 (fieldAddrR Prog 137 a2 6 h).bind fun v91 h92 =>
 (loadR Prog 3 v91 h92).bind fun v93 h94 =>
 (binR Prog .gtr 3 v93 (.int .i64 1) h94).bind fun v95 h96 =>
 condV (some v95) (
 (fieldAddrR Prog 137 a2 0 h96).bind fun v97 h98 =>
 (loadR Prog 65 v97 h98).bind fun v99 h100 =>
 (binR Prog .add 3 a5 (.int .i64 6) h100).bind fun v101 h102 =>
 (call F.ζ1 [v99, v101, (.int .i64 2)] h102).bind fun v103 h104 =>
 (fieldAddrR Prog 150 a6 3 h104).bind fun v105 h106 =>
 (storeR Prog 3 v105 v103 h106).bind fun _v107 h108 =>
 ζ4l k call a4 a6 h108)
 (
 ζ4m k call a2 a4 a5 a6 v95 h96) := by kernel_rfl
theorem ζ9z (k : Nat) (call : Caller) (a4 a6 : Value) (h : Heap) : ζ4l k call a4 a6 h =
 (loadR Prog 150 a6 h).bind fun v109 h110 =>
 (storeR Prog 150 a4 v109 h110).bind fun _v111 h112 =>
 (loadR Prog 150 a4 h112).bind fun v113 h114 =>
 .ok v113 h114 := by kernel_rfl
theorem ζ5s (k : Nat) (call : Caller) (a2 a4 a5 a6 a37 : Value) (h : Heap) : ζ4m k call a2 a4 a5 a6 a37 h =
 (loadR Prog 150 a6 h).bind fun v115 h116 =>
 (storeR Prog 150 a4 v115 h116).bind fun _v117 h118 =>
 (loadR Prog 150 a4 h118).bind fun v119 h120 =>
 .ok v119 h120 := by kernel_rfl
def ζ14 (k : Nat) (call : Caller) (a0 a1 a2 : Value) (h : Heap) : Res Value :=
 (boxR a0 h).bind fun v1 h2 =>
 (allocR Prog 150 h2).bind fun v3 h4 =>
 (binR Prog .lss 3 a1 (.int .i64 0) h4).bind fun v5 h6 =>
 ((bif wantVal v5 false then Res.ok a1 h6 else Res.ok undef h6)).bind fun v7 h8 =>
 ((bif wantVal v5 false then fieldAddrR Prog 137 v1 4 h8 else Res.ok undef h8)).bind fun v9 h10 =>
 ((bif wantVal v5 false then loadR Prog 3 v9 h10 else Res.ok undef h10)).bind fun v11 h12 =>
 ((bif wantVal v5 false then binR Prog .geq 3 v7 v11 h12 else Res.ok undef h12)).bind fun v13 h14 =>
 (condV (some v5) (Res.ok (.bool true) h14) (Res.ok v13 h14)).bind fun v15 h16 =>
 ((bif wantVal v15 false then Res.ok a2 h16 else Res.ok undef h16)).bind fun v17 h18 =>
 ((bif wantVal v15 false then binR Prog .lss 3 v17 (.int .i64 0) h18 else Res.ok undef h18)).bind fun v19 h20 =>
 (condV (some v15) (Res.ok (.bool true) h20) (Res.ok v19 h20)).bind fun v21 h22 =>
 ((bif wantVal v21 false then Res.ok a2 h22 else Res.ok undef h22)).bind fun v23 h24 =>
 ((bif wantVal v21 false then fieldAddrR Prog 137 v1 1 h24 else Res.ok undef h24)).bind fun v25 h26 =>
 ((bif wantVal v21 false then loadR Prog 3 v25 h26 else Res.ok undef h26)).bind fun v27 h28 =>
 ((bif wantVal v21 false then binR Prog .geq 3 v23 v27 h28 else Res.ok undef h28)).bind fun v29 h30 =>
 (condV (some v21) (Res.ok (.bool true) h30) (Res.ok v29 h30)).bind fun v31 h32 =>
 condV (some v31) (
 (buildR Prog 150 [] h32).bind fun v33 h34 =>
 (storeR Prog 150 v3 v33 h34).bind fun _v35 h36 =>
 (loadR Prog 150 v3 h36).bind fun v37 h38 =>
 .ok (.tuple #[v37, (.bool false)]) h38)
 (
 (loadR Prog 137 v1 h32).bindN fun v39 h40 =>
 (fieldAddrR Prog 137 v1 0 h40).bindN fun v41 h42 =>
 (loadR Prog 65 v41 h42).bindN fun v43 h44 =>
 (fieldAddrR Prog 137 v1 2 h44).bindN fun v45 h46 =>
 (loadR Prog 3 v45 h46).bindN fun v47 h48 =>
 (fieldAddrR Prog 137 v1 1 h48).bindN fun v49 h50 =>
 (loadR Prog 3 v49 h50).bindN fun v51 h52 =>
 (binR Prog .mul 3 a1 v51 h52).bindN fun v53 h54 =>
 (binR Prog .add 3 v53 a2 h54).bindN fun v55 h56 =>
 (binR Prog .mul 3 (.int .i64 2) v55 h56).bindN fun v57 h58 =>
 (binR Prog .add 3 v47 v57 h58).bindN fun v59 h60 =>
 (call F.ζ1 [v43, v59, (.int .i64 2)] h60).bindT (fun p63 h64 => .panic p63 h64) fun v61 h62 =>
 (call F.ζh [v39, v61] h62).bindT (fun p67 h68 => chkR ((okVal (loadR Prog 137 v1 h62) v39 && true) && true) (.panic p67 h68)) fun v65 h66 =>
 (storeR Prog 150 v3 v65 h66).bindN fun _v69 h70 =>
 chkR ((okVal (loadR Prog 137 v1 h62) v39 && true) && true) (
 (loadR Prog 150 v3 h70).bind fun v71 h72 =>
 .ok (.tuple #[v71, (.bool true)]) h72))
theorem ζdd (k : Nat) (a0 a1 a2 : Value) (h : Heap) : R (T k) F.ζ14 [a0, a1, a2] h = nrm .gc h (ζ14 k (R (T k)) a0 a1 a2 h) :=
 (R_body (t := T k) (T_scott k) (by kernel_rfl) (by kernel_rfl) _ _).trans (by kernel_rfl)
end
end Go.Sw
end
section
namespace Go.Sw
open Go.RowKit
theorem Star.stAll {H0 H : Heap} {L : List It} (h : Star H0 H L) (i : Nat) {c : Nat} {cells : List Value} {e : Nat} (hi : L[i]? = some (itBlk c ⟨cells, e, false⟩)) (vs : List Value) (n : Nat) (hn : cells.length = n) (hv : vs.length = n) :
  ∃ H', stR n (.pointer (some ⟨c, 0, none⟩)) (.agg vs.toArray) H = .ok undef H' ∧ Star H0 H' (L.set i (itBlk c ⟨vs, e, false⟩)) ∧ H'.n = H.n := by
 have hg := h.get i hi
 refine ⟨H.set c (some ⟨vs, e, false⟩), ?_, h.step i hi (by simp) (fun d _ hd => ?_) _ ?_ fun b hb => .inl hb, by simp⟩
 ·have hd : cells.drop vs.length = [] := by rw [List.drop_eq_nil_iff]; omega
  simp [hg, hv, hd]
  rw [hv] at hd
  rw [if_pos (by omega), hd]
  simp
 ·rw [ζ34]
  exact fun e => hd (show d ∈ [c] by simp [e])
 ·exact ζ80 _ _ _ (by rw [hg]; rfl)
theorem ζj2 (k : Nat) (b : List Int) (hb : Byt b) (i step : Int) (n : Nat) (hi : 0 ≤ i ∧ i < 2 ^ 32) (hs : 0 ≤ step ∧ step ≤ 8) (hn : n < 2 ^ 33) (hl : b.length < 2 ^ 31) (H : Heap) :
  R (T k) F.ζx [lv encB b, .int .i64 i, .int .i64 n, .int .i64 step] H = .ok (.int .i64 (needsS b i step n)) H := by
 have hU := fun j H' => refU_run k (H := H') (Sl.lv H' 1 b) hb j 2 (by omega) (by omega)
 rw [ζct]
 obtain ⟨x, e', H1, hr, rfl, rfl, a, rfl⟩ := loop_up (body := ζ4o k (R (T k))) n
  (fun j e H' => H' = H ∧ e = [(0, lv encB b), (1, .int .i64 i), (2, .int .i64 n), (3, .int .i64 step), (9, .int .i64 (needsS b i step j)), (10, .int .i64 j)])
  (fun x e H' => H' = H ∧ x = .exit 0 ∧ ∃ a, e = [(0, lv encB b), (1, .int .i64 i), (2, .int .i64 n), (3, .int .i64 step), (9, .int .i64 (needsS b i step n)), (10, a), (13, .bool false)])
  (e0 := [(0, lv encB b), (1, .int .i64 i), (2, .int .i64 n), (3, .int .i64 step), (9, .int .i64 0), (10, .int .i64 0)]) (H0 := H) ⟨rfl, rfl⟩ (by omega)
  (fun j e H' hj ⟨hH, he⟩ => by
   subst he hH
   have hlt : (j : Int) < n := by omega
   have hm0 : 0 ≤ (j : Int) * step := Int.mul_nonneg (by omega) hs.1
   have hm1 : (j : Int) * step ≤ 8589934592 * 8 := Int.mul_le_mul (by omega) (by omega) (by omega) (by omega)
   have hu : ∀ H', R (T k) F.ζ1 [lv encB b, .int .i64 (i + (j : Int) * step), .int .i64 2] H' = .ok (.int .i64 (gU b (i + (j : Int) * step) 2)) H' := fun H' => hU _ H'
   have hg := gU_two hb (i + (j : Int) * step)
   have hN : needsS b i step (j + 1) = (if gU b (i + (j : Int) * step) 2 + 1 > needsS b i step j then gU b (i + (j : Int) * step) 2 + 1 else needsS b i step j) := by
    unfold needsS
    rw [List.range_succ, List.map_append, List.map_singleton, ζec]
    split <;> omega
   refine .inl ⟨_, H', ?_, rfl, rfl⟩
   rw [ζ5u, hN]
   generalize gU b (i + (j : Int) * step) 2 = y at *
   simp -implicitDefEqProofs (disch := omega) [hlt, hu])
  (fun e H' ⟨hH, he⟩ => by
   subst he hH
   refine ⟨.exit 0, _, H', ?_, by simp, rfl, rfl, .int .i64 n, rfl⟩
   rw [ζ5u]
   simp -implicitDefEqProofs)
 refine nrm_gc (Pure.of ?_) (.int _ _)
 simp -implicitDefEqProofs [ζx, hr, ζ9c]
abbrev rmCells (b : List Int) (n j q S N w : Int) (tb : List Int) (ps : List RP) : List Value :=
 [lv encB b, .int .i64 n, .int .i64 j, .int .i64 q, .int .i64 S, .int .i64 N, .int .i64 w, lv encB tb, lv encRP ps]
abbrev rmV (r : RMach) : Value := .agg (rmCells r.b r.cl r.rowsAt r.entsAt r.states r.n r.words r.tb r.parts).toArray
theorem Flat.rm (r : RMach) : Flat (rmV r) := .aggL (.cons (Flat.B _) (.cons (.int _ _) (.cons (.int _ _) (.cons (.int _ _) (.cons (.int _ _) (.cons (.int _ _) (.cons (.int _ _) (.cons (Flat.B _) (.cons (Flat.RPs _) .nil)))))))))
abbrev rmZ : RMach := ⟨[], 0, 0, 0, 0, 0, 0, [], []⟩
def rmO (o : Option RMach) : Value := rmV (o.getD rmZ)
abbrev zCells : List Value := [.slice none 0 0, .int .i64 0, .int .i64 0, .int .i64 0, .int .i64 0, .int .i64 0, .int .i64 0, .slice none 0 0, .slice none 0 0]
set_option maxHeartbeats 1000000 in
theorem ζmw (k : Nat) (b : List Int) (hb : Byt b) (hl : b.length < 2 ^ 31) {n w j q : Int} (hn : 4 ≤ n ∧ n ≤ 65535) (hw : 0 ≤ w ∧ w ≤ 2) {rv ev : List Int} (hrv : restS b j = some rv) (hev : restS b q = some ev) (tb : List Int) (ps : List RP) {H0 H : Heap} {z c : Nat}
  (g : Star H0 H [itBlk z ⟨zCells, 1, false⟩, itBlk c ⟨rmCells b n j q 2 0 w tb ps, 1, false⟩]) :
  match closeA rv ev n w 2 with
  | some x => ∃ H' S N, loopN (ζ20 k (R (T k))) loopFuel [(0, lv encB b), (6, ptrV z), (8, ptrV c), (11, .bool true), (12, .int .i64 (4 + 2 * w))] H = .ok (.ret, [(6, ptrV z), (7, .bool true)]) H' ∧ Ext H0 H' ∧ H'.get z = some ⟨rmCells b n j q S N w tb ps, 1, false⟩ ∧ S = x.1.length ∧ N = x.2.length
  | none => ∃ H', loopN (ζ20 k (R (T k))) loopFuel [(0, lv encB b), (6, ptrV z), (8, ptrV c), (11, .bool true), (12, .int .i64 (4 + 2 * w))] H = .ok (.exit 0, [(0, lv encB b), (6, ptrV z), (8, ptrV c), (12, .int .i64 (4 + 2 * w)), (81, .bool false)]) H' ∧ Ext H0 H' ∧ H'.get z = some ⟨zCells, 1, false⟩ := by
 have hj := (ζ2b.1 hrv).1
 have hq := (ζ2b.1 hev).1
 have hbE := hb.rest hev
 have hbR := hb.rest hrv
 obtain ⟨n, rfl⟩ := Int.eq_ofNat_of_zero_le (show 0 ≤ n by omega)
 have hRows := fun i n z H' => ζ84 k b.length i n z (by omega) (by omega) H'
 obtain ⟨x, e', H1, hr, hQ⟩ := loopDec (body := ζ20 k (R (T k)))
  (fun m e H' => ∃ (S N : Nat) (fl : Bool), e = [(0, lv encB b), (6, ptrV z), (8, ptrV c), (11, .bool fl), (12, .int .i64 (4 + 2 * w))] ∧ 2 ≤ S ∧ S ≤ 65536 ∧ N ≤ 65536 ∧ Star H0 H' [itBlk z ⟨zCells, 1, false⟩, itBlk c ⟨rmCells b n j q S N w tb ps, 1, false⟩] ∧
   (fl = true → m = (65537 - S) * 65538 + (65537 - N) + 1 ∧ closeA rv ev n w 2 = closeA rv ev n w S ∧ ∀ rs, rowsTo rv n S = some rs → (N : Int) ≤ needR rs) ∧ (fl = false → m = 0 ∧ closeA rv ev n w 2 = none))
  (fun x e H' => (∃ (y : List (List Int) × List En) (S N : Int), closeA rv ev n w 2 = some y ∧ x = .ret ∧ e = [(6, ptrV z), (7, .bool true)] ∧ Ext H0 H' ∧ H'.get z = some ⟨rmCells b n j q S N w tb ps, 1, false⟩ ∧ S = y.1.length ∧ N = y.2.length) ∨
   (closeA rv ev n w 2 = none ∧ x = .exit 0 ∧ e = [(0, lv encB b), (6, ptrV z), (8, ptrV c), (12, .int .i64 (4 + 2 * w)), (81, .bool false)] ∧ Ext H0 H' ∧ H'.get z = some ⟨zCells, 1, false⟩))
  ((65537 - 2) * 65538 + 65537 + 1) (e0 := [(0, lv encB b), (6, ptrV z), (8, ptrV c), (11, .bool true), (12, .int .i64 (4 + 2 * w))]) (H0 := H) ⟨2, 0, true, rfl, by omega, by omega, by omega, g, fun _ => ⟨rfl, rfl, fun rs _ => ζ6r rs⟩, fun h => by cases h⟩ (by omega)
  (fun m e H' ⟨S, N, fl, he, hS2, hS6, hN6, g, ht, hf⟩ => by
   subst he
   cases fl with
   | false =>
    obtain ⟨hm, hc⟩ := hf rfl
    refine .inr ⟨.exit 0, _, H', ?_, by simp, .inr ⟨hc, rfl, rfl, g.ext, g.get 0 rfl⟩⟩
    rw [ζ10]
    simp -implicitDefEqProofs
   | true =>
    obtain ⟨hm, hc, hNle⟩ := ht rfl
    clear hf ht
    have hcA := ζig (rv := rv) hbE (n := (n : Int)) (w := w) hS6
    have hM := g.get 1 rfl
    have hcn : ¬ c = H'.n := by have := Heap.get_lt hM; omega
    have e0 : stR 9 (.pointer (some ⟨H'.n, 0, none⟩)) (.agg (rmCells b n j q S N w tb ps).toArray) (H'.push ⟨zCells, 1, false⟩) = .ok undef (H'.push ⟨rmCells b n j q S N w tb ps, 1, false⟩) := by simp
    have g1 := g.push ⟨rmCells b n j q S N w tb ps, 1, false⟩
    obtain ⟨P, hP⟩ : ∃ P, P = H'.push ⟨rmCells b n j q S N w tb ps, 1, false⟩ := ⟨_, rfl⟩
    rw [← hP] at g1 e0
    simp only [List.cons_append, List.nil_append] at g1
    have hMP := g1.get 1 rfl
    have hWP := g1.get 2 rfl
    have hre := ζli hrv (show (0 : Int) < n by omega) (s := S) (by omega)
    have hR1 := fun H' => hRows j S (2 * n) H'
    cases hrt : rowsTo rv n S with
    | none =>
     rw [hrt] at hre
     simp at hre
     rw [hre] at hR1
     rw [hrt] at hcA
     refine .inl ⟨0, _, P, ?_, by omega, S, N, false, rfl, hS2, hS6, hN6, g1.take 2, (fun h => by cases h), fun _ => ⟨rfl, by rw [hc, hcA]; rfl⟩⟩
     rw [ζ10]
     simp -implicitDefEqProofs (disch := omega) [-stR_ptr, hM, e0, hMP, hR1, ζau, ζ6g]
    | some rs =>
     rw [hrt] at hre
     simp at hre
     rw [hre] at hR1
     rw [hrt, Option.bind_some] at hcA
     have hrl : rs.length = S := by have := mapO_len hrt; simpa using this
     have hneed := ζlh hrv (show (0 : Int) < n by omega) hrt
     have hNle := hNle rs hrt
     have hn6 := ζcm hbR hrt
     have hn0 := ζ6r rs
     have hSn : (S : Int) * (n : Int) = ((S * n : Nat) : Int) := by simp
     have hSnb : S * n ≤ 65536 * 65535 := Nat.mul_le_mul (by omega) (by omega)
     rw [Int.toNat_natCast] at hneed
     have hnr := fun H' => ζj2 k b hb j 2 (S * n) (by omega) (by omega) (by omega) hl H'
     rw [hneed, ← hSn] at hnr
     obtain ⟨N', hN'⟩ : ∃ N' : Nat, (N' : Int) = needR rs := ⟨(needR rs).toNat, by omega⟩
     have hmx : (if needR rs > N then needR rs else (N : Int)) = (N' : Int) := by rw [hN']; split <;> omega
     obtain ⟨P2, e2, g2, _⟩ := g1.stCell 1 rfl 5 (v := .int .i64 N') rfl rfl (by simp)
     simp only [List.set_cons_zero, List.set_cons_succ] at g2
     have hMP2 := g2.get 1 rfl
     have hWP2 := g2.get 2 rfl
     have hR2 := fun H' => hRows q N' (4 + 2 * w) H'
     have hee := ζkt hev hw.1 N'
     have hb1 : (S : Int) * (n : Int) ≤ 65536 * 65535 := by omega
     have hb0 : 0 ≤ (S : Int) * (n : Int) := by omega
     rw [show (needR rs).toNat = N' by omega] at hcA
     cases het : entsTo ev w N' with
     | none =>
      rw [het] at hee
      simp at hee
      rw [hee] at hR2
      rw [het] at hcA
      refine .inl ⟨0, _, P2, ?_, by omega, S, N', false, rfl, hS2, hS6, by omega, g2.take 2, (fun h => by cases h), fun _ => ⟨rfl, by rw [hc, hcA]; rfl⟩⟩
      rw [ζ10]
      simp -implicitDefEqProofs (disch := omega) [-stR_ptr, hM, e0, hMP, hR1, hnr, hmx, e2, hMP2, hR2, ζ2e, ζ6g]
     | some es =>
      rw [het] at hee
      simp at hee
      rw [hee] at hR2
      rw [het, Option.bind_some] at hcA
      have hel : es.length = N' := by have := mapO_len het; simpa using this
      have hE := needE_le hbE het
      have hneed2 := ζks hev hw het
      have hnr2 := fun H' => ζj2 k b hb q (4 + 2 * w) N' (by omega) (by omega) (by omega) hl H'
      rw [hneed2] at hnr2
      obtain ⟨S', hS'⟩ : ∃ S' : Nat, (S' : Int) = max (S : Int) (needE es) := ⟨(max (S : Int) (needE es)).toNat, by omega⟩
      have hEe : needE es = max 2 (needL (es.map En.next)) := rfl
      have hmx2 : (if needL (es.map En.next) > S then needL (es.map En.next) else (S : Int)) = (S' : Int) := by rw [hS', hEe]; split <;> omega
      have hL6 : needL (es.map En.next) ≤ 65536 := by omega
      obtain ⟨P3, e3, g3, _⟩ := g2.stCell 1 rfl 4 (v := .int .i64 S') rfl rfl (by simp)
      simp only [List.set_cons_zero, List.set_cons_succ] at g3
      have hMP3 := g3.get 1 rfl
      have hWP3 := g3.get 2 rfl
      by_cases hsame : S' = S ∧ N' = N
      ·obtain ⟨rfl, rfl⟩ := hsame
       rw [if_pos (by omega)] at hcA
       obtain ⟨P4, e4, g4, _⟩ := g3.stAll 0 rfl (rmCells b n j q S' N' w tb ps) 9 rfl rfl
       simp only [List.set_cons_zero, List.set_cons_succ] at g4
       refine .inr ⟨.ret, _, P4, ?_, by simp, .inl ⟨_, S', N', by rw [hc, hcA], rfl, rfl, g4.ext, g4.get 0 rfl, by rw [hrl], by rw [hel]⟩⟩
       rw [ζ10]
       simp -implicitDefEqProofs (disch := omega) [-stR_ptr, hM, e0, hMP, hR1, hnr, hmx, e2, hMP2, hR2, ζ2e, hnr2, hmx2, e3, hMP3, hWP3, ζ3i, e4]
      ·refine .inl ⟨(65537 - S') * 65538 + (65537 - N') + 1, _, P3, ?_, ?_, S', N', true, rfl, by omega, by omega, by omega, g3.take 2, fun _ => ⟨rfl, ?_, ?_⟩, fun h => by cases h⟩
       ·by_cases hs1 : S' = S
        ·have hs2 : ((N' : Int) == (N : Int)) = false := by simp; omega
         subst hs1
         rw [ζ10]
         simp -implicitDefEqProofs (disch := omega) [-stR_ptr, hM, e0, hMP, hR1, hnr, hmx, e2, hMP2, hR2, ζ2e, hnr2, hmx2, e3, hMP3, hWP3, ζ3i, hs2]
        ·have hs2 : ((S' : Int) == (S : Int)) = false := by simp; omega
         rw [ζ10]
         simp -implicitDefEqProofs (disch := omega) [-stR_ptr, hM, e0, hMP, hR1, hnr, hmx, e2, hMP2, hR2, ζ2e, hnr2, hmx2, e3, hMP3, hWP3, ζ3i, hs2]
       ·omega
       ·rw [hc]
        by_cases hcl : (needE es).toNat ≤ S
        ·rw [show S' = S by omega]
        ·rw [hcA, if_neg hcl, show S' = (needE es).toNat by omega]
       ·intro rt hrt2
        have := ζl6 (s := S) (t := S') (by omega) hrt hrt2
        omega)
 rcases hQ with ⟨y, S, N, h1, rfl, rfl, h2, h3, h4⟩ | ⟨h1, rfl, rfl, h2, h3⟩
 ·rw [h1]; exact ⟨H1, S, N, hr, h2, h3, h4⟩
 ·rw [h1]; exact ⟨H1, hr, h2, h3⟩
end Go.Sw
end
