/-
  Functions' forms, and what is proved of them, part 5.
-/
import Derived.Test.YtnaodjnimkndbabSwW4
import Derived.Test.YtnaodjnimkndbabSwW3
import Derived.Test.YtnaodjnimkndbabSwLib8
import Derived.Eval
set_option linter.unusedSimpArgs false
set_option linter.unusedVariables false
set_option linter.unusedSectionVars false
section
namespace Go.Sw
open Go.RowKit
theorem slOfT {α : Type} {enc : α → List Value} {H : Heap} {m b : Nat} {k : Blk} (l : List α) (hg : H.get b = some k) (hk : k.cells = rows enc l) (he : ∀ x, (enc x).length = m) : Sl H m (.slice (some ⟨b, 0, none⟩) l.length l.length) enc l :=
 .inr (.inr ⟨b, 0, _, _, rfl, Nat.le_refl _, hg, by rw [List.drop_zero, hk, List.take_of_length_le (by rw [rows_length he]; exact Nat.le_refl _)]⟩)
theorem placeLenT (k : Nat) {H0 H : Heap} {L : List It} (h : Star H0 H L) (i : Nat) {p : Nat} {o : Option Nat} {down : Bool} {l : List Pl} (hi : L[i]? = some (itPl p o down l)) : R (T k) F.place_Places_Len [ptrV p] H = .ok (.int .i64 l.length) H := Len_run k (h.pl i hi)
def ownT (n : Nat) (adv : List Int) : List Int := (List.range n).map fun i => (adv[i]?).getD 0
theorem ownT_len (n : Nat) (adv : List Int) : (ownT n adv).length = n := by simp [ownT]
theorem ownT_at {n i : Nat} (adv : List Int) (h : i < n) : (ownT n adv)[i]? = some ((adv[i]?).getD 0) := by
 unfold ownT
 rw [List.getElem?_map, List.getElem?_range h]
 rfl
theorem getD_b {adv : List Int} (ha : ∀ x, x ∈ adv → 0 ≤ x ∧ x < 65536) (i : Nat) : 0 ≤ (adv[i]?).getD 0 ∧ (adv[i]?).getD 0 < 65536 := by
 cases h : adv[i]? with
 | none => decide
 | some x => exact ha x (List.mem_of_getElem? h)
theorem ownT_b {n : Nat} {adv : List Int} (ha : ∀ x, x ∈ adv → 0 ≤ x ∧ x < 65536) : ∀ x, x ∈ ownT n adv → 0 ≤ x ∧ x < 65536 := by
 intro x hx
 unfold ownT at hx
 obtain ⟨i, _, rfl⟩ := List.mem_map.1 hx
 exact getD_b ha i
theorem newPl_own {l : List Int} (h : ∀ x, x ∈ l → 0 ≤ x ∧ x < 65536) : newPl l = l.map fun x => ⟨x, 0, 0⟩ := by
 unfold newPl
 refine List.map_congr_left fun x hx => ?_
 have := h x hx
 unfold clampI
 rw [if_neg (by omega), if_neg (by omega)]
theorem sumA_new {l : List Int} (h : ∀ x, x ∈ l → 0 ≤ x ∧ x < 65536) : sumA (newPl l) = l.sum := by
 rw [newPl_own h]
 unfold sumA
 rw [List.map_map]
 congr 1
 exact List.map_id' l
theorem tot_l1 (k : Nat) {H0 H : Heap} {A : It} (n : Nat) (hn : n ≤ 60) (adv : List Int) (ha : ∀ x, x ∈ adv → 0 ≤ x ∧ x < 65536) (hal : adv.length < 2 ^ 63) (a1 a7 : Value) (g : Star H0 H [A, itRow none 1 (.slice none 0 0) encI []]) :
  ∃ s o zz H', loopN (swashtop_WholeTotals_l1 k (R (T k))) loopFuel [(1, a1), (2, lv encU2 adv), (7, a7), (9, .slice none 0 0), (10, .int .i64 0), (60, .int .i64 n), (61, .int .i64 0)] H =
   .ok (.exit 0, [(1, a1), (2, lv encU2 adv), (7, a7), (9, s), (10, .int .i64 (ownT n adv).sum), (60, .int .i64 n), (61, zz), (62, .bool false)]) H' ∧ Star H0 H' [A, itRow o 1 s encI (ownT n adv)] ∧ 0 ≤ (ownT n adv).sum ∧ (ownT n adv).sum ≤ 65536 * n := by
 obtain ⟨xx, e', H1, hr1, rfl, s', o', rfl, g1, hb⟩ := loop_up (body := swashtop_WholeTotals_l1 k (R (T k))) n
  (fun j e H' => ∃ s o w, e = [(1, a1), (2, lv encU2 adv), (7, a7), (9, s), (10, .int .i64 w), (60, .int .i64 n), (61, .int .i64 j)] ∧ Star H0 H' [A, itRow o 1 s encI ((ownT n adv).take j)] ∧ w = ((ownT n adv).take j).sum ∧ 0 ≤ w ∧ w ≤ 65536 * j)
  (fun xx e H' => xx = .exit 0 ∧ ∃ s o, e = [(1, a1), (2, lv encU2 adv), (7, a7), (9, s), (10, .int .i64 (ownT n adv).sum), (60, .int .i64 n), (61, .int .i64 n), (62, .bool false)] ∧ Star H0 H' [A, itRow o 1 s encI (ownT n adv)] ∧ 0 ≤ (ownT n adv).sum ∧ (ownT n adv).sum ≤ 65536 * n)
  (e0 := [(1, a1), (2, lv encU2 adv), (7, a7), (9, .slice none 0 0), (10, .int .i64 0), (60, .int .i64 n), (61, .int .i64 0)]) (H0 := H) ⟨_, none, 0, rfl, by simpa using g, by simp, by omega, by omega⟩ (by omega)
  (fun j e H' hj ⟨s, o, w, he, g, hw, hw0, hw1⟩ => by
   subst he
   have hjl : (j : Int) < n := by omega
   have hx := ownT_at adv hj
   have hxb := getD_b ha j
   obtain ⟨s2, o2, H2, e2, g2⟩ := g.append1 1 (bytes := 8) encI_len rfl ((adv[j]?).getD 0) (by rw [List.length_take]; omega) (by decide)
   rw [← take_snoc hx] at g2
   simp only [List.set_cons_zero, List.set_cons_succ] at g2
   have hsum : w + (adv[j]?).getD 0 = ((ownT n adv).take (j + 1)).sum := by rw [take_snoc hx, List.sum_append, hw]; simp
   by_cases hja : j < adv.length
   ·have hja' : (j : Int) < adv.length := by omega
    obtain ⟨x, hxa⟩ : ∃ x, adv[j]? = some x := ⟨_, List.getElem?_eq_getElem hja⟩
    rw [hxa] at e2 hxb hsum
    simp only [Option.getD_some] at e2 hxb hsum
    have i1 := fun H' => ixS_lvN encU2_len adv .i64 j x hxa H'
    have w1 : IntKind.i64.wrap x = x := wrap_i64 (by omega) (by omega)
    have w2 : IntKind.i64.wrap (w + x) = w + x := wrap_i64 (by omega) (by omega)
    refine .inl ⟨_, H2, ?_, s2, o2, w + x, rfl, g2, hsum, by omega, by omega⟩
    rw [swashtop_WholeTotals_l1_eq]
    simp -implicitDefEqProofs (disch := omega) [hjl, hja', i1, w1, w2, swashtop_WholeTotals_j1_eq, e2]
   ·have hja' : ¬ (j : Int) < adv.length := by omega
    have hxa : adv[j]? = none := List.getElem?_eq_none (by omega)
    rw [hxa] at e2 hxb hsum
    simp only [Option.getD_none] at e2 hxb hsum
    have w2 : IntKind.i64.wrap w = w := wrap_i64 (by omega) (by omega)
    refine .inl ⟨_, H2, ?_, s2, o2, w, rfl, g2, by simpa using hsum, by omega, by omega⟩
    rw [swashtop_WholeTotals_l1_eq]
    simp -implicitDefEqProofs (disch := omega) [hjl, hja', w2, swashtop_WholeTotals_j2_eq, e2])
  (fun e H' ⟨s, o, w, he, g, hw, hw0, hw1⟩ => by
   subst he
   rw [List.take_of_length_le (by rw [ownT_len]; omega)] at g hw
   subst hw
   refine ⟨.exit 0, _, H', ?_, by simp, rfl, s, o, rfl, g, hw0, hw1⟩
   rw [swashtop_WholeTotals_l1_eq]
   simp -implicitDefEqProofs)
 exact ⟨s', o', _, H1, hr1, g1, hb⟩
structure TotI (own : List Int) (n j : Nat) (l : List Pl) (w : Int) : Prop where
 len : l.length = n
 sum : sumA l = w
 ok : ∀ q, q ∈ l → q.ok
 flat : ∀ (m : Nat) q, l[m]? = some q → q.x = 0 ∧ q.y = 0
 rest : ∀ m : Nat, j ≤ m → m < n → ∃ a, l[m]? = some ⟨a, 0, 0⟩ ∧ 0 ≤ a ∧ a < 65536
 lo : -(65536 * (j : Int)) ≤ w
 hi : w ≤ 65536 * (60 + (j : Int))
theorem tot_l2 (k : Nat) {H0 H : Heap} {A B : It} (ids : List Int) (hids : ids.length ≤ 60) (hb : Byt ids) (t : PTab) (ht : t.ok) (hlim : ∀ x y, -65536 ≤ pgetS t x y ∧ pgetS t x y < 65536) {p : Nat} {o : Option Nat} (l0 : List Pl) (w0 : Int) (hI : TotI [] ids.length 0 l0 w0) (g : Star H0 H [A, B, itPl p o false l0]) :
  ∃ l w zz H', loopN (swashtop_WholeTotals_l2 k (R (T k))) loopFuel [(1, lv encB ids), (7, ptabV t), (10, .int .i64 w0), (13, ptrV p), (14, .int .i64 1)] H =
   .ok (.exit 2, [(1, lv encB ids), (7, ptabV t), (10, .int .i64 w), (13, ptrV p), (14, zz), (86, .bool false)]) H' ∧ Star H0 H' [A, B, itPl p o false l] ∧ ∃ j, j ≤ 60 ∧ TotI [] ids.length j l w := by
 obtain ⟨xx, e', H1, hr1, rfl, l, w, zz, rfl, g1, hj⟩ := loop_up (body := swashtop_WholeTotals_l2 k (R (T k))) (ids.length - 1)
  (fun j e H' => ∃ l w, e = [(1, lv encB ids), (7, ptabV t), (10, .int .i64 w), (13, ptrV p), (14, .int .i64 ((j : Int) + 1))] ∧ Star H0 H' [A, B, itPl p o false l] ∧ TotI [] ids.length j l w)
  (fun xx e H' => xx = .exit 2 ∧ ∃ l w zz, e = [(1, lv encB ids), (7, ptabV t), (10, .int .i64 w), (13, ptrV p), (14, zz), (86, .bool false)] ∧ Star H0 H' [A, B, itPl p o false l] ∧ ∃ j, j ≤ 60 ∧ TotI [] ids.length j l w)
  (e0 := [(1, lv encB ids), (7, ptabV t), (10, .int .i64 w0), (13, ptrV p), (14, .int .i64 1)]) (H0 := H) ⟨l0, w0, rfl, g, hI⟩ (by omega)
  (fun j e H' hj ⟨l, w, he, g, hI⟩ => by
   subst he
   have hjl : (j : Int) + 1 < ids.length := by omega
   obtain ⟨x, hx⟩ : ∃ x, ids[j]? = some x := ⟨_, List.getElem?_eq_getElem (by omega)⟩
   obtain ⟨y, hy⟩ : ∃ y, ids[j + 1]? = some y := ⟨_, List.getElem?_eq_getElem (by omega)⟩
   have hxb := hb x (List.mem_of_getElem? hx)
   have hyb := hb y (List.mem_of_getElem? hy)
   have i1 := fun H' => ixS_lvN encB_len ids .i64 j x hx H'
   have i2 := fun H' => ixS_lvN encB_len ids .i64 (j + 1) y hy H'
   have i2 : ∀ H', _ = Res.ok _ H' := i2
   simp only [Int.natCast_add, Int.cast_ofNat_Int] at i2
   have w1 : IntKind.i64.wrap x = x := wrap_i64 (by omega) (by omega)
   have w2 : IntKind.i64.wrap y = y := wrap_i64 (by omega) (by omega)
   have hget := fun H' => pGet_run k t ht x y H'
   have hv := hlim x y
   generalize pgetS t x y = v at hget hv
   obtain ⟨a, ha, ha0, ha1⟩ := hI.rest j (Nat.le_refl _) (by omega)
   obtain ⟨H2, e2, g2⟩ := along_star k g 2 rfl hI.ok (j : Int) v
   simp only [List.set_cons_zero, List.set_cons_succ] at g2
   have hadd : addI a v = a + v := by unfold addI clampI; omega
   have hs := sumA_upd l j ⟨a, 0, 0⟩ ha (fun q => ⟨addI q.adv v, q.x, q.y⟩)
   dsimp only at hs
   rw [hadd, hI.sum] at hs
   have hok2 := updPl_ok hI.ok (j : Int) (f := fun q => ⟨addI q.adv v, q.x, q.y⟩) fun q hq => ⟨addI_ok _ _, hq.2⟩
   have hat : ∀ m : Nat, (updPl l (j : Int) fun q => ⟨addI q.adv v, q.x, q.y⟩)[m]? = (l[m]?).map fun q => if j = m then ⟨addI q.adv v, q.x, q.y⟩ else q := by
    intro m
    unfold updPl
    rw [if_pos (by omega), Int.toNat_natCast, List.getElem?_modify]
    rfl
   have hlen2 : (updPl l (j : Int) fun q => ⟨addI q.adv v, q.x, q.y⟩).length = ids.length := by
    unfold updPl
    split <;> simp [hI.len]
   have hlo := hI.lo
   have hhi := hI.hi
   have w3 : IntKind.i64.wrap (w + v) = w + v := wrap_i64 (by omega) (by omega)
   refine .inl ⟨_, H2, ?_, _, w + v, rfl, g2, hlen2, by omega, hok2, ?_, ?_, by omega, by omega⟩
   ·rw [swashtop_WholeTotals_l2_eq]
    simp -implicitDefEqProofs (disch := omega) [hjl, i1, i2, w1, w2, hget, e2, w3]
   ·intro m q hq
    rw [hat m] at hq
    obtain ⟨q0, hq0, rfl⟩ := Option.map_eq_some_iff.1 hq
    have := hI.flat m q0 hq0
    split <;> exact this
   ·intro m h1 h2
    obtain ⟨a', ha', hb'⟩ := hI.rest m (by omega) h2
    refine ⟨a', ?_, hb'⟩
    rw [hat m, ha', Option.map_some, if_neg (by omega)])
  (fun e H' ⟨l, w, he, g, hI⟩ => by
   subst he
   have hjl : ¬ ((ids.length - 1 : Nat) : Int) + 1 < ids.length := by omega
   refine ⟨.exit 2, _, H', ?_, by simp, rfl, l, w, .int .i64 (((ids.length - 1 : Nat) : Int) + 1), rfl, g, _, by omega, hI⟩
   rw [swashtop_WholeTotals_l2_eq]
   simp -implicitDefEqProofs [hjl])
 exact ⟨l, w, zz, H1, hr1, g1, hj⟩
theorem tot_l3 (k : Nat) {H : Heap} (l : List Pl) (hl : l.length ≤ 60) (hok : ∀ q, q ∈ l → q.ok) (hflat : ∀ (m : Nat) q, l[m]? = some q → q.x = 0 ∧ q.y = 0) (a1 a10 a13 : Value) :
  ∃ zz H', loopN (swashtop_WholeTotals_l3 k (R (T k))) loopFuel [(1, a1), (10, a10), (13, a13), (16, .int .i64 0), (111, lv encP l), (112, .int .i64 l.length), (113, .int .i64 0)] H =
   .ok (.exit 4, [(1, a1), (10, a10), (13, a13), (16, .int .i64 (sumA l)), (111, lv encP l), (112, .int .i64 l.length), (113, zz), (114, .bool false)]) H' ∧ Ext H H' := by
 obtain ⟨xx, e', H1, hr1, rfl, zz, rfl, hx⟩ := loop_up (body := swashtop_WholeTotals_l3 k (R (T k))) l.length
  (fun j e H' => ∃ w, e = [(1, a1), (10, a10), (13, a13), (16, .int .i64 w), (111, lv encP l), (112, .int .i64 l.length), (113, .int .i64 j)] ∧ Ext H H' ∧ w = sumA (l.take j) ∧ -(2147483648 * (j : Int)) ≤ w ∧ w ≤ 2147483648 * (j : Int))
  (fun xx e H' => xx = .exit 4 ∧ ∃ zz, e = [(1, a1), (10, a10), (13, a13), (16, .int .i64 (sumA l)), (111, lv encP l), (112, .int .i64 l.length), (113, zz), (114, .bool false)] ∧ Ext H H')
  (e0 := [(1, a1), (10, a10), (13, a13), (16, .int .i64 0), (111, lv encP l), (112, .int .i64 l.length), (113, .int .i64 0)]) (H0 := H) ⟨0, rfl, Ext.refl _, by simp [sumA], by omega, by omega⟩ (by omega)
  (fun j e H' hj ⟨w, he, hx, hw, h0, h1⟩ => by
   subst he
   have hjl : (j : Int) < l.length := by omega
   obtain ⟨q, hq⟩ : ∃ q, l[j]? = some q := ⟨_, List.getElem?_eq_getElem hj⟩
   have hqo := hok q (List.mem_of_getElem? hq)
   have hqf := hflat j q hq
   obtain ⟨qa, qx, qy⟩ := q
   obtain ⟨rfl, rfl⟩ : qx = 0 ∧ qy = 0 := hqf
   have i1 := fun H' => ixS_lvN encP_len l .i64 j _ hq H'
   have hqa := hqo.1
   dsimp only at hqa
   have w1 : IntKind.i64.wrap qa = qa := wrap_i64 (by omega) (by omega)
   have w2 : IntKind.i64.wrap (w + qa) = w + qa := wrap_i64 (by omega) (by omega)
   refine .inl ⟨_, H'.push ⟨encP ⟨qa, 0, 0⟩, 1, false⟩, ?_, w + qa, rfl, hx.push _, ?_, by omega, by omega⟩
   ·rw [swashtop_WholeTotals_l3_eq]
    simp -implicitDefEqProofs (disch := omega) [hjl, i1, w1, w2]
   ·rw [take_snoc hq, hw]
    simp [sumA])
  (fun e H' ⟨w, he, hx, hw, h0, h1⟩ => by
   subst he
   rw [List.take_length] at hw
   subst hw
   refine ⟨.exit 4, _, H', ?_, by simp, rfl, .int .i64 l.length, rfl, hx⟩
   rw [swashtop_WholeTotals_l3_eq]
   simp -implicitDefEqProofs)
 exact ⟨zz, H1, hr1, hx⟩
set_option maxHeartbeats 2000000 in
theorem WholeTotals_run (l : List PW) (hl : ∀ p, p ∈ l → p.ok) (ids : List Int) (hb : Byt ids) (adv : List Int) (ha : ∀ x, x ∈ adv → 0 ≤ x ∧ x < 65536) (hal : adv.length < 2 ^ 63) : R (T 0) F.swashtop_WholeTotals [lv encPW l, lv encB ids, lv encU2 adv] Heap.empty = .ok (.bool true) Heap.empty := by
 generalize hk : (0 : Nat) = k
 have hk6 : k < 1000000 := by subst hk; decide
 clear hk
 rw [swashtop_WholeTotals_R]
 generalize Heap.empty = H
 have g := (Star.nil H).push ⟨[.int .u16 1, .int .u16 2, .int .i16 3], 3, false⟩
 simp only [List.nil_append] at g
 have h0 : ∀ p, p ∈ [(⟨1, 2, 3⟩ : PW)] → p.ok := fun p hp => by
  rw [List.mem_singleton] at hp
  subst hp
  exact ⟨by decide, by decide, by decide⟩
 have hs0 := slOfT (enc := encPW) (m := 3) [(⟨1, 2, 3⟩ : PW)] (g.get 0 rfl) rfl encPW_len
 have hw0 := pWrite_runG k [(⟨1, 2, 3⟩ : PW)] h0 (by decide) hs0
 have hrd0 := fun H' => pRead_run k 0 (Sl.lv H' 1 (listW [(⟨1, 2, 3⟩ : PW)])) (listW_byt _) 9 (by rw [listW_len]; decide)
 have hP0 := pList_W [(⟨1, 2, 3⟩ : PW)] h0 (by decide)
 have hN0 : pairN 0 (listW [(⟨1, 2, 3⟩ : PW)]) 9 = if (pListS (listW [(⟨1, 2, 3⟩ : PW)])).isSome then 0 else 2 := rfl
 have hO0 : pairO 0 (listW [(⟨1, 2, 3⟩ : PW)]) 9 = pListS (listW [(⟨1, 2, 3⟩ : PW)]) := rfl
 have hup0 : upS (keysW [(⟨1, 2, 3⟩ : PW)]) = true := by decide
 have hup0' : upS ([(⟨1, 2, 3⟩ : PW)].map PW.key) = true := hup0
 rw [hO0, hN0, hP0, if_pos hup0'] at hrd0
 simp only [Option.isSome_some, if_true] at hrd0
 have hok0 := pListS_ok (listW_byt [(⟨1, 2, 3⟩ : PW)]) (by rw [listW_len]; decide) (t := ⟨keysW [(⟨1, 2, 3⟩ : PW)], prsB [(⟨1, 2, 3⟩ : PW)], none, none, 0, 2⟩) (by rw [hP0, if_pos hup0']; rfl)
 have hg0 := fun H' => pGet_run k _ hok0 1 2 H'
 have hwant0 : pgetS ⟨keysW [(⟨1, 2, 3⟩ : PW)], prsB [(⟨1, 2, 3⟩ : PW)], none, none, 0, 2⟩ 1 2 = 3 := want_of [(⟨1, 2, 3⟩ : PW)] h0 hup0 (i := 0) rfl
 rw [hwant0] at hg0
 have hrd0 : ∀ H', R (T k) F.pair_Read [.int .i64 0, lv encB (listW [(⟨1, 2, 3⟩ : PW)]), .int .i64 9] H' = .ok (.tuple #[ptabV ⟨keysW [(⟨1, 2, 3⟩ : PW)], prsB [(⟨1, 2, 3⟩ : PW)], none, none, 0, 2⟩, .int .i64 0]) H' := hrd0
 have hw0 : R (T k) F.swashlaw22_Write [.slice (some ⟨H.n, 0, none⟩) 1 1] (H.push ⟨[.int .u16 1, .int .u16 2, .int .i16 3], 3, false⟩) = .ok (lv encB (listW [(⟨1, 2, 3⟩ : PW)])) (H.push ⟨[.int .u16 1, .int .u16 2, .int .i16 3], 3, false⟩) := hw0
 generalize (⟨keysW [(⟨1, 2, 3⟩ : PW)], prsB [(⟨1, 2, 3⟩ : PW)], none, none, 0, 2⟩ : PTab) = t0 at hrd0 hg0
 generalize listW [(⟨1, 2, 3⟩ : PW)] = b0 at hrd0 hw0
 by_cases c1 : l.length > 60
 ·have c1' : (l.length : Int) > 60 := by omega
  refine nrm_gc ⟨_, ?_, g.ext⟩ (.bool _)
  simp -implicitDefEqProofs (disch := omega) [swashtop_WholeTotals, hw0, hrd0, hg0, c1']
 have c1' : ¬ (l.length : Int) > 60 := by omega
 by_cases c2 : ids.length > 60
 ·have c2' : (ids.length : Int) > 60 := by omega
  refine nrm_gc ⟨_, ?_, g.ext⟩ (.bool _)
  simp -implicitDefEqProofs (disch := omega) [swashtop_WholeTotals, hw0, hrd0, hg0, c1', c2']
 have c2' : ¬ (ids.length : Int) > 60 := by omega
 have hw := fun H' => pWrite_run k l hl (by omega) H'
 have hrd := fun H' => pRead_run k 0 (Sl.lv H' 1 (listW l)) (listW_byt _) 300 (by rw [listW_len]; omega)
 have hP := pList_W l hl (by omega)
 have hN : pairN 0 (listW l) 300 = if (pListS (listW l)).isSome then 0 else 2 := rfl
 have hO : pairO 0 (listW l) 300 = pListS (listW l) := rfl
 rw [hO, hN] at hrd
 by_cases hup : upS (l.map PW.key) = true
 rotate_left
 ·rw [if_neg hup] at hP
  rw [hP] at hrd
  simp only [Option.isSome_none, Bool.false_eq_true, if_false] at hrd
  have hrd : ∀ H', R (T k) F.pair_Read [.int .i64 0, lv encB (listW l), .int .i64 300] H' = .ok (.tuple #[.pointer none, .int .i64 2]) H' := hrd
  refine nrm_gc ⟨_, ?_, g.ext⟩ (.bool _)
  simp -implicitDefEqProofs (disch := omega) [swashtop_WholeTotals, hw0, hrd0, hg0, c1', c2', hw, hrd]
 rw [if_pos hup] at hP
 have hok := pListS_ok (listW_byt l) (by rw [listW_len]; omega) hP
 rw [hP] at hrd
 simp only [Option.isSome_some, if_true] at hrd
 have hlim : ∀ x y, -65536 ≤ pgetS ⟨l.map PW.key, prsB l, none, none, 0, 2⟩ x y ∧ pgetS ⟨l.map PW.key, prsB l, none, none, 0, 2⟩ x y < 65536 := pget_lim l
 have hrd : ∀ H', R (T k) F.pair_Read [.int .i64 0, lv encB (listW l), .int .i64 300] H' = .ok (.tuple #[ptabV ⟨l.map PW.key, prsB l, none, none, 0, 2⟩, .int .i64 0]) H' := hrd
 generalize (⟨l.map PW.key, prsB l, none, none, 0, 2⟩ : PTab) = t at hrd hok hlim
 have g := g.more_row (Ext.refl _) (OwnO.nil encI _ 1) (fun b hb => by cases hb)
 simp only [List.cons_append, List.nil_append] at g
 obtain ⟨s1, o1, z1, H1, e1, g, hs0', hs1⟩ := tot_l1 k ids.length (by omega) adv ha hal (lv encB ids) (ptabV t) g
 obtain ⟨o2, H2, e2, g⟩ := placeNew_starG k g 0 (ownT ids.length adv) (by rw [ownT_len]; omega) ((g.row 1 rfl).sl encI_len)
 simp only [List.cons_append, List.nil_append] at g
 have hob := ownT_b (n := ids.length) ha
 have hI : TotI [] ids.length 0 (newPl (ownT ids.length adv)) (ownT ids.length adv).sum := by
  refine ⟨by rw [newPl_len, ownT_len], sumA_new hob, newPl_ok _, fun m q hq => ?_, fun m _ hm => ?_, by omega, by omega⟩
  ·rw [newPl_own hob, List.getElem?_map] at hq
   obtain ⟨a, _, rfl⟩ := Option.map_eq_some_iff.1 hq
   exact ⟨rfl, rfl⟩
  ·have hx := ownT_at adv hm
   exact ⟨_, by rw [newPl_own hob, List.getElem?_map, hx]; rfl, getD_b ha m⟩
 obtain ⟨lq, w, z2, H3, e3, g, j, hj, hIq⟩ := tot_l2 k ids (by omega) hb t hok hlim (newPl (ownT ids.length adv)) (ownT ids.length adv).sum hI g
 have a1 := placeAll_run k hk6 g 2 rfl (by have := hIq.len; omega)
 obtain ⟨z3, H4, e4, hx4⟩ := tot_l3 k (H := H3) lq (by have := hIq.len; omega) hIq.ok hIq.flat (lv encB ids) (.int .i64 w) (ptrV H1.n)
 have g4 := g.rest hx4
 have hpl := placeLenT k g4 2 rfl
 rw [hIq.len] at hpl e4
 rw [hIq.sum] at e4
 have hql := hIq.len
 refine nrm_gc ⟨H4, ?_, g4.ext⟩ (.bool _)
 simp -implicitDefEqProofs (disch := omega) [swashtop_WholeTotals, hw0, hrd0, hg0, c1', c2', hw, hrd, e1, swashtop_WholeTotals_l1k_x0, e2, e3, swashtop_WholeTotals_l2k_x2, a1, hql, e4, swashtop_WholeTotals_l3k_x4, hpl]
theorem row_u16 {r : List Da} {cs : List Value} (h : LayRow [.int .u16] r cs) : ∃ n : Int, cs = encU2 n ∧ (0 ≤ n ∧ n < 65536) := by
 obtain ⟨_, v1, _, _, rfl, h1, h⟩ := h.head
 obtain rfl := h.done
 obtain ⟨n, rfl, w⟩ := h1.intv
 exact ⟨n, rfl, wf_u16 w⟩
theorem WholeTotals_args (vs : List Value) (h : ArgsLay [.one (.slice [.int .u16, .int .u16, .int .i16]), .one (.slice [.int .u8]), .one (.slice [.int .u16])] vs) : ∃ H', R (T 0) F.swashtop_WholeTotals vs Heap.empty = .ok (.bool true) H' := by
 obtain ⟨v1, _, rfl, h1, h⟩ := h.head
 obtain ⟨v2, _, rfl, h2, h⟩ := h.head
 obtain ⟨v3, _, rfl, h3, h⟩ := h.head
 obtain rfl := h.done
 obtain ⟨d, h1⟩ := h1.cell
 obtain ⟨l, rfl, hl⟩ := Lay.list (enc := encPW) (ok := PW.ok) (fun r cs h => row_PW h) h1
 obtain ⟨ids, rfl, hb⟩ := arg_B h2
 obtain ⟨d3, h3⟩ := h3.cell
 obtain ⟨adv, rfl, hn, ha⟩ := Lay.listN (enc := encU2) (ok := fun n => 0 ≤ n ∧ n < 65536) (fun r cs h => row_u16 h) h3
 exact ⟨_, WholeTotals_run l hl ids hb adv ha hn⟩
end Go.Sw
end
section
namespace Go.Sw
open Go.RowKit
theorem names_ok : NamesOk Prog := NamesOk.of (by kernel_rfl)
theorem mixed_ok : Prog.follows .mixedOrders = true := Checked.mixed Go.Proofs.Try.checked
theorem laid_ok : laidOutB Prog = true := by kernel_rfl
theorem cloneP_is : SpIs Prog F.slices_Clone_of_api_Place_api_Place fun _ args H => cloneV 3 12 args H :=
 clone_is (c := { P := Prog, kp := kpS, sp := fun _ => none }) names_ok mixed_ok (t := 70) (e := 91) (by kernel_rfl) fun call a H => (slices_Clone_of_api_Place_api_Place_body 0 _ call a H).trans (by
  unfold slices_Clone_of_api_Place_api_Place cloneF
  simp only [be_70_0, ap_70, beR_bare])
theorem cloneG_is : SpIs Prog F.slices_Clone_of_api_Glyph_api_Glyph fun _ args H => cloneV 2 16 args H :=
 clone_is (c := { P := Prog, kp := kpS, sp := fun _ => none }) names_ok mixed_ok (t := 48) (e := 115) (by kernel_rfl) fun call a H => (slices_Clone_of_api_Glyph_api_Glyph_body 0 _ call a H).trans (by
  unfold slices_Clone_of_api_Glyph_api_Glyph cloneF
  simp only [be_48_0, ap_48, beR_bare])
theorem cloneR_is : SpIs Prog F.slices_Clone_of_sfnt_Part_sfnt_Part fun _ args H => cloneV 2 40 args H :=
 clone_is (c := { P := Prog, kp := kpS, sp := fun _ => none }) names_ok mixed_ok (t := 167) (e := 165) (by kernel_rfl) fun call a H => (slices_Clone_of_sfnt_Part_sfnt_Part_body 0 _ call a H).trans (by
  unfold slices_Clone_of_sfnt_Part_sfnt_Part cloneF
  simp only [be_167_0, ap_167, beR_bare])
theorem more_is (f : FuncId) (s : Sp) (h : moreS f = some s) : SpIs Prog f s := by
 unfold moreS at h
 cases h0 : Nat.beq f 35 with
 | true => have := Nat.eq_of_beq_eq_true h0; subst this; rw [h0, cond_true] at h; injection h with h; subst h; exact try_is
 | false =>
 rw [h0, cond_false] at h
 cases h1 : Nat.beq f 104 with
 | true => have := Nat.eq_of_beq_eq_true h1; subst this; rw [h1, cond_true] at h; injection h with h; subst h; exact cloneG_is
 | false =>
 rw [h1, cond_false] at h
 cases h2 : Nat.beq f 118 with
 | true => have := Nat.eq_of_beq_eq_true h2; subst this; rw [h2, cond_true] at h; injection h with h; subst h; exact cloneP_is
 | false =>
 rw [h2, cond_false] at h
 cases h3 : Nat.beq f 159 with
 | true => have := Nat.eq_of_beq_eq_true h3; subst this; rw [h3, cond_true] at h; injection h with h; subst h; exact cloneR_is
 | false =>
 rw [h3, cond_false] at h
 cases h4 : Nat.beq f 244 with
 | true => rw [h4, cond_true] at h; injection h with h; subst h; exact SpIs.stuck _ _
 | false =>
 rw [h4, cond_false] at h
 cases h
theorem T_prog (k : Nat) : (T k).c.P = Prog := by unfold T C; rfl
theorem told0 {k : Nat} (hk : oneOf (k % 1000000) speaksT = false) : SpOk (T k).c := by
 have h1 : SpOk (C k) := by
  unfold C
  exact SpOk.none (P := Prog) (kp := kpS) (speaks := speaksT) (more := moreS) (k := k % 1000000) hk more_is
 exact h1
end Go.Sw
end
