/-
  Functions' forms, and what is proved of them, part 4.
-/
import Derived.Test.YtnaodjnimkndbabSwW2
import Derived.Test.YtnaodjnimkndbabSwW3
import Derived.Test.YtnaodjnimkndbabSwCfg
set_option linter.unusedSimpArgs false
set_option linter.unusedVariables false
set_option linter.unusedSectionVars false
section
namespace Go.Sw
open Go.RowKit
theorem Star.memP {H0 H : Heap} {L : List It} (h : Star H0 H L) {x : It} (hx : x ∈ L) : x.P H := by
 obtain ⟨i, hi⟩ := List.getElem?_of_mem hx;exact h.at i hi
theorem Star.memBlk {H0 H : Heap} {L : List It} (h : Star H0 H L) {c : Nat} {k : Blk} (hx : itBlk c k ∈ L) : H.get c = some k := h.memP hx
theorem Star.memOwn {α : Type} {enc : α → List Value} {H0 H : Heap} {L : List It} (h : Star H0 H L) {o : Option Nat} {m : Nat} {s : Value} {l : List α} (hx : itRow o m s enc l ∈ L) : Own H0 H m s enc l := by
 obtain ⟨i, hi⟩ := List.getElem?_of_mem hx;exact h.own i hi
theorem Star.stCell {H0 H : Heap} {L : List It} (h : Star H0 H L) (i : Nat) {c : Nat} {cells : List Value} {e : Nat} (hi : L[i]? = some (itBlk c ⟨cells, e, false⟩)) (off : Nat) {v : Value} (hs : storable v = true) (hc : v.cells = #[v]) (ho : off < cells.length) :
  ∃ H', stR 1 (.pointer (some ⟨c, off, none⟩)) v H = .ok undef H' ∧ Star H0 H' (L.set i (itBlk c ⟨cells.set off v, e, false⟩)) ∧ H'.n = H.n := by
 have hg := h.get i hi;have hsp : splice cells off [v] = cells.set off v := by
  unfold splice;rw [List.set_eq_take_append_cons_drop, if_pos ho];rfl
 refine ⟨H.set c (some ⟨cells.set off v, e, false⟩), ?_, h.step i hi (by simp) (fun d _ hd => ?_) _ ?_ fun b hb => .inl hb, by simp⟩
 ·simp [hs, hc, hg, hsp];rw [if_pos (show off + 1 ≤ cells.length by omega)];rfl
 ·rw [get_set_ne];exact fun e => hd (show d ∈ [c] by simp [e])
 ·exact get_set_eq _ _ _ (by rw [hg]; rfl)
theorem loop_decP {body : Env → Heap → Res (AExit × Env)} (Inv : Nat → Env → Heap → Prop) (Q : AExit → Env → Heap → Prop) (Qp : Value → Heap → Prop)
  (step : ∀ m e H, Inv m e H → (∃ m' e' H', body e H = .ok (.normal, e') H' ∧ m' < m ∧ Inv m' e' H') ∨ (∃ x e' H', body e H = .ok (x, e') H' ∧ x ≠ .normal ∧ Q x e' H') ∨ (∃ v H', body e H = .panic v H' ∧ Qp v H')) :
  ∀ (fuel m : Nat) (e : Env) (H : Heap), m < fuel → Inv m e H → (∃ x e' H', loopN body fuel e H = .ok (x, e') H' ∧ Q x e' H') ∨ (∃ v H', loopN body fuel e H = .panic v H' ∧ Qp v H')
 | 0, m, e, H, hm, _ => by omega
 | fuel + 1, m, e, H, hm, hi => by
  rcases step m e H hi with ⟨m', e', H', h1, h2, h3⟩ | ⟨x, e', H', h1, h2, h3⟩ | ⟨v, H', h1, h2⟩
  ·simp only [loopN, h1, Res.bind];exact loop_decP Inv Q Qp step fuel m' e' H' (by omega) h3
  ·refine .inl ⟨x, e', H', ?_, h3⟩;cases x with
   | normal => exact absurd rfl h2
   | exit j => simp only [loopN, h1, Res.bind]
   | ret => simp only [loopN, h1, Res.bind]
  ·exact .inr ⟨v, H', by simp only [loopN, h1, Res.bind], h2⟩
theorem loopDecP {body : Env → Heap → Res (AExit × Env)} (Inv : Nat → Env → Heap → Prop) (Q : AExit → Env → Heap → Prop) (Qp : Value → Heap → Prop) {e0 : Env} {H0 : Heap} (m : Nat) (h0 : Inv m e0 H0) (hm : m < 2 ^ 64)
  (step : ∀ m e H, Inv m e H → (∃ m' e' H', body e H = .ok (.normal, e') H' ∧ m' < m ∧ Inv m' e' H') ∨ (∃ x e' H', body e H = .ok (x, e') H' ∧ x ≠ .normal ∧ Q x e' H') ∨ (∃ v H', body e H = .panic v H' ∧ Qp v H')) :
  (∃ x e' H', loopN body loopFuel e0 H0 = .ok (x, e') H' ∧ Q x e' H') ∨ (∃ v H', loopN body loopFuel e0 H0 = .panic v H' ∧ Qp v H') := loop_decP Inv Q Qp step loopFuel m e0 H0 (fuel_big hm) h0
abbrev encEn (e : En) : List Value := [.int .i64 e.next, .int .i64 e.flags, .int .i64 e.a, .int .i64 e.b]
theorem encEn_len (e : En) : (encEn e).length = 4 := rfl
theorem encEn_still (l : List En) : ∀ p, p ∈ l → ∀ v, v ∈ encEn p → Still v := fun p _ v hv => by
 simp [encEn] at hv;rcases hv with rfl | rfl | rfl | rfl <;> trivial
theorem Flat.ofEn (e : En) : Flat (.agg (encEn e).toArray) := .aggL (.cons (.int _ _) (.cons (.int _ _) (.cons (.int _ _) (.cons (.int _ _) .nil))))
theorem Flat.Ens (l : List En) : Flat (Go.Sw.lv encEn l) := .lv fun p _ => .cons (.int _ _) (.cons (.int _ _) (.cons (.int _ _) (.cons (.int _ _) .nil)))
abbrev encU (x : List Int × Value) : List Value := [x.2]
theorem encU_len (x : List Int × Value) : (encU x).length = 1 := rfl
abbrev encRow (r : List Int) : List Value := [lv encI r]
theorem encRow_len (r : List Int) : (encRow r).length = 1 := rfl
def MS (H0 H : Heap) (X : List It) (c : Nat) (n : Int) (tab : Value) (rs : List (List Int)) (es : List En) : Prop :=
 ∃ (l : List (List Int × Value)) (s1 : Value) (o1 : Option Nat) (s2 : Value) (o2 : Option Nat) (bs : List It), l.map Prod.fst = rs ∧
  Star H0 H (itBlk c ⟨[.int .i64 n, tab, s1, s2], 1, false⟩ :: itRow o1 1 s1 encU l :: itRow o2 4 s2 encEn es :: (X ++ bs)) ∧ ∀ x, x ∈ l → ∃ o, itRow o 1 x.2 encI x.1 ∈ bs
theorem MS.rest {H0 H H' : Heap} {X : List It} {c : Nat} {n : Int} {tab : Value} {rs : List (List Int)} {es : List En} (h : MS H0 H X c n tab rs es) (he : Ext H H') : MS H0 H' X c n tab rs es := by
 obtain ⟨l, s1, o1, s2, o2, bs, h1, h2, h3⟩ := h;exact ⟨l, s1, o1, s2, o2, bs, h1, h2.rest he, h3⟩
theorem MS.ext {H0 H : Heap} {X : List It} {c : Nat} {n : Int} {tab : Value} {rs : List (List Int)} {es : List En} (h : MS H0 H X c n tab rs es) : Ext H0 H := by
 obtain ⟨l, s1, o1, s2, o2, bs, h1, h2, h3⟩ := h;exact h2.ext
theorem MS.here {H0 H : Heap} {X : List It} {c : Nat} {n : Int} {tab : Value} {rs : List (List Int)} {es : List En} (h : MS H0 H X c n tab rs es) :
  ∃ s1 s2, H.get c = some ⟨[.int .i64 n, tab, s1, s2], 1, false⟩ ∧ (∀ H', lnS s1 H' = .ok (.int .i64 rs.length) H') ∧ ∀ H', lnS s2 H' = .ok (.int .i64 es.length) H' := by
 obtain ⟨l, s1, o1, s2, o2, bs, h1, h2, h3⟩ := h;refine ⟨s1, s2, h2.get 0 rfl, fun H' => ?_, (h2.row 2 rfl).len⟩;rw [(h2.row 1 rfl).len, ← h1, List.length_map]
theorem MS.memX {H0 H : Heap} {X : List It} {c : Nat} {n : Int} {tab : Value} {rs : List (List Int)} {es : List En} (h : MS H0 H X c n tab rs es) {b : Nat} {k : Blk} (hb : itBlk b k ∈ X) : H.get b = some k := by
 obtain ⟨l, s1, o1, s2, o2, bs, h1, h2, h3⟩ := h;exact h2.memBlk (by simp [hb])
theorem row_take {rv : List Int} {n : Int} {k : Nat} {r : List Int} (h : rowsS rv (2 * n * k) n 2 = some r) (hn : 0 ≤ n) : r.length = n.toNat * 2 ∧ rowK rv n k = some ((cutRows r 2 n.toNat).map num) := by
 refine ⟨?_, by unfold rowK listS; rw [h]; rfl⟩;have := pieceS_len (rowsS_piece h);omega
theorem row_run (k : Nat) {H0 H : Heap} {X : List It} {c : Nat} {n : Int} {tab : Value} {rs : List (List Int)} {es : List En} (h : MS H0 H X c n tab rs es) (hn : 0 ≤ n ∧ n ≤ 65535) (hrl : rs.length < 65536) {vR vE : Value} {rv : List Int} (w : Int) (hv : Sl H 1 vR encB rv) (hE : Go.Sw.veq vE vE = true) (hb : Byt rv) (hl : rv.length < 2 ^ 31) :
  match rowK rv n rs.length with
  | some r => ∃ H', R (T k) F.state_reader_row [.agg #[ptrV c, vR, vE, .int .i64 w]] H = .ok (.int .i64 (needL r)) H' ∧ MS H0 H' X c n tab (rs ++ [r]) es
  | none => R (T k) F.state_reader_row [.agg #[ptrV c, vR, vE, .int .i64 w]] H = .panic failV H := by
 obtain ⟨l, s1, o1, s2, o2, bs, h1, g, h3⟩ := h;have hM := g.get 0 rfl;have hlen1 := (g.row 1 rfl).len;have hll : l.length = rs.length := by rw [← h1, List.length_map]
 rw [hll] at hlen1;have hcn : ¬ c = H.n := by have := Heap.get_lt hM; omega
 have hx1 : Ext H (H.push ⟨[ptrV c, vR, vE, .int .i64 w], 1, false⟩) := (Ext.refl H).push _;have hm0 : 0 ≤ 2 * n * (rs.length : Int) := Int.mul_nonneg (by omega) (by omega);have hm1 : 2 * n * (rs.length : Int) ≤ 131070 * 65536 := Int.mul_le_mul (by omega) (by omega) (by omega) (by omega);have hRows := Rows_run k (hv.up hx1) (2 * n * rs.length) n 2 (by omega);rw [state_reader_row_R];cases hr : rowsS rv (2 * n * rs.length) n 2 with
 | none =>
  have : rowK rv n rs.length = none := by unfold rowK listS; rw [hr]; rfl
  rw [this];rw [hr] at hRows;refine nrm_throw ⟨_, ?_, hx1⟩ Flat.fail.alive;simp -implicitDefEqProofs (disch := omega) [state_reader_row, hcn, hM, hlen1, hRows]
 | some r =>
  obtain ⟨hrlen, hK⟩ := row_take hr hn.1;rw [hK];dsimp only;rw [hr] at hRows;have hs := pieceS_sl (hv.up hx1) (rowsS_piece hr);have hrb := (hb.piece (rowsS_piece hr)).1;obtain ⟨n, rfl⟩ := Int.eq_ofNat_of_zero_le hn.1;simp only [Int.toNat_natCast] at hrlen ⊢;generalize subV 1 vR (2 * (n : Int) * rs.length).toNat ((n : Int) * 2).toNat = q at hs hRows;obtain ⟨B1, hB1⟩ : ∃ B1 : Blk, B1 = ⟨[ptrV c, vR, vE, .int .i64 w], 1, false⟩ := ⟨_, rfl⟩
  obtain ⟨B2, hB2⟩ : ∃ B2 : Blk, B2 = ⟨[q], 1, false⟩ := ⟨_, rfl⟩
  rw [← hB1] at hs;have g := (g.push B1).push B2;have hx2 : Ext (H.push B1) ((H.push B1).push B2) := (Ext.refl _).push _;obtain ⟨vals, hvals⟩ : ∃ vals, vals = (cutRows r 2 n).map num := ⟨_, rfl⟩
  rw [← hvals];have hvl : vals.length = n := by rw [hvals]; simp
  obtain ⟨x, e', H1, hr', rfl, rfl, ho, hx⟩ := loop_up (body := state_reader_row_l1 k (R (T k))) n
   (fun j e H' => e = [(1, ptrV H.n), (4, ptrV (H.n + 1)), (5, .slice (some ⟨H.n + 2, 0, none⟩) n n), (6, .int .i64 (needL (vals.take j))), (29, .int .i64 n), (30, .int .i64 j)] ∧
    Own ((H.push B1).push B2) H' 1 (.slice (some ⟨H.n + 2, 0, none⟩) n n) encI (vals.take j ++ List.replicate (n - j) 0) ∧ Ext ((H.push B1).push B2) H')
   (fun x e H' => x = .exit 0 ∧ e = [(1, ptrV H.n), (4, ptrV (H.n + 1)), (5, .slice (some ⟨H.n + 2, 0, none⟩) n n), (6, .int .i64 (needL vals)), (29, .int .i64 n), (30, .int .i64 n), (31, .bool false)] ∧
    Own ((H.push B1).push B2) H' 1 (.slice (some ⟨H.n + 2, 0, none⟩) n n) encI vals ∧ Ext ((H.push B1).push B2) H')
   (e0 := [(1, ptrV H.n), (4, ptrV (H.n + 1)), (5, .slice (some ⟨H.n + 2, 0, none⟩) n n), (6, .int .i64 0), (29, .int .i64 n), (30, .int .i64 0)]) (H0 := ((H.push B1).push B2).push ⟨repeatCells [Value.int .i64 0] n, 1, false⟩)
   ⟨rfl, .inr ⟨H.n + 2, by simp, by simp, by rw [get_push_eq _ _ _ (by simp), repeat_I]; simp⟩, (Ext.refl _).push _⟩ (by omega)
   (fun j e H' hj ⟨he, ho, hx⟩ => by
    subst he;have hlt : (j : Int) < n := by omega
    have hg2 : H'.get (H.n + 1) = some ⟨[q], 1, false⟩ := hx.get (by rw [get_push_eq _ _ _ (by simp), hB2]);have hu := U16_run k ((hs.up hx2).up hx) hrb (2 * (j : Int)) (by omega);have hcut : uS r (2 * (j : Int)) 2 = some (num ((r.drop (2 * j)).take 2)) := uS_cut (z := 2) hrlen hj;have hy : vals[j]? = some (num ((r.drop (2 * j)).take 2)) := by rw [hvals, List.getElem?_map, cutRows_get _ _ _ _ hj]; rfl
    rw [hcut, orF_some] at hu;have hyb := uS_two hrb hcut;obtain ⟨b, H2, e1, h1, h2, h3, h4, h5, h6⟩ := ho.set encI_len j 0 1 0 (num ((r.drop (2 * j)).take 2)) (.int .i64 (num ((r.drop (2 * j)).take 2))) (fill_get _ _ hvl hj) rfl rfl (by decide) rfl;rw [fill_step _ _ hvl hj _ hy] at h4;have hnl : needL (vals.take (j + 1)) = max (needL (vals.take j)) (num ((r.drop (2 * j)).take 2) + 1) := by rw [take_snoc hy, needL_snoc]
    rw [hnl];have hn0 := needL_nonneg (vals.take j);generalize num ((r.drop (2 * j)).take 2) = y at *;generalize needL (vals.take j) = m at *;simp at e1;obtain ⟨rfl, _⟩ := e1;have hx' : Ext ((H.push B1).push B2) H2 := ⟨by rw [h6]; exact hx.n, fun d hd hs => by rw [h5 d (by intro e; rw [e] at hd; simp at hd)]; exact hx.2 d hd hs⟩
    have hgv : H2.get (H.n + 2) = some ⟨rows encI (vals.take (j + 1) ++ List.replicate (n - (j + 1)) 0), 1, false⟩ := by
     rcases h4 with ⟨h, _⟩ | ⟨b', h, _, h'⟩
     ·have := congrArg List.length h; simp only [List.length_append, List.length_replicate, List.length_take, hvl, List.length_nil] at this; omega
     ·simp at h; obtain ⟨rfl, _⟩ := h; exact h'
    have hld := ld1_row encI_len hgv (i := j) (c := 0) (x := y) (by rw [List.getElem?_append_left (by simp; omega), List.getElem?_take, if_pos (by omega), hy]) (by decide) rfl;simp only [Nat.add_zero, Nat.mul_one] at h3 hld;have hmax : (if y + 1 > m then y + 1 else m) = max m (y + 1) := by split <;> omega
    refine .inl ⟨_, H2, ?_, rfl, h4, hx'⟩;rw [state_reader_row_l1_eq, ← hmax];simp -implicitDefEqProofs (disch := omega) [-stR_ptr, -ld1_ptr, hlt, ld1_ptr H.n.succ 0, hg2, hu, ixS_slice, h3, hld]
    )
   (fun e H' ⟨he, ho, hx⟩ => by
    subst he;refine ⟨.exit 0, _, H', ?_, by simp, rfl, rfl, ?_, hx⟩
    ·rw [state_reader_row_l1_eq, List.take_of_length_le (by omega)];simp -implicitDefEqProofs
    ·rw [List.take_of_length_le (by omega)] at ho;simpa using ho)
  obtain ⟨o3, g⟩ := g.more_own ho hx;obtain ⟨sl, hsl⟩ : ∃ sl : Value, sl = .slice (some ⟨H.n + 2, 0, none⟩) n n := ⟨_, rfl⟩
  rw [← hsl] at g ho hr';obtain ⟨bs', hbs⟩ : ∃ bs', bs' = bs ++ [itBlk H.n B1, itBlk (H.n + 1) B2, itRow o3 1 sl encI vals] := ⟨_, rfl⟩
  have g : Star H0 H1 (itBlk c ⟨[.int .i64 n, tab, s1, s2], 1, false⟩ :: itRow o1 1 s1 encU l :: itRow o2 4 s2 encEn es :: (X ++ bs')) := by
   rw [hbs];simpa using g
  have hM1 := g.get 0 rfl;have hB1g : H1.get H.n = some B1 := g.memBlk (by simp [hbs]);have hn1 : ¬ H.n = H1.n := by have := Heap.get_lt hB1g; omega
  have hc1 : ¬ c = H1.n := by have := Heap.get_lt hM1; omega
  have hvq := (g.row 1 rfl).veq;obtain ⟨s1', o1', H2, e2, g⟩ := g.append1 (bytes := 24) 1 encU_len rfl (vals, sl) (by rw [hll]; omega) (by decide);simp only [List.set_cons_zero, List.set_cons_succ] at g;have hB1g2 : H2.get H.n = some B1 := g.memBlk (by simp [hbs]);obtain ⟨H3, e3, g, _⟩ := g.stCell 0 rfl 2 (g.row 1 rfl).storable (g.row 1 rfl).cells (by simp);simp only [List.set_cons_zero, List.set_cons_succ] at g;refine ⟨H3, nrm_of ?_, l ++ [(vals, sl)], s1', o1', s2, o2, bs', by simp [h1], g, fun x hx => ?_⟩
  ·have hsls : storable sl = true := by rw [hsl]; rfl
   have hslc : sl.cells = #[sl] := by rw [hsl]; rfl
   have hsln : ∀ H', lnS sl H' = .ok (.int .i64 n) H' := fun H' => by rw [hsl]; rfl
   rw [hB1] at hB1g hB1g2 hr';rw [hB2] at hr';simp only [encU] at e2;simp -implicitDefEqProofs (disch := omega) [-stR_ptr, state_reader_row, hcn, hM, hlen1, hRows, mkR_nat, stR_ptr 1 (H.n + 1) 0, ← hsl, hr', state_reader_row_l1k_x0, hB1g, hB1g2, hn1, hc1, hM1, hvq, hE, hsls, hslc, hsln, e2, e3]
  ·rcases List.mem_append.1 hx with hx | hx
   ·obtain ⟨o, ho⟩ := h3 x hx;exact ⟨o, by rw [hbs]; simp [ho]⟩
   ·simp at hx;subst hx;exact ⟨o3, by rw [hbs]; simp⟩
end Go.Sw
end
section
namespace Go.Sw
open Go.RowKit
theorem entry_run (k : Nat) {H0 H : Heap} {X : List It} {c : Nat} {n : Int} {tab : Value} {rs : List (List Int)} {es : List En} (h : MS H0 H X c n tab rs es) (hel : es.length < 65536) {vR vE : Value} {ev : List Int} (w : Int) (hw : w = 0 ∨ w = 1 ∨ w = 2) (hv : Sl H 1 vE encB ev) (hR : Go.Sw.veq vR vR = true) (hb : Byt ev) (hl : ev.length < 2 ^ 31) :
  match entK ev w es.length with
  | some e => ∃ H', R (T k) F.state_reader_entry [.agg #[ptrV c, vR, vE, .int .i64 w]] H = .ok (.int .i64 (e.next + 1)) H' ∧ MS H0 H' X c n tab rs (es ++ [e])
  | none => R (T k) F.state_reader_entry [.agg #[ptrV c, vR, vE, .int .i64 w]] H = .panic failV H := by
 obtain ⟨l, s1, o1, s2, o2, bs, h1, g, h3⟩ := h;have hM := g.get 0 rfl;have hlen2 := (g.row 2 rfl).len;have hcn : ¬ c = H.n := by have := Heap.get_lt hM; omega
 have hx1 : Ext H (H.push ⟨[ptrV c, vR, vE, .int .i64 w], 1, false⟩) := (Ext.refl H).push _;have hm0 : 0 ≤ (4 + 2 * w) * (es.length : Int) := Int.mul_nonneg (by omega) (by omega);have hm1 : (4 + 2 * w) * (es.length : Int) ≤ 8 * 65536 := Int.mul_le_mul (by omega) (by omega) (by omega) (by omega);have hCut := Cut_run k (hv.up hx1) ((4 + 2 * w) * es.length) (4 + 2 * w) (by omega);rw [state_reader_entry_R];cases hr : pieceS ev ((4 + 2 * w) * es.length) (4 + 2 * w) with
 | none =>
  have : entK ev w es.length = none := by unfold entK; rw [hr]; rfl
  rw [this];rw [hr] at hCut;refine nrm_throw ⟨_, ?_, hx1⟩ Flat.fail.alive;simp -implicitDefEqProofs (disch := omega) [state_reader_entry, hcn, hM, hlen2, hCut]
 | some r =>
  have hK : entK ev w es.length = some (entOf w r) := by unfold entK; rw [hr]; rfl
  rw [hK];dsimp only;rw [hr] at hCut;have hs := pieceS_sl (hv.up hx1) hr;have hrb := (hb.piece hr).1;have hrl := pieceS_len hr;generalize subV 1 vE ((4 + 2 * w) * (es.length : Int)).toNat (4 + 2 * w).toNat = q at hs hCut;have hq := rd_vw hs;obtain ⟨B1, hB1⟩ : ∃ B1 : Blk, B1 = ⟨[ptrV c, vR, vE, .int .i64 w], 1, false⟩ := ⟨_, rfl⟩
  obtain ⟨B2, hB2⟩ : ∃ B2 : Blk, B2 = ⟨[q], 1, false⟩ := ⟨_, rfl⟩
  obtain ⟨e, he⟩ : ∃ e, e = entOf w r := ⟨_, rfl⟩
  rw [← he];have hu : ∀ i, 0 ≤ i → i + 2 ≤ 4 + 2 * w → ∀ H', Ext (H.push B1) H' → R (T k) F.view_View_U16 [.agg #[q], .int .i64 i] H' = .ok (.int .i64 (gU r i 2)) H' := fun i hi0 hi1 H' hx => by
   rw [← hB1] at hs;have := U16_run k (hs.up hx) hrb i (by omega);rw [(piece_gU hb hr hi0 hi1).1, orF_some] at this;exact this
  have hx2 : Ext (H.push B1) ((H.push B1).push B2) := (Ext.refl _).push _;have u0 := hu 0 (by omega) (by omega) _ hx2;have u2 := hu 2 (by omega) (by omega) _ hx2;have g0 := (piece_gU hb hr (i := 0) (by omega) (by omega)).2;have g2 := (piece_gU hb hr (i := 2) (by omega) (by omega)).2;have hn : e.next = gU r 0 2 := by rw [he]; rfl
  have hf : e.flags = gU r 2 2 := by rw [he]; rfl
  have g := ((g.push B1).push B2).push ⟨encEn e, 1, false⟩;obtain ⟨P, hP⟩ : ∃ P, P = ((H.push B1).push B2).push ⟨encEn e, 1, false⟩ := ⟨_, rfl⟩
  rw [← hP] at g;obtain ⟨bs', hbs⟩ : ∃ bs', bs' = bs ++ [itBlk H.n B1, itBlk (H.n + 1) B2, itBlk (H.n + 2) ⟨encEn e, 1, false⟩] := ⟨_, rfl⟩
  have g : Star H0 P (itBlk c ⟨[.int .i64 n, tab, s1, s2], 1, false⟩ :: itRow o1 1 s1 encU l :: itRow o2 4 s2 encEn es :: (X ++ bs')) := by
   rw [hbs];simpa using g
  have hM1 := g.get 0 rfl;have hB1g : P.get H.n = some B1 := g.memBlk (by simp [hbs]);have hPn : P.n = H.n + 3 := by rw [hP]; simp
  have hn1 : ¬ H.n = P.n := by omega
  have hc1 : ¬ c = P.n := by have := Heap.get_lt hM1; omega
  have hvq := (g.row 2 rfl).veq;obtain ⟨s2', o2', H2, e2, g⟩ := g.append1 (bytes := 32) 2 encEn_len rfl e (by omega) (by decide);simp only [List.set_cons_zero, List.set_cons_succ] at g;have hB1g2 : H2.get H.n = some B1 := g.memBlk (by simp [hbs]);obtain ⟨H3, e3, g, _⟩ := g.stCell 0 rfl 3 (g.row 2 rfl).storable (g.row 2 rfl).cells (by simp);simp only [List.set_cons_zero, List.set_cons_succ] at g;have hB3g : H3.get (H.n + 2) = some ⟨encEn e, 1, false⟩ := g.memBlk (by simp [hbs]);refine ⟨H3, nrm_of ?_, l, s1, o1, s2', o2', bs', h1, g, fun x hx => ?_⟩;rotate_left
  ·obtain ⟨o, ho⟩ := h3 x hx;exact ⟨o, by rw [hbs]; simp [ho]⟩
  rw [hB1] at hB1g hB1g2;have hPe := hP;rw [hB1, hB2] at hPe;have hP2 : P.get (H.n + 2) = some ⟨encEn e, 1, false⟩ := by rw [hP]; simp
  have hP1 : P.get (H.n + 1) = some B2 := by rw [hP]; simp
  rw [hB2] at hP1;rw [hB1, hB2] at u0 u2;have hq2 : Go.Sw.veq (.agg #[q]) (.agg #[q]) = true := veq_agg (l := [q]) fun u hu => by simp at hu; subst hu; exact hq
  have hn2 : ¬ H.n + 2 = P.n := by omega
  have e2' := e2;unfold encEn at e2';have hj4 : state_reader_entry_j4 k (R (T k)) (ptrV H.n) (ptrV (H.n + 1)) (ptrV (H.n + 2)) (.bool false) P = .ok (.int .i64 (e.next + 1)) H3 := by
   rw [state_reader_entry_j4_eq];simp -implicitDefEqProofs (disch := omega) [-stR_ptr, hB1g, hM1, hP2, hn1, hc1, hB1g2, hvq, e2', e3, hB3g]
  have hj3 : state_reader_entry_j3 k (R (T k)) (ptrV H.n) (ptrV (H.n + 2)) P = .ok (.int .i64 (e.next + 1)) H3 := by
   rw [state_reader_entry_j3_eq];simp -implicitDefEqProofs (disch := omega) [-stR_ptr, hB1g, hM1, hP2, hn1, hc1, hB1g2, hvq, e2', e3, hB3g]
  rcases hw with rfl | rfl | rfl
  ·have hall : encEn e = [.int .i64 (gU r 0 2), .int .i64 (gU r 2 2), .int .i64 0, .int .i64 0] := by rw [he]; rfl
   rw [hall] at hPe;simp -implicitDefEqProofs (disch := omega) at hCut;simp -implicitDefEqProofs (disch := omega) [state_reader_entry, hcn, hM, hlen2, hCut, u0, u2, hq2, ← hPe, state_reader_entry_j2_eq, hB1g, hj4]
  ·have hall : encEn e = [.int .i64 (gU r 0 2), .int .i64 (gU r 2 2), .int .i64 (gU r 4 2), .int .i64 0] := by rw [he]; rfl
   rw [hall] at hPe;have u4 := hu 4 (by omega) (by omega) _ (hx2.push ⟨[.int .i64 (gU r 0 2), .int .i64 (gU r 2 2), .int .i64 0, .int .i64 0], 1, false⟩);rw [hB1, hB2] at u4;simp -implicitDefEqProofs (disch := omega) at hCut;simp -implicitDefEqProofs (disch := omega) [state_reader_entry, hcn, hM, hlen2, hCut, u0, u2, u4, hq2, ← hPe, state_reader_entry_j1_eq, hB1g, hj4]
  ·have hall : encEn e = [.int .i64 (gU r 0 2), .int .i64 (gU r 2 2), .int .i64 (gU r 4 2), .int .i64 (gU r 6 2)] := by rw [he]; rfl
   rw [hall] at hPe;have u4 := hu 4 (by omega) (by omega) _ (hx2.push ⟨[.int .i64 (gU r 0 2), .int .i64 (gU r 2 2), .int .i64 0, .int .i64 0], 1, false⟩);have u6 := hu 6 (by omega) (by omega) _ (hx2.push ⟨[.int .i64 (gU r 0 2), .int .i64 (gU r 2 2), .int .i64 (gU r 4 2), .int .i64 0], 1, false⟩);rw [hB1, hB2] at u4 u6;simp -implicitDefEqProofs (disch := omega) at hCut;simp -implicitDefEqProofs (disch := omega) [state_reader_entry, hcn, hM, hlen2, hCut, u0, u2, u4, u6, hq2, ← hPe, state_reader_entry_j1_eq, hj3]
theorem needR_snoc (rs : List (List Int)) (r : List Int) : needR (rs ++ [r]) = max (needR rs) (needL r) := by
 unfold needR;rw [List.flatten_append, needL_append];simp
theorem needR_nonneg (rs : List (List Int)) : 0 ≤ needR rs := needL_nonneg _
theorem rowK_lt {rv : List Int} (hb : Byt rv) {n : Int} {k : Nat} {r : List Int} (h : rowK rv n k = some r) : ∀ y, y ∈ r → 0 ≤ y ∧ y < 65536 := by
 unfold rowK listS at h;obtain ⟨q, hq, rfl⟩ := Option.map_eq_some_iff.1 h;have hqb := (hb.piece (rowsS_piece hq)).1;intro y hy;obtain ⟨c, hc, rfl⟩ := List.mem_map.1 hy;obtain ⟨h5, h6⟩ := cutRows_byt hqb _ _ hc;have := num_bound c h5;have hp : (256 : Int) ^ c.length ≤ 256 ^ 2 := by
  have : c.length ≤ 2 := h6
  match hcl : c.length, this with
  | 0, _ => decide
  | 1, _ => decide
  | 2, _ => decide
 omega
theorem rowsTo_need {rv : List Int} (hb : Byt rv) {n : Int} {m : Nat} {rs : List (List Int)} (h : rowsTo rv n m = some rs) : needR rs ≤ 65536 := needL_lt (by omega) fun y hy => by
 obtain ⟨r, hrm, hy⟩ := List.mem_flatten.1 hy;obtain ⟨i, hi⟩ := List.getElem?_of_mem hrm;obtain ⟨k, _, hk⟩ := mapO_get h hi;exact (rowK_lt hb hk y hy).2
theorem mapO_none_of {β : Type} {f : Nat → Option β} {n m : Nat} (h : n ≤ m) (hn : mapO f (List.range n) = none) : mapO f (List.range m) = none := by
 cases hm : mapO f (List.range m) with
 | none => rfl
 | some r => rw [mapO_prefix h hm] at hn; cases hn
section
variable (k : Nat) {H0 : Heap} {X : List It} {c r : Nat} {n : Int} {tab vR vE : Value} {rv ev : List Int} {w : Int}
 (hn : 0 ≤ n ∧ n ≤ 65535) (hw : w = 0 ∨ w = 1 ∨ w = 2) (hvR : Sl H0 1 vR encB rv) (hvE : Sl H0 1 vE encB ev) (hbR : Byt rv) (hbE : Byt ev) (hlR : rv.length < 2 ^ 31) (hlE : ev.length < 2 ^ 31)
 (hX : itBlk r ⟨[ptrV c, vR, vE, .int .i64 w], 1, false⟩ ∈ X)
include hn hvR hvE hbR hlR hX
theorem rows_loop {H : Heap} (s : Nat) (hs : s ≤ 65536) {rs : List (List Int)} {es : List En} (h : MS H0 H X c n tab rs es) (hrs : rs.length ≤ s) (ht : rowsTo rv n rs.length = some rs) :
  (∃ rs' H', loopN (state_Take_l2 k (R (T k))) loopFuel [(8, ptrV c), (9, ptrV r), (10, .int .i64 s), (11, .int .i64 (needR rs))] H = .ok (.exit 2, [(8, ptrV c), (9, ptrV r), (10, .int .i64 s), (11, .int .i64 (needR rs')), (63, .bool false)]) H' ∧ rowsTo rv n s = some rs' ∧ MS H0 H' X c n tab rs' es) ∨
  (∃ H', loopN (state_Take_l2 k (R (T k))) loopFuel [(8, ptrV c), (9, ptrV r), (10, .int .i64 s), (11, .int .i64 (needR rs))] H = .panic failV H' ∧ Ext H0 H' ∧ rowsTo rv n s = none) := by
 rcases loopDecP (body := state_Take_l2 k (R (T k)))
  (fun m e H' => ∃ rs, m = s - rs.length ∧ rs.length ≤ s ∧ e = [(8, ptrV c), (9, ptrV r), (10, .int .i64 s), (11, .int .i64 (needR rs))] ∧ rowsTo rv n rs.length = some rs ∧ MS H0 H' X c n tab rs es)
  (fun x e H' => ∃ rs', x = .exit 2 ∧ e = [(8, ptrV c), (9, ptrV r), (10, .int .i64 s), (11, .int .i64 (needR rs')), (63, .bool false)] ∧ rowsTo rv n s = some rs' ∧ MS H0 H' X c n tab rs' es)
  (fun v H' => v = failV ∧ Ext H0 H' ∧ rowsTo rv n s = none)
  (s - rs.length) (e0 := [(8, ptrV c), (9, ptrV r), (10, .int .i64 s), (11, .int .i64 (needR rs))]) (H0 := H) ⟨rs, rfl, hrs, rfl, ht, h⟩ (by omega)
  (fun m e H' ⟨rs, hm, hle, he, ht, h⟩ => by
   subst he;obtain ⟨s1, s2, hM, hl1, hl2⟩ := h.here;have hr := h.memX hX;have h0 := needR_nonneg rs;have h6 := rowsTo_need hbR ht;by_cases hlt : rs.length < s
   ·have hlt' : (rs.length : Int) < s := by omega
    have hrow := row_run k h hn (by omega) (vE := vE) w (hvR.up h.ext) (rd_vw hvE) hbR hlR;cases hK : rowK rv n rs.length with
    | none =>
     rw [hK] at hrow;refine .inr (.inr ⟨failV, H', ?_, rfl, h.ext, mapO_none_of (n := rs.length + 1) hlt ?_⟩)
     ·rw [state_Take_l2_eq];simp -implicitDefEqProofs (disch := omega) [hM, hl1, hlt', hr, hrow]
     ·rw [mapO_range, show mapO (rowK rv n) (List.range rs.length) = some rs from ht, Option.bind_some, hK];rfl
    | some row =>
     rw [hK] at hrow;obtain ⟨H2, e2, h2⟩ := hrow;have hmax : (if needL row > needR rs then needL row else needR rs) = needR (rs ++ [row]) := by rw [needR_snoc]; split <;> omega
     refine .inl ⟨s - (rs ++ [row]).length, _, H2, ?_, by simp; omega, rs ++ [row], rfl, by simp; omega, rfl, ?_, h2⟩
     ·rw [state_Take_l2_eq, ← hmax];simp -implicitDefEqProofs (disch := omega) [hM, hl1, hlt', hr, e2]
     ·rw [List.length_append, List.length_singleton];unfold rowsTo at ht ⊢;rw [mapO_range, ht, Option.bind_some, hK];rfl
   ·have hlt' : ¬ (rs.length : Int) < s := by omega
    refine .inr (.inl ⟨.exit 2, _, H', ?_, by simp, rs, rfl, rfl, by rw [show s = rs.length by omega]; exact ht, h⟩);rw [state_Take_l2_eq];simp -implicitDefEqProofs (disch := omega) [hM, hl1, hlt']) with ⟨x, e', H', h1, rs', rfl, rfl, h2, h3⟩ | ⟨v, H', h1, rfl, h2, h3⟩
 ·exact .inl ⟨rs', H', h1, h2, h3⟩
 ·exact .inr ⟨H', h1, h2, h3⟩
end
section
variable (k : Nat) {H0 : Heap} {X : List It} {c r : Nat} {n : Int} {tab vR vE : Value} {rv ev : List Int} {w : Int}
 (hn : 0 ≤ n ∧ n ≤ 65535) (hw : w = 0 ∨ w = 1 ∨ w = 2) (hvR : Sl H0 1 vR encB rv) (hvE : Sl H0 1 vE encB ev) (hbR : Byt rv) (hbE : Byt ev) (hlR : rv.length < 2 ^ 31) (hlE : ev.length < 2 ^ 31)
 (hX : itBlk r ⟨[ptrV c, vR, vE, .int .i64 w], 1, false⟩ ∈ X)
include hw hvR hvE hbE hlE hX
theorem ents_loop {H : Heap} (s : Int) (hs : 2 ≤ s ∧ s ≤ 65536) (N : Nat) (hN : N ≤ 65536) {rs : List (List Int)} {es : List En} (h : MS H0 H X c n tab rs es) (hes : es.length ≤ N) (ht : entsTo ev w es.length = some es) (hsn : needE es ≤ s) :
  (∃ es' H', loopN (state_Take_l3 k (R (T k))) loopFuel [(8, ptrV c), (9, ptrV r), (10, .int .i64 s), (11, .int .i64 N)] H = .ok (.exit 4, [(8, ptrV c), (9, ptrV r), (10, .int .i64 (max s (needE es'))), (11, .int .i64 N), (74, .bool false)]) H' ∧ entsTo ev w N = some es' ∧ MS H0 H' X c n tab rs es') ∨
  (∃ H', loopN (state_Take_l3 k (R (T k))) loopFuel [(8, ptrV c), (9, ptrV r), (10, .int .i64 s), (11, .int .i64 N)] H = .panic failV H' ∧ Ext H0 H' ∧ entsTo ev w N = none) := by
 rcases loopDecP (body := state_Take_l3 k (R (T k)))
  (fun m e H' => ∃ es, m = N - es.length ∧ es.length ≤ N ∧ e = [(8, ptrV c), (9, ptrV r), (10, .int .i64 (max s (needE es))), (11, .int .i64 N)] ∧ entsTo ev w es.length = some es ∧ MS H0 H' X c n tab rs es)
  (fun x e H' => ∃ es', x = .exit 4 ∧ e = [(8, ptrV c), (9, ptrV r), (10, .int .i64 (max s (needE es'))), (11, .int .i64 N), (74, .bool false)] ∧ entsTo ev w N = some es' ∧ MS H0 H' X c n tab rs es')
  (fun v H' => v = failV ∧ Ext H0 H' ∧ entsTo ev w N = none)
  (N - es.length) (e0 := [(8, ptrV c), (9, ptrV r), (10, .int .i64 s), (11, .int .i64 N)]) (H0 := H) ⟨es, rfl, hes, by rw [show max s (needE es) = s by omega], ht, h⟩ (by omega)
  (fun m e H' ⟨es, hm, hle, he, ht, h⟩ => by
   subst he;obtain ⟨s1, s2, hM, hl1, hl2⟩ := h.here;have hr := h.memX hX;have h6 := needE_le hbE ht;by_cases hlt : es.length < N
   ·have hlt' : (es.length : Int) < N := by omega
    have hent := entry_run k h (by omega) (vR := vR) w hw (hvE.up h.ext) (rd_vw hvR) hbE hlE;cases hK : entK ev w es.length with
    | none =>
     rw [hK] at hent;refine .inr (.inr ⟨failV, H', ?_, rfl, h.ext, mapO_none_of (n := es.length + 1) hlt ?_⟩)
     ·rw [state_Take_l3_eq];simp -implicitDefEqProofs (disch := omega) [hM, hl2, hlt', hr, hent]
     ·rw [mapO_range, show mapO (entK ev w) (List.range es.length) = some es from ht, Option.bind_some, hK];rfl
    | some en =>
     rw [hK] at hent;obtain ⟨H2, e2, h2⟩ := hent;have hen : needE (es ++ [en]) = max (needE es) (en.next + 1) := by
      unfold needE;rw [List.map_append, List.map_singleton, needL_snoc];omega
     have hmax : (if en.next + 1 > max s (needE es) then en.next + 1 else max s (needE es)) = max s (needE (es ++ [en])) := by rw [hen]; split <;> omega
     refine .inl ⟨N - (es ++ [en]).length, _, H2, ?_, by simp; omega, es ++ [en], rfl, by simp; omega, rfl, ?_, h2⟩
     ·rw [state_Take_l3_eq, ← hmax];simp -implicitDefEqProofs (disch := omega) [hM, hl2, hlt', hr, e2]
     ·rw [List.length_append, List.length_singleton];unfold entsTo at ht ⊢;rw [mapO_range, ht, Option.bind_some, hK];rfl
   ·have hlt' : ¬ (es.length : Int) < N := by omega
    refine .inr (.inl ⟨.exit 4, _, H', ?_, by simp, es, rfl, rfl, by rw [show N = es.length by omega]; exact ht, h⟩);rw [state_Take_l3_eq];simp -implicitDefEqProofs (disch := omega) [hM, hl2, hlt']) with ⟨x, e', H', h1, es', rfl, rfl, h2, h3⟩ | ⟨v, H', h1, rfl, h2, h3⟩
 ·exact .inl ⟨es', H', h1, h2, h3⟩
 ·exact .inr ⟨H', h1, h2, h3⟩
end
section
variable (k : Nat) {H0 : Heap} {X : List It} {c r : Nat} {n : Int} {tab vR vE : Value} {rv ev : List Int} {w : Int}
 (hn : 0 ≤ n ∧ n ≤ 65535) (hw : w = 0 ∨ w = 1 ∨ w = 2) (hvR : Sl H0 1 vR encB rv) (hvE : Sl H0 1 vE encB ev) (hbR : Byt rv) (hbE : Byt ev) (hlR : rv.length < 2 ^ 31) (hlE : ev.length < 2 ^ 31)
 (hX : itBlk r ⟨[ptrV c, vR, vE, .int .i64 w], 1, false⟩ ∈ X)
include hn hw hvR hvE hbR hbE hlR hlE hX
theorem all_loop {H : Heap} (h : MS H0 H X c n tab [] []) :
  Cp failV (Ext H0) (loopN (state_Take_l1 k (R (T k))) loopFuel [(8, ptrV c), (9, ptrV r), (10, .int .i64 2), (11, .int .i64 0)] H) (closeA rv ev n w 2)
   fun x xe H' => (∃ a b, xe = (.exit 0, [(8, ptrV c), (9, ptrV r), (10, a), (11, b), (56, .bool false)])) ∧ MS H0 H' X c n tab x.1 x.2 := by
 rcases loopDecP (body := state_Take_l1 k (R (T k)))
  (fun m e H' => ∃ (s : Nat) (rs : List (List Int)) (es : List En), m = 2 * (65537 - s) + (if rs.length < s then 1 else 0) ∧ e = [(8, ptrV c), (9, ptrV r), (10, .int .i64 s), (11, .int .i64 (needR rs))] ∧ 2 ≤ s ∧ s ≤ 65536 ∧ rs.length ≤ s ∧
   rowsTo rv n rs.length = some rs ∧ es.length = (needR rs).toNat ∧ entsTo ev w es.length = some es ∧ needE es ≤ s ∧ MS H0 H' X c n tab rs es ∧ closeA rv ev n w 2 = if rs.length < s then closeA rv ev n w s else some (rs, es))
  (fun x e H' => x = .exit 0 ∧ ∃ rs es a b, e = [(8, ptrV c), (9, ptrV r), (10, a), (11, b), (56, .bool false)] ∧ closeA rv ev n w 2 = some (rs, es) ∧ MS H0 H' X c n tab rs es)
  (fun v H' => v = failV ∧ Ext H0 H' ∧ closeA rv ev n w 2 = none)
  (2 * 65535 + 1) (e0 := [(8, ptrV c), (9, ptrV r), (10, .int .i64 2), (11, .int .i64 0)]) (H0 := H) ⟨2, [], [], rfl, rfl, by omega, by omega, by simp, rfl, rfl, rfl, (by decide), h, rfl⟩ (by omega)
  (fun m e H' ⟨s, rs, es, hm, he, hs2, hs6, hrs, ht, hel, hte, hne, h, hspec⟩ => by
   subst he;obtain ⟨s1, s2, hM, hl1, hl2⟩ := h.here;have h0 := needR_nonneg rs;by_cases hlt : rs.length < s
   ·have hlt' : (rs.length : Int) < s := by omega
    rw [if_pos hlt] at hspec;have hce := closeA_eq (rv := rv) hbE (n := n) (w := w) hs6;have hgo : ∀ x, (loopN (state_Take_l2 k (R (T k))) loopFuel [(8, ptrV c), (9, ptrV r), (10, .int .i64 s), (11, .int .i64 (needR rs))] H').bind (fun r111 h112 => state_Take_l2k k (R (T k)) r111.1 r111.2 h112) = x → state_Take_l1 k (R (T k)) [(8, ptrV c), (9, ptrV r), (10, .int .i64 s), (11, .int .i64 (needR rs))] H' = x := fun x hx => by
     rw [← hx, state_Take_l1_eq];simp -implicitDefEqProofs (disch := omega) [hM, hl1, hlt']
    rcases rows_loop k hn hvR hvE hbR hlR hX s hs6 h hrs ht with ⟨rs', H2, e2, ht2, h2⟩ | ⟨H2, e2, hx2, ht2⟩
    rotate_left
    ·refine .inr (.inr ⟨failV, H2, hgo _ ?_, rfl, hx2, by rw [hspec, hce, ht2]; rfl⟩);rw [e2]; rfl
    have hrl : rs'.length = s := by have := mapO_len ht2; simpa using this
    have hn2 := needR_nonneg rs';have hn6 := rowsTo_need hbR ht2;have hpre : rs = rs'.take rs.length := by
     have := mapO_prefix hrs ht2;have ht' : mapO (rowK rv n) (List.range rs.length) = some rs := ht;rw [ht'] at this;injection this
    have hmono : needR rs ≤ needR rs' := by
     conv => lhs; rw [hpre]
     have := List.take_append_drop rs.length rs';conv => rhs; rw [← this]
     unfold needR;rw [List.flatten_append, needL_append];omega
    have hNN : ((needR rs').toNat : Int) = needR rs' := by omega
    rw [hspec] at *;rw [ht2, Option.bind_some] at hce;have hgo2 : ∀ x, (loopN (state_Take_l3 k (R (T k))) loopFuel [(8, ptrV c), (9, ptrV r), (10, .int .i64 s), (11, .int .i64 (((needR rs').toNat : Nat) : Int))] H2).bind (fun r111 h112 => state_Take_l3k k (R (T k)) r111.1 r111.2 h112) = x → state_Take_l1 k (R (T k)) [(8, ptrV c), (9, ptrV r), (10, .int .i64 s), (11, .int .i64 (needR rs))] H' = x := fun x hx => by
     refine hgo x ?_;rw [e2, ← hx, Res.bind_ok, state_Take_l2k_x2, hNN]
    rcases ents_loop k hw hvR hvE hbE hlE hX s (by omega) (needR rs').toNat (by omega) h2 (by omega) hte hne with ⟨es', H3, e3, ht3, h3⟩ | ⟨H3, e3, hx3, ht3⟩
    rotate_left
    ·refine .inr (.inr ⟨failV, H3, hgo2 _ ?_, rfl, hx3, by rw [hce, ht3]; rfl⟩);rw [e3]; rfl
    have hE := needE_le hbE ht3;have hel' : es'.length = (needR rs').toNat := by have := mapO_len ht3; simpa using this
    rw [ht3, Option.bind_some] at hce;have hmx : ((max s (needE es').toNat : Nat) : Int) = max (s : Int) (needE es') := by omega
    refine .inl ⟨2 * (65537 - max s (needE es').toNat) + (if rs'.length < max s (needE es').toNat then 1 else 0), _, H3, hgo2 _ ?_, ?_, max s (needE es').toNat, rs', es', rfl, rfl, by omega, by omega, by omega, by rw [hrl]; exact ht2, hel', by rw [hel']; exact ht3, by omega, h3, ?_⟩
    ·rw [e3, Res.bind_ok, state_Take_l3k_x4, hmx, hNN]
    ·rw [hm, if_pos hlt, hrl];split <;> omega
    ·rw [hce, hrl];by_cases hcl : (needE es').toNat ≤ s
     ·rw [if_pos hcl, if_neg (by omega)]
     ·rw [if_neg hcl, if_pos (by omega), show max s (needE es').toNat = (needE es').toNat by omega]
   ·have hlt' : ¬ (rs.length : Int) < s := by omega
    have hlt2 : ¬ (es.length : Int) < needR rs := by omega
    rw [if_neg hlt] at hspec;refine .inr (.inl ⟨.exit 0, [(8, ptrV c), (9, ptrV r), (10, .int .i64 s), (11, .int .i64 (needR rs)), (56, .bool false)], H', ?_, by simp, rfl, rs, es, _, _, rfl, hspec, h⟩);rw [state_Take_l1_eq];simp -implicitDefEqProofs (disch := omega) [hM, hl1, hl2, hlt', hlt2]) with ⟨x, e', H', h1, rfl, rs', es', a, b, rfl, h2, h3⟩ | ⟨v, H', h1, rfl, h2, h3⟩
 ·rw [h2];exact ⟨_, H', h1, h3.ext, ⟨a, b, rfl⟩, h3⟩
 ·rw [h3];exact ⟨H', h1, h2⟩
end
end Go.Sw
end
section
namespace Go.Sw
open Go.RowKit
abbrev machV (m : Mach) : Value := boxV #[.int .i64 m.classes, tabV m.tab, lv encRow m.rows, lv encEn m.ents]
theorem Flat.rowsL (l : List (List Int)) : Flat (Go.Sw.lv encRow l) := .lv fun p _ => .cons (Flat.I _) .nil
theorem Flat.mach (m : Mach) : Flat (machV m) := .boxV (l := [.int .i64 m.classes, tabV m.tab, Go.Sw.lv encRow m.rows, Go.Sw.lv encEn m.ents]) (.cons (.int _ _) (.cons (Flat.tab _) (.cons (Flat.rowsL _) (.cons (Flat.Ens _) .nil))))
theorem rows_fstR (l : List (List Int × Value)) : rows (fun x : List Int × Value => encRow x.1) l = rows encRow (l.map Prod.fst) := by
 induction l with
 | nil => rfl
 | cons x l ih => rw [List.map_cons, rows_cons, rows_cons, ih]
theorem MS.freeze {H0 H : Heap} {X : List It} {c : Nat} {n : Int} {t : Int × List Pt} {rs : List (List Int)} {es : List En} (h : MS H0 H X c n (tabV t) rs es) : ∃ L, fzV H0.n H fzDepth (ptrV c) = some (machV ⟨n, t, rs, es⟩, L) := by
 obtain ⟨l, s1, o1, s2, o2, bs, h1, g, h3⟩ := h;have hc := (g.lt 0 rfl c (by simp [itBlk])).1;obtain ⟨L1, f1⟩ := (g.own 1 rfl).freezeG (enc' := fun x : List Int × Value => encRow x.1) encU_len 5 fun x hx => by
  obtain ⟨o, ho⟩ := h3 x hx;obtain ⟨L, hL⟩ := (g.memOwn (o := o) (m := 1) (s := x.2) (enc := encI) (l := x.1) (by simp [ho])).freeze encI_len (encI_still _) 4;exact ⟨_, mapF_one hL⟩
 obtain ⟨L2, f2⟩ := (g.own 2 rfl).freeze encEn_len (encEn_still _) 5;have e1 : lv (fun x : List Int × Value => encRow x.1) l = lv encRow rs := by
  unfold lv;rw [rows_fstR, h1, ← h1, List.length_map]
 rw [e1] at f1;exact ⟨_, fz_box hc (g.get 0 rfl) (mapF_cons (v := .int .i64 n) (u := .int .i64 n) (L1 := []) rfl (mapF_cons (v := tabV t) (u := tabV t) (L1 := []) rfl (mapF_cons f1 (mapF_one f2))))⟩
theorem restS_sl {H : Heap} {v : Value} {b r : List Int} (hv : Sl H 1 v encB b) {i : Int} (hl : b.length < 2 ^ 62) (hi : i ≤ 9223372036854775807) (h : restS b i = some r) : Sl H 1 (subV 1 v i.toNat (behind b i).toNat) encB r :=
 pieceS_sl hv (by rw [behind_piece b i hl hi]; exact h)
theorem restS_len {b r : List Int} {i : Int} (h : restS b i = some r) : r.length ≤ b.length := by
 unfold restS at h;split at h
 ·injection h with h;subst h;simp
 ·cases h
theorem stateTake_run (k : Nat) {H : Heap} {v : Value} {b : List Int} (hv : Sl H 1 v encB b) (hb : Byt b) (g w : Int) (hg1 : 1 ≤ g) (hg2 : g ≤ 65535) (hw : w = 0 ∨ w = 1 ∨ w = 2) (hl : b.length < 2 ^ 31) :
  R (T k) F.state_Take [.agg #[v], .int .i64 g, .int .i64 w] H = orF (machS b g w) machV H := by
 rw [state_Take_R];have hx : Ext H (H.push ⟨[v], 1, false⟩) := (Ext.refl H).push _;have hq := rd_vw hv;have hqa : veq (.agg #[v]) (.agg #[v]) = true := veq_agg (l := [v]) fun u hu => by simp at hu; subst hu; exact hq
 refine fz_orF ?_ fun _ _ => (Flat.mach _).alive;simp -implicitDefEqProofs [state_Take];unfold machS;refine Cp.call (U32_run k (hv.up hx) hb 0 (by omega)) hx fun n hn => ?_;have hn := uS_four hb hn;by_cases h4 : 4 ≤ n;rotate_left
 ·have h4' : ¬ n ≥ 4 := by omega
  rw [if_neg (fun h => h4 h.1)];simp -implicitDefEqProofs (disch := omega) [h4'];exact .throw hx
 have h4' : n ≥ 4 := h4;by_cases h5 : n ≤ 65535;rotate_left
 ·rw [if_neg (fun h => h5 h.2)];simp -implicitDefEqProofs (disch := omega) [h4', h5];exact .throw hx
 rw [if_pos ⟨h4, h5⟩];simp -implicitDefEqProofs (disch := omega) [h4', h5];refine Cp.callT (U32_run k (hv.up hx) hb 4 (by omega)) (fun _ => ⟨_, rfl, hx⟩) fun i hi => ?_;have hi := uS_four hb hi;refine Cp.callT (Rest_run k (hv.up hx) i (by omega) (by omega)) (fun _ => ⟨_, by simp -implicitDefEqProofs (disch := omega) [hqa], hx⟩) fun tb htb => ?_;refine Cp.callT (lookTake_run k (restS_sl (hv.up hx) (by omega) (by omega) htb) (hb.rest htb) g 2 hg1 hg2 (.inl rfl) (by have := restS_len htb; omega)) (fun _ => ⟨_, by simp -implicitDefEqProofs (disch := omega) [hqa], hx⟩) fun tab htab => ?_;have hx2 : Ext H ((H.push ⟨[v], 1, false⟩).push ⟨[.int .i64 n, tabV tab, .slice none 0 0, .slice none 0 0], 1, false⟩) := hx.push _;simp -implicitDefEqProofs (disch := omega) [hqa];refine Cp.callT (U32_run k (hv.up hx2) hb 8 (by omega)) (fun _ => ⟨_, by simp -implicitDefEqProofs (disch := omega) [hqa], hx2⟩) fun j hj => ?_;have hj := uS_four hb hj;refine Cp.callT (Rest_run k (hv.up hx2) j (by omega) (by omega)) (fun _ => ⟨_, by simp -implicitDefEqProofs (disch := omega) [hqa], hx2⟩) fun rv hrv => ?_;simp -implicitDefEqProofs (disch := omega) [hqa];refine Cp.callT (U32_run k (hv.up hx2) hb 12 (by omega)) (fun _ => ⟨_, by simp -implicitDefEqProofs (disch := omega) [hqa], hx2⟩) fun q hq => ?_;have hq := uS_four hb hq;refine Cp.callT (Rest_run k (hv.up hx2) q (by omega) (by omega)) (fun _ => ⟨_, by simp -implicitDefEqProofs (disch := omega) [hqa], hx2⟩) fun ev hev => ?_;have sR := restS_sl hv (by omega) (by omega) hrv;have sE := restS_sl hv (by omega) (by omega) hev;have lR := restS_len hrv;have lE := restS_len hev;generalize subV 1 v j.toNat (behind b j).toNat = vR at sR;generalize subV 1 v q.toNat (behind b q).toNat = vE at sE;have qR := rd_vw sR;have qE := rd_vw sE;have qaR : veq (.agg #[vR]) (.agg #[vR]) = true := veq_agg (l := [vR]) fun u hu => by simp at hu; subst hu; exact qR
 have qaE : veq (.agg #[vE]) (.agg #[vE]) = true := veq_agg (l := [vE]) fun u hu => by simp at hu; subst hu; exact qE
 have stR := sR.storable;have stE := sE.storable;have ceR := sR.cells;have ceE := sE.cells;have hms : MS H (((H.push ⟨[v], 1, false⟩).push ⟨[.int .i64 n, tabV tab, .slice none 0 0, .slice none 0 0], 1, false⟩).push ⟨[ptrV (H.n + 1), vR, vE, .int .i64 w], 1, false⟩) [itBlk (H.n + 2) ⟨[ptrV (H.n + 1), vR, vE, .int .i64 w], 1, false⟩] (H.n + 1) n (tabV tab) [] [] := by
  have g := ((Star.nil H).rest hx).push ⟨[.int .i64 n, tabV tab, .slice none 0 0, .slice none 0 0], 1, false⟩;have g := g.more_row (Ext.refl _) (OwnO.nil encU _ 1) (fun b hb => by cases hb);have g := g.more_row (Ext.refl _) (OwnO.nil encEn _ 4) (fun b hb => by cases hb);have g := g.push ⟨[ptrV (H.n + 1), vR, vE, .int .i64 w], 1, false⟩;exact ⟨[], _, none, _, none, [], rfl, by simpa using g, fun x hx => by cases hx⟩
 simp -implicitDefEqProofs (disch := omega) [hqa, qaR, qaE, stR, stE, ceR, ceE];refine Cp.bindM (all_loop k (X := [itBlk (H.n + 2) ⟨[ptrV (H.n + 1), vR, vE, .int .i64 w], 1, false⟩]) (by omega) hw sR sE (hb.rest hrv) (hb.rest hev) (by omega) (by omega) (by simp) hms) ?_;rintro ⟨rs, es⟩ ⟨x, e⟩ H' _ hx' ⟨⟨a, b, he⟩, hm⟩;injection he with e1 e2;subst e1 e2;simp only [state_Take_l1k_x0];exact .ok hx' hm.freeze
end Go.Sw
end
section
set_option maxRecDepth 100000
set_option linter.unusedVariables false
namespace Go.Sw
noncomputable section
end
end Go.Sw
end
section
namespace Go.Sw
open Go.RowKit
theorem subV_lv (b : List Int) (a n : Nat) (h : a + n ≤ b.length) : subV 1 (lv encB b) a n = lv encB ((b.drop a).take n) := by
 have h2 := ((Sl.lv Heap.empty 1 b).sub encB_len .i64 .i64 .i64 a n h).1 Heap.empty (Ext.refl _);rw [slS_lv encB_len b _ _ _ a (a + n) (a + n) (by simp [boundOf]) (by unfold boundOf; dsimp only; rw [if_pos (by omega), Int.toNat_natCast]) (by unfold boundOf; dsimp only; rw [if_pos (by omega), Int.toNat_natCast]) (fun _ => rfl) (by omega) (Nat.le_refl _) h] at h2;injection h2 with h2;rw [← h2, List.drop_take, show a + n - a = n by omega]
theorem piece_lv {b r : List Int} {i n : Int} (h : pieceS b i n = some r) : subV 1 (lv encB b) i.toNat n.toNat = lv encB r := by
 obtain ⟨h1, rfl⟩ := pieceS_iff.1 h;exact subV_lv b _ _ (by omega)
theorem orF_congr {α : Type} {o : Option α} {f g : α → Value} (h : ∀ a, o = some a → f a = g a) (H : Heap) : orF o f H = orF o g H := by
 cases o with
 | none => rfl
 | some a => show Res.ok (f a) H = Res.ok (g a) H; rw [h a rfl]
abbrev vwB (b : List Int) : Value := .agg #[lv encB b]
theorem Rest_lv (k : Nat) (b : List Int) (i : Int) (hl : b.length < 2 ^ 62) (hi : i ≤ 9223372036854775807) (H : Heap) : R (T k) F.view_View_Rest [vwB b, .int .i64 i] H = orF (restS b i) vwB H :=
 (Rest_run k (Sl.lv H 1 b) i hl hi).trans (orF_congr (fun r hr => by rw [piece_lv (by rw [behind_piece b i hl hi]; exact hr)]) H)
theorem Rows_lv (k : Nat) (b : List Int) (i n s : Int) (hl : b.length < 2 ^ 62) (H : Heap) : R (T k) F.view_View_Rows [vwB b, .int .i64 i, .int .i64 n, .int .i64 s] H = orF (rowsS b i n s) vwB H :=
 (Rows_run k (Sl.lv H 1 b) i n s hl).trans (orF_congr (fun r hr => by rw [piece_lv (rowsS_piece hr)]) H)
theorem Of_lv (k : Nat) (b : List Int) (H : Heap) : R (T k) F.view_Of [lv encB b] H = .ok (vwB b) H := Of_run k (Sl.lv H 1 b)
theorem Bytes_run (k : Nat) {H : Heap} {v : Value} {b : List Int} (hv : Sl H 1 v encB b) (hl : b.length ≤ 2 ^ 30) : R (T k) F.view_View_Bytes [.agg #[v]] H = .ok (lv encB b) H := by
 rw [view_View_Bytes_R];have g := (Star.nil H).push ⟨[v], 1, false⟩;have g := g.more_row (Ext.refl _) (OwnO.bare encB _ 1) (fun b hb => by cases hb);obtain ⟨s, o, H1, e1, g⟩ := g.append (bytes := 1) 1 encB_len rfl (b := v) (l2 := b) (lenL_lenV hv.lenL) ((hv.up g.ext).first encB_len) (by simp; omega) (by decide);simp only [List.nil_append, List.cons_append, List.set_cons_zero, List.set_cons_succ] at g;obtain ⟨L, hf⟩ := (g.own 1 rfl).freeze encB_len (fun n _ v hv => by simp at hv; subst hv; trivial) 6;refine nrm_fz (v := s) (H' := H1) ?_ hf g.ext (Flat.B b).alive;simp -implicitDefEqProofs [view_View_Bytes, e1]
theorem veq_Pt (l : List Pt) : veq (lv encPt l) (lv encPt l) = true := veq_lv fun p _ v hv => by
 simp [encPt] at hv;rcases hv with rfl | rfl | rfl <;> simp
theorem veq_tab (x : Int × List Pt) : veq (boxV #[.int .i64 x.1, lv encPt x.2]) (boxV #[.int .i64 x.1, lv encPt x.2]) = true := veq_boxV (l := [.int .i64 x.1, lv encPt x.2]) fun v hv => by
 simp at hv;rcases hv with rfl | rfl
 ·simp
 ·exact veq_Pt _
end Go.Sw
end
section
namespace Go.Sw
open Go.RowKit
theorem Class_run (k : Nat) (m : Mach) (hm : m.ok) (id : Int) (H : Heap) : R (T k) F.state_Machine_Class [machV m, .int .i64 id] H = .ok (.int .i64 (classS m id)) H := by
 rw [state_Machine_Class_R];refine nrm_gc (Pure.of ?_) (.int _ _);have hget := fun H => Get_run k m.tab hm.pts hm.rise id hm.plen H;unfold classS;by_cases h : id = 65535
 ·subst h;simp -implicitDefEqProofs (disch := omega) [state_Machine_Class]
 ·have h' : (id == 65535) = false := by simpa using h
  rw [if_neg h];cases hg : getS m.tab.2 id with
  | none =>
   rw [hg] at hget;simp -implicitDefEqProofs (disch := omega) [state_Machine_Class, h', hget]
  | some x =>
   rw [hg] at hget;dsimp only;by_cases hx : x < m.classes
   ·simp -implicitDefEqProofs (disch := omega) [state_Machine_Class, h', hget, hx]
   ·simp -implicitDefEqProofs (disch := omega) [state_Machine_Class, h', hget, hx]
def encEA (o : Option En) : Value := .agg (encEn (o.getD ⟨0, 0, 0, 0⟩)).toArray
theorem encEA_flat (o : Option En) : Flat (encEA o) := Flat.ofEn _
theorem stepS_some {m : Mach} (hm : m.ok) {s c : Int} (h : 0 ≤ s ∧ s < m.rows.length ∧ 0 ≤ c ∧ c < m.classes) :
  ∃ r x e, m.rows[s.toNat]? = some r ∧ r[c.toNat]? = some x ∧ 0 ≤ x ∧ m.ents[x.toNat]? = some e ∧ stepS m s c = some e := by
 obtain ⟨r, hr⟩ : ∃ r, m.rows[s.toNat]? = some r := ⟨_, List.getElem?_eq_getElem (by omega)⟩
 have hrm := hm.row r (List.mem_of_getElem? hr);obtain ⟨x, hx⟩ : ∃ x, r[c.toNat]? = some x := ⟨_, List.getElem?_eq_getElem (by omega)⟩
 have hxm := hrm.2 x (List.mem_of_getElem? hx);obtain ⟨e, he⟩ : ∃ e, m.ents[x.toNat]? = some e := ⟨_, List.getElem?_eq_getElem (by omega)⟩
 refine ⟨r, x, e, hr, hx, hxm.1, he, ?_⟩;unfold stepS;rw [if_pos h, hr, Option.bind_some, hx, Option.bind_some, he]
theorem Step_run (k : Nat) (m : Mach) (hm : m.ok) (s c : Int) (H : Heap) : R (T k) F.state_Machine_Step [machV m, .int .i64 s, .int .i64 c] H = .ok (.tuple #[encEA (stepS m s c), .bool (stepS m s c).isSome]) H := by
 rw [state_Machine_Step_R];have fl : Flat (.tuple #[encEA (stepS m s c), .bool (stepS m s c).isSome]) := .tupleL (.cons (encEA_flat _) (.cons (.bool _) .nil));have no : ¬ (0 ≤ s ∧ s < m.rows.length ∧ 0 ≤ c ∧ c < m.classes) → stepS m s c = none := fun h => by unfold stepS; rw [if_neg h]
 have hx : Ext H (H.push ⟨[.int .i64 0, .int .i64 0, .int .i64 0, .int .i64 0], 1, false⟩) := (Ext.refl H).push _;by_cases h1 : s < 0
 ·rw [no (by omega)] at fl ⊢;refine nrm_gc ⟨_, ?_, hx⟩ fl.alive;simp -implicitDefEqProofs (disch := omega) [state_Machine_Step, h1, encEA]
 by_cases h2 : s ≥ m.rows.length
 ·rw [no (by omega)] at fl ⊢;refine nrm_gc ⟨_, ?_, hx⟩ fl.alive;simp -implicitDefEqProofs (disch := omega) [state_Machine_Step, h1, h2, encEA]
 by_cases h3 : c < 0
 ·rw [no (by omega)] at fl ⊢;refine nrm_gc ⟨_, ?_, hx⟩ fl.alive;simp -implicitDefEqProofs (disch := omega) [state_Machine_Step, h1, h2, h3, encEA]
 by_cases h4 : c ≥ m.classes
 ·rw [no (by omega)] at fl ⊢;refine nrm_gc ⟨_, ?_, hx⟩ fl.alive;simp -implicitDefEqProofs (disch := omega) [state_Machine_Step, h1, h2, h3, h4, encEA]
 obtain ⟨r, x, e, hr, hxx, hx0, he, hs⟩ := stepS_some hm (s := s) (c := c) (by omega);rw [hs] at fl ⊢;have i1 := fun H' => ixS_lv encRow_len m.rows .i64 s r (by omega) hr H';have i2 := fun H' => ixS_lv encI_len r .i64 c x (by omega) hxx H';have i3 := fun H' => ixS_lv encEn_len m.ents .i64 x e hx0 he H';refine nrm_gc ⟨H.push ⟨encEn e, 1, false⟩, ?_, (Ext.refl H).push _⟩ fl.alive;simp -implicitDefEqProofs (disch := omega) [state_Machine_Step, h1, h2, h3, h4, i1, i2, i3, encEA]
theorem Entries_run (k : Nat) (hk : k < 1000000) (m : Mach) (hl : m.ents.length ≤ 65536) (H : Heap) : R (T k) F.state_Machine_Entries [machV m] H = .ok (lv encEn m.ents) H := by
 have ho : own k = .fz := by unfold own; rw [show Nat.blt k 1000000 = true from Nat.ble_eq_true_of_le hk]; rfl
 rw [state_Machine_Entries_R, ho];have g := (Star.nil H).more_row (Ext.refl _) (OwnO.bare encEn _ 4) (fun b hb => by cases hb);obtain ⟨s, o, H1, e1, g⟩ := g.append (bytes := 32) 0 encEn_len rfl (b := lv encEn m.ents) (l2 := m.ents) rfl (lv_first encEn_len m.ents H) (by simp; omega) (by decide);simp only [List.nil_append, List.set_cons_zero] at g;obtain ⟨L, hf⟩ := (g.own 0 rfl).freeze encEn_len (encEn_still _) 6;refine nrm_fz (v := s) (H' := H1) ?_ hf g.ext (Flat.Ens _).alive;simp -implicitDefEqProofs (disch := omega) [state_Machine_Entries, e1]
end Go.Sw
end
section
namespace Go.Sw
open Go.RowKit
structure CTab where
 m : Mach
 subs : List (Int × List Pt)
end Go.Sw
end
section
set_option maxRecDepth 100000
set_option linter.unusedVariables false
namespace Go.Sw
noncomputable section
def swashlaw07_Write_l1 (k : Nat) (call : Caller) : Env → Heap → Res (AExit × Env) := loopB (C k) call F.swashlaw07_Write [1, 1, 1, 1, 0, 1, 0, 0]
def swashlaw07_Write_l1k (k : Nat) (call : Caller) : Kont Value := kBlock 0 (kSeq (pieceK (C k) call F.swashlaw07_Write [1, 1, 1, 1, 1]) (kDone Prog (resOf Prog F.swashlaw07_Write)))
def swashlaw07_Write_l2 (k : Nat) (call : Caller) : Env → Heap → Res (AExit × Env) := loopB (C k) call F.swashlaw07_Write [1, 1, 1, 1, 1, 1, 0, 1, 0, 0]
def swashlaw07_Write_l2k (k : Nat) (call : Caller) : Kont Value := kBlock 2 (kSeq (pieceK (C k) call F.swashlaw07_Write [1, 1, 1, 1, 1, 1, 1]) (kDone Prog (resOf Prog F.swashlaw07_Write)))
def swashlaw07_Write_l3 (k : Nat) (call : Caller) : Env → Heap → Res (AExit × Env) := loopB (C k) call F.swashlaw07_Write [1, 1, 1, 1, 1, 1, 0, 1, 0, 0, 1, 1, 0, 0, 1, 1, 0, 0]
def swashlaw07_Write_l3k (k : Nat) (call : Caller) : Kont (AExit × Env) := kBlock 4 (kBlock 3 (kSeq (pieceK (C k) call F.swashlaw07_Write [1, 1, 1, 1, 1, 1, 0, 1, 0, 0, 1, 1, 1]) (kRound (ownOf (C k) F.swashlaw07_Write [1, 1, 1, 1, 1, 1, 0, 1, 0, 0]))))
def swashlaw07_Write_j1 (k : Nat) (call : Caller) (a1 a2 a3 a7 a8 a9 a12 a13 a15 a17 a47 a48 a49 a53 a54 : Value) (h : Heap) : Res (AExit × Env) :=
 kSeq (pieceK (C k) call F.swashlaw07_Write [1, 1, 1, 1, 1, 1, 0, 1, 0, 0, 1, 1, 0, 0, 1, 1, 0, 0, 1, 1, 0, 0, 1, 1, 1]) (kBlock 5 (kSeq (pieceK (C k) call F.swashlaw07_Write [1, 1, 1, 1, 1, 1, 0, 1, 0, 0, 1, 1, 0, 0, 1, 1, 0, 0, 1, 1, 1]) (kRound (ownOf (C k) F.swashlaw07_Write [1, 1, 1, 1, 1, 1, 0, 1, 0, 0, 1, 1, 0, 0, 1, 1, 0, 0])))) .normal [(1, a1), (2, a2), (3, a3), (7, a7), (8, a8), (9, a9), (12, a12), (13, a13), (15, a15), (17, a17), (47, a47), (48, a48), (49, a49), (53, a53), (54, a54)] h
def swashlaw07_Write_j2 (k : Nat) (call : Caller) (a1 a2 a3 a7 a8 a9 a12 a13 a15 a16 a17 a47 a48 a49 a53 a54 a60 : Value) (h : Heap) : Res (AExit × Env) :=
 kSeq (pieceK (C k) call F.swashlaw07_Write [1, 1, 1, 1, 1, 1, 0, 1, 0, 0, 1, 1, 0, 0, 1, 1, 0, 0, 1, 1, 0, 0, 1, 1, 1]) (kBlock 5 (kSeq (pieceK (C k) call F.swashlaw07_Write [1, 1, 1, 1, 1, 1, 0, 1, 0, 0, 1, 1, 0, 0, 1, 1, 0, 0, 1, 1, 1]) (kRound (ownOf (C k) F.swashlaw07_Write [1, 1, 1, 1, 1, 1, 0, 1, 0, 0, 1, 1, 0, 0, 1, 1, 0, 0])))) .normal [(1, a1), (2, a2), (3, a3), (7, a7), (8, a8), (9, a9), (12, a12), (13, a13), (15, a15), (16, a16), (17, a17), (47, a47), (48, a48), (49, a49), (53, a53), (54, a54), (60, a60)] h
def swashlaw07_Write_l4 (k : Nat) (call : Caller) : Env → Heap → Res (AExit × Env) := loopB (C k) call F.swashlaw07_Write [1, 1, 1, 1, 1, 1, 1, 0, 1, 0, 0]
def swashlaw07_Write_l4k (k : Nat) (call : Caller) : Kont Value := kBlock 6 (kSeq (pieceK (C k) call F.swashlaw07_Write [1, 1, 1, 1, 1, 1, 1, 1]) (kDone Prog (resOf Prog F.swashlaw07_Write)))
def swashlaw07_Write_j3 (k : Nat) (call : Caller) (a1 a2 a7 a8 a9 a12 a13 a19 a72 a73 a74 : Value) (h : Heap) : Res (AExit × Env) :=
 kSeq (pieceK (C k) call F.swashlaw07_Write [1, 1, 1, 1, 1, 1, 1, 0, 1, 0, 0, 1, 1, 0, 0, 1, 1, 1]) (kBlock 7 (kSeq (pieceK (C k) call F.swashlaw07_Write [1, 1, 1, 1, 1, 1, 1, 0, 1, 0, 0, 1, 1, 1]) (kRound (ownOf (C k) F.swashlaw07_Write [1, 1, 1, 1, 1, 1, 1, 0, 1, 0, 0])))) .normal [(1, a1), (2, a2), (7, a7), (8, a8), (9, a9), (12, a12), (13, a13), (19, a19), (72, a72), (73, a73), (74, a74)] h
def swashlaw07_Write_j4 (k : Nat) (call : Caller) (a1 a2 a7 a8 a9 a12 a13 a19 a72 a73 a74 a88 : Value) (h : Heap) : Res (AExit × Env) :=
 kSeq (pieceK (C k) call F.swashlaw07_Write [1, 1, 1, 1, 1, 1, 1, 0, 1, 0, 0, 1, 1, 0, 0, 1, 1, 1]) (kBlock 7 (kSeq (pieceK (C k) call F.swashlaw07_Write [1, 1, 1, 1, 1, 1, 1, 0, 1, 0, 0, 1, 1, 1]) (kRound (ownOf (C k) F.swashlaw07_Write [1, 1, 1, 1, 1, 1, 1, 0, 1, 0, 0])))) .normal [(1, a1), (2, a2), (7, a7), (8, a8), (9, a9), (12, a12), (13, a13), (19, a19), (72, a72), (73, a73), (74, a74), (88, a88)] h
def swashlaw07_Write_j5 (k : Nat) (call : Caller) (a1 a2 a7 a8 a9 a12 a13 a72 a73 a74 : Value) (h : Heap) : Res (AExit × Env) :=
 kSeq (pieceK (C k) call F.swashlaw07_Write [1, 1, 1, 1, 1, 1, 1, 0, 1, 0, 0, 1, 1, 1]) (kRound (ownOf (C k) F.swashlaw07_Write [1, 1, 1, 1, 1, 1, 1, 0, 1, 0, 0])) .normal [(1, a1), (2, a2), (7, a7), (8, a8), (9, a9), (12, a12), (13, a13), (72, a72), (73, a73), (74, a74)] h
def swashlaw07_Write_j6 (k : Nat) (call : Caller) (a1 a2 a7 a8 a9 a12 a13 a19 a72 a73 a74 a95 : Value) (h : Heap) : Res (AExit × Env) :=
 kSeq (pieceK (C k) call F.swashlaw07_Write [1, 1, 1, 1, 1, 1, 1, 0, 1, 0, 0, 1, 1, 1]) (kRound (ownOf (C k) F.swashlaw07_Write [1, 1, 1, 1, 1, 1, 1, 0, 1, 0, 0])) .normal [(1, a1), (2, a2), (7, a7), (8, a8), (9, a9), (12, a12), (13, a13), (19, a19), (72, a72), (73, a73), (74, a74), (95, a95)] h
def swashlaw07_Write (k : Nat) (call : Caller) (a0 a1 a2 : Value) (h : Heap) : Res Value :=
 (boxR a0 h).bind fun v1 h2 =>
 (fieldAddrR Prog 26 v1 3 h2).bind fun v3 h4 =>
 (loadR Prog 5 v3 h4).bind fun v5 h6 =>
 (convR Prog 5 3 v5 h6).bind fun v7 h8 =>
 (binR Prog .rem 3 v7 (.int .i64 8) h8).bind fun v9 h10 =>
 (binR Prog .add 3 (.int .i64 4) v9 h10).bind fun v11 h12 =>
 (binR Prog .add 3 (.int .i64 16) a2 h12).bind fun v13 h14 =>
 (call F.swashref02_Put [(.slice none 0 0), (.int .i64 8), (.int .i64 2)] h14).bindT (fun p17 h18 => (fieldAddrR Prog 26 v1 0 h14).bindN fun v19 h20 => (loadR Prog 22 v19 h20).bindN fun v21 h22 => (builtinV Prog .len [22] [v21] h22).bindN fun v23 h24 => chkR ((okVal (loadR Prog 22 v19 h14) v21 && true) && true) (.panic p17 h18)) fun v15 h16 =>
 (call F.swashref02_Put [v15, (.int .i64 0), (.int .i64 2)] h16).bindT (fun p27 h28 => (fieldAddrR Prog 26 v1 0 h16).bindN fun v29 h30 => (loadR Prog 22 v29 h30).bindN fun v31 h32 => (builtinV Prog .len [22] [v31] h32).bindN fun v33 h34 => chkR ((okVal (loadR Prog 22 v29 h14) v31 && (okVal (loadR Prog 22 v29 h16) v31 && true)) && true) (.panic p27 h28)) fun v25 h26 =>
 (fieldAddrR Prog 26 v1 0 h26).bindN fun v35 h36 =>
 (loadR Prog 22 v35 h36).bindN fun v37 h38 =>
 (builtinV Prog .len [22] [v37] h38).bindN fun v39 h40 =>
 (call F.swashref02_Put [v25, v39, (.int .i64 2)] h40).bindT (fun p43 h44 => chkR ((okVal (loadR Prog 22 v35 h14) v37 && (okVal (loadR Prog 22 v35 h16) v37 && true)) && true) (.panic p43 h44)) fun v41 h42 =>
 chkR ((okVal (loadR Prog 22 v35 h14) v37 && (okVal (loadR Prog 22 v35 h16) v37 && true)) && true) (
 (fieldAddrR Prog 26 v1 0 h42).bind fun v45 h46 =>
 (loadR Prog 22 v45 h46).bind fun v47 h48 =>
 (builtinV Prog .len [22] [v47] h48).bind fun v49 h50 =>
 (loopN (swashlaw07_Write_l1 k call) loopFuel [(1, a1), (2, a2), (3, v1), (7, v11), (8, v13), (9, v41), (35, v47), (36, v49), (37, (.int .i64 0))] h50).bind fun r51 h52 =>
 swashlaw07_Write_l1k k call r51.1 r51.2 h52)
theorem swashlaw07_Write_R (k : Nat) (a0 a1 a2 : Value) (h : Heap) : R (T k) F.swashlaw07_Write [a0, a1, a2] h = nrm (ownW k) h (swashlaw07_Write k (R (T k)) a0 a1 a2 h) :=
 (R_body (t := T k) (T_scott k) (by kernel_rfl) (by kernel_rfl) _ _).trans (by kernel_rfl)
theorem swashlaw07_Write_l1_eq (k : Nat) (call : Caller) (a1 a2 a3 a7 a8 a9 a35 a36 a37 : Value) (h : Heap) : swashlaw07_Write_l1 k call [(1, a1), (2, a2), (3, a3), (7, a7), (8, a8), (9, a9), (35, a35), (36, a36), (37, a37)] h =
 (binR Prog .lss 3 a37 a36 h).bind fun v53 h54 =>
 condV (some v53) (
 (indexAddrR Prog 22 a35 a37 h54).bind fun v55 h56 =>
 (loadR Prog 5 v55 h56).bind fun v57 h58 =>
 (convR Prog 5 3 v57 h58).bind fun v59 h60 =>
 (call F.swashref02_Put [a9, v59, (.int .i64 2)] h60).bind fun v61 h62 =>
 (binR Prog .add 3 a37 (.int .i64 1) h62).bind fun v63 h64 =>
 .ok (.normal, [(1, a1), (2, a2), (3, a3), (7, a7), (8, a8), (9, v61), (35, a35), (36, a36), (37, v63)]) h64)
 (
 .ok ((.exit 0), [(1, a1), (2, a2), (3, a3), (7, a7), (8, a8), (9, a9), (35, a35), (36, a36), (37, a37), (38, v53)]) h54) :=
 (loopB_eq _ _).trans (by kernel_rfl)
theorem swashlaw07_Write_l1k_x0 (k : Nat) (call : Caller) (a1 a2 a3 a7 a8 a9 a35 a36 a37 a38 : Value) (h : Heap) : swashlaw07_Write_l1k k call (.exit 0) [(1, a1), (2, a2), (3, a3), (7, a7), (8, a8), (9, a9), (35, a35), (36, a36), (37, a37), (38, a38)] h =
 (fieldAddrR Prog 26 a3 1 h).bind fun v65 h66 =>
 (loadR Prog 23 v65 h66).bind fun v67 h68 =>
 (builtinV Prog .len [23] [v67] h68).bind fun v69 h70 =>
 (loopN (swashlaw07_Write_l2 k call) loopFuel [(1, a1), (2, a2), (3, a3), (7, a7), (8, a8), (9, a9), (12, (.slice none 0 0)), (13, (.slice none 0 0)), (47, v67), (48, v69), (49, (.int .i64 0))] h70).bind fun r71 h72 =>
 swashlaw07_Write_l2k k call r71.1 r71.2 h72 := by kernel_rfl
theorem swashlaw07_Write_l2_eq (k : Nat) (call : Caller) (a1 a2 a3 a7 a8 a9 a12 a13 a47 a48 a49 : Value) (h : Heap) : swashlaw07_Write_l2 k call [(1, a1), (2, a2), (3, a3), (7, a7), (8, a8), (9, a9), (12, a12), (13, a13), (47, a47), (48, a48), (49, a49)] h =
 (binR Prog .lss 3 a49 a48 h).bind fun v73 h74 =>
 condV (some v73) (
 (indexAddrR Prog 23 a47 a49 h74).bind fun v75 h76 =>
 (loadR Prog 22 v75 h76).bind fun v77 h78 =>
 (loopN (swashlaw07_Write_l3 k call) loopFuel [(1, a1), (2, a2), (3, a3), (7, a7), (8, a8), (9, a9), (12, a12), (13, a13), (15, v77), (47, a47), (48, a48), (49, a49), (53, a7), (54, (.int .i64 0))] h78).bind fun r79 h80 =>
 swashlaw07_Write_l3k k call r79.1 r79.2 h80)
 (
 .ok ((.exit 2), [(1, a1), (2, a2), (3, a3), (7, a7), (8, a8), (9, a9), (12, a12), (13, a13), (47, a47), (48, a48), (49, a49), (50, v73)]) h74) :=
 (loopB_eq _ _).trans (by kernel_rfl)
theorem swashlaw07_Write_l3_eq (k : Nat) (call : Caller) (a1 a2 a3 a7 a8 a9 a12 a13 a15 a47 a48 a49 a53 a54 : Value) (h : Heap) : swashlaw07_Write_l3 k call [(1, a1), (2, a2), (3, a3), (7, a7), (8, a8), (9, a9), (12, a12), (13, a13), (15, a15), (47, a47), (48, a48), (49, a49), (53, a53), (54, a54)] h =
 (binR Prog .lss 3 a54 a53 h).bind fun v81 h82 =>
 condV (some v81) (
 (builtinV Prog .len [22] [a15] h82).bind fun v83 h84 =>
 (binR Prog .lss 3 a54 v83 h84).bind fun v85 h86 =>
 condV (some v85) (
 (indexAddrR Prog 22 a15 a54 h86).bind fun v87 h88 =>
 (loadR Prog 5 v87 h88).bind fun v89 h90 =>
 (convR Prog 5 3 v89 h90).bind fun v91 h92 =>
 swashlaw07_Write_j1 k call a1 a2 a3 a7 a8 a9 a12 a13 a15 v91 a47 a48 a49 a53 a54 h92)
 (
 swashlaw07_Write_j2 k call a1 a2 a3 a7 a8 a9 a12 a13 a15 a54 (.int .i64 0) a47 a48 a49 a53 a54 v85 h86))
 (
 .ok ((.exit 4), [(1, a1), (2, a2), (3, a3), (7, a7), (8, a8), (9, a9), (12, a12), (13, a13), (15, a15), (47, a47), (48, a48), (49, a49), (53, a53), (54, a54), (55, v81)]) h82) :=
 (loopB_eq _ _).trans (by kernel_rfl)
theorem swashlaw07_Write_j1_eq (k : Nat) (call : Caller) (a1 a2 a3 a7 a8 a9 a12 a13 a15 a17 a47 a48 a49 a53 a54 : Value) (h : Heap) : swashlaw07_Write_j1 k call a1 a2 a3 a7 a8 a9 a12 a13 a15 a17 a47 a48 a49 a53 a54 h =
 (call F.swashref02_Put [a12, a17, (.int .i64 2)] h).bind fun v93 h94 =>
 (binR Prog .add 3 a54 (.int .i64 1) h94).bind fun v95 h96 =>
 .ok (.normal, [(1, a1), (2, a2), (3, a3), (7, a7), (8, a8), (9, a9), (12, v93), (13, a13), (15, a15), (47, a47), (48, a48), (49, a49), (53, a53), (54, v95)]) h96 := by kernel_rfl
theorem swashlaw07_Write_j2_eq (k : Nat) (call : Caller) (a1 a2 a3 a7 a8 a9 a12 a13 a15 a16 a17 a47 a48 a49 a53 a54 a60 : Value) (h : Heap) : swashlaw07_Write_j2 k call a1 a2 a3 a7 a8 a9 a12 a13 a15 a16 a17 a47 a48 a49 a53 a54 a60 h =
 (call F.swashref02_Put [a12, a17, (.int .i64 2)] h).bind fun v97 h98 =>
 (binR Prog .add 3 a54 (.int .i64 1) h98).bind fun v99 h100 =>
 .ok (.normal, [(1, a1), (2, a2), (3, a3), (7, a7), (8, a8), (9, a9), (12, v97), (13, a13), (15, a15), (47, a47), (48, a48), (49, a49), (53, a53), (54, v99)]) h100 := by kernel_rfl
theorem swashlaw07_Write_l2k_x2 (k : Nat) (call : Caller) (a1 a2 a3 a7 a8 a9 a12 a13 a47 a48 a49 a50 : Value) (h : Heap) : swashlaw07_Write_l2k k call (.exit 2) [(1, a1), (2, a2), (3, a3), (7, a7), (8, a8), (9, a9), (12, a12), (13, a13), (47, a47), (48, a48), (49, a49), (50, a50)] h =
 (fieldAddrR Prog 26 a3 2 h).bind fun v101 h102 =>
 (loadR Prog 24 v101 h102).bind fun v103 h104 =>
 (builtinV Prog .len [24] [v103] h104).bind fun v105 h106 =>
 (loopN (swashlaw07_Write_l4 k call) loopFuel [(1, a1), (2, a2), (7, a7), (8, a8), (9, a9), (12, a12), (13, a13), (72, v103), (73, v105), (74, (.int .i64 0))] h106).bind fun r107 h108 =>
 swashlaw07_Write_l4k k call r107.1 r107.2 h108 := by kernel_rfl
theorem swashlaw07_Write_l4_eq (k : Nat) (call : Caller) (a1 a2 a7 a8 a9 a12 a13 a72 a73 a74 : Value) (h : Heap) : swashlaw07_Write_l4 k call [(1, a1), (2, a2), (7, a7), (8, a8), (9, a9), (12, a12), (13, a13), (72, a72), (73, a73), (74, a74)] h =
 (binR Prog .lss 3 a74 a73 h).bind fun v109 h110 =>
 condV (some v109) (
 (indexAddrR Prog 24 a72 a74 h110).bind fun v111 h112 =>
 (loadR Prog 31 v111 h112).bind fun v113 h114 =>
 (allocR Prog 31 h114).bind fun v115 h116 =>
 (storeR Prog 31 v115 v113 h116).bind fun _v117 h118 =>
 (fieldAddrR Prog 31 v115 0 h118).bindN fun v119 h120 =>
 (loadR Prog 3 v119 h120).bindN fun v121 h122 =>
 (binR Prog .and 3 v121 (.int .i64 65535) h122).bindN fun v123 h124 =>
 (call F.swashref02_Put [a13, v123, (.int .i64 2)] h124).bindT (fun p127 h128 => (fieldAddrR Prog 31 v115 1 h124).bindN fun v129 h130 => (loadR Prog 3 v129 h130).bindN fun v131 h132 => (binR Prog .and 3 v131 (.int .i64 65535) h132).bindN fun v133 h134 => chkR ((okVal (loadR Prog 3 v129 h118) v131 && true) && true) (.panic p127 h128)) fun v125 h126 =>
 (fieldAddrR Prog 31 v115 1 h126).bindN fun v135 h136 =>
 (loadR Prog 3 v135 h136).bindN fun v137 h138 =>
 (binR Prog .and 3 v137 (.int .i64 65535) h138).bindN fun v139 h140 =>
 (call F.swashref02_Put [v125, v139, (.int .i64 2)] h140).bindT (fun p143 h144 => chkR ((okVal (loadR Prog 3 v135 h118) v137 && true) && true) (.panic p143 h144)) fun v141 h142 =>
 chkR ((okVal (loadR Prog 3 v135 h118) v137 && true) && true) (
 (binR Prog .gtr 3 a1 (.int .i64 0) h142).bind fun v145 h146 =>
 condV (some v145) (
 (fieldAddrR Prog 31 v115 2 h146).bind fun v147 h148 =>
 (loadR Prog 3 v147 h148).bind fun v149 h150 =>
 (binR Prog .and 3 v149 (.int .i64 65535) h150).bind fun v151 h152 =>
 (call F.swashref02_Put [v141, v151, (.int .i64 2)] h152).bind fun v153 h154 =>
 swashlaw07_Write_j3 k call a1 a2 a7 a8 a9 a12 v153 v115 a72 a73 a74 h154)
 (
 swashlaw07_Write_j4 k call a1 a2 a7 a8 a9 a12 v141 v115 a72 a73 a74 v145 h146)))
 (
 .ok ((.exit 6), [(1, a1), (2, a2), (7, a7), (8, a8), (9, a9), (12, a12), (13, a13), (72, a72), (73, a73), (74, a74), (75, v109)]) h110) :=
 (loopB_eq _ _).trans (by kernel_rfl)
theorem swashlaw07_Write_j3_eq (k : Nat) (call : Caller) (a1 a2 a7 a8 a9 a12 a13 a19 a72 a73 a74 : Value) (h : Heap) : swashlaw07_Write_j3 k call a1 a2 a7 a8 a9 a12 a13 a19 a72 a73 a74 h =
 (binR Prog .gtr 3 a1 (.int .i64 1) h).bind fun v155 h156 =>
 condV (some v155) (
 (fieldAddrR Prog 31 a19 3 h156).bind fun v157 h158 =>
 (loadR Prog 3 v157 h158).bind fun v159 h160 =>
 (binR Prog .and 3 v159 (.int .i64 65535) h160).bind fun v161 h162 =>
 (call F.swashref02_Put [a13, v161, (.int .i64 2)] h162).bind fun v163 h164 =>
 swashlaw07_Write_j5 k call a1 a2 a7 a8 a9 a12 v163 a72 a73 a74 h164)
 (
 swashlaw07_Write_j6 k call a1 a2 a7 a8 a9 a12 a13 a19 a72 a73 a74 v155 h156) := by kernel_rfl
theorem swashlaw07_Write_j4_eq (k : Nat) (call : Caller) (a1 a2 a7 a8 a9 a12 a13 a19 a72 a73 a74 a88 : Value) (h : Heap) : swashlaw07_Write_j4 k call a1 a2 a7 a8 a9 a12 a13 a19 a72 a73 a74 a88 h =
 (binR Prog .gtr 3 a1 (.int .i64 1) h).bind fun v165 h166 =>
 condV (some v165) (
 (fieldAddrR Prog 31 a19 3 h166).bind fun v167 h168 =>
 (loadR Prog 3 v167 h168).bind fun v169 h170 =>
 (binR Prog .and 3 v169 (.int .i64 65535) h170).bind fun v171 h172 =>
 (call F.swashref02_Put [a13, v171, (.int .i64 2)] h172).bind fun v173 h174 =>
 swashlaw07_Write_j5 k call a1 a2 a7 a8 a9 a12 v173 a72 a73 a74 h174)
 (
 swashlaw07_Write_j6 k call a1 a2 a7 a8 a9 a12 a13 a19 a72 a73 a74 v165 h166) := by kernel_rfl
theorem swashlaw07_Write_j5_eq (k : Nat) (call : Caller) (a1 a2 a7 a8 a9 a12 a13 a72 a73 a74 : Value) (h : Heap) : swashlaw07_Write_j5 k call a1 a2 a7 a8 a9 a12 a13 a72 a73 a74 h =
 (binR Prog .add 3 a74 (.int .i64 1) h).bind fun v175 h176 =>
 .ok (.normal, [(1, a1), (2, a2), (7, a7), (8, a8), (9, a9), (12, a12), (13, a13), (72, a72), (73, a73), (74, v175)]) h176 := by kernel_rfl
theorem swashlaw07_Write_j6_eq (k : Nat) (call : Caller) (a1 a2 a7 a8 a9 a12 a13 a19 a72 a73 a74 a95 : Value) (h : Heap) : swashlaw07_Write_j6 k call a1 a2 a7 a8 a9 a12 a13 a19 a72 a73 a74 a95 h =
 (binR Prog .add 3 a74 (.int .i64 1) h).bind fun v177 h178 =>
 .ok (.normal, [(1, a1), (2, a2), (7, a7), (8, a8), (9, a9), (12, a12), (13, a13), (72, a72), (73, a73), (74, v177)]) h178 := by kernel_rfl
theorem swashlaw07_Write_l3k_x4 (k : Nat) (call : Caller) (a1 a2 a3 a7 a8 a9 a12 a13 a15 a47 a48 a49 a53 a54 a55 : Value) (h : Heap) : swashlaw07_Write_l3k k call (.exit 4) [(1, a1), (2, a2), (3, a3), (7, a7), (8, a8), (9, a9), (12, a12), (13, a13), (15, a15), (47, a47), (48, a48), (49, a49), (53, a53), (54, a54), (55, a55)] h =
 (binR Prog .add 3 a49 (.int .i64 1) h).bind fun v179 h180 =>
 .ok (.normal, [(1, a1), (2, a2), (3, a3), (7, a7), (8, a8), (9, a9), (12, a12), (13, a13), (47, a47), (48, a48), (49, v179)]) h180 := by kernel_rfl
theorem swashlaw07_Write_l4k_x6 (k : Nat) (call : Caller) (a1 a2 a7 a8 a9 a12 a13 a72 a73 a74 a75 : Value) (h : Heap) : swashlaw07_Write_l4k k call (.exit 6) [(1, a1), (2, a2), (7, a7), (8, a8), (9, a9), (12, a12), (13, a13), (72, a72), (73, a73), (74, a74), (75, a75)] h =
 (call F.swashref02_Put [(.slice none 0 0), a7, (.int .i64 4)] h).bind fun v181 h182 =>
 (call F.swashref02_Put [v181, a8, (.int .i64 4)] h182).bind fun v183 h184 =>
 (builtinV Prog .len [22] [a9] h184).bind fun v185 h186 =>
 (binR Prog .add 3 a8 v185 h186).bind fun v187 h188 =>
 (call F.swashref02_Put [v183, v187, (.int .i64 4)] h188).bind fun v189 h190 =>
 (builtinV Prog .len [22] [a9] h190).bind fun v191 h192 =>
 (binR Prog .add 3 a8 v191 h192).bind fun v193 h194 =>
 (builtinV Prog .len [22] [a12] h194).bind fun v195 h196 =>
 (binR Prog .add 3 v193 v195 h196).bind fun v197 h198 =>
 (call F.swashref02_Put [v189, v197, (.int .i64 4)] h198).bind fun v199 h200 =>
 (builtinV Prog .append [22, 3] [v199, a2] h200).bind fun v201 h202 =>
 (builtinV Prog .append [22, 22] [v201, a9] h202).bind fun v203 h204 =>
 (builtinV Prog .append [22, 22] [v203, a12] h204).bind fun v205 h206 =>
 (builtinV Prog .append [22, 22] [v205, a13] h206).bind fun v207 h208 =>
 .ok v207 h208 := by kernel_rfl
end
end Go.Sw
end
