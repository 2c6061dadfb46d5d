/-
  Functions' forms, and what is proved of them, part 4.
-/
import Derived.Test.YtanfippcmdialaaSwW3
import Derived.Test.YtanfippcmdialaaSwCfg
import Derived.Test.YtanfippcmdialaaSwLib8
set_option linter.unusedSimpArgs false
set_option linter.unusedVariables false
set_option linter.unusedSectionVars false
section
namespace Go.Sw
open Go.RowKit
theorem entry_run (k : Nat) {H0 H : Heap} {X : List It} {c : Nat} {n : Int} {tab : Value} {rs : List (List Int)} {es : List En} (h : MS H0 H X c n tab rs es) (hel : es.length < 65536) {vR vE : Value} {ev : List Int} (w : Int) (hw : w = 0 ∨ w = 1 ∨ w = 2) (hv : Sl H 1 vE encB ev) (hR : Go.Sw.veq vR vR = true) (hb : Byt ev) (hl : ev.length < 2 ^ 31) :
  match entK ev w es.length with
  | some e => ∃ H', R (T k) F.state_reader_entry [.agg #[ptrV c, vR, vE, .int .i64 w]] H = .ok (.int .i64 (e.next + 1)) H' ∧ MS H0 H' X c n tab rs (es ++ [e])
  | none => R (T k) F.state_reader_entry [.agg #[ptrV c, vR, vE, .int .i64 w]] H = .panic failV H := by
 obtain ⟨l, s1, o1, s2, o2, bs, h1, g, h3⟩ := h;have hM := g.get 0 rfl;have hlen2 := (g.row 2 rfl).len;have hcn : ¬ c = H.n := by have := Heap.get_lt hM; omega
 have hx1 : Ext H (H.push ⟨[ptrV c, vR, vE, .int .i64 w], 1, false⟩) := (Ext.refl H).push _;have hm0 : 0 ≤ (4 + 2 * w) * (es.length : Int) := Int.mul_nonneg (by omega) (by omega);have hm1 : (4 + 2 * w) * (es.length : Int) ≤ 8 * 65536 := Int.mul_le_mul (by omega) (by omega) (by omega) (by omega);have hCut := Cut_run k (hv.up hx1) ((4 + 2 * w) * es.length) (4 + 2 * w) (by omega);rw [state_reader_entry_R];cases hr : pieceS ev ((4 + 2 * w) * es.length) (4 + 2 * w) with
 | none =>
  have : entK ev w es.length = none := by unfold entK; rw [hr]; rfl
  rw [this];rw [hr] at hCut;refine nrm_throw ⟨_, ?_, hx1⟩ Flat.fail.alive;simp -implicitDefEqProofs (disch := omega) [state_reader_entry, hcn, hM, hlen2, hCut]
 | some r =>
  have hK : entK ev w es.length = some (entOf w r) := by unfold entK; rw [hr]; rfl
  rw [hK];dsimp only;rw [hr] at hCut;have hs := pieceS_sl (hv.up hx1) hr;have hrb := (hb.piece hr).1;have hrl := pieceS_len hr;generalize subV 1 vE ((4 + 2 * w) * (es.length : Int)).toNat (4 + 2 * w).toNat = q at hs hCut;have hq := rd_vw hs;obtain ⟨B1, hB1⟩ : ∃ B1 : Blk, B1 = ⟨[ptrV c, vR, vE, .int .i64 w], 1, false⟩ := ⟨_, rfl⟩
  obtain ⟨B2, hB2⟩ : ∃ B2 : Blk, B2 = ⟨[q], 1, false⟩ := ⟨_, rfl⟩
  obtain ⟨e, he⟩ : ∃ e, e = entOf w r := ⟨_, rfl⟩
  rw [← he];have hu : ∀ i, 0 ≤ i → i + 2 ≤ 4 + 2 * w → ∀ H', Ext (H.push B1) H' → R (T k) F.view_View_U16 [.agg #[q], .int .i64 i] H' = .ok (.int .i64 (gU r i 2)) H' := fun i hi0 hi1 H' hx => by
   rw [← hB1] at hs;have := U16_run k (hs.up hx) hrb i (by omega);rw [(piece_gU hb hr hi0 hi1).1, orF_some] at this;exact this
  have hx2 : Ext (H.push B1) ((H.push B1).push B2) := (Ext.refl _).push _;have u0 := hu 0 (by omega) (by omega) _ hx2;have u2 := hu 2 (by omega) (by omega) _ hx2;have g0 := (piece_gU hb hr (i := 0) (by omega) (by omega)).2;have g2 := (piece_gU hb hr (i := 2) (by omega) (by omega)).2;have hn : e.next = gU r 0 2 := by rw [he]; rfl
  have hf : e.flags = gU r 2 2 := by rw [he]; rfl
  have g := ((g.push B1).push B2).push ⟨encEn e, 1, false⟩;obtain ⟨P, hP⟩ : ∃ P, P = ((H.push B1).push B2).push ⟨encEn e, 1, false⟩ := ⟨_, rfl⟩
  rw [← hP] at g;obtain ⟨bs', hbs⟩ : ∃ bs', bs' = bs ++ [itBlk H.n B1, itBlk (H.n + 1) B2, itBlk (H.n + 2) ⟨encEn e, 1, false⟩] := ⟨_, rfl⟩
  have g : Star H0 P (itBlk c ⟨[.int .i64 n, tab, s1, s2], 1, false⟩ :: itRow o1 1 s1 encU l :: itRow o2 4 s2 encEn es :: (X ++ bs')) := by
   rw [hbs];simpa using g
  have hM1 := g.get 0 rfl;have hB1g : P.get H.n = some B1 := g.memBlk (by simp [hbs]);have hPn : P.n = H.n + 3 := by rw [hP]; simp
  have hn1 : ¬ H.n = P.n := by omega
  have hc1 : ¬ c = P.n := by have := Heap.get_lt hM1; omega
  have hvq := (g.row 2 rfl).veq;obtain ⟨s2', o2', H2, e2, g⟩ := g.append1 (bytes := 32) 2 encEn_len rfl e (by omega) (by decide);simp only [List.set_cons_zero, List.set_cons_succ] at g;have hB1g2 : H2.get H.n = some B1 := g.memBlk (by simp [hbs]);obtain ⟨H3, e3, g, _⟩ := g.stCell 0 rfl 3 (g.row 2 rfl).storable (g.row 2 rfl).cells (by simp);simp only [List.set_cons_zero, List.set_cons_succ] at g;have hB3g : H3.get (H.n + 2) = some ⟨encEn e, 1, false⟩ := g.memBlk (by simp [hbs]);refine ⟨H3, nrm_of ?_, l, s1, o1, s2', o2', bs', h1, g, fun x hx => ?_⟩;rotate_left
  ·obtain ⟨o, ho⟩ := h3 x hx;exact ⟨o, by rw [hbs]; simp [ho]⟩
  rw [hB1] at hB1g hB1g2;have hPe := hP;rw [hB1, hB2] at hPe;have hP2 : P.get (H.n + 2) = some ⟨encEn e, 1, false⟩ := by rw [hP]; simp
  have hP1 : P.get (H.n + 1) = some B2 := by rw [hP]; simp
  rw [hB2] at hP1;rw [hB1, hB2] at u0 u2;have hq2 : Go.Sw.veq (.agg #[q]) (.agg #[q]) = true := veq_agg (l := [q]) fun u hu => by simp at hu; subst hu; exact hq
  have hn2 : ¬ H.n + 2 = P.n := by omega
  have e2' := e2;unfold encEn at e2';have hj4 : state_reader_entry_j4 k (R (T k)) (ptrV H.n) (ptrV (H.n + 1)) (ptrV (H.n + 2)) (.bool false) P = .ok (.int .i64 (e.next + 1)) H3 := by
   rw [state_reader_entry_j4_eq];simp -implicitDefEqProofs (disch := omega) [-stR_ptr, hB1g, hM1, hP2, hn1, hc1, hB1g2, hvq, e2', e3, hB3g]
  have hj3 : state_reader_entry_j3 k (R (T k)) (ptrV H.n) (ptrV (H.n + 2)) P = .ok (.int .i64 (e.next + 1)) H3 := by
   rw [state_reader_entry_j3_eq];simp -implicitDefEqProofs (disch := omega) [-stR_ptr, hB1g, hM1, hP2, hn1, hc1, hB1g2, hvq, e2', e3, hB3g]
  rcases hw with rfl | rfl | rfl
  ·have hall : encEn e = [.int .i64 (gU r 0 2), .int .i64 (gU r 2 2), .int .i64 0, .int .i64 0] := by rw [he]; rfl
   rw [hall] at hPe;simp -implicitDefEqProofs (disch := omega) at hCut;simp -implicitDefEqProofs (disch := omega) [state_reader_entry, hcn, hM, hlen2, hCut, u0, u2, hq2, ← hPe, state_reader_entry_j2_eq, hB1g, hj4]
  ·have hall : encEn e = [.int .i64 (gU r 0 2), .int .i64 (gU r 2 2), .int .i64 (gU r 4 2), .int .i64 0] := by rw [he]; rfl
   rw [hall] at hPe;have u4 := hu 4 (by omega) (by omega) _ (hx2.push ⟨[.int .i64 (gU r 0 2), .int .i64 (gU r 2 2), .int .i64 0, .int .i64 0], 1, false⟩);rw [hB1, hB2] at u4;simp -implicitDefEqProofs (disch := omega) at hCut;simp -implicitDefEqProofs (disch := omega) [state_reader_entry, hcn, hM, hlen2, hCut, u0, u2, u4, hq2, ← hPe, state_reader_entry_j1_eq, hB1g, hj4]
  ·have hall : encEn e = [.int .i64 (gU r 0 2), .int .i64 (gU r 2 2), .int .i64 (gU r 4 2), .int .i64 (gU r 6 2)] := by rw [he]; rfl
   rw [hall] at hPe;have u4 := hu 4 (by omega) (by omega) _ (hx2.push ⟨[.int .i64 (gU r 0 2), .int .i64 (gU r 2 2), .int .i64 0, .int .i64 0], 1, false⟩);have u6 := hu 6 (by omega) (by omega) _ (hx2.push ⟨[.int .i64 (gU r 0 2), .int .i64 (gU r 2 2), .int .i64 (gU r 4 2), .int .i64 0], 1, false⟩);rw [hB1, hB2] at u4 u6;simp -implicitDefEqProofs (disch := omega) at hCut;simp -implicitDefEqProofs (disch := omega) [state_reader_entry, hcn, hM, hlen2, hCut, u0, u2, u4, u6, hq2, ← hPe, state_reader_entry_j1_eq, hj3]
theorem needR_snoc (rs : List (List Int)) (r : List Int) : needR (rs ++ [r]) = max (needR rs) (needL r) := by
 unfold needR;rw [List.flatten_append, needL_append];simp
theorem needR_nonneg (rs : List (List Int)) : 0 ≤ needR rs := needL_nonneg _
theorem rowK_lt {rv : List Int} (hb : Byt rv) {n : Int} {k : Nat} {r : List Int} (h : rowK rv n k = some r) : ∀ y, y ∈ r → 0 ≤ y ∧ y < 65536 := by
 unfold rowK listS at h;obtain ⟨q, hq, rfl⟩ := Option.map_eq_some_iff.1 h;have hqb := (hb.piece (rowsS_piece hq)).1;intro y hy;obtain ⟨c, hc, rfl⟩ := List.mem_map.1 hy;obtain ⟨h5, h6⟩ := cutRows_byt hqb _ _ hc;have := num_bound c h5;have hp : (256 : Int) ^ c.length ≤ 256 ^ 2 := by
  have : c.length ≤ 2 := h6
  match hcl : c.length, this with
  | 0, _ => decide
  | 1, _ => decide
  | 2, _ => decide
 omega
theorem rowsTo_need {rv : List Int} (hb : Byt rv) {n : Int} {m : Nat} {rs : List (List Int)} (h : rowsTo rv n m = some rs) : needR rs ≤ 65536 := needL_lt (by omega) fun y hy => by
 obtain ⟨r, hrm, hy⟩ := List.mem_flatten.1 hy;obtain ⟨i, hi⟩ := List.getElem?_of_mem hrm;obtain ⟨k, _, hk⟩ := mapO_get h hi;exact (rowK_lt hb hk y hy).2
theorem mapO_none_of {β : Type} {f : Nat → Option β} {n m : Nat} (h : n ≤ m) (hn : mapO f (List.range n) = none) : mapO f (List.range m) = none := by
 cases hm : mapO f (List.range m) with
 | none => rfl
 | some r => rw [mapO_prefix h hm] at hn; cases hn
section
variable (k : Nat) {H0 : Heap} {X : List It} {c r : Nat} {n : Int} {tab vR vE : Value} {rv ev : List Int} {w : Int}
 (hn : 0 ≤ n ∧ n ≤ 65535) (hw : w = 0 ∨ w = 1 ∨ w = 2) (hvR : Sl H0 1 vR encB rv) (hvE : Sl H0 1 vE encB ev) (hbR : Byt rv) (hbE : Byt ev) (hlR : rv.length < 2 ^ 31) (hlE : ev.length < 2 ^ 31)
 (hX : itBlk r ⟨[ptrV c, vR, vE, .int .i64 w], 1, false⟩ ∈ X)
include hn hvR hvE hbR hlR hX
theorem rows_loop {H : Heap} (s : Nat) (hs : s ≤ 65536) {rs : List (List Int)} {es : List En} (h : MS H0 H X c n tab rs es) (hrs : rs.length ≤ s) (ht : rowsTo rv n rs.length = some rs) :
  (∃ rs' H', loopN (state_Take_l2 k (R (T k))) loopFuel [(8, ptrV c), (9, ptrV r), (10, .int .i64 s), (11, .int .i64 (needR rs))] H = .ok (.exit 2, [(8, ptrV c), (9, ptrV r), (10, .int .i64 s), (11, .int .i64 (needR rs')), (63, .bool false)]) H' ∧ rowsTo rv n s = some rs' ∧ MS H0 H' X c n tab rs' es) ∨
  (∃ H', loopN (state_Take_l2 k (R (T k))) loopFuel [(8, ptrV c), (9, ptrV r), (10, .int .i64 s), (11, .int .i64 (needR rs))] H = .panic failV H' ∧ Ext H0 H' ∧ rowsTo rv n s = none) := by
 rcases loopDecP (body := state_Take_l2 k (R (T k)))
  (fun m e H' => ∃ rs, m = s - rs.length ∧ rs.length ≤ s ∧ e = [(8, ptrV c), (9, ptrV r), (10, .int .i64 s), (11, .int .i64 (needR rs))] ∧ rowsTo rv n rs.length = some rs ∧ MS H0 H' X c n tab rs es)
  (fun x e H' => ∃ rs', x = .exit 2 ∧ e = [(8, ptrV c), (9, ptrV r), (10, .int .i64 s), (11, .int .i64 (needR rs')), (63, .bool false)] ∧ rowsTo rv n s = some rs' ∧ MS H0 H' X c n tab rs' es)
  (fun v H' => v = failV ∧ Ext H0 H' ∧ rowsTo rv n s = none)
  (s - rs.length) (e0 := [(8, ptrV c), (9, ptrV r), (10, .int .i64 s), (11, .int .i64 (needR rs))]) (H0 := H) ⟨rs, rfl, hrs, rfl, ht, h⟩ (by omega)
  (fun m e H' ⟨rs, hm, hle, he, ht, h⟩ => by
   subst he;obtain ⟨s1, s2, hM, hl1, hl2⟩ := h.here;have hr := h.memX hX;have h0 := needR_nonneg rs;have h6 := rowsTo_need hbR ht;by_cases hlt : rs.length < s
   ·have hlt' : (rs.length : Int) < s := by omega
    have hrow := row_run k h hn (by omega) (vE := vE) w (hvR.up h.ext) (rd_vw hvE) hbR hlR;cases hK : rowK rv n rs.length with
    | none =>
     rw [hK] at hrow;refine .inr (.inr ⟨failV, H', ?_, rfl, h.ext, mapO_none_of (n := rs.length + 1) hlt ?_⟩)
     ·rw [state_Take_l2_eq];simp -implicitDefEqProofs (disch := omega) [hM, hl1, hlt', hr, hrow]
     ·rw [mapO_range, show mapO (rowK rv n) (List.range rs.length) = some rs from ht, Option.bind_some, hK];rfl
    | some row =>
     rw [hK] at hrow;obtain ⟨H2, e2, h2⟩ := hrow;have hmax : (if needL row > needR rs then needL row else needR rs) = needR (rs ++ [row]) := by rw [needR_snoc]; split <;> omega
     refine .inl ⟨s - (rs ++ [row]).length, _, H2, ?_, by simp; omega, rs ++ [row], rfl, by simp; omega, rfl, ?_, h2⟩
     ·rw [state_Take_l2_eq, ← hmax];simp -implicitDefEqProofs (disch := omega) [hM, hl1, hlt', hr, e2]
     ·rw [List.length_append, List.length_singleton];unfold rowsTo at ht ⊢;rw [mapO_range, ht, Option.bind_some, hK];rfl
   ·have hlt' : ¬ (rs.length : Int) < s := by omega
    refine .inr (.inl ⟨.exit 2, _, H', ?_, by simp, rs, rfl, rfl, by rw [show s = rs.length by omega]; exact ht, h⟩);rw [state_Take_l2_eq];simp -implicitDefEqProofs (disch := omega) [hM, hl1, hlt']) with ⟨x, e', H', h1, rs', rfl, rfl, h2, h3⟩ | ⟨v, H', h1, rfl, h2, h3⟩
 ·exact .inl ⟨rs', H', h1, h2, h3⟩
 ·exact .inr ⟨H', h1, h2, h3⟩
end
section
variable (k : Nat) {H0 : Heap} {X : List It} {c r : Nat} {n : Int} {tab vR vE : Value} {rv ev : List Int} {w : Int}
 (hn : 0 ≤ n ∧ n ≤ 65535) (hw : w = 0 ∨ w = 1 ∨ w = 2) (hvR : Sl H0 1 vR encB rv) (hvE : Sl H0 1 vE encB ev) (hbR : Byt rv) (hbE : Byt ev) (hlR : rv.length < 2 ^ 31) (hlE : ev.length < 2 ^ 31)
 (hX : itBlk r ⟨[ptrV c, vR, vE, .int .i64 w], 1, false⟩ ∈ X)
include hw hvR hvE hbE hlE hX
theorem ents_loop {H : Heap} (s : Int) (hs : 2 ≤ s ∧ s ≤ 65536) (N : Nat) (hN : N ≤ 65536) {rs : List (List Int)} {es : List En} (h : MS H0 H X c n tab rs es) (hes : es.length ≤ N) (ht : entsTo ev w es.length = some es) (hsn : needE es ≤ s) :
  (∃ es' H', loopN (state_Take_l3 k (R (T k))) loopFuel [(8, ptrV c), (9, ptrV r), (10, .int .i64 s), (11, .int .i64 N)] H = .ok (.exit 4, [(8, ptrV c), (9, ptrV r), (10, .int .i64 (max s (needE es'))), (11, .int .i64 N), (74, .bool false)]) H' ∧ entsTo ev w N = some es' ∧ MS H0 H' X c n tab rs es') ∨
  (∃ H', loopN (state_Take_l3 k (R (T k))) loopFuel [(8, ptrV c), (9, ptrV r), (10, .int .i64 s), (11, .int .i64 N)] H = .panic failV H' ∧ Ext H0 H' ∧ entsTo ev w N = none) := by
 rcases loopDecP (body := state_Take_l3 k (R (T k)))
  (fun m e H' => ∃ es, m = N - es.length ∧ es.length ≤ N ∧ e = [(8, ptrV c), (9, ptrV r), (10, .int .i64 (max s (needE es))), (11, .int .i64 N)] ∧ entsTo ev w es.length = some es ∧ MS H0 H' X c n tab rs es)
  (fun x e H' => ∃ es', x = .exit 4 ∧ e = [(8, ptrV c), (9, ptrV r), (10, .int .i64 (max s (needE es'))), (11, .int .i64 N), (74, .bool false)] ∧ entsTo ev w N = some es' ∧ MS H0 H' X c n tab rs es')
  (fun v H' => v = failV ∧ Ext H0 H' ∧ entsTo ev w N = none)
  (N - es.length) (e0 := [(8, ptrV c), (9, ptrV r), (10, .int .i64 s), (11, .int .i64 N)]) (H0 := H) ⟨es, rfl, hes, by rw [show max s (needE es) = s by omega], ht, h⟩ (by omega)
  (fun m e H' ⟨es, hm, hle, he, ht, h⟩ => by
   subst he;obtain ⟨s1, s2, hM, hl1, hl2⟩ := h.here;have hr := h.memX hX;have h6 := needE_le hbE ht;by_cases hlt : es.length < N
   ·have hlt' : (es.length : Int) < N := by omega
    have hent := entry_run k h (by omega) (vR := vR) w hw (hvE.up h.ext) (rd_vw hvR) hbE hlE;cases hK : entK ev w es.length with
    | none =>
     rw [hK] at hent;refine .inr (.inr ⟨failV, H', ?_, rfl, h.ext, mapO_none_of (n := es.length + 1) hlt ?_⟩)
     ·rw [state_Take_l3_eq];simp -implicitDefEqProofs (disch := omega) [hM, hl2, hlt', hr, hent]
     ·rw [mapO_range, show mapO (entK ev w) (List.range es.length) = some es from ht, Option.bind_some, hK];rfl
    | some en =>
     rw [hK] at hent;obtain ⟨H2, e2, h2⟩ := hent;have hen : needE (es ++ [en]) = max (needE es) (en.next + 1) := by
      unfold needE;rw [List.map_append, List.map_singleton, needL_snoc];omega
     have hmax : (if en.next + 1 > max s (needE es) then en.next + 1 else max s (needE es)) = max s (needE (es ++ [en])) := by rw [hen]; split <;> omega
     refine .inl ⟨N - (es ++ [en]).length, _, H2, ?_, by simp; omega, es ++ [en], rfl, by simp; omega, rfl, ?_, h2⟩
     ·rw [state_Take_l3_eq, ← hmax];simp -implicitDefEqProofs (disch := omega) [hM, hl2, hlt', hr, e2]
     ·rw [List.length_append, List.length_singleton];unfold entsTo at ht ⊢;rw [mapO_range, ht, Option.bind_some, hK];rfl
   ·have hlt' : ¬ (es.length : Int) < N := by omega
    refine .inr (.inl ⟨.exit 4, _, H', ?_, by simp, es, rfl, rfl, by rw [show N = es.length by omega]; exact ht, h⟩);rw [state_Take_l3_eq];simp -implicitDefEqProofs (disch := omega) [hM, hl2, hlt']) with ⟨x, e', H', h1, es', rfl, rfl, h2, h3⟩ | ⟨v, H', h1, rfl, h2, h3⟩
 ·exact .inl ⟨es', H', h1, h2, h3⟩
 ·exact .inr ⟨H', h1, h2, h3⟩
end
section
variable (k : Nat) {H0 : Heap} {X : List It} {c r : Nat} {n : Int} {tab vR vE : Value} {rv ev : List Int} {w : Int}
 (hn : 0 ≤ n ∧ n ≤ 65535) (hw : w = 0 ∨ w = 1 ∨ w = 2) (hvR : Sl H0 1 vR encB rv) (hvE : Sl H0 1 vE encB ev) (hbR : Byt rv) (hbE : Byt ev) (hlR : rv.length < 2 ^ 31) (hlE : ev.length < 2 ^ 31)
 (hX : itBlk r ⟨[ptrV c, vR, vE, .int .i64 w], 1, false⟩ ∈ X)
include hn hw hvR hvE hbR hbE hlR hlE hX
theorem all_loop {H : Heap} (h : MS H0 H X c n tab [] []) :
  Cp failV (Ext H0) (loopN (state_Take_l1 k (R (T k))) loopFuel [(8, ptrV c), (9, ptrV r), (10, .int .i64 2), (11, .int .i64 0)] H) (closeA rv ev n w 2)
   fun x xe H' => (∃ a b, xe = (.exit 0, [(8, ptrV c), (9, ptrV r), (10, a), (11, b), (56, .bool false)])) ∧ MS H0 H' X c n tab x.1 x.2 := by
 rcases loopDecP (body := state_Take_l1 k (R (T k)))
  (fun m e H' => ∃ (s : Nat) (rs : List (List Int)) (es : List En), m = 2 * (65537 - s) + (if rs.length < s then 1 else 0) ∧ e = [(8, ptrV c), (9, ptrV r), (10, .int .i64 s), (11, .int .i64 (needR rs))] ∧ 2 ≤ s ∧ s ≤ 65536 ∧ rs.length ≤ s ∧
   rowsTo rv n rs.length = some rs ∧ es.length = (needR rs).toNat ∧ entsTo ev w es.length = some es ∧ needE es ≤ s ∧ MS H0 H' X c n tab rs es ∧ closeA rv ev n w 2 = if rs.length < s then closeA rv ev n w s else some (rs, es))
  (fun x e H' => x = .exit 0 ∧ ∃ rs es a b, e = [(8, ptrV c), (9, ptrV r), (10, a), (11, b), (56, .bool false)] ∧ closeA rv ev n w 2 = some (rs, es) ∧ MS H0 H' X c n tab rs es)
  (fun v H' => v = failV ∧ Ext H0 H' ∧ closeA rv ev n w 2 = none)
  (2 * 65535 + 1) (e0 := [(8, ptrV c), (9, ptrV r), (10, .int .i64 2), (11, .int .i64 0)]) (H0 := H) ⟨2, [], [], rfl, rfl, by omega, by omega, by simp, rfl, rfl, rfl, (by decide), h, rfl⟩ (by omega)
  (fun m e H' ⟨s, rs, es, hm, he, hs2, hs6, hrs, ht, hel, hte, hne, h, hspec⟩ => by
   subst he;obtain ⟨s1, s2, hM, hl1, hl2⟩ := h.here;have h0 := needR_nonneg rs;by_cases hlt : rs.length < s
   ·have hlt' : (rs.length : Int) < s := by omega
    rw [if_pos hlt] at hspec;have hce := closeA_eq (rv := rv) hbE (n := n) (w := w) hs6;have hgo : ∀ x, (loopN (state_Take_l2 k (R (T k))) loopFuel [(8, ptrV c), (9, ptrV r), (10, .int .i64 s), (11, .int .i64 (needR rs))] H').bind (fun r111 h112 => state_Take_l2k k (R (T k)) r111.1 r111.2 h112) = x → state_Take_l1 k (R (T k)) [(8, ptrV c), (9, ptrV r), (10, .int .i64 s), (11, .int .i64 (needR rs))] H' = x := fun x hx => by
     rw [← hx, state_Take_l1_eq];simp -implicitDefEqProofs (disch := omega) [hM, hl1, hlt']
    rcases rows_loop k hn hvR hvE hbR hlR hX s hs6 h hrs ht with ⟨rs', H2, e2, ht2, h2⟩ | ⟨H2, e2, hx2, ht2⟩
    rotate_left
    ·refine .inr (.inr ⟨failV, H2, hgo _ ?_, rfl, hx2, by rw [hspec, hce, ht2]; rfl⟩);rw [e2]; rfl
    have hrl : rs'.length = s := by have := mapO_len ht2; simpa using this
    have hn2 := needR_nonneg rs';have hn6 := rowsTo_need hbR ht2;have hpre : rs = rs'.take rs.length := by
     have := mapO_prefix hrs ht2;have ht' : mapO (rowK rv n) (List.range rs.length) = some rs := ht;rw [ht'] at this;injection this
    have hmono : needR rs ≤ needR rs' := by
     conv => lhs; rw [hpre]
     have := List.take_append_drop rs.length rs';conv => rhs; rw [← this]
     unfold needR;rw [List.flatten_append, needL_append];omega
    have hNN : ((needR rs').toNat : Int) = needR rs' := by omega
    rw [hspec] at *;rw [ht2, Option.bind_some] at hce;have hgo2 : ∀ x, (loopN (state_Take_l3 k (R (T k))) loopFuel [(8, ptrV c), (9, ptrV r), (10, .int .i64 s), (11, .int .i64 (((needR rs').toNat : Nat) : Int))] H2).bind (fun r111 h112 => state_Take_l3k k (R (T k)) r111.1 r111.2 h112) = x → state_Take_l1 k (R (T k)) [(8, ptrV c), (9, ptrV r), (10, .int .i64 s), (11, .int .i64 (needR rs))] H' = x := fun x hx => by
     refine hgo x ?_;rw [e2, ← hx, Res.bind_ok, state_Take_l2k_x2, hNN]
    rcases ents_loop k hw hvR hvE hbE hlE hX s (by omega) (needR rs').toNat (by omega) h2 (by omega) hte hne with ⟨es', H3, e3, ht3, h3⟩ | ⟨H3, e3, hx3, ht3⟩
    rotate_left
    ·refine .inr (.inr ⟨failV, H3, hgo2 _ ?_, rfl, hx3, by rw [hce, ht3]; rfl⟩);rw [e3]; rfl
    have hE := needE_le hbE ht3;have hel' : es'.length = (needR rs').toNat := by have := mapO_len ht3; simpa using this
    rw [ht3, Option.bind_some] at hce;have hmx : ((max s (needE es').toNat : Nat) : Int) = max (s : Int) (needE es') := by omega
    refine .inl ⟨2 * (65537 - max s (needE es').toNat) + (if rs'.length < max s (needE es').toNat then 1 else 0), _, H3, hgo2 _ ?_, ?_, max s (needE es').toNat, rs', es', rfl, rfl, by omega, by omega, by omega, by rw [hrl]; exact ht2, hel', by rw [hel']; exact ht3, by omega, h3, ?_⟩
    ·rw [e3, Res.bind_ok, state_Take_l3k_x4, hmx, hNN]
    ·rw [hm, if_pos hlt, hrl];split <;> omega
    ·rw [hce, hrl];by_cases hcl : (needE es').toNat ≤ s
     ·rw [if_pos hcl, if_neg (by omega)]
     ·rw [if_neg hcl, if_pos (by omega), show max s (needE es').toNat = (needE es').toNat by omega]
   ·have hlt' : ¬ (rs.length : Int) < s := by omega
    have hlt2 : ¬ (es.length : Int) < needR rs := by omega
    rw [if_neg hlt] at hspec;refine .inr (.inl ⟨.exit 0, [(8, ptrV c), (9, ptrV r), (10, .int .i64 s), (11, .int .i64 (needR rs)), (56, .bool false)], H', ?_, by simp, rfl, rs, es, _, _, rfl, hspec, h⟩);rw [state_Take_l1_eq];simp -implicitDefEqProofs (disch := omega) [hM, hl1, hl2, hlt', hlt2]) with ⟨x, e', H', h1, rfl, rs', es', a, b, rfl, h2, h3⟩ | ⟨v, H', h1, rfl, h2, h3⟩
 ·rw [h2];exact ⟨_, H', h1, h3.ext, ⟨a, b, rfl⟩, h3⟩
 ·rw [h3];exact ⟨H', h1, h2⟩
end
end Go.Sw
end
section
namespace Go.Sw
open Go.RowKit
abbrev machV (m : Mach) : Value := boxV #[.int .i64 m.classes, tabV m.tab, lv encRow m.rows, lv encEn m.ents]
theorem Flat.rowsL (l : List (List Int)) : Flat (Go.Sw.lv encRow l) := .lv fun p _ => .cons (Flat.I _) .nil
theorem Flat.mach (m : Mach) : Flat (machV m) := .boxV (l := [.int .i64 m.classes, tabV m.tab, Go.Sw.lv encRow m.rows, Go.Sw.lv encEn m.ents]) (.cons (.int _ _) (.cons (Flat.tab _) (.cons (Flat.rowsL _) (.cons (Flat.Ens _) .nil))))
theorem rows_fstR (l : List (List Int × Value)) : rows (fun x : List Int × Value => encRow x.1) l = rows encRow (l.map Prod.fst) := by
 induction l with
 | nil => rfl
 | cons x l ih => rw [List.map_cons, rows_cons, rows_cons, ih]
theorem MS.freeze {H0 H : Heap} {X : List It} {c : Nat} {n : Int} {t : Int × List Pt} {rs : List (List Int)} {es : List En} (h : MS H0 H X c n (tabV t) rs es) : ∃ L, fzV H0.n H fzDepth (ptrV c) = some (machV ⟨n, t, rs, es⟩, L) := by
 obtain ⟨l, s1, o1, s2, o2, bs, h1, g, h3⟩ := h;have hc := (g.lt 0 rfl c (by simp [itBlk])).1;obtain ⟨L1, f1⟩ := (g.own 1 rfl).freezeG (enc' := fun x : List Int × Value => encRow x.1) encU_len 5 fun x hx => by
  obtain ⟨o, ho⟩ := h3 x hx;obtain ⟨L, hL⟩ := (g.memOwn (o := o) (m := 1) (s := x.2) (enc := encI) (l := x.1) (by simp [ho])).freeze encI_len (encI_still _) 4;exact ⟨_, mapF_one hL⟩
 obtain ⟨L2, f2⟩ := (g.own 2 rfl).freeze encEn_len (encEn_still _) 5;have e1 : lv (fun x : List Int × Value => encRow x.1) l = lv encRow rs := by
  unfold lv;rw [rows_fstR, h1, ← h1, List.length_map]
 rw [e1] at f1;exact ⟨_, fz_box hc (g.get 0 rfl) (mapF_cons (v := .int .i64 n) (u := .int .i64 n) (L1 := []) rfl (mapF_cons (v := tabV t) (u := tabV t) (L1 := []) rfl (mapF_cons f1 (mapF_one f2))))⟩
theorem restS_sl {H : Heap} {v : Value} {b r : List Int} (hv : Sl H 1 v encB b) {i : Int} (hl : b.length < 2 ^ 62) (hi : i ≤ 9223372036854775807) (h : restS b i = some r) : Sl H 1 (subV 1 v i.toNat (behind b i).toNat) encB r :=
 pieceS_sl hv (by rw [behind_piece b i hl hi]; exact h)
theorem restS_len {b r : List Int} {i : Int} (h : restS b i = some r) : r.length ≤ b.length := by
 unfold restS at h;split at h
 ·injection h with h;subst h;simp
 ·cases h
theorem stateTake_run (k : Nat) {H : Heap} {v : Value} {b : List Int} (hv : Sl H 1 v encB b) (hb : Byt b) (g w : Int) (hg1 : 1 ≤ g) (hg2 : g ≤ 65535) (hw : w = 0 ∨ w = 1 ∨ w = 2) (hl : b.length < 2 ^ 31) :
  R (T k) F.state_Take [.agg #[v], .int .i64 g, .int .i64 w] H = orF (machS b g w) machV H := by
 rw [state_Take_R];have hx : Ext H (H.push ⟨[v], 1, false⟩) := (Ext.refl H).push _;have hq := rd_vw hv;have hqa : veq (.agg #[v]) (.agg #[v]) = true := veq_agg (l := [v]) fun u hu => by simp at hu; subst hu; exact hq
 refine fz_orF ?_ fun _ _ => (Flat.mach _).alive;simp -implicitDefEqProofs [state_Take];unfold machS;refine Cp.call (U32_run k (hv.up hx) hb 0 (by omega)) hx fun n hn => ?_;have hn := uS_four hb hn;by_cases h4 : 4 ≤ n;rotate_left
 ·have h4' : ¬ n ≥ 4 := by omega
  rw [if_neg (fun h => h4 h.1)];simp -implicitDefEqProofs (disch := omega) [h4'];exact .throw hx
 have h4' : n ≥ 4 := h4;by_cases h5 : n ≤ 65535;rotate_left
 ·rw [if_neg (fun h => h5 h.2)];simp -implicitDefEqProofs (disch := omega) [h4', h5];exact .throw hx
 rw [if_pos ⟨h4, h5⟩];simp -implicitDefEqProofs (disch := omega) [h4', h5];refine Cp.callT (U32_run k (hv.up hx) hb 4 (by omega)) (fun _ => ⟨_, rfl, hx⟩) fun i hi => ?_;have hi := uS_four hb hi;refine Cp.callT (Rest_run k (hv.up hx) i (by omega) (by omega)) (fun _ => ⟨_, by simp -implicitDefEqProofs (disch := omega) [hqa], hx⟩) fun tb htb => ?_;refine Cp.callT (lookTake_run k (restS_sl (hv.up hx) (by omega) (by omega) htb) (hb.rest htb) g 2 hg1 hg2 (.inl rfl) (by have := restS_len htb; omega)) (fun _ => ⟨_, by simp -implicitDefEqProofs (disch := omega) [hqa], hx⟩) fun tab htab => ?_;have hx2 : Ext H ((H.push ⟨[v], 1, false⟩).push ⟨[.int .i64 n, tabV tab, .slice none 0 0, .slice none 0 0], 1, false⟩) := hx.push _;simp -implicitDefEqProofs (disch := omega) [hqa];refine Cp.callT (U32_run k (hv.up hx2) hb 8 (by omega)) (fun _ => ⟨_, by simp -implicitDefEqProofs (disch := omega) [hqa], hx2⟩) fun j hj => ?_;have hj := uS_four hb hj;refine Cp.callT (Rest_run k (hv.up hx2) j (by omega) (by omega)) (fun _ => ⟨_, by simp -implicitDefEqProofs (disch := omega) [hqa], hx2⟩) fun rv hrv => ?_;simp -implicitDefEqProofs (disch := omega) [hqa];refine Cp.callT (U32_run k (hv.up hx2) hb 12 (by omega)) (fun _ => ⟨_, by simp -implicitDefEqProofs (disch := omega) [hqa], hx2⟩) fun q hq => ?_;have hq := uS_four hb hq;refine Cp.callT (Rest_run k (hv.up hx2) q (by omega) (by omega)) (fun _ => ⟨_, by simp -implicitDefEqProofs (disch := omega) [hqa], hx2⟩) fun ev hev => ?_;have sR := restS_sl hv (by omega) (by omega) hrv;have sE := restS_sl hv (by omega) (by omega) hev;have lR := restS_len hrv;have lE := restS_len hev;generalize subV 1 v j.toNat (behind b j).toNat = vR at sR;generalize subV 1 v q.toNat (behind b q).toNat = vE at sE;have qR := rd_vw sR;have qE := rd_vw sE;have qaR : veq (.agg #[vR]) (.agg #[vR]) = true := veq_agg (l := [vR]) fun u hu => by simp at hu; subst hu; exact qR
 have qaE : veq (.agg #[vE]) (.agg #[vE]) = true := veq_agg (l := [vE]) fun u hu => by simp at hu; subst hu; exact qE
 have stR := sR.storable;have stE := sE.storable;have ceR := sR.cells;have ceE := sE.cells;have hms : MS H (((H.push ⟨[v], 1, false⟩).push ⟨[.int .i64 n, tabV tab, .slice none 0 0, .slice none 0 0], 1, false⟩).push ⟨[ptrV (H.n + 1), vR, vE, .int .i64 w], 1, false⟩) [itBlk (H.n + 2) ⟨[ptrV (H.n + 1), vR, vE, .int .i64 w], 1, false⟩] (H.n + 1) n (tabV tab) [] [] := by
  have g := ((Star.nil H).rest hx).push ⟨[.int .i64 n, tabV tab, .slice none 0 0, .slice none 0 0], 1, false⟩;have g := g.more_row (Ext.refl _) (OwnO.nil encU _ 1) (fun b hb => by cases hb);have g := g.more_row (Ext.refl _) (OwnO.nil encEn _ 4) (fun b hb => by cases hb);have g := g.push ⟨[ptrV (H.n + 1), vR, vE, .int .i64 w], 1, false⟩;exact ⟨[], _, none, _, none, [], rfl, by simpa using g, fun x hx => by cases hx⟩
 simp -implicitDefEqProofs (disch := omega) [hqa, qaR, qaE, stR, stE, ceR, ceE];refine Cp.bindM (all_loop k (X := [itBlk (H.n + 2) ⟨[ptrV (H.n + 1), vR, vE, .int .i64 w], 1, false⟩]) (by omega) hw sR sE (hb.rest hrv) (hb.rest hev) (by omega) (by omega) (by simp) hms) ?_;rintro ⟨rs, es⟩ ⟨x, e⟩ H' _ hx' ⟨⟨a, b, he⟩, hm⟩;injection he with e1 e2;subst e1 e2;simp only [state_Take_l1k_x0];exact .ok hx' hm.freeze
end Go.Sw
end
section
namespace Go.Sw
open Go.RowKit
theorem Class_run (k : Nat) (m : Mach) (hm : m.ok) (id : Int) (H : Heap) : R (T k) F.state_Machine_Class [machV m, .int .i64 id] H = .ok (.int .i64 (classS m id)) H := by
 rw [state_Machine_Class_R];refine nrm_gc (Pure.of ?_) (.int _ _);have hget := fun H => Get_run k m.tab hm.pts hm.rise id hm.plen H;unfold classS;by_cases h : id = 65535
 ·subst h;simp -implicitDefEqProofs (disch := omega) [state_Machine_Class]
 ·have h' : (id == 65535) = false := by simpa using h
  rw [if_neg h];cases hg : getS m.tab.2 id with
  | none =>
   rw [hg] at hget;simp -implicitDefEqProofs (disch := omega) [state_Machine_Class, h', hget]
  | some x =>
   rw [hg] at hget;dsimp only;by_cases hx : x < m.classes
   ·simp -implicitDefEqProofs (disch := omega) [state_Machine_Class, h', hget, hx]
   ·simp -implicitDefEqProofs (disch := omega) [state_Machine_Class, h', hget, hx]
def encEA (o : Option En) : Value := .agg (encEn (o.getD ⟨0, 0, 0, 0⟩)).toArray
theorem encEA_flat (o : Option En) : Flat (encEA o) := Flat.ofEn _
theorem stepS_some {m : Mach} (hm : m.ok) {s c : Int} (h : 0 ≤ s ∧ s < m.rows.length ∧ 0 ≤ c ∧ c < m.classes) :
  ∃ r x e, m.rows[s.toNat]? = some r ∧ r[c.toNat]? = some x ∧ 0 ≤ x ∧ m.ents[x.toNat]? = some e ∧ stepS m s c = some e := by
 obtain ⟨r, hr⟩ : ∃ r, m.rows[s.toNat]? = some r := ⟨_, List.getElem?_eq_getElem (by omega)⟩
 have hrm := hm.row r (List.mem_of_getElem? hr);obtain ⟨x, hx⟩ : ∃ x, r[c.toNat]? = some x := ⟨_, List.getElem?_eq_getElem (by omega)⟩
 have hxm := hrm.2 x (List.mem_of_getElem? hx);obtain ⟨e, he⟩ : ∃ e, m.ents[x.toNat]? = some e := ⟨_, List.getElem?_eq_getElem (by omega)⟩
 refine ⟨r, x, e, hr, hx, hxm.1, he, ?_⟩;unfold stepS;rw [if_pos h, hr, Option.bind_some, hx, Option.bind_some, he]
theorem Step_run (k : Nat) (m : Mach) (hm : m.ok) (s c : Int) (H : Heap) : R (T k) F.state_Machine_Step [machV m, .int .i64 s, .int .i64 c] H = .ok (.tuple #[encEA (stepS m s c), .bool (stepS m s c).isSome]) H := by
 rw [state_Machine_Step_R];have fl : Flat (.tuple #[encEA (stepS m s c), .bool (stepS m s c).isSome]) := .tupleL (.cons (encEA_flat _) (.cons (.bool _) .nil));have no : ¬ (0 ≤ s ∧ s < m.rows.length ∧ 0 ≤ c ∧ c < m.classes) → stepS m s c = none := fun h => by unfold stepS; rw [if_neg h]
 have hx : Ext H (H.push ⟨[.int .i64 0, .int .i64 0, .int .i64 0, .int .i64 0], 1, false⟩) := (Ext.refl H).push _;by_cases h1 : s < 0
 ·rw [no (by omega)] at fl ⊢;refine nrm_gc ⟨_, ?_, hx⟩ fl.alive;simp -implicitDefEqProofs (disch := omega) [state_Machine_Step, h1, encEA]
 by_cases h2 : s ≥ m.rows.length
 ·rw [no (by omega)] at fl ⊢;refine nrm_gc ⟨_, ?_, hx⟩ fl.alive;simp -implicitDefEqProofs (disch := omega) [state_Machine_Step, h1, h2, encEA]
 by_cases h3 : c < 0
 ·rw [no (by omega)] at fl ⊢;refine nrm_gc ⟨_, ?_, hx⟩ fl.alive;simp -implicitDefEqProofs (disch := omega) [state_Machine_Step, h1, h2, h3, encEA]
 by_cases h4 : c ≥ m.classes
 ·rw [no (by omega)] at fl ⊢;refine nrm_gc ⟨_, ?_, hx⟩ fl.alive;simp -implicitDefEqProofs (disch := omega) [state_Machine_Step, h1, h2, h3, h4, encEA]
 obtain ⟨r, x, e, hr, hxx, hx0, he, hs⟩ := stepS_some hm (s := s) (c := c) (by omega);rw [hs] at fl ⊢;have i1 := fun H' => ixS_lv encRow_len m.rows .i64 s r (by omega) hr H';have i2 := fun H' => ixS_lv encI_len r .i64 c x (by omega) hxx H';have i3 := fun H' => ixS_lv encEn_len m.ents .i64 x e hx0 he H';refine nrm_gc ⟨H.push ⟨encEn e, 1, false⟩, ?_, (Ext.refl H).push _⟩ fl.alive;simp -implicitDefEqProofs (disch := omega) [state_Machine_Step, h1, h2, h3, h4, i1, i2, i3, encEA]
theorem Entries_run (k : Nat) (hk : k < 1000000) (m : Mach) (hl : m.ents.length ≤ 65536) (H : Heap) : R (T k) F.state_Machine_Entries [machV m] H = .ok (lv encEn m.ents) H := by
 have ho : own k = .fz := by unfold own; rw [show Nat.blt k 1000000 = true from Nat.ble_eq_true_of_le hk]; rfl
 rw [state_Machine_Entries_R, ho];have g := (Star.nil H).more_row (Ext.refl _) (OwnO.bare encEn _ 4) (fun b hb => by cases hb);obtain ⟨s, o, H1, e1, g⟩ := g.append (bytes := 32) 0 encEn_len rfl (b := lv encEn m.ents) (l2 := m.ents) rfl (lv_first encEn_len m.ents H) (by simp; omega) (by decide);simp only [List.nil_append, List.set_cons_zero] at g;obtain ⟨L, hf⟩ := (g.own 0 rfl).freeze encEn_len (encEn_still _) 6;refine nrm_fz (v := s) (H' := H1) ?_ hf g.ext (Flat.Ens _).alive;simp -implicitDefEqProofs (disch := omega) [state_Machine_Entries, e1]
end Go.Sw
end
section
set_option maxRecDepth 100000
set_option linter.unusedVariables false
namespace Go.Sw
noncomputable section
def place_New_l1 (k : Nat) (call : Caller) : Env → Heap → Res (AExit × Env) := loopB (C k) call F.place_New [1, 1, 0, 1, 0, 0]
def place_New_l1k (k : Nat) (call : Caller) : Kont Value := kBlock 0 (kSeq (pieceK (C k) call F.place_New [1, 1, 1]) (kDone Prog (resOf Prog F.place_New)))
def place_New (k : Nat) (call : Caller) (a0 a1 : Value) (h : Heap) : Res Value :=
 (binR Prog .eql 3 a0 (.int .i64 2) h).bind fun v1 h2 =>
 (buildR Prog 204 [(0, v1)] h2).bind fun v3 h4 =>
 (boxR v3 h4).bind fun v5 h6 =>
 (builtinV Prog .len [23] [a1] h6).bind fun v7 h8 =>
 (loopN (place_New_l1 k call) loopFuel [(5, v5), (12, a1), (13, v7), (14, (.int .i64 0))] h8).bind fun r9 h10 =>
 place_New_l1k k call r9.1 r9.2 h10
theorem place_New_R (k : Nat) (a0 a1 : Value) (h : Heap) : R (T k) F.place_New [a0, a1] h = nrm .no h (place_New k (R (T k)) a0 a1 h) :=
 (R_body (t := T k) (T_scott k) (by kernel_rfl) (by kernel_rfl) _ _).trans (by kernel_rfl)
theorem place_New_l1_eq (k : Nat) (call : Caller) (a5 a12 a13 a14 : Value) (h : Heap) : place_New_l1 k call [(5, a5), (12, a12), (13, a13), (14, a14)] h =
 (binR Prog .lss 3 a14 a13 h).bind fun v11 h12 =>
 condV (some v11) (
 (indexAddrR Prog 23 a12 a14 h12).bind fun v13 h14 =>
 (loadR Prog 3 v13 h14).bind fun v15 h16 =>
 (nilR a5 h16).bindN fun v17 h18 =>
 (fieldAddrR Prog 204 v17 1 h18).bindN fun v19 h20 =>
 (loadR Prog 98 v19 h20).bindN fun v21 h22 =>
 (call F.place_Clamp [v15] h22).bindT (fun p25 h26 => .panic p25 h26) fun v23 h24 =>
 (buildR Prog 137 [(0, v23)] h24).bindN fun v27 h28 =>
 (buildSliceR Prog 98 1 [(0, v27)] h28).bindN fun v29 h30 =>
 (builtinV Prog .append [98, 98] [v21, v29] h30).bindN fun v31 h32 =>
 (nilR a5 h32).bindN fun v33 h34 =>
 (fieldAddrR Prog 204 v33 1 h34).bindN fun v35 h36 =>
 (storeR Prog 98 v35 v31 h36).bindN fun _v37 h38 =>
 chkR ((okVal (loadR Prog 98 v19 h24) v21 && (okVal (loadR Prog 98 v19 h30) v21 && true)) && true) (
 (binR Prog .add 3 a14 (.int .i64 1) h38).bind fun v39 h40 =>
 .ok (.normal, [(5, a5), (12, a12), (13, a13), (14, v39)]) h40))
 (
 .ok ((.exit 0), [(5, a5), (12, a12), (13, a13), (14, a14), (15, v11)]) h12) :=
 (loopB_eq _ _).trans (by kernel_rfl)
theorem place_New_l1k_x0 (k : Nat) (call : Caller) (a5 a12 a13 a14 a15 : Value) (h : Heap) : place_New_l1k k call (.exit 0) [(5, a5), (12, a12), (13, a13), (14, a14), (15, a15)] h =
 .ok a5 h := by kernel_rfl
def place_Places_All (k : Nat) (call : Caller) (a0 : Value) (h : Heap) : Res Value :=
 (nilR a0 h).bind fun v1 h2 =>
 (fieldAddrR Prog 204 v1 1 h2).bind fun v3 h4 =>
 (loadR Prog 98 v3 h4).bind fun v5 h6 =>
 (call F.slices_Clone_of_api_Place_api_Place [v5] h6).bind fun v7 h8 =>
 .ok v7 h8
theorem place_Places_All_R (k : Nat) (a0 : Value) (h : Heap) : R (T k) F.place_Places_All [a0] h = nrm (own k) h (place_Places_All k (R (T k)) a0 h) :=
 (R_body (t := T k) (T_scott k) (by kernel_rfl) (by kernel_rfl) _ _).trans (by kernel_rfl)
def place_Clamp (k : Nat) (call : Caller) (a0 : Value) (h : Heap) : Res Value :=
 (builtinV Prog .max [3, 3] [a0, (.int .i64 (-2147483648))] h).bind fun v1 h2 =>
 (builtinV Prog .min [3, 3] [v1, (.int .i64 2147483647)] h2).bind fun v3 h4 =>
 (convR Prog 3 21 v3 h4).bind fun v5 h6 =>
 .ok v5 h6
theorem place_Clamp_R (k : Nat) (a0 : Value) (h : Heap) : R (T k) F.place_Clamp [a0] h = nrm .gc h (place_Clamp k (R (T k)) a0 h) :=
 (R_body (t := T k) (T_scott k) (by kernel_rfl) (by kernel_rfl) _ _).trans (by kernel_rfl)
def place_Places_Shift (k : Nat) (call : Caller) (a0 a1 a2 a3 : Value) (h : Heap) : Res Value :=
 (call F.place_Places_at [a0, a1] h).bind fun v1 h2 =>
 (nilR v1 h2).bindN fun v3 h4 =>
 (fieldAddrR Prog 137 v3 1 h4).bindN fun v5 h6 =>
 (loadR Prog 21 v5 h6).bindN fun v7 h8 =>
 (call F.place_Add [v7, a2] h8).bindT (fun p11 h12 => (nilR v1 h8).bindN fun v13 h14 => (fieldAddrR Prog 137 v13 2 h14).bindN fun v15 h16 => (loadR Prog 21 v15 h16).bindN fun v17 h18 => chkR ((okVal (loadR Prog 21 v15 h2) v17 && true) && true) (.panic p11 h12)) fun v9 h10 =>
 (nilR v1 h10).bindN fun v19 h20 =>
 (fieldAddrR Prog 137 v19 2 h20).bindN fun v21 h22 =>
 (loadR Prog 21 v21 h22).bindN fun v23 h24 =>
 (call F.place_Add [v23, a3] h24).bindT (fun p27 h28 => chkR ((okVal (loadR Prog 21 v21 h2) v23 && true) && true) (.panic p27 h28)) fun v25 h26 =>
 (nilR v1 h26).bindN fun v29 h30 =>
 (fieldAddrR Prog 137 v29 1 h30).bindN fun v31 h32 =>
 (storeR Prog 21 v31 v9 h32).bindN fun _v33 h34 =>
 (nilR v1 h34).bindN fun v35 h36 =>
 (fieldAddrR Prog 137 v35 2 h36).bindN fun v37 h38 =>
 (storeR Prog 21 v37 v25 h38).bindN fun _v39 h40 =>
 chkR ((okVal (loadR Prog 21 v21 h2) v23 && true) && true) (
 .ok (.tuple #[]) h40)
theorem place_Places_Shift_R (k : Nat) (a0 a1 a2 a3 : Value) (h : Heap) : R (T k) F.place_Places_Shift [a0, a1, a2, a3] h = nrm .no h (place_Places_Shift k (R (T k)) a0 a1 a2 a3 h) :=
 (R_body (t := T k) (T_scott k) (by kernel_rfl) (by kernel_rfl) _ _).trans (by kernel_rfl)
def place_Places_at (k : Nat) (call : Caller) (a0 a1 : Value) (h : Heap) : Res Value :=
 (binR Prog .lss 3 a1 (.int .i64 0) h).bind fun v1 h2 =>
 ((bif wantVal v1 false then Res.ok a1 h2 else Res.ok undef h2)).bind fun v3 h4 =>
 ((bif wantVal v1 false then Res.ok a0 h4 else Res.ok undef h4)).bind fun v5 h6 =>
 ((bif wantVal v1 false then nilR v5 h6 else Res.ok undef h6)).bind fun v7 h8 =>
 ((bif wantVal v1 false then fieldAddrR Prog 204 v7 1 h8 else Res.ok undef h8)).bind fun v9 h10 =>
 ((bif wantVal v1 false then loadR Prog 98 v9 h10 else Res.ok undef h10)).bind fun v11 h12 =>
 ((bif wantVal v1 false then builtinV Prog .len [98] [v11] h12 else Res.ok undef h12)).bind fun v13 h14 =>
 ((bif wantVal v1 false then binR Prog .geq 3 v3 v13 h14 else Res.ok undef h14)).bind fun v15 h16 =>
 (condV (some v1) (Res.ok (.bool true) h16) (Res.ok v15 h16)).bind fun v17 h18 =>
 condV (some v17) (
 (allocR Prog 137 h18).bind fun v19 h20 =>
 .ok v19 h20)
 (
 (nilR a0 h18).bind fun v21 h22 =>
 (fieldAddrR Prog 204 v21 1 h22).bind fun v23 h24 =>
 (loadR Prog 98 v23 h24).bind fun v25 h26 =>
 (indexAddrR Prog 98 v25 a1 h26).bind fun v27 h28 =>
 .ok v27 h28)
theorem place_Places_at_R (k : Nat) (a0 a1 : Value) (h : Heap) : R (T k) F.place_Places_at [a0, a1] h = nrm .no h (place_Places_at k (R (T k)) a0 a1 h) :=
 (R_body (t := T k) (T_scott k) (by kernel_rfl) (by kernel_rfl) _ _).trans (by kernel_rfl)
def place_Add (k : Nat) (call : Caller) (a0 a1 : Value) (h : Heap) : Res Value :=
 (convR Prog 21 3 a0 h).bind fun v1 h2 =>
 (call F.place_Clamp [a1] h2).bind fun v3 h4 =>
 (convR Prog 21 3 v3 h4).bind fun v5 h6 =>
 (binR Prog .add 3 v1 v5 h6).bind fun v7 h8 =>
 (call F.place_Clamp [v7] h8).bind fun v9 h10 =>
 .ok v9 h10
theorem place_Add_R (k : Nat) (a0 a1 : Value) (h : Heap) : R (T k) F.place_Add [a0, a1] h = nrm .gc h (place_Add k (R (T k)) a0 a1 h) :=
 (R_body (t := T k) (T_scott k) (by kernel_rfl) (by kernel_rfl) _ _).trans (by kernel_rfl)
end
end Go.Sw
end
section
set_option maxRecDepth 100000
set_option linter.unusedVariables false
namespace Go.Sw
noncomputable section
def swashref21_Same_l1 (k : Nat) (call : Caller) : Env → Heap → Res (AExit × Env) := loopB (C k) call F.swashref21_Same [1, 1, 0, 1, 0, 0]
def swashref21_Same_l1k (k : Nat) (call : Caller) : Kont Value := kBlock 0 (kSeq (pieceK (C k) call F.swashref21_Same [1, 1, 1]) (kDone Prog (resOf Prog F.swashref21_Same)))
def swashref21_Same (k : Nat) (call : Caller) (a0 a1 : Value) (h : Heap) : Res Value :=
 (builtinV Prog .len [98] [a0] h).bind fun v1 h2 =>
 (builtinV Prog .len [98] [a1] h2).bind fun v3 h4 =>
 (binR Prog .neq 3 v1 v3 h4).bind fun v5 h6 =>
 condV (some v5) (
 .ok (.bool false) h6)
 (
 (loopN (swashref21_Same_l1 k call) loopFuel [(0, a0), (1, a1), (5, (.int .i64 0))] h6).bind fun r7 h8 =>
 swashref21_Same_l1k k call r7.1 r7.2 h8)
theorem swashref21_Same_R (k : Nat) (a0 a1 : Value) (h : Heap) : R (T k) F.swashref21_Same [a0, a1] h = nrm .gc h (swashref21_Same k (R (T k)) a0 a1 h) :=
 (R_body (t := T k) (T_scott k) (by kernel_rfl) (by kernel_rfl) _ _).trans (by kernel_rfl)
theorem swashref21_Same_l1_eq (k : Nat) (call : Caller) (a0 a1 a5 : Value) (h : Heap) : swashref21_Same_l1 k call [(0, a0), (1, a1), (5, a5)] h =
 (builtinV Prog .len [98] [a0] h).bind fun v9 h10 =>
 (binR Prog .lss 3 a5 v9 h10).bind fun v11 h12 =>
 condV (some v11) (
 (indexAddrR Prog 98 a0 a5 h12).bindN fun v13 h14 =>
 (loadR Prog 137 v13 h14).bindN fun v15 h16 =>
 (indexAddrR Prog 98 a1 a5 h16).bindN fun v17 h18 =>
 (loadR Prog 137 v17 h18).bindN fun v19 h20 =>
 (binR Prog .neq 137 v15 v19 h20).bindN fun v21 h22 =>
 condV (some v21) (
 .ok (.ret, [(4, (.bool false))]) h22)
 (
 (binR Prog .add 3 a5 (.int .i64 1) h22).bind fun v23 h24 =>
 .ok (.normal, [(0, a0), (1, a1), (5, v23)]) h24))
 (
 .ok ((.exit 0), [(0, a0), (1, a1), (5, a5), (14, v11)]) h12) :=
 (loopB_eq _ _).trans (by kernel_rfl)
theorem swashref21_Same_l1k_r (k : Nat) (call : Caller) (a4 : Value) (h : Heap) : swashref21_Same_l1k k call .ret [(4, a4)] h =
 .ok a4 h := by kernel_rfl
theorem swashref21_Same_l1k_x0 (k : Nat) (call : Caller) (a0 a1 a5 a14 : Value) (h : Heap) : swashref21_Same_l1k k call (.exit 0) [(0, a0), (1, a1), (5, a5), (14, a14)] h =
 .ok (.bool true) h := by kernel_rfl
end
end Go.Sw
end
section
namespace Go.Sw
def clampI (n : Int) : Int := if n > 2147483647 then 2147483647 else if n < -2147483648 then -2147483648 else n
theorem clampI_lo (n : Int) : -2147483648 ≤ clampI n := by unfold clampI; omega
theorem clampI_hi (n : Int) : clampI n ≤ 2147483647 := by unfold clampI; omega
@[simp] theorem Clamp_run (k : Nat) (x : Int) (H : Heap) : R (T k) F.place_Clamp [.int .i64 x] H = .ok (.int .i32 (clampI x)) H := by
 rw [place_Clamp_R];refine nrm_gc (Pure.of ?_) (.int _ _);simp only [place_Clamp, max_int, min_int, Res.bind_ok, cv_3_21, cvK_int];congr 2;unfold clampI;rw [wrap_i32] <;> omega
def addI (a n : Int) : Int := clampI (a + clampI n)
theorem addI_lo (a n : Int) : -2147483648 ≤ addI a n := clampI_lo _
theorem addI_hi (a n : Int) : addI a n ≤ 2147483647 := clampI_hi _
theorem Add_run (k : Nat) (a x : Int) (h1 : -2147483648 ≤ a) (h2 : a ≤ 2147483647) (H : Heap) : R (T k) F.place_Add [.int .i32 a, .int .i64 x] H = .ok (.int .i32 (addI a x)) H := by
 have := clampI_lo x;have := clampI_hi x;rw [place_Add_R];refine nrm_gc (Pure.of ?_) (.int _ _);simp (disch := omega) [place_Add, addI]
structure Pl where
 adv : Int
 x : Int
 y : Int
 deriving DecidableEq
def Pl.ok (p : Pl) : Prop := (-2147483648 ≤ p.adv ∧ p.adv ≤ 2147483647) ∧ (-2147483648 ≤ p.x ∧ p.x ≤ 2147483647) ∧ (-2147483648 ≤ p.y ∧ p.y ≤ 2147483647)
abbrev encP (p : Pl) : List Value := [.int .i32 p.adv, .int .i32 p.x, .int .i32 p.y]
theorem encP_len (p : Pl) : (encP p).length = 3 := rfl
theorem encP_still (l : List Pl) : ∀ p, p ∈ l → ∀ v, v ∈ encP p → Still v := by
 intro p _ v hv;simp [encP] at hv;rcases hv with rfl | rfl | rfl <;> trivial
theorem encP_flat (l : List Pl) : ∀ p, p ∈ l → Flats (encP p) := fun p _ => .cons (.int _ _) (.cons (.int _ _) (.cons (.int _ _) .nil))
end Go.Sw
end
section
namespace Go.Sw
def newPl (l : List Int) : List Pl := l.map fun n => ⟨clampI n, 0, 0⟩
theorem Pl.eqb (p q : Pl) : ([p.adv, p.x, p.y] == [q.adv, q.x, q.y]) = decide (p = q) := by
 obtain ⟨a, b, c⟩ := p;obtain ⟨d, e, f⟩ := q;by_cases h : a = d <;> by_cases h1 : b = e <;> by_cases h2 : c = f <;> simp [h, h1, h2]
theorem refSame_rd (k : Nat) {H : Heap} {sa sb : Value} {a b : List Pl} (ra : Rd H 3 sa encP a) (rb : Rd H 3 sb encP b) (ha : a.length ≤ 2 ^ 31) : R (T k) F.swashref21_Same [sa, sb] H = .ok (.bool (decide (a = b))) H := by
 rw [swashref21_Same_R];refine nrm_gc (Pure.of ?_) (.bool _);by_cases hl : a.length = b.length
 ·obtain ⟨x, e', H1, hr, rfl, hq⟩ := loop_up (body := swashref21_Same_l1 k (R (T k))) a.length
   (fun i e H' => e = [(0, sa), (1, sb), (5, .int .i64 i)] ∧ H' = H ∧ a.take i = b.take i)
   (fun x e H' => H' = H ∧ ((x = .ret ∧ e = [(4, .bool false)] ∧ a ≠ b) ∨ ∃ v, x = .exit 0 ∧ e = [(0, sa), (1, sb), (5, .int .i64 a.length), (14, v)] ∧ a = b))
   (e0 := [(0, sa), (1, sb), (5, .int .i64 0)]) (H0 := H) ⟨rfl, rfl, by simp⟩ (by omega)
   (fun i e H' hi ⟨he, hH, ht⟩ => by
    subst he hH;obtain ⟨p, hp⟩ : ∃ p, a[i]? = some p := ⟨a[i], List.getElem?_eq_getElem hi⟩
    obtain ⟨q, hq⟩ : ∃ q, b[i]? = some q := ⟨b[i], List.getElem?_eq_getElem (by omega)⟩
    have hlt : (i : Int) < a.length := by omega
    obtain ⟨pa, x1, y1⟩ := ra.2 i p hp;obtain ⟨pb, x2, y2⟩ := rb.2 i q hq;have x1 := x1 .i64;have x2 := x2 .i64;rw [swashref21_Same_l1_eq];by_cases hpq : p = q
    ·subst hpq;exact .inl ⟨_, H', by simp -implicitDefEqProofs (disch := omega) [hlt, ra.1, x1, x2, y1, y2], rfl, rfl, by rw [List.take_add_one, List.take_add_one, ht, hp, hq]⟩
    ·refine .inr ⟨.ret, _, H', by simp -implicitDefEqProofs (disch := omega) [hlt, ra.1, x1, x2, y1, y2, Pl.eqb, hpq, -List.cons_beq_cons, -List.cons.injEq], by simp, rfl, .inl ⟨rfl, rfl, ?_⟩⟩;intro hab;subst hab;rw [hp] at hq;exact hpq (Option.some.inj hq))
   (fun e H' ⟨he, hH, ht⟩ => by
    subst he hH;rw [swashref21_Same_l1_eq];refine ⟨.exit 0, _, H', by simp [ra.1]; rfl, by simp, rfl, .inr ⟨_, rfl, rfl, ?_⟩⟩;rw [List.take_length, hl, List.take_length] at ht;exact ht)
  have hbeq : ((a.length : Int) != (b.length : Int)) = false := by simp [hl]
  rcases hq with ⟨rfl, rfl, hne⟩ | ⟨v, rfl, rfl, heq⟩
  ·simp -implicitDefEqProofs [swashref21_Same, ra.1, rb.1, hbeq, hr, swashref21_Same_l1k_r, hne]
  ·subst heq; simp -implicitDefEqProofs [swashref21_Same, ra.1, rb.1, hr, swashref21_Same_l1k_x0]
 ·have hne : ¬ a = b := fun h => hl (by rw [h]);have : ((a.length : Int) != (b.length : Int)) = true := by simp; omega
  simp -implicitDefEqProofs [swashref21_Same, ra.1, rb.1, this, hne]
theorem refSame_run (k : Nat) (a b : List Pl) (ha : a.length ≤ 2 ^ 31) (H : Heap) : R (T k) F.swashref21_Same [lv encP a, lv encP b] H = .ok (.bool (decide (a = b))) H :=
 refSame_rd k (.lv encP_len H a) (.lv encP_len H b) ha
def updPl (l : List Pl) (i : Int) (f : Pl → Pl) : List Pl := if 0 ≤ i then l.modify i.toNat f else l
end Go.Sw
end
section
namespace Go.Sw
def PlAt (H : Heap) (p : Nat) (o : Option Nat) (down : Bool) (l : List Pl) : Prop :=
 (∀ b, o = some b → b ≠ p) ∧ ∃ s, H.get p = some ⟨[.bool down, s], 1, false⟩ ∧ OwnO H o 3 s encP l
theorem PlAt.up {H H' : Heap} {p : Nat} {o : Option Nat} {down : Bool} {l : List Pl} (h : PlAt H p o down l) (hp : H'.get p = H.get p) (ho : ∀ b, o = some b → H'.get b = H.get b) : PlAt H' p o down l := by
 obtain ⟨h1, s, h2, h3⟩ := h;exact ⟨h1, s, by rw [hp]; exact h2, h3.up ho⟩
theorem PlAt.lt {H : Heap} {p : Nat} {o : Option Nat} {down : Bool} {l : List Pl} (h : PlAt H p o down l) : p < H.n := by
 obtain ⟨_, s, h2, _⟩ := h;exact Heap.get_lt h2
theorem PlAt.lto {H : Heap} {p : Nat} {o : Option Nat} {down : Bool} {l : List Pl} (h : PlAt H p o down l) : ∀ b, o = some b → b < H.n := by
 obtain ⟨_, s, _, h3⟩ := h;intro b hb;rcases h3 with ⟨h4, _⟩ | ⟨c, h4, _, h5⟩
 ·rw [h4] at hb; cases hb
 ·rw [h4] at hb; injection hb with hb; subst hb; exact Heap.get_lt h5
theorem PlAt.ext {H H' : Heap} {p : Nat} {o : Option Nat} {down : Bool} {l : List Pl} (h : PlAt H p o down l) (hx : Ext H H') : PlAt H' p o down l :=
 h.up (hx.2 p h.lt (by simp)) fun b hb => hx.2 b (h.lto b hb) (by simp)
def fpP (p : Nat) (o : Option Nat) : List Nat := p :: o.toList
theorem plAt_run (k : Nat) {H : Heap} {p : Nat} {o : Option Nat} {down : Bool} {l : List Pl} (h : PlAt H p o down l) (hok : ∀ q, q ∈ l → q.ok) (i : Int) :
  ∃ H1 b j l' q e, R (T k) F.place_Places_at [.pointer (some ⟨p, 0, none⟩), .int .i64 i] H = .ok (.pointer (some ⟨b, j * 3, none⟩)) H1 ∧ b ≠ p ∧ H1.get b = some ⟨rows encP l', e, false⟩ ∧ l'[j]? = some q ∧ q.ok ∧ H1.get p = H.get p ∧
   ∀ (H2 : Heap) (f : Pl → Pl), H2.get b = some ⟨rows encP (l'.set j (f q)), e, false⟩ → (∀ c, c ≠ b → H2.get c = H1.get c) → H2.n = H1.n → PlAt H2 p o down (updPl l i f) ∧ Keeps (fpP p o) H H2 := by
 have hh := h;have hlt := h.lt;have hlto := h.lto;obtain ⟨hne, s, h2, h3⟩ := h;rw [place_Places_at_R];by_cases hi : 0 ≤ i ∧ i < l.length
 ·obtain ⟨n, rfl⟩ : ∃ n : Nat, i = n := ⟨i.toNat, by omega⟩
  have hn : n < l.length := by omega
  obtain ⟨q, hq⟩ : ∃ q, l[n]? = some q := ⟨l[n], List.getElem?_eq_getElem hn⟩
  obtain ⟨b, rfl, rfl, hb, hix⟩ := h3.ix .i64 n hn;have h0 : ¬ (n : Int) < 0 := by omega
  have h1 : ¬ (l.length : Int) ≤ n := by omega
  refine ⟨H, b, n, l, q, 3, by simp -implicitDefEqProofs [place_Places_at, h2, h0, h1, hix], hne b rfl, hb, hq, hok q (List.mem_of_getElem? hq), rfl, fun H2 f g1 g2 g3 => ⟨⟨hne, _, by rw [g2 p (fun e => hne b rfl e.symm)]; exact h2, ?_⟩, by rw [g3]; exact Nat.le_refl _, fun c hc hs => g2 c fun e => hs (by simp [fpP, e])⟩⟩;have : updPl l n f = l.set n (f q) := by
   unfold updPl;rw [if_pos (by omega), Int.toNat_natCast, modify_set _ l n q hq]
  rw [this];exact .inr ⟨b, rfl, by simp, g1⟩
 ·refine ⟨H.push ⟨[.int .i32 0, .int .i32 0, .int .i32 0], 1, false⟩, H.n, 0, [⟨0, 0, 0⟩], ⟨0, 0, 0⟩, 1, ?_, by omega, by rw [Heap.get_push, if_pos rfl]; rfl, rfl, by unfold Pl.ok; simp, get_push_lt _ _ _ hlt, fun H2 f g1 g2 g3 => ?_⟩
  ·by_cases h0 : i < 0
   ·simp -implicitDefEqProofs [place_Places_at, h0]
   ·have h1 : (l.length : Int) ≤ i := by omega
    simp -implicitDefEqProofs [place_Places_at, h0, h2, h3.len, h1]
  ·have : updPl l i f = l := by
    unfold updPl;split
    ·exact modify_none _ _ _ (by omega)
    ·rfl
   rw [this];have hx : Ext H H2 := ⟨by rw [g3]; simp, fun c hc hs => by rw [g2 c (by omega)]; exact get_push_lt _ _ _ hc⟩
   exact ⟨hh.ext hx, hx.1, fun c hc _ => hx.2 c hc (by simp)⟩
end Go.Sw
end
section
namespace Go.Sw
theorem cloneP_R (k : Nat) (a : Value) (H : Heap) : R (T k) F.slices_Clone_of_api_Place_api_Place [a] H = nrm .no H (cloneV 3 12 [a] H) :=
 R_sp (t := T k) (T_scott k) (s := fun _ args H => cloneV 3 12 args H) (by kernel_rfl) _ _
theorem Shift_run (k : Nat) {H : Heap} {p : Nat} {o : Option Nat} {down : Bool} {l : List Pl} (h : PlAt H p o down l) (hok : ∀ q, q ∈ l → q.ok) (i x y : Int) :
  ∃ H2, R (T k) F.place_Places_Shift [.pointer (some ⟨p, 0, none⟩), .int .i64 i, .int .i64 x, .int .i64 y] H = .ok (.tuple #[]) H2 ∧ PlAt H2 p o down (updPl l i fun q => ⟨q.adv, addI q.x x, addI q.y y⟩) ∧ Keeps (fpP p o) H H2 := by
 obtain ⟨H1, b, j, l', q, e, a1, _, a2, a3, a4, _, a5⟩ := plAt_run k h hok i;have hj := (List.getElem?_eq_some_iff.1 a3).1;have r1 := ld1_row encP_len a2 (c := 1) a3 (by decide) rfl;have r2 := ld1_row encP_len a2 (c := 2) a3 (by decide) rfl;obtain ⟨H2, s1, g1, k1, n1⟩ := st_row encP_len a2 (c := 1) (n := 1) ⟨q.adv, addI q.x x, q.y⟩ (v := .int .i32 (addI q.x x)) a3 rfl rfl (by decide) rfl;have hq2 : (l'.set j ⟨q.adv, addI q.x x, q.y⟩)[j]? = some ⟨q.adv, addI q.x x, q.y⟩ := by rw [List.getElem?_set_self hj]
 obtain ⟨H3, s2, g2, k2, n2⟩ := st_row encP_len g1 (c := 2) (n := 1) ⟨q.adv, addI q.x x, addI q.y y⟩ (v := .int .i32 (addI q.y y)) hq2 rfl rfl (by decide) rfl;rw [List.set_set] at g2;obtain ⟨b1, b2⟩ := a5 H3 (fun q => ⟨q.adv, addI q.x x, addI q.y y⟩) g2 (fun c hc => by rw [k2 c hc, k1 c hc]) (by rw [n2, n1]);refine ⟨H3, ?_, b1, b2⟩;rw [place_Places_Shift_R];simp -implicitDefEqProofs [-ld1_ptr, -stR_ptr, place_Places_Shift, a1, r1, r2, s1, s2, Add_run _ _ _ a4.2.1.1 a4.2.1.2, Add_run _ _ _ a4.2.2.1 a4.2.2.2]
theorem All_run (k : Nat) (hk : k < 1000000) {H : Heap} {p : Nat} {o : Option Nat} {down : Bool} {l : List Pl} (h : PlAt H p o down l) (hl : l.length ≤ 2 ^ 20) : R (T k) F.place_Places_All [.pointer (some ⟨p, 0, none⟩)] H = .ok (lv encP l) H := by
 obtain ⟨_, s, h2, h3⟩ := h;obtain ⟨s', H', e1, o1, x1⟩ := clone_own (bytes := 12) encP_len h3 (by omega) (by decide);have ho : own k = .fz := by unfold own; rw [show Nat.blt k 1000000 = true from Nat.ble_eq_true_of_le hk]; rfl
 rw [place_Places_All_R, ho];obtain ⟨L, hf⟩ := o1.freeze encP_len (encP_still _) 6;refine nrm_fz (v := s') (H' := H') ?_ hf x1 (Flat.alive (Flat.lv (encP_flat _)));simp -implicitDefEqProofs [place_Places_All, h2, cloneP_R, e1]
theorem New_runG (k : Nat) (dir : Int) (l : List Int) (hl : l.length ≤ 2 ^ 20) (H : Heap) {av : Value} (hv : Sl H 1 av encI l) :
  ∃ H' o, R (T k) F.place_New [.int .i64 dir, av] H = .ok (.pointer (some ⟨H.n, 0, none⟩)) H' ∧ PlAt H' H.n o (dir == 2) (newPl l) ∧ (∀ b, o = some b → H.n < b) ∧ Ext H H' := by
 rw [place_New_R]
 obtain ⟨x, e', H1, hr, v, rfl, rfl, o, ho, hf, hx⟩ := loop_up (body := place_New_l1 k (R (T k))) l.length
  (fun i e H' => e = [(5, .pointer (some ⟨H.n, 0, none⟩)), (12, av), (13, .int .i64 l.length), (14, .int .i64 i)] ∧ ∃ o, PlAt H' H.n o (dir == 2) (newPl (l.take i)) ∧ (∀ b, o = some b → H.n < b) ∧ Ext H H')
  (fun x e H' => ∃ v, x = .exit 0 ∧ e = [(5, .pointer (some ⟨H.n, 0, none⟩)), (12, av), (13, .int .i64 l.length), (14, .int .i64 l.length), (15, v)] ∧ ∃ o, PlAt H' H.n o (dir == 2) (newPl l) ∧ (∀ b, o = some b → H.n < b) ∧ Ext H H')
  (e0 := [(5, .pointer (some ⟨H.n, 0, none⟩)), (12, av), (13, .int .i64 l.length), (14, .int .i64 0)]) (H0 := H.push ⟨[.bool (dir == 2), .slice none 0 0], 1, false⟩)
  ⟨rfl, none, ⟨(fun b hb => by cases hb), .slice none 0 0, by rw [Heap.get_push, if_pos rfl], .inl ⟨rfl, rfl, .inl rfl⟩⟩, (fun b hb => by cases hb), (Ext.refl H).push _⟩ (by omega)
  (fun i e H' hi ⟨he, o, ⟨hne, s, h2, h3⟩, hof, hx⟩ => by
   subst he;obtain ⟨n, hg⟩ : ∃ n, l[i]? = some n := ⟨l[i], List.getElem?_eq_getElem hi⟩
   have hlt : (i : Int) < l.length := by omega
   have hpn : H.n < H'.n := Heap.get_lt h2;have hlto : ∀ b, o = some b → b < H'.n := fun b hb => by
    rcases h3 with ⟨h4, _⟩ | ⟨c, h4, _, h5⟩
    ·rw [h4] at hb; cases hb
    ·rw [h4] at hb; injection hb with hb; subst hb; exact Heap.get_lt h5
   have hlen : (newPl (l.take i)).length < 2 ^ 31 := by simp [newPl]; omega
   obtain ⟨s', H2, e1, o1, n1, k1⟩ := ap1_ownO (bytes := 12) encP_len h3 hlto ⟨clampI n, 0, 0⟩ hlen (by decide);have k2 := k1 H.n hpn fun e => hne H.n e rfl;rw [h2] at k2;have hne2 : ¬ H.n = H'.n := by omega
   obtain ⟨pt, hix, hld⟩ := hv.ix1 encI_len i n hg _ rfl;have hld := hld H' hx;refine .inl ⟨_, H2.set H.n (some ⟨[.bool (dir == 2), s'], 1, false⟩), ?_, rfl, some (H'.n + 1), ⟨fun b hb => by injection hb; omega, s', by rw [Heap.get_set k2, if_pos rfl], ?_⟩, fun b hb => by injection hb; omega, ?_⟩
   ·rw [place_New_l1_eq];simp -implicitDefEqProofs (disch := omega) [hlt, hix, hld, h2, e1, k2, hne2, h3.veq, o1.storable, o1.cells]
   ·have := o1.up (H' := H2.set H.n (some ⟨[.bool (dir == 2), s'], 1, false⟩)) fun b hb => by
     injection hb with hb;exact get_set_ne _ _ _ _ (by omega)
    have e : newPl (l.take (i + 1)) = newPl (l.take i) ++ [⟨clampI n, 0, 0⟩] := by
     rw [List.take_add_one, hg]; simp [newPl]
    rw [e];exact this
   ·refine ⟨by rw [Heap.n_set, n1]; have := hx.n; omega, fun c hc hs => ?_⟩;rw [get_set_ne _ _ _ _ (by omega), k1 c (by omega) (fun e => by have := hof c e; omega)];exact hx.2 c hc hs)
  (fun e H' ⟨he, o, ho, hof, hx⟩ => by
   subst he;rw [place_New_l1_eq];exact ⟨.exit 0, _, H', by simp -implicitDefEqProofs <;> rfl, by simp, _, rfl, rfl, o, by simpa using ho, hof, hx⟩)
 have hln := fun H' => hv.len H';refine ⟨H1, o, ?_, ho, hf, hx⟩;simp -implicitDefEqProofs [place_New, hln, hr, place_New_l1k_x0]
end Go.Sw
end
section
namespace Go.Sw
open Go.RowKit
end Go.Sw
end
section
namespace Go.Sw
open Go.RowKit
theorem newPl_ok (l : List Int) : ∀ q, q ∈ newPl l → q.ok := by
 intro q hq;obtain ⟨n, _, rfl⟩ := List.mem_map.1 hq;have := clampI_lo n;have := clampI_hi n;unfold Pl.ok;dsimp only;omega
@[simp] theorem newPl_len (l : List Int) : (newPl l).length = l.length := by simp [newPl]
theorem addI_ok (a n : Int) : -2147483648 ≤ addI a n ∧ addI a n ≤ 2147483647 := ⟨addI_lo _ _, addI_hi _ _⟩
theorem updPl_ok {l : List Pl} (h : ∀ q, q ∈ l → q.ok) (i : Int) {f : Pl → Pl} (hf : ∀ q, q.ok → (f q).ok) : ∀ q, q ∈ updPl l i f → q.ok := by
 unfold updPl;split
 ·intro q hq;obtain ⟨j, hj⟩ := List.getElem?_of_mem hq;rw [List.getElem?_modify] at hj;cases hg : l[j]? with
  | none => rw [hg] at hj; simp at hj
  | some x =>
   have hx := h x (List.mem_of_getElem? hg);rw [hg] at hj;simp at hj;subst hj;split
   ·exact hf x hx
   ·exact hx
 ·exact h
@[simp] theorem updPl_len (l : List Pl) (i : Int) (f : Pl → Pl) : (updPl l i f).length = l.length := by
 unfold updPl;split <;> simp
end Go.Sw
end
section
set_option maxRecDepth 100000
set_option linter.unusedVariables false
namespace Go.Sw
noncomputable section
def drive_Run_l1 (k : Nat) (call : Caller) : Env → Heap → Res (AExit × Env) := loopB (C k) call F.drive_Run [1, 1, 1, 0, 0, 0]
def drive_Run_l1k (k : Nat) (call : Caller) : Kont Value := kBlock 0 (kSeq (pieceK (C k) call F.drive_Run [1, 1, 1, 1]) (kDone Prog (resOf Prog F.drive_Run)))
def drive_Run (k : Nat) (call : Caller) (a0 a1 a2 : Value) (h : Heap) : Res Value :=
 (buildR Prog 281 [(0, a0), (1, a1)] h).bind fun v1 h2 =>
 (boxR v1 h2).bind fun v3 h4 =>
 (call F.line_Line_Len [a1] h4).bind fun v5 h6 =>
 (binR Prog .mul 3 (.int .i64 2) v5 h6).bind fun v7 h8 =>
 (binR Prog .add 3 v7 (.int .i64 128) h8).bind fun v9 h10 =>
 (loopN (drive_Run_l1 k call) loopFuel [(2, a2), (8, v3), (9, v9)] h10).bind fun r11 h12 =>
 drive_Run_l1k k call r11.1 r11.2 h12
theorem drive_Run_R (k : Nat) (a0 a1 a2 : Value) (h : Heap) : R (T k) F.drive_Run [a0, a1, a2] h = nrm .no h (drive_Run k (R (T k)) a0 a1 a2 h) :=
 (R_body (t := T k) (T_scott k) (by kernel_rfl) (by kernel_rfl) _ _).trans (by kernel_rfl)
theorem drive_Run_l1_eq (k : Nat) (call : Caller) (a2 a8 a9 : Value) (h : Heap) : drive_Run_l1 k call [(2, a2), (8, a8), (9, a9)] h =
 (nilR a8 h).bind fun v13 h14 =>
 (fieldAddrR Prog 281 v13 4 h14).bind fun v15 h16 =>
 (loadR Prog 3 v15 h16).bind fun v17 h18 =>
 (binR Prog .lss 3 v17 a9 h18).bind fun v19 h20 =>
 condV (some v19) (
 (call F.drive_driver_step [a8, a2] h20).bind fun v21 h22 =>
 condV (some v21) (
 (nilR a8 h22).bind fun v23 h24 =>
 (fieldAddrR Prog 281 v23 4 h24).bind fun v25 h26 =>
 (loadR Prog 3 v25 h26).bind fun v27 h28 =>
 .ok (.ret, [(6, v27), (7, (.int .i64 0))]) h28)
 (
 (nilR a8 h22).bind fun v29 h30 =>
 (fieldAddrR Prog 281 v29 5 h30).bind fun v31 h32 =>
 (loadR Prog 3 v31 h32).bind fun v33 h34 =>
 (binR Prog .gtr 3 v33 (.int .i64 64) h34).bind fun v35 h36 =>
 condV (some v35) (
 .ok ((.exit 0), [(2, a2), (8, a8), (9, a9), (35, v35)]) h36)
 (
 .ok (.normal, [(2, a2), (8, a8), (9, a9)]) h36)))
 (
 .ok ((.exit 0), [(2, a2), (8, a8), (9, a9), (23, v19)]) h20) :=
 (loopB_eq _ _).trans (by kernel_rfl)
theorem drive_Run_l1k_r (k : Nat) (call : Caller) (a6 a7 : Value) (h : Heap) : drive_Run_l1k k call .ret [(6, a6), (7, a7)] h =
 .ok (.tuple #[a6, a7]) h := by kernel_rfl
theorem drive_Run_l1k_x0 (k : Nat) (call : Caller) (a2 a8 a9 a35 : Value) (h : Heap) : drive_Run_l1k k call (.exit 0) [(2, a2), (8, a8), (9, a9), (35, a35)] h =
 (nilR a8 h).bind fun v37 h38 =>
 (fieldAddrR Prog 281 v37 4 h38).bind fun v39 h40 =>
 (loadR Prog 3 v39 h40).bind fun v41 h42 =>
 .ok (.tuple #[v41, (.int .i64 4)]) h42 := by kernel_rfl
theorem drive_Run_l1k_x0_1 (k : Nat) (call : Caller) (a2 a8 a9 a23 : Value) (h : Heap) : drive_Run_l1k k call (.exit 0) [(2, a2), (8, a8), (9, a9), (23, a23)] h =
 (nilR a8 h).bind fun v43 h44 =>
 (fieldAddrR Prog 281 v43 4 h44).bind fun v45 h46 =>
 (loadR Prog 3 v45 h46).bind fun v47 h48 =>
 .ok (.tuple #[v47, (.int .i64 4)]) h48 := by kernel_rfl
def drive_Plain (k : Nat) (call : Caller) (a0 : Value) (h : Heap) : Res Value :=
 (boxR a0 h).bind fun v1 h2 =>
 .ok (.func (.func F.drive_Plain_in1) #[] #[v1]) h2
theorem drive_Plain_R (k : Nat) (a0 : Value) (h : Heap) : R (T k) F.drive_Plain [a0] h = nrm .gc h (drive_Plain k (R (T k)) a0 h) :=
 (R_body (t := T k) (T_scott k) (by kernel_rfl) (by kernel_rfl) _ _).trans (by kernel_rfl)
def drive_driver_step (k : Nat) (call : Caller) (a0 a1 : Value) (h : Heap) : Res Value :=
 (call F.drive_driver_class [a0] h).bind fun v1 h2 =>
 (extractR v1 0 h2).bind fun v3 h4 =>
 (extractR v1 1 h4).bind fun v5 h6 =>
 (nilR a0 h6).bindN fun v7 h8 =>
 (fieldAddrR Prog 281 v7 0 h8).bindN fun v9 h10 =>
 (loadR Prog 196 v9 h10).bindN fun v11 h12 =>
 (nilR a0 h12).bindN fun v13 h14 =>
 (fieldAddrR Prog 281 v13 2 h14).bindN fun v15 h16 =>
 (loadR Prog 3 v15 h16).bindN fun v17 h18 =>
 (call F.state_Machine_Step [v11, v17, v3] h18).bindT (fun p21 h22 => (allocR Prog 130 h18).bindN fun v23 h24 => .panic p21 h22) fun v19 h20 =>
 (extractR v19 0 h20).bindN fun v25 h26 =>
 (extractR v19 1 h26).bindN fun v27 h28 =>
 (allocR Prog 130 h28).bindN fun v29 h30 =>
 (storeR Prog 130 v29 v25 h30).bindN fun _v31 h32 =>
 (nilR a0 h32).bind fun v33 h34 =>
 (fieldAddrR Prog 281 v33 4 h34).bind fun v35 h36 =>
 (loadR Prog 3 v35 h36).bind fun v37 h38 =>
 (binR Prog .add 3 v37 (.int .i64 1) h38).bind fun v39 h40 =>
 (nilR a0 h40).bind fun v41 h42 =>
 (fieldAddrR Prog 281 v41 4 h42).bind fun v43 h44 =>
 (storeR Prog 3 v43 v39 h44).bind fun _v45 h46 =>
 (fieldAddrR Prog 130 v29 0 h46).bind fun v47 h48 =>
 (loadR Prog 3 v47 h48).bind fun v49 h50 =>
 (nilR a0 h50).bind fun v51 h52 =>
 (fieldAddrR Prog 281 v51 2 h52).bind fun v53 h54 =>
 (storeR Prog 3 v53 v49 h54).bind fun _v55 h56 =>
 (nilR a0 h56).bindN fun v57 h58 =>
 (fieldAddrR Prog 281 v57 3 h58).bindN fun v59 h60 =>
 (loadR Prog 3 v59 h60).bindN fun v61 h62 =>
 (loadR Prog 130 v29 h62).bindN fun v63 h64 =>
 (callV call a1 [v61, v63] h64).bindT (fun p67 h68 => .panic p67 h68) fun v65 h66 =>
 (extractR v65 0 h66).bindN fun v69 h70 =>
 (extractR v65 1 h70).bindN fun v71 h72 =>
 (fieldAddrR Prog 130 v29 1 h72).bind fun v73 h74 =>
 (loadR Prog 3 v73 h74).bind fun v75 h76 =>
 (binR Prog .and 3 v75 (.int .i64 16384) h76).bind fun v77 h78 =>
 (binR Prog .neq 3 v77 (.int .i64 0) h78).bind fun v79 h80 =>
 condV (some v79) (
 (builtinV Prog .max [3, 3] [v69, (.int .i64 0)] h80).bind fun v81 h82 =>
 (nilR a0 h82).bind fun v83 h84 =>
 (fieldAddrR Prog 281 v83 3 h84).bind fun v85 h86 =>
 (storeR Prog 3 v85 v81 h86).bind fun _v87 h88 =>
 (nilR a0 h88).bind fun v89 h90 =>
 (fieldAddrR Prog 281 v89 5 h90).bind fun v91 h92 =>
 (loadR Prog 3 v91 h92).bind fun v93 h94 =>
 (binR Prog .add 3 v93 (.int .i64 1) h94).bind fun v95 h96 =>
 (nilR a0 h96).bind fun v97 h98 =>
 (fieldAddrR Prog 281 v97 5 h98).bind fun v99 h100 =>
 (storeR Prog 3 v99 v95 h100).bind fun _v101 h102 =>
 .ok (.bool false) h102)
 (
 (builtinV Prog .max [3, 3] [v71, (.int .i64 0)] h80).bind fun v103 h104 =>
 (nilR a0 h104).bind fun v105 h106 =>
 (fieldAddrR Prog 281 v105 3 h106).bind fun v107 h108 =>
 (storeR Prog 3 v107 v103 h108).bind fun _v109 h110 =>
 (nilR a0 h110).bind fun v111 h112 =>
 (fieldAddrR Prog 281 v111 5 h112).bind fun v113 h114 =>
 (storeR Prog 3 v113 (.int .i64 0) h114).bind fun _v115 h116 =>
 .ok v5 h116)
theorem drive_driver_step_R (k : Nat) (a0 a1 : Value) (h : Heap) : R (T k) F.drive_driver_step [a0, a1] h = nrm .no h (drive_driver_step k (R (T k)) a0 a1 h) :=
 (R_body (t := T k) (T_scott k) (by kernel_rfl) (by kernel_rfl) _ _).trans (by kernel_rfl)
def drive_Plain_in1 (k : Nat) (call : Caller) (a0 a1 a2 : Value) (h : Heap) : Res Value :=
 (boxR a1 h).bind fun v1 h2 =>
 (loadR Prog 213 a2 h2).bind fun v3 h4 =>
 (loadR Prog 130 v1 h4).bind fun v5 h6 =>
 (callV call v3 [a0, v5] h6).bind fun v7 h8 =>
 (binR Prog .add 3 a0 (.int .i64 1) h8).bind fun v9 h10 =>
 .ok (.tuple #[a0, v9]) h10
theorem drive_Plain_in1_R (k : Nat) (a0 a1 a2 : Value) (h : Heap) : R (T k) F.drive_Plain_in1 [a0, a1, a2] h = nrm .no h (drive_Plain_in1 k (R (T k)) a0 a1 a2 h) :=
 (R_body (t := T k) (T_scott k) (by kernel_rfl) (by kernel_rfl) _ _).trans (by kernel_rfl)
def drive_driver_class (k : Nat) (call : Caller) (a0 : Value) (h : Heap) : Res Value :=
 (nilR a0 h).bindN fun v1 h2 =>
 (fieldAddrR Prog 281 v1 1 h2).bindN fun v3 h4 =>
 (loadR Prog 25 v3 h4).bindN fun v5 h6 =>
 (nilR a0 h6).bindN fun v7 h8 =>
 (fieldAddrR Prog 281 v7 3 h8).bindN fun v9 h10 =>
 (loadR Prog 3 v9 h10).bindN fun v11 h12 =>
 (call F.line_Line_At [v5, v11] h12).bindT (fun p15 h16 => (allocR Prog 57 h12).bindN fun v17 h18 => .panic p15 h16) fun v13 h14 =>
 (extractR v13 0 h14).bindN fun v19 h20 =>
 (extractR v13 1 h20).bindN fun v21 h22 =>
 (allocR Prog 57 h22).bindN fun v23 h24 =>
 (storeR Prog 57 v23 v19 h24).bindN fun _v25 h26 =>
 (unR .not v21 h26).bind fun v27 h28 =>
 condV (some v27) (
 .ok (.tuple #[(.int .i64 0), (.bool true)]) h28)
 (
 (nilR a0 h28).bindN fun v29 h30 =>
 (fieldAddrR Prog 281 v29 0 h30).bindN fun v31 h32 =>
 (loadR Prog 196 v31 h32).bindN fun v33 h34 =>
 (fieldAddrR Prog 57 v23 0 h34).bindN fun v35 h36 =>
 (loadR Prog 3 v35 h36).bindN fun v37 h38 =>
 (call F.state_Machine_Class [v33, v37] h38).bindT (fun p41 h42 => .panic p41 h42) fun v39 h40 =>
 .ok (.tuple #[v39, (.bool false)]) h40)
theorem drive_driver_class_R (k : Nat) (a0 : Value) (h : Heap) : R (T k) F.drive_driver_class [a0] h = nrm .gc h (drive_driver_class k (R (T k)) a0 h) :=
 (R_body (t := T k) (T_scott k) (by kernel_rfl) (by kernel_rfl) _ _).trans (by kernel_rfl)
end
end Go.Sw
end
section
namespace Go.Sw
open Go.RowKit
theorem Star.stEnd {H0 H : Heap} {A B : List It} {c : Nat} {cells : List Value} {e : Nat} (h : Star H0 H (A ++ itBlk c ⟨cells, e, false⟩ :: B)) (off : Nat) {v : Value} (hs : storable v = true) (hc : v.cells = #[v]) (ho : off < cells.length) :
  ∃ H', stR 1 (.pointer (some ⟨c, off, none⟩)) v H = .ok undef H' ∧ Star H0 H' (A ++ itBlk c ⟨cells.set off v, e, false⟩ :: B) := by
 obtain ⟨H', h1, h2, _⟩ := h.stCell A.length (c := c) (cells := cells) (e := e) (by simp) off hs hc ho;exact ⟨H', h1, by simpa using h2⟩
structure Drv where
 st : Int
 pl : Int
 stp : Int
 rest : Int
abbrev drvC (m : Mach) (c : Nat) (d : Drv) : List Value := [machV m, ptrV c, .int .i64 d.st, .int .i64 d.pl, .int .i64 d.stp, .int .i64 d.rest]
def clsS (m : Mach) (l : List Gl) (pl : Int) : Int × Bool := match atG l pl with | some g => (classS m g.id, false) | none => (0, true)
def entS (m : Mach) (l : List Gl) (d : Drv) : En := (stepS m d.st (clsS m l d.pl).1).getD ⟨0, 0, 0, 0⟩
abbrev encE (e : En) : Value := .agg (encEn e).toArray
theorem take_mid {α : Type} (x : α) (B : List α) : ∀ A : List α, (A ++ x :: B).take (A.length + 1) = A ++ [x]
 | [] => rfl
 | a :: A => by simp [take_mid x B A]
theorem and_two14 (n : Nat) : n &&& 2 ^ 14 = if n.testBit 14 then 2 ^ 14 else 0 := by
 apply Nat.eq_of_testBit_eq;intro i;rw [Nat.testBit_and, Nat.testBit_two_pow];by_cases h : 14 = i
 ·subst h;cases hb : n.testBit 14 <;> simp <;> decide
 ·cases hb : n.testBit 14
  ·simp [h]
  ·simp only [h, decide_false, Bool.and_false, if_true, Nat.testBit_two_pow]
theorem and14 (P : Program) (t : TypeId) (H : Heap) {a : Int} (h0 : 0 ≤ a) (h1 : a < 65536) : binR P .and t (.int .i64 a) (.int .i64 16384) H = .ok (.int .i64 (if a / 16384 % 2 = 1 then 16384 else 0)) H := by
 have e : (BitVec.ofInt 64 a &&& BitVec.ofInt 64 16384).toNat = (if a / 16384 % 2 = 1 then 16384 else 0) := by
  rw [BitVec.toNat_and, BitVec.toNat_ofInt, BitVec.toNat_ofInt];rw [show ((16384 : Int) % ((2 ^ 64 : Nat) : Int)).toNat = 2 ^ 14 from by decide, and_two14, Nat.testBit_eq_decide_div_mod_eq];obtain ⟨n, rfl⟩ := Int.eq_ofNat_of_zero_le h0;rw [show (((n : Int)) % ((2 ^ 64 : Nat) : Int)).toNat = n by omega];by_cases h : (n : Int) / 16384 % 2 = 1
  ·rw [if_pos h, decide_eq_true (show n / 2 ^ 14 % 2 = 1 by omega)]; rfl
  ·rw [if_neg h, decide_eq_false (show ¬ n / 2 ^ 14 % 2 = 1 by omega)]; rfl
 have e1 : binV P .and t (.int .i64 a) (.int .i64 16384) = some (.int .i64 (IntKind.i64.wrap (BitVec.ofInt 64 a &&& BitVec.ofInt 64 16384).toNat)) := rfl;unfold binR;rw [e1, e];by_cases h : a / 16384 % 2 = 1
 ·simp [h]
 ·simp [h]
theorem driverClass_run (k : Nat) (m : Mach) (hm : m.ok) {H0 H : Heap} {L : List It} (h : Star H0 H L) {c q : Nat} {o : Option Nat} {l : List Gl} {d : Drv} (i : Nat) (hi : L[i]? = some (itLine c o l)) (hq : H.get q = some ⟨drvC m c d, 1, false⟩) :
  R (T k) F.drive_driver_class [ptrV q] H = .ok (.tuple #[.int .i64 (clsS m l d.pl).1, .bool (clsS m l d.pl).2]) H := by
 rw [drive_driver_class_R];have hat := lineAt_run k h i hi d.pl;have fl : ∀ (a : Int) b, Flat (.tuple #[.int .i64 a, .bool b]) := fun a b => .tupleL (.cons (.int _ _) (.cons (.bool _) .nil));unfold clsS;have hqn : ¬ q = H.n := by have := Heap.get_lt hq; omega
 cases ha : atG l d.pl with
 | none =>
  rw [ha] at hat;refine nrm_gc ⟨H.push ⟨[.int .i64 0, .int .i64 0], 1, false⟩, ?_, (Ext.refl H).push _⟩ (fl _ _).alive;unfold encA at hat;simp at hat;simp -implicitDefEqProofs (disch := omega) [drive_driver_class, hq, hat]
 | some g =>
  rw [ha] at hat;have hc := fun H' => Class_run k m hm g.id H';refine nrm_gc ⟨H.push ⟨encG g, 1, false⟩, ?_, (Ext.refl H).push _⟩ (fl _ _).alive;unfold encA at hat;simp at hat;simp -implicitDefEqProofs (disch := omega) [drive_driver_class, hq, hqn, hat, hc]
theorem entS_bound {m : Mach} (hm : m.ok) (l : List Gl) (d : Drv) : let e := entS m l d; 0 ≤ e.next ∧ e.next < 65536 ∧ 0 ≤ e.flags ∧ e.flags < 65536 ∧ 0 ≤ e.a ∧ e.a < 65536 ∧ 0 ≤ e.b ∧ e.b < 65536 := by
 dsimp only;unfold entS;cases h : stepS m d.st (clsS m l d.pl).1 with
 | none => simp
 | some x =>
  have hx : x ∈ m.ents := by
   unfold stepS at h;split at h
   ·obtain ⟨r, _, h⟩ := Option.bind_eq_some_iff.1 h;obtain ⟨y, _, h⟩ := Option.bind_eq_some_iff.1 h;exact List.mem_of_getElem? h
   ·cases h
  have := hm.ent x hx;have := hm.two;simp only [Option.getD_some];omega
theorem getS_pos {ps : List Pt} (hok : ∀ p, p ∈ ps → p.ok) {id x : Int} (h : getS ps id = some x) : 0 ≤ x := by
 unfold getS at h;obtain ⟨p, hp, h⟩ := Option.bind_eq_some_iff.1 h;split at h
 ·exact ((hok p (List.mem_of_find?_eq_some hp)).2.2.2.2.2 x (List.mem_of_getElem? h)).1
 ·cases h
theorem classS_bound {m : Mach} (hm : m.ok) (id : Int) : 0 ≤ classS m id ∧ classS m id < m.classes := by
 have := hm.cl;unfold classS;split
 ·omega
 ·split
  ·rename_i c hc;have := getS_pos hm.pts hc;split <;> omega
  ·omega
theorem clsS_bound {m : Mach} (hm : m.ok) (l : List Gl) (p : Int) : 0 ≤ (clsS m l p).1 ∧ (clsS m l p).1 < m.classes := by
 have := hm.cl;unfold clsS;split
 ·exact classS_bound hm _
 ·dsimp only; omega
theorem entS_mem {m : Mach} (hm : m.ok) (l : List Gl) (d : Drv) (h : 0 ≤ d.st ∧ d.st < m.rows.length) : entS m l d ∈ m.ents := by
 have hc := clsS_bound hm l d.pl;obtain ⟨r, x, e, _, _, _, he, hs⟩ := stepS_some hm (s := d.st) (c := (clsS m l d.pl).1) ⟨h.1, h.2, hc.1, hc.2⟩;unfold entS;rw [hs];exact List.mem_of_getElem? he
variable {σ : Type}
def ActOk (k : Nat) (m : Mach) (H0 : Heap) (W : σ → List It) (Inv : σ → Prop) (a : Value) (f : σ → Int → En → σ × Int × Int) : Prop :=
 ∀ s i e H X, Inv s → Star H0 H (W s ++ X) → 0 ≤ i → i < 2 ^ 50 → e ∈ m.ents →
  ∃ H', callV (R (T k)) a [.int .i64 i, encE e] H = .ok (.tuple #[.int .i64 (f s i e).2.1, .int .i64 (f s i e).2.2]) H' ∧ Star H0 H' (W (f s i e).1 ++ X) ∧ Inv (f s i e).1 ∧ (f s i e).2.1 ≤ i + 128 ∧ (f s i e).2.2 ≤ i + 128
def stepD (m : Mach) (ln : σ → List Gl) (f : σ → Int → En → σ × Int × Int) (x : σ × Drv) : (σ × Drv) × Bool :=
 if (entS m (ln x.1) x.2).flags / 16384 % 2 = 1 then (((f x.1 x.2.pl (entS m (ln x.1) x.2)).1, ⟨(entS m (ln x.1) x.2).next, max (f x.1 x.2.pl (entS m (ln x.1) x.2)).2.1 0, x.2.stp + 1, x.2.rest + 1⟩), false)
 else (((f x.1 x.2.pl (entS m (ln x.1) x.2)).1, ⟨(entS m (ln x.1) x.2).next, max (f x.1 x.2.pl (entS m (ln x.1) x.2)).2.2 0, x.2.stp + 1, 0⟩), (clsS m (ln x.1) x.2.pl).2)
set_option maxHeartbeats 2000000 in
theorem driverStep_run (k : Nat) (m : Mach) (hm : m.ok) {H0 H : Heap} (W : σ → List It) (Inv : σ → Prop) (ln : σ → List Gl) (c : Nat) (hW : ∀ s, ∃ (i : Nat) (o : Option Nat), (W s)[i]? = some (itLine c o (ln s))) (a : Value) (f : σ → Int → En → σ × Int × Int) (ha : ActOk k m H0 W Inv a f)
  (X : List It) (q : Nat) (s : σ) (d : Drv) (hI : Inv s) (h : Star H0 H (W s ++ X ++ [itBlk q ⟨drvC m c d, 1, false⟩])) (hp : 0 ≤ d.pl ∧ d.pl < 2 ^ 50) (hst : 0 ≤ d.stp ∧ d.stp < 2 ^ 50) (hr : 0 ≤ d.rest ∧ d.rest < 2 ^ 50) (hse : 0 ≤ d.st ∧ d.st < m.rows.length) :
  ∃ H', R (T k) F.drive_driver_step [ptrV q, a] H = .ok (.bool (stepD m ln f (s, d)).2) H' ∧ Star H0 H' (W (stepD m ln f (s, d)).1.1 ++ X ++ [itBlk q ⟨drvC m c (stepD m ln f (s, d)).1.2, 1, false⟩]) ∧ Inv (stepD m ln f (s, d)).1.1 ∧ (stepD m ln f (s, d)).1.2.pl ≤ d.pl + 128 ∧ 0 ≤ (stepD m ln f (s, d)).1.2.st ∧ (stepD m ln f (s, d)).1.2.st < m.rows.length := by
 obtain ⟨i, o, ho⟩ := hW s;have hq := h.memBlk (c := q) (k := ⟨drvC m c d, 1, false⟩) (by simp);have hline : (W s ++ X ++ [itBlk q ⟨drvC m c d, 1, false⟩])[i]? = some (itLine c o (ln s)) := by
  have h0 : i < (W s).length := (List.getElem?_eq_some_iff.1 ho).1;rw [List.append_assoc, List.getElem?_append_left h0];exact ho
 have hcls := driverClass_run k m hm h i hline hq;have hstep := fun H' => Step_run k m hm d.st (clsS m (ln s) d.pl).1 H';have heb := entS_bound hm (ln s) d;have hmem := entS_mem hm (ln s) d hse;have hnx := hm.ent _ hmem;have hee : encEA (stepS m d.st (clsS m (ln s) d.pl).1) = encE (entS m (ln s) d) := rfl;rw [hee] at hstep;have hx := ha s d.pl (entS m (ln s) d);unfold stepD;dsimp only;generalize (stepS m d.st (clsS m (ln s) d.pl).1).isSome = z at hstep;generalize (clsS m (ln s) d.pl) = cl at hcls hstep;generalize entS m (ln s) d = e at hstep heb hx hmem hnx ⊢;dsimp only at heb;generalize f s d.pl e = r at hx ⊢;have g := h.push ⟨encEn e, 1, false⟩;rw [List.append_assoc, List.singleton_append] at g;have hqn : ¬ q = H.n := by have := Heap.get_lt hq; omega
 obtain ⟨H2, e2, g⟩ := g.stEnd 4 (v := .int .i64 (d.stp + 1)) rfl rfl (by simp);simp only [List.set_cons_zero, List.set_cons_succ] at g;have he2 := g.memBlk (c := H.n) (k := ⟨encEn e, 1, false⟩) (by simp);have hq2 := g.memBlk (c := q) (k := ⟨[machV m, ptrV c, .int .i64 d.st, .int .i64 d.pl, .int .i64 (d.stp + 1), .int .i64 d.rest], 1, false⟩) (by simp);obtain ⟨H3, e3, g⟩ := g.stEnd 2 (v := .int .i64 e.next) rfl rfl (by simp);simp only [List.set_cons_zero, List.set_cons_succ] at g;have hq3 := g.memBlk (c := q) (k := ⟨[machV m, ptrV c, .int .i64 e.next, .int .i64 d.pl, .int .i64 (d.stp + 1), .int .i64 d.rest], 1, false⟩) (by simp);have he3 := g.memBlk (c := H.n) (k := ⟨encEn e, 1, false⟩) (by simp);rw [List.append_assoc] at g;obtain ⟨H4, e4, g4, hI4, hs4, ho4⟩ := hx H3 _ hI g hp.1 hp.2 hmem;rw [← List.append_assoc] at g4;have hq4 := g4.memBlk (c := q) (k := ⟨[machV m, ptrV c, .int .i64 e.next, .int .i64 d.pl, .int .i64 (d.stp + 1), .int .i64 d.rest], 1, false⟩) (by simp);have he4 := g4.memBlk (c := H.n) (k := ⟨encEn e, 1, false⟩) (by simp);have han := fun H => and14 Prog 3 H heb.2.2.1 heb.2.2.2.1;rw [List.append_assoc] at g4;by_cases hfl : e.flags / 16384 % 2 = 1
 ·rw [if_pos hfl];rw [if_pos hfl] at han;have hmx : (if 0 > r.2.1 then 0 else r.2.1) = max r.2.1 0 := by split <;> omega
  obtain ⟨H5, e5, g5⟩ := Star.stEnd (A := W r.1 ++ X) (by simpa using g4) 3 (v := .int .i64 (max r.2.1 0)) rfl rfl (by simp);simp only [List.set_cons_zero, List.set_cons_succ] at g5;have hq5 := g5.memBlk (c := q) (k := ⟨[machV m, ptrV c, .int .i64 e.next, .int .i64 (max r.2.1 0), .int .i64 (d.stp + 1), .int .i64 d.rest], 1, false⟩) (by simp);obtain ⟨H6, e6, g6⟩ := g5.stEnd 5 (v := .int .i64 (d.rest + 1)) rfl rfl (by simp);simp only [List.set_cons_zero, List.set_cons_succ] at g6;refine ⟨H6, ?_, ?_, hI4, by dsimp only; omega, hnx.1, hnx.2.1⟩
  ·rw [drive_driver_step_R];simp -implicitDefEqProofs (disch := omega) [-stR_ptr, drive_driver_step, hcls, hq, hqn, hstep, stR_ptr 4 H.n 0, e2, hq2, he2, e3, hq3, he3, e4, hq4, he4, han, hmx, e5, hq5, e6]
  ·have := g6.take ((W r.1 ++ X).length + 1);rw [take_mid] at this;exact this
 ·rw [if_neg hfl];rw [if_neg hfl] at han;have hmx : (if 0 > r.2.2 then 0 else r.2.2) = max r.2.2 0 := by split <;> omega
  obtain ⟨H5, e5, g5⟩ := Star.stEnd (A := W r.1 ++ X) (by simpa using g4) 3 (v := .int .i64 (max r.2.2 0)) rfl rfl (by simp);simp only [List.set_cons_zero, List.set_cons_succ] at g5;have hq5 := g5.memBlk (c := q) (k := ⟨[machV m, ptrV c, .int .i64 e.next, .int .i64 (max r.2.2 0), .int .i64 (d.stp + 1), .int .i64 d.rest], 1, false⟩) (by simp);obtain ⟨H6, e6, g6⟩ := g5.stEnd 5 (v := .int .i64 0) rfl rfl (by simp);simp only [List.set_cons_zero, List.set_cons_succ] at g6;refine ⟨H6, ?_, ?_, hI4, by dsimp only; omega, hnx.1, hnx.2.1⟩
  ·rw [drive_driver_step_R];simp -implicitDefEqProofs (disch := omega) [-stR_ptr, drive_driver_step, hcls, hq, hqn, hstep, stR_ptr 4 H.n 0, e2, hq2, he2, e3, hq3, he3, e4, hq4, he4, han, hmx, bne, e5, hq5, e6]
  ·have := g6.take ((W r.1 ++ X).length + 1);rw [take_mid] at this;exact this
end Go.Sw
end
section
namespace Go.Sw
open Go.RowKit
def oddB (vs : List Int) (a : Int) : Bool := (List.range (vs.length / 2)).any fun i => decide (a ≤ (i : Int) ∧ gU vs (2 * (i : Int)) 2 % 2 = 1)
structure STab where
 m : Mach
 vals : List Int
structure STab.ok (t : STab) : Prop where
 m : t.m.ok
 byt : Byt t.vals
 len : t.vals.length < 2 ^ 31
 has : ∀ e, e ∈ t.m.ents → e.a = 65535 ∨ oddB t.vals e.a = true
end Go.Sw
end
