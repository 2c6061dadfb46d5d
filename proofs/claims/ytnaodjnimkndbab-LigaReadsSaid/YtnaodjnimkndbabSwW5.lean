/-
  Functions' forms, and what is proved of them, part 5.
-/
import Derived.Test.YtnaodjnimkndbabSwW4
import Derived.Test.YtnaodjnimkndbabSwCfg
import Derived.Test.YtnaodjnimkndbabSwW3
import Derived.Test.YtnaodjnimkndbabSwW2
set_option linter.unusedSimpArgs false
set_option linter.unusedVariables false
set_option linter.unusedSectionVars false
section
namespace Go.Sw
open Go.RowKit
theorem ζpj (k : Nat) {H0 H : Heap} {X : List It} {c : Nat} {n : Int} {tab : Value} {rs : List (List Int)} {es : List En} (h : MS H0 H X c n tab rs es) (hel : es.length < 65536) {vR vE : Value} {ev : List Int} (w : Int) (hw : w = 0 ∨ w = 1 ∨ w = 2) (hv : Sl H 1 vE encB ev) (hR : Go.Sw.veq vR vR = true) (hb : Byt ev) (hl : ev.length < 2 ^ 31) :
  match entK ev w es.length with
  | some e => ∃ H', R (T k) F.ζ8 [.agg #[ptrV c, vR, vE, .int .i64 w]] H = .ok (.int .i64 (e.next + 1)) H' ∧ MS H0 H' X c n tab rs (es ++ [e])
  | none => R (T k) F.ζ8 [.agg #[ptrV c, vR, vE, .int .i64 w]] H = .panic failV H := by
 obtain ⟨l, s1, o1, s2, o2, bs, h1, g, h3⟩ := h;have hM := g.get 0 rfl;have hlen2 := (g.row 2 rfl).len;have hcn : ¬ c = H.n := by have := Heap.get_lt hM; omega
 have hx1 : Ext H (H.push ⟨[ptrV c, vR, vE, .int .i64 w], 1, false⟩) := (Ext.refl H).push _;have hm0 : 0 ≤ (4 + 2 * w) * (es.length : Int) := Int.mul_nonneg (by omega) (by omega);have hm1 : (4 + 2 * w) * (es.length : Int) ≤ 8 * 65536 := Int.mul_le_mul (by omega) (by omega) (by omega) (by omega);have hCut := Cut_run k (hv.up hx1) ((4 + 2 * w) * es.length) (4 + 2 * w) (by omega);rw [ζeg];cases hr : pieceS ev ((4 + 2 * w) * es.length) (4 + 2 * w) with
 | none =>
  have : entK ev w es.length = none := by unfold entK; rw [hr]; rfl
  rw [this];rw [hr] at hCut;refine ζ1k ⟨_, ?_, hx1⟩ Flat.fail.alive;simp -implicitDefEqProofs (disch := omega) [ζ8, hcn, hM, hlen2, hCut]
 | some r =>
  have hK : entK ev w es.length = some (entOf w r) := by unfold entK; rw [hr]; rfl
  rw [hK];dsimp only;rw [hr] at hCut;have hs := ζ3u (hv.up hx1) hr;have hrb := (hb.piece hr).1;have hrl := ζ3e hr;generalize subV 1 vE ((4 + 2 * w) * (es.length : Int)).toNat (4 + 2 * w).toNat = q at hs hCut;have hq := rd_vw hs;obtain ⟨B1, hB1⟩ : ∃ B1 : Blk, B1 = ⟨[ptrV c, vR, vE, .int .i64 w], 1, false⟩ := ⟨_, rfl⟩
  obtain ⟨B2, hB2⟩ : ∃ B2 : Blk, B2 = ⟨[q], 1, false⟩ := ⟨_, rfl⟩
  obtain ⟨e, he⟩ : ∃ e, e = entOf w r := ⟨_, rfl⟩
  rw [← he];have hu : ∀ i, 0 ≤ i → i + 2 ≤ 4 + 2 * w → ∀ H', Ext (H.push B1) H' → R (T k) F.ζc [.agg #[q], .int .i64 i] H' = .ok (.int .i64 (gU r i 2)) H' := fun i hi0 hi1 H' hx => by
   rw [← hB1] at hs;have := U16_run k (hs.up hx) hrb i (by omega);rw [(piece_gU hb hr hi0 hi1).1, orF_some] at this;exact this
  have hx2 : Ext (H.push B1) ((H.push B1).push B2) := (Ext.refl _).push _;have u0 := hu 0 (by omega) (by omega) _ hx2;have u2 := hu 2 (by omega) (by omega) _ hx2;have g0 := (piece_gU hb hr (i := 0) (by omega) (by omega)).2;have g2 := (piece_gU hb hr (i := 2) (by omega) (by omega)).2;have hn : e.next = gU r 0 2 := by rw [he]; rfl
  have hf : e.flags = gU r 2 2 := by rw [he]; rfl
  have g := ((g.push B1).push B2).push ⟨encEn e, 1, false⟩;obtain ⟨P, hP⟩ : ∃ P, P = ((H.push B1).push B2).push ⟨encEn e, 1, false⟩ := ⟨_, rfl⟩
  rw [← hP] at g;obtain ⟨bs', hbs⟩ : ∃ bs', bs' = bs ++ [itBlk H.n B1, itBlk (H.n + 1) B2, itBlk (H.n + 2) ⟨encEn e, 1, false⟩] := ⟨_, rfl⟩
  have g : Star H0 P (itBlk c ⟨[.int .i64 n, tab, s1, s2], 1, false⟩ :: itRow o1 1 s1 encU l :: itRow o2 4 s2 encEn es :: (X ++ bs')) := by
   rw [hbs];simpa using g
  have hM1 := g.get 0 rfl;have hB1g : P.get H.n = some B1 := g.memBlk (by simp [hbs]);have hPn : P.n = H.n + 3 := by rw [hP]; simp
  have hn1 : ¬ H.n = P.n := by omega
  have hc1 : ¬ c = P.n := by have := Heap.get_lt hM1; omega
  have hvq := (g.row 2 rfl).veq;obtain ⟨s2', o2', H2, e2, g⟩ := g.append1 (bytes := 32) 2 ζ8x rfl e (by omega) (by decide);simp only [List.set_cons_zero, List.set_cons_succ] at g;have hB1g2 : H2.get H.n = some B1 := g.memBlk (by simp [hbs]);obtain ⟨H3, e3, g, _⟩ := g.stCell 0 rfl 3 (g.row 2 rfl).storable (g.row 2 rfl).cells (by simp);simp only [List.set_cons_zero, List.set_cons_succ] at g;have hB3g : H3.get (H.n + 2) = some ⟨encEn e, 1, false⟩ := g.memBlk (by simp [hbs]);refine ⟨H3, nrm_of ?_, l, s1, o1, s2', o2', bs', h1, g, fun x hx => ?_⟩;rotate_left
  ·obtain ⟨o, ho⟩ := h3 x hx;exact ⟨o, by rw [hbs]; simp [ho]⟩
  rw [hB1] at hB1g hB1g2;have hPe := hP;rw [hB1, hB2] at hPe;have hP2 : P.get (H.n + 2) = some ⟨encEn e, 1, false⟩ := by rw [hP]; simp
  have hP1 : P.get (H.n + 1) = some B2 := by rw [hP]; simp
  rw [hB2] at hP1;rw [hB1, hB2] at u0 u2;have hq2 : Go.Sw.veq (.agg #[q]) (.agg #[q]) = true := veq_agg (l := [q]) fun u hu => by simp at hu; subst hu; exact hq
  have hn2 : ¬ H.n + 2 = P.n := by omega
  have e2' := e2;unfold encEn at e2';have hj4 : ζ2v k (R (T k)) (ptrV H.n) (ptrV (H.n + 1)) (ptrV (H.n + 2)) (.bool false) P = .ok (.int .i64 (e.next + 1)) H3 := by
   rw [ζ9c];simp -implicitDefEqProofs (disch := omega) [-stR_ptr, hB1g, hM1, hP2, hn1, hc1, hB1g2, hvq, e2', e3, hB3g]
  have hj3 : ζ2u k (R (T k)) (ptrV H.n) (ptrV (H.n + 2)) P = .ok (.int .i64 (e.next + 1)) H3 := by
   rw [ζ9b];simp -implicitDefEqProofs (disch := omega) [-stR_ptr, hB1g, hM1, hP2, hn1, hc1, hB1g2, hvq, e2', e3, hB3g]
  rcases hw with rfl | rfl | rfl
  ·have hall : encEn e = [.int .i64 (gU r 0 2), .int .i64 (gU r 2 2), .int .i64 0, .int .i64 0] := by rw [he]; rfl
   rw [hall] at hPe;simp -implicitDefEqProofs (disch := omega) at hCut;simp -implicitDefEqProofs (disch := omega) [ζ8, hcn, hM, hlen2, hCut, u0, u2, hq2, ← hPe, ζ9a, hB1g, hj4]
  ·have hall : encEn e = [.int .i64 (gU r 0 2), .int .i64 (gU r 2 2), .int .i64 (gU r 4 2), .int .i64 0] := by rw [he]; rfl
   rw [hall] at hPe;have u4 := hu 4 (by omega) (by omega) _ (hx2.push ⟨[.int .i64 (gU r 0 2), .int .i64 (gU r 2 2), .int .i64 0, .int .i64 0], 1, false⟩);rw [hB1, hB2] at u4;simp -implicitDefEqProofs (disch := omega) at hCut;simp -implicitDefEqProofs (disch := omega) [ζ8, hcn, hM, hlen2, hCut, u0, u2, u4, hq2, ← hPe, ζ4w, hB1g, hj4]
  ·have hall : encEn e = [.int .i64 (gU r 0 2), .int .i64 (gU r 2 2), .int .i64 (gU r 4 2), .int .i64 (gU r 6 2)] := by rw [he]; rfl
   rw [hall] at hPe;have u4 := hu 4 (by omega) (by omega) _ (hx2.push ⟨[.int .i64 (gU r 0 2), .int .i64 (gU r 2 2), .int .i64 0, .int .i64 0], 1, false⟩);have u6 := hu 6 (by omega) (by omega) _ (hx2.push ⟨[.int .i64 (gU r 0 2), .int .i64 (gU r 2 2), .int .i64 (gU r 4 2), .int .i64 0], 1, false⟩);rw [hB1, hB2] at u4 u6;simp -implicitDefEqProofs (disch := omega) at hCut;simp -implicitDefEqProofs (disch := omega) [ζ8, hcn, hM, hlen2, hCut, u0, u2, u4, u6, hq2, ← hPe, ζ4w, hj3]
theorem ζoh (rs : List (List Int)) (r : List Int) : needR (rs ++ [r]) = max (needR rs) (needL r) := by
 unfold needR;rw [List.flatten_append, ζ5d];simp
theorem ζ75 (rs : List (List Int)) : 0 ≤ needR rs := ζ74 _
theorem rowK_lt {rv : List Int} (hb : Byt rv) {n : Int} {k : Nat} {r : List Int} (h : rowK rv n k = some r) : ∀ y, y ∈ r → 0 ≤ y ∧ y < 65536 := by
 unfold rowK listS at h;obtain ⟨q, hq, rfl⟩ := Option.map_eq_some_iff.1 h;have hqb := (hb.piece (ζ35 hq)).1;intro y hy;obtain ⟨c, hc, rfl⟩ := List.mem_map.1 hy;obtain ⟨h5, h6⟩ := ζcw hqb _ _ hc;have := ζgv c h5;have hp : (256 : Int) ^ c.length ≤ 256 ^ 2 := by
  have : c.length ≤ 2 := h6
  match hcl : c.length, this with
  | 0, _ => decide
  | 1, _ => decide
  | 2, _ => decide
 omega
theorem ζfo {rv : List Int} (hb : Byt rv) {n : Int} {m : Nat} {rs : List (List Int)} (h : rowsTo rv n m = some rs) : needR rs ≤ 65536 := needL_lt (by omega) fun y hy => by
 obtain ⟨r, hrm, hy⟩ := List.mem_flatten.1 hy;obtain ⟨i, hi⟩ := List.getElem?_of_mem hrm;obtain ⟨k, _, hk⟩ := mapO_get h hi;exact (rowK_lt hb hk y hy).2
theorem ζhn {β : Type} {f : Nat → Option β} {n m : Nat} (h : n ≤ m) (hn : mapO f (List.range n) = none) : mapO f (List.range m) = none := by
 cases hm : mapO f (List.range m) with
 | none => rfl
 | some r => rw [ζfl h hm] at hn; cases hn
section
variable (k : Nat) {H0 : Heap} {X : List It} {c r : Nat} {n : Int} {tab vR vE : Value} {rv ev : List Int} {w : Int}
 (hn : 0 ≤ n ∧ n ≤ 65535) (hw : w = 0 ∨ w = 1 ∨ w = 2) (hvR : Sl H0 1 vR encB rv) (hvE : Sl H0 1 vE encB ev) (hbR : Byt rv) (hbE : Byt ev) (hlR : rv.length < 2 ^ 31) (hlE : ev.length < 2 ^ 31)
 (hX : itBlk r ⟨[ptrV c, vR, vE, .int .i64 w], 1, false⟩ ∈ X)
include hn hvR hvE hbR hlR hX
theorem ζqa {H : Heap} (s : Nat) (hs : s ≤ 65536) {rs : List (List Int)} {es : List En} (h : MS H0 H X c n tab rs es) (hrs : rs.length ≤ s) (ht : rowsTo rv n rs.length = some rs) :
  (∃ rs' H', loopN (ζ4g k (R (T k))) loopFuel [(8, ptrV c), (9, ptrV r), (10, .int .i64 s), (11, .int .i64 (needR rs))] H = .ok (.exit 2, [(8, ptrV c), (9, ptrV r), (10, .int .i64 s), (11, .int .i64 (needR rs')), (63, .bool false)]) H' ∧ rowsTo rv n s = some rs' ∧ MS H0 H' X c n tab rs' es) ∨
  (∃ H', loopN (ζ4g k (R (T k))) loopFuel [(8, ptrV c), (9, ptrV r), (10, .int .i64 s), (11, .int .i64 (needR rs))] H = .panic failV H' ∧ Ext H0 H' ∧ rowsTo rv n s = none) := by
 rcases loopDecP (body := ζ4g k (R (T k)))
  (fun m e H' => ∃ rs, m = s - rs.length ∧ rs.length ≤ s ∧ e = [(8, ptrV c), (9, ptrV r), (10, .int .i64 s), (11, .int .i64 (needR rs))] ∧ rowsTo rv n rs.length = some rs ∧ MS H0 H' X c n tab rs es)
  (fun x e H' => ∃ rs', x = .exit 2 ∧ e = [(8, ptrV c), (9, ptrV r), (10, .int .i64 s), (11, .int .i64 (needR rs')), (63, .bool false)] ∧ rowsTo rv n s = some rs' ∧ MS H0 H' X c n tab rs' es)
  (fun v H' => v = failV ∧ Ext H0 H' ∧ rowsTo rv n s = none)
  (s - rs.length) (e0 := [(8, ptrV c), (9, ptrV r), (10, .int .i64 s), (11, .int .i64 (needR rs))]) (H0 := H) ⟨rs, rfl, hrs, rfl, ht, h⟩ (by omega)
  (fun m e H' ⟨rs, hm, hle, he, ht, h⟩ => by
   subst he;obtain ⟨s1, s2, hM, hl1, hl2⟩ := h.here;have hr := h.memX hX;have h0 := ζ75 rs;have h6 := ζfo hbR ht;by_cases hlt : rs.length < s
   ·have hlt' : (rs.length : Int) < s := by omega
    have hrow := row_run k h hn (by omega) (vE := vE) w (hvR.up h.ext) (rd_vw hvE) hbR hlR;cases hK : rowK rv n rs.length with
    | none =>
     rw [hK] at hrow;refine .inr (.inr ⟨failV, H', ?_, rfl, h.ext, ζhn (n := rs.length + 1) hlt ?_⟩)
     ·rw [ζ79];simp -implicitDefEqProofs (disch := omega) [hM, hl1, hlt', hr, hrow]
     ·rw [ζ87, show mapO (rowK rv n) (List.range rs.length) = some rs from ht, Option.bind_some, hK];rfl
    | some row =>
     rw [hK] at hrow;obtain ⟨H2, e2, h2⟩ := hrow;have hmax : (if needL row > needR rs then needL row else needR rs) = needR (rs ++ [row]) := by rw [ζoh]; split <;> omega
     refine .inl ⟨s - (rs ++ [row]).length, _, H2, ?_, by simp; omega, rs ++ [row], rfl, by simp; omega, rfl, ?_, h2⟩
     ·rw [ζ79, ← hmax];simp -implicitDefEqProofs (disch := omega) [hM, hl1, hlt', hr, e2]
     ·rw [List.length_append, List.length_singleton];unfold rowsTo at ht ⊢;rw [ζ87, ht, Option.bind_some, hK];rfl
   ·have hlt' : ¬ (rs.length : Int) < s := by omega
    refine .inr (.inl ⟨.exit 2, _, H', ?_, by simp, rs, rfl, rfl, by rw [show s = rs.length by omega]; exact ht, h⟩);rw [ζ79];simp -implicitDefEqProofs (disch := omega) [hM, hl1, hlt']) with ⟨x, e', H', h1, rs', rfl, rfl, h2, h3⟩ | ⟨v, H', h1, rfl, h2, h3⟩
 ·exact .inl ⟨rs', H', h1, h2, h3⟩
 ·exact .inr ⟨H', h1, h2, h3⟩
end
section
variable (k : Nat) {H0 : Heap} {X : List It} {c r : Nat} {n : Int} {tab vR vE : Value} {rv ev : List Int} {w : Int}
 (hn : 0 ≤ n ∧ n ≤ 65535) (hw : w = 0 ∨ w = 1 ∨ w = 2) (hvR : Sl H0 1 vR encB rv) (hvE : Sl H0 1 vE encB ev) (hbR : Byt rv) (hbE : Byt ev) (hlR : rv.length < 2 ^ 31) (hlE : ev.length < 2 ^ 31)
 (hX : itBlk r ⟨[ptrV c, vR, vE, .int .i64 w], 1, false⟩ ∈ X)
include hw hvR hvE hbE hlE hX
theorem ζpk {H : Heap} (s : Int) (hs : 2 ≤ s ∧ s ≤ 65536) (N : Nat) (hN : N ≤ 65536) {rs : List (List Int)} {es : List En} (h : MS H0 H X c n tab rs es) (hes : es.length ≤ N) (ht : entsTo ev w es.length = some es) (hsn : needE es ≤ s) :
  (∃ es' H', loopN (ζ4h k (R (T k))) loopFuel [(8, ptrV c), (9, ptrV r), (10, .int .i64 s), (11, .int .i64 N)] H = .ok (.exit 4, [(8, ptrV c), (9, ptrV r), (10, .int .i64 (max s (needE es'))), (11, .int .i64 N), (74, .bool false)]) H' ∧ entsTo ev w N = some es' ∧ MS H0 H' X c n tab rs es') ∨
  (∃ H', loopN (ζ4h k (R (T k))) loopFuel [(8, ptrV c), (9, ptrV r), (10, .int .i64 s), (11, .int .i64 N)] H = .panic failV H' ∧ Ext H0 H' ∧ entsTo ev w N = none) := by
 rcases loopDecP (body := ζ4h k (R (T k)))
  (fun m e H' => ∃ es, m = N - es.length ∧ es.length ≤ N ∧ e = [(8, ptrV c), (9, ptrV r), (10, .int .i64 (max s (needE es))), (11, .int .i64 N)] ∧ entsTo ev w es.length = some es ∧ MS H0 H' X c n tab rs es)
  (fun x e H' => ∃ es', x = .exit 4 ∧ e = [(8, ptrV c), (9, ptrV r), (10, .int .i64 (max s (needE es'))), (11, .int .i64 N), (74, .bool false)] ∧ entsTo ev w N = some es' ∧ MS H0 H' X c n tab rs es')
  (fun v H' => v = failV ∧ Ext H0 H' ∧ entsTo ev w N = none)
  (N - es.length) (e0 := [(8, ptrV c), (9, ptrV r), (10, .int .i64 s), (11, .int .i64 N)]) (H0 := H) ⟨es, rfl, hes, by rw [show max s (needE es) = s by omega], ht, h⟩ (by omega)
  (fun m e H' ⟨es, hm, hle, he, ht, h⟩ => by
   subst he;obtain ⟨s1, s2, hM, hl1, hl2⟩ := h.here;have hr := h.memX hX;have h6 := needE_le hbE ht;by_cases hlt : es.length < N
   ·have hlt' : (es.length : Int) < N := by omega
    have hent := ζpj k h (by omega) (vR := vR) w hw (hvE.up h.ext) (rd_vw hvR) hbE hlE;cases hK : entK ev w es.length with
    | none =>
     rw [hK] at hent;refine .inr (.inr ⟨failV, H', ?_, rfl, h.ext, ζhn (n := es.length + 1) hlt ?_⟩)
     ·rw [ζ7a];simp -implicitDefEqProofs (disch := omega) [hM, hl2, hlt', hr, hent]
     ·rw [ζ87, show mapO (entK ev w) (List.range es.length) = some es from ht, Option.bind_some, hK];rfl
    | some en =>
     rw [hK] at hent;obtain ⟨H2, e2, h2⟩ := hent;have hen : needE (es ++ [en]) = max (needE es) (en.next + 1) := by
      unfold needE;rw [List.map_append, List.map_singleton, ζhp];omega
     have hmax : (if en.next + 1 > max s (needE es) then en.next + 1 else max s (needE es)) = max s (needE (es ++ [en])) := by rw [hen]; split <;> omega
     refine .inl ⟨N - (es ++ [en]).length, _, H2, ?_, by simp; omega, es ++ [en], rfl, by simp; omega, rfl, ?_, h2⟩
     ·rw [ζ7a, ← hmax];simp -implicitDefEqProofs (disch := omega) [hM, hl2, hlt', hr, e2]
     ·rw [List.length_append, List.length_singleton];unfold entsTo at ht ⊢;rw [ζ87, ht, Option.bind_some, hK];rfl
   ·have hlt' : ¬ (es.length : Int) < N := by omega
    refine .inr (.inl ⟨.exit 4, _, H', ?_, by simp, es, rfl, rfl, by rw [show N = es.length by omega]; exact ht, h⟩);rw [ζ7a];simp -implicitDefEqProofs (disch := omega) [hM, hl2, hlt']) with ⟨x, e', H', h1, es', rfl, rfl, h2, h3⟩ | ⟨v, H', h1, rfl, h2, h3⟩
 ·exact .inl ⟨es', H', h1, h2, h3⟩
 ·exact .inr ⟨H', h1, h2, h3⟩
end
section
variable (k : Nat) {H0 : Heap} {X : List It} {c r : Nat} {n : Int} {tab vR vE : Value} {rv ev : List Int} {w : Int}
 (hn : 0 ≤ n ∧ n ≤ 65535) (hw : w = 0 ∨ w = 1 ∨ w = 2) (hvR : Sl H0 1 vR encB rv) (hvE : Sl H0 1 vE encB ev) (hbR : Byt rv) (hbE : Byt ev) (hlR : rv.length < 2 ^ 31) (hlE : ev.length < 2 ^ 31)
 (hX : itBlk r ⟨[ptrV c, vR, vE, .int .i64 w], 1, false⟩ ∈ X)
include hn hw hvR hvE hbR hbE hlR hlE hX
theorem all_loop {H : Heap} (h : MS H0 H X c n tab [] []) :
  Cp failV (Ext H0) (loopN (ζ4f k (R (T k))) loopFuel [(8, ptrV c), (9, ptrV r), (10, .int .i64 2), (11, .int .i64 0)] H) (closeA rv ev n w 2)
   fun x xe H' => (∃ a b, xe = (.exit 0, [(8, ptrV c), (9, ptrV r), (10, a), (11, b), (56, .bool false)])) ∧ MS H0 H' X c n tab x.1 x.2 := by
 rcases loopDecP (body := ζ4f k (R (T k)))
  (fun m e H' => ∃ (s : Nat) (rs : List (List Int)) (es : List En), m = 2 * (65537 - s) + (if rs.length < s then 1 else 0) ∧ e = [(8, ptrV c), (9, ptrV r), (10, .int .i64 s), (11, .int .i64 (needR rs))] ∧ 2 ≤ s ∧ s ≤ 65536 ∧ rs.length ≤ s ∧
   rowsTo rv n rs.length = some rs ∧ es.length = (needR rs).toNat ∧ entsTo ev w es.length = some es ∧ needE es ≤ s ∧ MS H0 H' X c n tab rs es ∧ closeA rv ev n w 2 = if rs.length < s then closeA rv ev n w s else some (rs, es))
  (fun x e H' => x = .exit 0 ∧ ∃ rs es a b, e = [(8, ptrV c), (9, ptrV r), (10, a), (11, b), (56, .bool false)] ∧ closeA rv ev n w 2 = some (rs, es) ∧ MS H0 H' X c n tab rs es)
  (fun v H' => v = failV ∧ Ext H0 H' ∧ closeA rv ev n w 2 = none)
  (2 * 65535 + 1) (e0 := [(8, ptrV c), (9, ptrV r), (10, .int .i64 2), (11, .int .i64 0)]) (H0 := H) ⟨2, [], [], rfl, rfl, by omega, by omega, by simp, rfl, rfl, rfl, (by decide), h, rfl⟩ (by omega)
  (fun m e H' ⟨s, rs, es, hm, he, hs2, hs6, hrs, ht, hel, hte, hne, h, hspec⟩ => by
   subst he;obtain ⟨s1, s2, hM, hl1, hl2⟩ := h.here;have h0 := ζ75 rs;by_cases hlt : rs.length < s
   ·have hlt' : (rs.length : Int) < s := by omega
    rw [if_pos hlt] at hspec;have hce := ζlu (rv := rv) hbE (n := n) (w := w) hs6;have hgo : ∀ x, (loopN (ζ4g k (R (T k))) loopFuel [(8, ptrV c), (9, ptrV r), (10, .int .i64 s), (11, .int .i64 (needR rs))] H').bind (fun r111 h112 => ζ98 k (R (T k)) r111.1 r111.2 h112) = x → ζ4f k (R (T k)) [(8, ptrV c), (9, ptrV r), (10, .int .i64 s), (11, .int .i64 (needR rs))] H' = x := fun x hx => by
     rw [← hx, ζa1];simp -implicitDefEqProofs (disch := omega) [hM, hl1, hlt']
    rcases ζqa k hn hvR hvE hbR hlR hX s hs6 h hrs ht with ⟨rs', H2, e2, ht2, h2⟩ | ⟨H2, e2, hx2, ht2⟩
    rotate_left
    ·refine .inr (.inr ⟨failV, H2, hgo _ ?_, rfl, hx2, by rw [hspec, hce, ht2]; rfl⟩);rw [e2]; rfl
    have hrl : rs'.length = s := by have := mapO_len ht2; simpa using this
    have hn2 := ζ75 rs';have hn6 := ζfo hbR ht2;have hpre : rs = rs'.take rs.length := by
     have := ζfl hrs ht2;have ht' : mapO (rowK rv n) (List.range rs.length) = some rs := ht;rw [ht'] at this;injection this
    have hmono : needR rs ≤ needR rs' := by
     conv => lhs; rw [hpre]
     have := List.take_append_drop rs.length rs';conv => rhs; rw [← this]
     unfold needR;rw [List.flatten_append, ζ5d];omega
    have hNN : ((needR rs').toNat : Int) = needR rs' := by omega
    rw [hspec] at *;rw [ht2, Option.bind_some] at hce;have hgo2 : ∀ x, (loopN (ζ4h k (R (T k))) loopFuel [(8, ptrV c), (9, ptrV r), (10, .int .i64 s), (11, .int .i64 (((needR rs').toNat : Nat) : Int))] H2).bind (fun r111 h112 => ζ99 k (R (T k)) r111.1 r111.2 h112) = x → ζ4f k (R (T k)) [(8, ptrV c), (9, ptrV r), (10, .int .i64 s), (11, .int .i64 (needR rs))] H' = x := fun x hx => by
     refine hgo x ?_;rw [e2, ← hx, Res.bind_ok, ζg8, hNN]
    rcases ζpk k hw hvR hvE hbE hlE hX s (by omega) (needR rs').toNat (by omega) h2 (by omega) hte hne with ⟨es', H3, e3, ht3, h3⟩ | ⟨H3, e3, hx3, ht3⟩
    rotate_left
    ·refine .inr (.inr ⟨failV, H3, hgo2 _ ?_, rfl, hx3, by rw [hce, ht3]; rfl⟩);rw [e3]; rfl
    have hE := needE_le hbE ht3;have hel' : es'.length = (needR rs').toNat := by have := mapO_len ht3; simpa using this
    rw [ht3, Option.bind_some] at hce;have hmx : ((max s (needE es').toNat : Nat) : Int) = max (s : Int) (needE es') := by omega
    refine .inl ⟨2 * (65537 - max s (needE es').toNat) + (if rs'.length < max s (needE es').toNat then 1 else 0), _, H3, hgo2 _ ?_, ?_, max s (needE es').toNat, rs', es', rfl, rfl, by omega, by omega, by omega, by rw [hrl]; exact ht2, hel', by rw [hel']; exact ht3, by omega, h3, ?_⟩
    ·rw [e3, Res.bind_ok, ζg9, hmx, hNN]
    ·rw [hm, if_pos hlt, hrl];split <;> omega
    ·rw [hce, hrl];by_cases hcl : (needE es').toNat ≤ s
     ·rw [if_pos hcl, if_neg (by omega)]
     ·rw [if_neg hcl, if_pos (by omega), show max s (needE es').toNat = (needE es').toNat by omega]
   ·have hlt' : ¬ (rs.length : Int) < s := by omega
    have hlt2 : ¬ (es.length : Int) < needR rs := by omega
    rw [if_neg hlt] at hspec;refine .inr (.inl ⟨.exit 0, [(8, ptrV c), (9, ptrV r), (10, .int .i64 s), (11, .int .i64 (needR rs)), (56, .bool false)], H', ?_, by simp, rfl, rs, es, _, _, rfl, hspec, h⟩);rw [ζa1];simp -implicitDefEqProofs (disch := omega) [hM, hl1, hl2, hlt', hlt2]) with ⟨x, e', H', h1, rfl, rs', es', a, b, rfl, h2, h3⟩ | ⟨v, H', h1, rfl, h2, h3⟩
 ·rw [h2];exact ⟨_, H', h1, h3.ext, ⟨a, b, rfl⟩, h3⟩
 ·rw [h3];exact ⟨H', h1, h2⟩
end
end Go.Sw
end
section
namespace Go.Sw
open Go.RowKit
abbrev machV (m : Mach) : Value := boxV #[.int .i64 m.classes, tabV m.tab, lv encRow m.rows, lv encEn m.ents]
theorem Flat.rowsL (l : List (List Int)) : Flat (Go.Sw.lv encRow l) := .lv fun p _ => .cons (Flat.I _) .nil
theorem Flat.mach (m : Mach) : Flat (machV m) := .boxV (l := [.int .i64 m.classes, tabV m.tab, Go.Sw.lv encRow m.rows, Go.Sw.lv encEn m.ents]) (.cons (.int _ _) (.cons (Flat.tab _) (.cons (Flat.rowsL _) (.cons (Flat.Ens _) .nil))))
theorem ζq9 (l : List (List Int × Value)) : rows (fun x : List Int × Value => encRow x.1) l = rows encRow (l.map Prod.fst) := by
 induction l with
 | nil => rfl
 | cons x l ih => rw [List.map_cons, ζ4u, ζ4u, ih]
theorem MS.freeze {H0 H : Heap} {X : List It} {c : Nat} {n : Int} {t : Int × List Pt} {rs : List (List Int)} {es : List En} (h : MS H0 H X c n (tabV t) rs es) : ∃ L, fzV H0.n H fzDepth (ptrV c) = some (machV ⟨n, t, rs, es⟩, L) := by
 obtain ⟨l, s1, o1, s2, o2, bs, h1, g, h3⟩ := h;have hc := (g.lt 0 rfl c (by simp [itBlk])).1;obtain ⟨L1, f1⟩ := (g.own 1 rfl).freezeG (enc' := fun x : List Int × Value => encRow x.1) encU_len 5 fun x hx => by
  obtain ⟨o, ho⟩ := h3 x hx;obtain ⟨L, hL⟩ := (g.memOwn (o := o) (m := 1) (s := x.2) (enc := encI) (l := x.1) (by simp [ho])).freeze encI_len (ζ5s _) 4;exact ⟨_, mapF_one hL⟩
 obtain ⟨L2, f2⟩ := (g.own 2 rfl).freeze ζ8x (ζj3 _) 5;have e1 : lv (fun x : List Int × Value => encRow x.1) l = lv encRow rs := by
  unfold lv;rw [ζq9, h1, ← h1, List.length_map]
 rw [e1] at f1;exact ⟨_, fz_box hc (g.get 0 rfl) (ζ14 (v := .int .i64 n) (u := .int .i64 n) (L1 := []) rfl (ζ14 (v := tabV t) (u := tabV t) (L1 := []) rfl (ζ14 f1 (mapF_one f2))))⟩
theorem restS_sl {H : Heap} {v : Value} {b r : List Int} (hv : Sl H 1 v encB b) {i : Int} (hl : b.length < 2 ^ 62) (hi : i ≤ 9223372036854775807) (h : restS b i = some r) : Sl H 1 (subV 1 v i.toNat (behind b i).toNat) encB r :=
 ζ3u hv (by rw [ζe6 b i hl hi]; exact h)
theorem ζ7o {b r : List Int} {i : Int} (h : restS b i = some r) : r.length ≤ b.length := by
 unfold restS at h;split at h
 ·injection h with h;subst h;simp
 ·cases h
theorem ζlb (k : Nat) {H : Heap} {v : Value} {b : List Int} (hv : Sl H 1 v encB b) (hb : Byt b) (g w : Int) (hg1 : 1 ≤ g) (hg2 : g ≤ 65535) (hw : w = 0 ∨ w = 1 ∨ w = 2) (hl : b.length < 2 ^ 31) :
  R (T k) F.ζ2n [.agg #[v], .int .i64 g, .int .i64 w] H = orF (machS b g w) machV H := by
 rw [ζls];have hx : Ext H (H.push ⟨[v], 1, false⟩) := (Ext.refl H).push _;have hq := rd_vw hv;have hqa : veq (.agg #[v]) (.agg #[v]) = true := veq_agg (l := [v]) fun u hu => by simp at hu; subst hu; exact hq
 refine fz_orF ?_ fun _ _ => (Flat.mach _).alive;simp -implicitDefEqProofs [ζ2n];unfold machS;refine Cp.call (U32_run k (hv.up hx) hb 0 (by omega)) hx fun n hn => ?_;have hn := uS_four hb hn;by_cases h4 : 4 ≤ n;rotate_left
 ·have h4' : ¬ n ≥ 4 := by omega
  rw [if_neg (fun h => h4 h.1)];simp -implicitDefEqProofs (disch := omega) [h4'];exact .throw hx
 have h4' : n ≥ 4 := h4;by_cases h5 : n ≤ 65535;rotate_left
 ·rw [if_neg (fun h => h5 h.2)];simp -implicitDefEqProofs (disch := omega) [h4', h5];exact .throw hx
 rw [if_pos ⟨h4, h5⟩];simp -implicitDefEqProofs (disch := omega) [h4', h5];refine Cp.callT (U32_run k (hv.up hx) hb 4 (by omega)) (fun _ => ⟨_, rfl, hx⟩) fun i hi => ?_;have hi := uS_four hb hi;refine Cp.callT (Rest_run k (hv.up hx) i (by omega) (by omega)) (fun _ => ⟨_, by simp -implicitDefEqProofs (disch := omega) [hqa], hx⟩) fun tb htb => ?_;refine Cp.callT (ζln k (restS_sl (hv.up hx) (by omega) (by omega) htb) (hb.rest htb) g 2 hg1 hg2 (.inl rfl) (by have := ζ7o htb; omega)) (fun _ => ⟨_, by simp -implicitDefEqProofs (disch := omega) [hqa], hx⟩) fun tab htab => ?_;have hx2 : Ext H ((H.push ⟨[v], 1, false⟩).push ⟨[.int .i64 n, tabV tab, .slice none 0 0, .slice none 0 0], 1, false⟩) := hx.push _;simp -implicitDefEqProofs (disch := omega) [hqa];refine Cp.callT (U32_run k (hv.up hx2) hb 8 (by omega)) (fun _ => ⟨_, by simp -implicitDefEqProofs (disch := omega) [hqa], hx2⟩) fun j hj => ?_;have hj := uS_four hb hj;refine Cp.callT (Rest_run k (hv.up hx2) j (by omega) (by omega)) (fun _ => ⟨_, by simp -implicitDefEqProofs (disch := omega) [hqa], hx2⟩) fun rv hrv => ?_;simp -implicitDefEqProofs (disch := omega) [hqa];refine Cp.callT (U32_run k (hv.up hx2) hb 12 (by omega)) (fun _ => ⟨_, by simp -implicitDefEqProofs (disch := omega) [hqa], hx2⟩) fun q hq => ?_;have hq := uS_four hb hq;refine Cp.callT (Rest_run k (hv.up hx2) q (by omega) (by omega)) (fun _ => ⟨_, by simp -implicitDefEqProofs (disch := omega) [hqa], hx2⟩) fun ev hev => ?_;have sR := restS_sl hv (by omega) (by omega) hrv;have sE := restS_sl hv (by omega) (by omega) hev;have lR := ζ7o hrv;have lE := ζ7o hev;generalize subV 1 v j.toNat (behind b j).toNat = vR at sR;generalize subV 1 v q.toNat (behind b q).toNat = vE at sE;have qR := rd_vw sR;have qE := rd_vw sE;have qaR : veq (.agg #[vR]) (.agg #[vR]) = true := veq_agg (l := [vR]) fun u hu => by simp at hu; subst hu; exact qR
 have qaE : veq (.agg #[vE]) (.agg #[vE]) = true := veq_agg (l := [vE]) fun u hu => by simp at hu; subst hu; exact qE
 have stR := sR.storable;have stE := sE.storable;have ceR := sR.cells;have ceE := sE.cells;have hms : MS H (((H.push ⟨[v], 1, false⟩).push ⟨[.int .i64 n, tabV tab, .slice none 0 0, .slice none 0 0], 1, false⟩).push ⟨[ptrV (H.n + 1), vR, vE, .int .i64 w], 1, false⟩) [itBlk (H.n + 2) ⟨[ptrV (H.n + 1), vR, vE, .int .i64 w], 1, false⟩] (H.n + 1) n (tabV tab) [] [] := by
  have g := ((Star.nil H).rest hx).push ⟨[.int .i64 n, tabV tab, .slice none 0 0, .slice none 0 0], 1, false⟩;have g := g.more_row (Ext.refl _) (OwnO.nil encU _ 1) (fun b hb => by cases hb);have g := g.more_row (Ext.refl _) (OwnO.nil encEn _ 4) (fun b hb => by cases hb);have g := g.push ⟨[ptrV (H.n + 1), vR, vE, .int .i64 w], 1, false⟩;exact ⟨[], _, none, _, none, [], rfl, by simpa using g, fun x hx => by cases hx⟩
 simp -implicitDefEqProofs (disch := omega) [hqa, qaR, qaE, stR, stE, ceR, ceE];refine Cp.bindM (all_loop k (X := [itBlk (H.n + 2) ⟨[ptrV (H.n + 1), vR, vE, .int .i64 w], 1, false⟩]) (by omega) hw sR sE (hb.rest hrv) (hb.rest hev) (by omega) (by omega) (by simp) hms) ?_;rintro ⟨rs, es⟩ ⟨x, e⟩ H' _ hx' ⟨⟨a, b, he⟩, hm⟩;injection he with e1 e2;subst e1 e2;simp only [ζg7];exact .ok hx' hm.freeze
end Go.Sw
end
section
set_option maxRecDepth 100000
set_option linter.unusedVariables false
namespace Go.Sw
noncomputable section
end
end Go.Sw
end
section
namespace Go.Sw
open Go.RowKit
theorem subV_lv (b : List Int) (a n : Nat) (h : a + n ≤ b.length) : subV 1 (lv encB b) a n = lv encB ((b.drop a).take n) := by
 have h2 := ((Sl.lv Heap.empty 1 b).sub encB_len .i64 .i64 .i64 a n h).1 Heap.empty (Ext.refl _);rw [slS_lv encB_len b _ _ _ a (a + n) (a + n) (by simp [boundOf]) (by unfold boundOf; dsimp only; rw [if_pos (by omega), Int.toNat_natCast]) (by unfold boundOf; dsimp only; rw [if_pos (by omega), Int.toNat_natCast]) (fun _ => rfl) (by omega) (Nat.le_refl _) h] at h2;injection h2 with h2;rw [← h2, List.drop_take, show a + n - a = n by omega]
theorem piece_lv {b r : List Int} {i n : Int} (h : pieceS b i n = some r) : subV 1 (lv encB b) i.toNat n.toNat = lv encB r := by
 obtain ⟨h1, rfl⟩ := ζ45.1 h;exact subV_lv b _ _ (by omega)
theorem ζpz {α : Type} {o : Option α} {f g : α → Value} (h : ∀ a, o = some a → f a = g a) (H : Heap) : orF o f H = orF o g H := by
 cases o with
 | none => rfl
 | some a => show Res.ok (f a) H = Res.ok (g a) H; rw [h a rfl]
abbrev vwB (b : List Int) : Value := .agg #[lv encB b]
theorem Rest_lv (k : Nat) (b : List Int) (i : Int) (hl : b.length < 2 ^ 62) (hi : i ≤ 9223372036854775807) (H : Heap) : R (T k) F.ζ1g [vwB b, .int .i64 i] H = orF (restS b i) vwB H :=
 (Rest_run k (Sl.lv H 1 b) i hl hi).trans (ζpz (fun r hr => by rw [piece_lv (by rw [ζe6 b i hl hi]; exact hr)]) H)
theorem Of_lv (k : Nat) (b : List Int) (H : Heap) : R (T k) F.view_Of [lv encB b] H = .ok (vwB b) H := Of_run k (Sl.lv H 1 b)
theorem ζp0 (k : Nat) {H : Heap} {v : Value} {b : List Int} (hv : Sl H 1 v encB b) (hl : b.length ≤ 2 ^ 30) : R (T k) F.ζ3g [.agg #[v]] H = .ok (lv encB b) H := by
 rw [ζgl];have g := (Star.nil H).push ⟨[v], 1, false⟩;have g := g.more_row (Ext.refl _) (OwnO.bare encB _ 1) (fun b hb => by cases hb);obtain ⟨s, o, H1, e1, g⟩ := g.append (bytes := 1) 1 encB_len rfl (b := v) (l2 := b) (ζgr hv.lenL) ((hv.up g.ext).first encB_len) (by simp; omega) (by decide);simp only [List.nil_append, List.cons_append, List.set_cons_zero, List.set_cons_succ] at g;obtain ⟨L, hf⟩ := (g.own 1 rfl).freeze encB_len (fun n _ v hv => by simp at hv; subst hv; trivial) 6;refine nrm_fz (v := s) (H' := H1) ?_ hf g.ext (Flat.B b).alive;simp -implicitDefEqProofs [ζ3g, e1]
theorem veq_Pt (l : List Pt) : veq (lv encPt l) (lv encPt l) = true := veq_lv fun p _ v hv => by
 simp [encPt] at hv;rcases hv with rfl | rfl | rfl <;> simp
theorem veq_tab (x : Int × List Pt) : veq (boxV #[.int .i64 x.1, lv encPt x.2]) (boxV #[.int .i64 x.1, lv encPt x.2]) = true := veq_boxV (l := [.int .i64 x.1, lv encPt x.2]) fun v hv => by
 simp at hv;rcases hv with rfl | rfl
 ·simp
 ·exact veq_Pt _
end Go.Sw
end
section
namespace Go.Sw
open Go.RowKit
theorem ζp1 (k : Nat) (m : Mach) (hm : m.ok) (id : Int) (H : Heap) : R (T k) F.ζ17 [machV m, .int .i64 id] H = .ok (.int .i64 (classS m id)) H := by
 rw [ζd6];refine nrm_gc (Pure.of ?_) (.int _ _);have hget := fun H => Get_run k m.tab hm.pts hm.rise id hm.plen H;unfold classS;by_cases h : id = 65535
 ·subst h;simp -implicitDefEqProofs (disch := omega) [ζ17]
 ·have h' : (id == 65535) = false := by simpa using h
  rw [if_neg h];cases hg : getS m.tab.2 id with
  | none =>
   rw [hg] at hget;simp -implicitDefEqProofs (disch := omega) [ζ17, h', hget]
  | some x =>
   rw [hg] at hget;dsimp only;by_cases hx : x < m.classes
   ·simp -implicitDefEqProofs (disch := omega) [ζ17, h', hget, hx]
   ·simp -implicitDefEqProofs (disch := omega) [ζ17, h', hget, hx]
def encEA (o : Option En) : Value := .agg (encEn (o.getD ⟨0, 0, 0, 0⟩)).toArray
theorem ζh3 (o : Option En) : Flat (encEA o) := Flat.ofEn _
theorem ζi6 {m : Mach} (hm : m.ok) {s c : Int} (h : 0 ≤ s ∧ s < m.rows.length ∧ 0 ≤ c ∧ c < m.classes) :
  ∃ r x e, m.rows[s.toNat]? = some r ∧ r[c.toNat]? = some x ∧ 0 ≤ x ∧ m.ents[x.toNat]? = some e ∧ stepS m s c = some e := by
 obtain ⟨r, hr⟩ : ∃ r, m.rows[s.toNat]? = some r := ⟨_, List.getElem?_eq_getElem (by omega)⟩
 have hrm := hm.row r (List.mem_of_getElem? hr);obtain ⟨x, hx⟩ : ∃ x, r[c.toNat]? = some x := ⟨_, List.getElem?_eq_getElem (by omega)⟩
 have hxm := hrm.2 x (List.mem_of_getElem? hx);obtain ⟨e, he⟩ : ∃ e, m.ents[x.toNat]? = some e := ⟨_, List.getElem?_eq_getElem (by omega)⟩
 refine ⟨r, x, e, hr, hx, hxm.1, he, ?_⟩;unfold stepS;rw [if_pos h, hr, Option.bind_some, hx, Option.bind_some, he]
theorem Step_run (k : Nat) (m : Mach) (hm : m.ok) (s c : Int) (H : Heap) : R (T k) F.ζ15 [machV m, .int .i64 s, .int .i64 c] H = .ok (.tuple #[encEA (stepS m s c), .bool (stepS m s c).isSome]) H := by
 rw [ζef];have fl : Flat (.tuple #[encEA (stepS m s c), .bool (stepS m s c).isSome]) := .tupleL (.cons (ζh3 _) (.cons (.bool _) .nil));have no : ¬ (0 ≤ s ∧ s < m.rows.length ∧ 0 ≤ c ∧ c < m.classes) → stepS m s c = none := fun h => by unfold stepS; rw [if_neg h]
 have hx : Ext H (H.push ⟨[.int .i64 0, .int .i64 0, .int .i64 0, .int .i64 0], 1, false⟩) := (Ext.refl H).push _;by_cases h1 : s < 0
 ·rw [no (by omega)] at fl ⊢;refine nrm_gc ⟨_, ?_, hx⟩ fl.alive;simp -implicitDefEqProofs (disch := omega) [ζ15, h1, encEA]
 by_cases h2 : s ≥ m.rows.length
 ·rw [no (by omega)] at fl ⊢;refine nrm_gc ⟨_, ?_, hx⟩ fl.alive;simp -implicitDefEqProofs (disch := omega) [ζ15, h1, h2, encEA]
 by_cases h3 : c < 0
 ·rw [no (by omega)] at fl ⊢;refine nrm_gc ⟨_, ?_, hx⟩ fl.alive;simp -implicitDefEqProofs (disch := omega) [ζ15, h1, h2, h3, encEA]
 by_cases h4 : c ≥ m.classes
 ·rw [no (by omega)] at fl ⊢;refine nrm_gc ⟨_, ?_, hx⟩ fl.alive;simp -implicitDefEqProofs (disch := omega) [ζ15, h1, h2, h3, h4, encEA]
 obtain ⟨r, x, e, hr, hxx, hx0, he, hs⟩ := ζi6 hm (s := s) (c := c) (by omega);rw [hs] at fl ⊢;have i1 := fun H' => ixS_lv ζo2 m.rows .i64 s r (by omega) hr H';have i2 := fun H' => ixS_lv encI_len r .i64 c x (by omega) hxx H';have i3 := fun H' => ixS_lv ζ8x m.ents .i64 x e hx0 he H';refine nrm_gc ⟨H.push ⟨encEn e, 1, false⟩, ?_, (Ext.refl H).push _⟩ fl.alive;simp -implicitDefEqProofs (disch := omega) [ζ15, h1, h2, h3, h4, i1, i2, i3, encEA]
theorem ζmt (k : Nat) (hk : k < 1000000) (m : Mach) (hl : m.ents.length ≤ 65536) (H : Heap) : R (T k) F.ζ1w [machV m] H = .ok (lv encEn m.ents) H := by
 have ho : own k = .fz := by unfold own; rw [show Nat.blt k 1000000 = true from Nat.ble_eq_true_of_le hk]; rfl
 rw [ζ9n, ho];have g := (Star.nil H).more_row (Ext.refl _) (OwnO.bare encEn _ 4) (fun b hb => by cases hb);obtain ⟨s, o, H1, e1, g⟩ := g.append (bytes := 32) 0 ζ8x rfl (b := lv encEn m.ents) (l2 := m.ents) rfl (lv_first ζ8x m.ents H) (by simp; omega) (by decide);simp only [List.nil_append, List.set_cons_zero] at g;obtain ⟨L, hf⟩ := (g.own 0 rfl).freeze ζ8x (ζj3 _) 6;refine nrm_fz (v := s) (H' := H1) ?_ hf g.ext (Flat.Ens _).alive;simp -implicitDefEqProofs (disch := omega) [ζ1w, e1]
end Go.Sw
end
section
namespace Go.Sw
open Go.RowKit
structure CTab where
 m : Mach
 subs : List (Int × List Pt)
end Go.Sw
end
section
set_option maxRecDepth 100000
set_option linter.unusedVariables false
namespace Go.Sw
noncomputable section
end
end Go.Sw
end
section
namespace Go.Sw
open Go.RowKit
structure Plan where
 cls : List Int
 rows : List (List Int)
 ents : List En
 wide : Int
abbrev encBR (r : List Int) : List Value := [lv encB r]
theorem ζph (r : List Int) : (encBR r).length = 1 := rfl
def twos (l : List Int) : List Int := (l.map fun c => bytesOf c 2).flatten
def rowL (n : Nat) (r : List Int) : List Int := (List.range n).map fun i => r[i]?.getD 0
def rowsL (n : Nat) (rs : List (List Int)) : List Int := (rs.map fun r => twos (rowL n r)).flatten
def Plan.ok (p : Plan) : Prop := Byt p.cls ∧ (∀ r, r ∈ p.rows → Byt r) ∧ 0 ≤ p.wide ∧ p.wide < 256
end Go.Sw
end
section
set_option maxRecDepth 100000
set_option linter.unusedVariables false
namespace Go.Sw
noncomputable section
def ζ5g (k : Nat) (call : Caller) : Env → Heap → Res (AExit × Env) := loopB (C k) call F.ζ5 [1, 1, 1, 1, 0, 1, 0, 0]
def ζ7p (k : Nat) (call : Caller) : Kont Value := kBlock 0 (kSeq (pieceK (C k) call F.ζ5 [1, 1, 1, 1, 1]) (kDone Prog (resOf Prog F.ζ5)))
def ζ8b (k : Nat) (call : Caller) (a0 a3 a11 a12 a13 a60 : Value) (h : Heap) : Res Value :=
 kSeq (pieceK (C k) call F.ζ5 [1, 1, 1, 1, 1, 1]) (kDone Prog (resOf Prog F.ζ5)) .normal [(0, a0), (3, a3), (11, a11), (12, a12), (13, a13), (60, a60)] h
def ζ5h (k : Nat) (call : Caller) : Env → Heap → Res (AExit × Env) := loopB (C k) call F.ζ5 [1, 1, 1, 1, 1, 0, 1, 0, 1, 0, 1, 0, 0]
def ζ7q (k : Nat) (call : Caller) : Kont Value := kBlock 2 (kSeq (pieceK (C k) call F.ζ5 [1, 1, 1, 1, 1, 0, 1, 0, 1, 1]) (kSeq (pieceK (C k) call F.ζ5 [1, 1, 1, 1, 1, 1]) (kDone Prog (resOf Prog F.ζ5))))
def ζ8c (k : Nat) (call : Caller) (a11 a13 : Value) (h : Heap) : Res Value :=
 kSeq (pieceK (C k) call F.ζ5 [1, 1, 1, 1, 1, 1]) (kDone Prog (resOf Prog F.ζ5)) .normal [(11, a11), (13, a13)] h
def ζ8d (k : Nat) (call : Caller) (a11 a12 a13 a80 : Value) (h : Heap) : Res Value :=
 kSeq (pieceK (C k) call F.ζ5 [1, 1, 1, 1, 1, 1]) (kDone Prog (resOf Prog F.ζ5)) .normal [(11, a11), (12, a12), (13, a13), (80, a80)] h
def ζ5 (k : Nat) (call : Caller) (a0 a1 a2 a3 : Value) (h : Heap) : Res Value :=
 (call F.ζ1 [a0, a1, (.int .i64 2)] h).bind fun v1 h2 =>
 (binR Prog .add 3 a1 (.int .i64 2) h2).bind fun v3 h4 =>
 (call F.ζ1 [a0, v3, (.int .i64 2)] h4).bind fun v5 h6 =>
 (builtinV Prog .len [22] [a0] h6).bind fun v7 h8 =>
 (call F.ζ2e [v7, a1, (.int .i64 10)] h8).bind fun v9 h10 =>
 (unR .not v9 h10).bind fun v11 h12 =>
 ((bif wantVal v11 false then Res.ok v1 h12 else Res.ok undef h12)).bind fun v13 h14 =>
 ((bif wantVal v11 false then Res.ok a2 h14 else Res.ok undef h14)).bind fun v15 h16 =>
 ((bif wantVal v11 false then binR Prog .lss 3 v13 v15 h16 else Res.ok undef h16)).bind fun v17 h18 =>
 (condV (some v11) (Res.ok (.bool true) h18) (Res.ok v17 h18)).bind fun v19 h20 =>
 ((bif wantVal v19 false then Res.ok a0 h20 else Res.ok undef h20)).bind fun v21 h22 =>
 ((bif wantVal v19 false then builtinV Prog .len [22] [v21] h22 else Res.ok undef h22)).bind fun v23 h24 =>
 ((bif wantVal v19 false then Res.ok a1 h24 else Res.ok undef h24)).bind fun v25 h26 =>
 ((bif wantVal v19 false then binR Prog .add 3 v25 (.int .i64 10) h26 else Res.ok undef h26)).bind fun v27 h28 =>
 ((bif wantVal v19 false then Res.ok v5 h28 else Res.ok undef h28)).bind fun v29 h30 =>
 ((bif wantVal v19 false then Res.ok v1 h30 else Res.ok undef h30)).bind fun v31 h32 =>
 ((bif wantVal v19 false then call F.ζk [v23, v27, v29, v31] h32 else Res.ok undef h32)).bind fun v33 h34 =>
 ((bif wantVal v19 false then unR .not v33 h34 else Res.ok undef h34)).bind fun v35 h36 =>
 (condV (some v19) (Res.ok (.bool true) h36) (Res.ok v35 h36)).bind fun v37 h38 =>
 condV (some v37) (
 .ok (.tuple #[(.slice none 0 0), (.int .i64 0), (.bool false)]) h38)
 (
 (buildSliceR Prog 27 0 [] h38).bind fun v39 h40 =>
 (loopN (ζ5g k call) loopFuel [(0, a0), (1, a1), (3, a3), (11, v1), (12, v5), (13, v39), (14, (.int .i64 0))] h40).bind fun r41 h42 =>
 ζ7p k call r41.1 r41.2 h42)
theorem ζgc (k : Nat) (a0 a1 a2 a3 : Value) (h : Heap) : R (T k) F.ζ5 [a0, a1, a2, a3] h = nrm .fz h (ζ5 k (R (T k)) a0 a1 a2 a3 h) :=
 (R_body (t := T k) (T_scott k) (by kernel_rfl) (by kernel_rfl) _ _).trans (by kernel_rfl)
theorem ζ6l (k : Nat) (call : Caller) (a0 a1 a3 a11 a12 a13 a14 : Value) (h : Heap) : ζ5g k call [(0, a0), (1, a1), (3, a3), (11, a11), (12, a12), (13, a13), (14, a14)] h =
 (binR Prog .lss 3 a14 a12 h).bind fun v43 h44 =>
 condV (some v43) (
 (binR Prog .add 3 a1 (.int .i64 10) h44).bind fun v45 h46 =>
 (binR Prog .mul 3 a14 a11 h46).bind fun v47 h48 =>
 (binR Prog .add 3 v45 v47 h48).bind fun v49 h50 =>
 (buildSliceR Prog 27 1 [(0, v49)] h50).bind fun v51 h52 =>
 (builtinV Prog .append [27, 27] [a13, v51] h52).bind fun v53 h54 =>
 (binR Prog .add 3 a14 (.int .i64 1) h54).bind fun v55 h56 =>
 .ok (.normal, [(0, a0), (1, a1), (3, a3), (11, a11), (12, a12), (13, v53), (14, v55)]) h56)
 (
 .ok ((.exit 0), [(0, a0), (1, a1), (3, a3), (11, a11), (12, a12), (13, a13), (14, a14), (47, v43)]) h44) :=
 (loopB_eq _ _).trans (by kernel_rfl)
theorem ζ3p (k : Nat) (call : Caller) (a0 a1 a3 a11 a12 a13 a14 a47 : Value) (h : Heap) : ζ7p k call (.exit 0) [(0, a0), (1, a1), (3, a3), (11, a11), (12, a12), (13, a13), (14, a14), (47, a47)] h =
 (binR Prog .gtr 3 a12 (.int .i64 0) h).bind fun v57 h58 =>
 condV (some v57) (
 (loopN (ζ5h k call) loopFuel [(0, a0), (3, a3), (11, a11), (12, a12), (13, a13), (15, (.bool true)), (16, (.int .i64 0))] h58).bind fun r59 h60 =>
 ζ7q k call r59.1 r59.2 h60)
 (
 ζ8b k call a0 a3 a11 a12 a13 v57 h58) := by kernel_rfl
theorem ζd7 (k : Nat) (call : Caller) (a0 a3 a11 a12 a13 a60 : Value) (h : Heap) : ζ8b k call a0 a3 a11 a12 a13 a60 h =
 .ok (.tuple #[a13, a11, (.bool true)]) h := by kernel_rfl
theorem ζ6m (k : Nat) (call : Caller) (a0 a3 a11 a12 a13 a15 a16 : Value) (h : Heap) : ζ5h k call [(0, a0), (3, a3), (11, a11), (12, a12), (13, a13), (15, a15), (16, a16)] h =
 (binR Prog .lss 3 a16 a3 h).bind fun v61 h62 =>
 condV (some v61) (
 ((bif wantVal a15 true then Res.ok a0 h62 else Res.ok undef h62)).bind fun v63 h64 =>
 ((bif wantVal a15 true then Res.ok a13 h64 else Res.ok undef h64)).bind fun v65 h66 =>
 ((bif wantVal a15 true then Res.ok a12 h66 else Res.ok undef h66)).bind fun v67 h68 =>
 ((bif wantVal a15 true then binR Prog .sub 3 v67 (.int .i64 1) h68 else Res.ok undef h68)).bind fun v69 h70 =>
 ((bif wantVal a15 true then indexAddrR Prog 27 v65 v69 h70 else Res.ok undef h70)).bind fun v71 h72 =>
 ((bif wantVal a15 true then loadR Prog 3 v71 h72 else Res.ok undef h72)).bind fun v73 h74 =>
 ((bif wantVal a15 true then Res.ok a16 h74 else Res.ok undef h74)).bind fun v75 h76 =>
 ((bif wantVal a15 true then binR Prog .mul 3 (.int .i64 2) v75 h76 else Res.ok undef h76)).bind fun v77 h78 =>
 ((bif wantVal a15 true then binR Prog .add 3 v73 v77 h78 else Res.ok undef h78)).bind fun v79 h80 =>
 ((bif wantVal a15 true then call F.ζ1 [v63, v79, (.int .i64 2)] h80 else Res.ok undef h80)).bind fun v81 h82 =>
 ((bif wantVal a15 true then binR Prog .eql 3 v81 (.int .i64 65535) h82 else Res.ok undef h82)).bind fun v83 h84 =>
 (condV (some a15) (Res.ok v83 h84) (Res.ok (.bool false) h84)).bind fun v85 h86 =>
 (binR Prog .add 3 a16 (.int .i64 1) h86).bind fun v87 h88 =>
 .ok (.normal, [(0, a0), (3, a3), (11, a11), (12, a12), (13, a13), (15, v85), (16, v87)]) h88)
 (
 .ok ((.exit 2), [(0, a0), (3, a3), (11, a11), (12, a12), (13, a13), (15, a15), (16, a16), (63, v61)]) h62) :=
 (loopB_eq _ _).trans (by kernel_rfl)
theorem ζ5x (k : Nat) (call : Caller) (a0 a3 a11 a12 a13 a15 a16 a63 : Value) (h : Heap) : ζ7q k call (.exit 2) [(0, a0), (3, a3), (11, a11), (12, a12), (13, a13), (15, a15), (16, a16), (63, a63)] h =
 condV (some a15) (
 (binR Prog .sub 3 a12 (.int .i64 1) h).bind fun v89 h90 =>
 (sliceR Prog 27 a13 none (some v89) none h90).bind fun v91 h92 =>
 ζ8c k call a11 v91 h92)
 (
 ζ8d k call a11 a12 a13 a15 h) := by kernel_rfl
theorem ζd8 (k : Nat) (call : Caller) (a11 a13 : Value) (h : Heap) : ζ8c k call a11 a13 h =
 .ok (.tuple #[a13, a11, (.bool true)]) h := by kernel_rfl
theorem ζd9 (k : Nat) (call : Caller) (a11 a12 a13 a80 : Value) (h : Heap) : ζ8d k call a11 a12 a13 a80 h =
 .ok (.tuple #[a13, a11, (.bool true)]) h := by kernel_rfl
end
end Go.Sw
end
section
namespace Go.Sw
open Go.RowKit
def rowsO (b : List Int) (i need : Int) (keys : Nat) : Value := match takeS b i need keys with
 | some rows => .tuple #[lv encI (posS i (gU b i 2) rows.length), .int .i64 (gU b i 2), .bool true]
 | none => .tuple #[lv encI [], .int .i64 0, .bool false]
theorem ζl6 (b : List Int) (i need : Int) (keys : Nat) : Flat (rowsO b i need keys) := by
 unfold rowsO;split
 ·exact .tupleL (.cons (Flat.I _) (.cons (.int _ _) (.cons (.bool _) .nil)))
 ·exact .tupleL (.cons (Flat.I _) (.cons (.int _ _) (.cons (.bool _) .nil)))
theorem ζgq {b : List Int} {i n : Int} : (pieceS b i n).isSome = inS b.length i n := by
 unfold pieceS inS;split
 ·rename_i h; rw [decide_eq_true h]; rfl
 ·rename_i h; rw [decide_eq_false h]; rfl
theorem uS_of_in {b : List Int} {i n : Int} (h : inS b.length i n = true) : ∃ x, uS b i n = some x := by
 rw [← ζgq, Option.isSome_iff_exists] at h;obtain ⟨r, hr⟩ := h;exact ⟨num r, by unfold uS; rw [hr]; rfl⟩
theorem ζq3 (i z : Int) (n j : Nat) (h : j ≤ n) : (posS i z n).take j = posS i z j := by
 unfold posS;rw [← List.map_take, List.take_range, Nat.min_eq_left h]
theorem ζq2 (i z : Int) (n : Nat) : posS i z (n + 1) = posS i z n ++ [i + 10 + z * (n : Nat)] := by simp [posS, List.range_succ]
theorem ζl5 (k : Nat) (b : List Int) (hb : Byt b) (i need : Int) (keys : Nat) (hl : b.length < 2 ^ 31) (hi0 : 0 ≤ i) (hi : i < 65536) (hneed : 0 < need) (hk : 2 * (keys : Int) ≤ need) (H : Heap) :
  R (T k) F.ζ5 [lv encB b, .int .i64 i, .int .i64 need, .int .i64 keys] H = .ok (rowsO b i need keys) H := by
 rw [ζgc];have hU := fun j H' => refU_run k (H := H') (Sl.lv H' 1 b) hb j 2 (by omega) (by omega);have hIn := fun H' => ζmk k b.length i 10 (by omega) (by omega) H';have hnil : ∃ L, fzV H.n H fzDepth (.tuple #[.slice none 0 0, .int .i64 0, .bool false]) = some (.tuple #[lv encI [], .int .i64 0, .bool false], L) := ⟨_, rfl⟩
 obtain ⟨L0, hnil⟩ := hnil;have hno : takeS b i need keys = none → ζ5 k (R (T k)) (lv encB b) (.int .i64 i) (.int .i64 need) (.int .i64 keys) H = .ok (.tuple #[.slice none 0 0, .int .i64 0, .bool false]) H → nrm .fz H (ζ5 k (R (T k)) (lv encB b) (.int .i64 i) (.int .i64 need) (.int .i64 keys) H) = .ok (rowsO b i need keys) H := fun h1 h2 => by
  have fl := ζl6 b i need keys;unfold rowsO at fl ⊢;rw [h1] at fl ⊢;exact nrm_fz h2 hnil (Ext.refl H) fl.alive
 cases hin : inS b.length i 10 with
 | false =>
  have hp : pieceS b i 10 = none := by
   have := ζgq (b := b) (i := i) (n := 10);rw [hin] at this;simpa using this
  refine hno (by unfold takeS; rw [hp]; split <;> simp) ?_;rw [hin] at hIn;have hg1 : -1 ≤ (uS b i 2).getD (-1) ∧ (uS b i 2).getD (-1) < 65536 := gU_two hb i;have hg2 : -1 ≤ (uS b (i + 2) 2).getD (-1) ∧ (uS b (i + 2) 2).getD (-1) < 65536 := gU_two hb (i + 2);simp -implicitDefEqProofs (disch := omega) [ζ5, hU, hIn]
 | true =>
  rw [hin] at hIn;have hin' : 0 ≤ i ∧ 0 ≤ (10 : Int) ∧ i ≤ b.length ∧ 10 ≤ b.length - i := of_decide_eq_true hin;obtain ⟨z, hz⟩ := uS_of_in (b := b) (i := i) (n := 2) (by unfold inS; exact decide_eq_true (by omega));obtain ⟨n, hn⟩ := uS_of_in (b := b) (i := i + 2) (n := 2) (by unfold inS; exact decide_eq_true (by omega));have hz2 := uS_two hb hz;have hn2 := uS_two hb hn;have hu1 := fun H' => hU i H';have hu2 := fun H' => hU (i + 2) H';rw [hz] at hu1;rw [hn] at hu2;simp only [Option.getD_some] at hu1 hu2;have hpc : (pieceS b i 10).isSome = true := by rw [ζgq]; exact hin
  by_cases hnz : need ≤ z;rotate_left
  ·refine hno (by unfold takeS; rw [hz, hn]; simp [hnz]) ?_;have : z < need := by omega
   simp -implicitDefEqProofs (disch := omega) [ζ5, hu1, hu2, hIn, this]
  have hnz' : ¬ z < need := by omega
  have hRows := fun H' => ζ88 k b.length (i + 10) n z (by omega) (by omega) H';cases hrb : rowsB b.length (i + 10) n z with
  | false =>
   have hrs : rowsS b (i + 10) n z = none := by
    cases h : rowsS b (i + 10) n z with
    | none => rfl
    | some r =>
     have := (ζd2 (by omega)).2 ((ζez (by omega)).1 h).1;rw [hrb] at this; cases this
   rw [hrb] at hRows;refine hno (by unfold takeS; rw [hz, hn]; simp [hrs]) ?_;simp -implicitDefEqProofs (disch := omega) [ζ5, hu1, hu2, hIn, hnz', hRows]
  | true =>
   rw [hrb] at hRows;have hrs := (ζez (r := (b.drop (i + 10).toNat).take (n * z).toNat) (by omega)).2 ⟨(ζd2 (by omega)).1 hrb, rfl⟩;obtain ⟨r, hr⟩ : ∃ r, r = (b.drop (i + 10).toNat).take (n * z).toNat := ⟨_, rfl⟩
   rw [← hr] at hrs;have htake : takeS b i need keys = some (endRows r z.toNat n.toNat keys) := by unfold takeS; rw [hz, hn]; simp [hpc, hnz, hrs]
   obtain ⟨n, rfl⟩ := Int.eq_ofNat_of_zero_le hn2.1;have hzn : (z.toNat : Int) = z := by omega
   -- the rows' places
   obtain ⟨x, e', H1, hr1, rfl, ⟨a, s, rfl, ho⟩, hx⟩ := loop_up (body := ζ5g k (R (T k))) n
    (fun j e H' => (∃ s, e = [(0, lv encB b), (1, .int .i64 i), (3, .int .i64 keys), (11, .int .i64 z), (12, .int .i64 n), (13, s), (14, .int .i64 j)] ∧ Own H H' 1 s encI (posS i z j)) ∧ Ext H H')
    (fun x e H' => x = .exit 0 ∧ (∃ a s, e = [(0, lv encB b), (1, .int .i64 i), (3, .int .i64 keys), (11, .int .i64 z), (12, .int .i64 n), (13, s), (14, .int .i64 n), (47, a)] ∧ Own H H' 1 s encI (posS i z n)) ∧ Ext H H')
    (e0 := [(0, lv encB b), (1, .int .i64 i), (3, .int .i64 keys), (11, .int .i64 z), (12, .int .i64 n), (13, bareV), (14, .int .i64 0)]) (H0 := H) ⟨⟨_, rfl, Own.bare _ _ _⟩, Ext.refl H⟩ (by omega)
    (fun j e H' hj ⟨⟨s, he, ho⟩, hx⟩ => by
     subst he;have hlt : (j : Int) < n := by omega
     have hjz : (j : Int) * z ≤ 65536 * 65536 := Int.mul_le_mul (by omega) (by omega) (by omega) (by omega);have hjz0 : 0 ≤ (j : Int) * z := Int.mul_nonneg (by omega) (by omega);obtain ⟨s2, H2, e2, o2, x2⟩ := ap1_own (bytes := 8) encI_len ho hx (i + 10 + z * (j : Nat)) (by simp; omega) (by decide);rw [← ζq2] at o2;rw [Int.mul_comm z] at e2;refine .inl ⟨_, H2, ?_, ⟨s2, rfl, o2⟩, x2⟩;rw [ζ6l];simp -implicitDefEqProofs (disch := omega) [hlt, e2])
    (fun e H' ⟨⟨s, he, ho⟩, hx⟩ => by
     subst he;refine ⟨.exit 0, _, H', ?_, by simp, rfl, ⟨.bool false, s, rfl, ho⟩, hx⟩;rw [ζ6l];simp -implicitDefEqProofs)
   have hgu : gU b i 2 = z := gU_some hz;have fl := ζl6 b i need keys;unfold rowsO at fl ⊢;rw [htake, hgu] at fl ⊢;dsimp only at fl ⊢;by_cases hn0 : n = 0
   ·subst hn0;obtain ⟨L, hf⟩ := ho.freeze encI_len (ζ5s _) 5;have e2 : (endRows r z.toNat (Int.toNat ((0 : Nat) : Int)) keys).length = 0 := by simp [endRows]
    rw [e2] at fl ⊢;refine nrm_fz (v := .tuple #[s, .int .i64 z, .bool true]) (H' := H1) ?_ (fz_tuple (l := [s, .int .i64 z, .bool true]) (ζ14 hf (ζ14 (L1 := []) rfl (mapF_one (L := []) rfl)))) hx fl.alive;simp at hr1 hRows;simp -implicitDefEqProofs (disch := omega) [ζ5, hu1, hu2, hIn, hnz', hRows, hr1, ζ3p, ζd7]
   ·have hgt : 0 < n := by omega
    obtain ⟨z, rfl⟩ := Int.eq_ofNat_of_zero_le hz2.1;simp only [Int.toNat_natCast] at *;have hrow := ζq8 hrs (j := n - 1) (by omega);obtain ⟨row, hrowd⟩ : ∃ row, row = (r.drop (z * (n - 1))).take z := ⟨_, rfl⟩
    rw [← hrowd] at hrow;have hlast := posS_get i z n (n - 1) (by omega);obtain ⟨bk, hsk, hbk, hgk, _⟩ := ixS_own ho .i64 (n - 1) (by simp; omega) H1;rw [posS_len] at hsk;have hixk : ∀ H'', ixS 1 s (.int .i64 ((n : Int) - 1)) H'' = .ok (.pointer (some ⟨bk, (n - 1) * 1, none⟩)) H'' := fun H'' => by
     rw [hsk, show ((n : Int) - 1) = ((n - 1 : Nat) : Int) by omega];have := ζjw 1 bk 0 n n .i64 (n - 1) H'' (by omega);simpa using this
    have hld := ld1_row encI_len hgk (c := 0) hlast (by decide) rfl;simp only [Nat.add_zero, Nat.mul_one] at hld hixk;have hp0 : 0 ≤ i + 10 + (z : Int) * ((n - 1 : Nat) : Int) ∧ i + 10 + (z : Int) * ((n - 1 : Nat) : Int) < 2 ^ 34 := by
     have := Int.mul_nonneg (show (0 : Int) ≤ z by omega) (show (0 : Int) ≤ ((n - 1 : Nat) : Int) by omega);have : (z : Int) * ((n - 1 : Nat) : Int) ≤ 65536 * 65536 := Int.mul_le_mul (by omega) (by omega) (by omega) (by omega);omega
    generalize i + 10 + (z : Int) * ((n - 1 : Nat) : Int) = p at hrow hld hp0
    obtain ⟨x, e', H2, hr2, rfl, rfl, a2, rfl⟩ := loop_up (body := ζ5h k (R (T k))) keys
     (fun j e H' => H' = H1 ∧ e = [(0, lv encB b), (3, .int .i64 keys), (11, .int .i64 z), (12, .int .i64 n), (13, s), (15, .bool ((List.range j).all fun q => uS row (2 * q) 2 == some 65535)), (16, .int .i64 j)])
     (fun x e H' => H' = H1 ∧ x = .exit 2 ∧ ∃ a, e = [(0, lv encB b), (3, .int .i64 keys), (11, .int .i64 z), (12, .int .i64 n), (13, s), (15, .bool (noneS row keys)), (16, .int .i64 keys), (63, a)])
     (e0 := [(0, lv encB b), (3, .int .i64 keys), (11, .int .i64 z), (12, .int .i64 n), (13, s), (15, .bool true), (16, .int .i64 0)]) (H0 := H1) ⟨rfl, rfl⟩ (by omega)
     (fun j e H' hj ⟨hH, he⟩ => by
      subst he hH;have hlt : (j : Int) < keys := by omega
      refine .inl ⟨_, _, ?_, rfl, rfl⟩;rw [ζ6m, List.range_succ, List.all_append];cases hall : (List.range j).all fun q => uS row (2 * q) 2 == some 65535 with
      | false => simp -implicitDefEqProofs (disch := omega) [hlt]
      | true =>
       have hsub := uS_sub hrow (x := 2 * j) (y := 2) (by omega) (by omega) (by omega);have hu := hU (p + 2 * j);rw [← hsub] at hu;obtain ⟨y, hy⟩ : ∃ y, uS row (2 * j) 2 = some y := by
        obtain ⟨y, hy⟩ := (row_two hrow (x := 2 * j) (y := 2) (by omega) (by omega) (by omega)).2;exact ⟨y, by rw [hsub, hy]⟩
       rw [hy] at hu;simp -implicitDefEqProofs (disch := omega) [hlt];rw [hixk];simp -implicitDefEqProofs (disch := omega) [hlt, hld, hu, hy])
     (fun e H' ⟨hH, he⟩ => by
      subst he hH;refine ⟨.exit 2, _, _, ?_, by simp, rfl, rfl, .bool false, rfl⟩;rw [ζ6m];simp -implicitDefEqProofs [noneS])
    obtain ⟨bf, L, hsf, hf⟩ := ho.ζn0 encI_len (ζ5s _) 5 (endRows r z n keys).length (by unfold endRows; split <;> simp) (by simp; omega);rw [posS_len] at hsf;have hbf : bk = bf := by rw [hsk] at hsf; simpa using hsf
    subst hbf;rw [ζq3 _ _ _ _ (by unfold endRows; split <;> simp)] at hf;cases hno : noneS row keys with
    | false =>
     rw [hno] at hr2;have e2 : (endRows r z n keys).length = n := by unfold endRows; rw [← hrowd, hno]; simp
     rw [e2] at hf fl ⊢;refine nrm_fz (v := .tuple #[s, .int .i64 z, .bool true]) (H' := H2) ?_ (fz_tuple (l := [s, .int .i64 z, .bool true]) (ζ14 (by rw [hsk]; exact hf n) (ζ14 (L1 := []) rfl (mapF_one (L := []) rfl)))) hx fl.alive;simp -implicitDefEqProofs (disch := omega) [ζ5, hu1, hu2, hIn, hnz', hRows, hr1, ζ3p, hgt, hr2, ζ5x, ζd9]
    | true =>
     rw [hno] at hr2;have e2 : (endRows r z n keys).length = n - 1 := by unfold endRows; rw [← hrowd, hno, if_pos ⟨by omega, rfl⟩]; simp
     rw [e2] at hf fl ⊢;have hsl := slS_own hgk .i64 (n - 1) (by simp);rw [posS_len, show (((n - 1 : Nat)) : Int) = (n : Int) - 1 by omega] at hsl;refine nrm_fz (v := .tuple #[.slice (some ⟨bk, 0, none⟩) (n - 1) n, .int .i64 z, .bool true]) (H' := H2) ?_ (fz_tuple (l := [.slice (some ⟨bk, 0, none⟩) (n - 1) n, .int .i64 z, .bool true]) (ζ14 (hf n) (ζ14 (L1 := []) rfl (mapF_one (L := []) rfl)))) hx fl.alive;subst hsk;simp -implicitDefEqProofs (disch := omega) [ζ5, hu1, hu2, hIn, hnz', hRows, hr1, ζ3p, hgt, hr2, ζ5x, hsl, ζd8]
end Go.Sw
end
