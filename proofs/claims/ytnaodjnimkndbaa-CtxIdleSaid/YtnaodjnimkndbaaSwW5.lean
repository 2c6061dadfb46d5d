/-
  Functions' forms, and what is proved of them, part 5.
-/
import Derived.Test.YtnaodjnimkndbaaSwW4
import Derived.Test.YtnaodjnimkndbaaSwCfg
import Derived.Test.YtnaodjnimkndbaaSwW3
set_option linter.unusedSimpArgs false
set_option linter.unusedVariables false
set_option linter.unusedSectionVars false
section
namespace Go.Sw
open Go.RowKit
theorem ζml (k : Nat) {H0 H : Heap} {X : List It} {c : Nat} {n : Int} {tab : Value} {rs : List (List Int)} {es : List En} (h : MS H0 H X c n tab rs es) (hel : es.length < 65536) {vR vE : Value} {ev : List Int} (w : Int) (hw : w = 0 ∨ w = 1 ∨ w = 2) (hv : Sl H 1 vE encB ev) (hR : Go.Sw.veq vR vR = true) (hb : Byt ev) (hl : ev.length < 2 ^ 31) :
  match entK ev w es.length with
  | some e => ∃ H', R (T k) F.ζa [.agg #[ptrV c, vR, vE, .int .i64 w]] H = .ok (.int .i64 (e.next + 1)) H' ∧ MS H0 H' X c n tab rs (es ++ [e])
  | none => R (T k) F.ζa [.agg #[ptrV c, vR, vE, .int .i64 w]] H = .panic failV H := by
 obtain ⟨l, s1, o1, s2, o2, bs, h1, g, h3⟩ := h
 have hM := g.get 0 rfl
 have hlen2 := (g.row 2 rfl).len
 have hcn : ¬ c = H.n := by have := Heap.get_lt hM; omega
 have hx1 : Ext H (H.push ⟨[ptrV c, vR, vE, .int .i64 w], 1, false⟩) := (Ext.refl H).push _
 have hm0 : 0 ≤ (4 + 2 * w) * (es.length : Int) := Int.mul_nonneg (by omega) (by omega)
 have hm1 : (4 + 2 * w) * (es.length : Int) ≤ 8 * 65536 := Int.mul_le_mul (by omega) (by omega) (by omega) (by omega)
 have hCut := Cut_run k (hv.up hx1) ((4 + 2 * w) * es.length) (4 + 2 * w) (by omega)
 rw [ζbe]
 cases hr : pieceS ev ((4 + 2 * w) * es.length) (4 + 2 * w) with
 | none =>
  have : entK ev w es.length = none := by unfold entK; rw [hr]; rfl
  rw [this]
  rw [hr] at hCut
  refine ζ12 ⟨_, ?_, hx1⟩ Flat.fail.alive
  simp -implicitDefEqProofs (disch := omega) [ζa, hcn, hM, hlen2, hCut]
 | some r =>
  have hK : entK ev w es.length = some (entOf w r) := by unfold entK; rw [hr]; rfl
  rw [hK]
  dsimp only
  rw [hr] at hCut
  have hs := ζ3h (hv.up hx1) hr
  have hrb := (hb.piece hr).1
  have hrl := ζ2r hr
  generalize subV 1 vE ((4 + 2 * w) * (es.length : Int)).toNat (4 + 2 * w).toNat = q at hs hCut
  have hq := rd_vw hs
  obtain ⟨B1, hB1⟩ : ∃ B1 : Blk, B1 = ⟨[ptrV c, vR, vE, .int .i64 w], 1, false⟩ := ⟨_, rfl⟩
  obtain ⟨B2, hB2⟩ : ∃ B2 : Blk, B2 = ⟨[q], 1, false⟩ := ⟨_, rfl⟩
  obtain ⟨e, he⟩ : ∃ e, e = entOf w r := ⟨_, rfl⟩
  rw [← he]
  have hu : ∀ i, 0 ≤ i → i + 2 ≤ 4 + 2 * w → ∀ H', Ext (H.push B1) H' → R (T k) F.ζc [.agg #[q], .int .i64 i] H' = .ok (.int .i64 (gU r i 2)) H' := fun i hi0 hi1 H' hx => by
   rw [← hB1] at hs
   have := U16_run k (hs.up hx) hrb i (by omega)
   rw [(piece_gU hb hr hi0 hi1).1, orF_some] at this
   exact this
  have hx2 : Ext (H.push B1) ((H.push B1).push B2) := (Ext.refl _).push _
  have u0 := hu 0 (by omega) (by omega) _ hx2
  have u2 := hu 2 (by omega) (by omega) _ hx2
  have g0 := (piece_gU hb hr (i := 0) (by omega) (by omega)).2
  have g2 := (piece_gU hb hr (i := 2) (by omega) (by omega)).2
  have hn : e.next = gU r 0 2 := by rw [he]; rfl
  have hf : e.flags = gU r 2 2 := by rw [he]; rfl
  have g := ((g.push B1).push B2).push ⟨encEn e, 1, false⟩
  obtain ⟨P, hP⟩ : ∃ P, P = ((H.push B1).push B2).push ⟨encEn e, 1, false⟩ := ⟨_, rfl⟩
  rw [← hP] at g
  obtain ⟨bs', hbs⟩ : ∃ bs', bs' = bs ++ [itBlk H.n B1, itBlk (H.n + 1) B2, itBlk (H.n + 2) ⟨encEn e, 1, false⟩] := ⟨_, rfl⟩
  have g : Star H0 P (itBlk c ⟨[.int .i64 n, tab, s1, s2], 1, false⟩ :: itRow o1 1 s1 encU l :: itRow o2 4 s2 encEn es :: (X ++ bs')) := by
   rw [hbs]
   simpa using g
  have hM1 := g.get 0 rfl
  have hB1g : P.get H.n = some B1 := g.memBlk (by simp [hbs])
  have hPn : P.n = H.n + 3 := by rw [hP]; simp
  have hn1 : ¬ H.n = P.n := by omega
  have hc1 : ¬ c = P.n := by have := Heap.get_lt hM1; omega
  have hvq := (g.row 2 rfl).veq
  obtain ⟨s2', o2', H2, e2, g⟩ := g.append1 (bytes := 32) 2 ζ3f rfl e (by omega) (by decide)
  simp only [List.set_cons_zero, List.set_cons_succ] at g
  have hB1g2 : H2.get H.n = some B1 := g.memBlk (by simp [hbs])
  obtain ⟨H3, e3, g, _⟩ := g.stCell 0 rfl 3 (g.row 2 rfl).storable (g.row 2 rfl).cells (by simp)
  simp only [List.set_cons_zero, List.set_cons_succ] at g
  have hB3g : H3.get (H.n + 2) = some ⟨encEn e, 1, false⟩ := g.memBlk (by simp [hbs])
  refine ⟨H3, nrm_of ?_, l, s1, o1, s2', o2', bs', h1, g, fun x hx => ?_⟩
  rotate_left
  ·obtain ⟨o, ho⟩ := h3 x hx
   exact ⟨o, by rw [hbs]; simp [ho]⟩
  rw [hB1] at hB1g hB1g2
  have hPe := hP
  rw [hB1, hB2] at hPe
  have hP2 : P.get (H.n + 2) = some ⟨encEn e, 1, false⟩ := by rw [hP]; simp
  have hP1 : P.get (H.n + 1) = some B2 := by rw [hP]; simp
  rw [hB2] at hP1
  rw [hB1, hB2] at u0 u2
  have hq2 : Go.Sw.veq (.agg #[q]) (.agg #[q]) = true := veq_agg (l := [q]) fun u hu => by simp at hu; subst hu; exact hq
  have hn2 : ¬ H.n + 2 = P.n := by omega
  have e2' := e2
  unfold encEn at e2'
  have hj4 : ζ2e k (R (T k)) (ptrV H.n) (ptrV (H.n + 1)) (ptrV (H.n + 2)) (.bool false) P = .ok (.int .i64 (e.next + 1)) H3 := by
   rw [ζ8w]
   simp -implicitDefEqProofs (disch := omega) [-stR_ptr, hB1g, hM1, hP2, hn1, hc1, hB1g2, hvq, e2', e3, hB3g]
  have hj3 : ζ2d k (R (T k)) (ptrV H.n) (ptrV (H.n + 2)) P = .ok (.int .i64 (e.next + 1)) H3 := by
   rw [ζ8v]
   simp -implicitDefEqProofs (disch := omega) [-stR_ptr, hB1g, hM1, hP2, hn1, hc1, hB1g2, hvq, e2', e3, hB3g]
  rcases hw with rfl | rfl | rfl
  ·have hall : encEn e = [.int .i64 (gU r 0 2), .int .i64 (gU r 2 2), .int .i64 0, .int .i64 0] := by rw [he]; rfl
   rw [hall] at hPe
   simp -implicitDefEqProofs (disch := omega) at hCut
   simp -implicitDefEqProofs (disch := omega) [ζa, hcn, hM, hlen2, hCut, u0, u2, hq2, ← hPe, ζ8u, hB1g, hj4]
  ·have hall : encEn e = [.int .i64 (gU r 0 2), .int .i64 (gU r 2 2), .int .i64 (gU r 4 2), .int .i64 0] := by rw [he]; rfl
   rw [hall] at hPe
   have u4 := hu 4 (by omega) (by omega) _ (hx2.push ⟨[.int .i64 (gU r 0 2), .int .i64 (gU r 2 2), .int .i64 0, .int .i64 0], 1, false⟩)
   rw [hB1, hB2] at u4
   simp -implicitDefEqProofs (disch := omega) at hCut
   simp -implicitDefEqProofs (disch := omega) [ζa, hcn, hM, hlen2, hCut, u0, u2, u4, hq2, ← hPe, ζ49, hB1g, hj4]
  ·have hall : encEn e = [.int .i64 (gU r 0 2), .int .i64 (gU r 2 2), .int .i64 (gU r 4 2), .int .i64 (gU r 6 2)] := by rw [he]; rfl
   rw [hall] at hPe
   have u4 := hu 4 (by omega) (by omega) _ (hx2.push ⟨[.int .i64 (gU r 0 2), .int .i64 (gU r 2 2), .int .i64 0, .int .i64 0], 1, false⟩)
   have u6 := hu 6 (by omega) (by omega) _ (hx2.push ⟨[.int .i64 (gU r 0 2), .int .i64 (gU r 2 2), .int .i64 (gU r 4 2), .int .i64 0], 1, false⟩)
   rw [hB1, hB2] at u4 u6
   simp -implicitDefEqProofs (disch := omega) at hCut
   simp -implicitDefEqProofs (disch := omega) [ζa, hcn, hM, hlen2, hCut, u0, u2, u4, u6, hq2, ← hPe, ζ49, hj3]
theorem ζlj (rs : List (List Int)) (r : List Int) : needR (rs ++ [r]) = max (needR rs) (needL r) := by
 unfold needR
 rw [List.flatten_append, ζ4v]
 simp
theorem ζ6o (rs : List (List Int)) : 0 ≤ needR rs := ζ6n _
theorem rowK_lt {rv : List Int} (hb : Byt rv) {n : Int} {k : Nat} {r : List Int} (h : rowK rv n k = some r) : ∀ y, y ∈ r → 0 ≤ y ∧ y < 65536 := by
 unfold rowK listS at h
 obtain ⟨q, hq, rfl⟩ := Option.map_eq_some_iff.1 h
 have hqb := (hb.piece (ζ2i hq)).1
 intro y hy
 obtain ⟨c, hc, rfl⟩ := List.mem_map.1 hy
 obtain ⟨h5, h6⟩ := ζa4 hqb _ _ hc
 have := ζdn c h5
 have hp : (256 : Int) ^ c.length ≤ 256 ^ 2 := by
  have : c.length ≤ 2 := h6
  match hcl : c.length, this with
  | 0, _ => decide
  | 1, _ => decide
  | 2, _ => decide
 omega
theorem ζcm {rv : List Int} (hb : Byt rv) {n : Int} {m : Nat} {rs : List (List Int)} (h : rowsTo rv n m = some rs) : needR rs ≤ 65536 := needL_lt (by omega) fun y hy => by
 obtain ⟨r, hrm, hy⟩ := List.mem_flatten.1 hy
 obtain ⟨i, hi⟩ := List.getElem?_of_mem hrm
 obtain ⟨k, _, hk⟩ := mapO_get h hi
 exact (rowK_lt hb hk y hy).2
theorem ζb9 {β : Type} {f : Nat → Option β} {n m : Nat} (h : n ≤ m) (hn : mapO f (List.range n) = none) : mapO f (List.range m) = none := by
 cases hm : mapO f (List.range m) with
 | none => rfl
 | some r => rw [ζaa h hm] at hn; cases hn
section
variable (k : Nat) {H0 : Heap} {X : List It} {c r : Nat} {n : Int} {tab vR vE : Value} {rv ev : List Int} {w : Int}
 (hn : 0 ≤ n ∧ n ≤ 65535) (hw : w = 0 ∨ w = 1 ∨ w = 2) (hvR : Sl H0 1 vR encB rv) (hvE : Sl H0 1 vE encB ev) (hbR : Byt rv) (hbE : Byt ev) (hlR : rv.length < 2 ^ 31) (hlE : ev.length < 2 ^ 31)
 (hX : itBlk r ⟨[ptrV c, vR, vE, .int .i64 w], 1, false⟩ ∈ X)
include hn hvR hvE hbR hlR hX
theorem ζn9 {H : Heap} (s : Nat) (hs : s ≤ 65536) {rs : List (List Int)} {es : List En} (h : MS H0 H X c n tab rs es) (hrs : rs.length ≤ s) (ht : rowsTo rv n rs.length = some rs) :
  (∃ rs' H', loopN (ζ41 k (R (T k))) loopFuel [(8, ptrV c), (9, ptrV r), (10, .int .i64 s), (11, .int .i64 (needR rs))] H = .ok (.exit 2, [(8, ptrV c), (9, ptrV r), (10, .int .i64 s), (11, .int .i64 (needR rs')), (63, .bool false)]) H' ∧ rowsTo rv n s = some rs' ∧ MS H0 H' X c n tab rs' es) ∨
  (∃ H', loopN (ζ41 k (R (T k))) loopFuel [(8, ptrV c), (9, ptrV r), (10, .int .i64 s), (11, .int .i64 (needR rs))] H = .panic failV H' ∧ Ext H0 H' ∧ rowsTo rv n s = none) := by
 rcases loopDecP (body := ζ41 k (R (T k)))
  (fun m e H' => ∃ rs, m = s - rs.length ∧ rs.length ≤ s ∧ e = [(8, ptrV c), (9, ptrV r), (10, .int .i64 s), (11, .int .i64 (needR rs))] ∧ rowsTo rv n rs.length = some rs ∧ MS H0 H' X c n tab rs es)
  (fun x e H' => ∃ rs', x = .exit 2 ∧ e = [(8, ptrV c), (9, ptrV r), (10, .int .i64 s), (11, .int .i64 (needR rs')), (63, .bool false)] ∧ rowsTo rv n s = some rs' ∧ MS H0 H' X c n tab rs' es)
  (fun v H' => v = failV ∧ Ext H0 H' ∧ rowsTo rv n s = none)
  (s - rs.length) (e0 := [(8, ptrV c), (9, ptrV r), (10, .int .i64 s), (11, .int .i64 (needR rs))]) (H0 := H) ⟨rs, rfl, hrs, rfl, ht, h⟩ (by omega)
  (fun m e H' ⟨rs, hm, hle, he, ht, h⟩ => by
   subst he
   obtain ⟨s1, s2, hM, hl1, hl2⟩ := h.here
   have hr := h.memX hX
   have h0 := ζ6o rs
   have h6 := ζcm hbR ht
   by_cases hlt : rs.length < s
   ·have hlt' : (rs.length : Int) < s := by omega
    have hrow := row_run k h hn (by omega) (vE := vE) w (hvR.up h.ext) (rd_vw hvE) hbR hlR
    cases hK : rowK rv n rs.length with
    | none =>
     rw [hK] at hrow
     refine .inr (.inr ⟨failV, H', ?_, rfl, h.ext, ζb9 (n := rs.length + 1) hlt ?_⟩)
     ·rw [ζ6t]
      simp -implicitDefEqProofs (disch := omega) [hM, hl1, hlt', hr, hrow]
     ·rw [ζ7x, show mapO (rowK rv n) (List.range rs.length) = some rs from ht, Option.bind_some, hK]
      rfl
    | some row =>
     rw [hK] at hrow
     obtain ⟨H2, e2, h2⟩ := hrow
     have hmax : (if needL row > needR rs then needL row else needR rs) = needR (rs ++ [row]) := by rw [ζlj]; split <;> omega
     refine .inl ⟨s - (rs ++ [row]).length, _, H2, ?_, by simp; omega, rs ++ [row], rfl, by simp; omega, rfl, ?_, h2⟩
     ·rw [ζ6t, ← hmax]
      simp -implicitDefEqProofs (disch := omega) [hM, hl1, hlt', hr, e2]
     ·rw [List.length_append, List.length_singleton]
      unfold rowsTo at ht ⊢
      rw [ζ7x, ht, Option.bind_some, hK]
      rfl
   ·have hlt' : ¬ (rs.length : Int) < s := by omega
    refine .inr (.inl ⟨.exit 2, _, H', ?_, by simp, rs, rfl, rfl, by rw [show s = rs.length by omega]; exact ht, h⟩)
    rw [ζ6t]
    simp -implicitDefEqProofs (disch := omega) [hM, hl1, hlt']) with ⟨x, e', H', h1, rs', rfl, rfl, h2, h3⟩ | ⟨v, H', h1, rfl, h2, h3⟩
 ·exact .inl ⟨rs', H', h1, h2, h3⟩
 ·exact .inr ⟨H', h1, h2, h3⟩
end
section
variable (k : Nat) {H0 : Heap} {X : List It} {c r : Nat} {n : Int} {tab vR vE : Value} {rv ev : List Int} {w : Int}
 (hn : 0 ≤ n ∧ n ≤ 65535) (hw : w = 0 ∨ w = 1 ∨ w = 2) (hvR : Sl H0 1 vR encB rv) (hvE : Sl H0 1 vE encB ev) (hbR : Byt rv) (hbE : Byt ev) (hlR : rv.length < 2 ^ 31) (hlE : ev.length < 2 ^ 31)
 (hX : itBlk r ⟨[ptrV c, vR, vE, .int .i64 w], 1, false⟩ ∈ X)
include hw hvR hvE hbE hlE hX
theorem ζmm {H : Heap} (s : Int) (hs : 2 ≤ s ∧ s ≤ 65536) (N : Nat) (hN : N ≤ 65536) {rs : List (List Int)} {es : List En} (h : MS H0 H X c n tab rs es) (hes : es.length ≤ N) (ht : entsTo ev w es.length = some es) (hsn : needE es ≤ s) :
  (∃ es' H', loopN (ζ42 k (R (T k))) loopFuel [(8, ptrV c), (9, ptrV r), (10, .int .i64 s), (11, .int .i64 N)] H = .ok (.exit 4, [(8, ptrV c), (9, ptrV r), (10, .int .i64 (max s (needE es'))), (11, .int .i64 N), (74, .bool false)]) H' ∧ entsTo ev w N = some es' ∧ MS H0 H' X c n tab rs es') ∨
  (∃ H', loopN (ζ42 k (R (T k))) loopFuel [(8, ptrV c), (9, ptrV r), (10, .int .i64 s), (11, .int .i64 N)] H = .panic failV H' ∧ Ext H0 H' ∧ entsTo ev w N = none) := by
 rcases loopDecP (body := ζ42 k (R (T k)))
  (fun m e H' => ∃ es, m = N - es.length ∧ es.length ≤ N ∧ e = [(8, ptrV c), (9, ptrV r), (10, .int .i64 (max s (needE es))), (11, .int .i64 N)] ∧ entsTo ev w es.length = some es ∧ MS H0 H' X c n tab rs es)
  (fun x e H' => ∃ es', x = .exit 4 ∧ e = [(8, ptrV c), (9, ptrV r), (10, .int .i64 (max s (needE es'))), (11, .int .i64 N), (74, .bool false)] ∧ entsTo ev w N = some es' ∧ MS H0 H' X c n tab rs es')
  (fun v H' => v = failV ∧ Ext H0 H' ∧ entsTo ev w N = none)
  (N - es.length) (e0 := [(8, ptrV c), (9, ptrV r), (10, .int .i64 s), (11, .int .i64 N)]) (H0 := H) ⟨es, rfl, hes, by rw [show max s (needE es) = s by omega], ht, h⟩ (by omega)
  (fun m e H' ⟨es, hm, hle, he, ht, h⟩ => by
   subst he
   obtain ⟨s1, s2, hM, hl1, hl2⟩ := h.here
   have hr := h.memX hX
   have h6 := needE_le hbE ht
   by_cases hlt : es.length < N
   ·have hlt' : (es.length : Int) < N := by omega
    have hent := ζml k h (by omega) (vR := vR) w hw (hvE.up h.ext) (rd_vw hvR) hbE hlE
    cases hK : entK ev w es.length with
    | none =>
     rw [hK] at hent
     refine .inr (.inr ⟨failV, H', ?_, rfl, h.ext, ζb9 (n := es.length + 1) hlt ?_⟩)
     ·rw [ζ6u]
      simp -implicitDefEqProofs (disch := omega) [hM, hl2, hlt', hr, hent]
     ·rw [ζ7x, show mapO (entK ev w) (List.range es.length) = some es from ht, Option.bind_some, hK]
      rfl
    | some en =>
     rw [hK] at hent
     obtain ⟨H2, e2, h2⟩ := hent
     have hen : needE (es ++ [en]) = max (needE es) (en.next + 1) := by
      unfold needE
      rw [List.map_append, List.map_singleton, ζec]
      omega
     have hmax : (if en.next + 1 > max s (needE es) then en.next + 1 else max s (needE es)) = max s (needE (es ++ [en])) := by rw [hen]; split <;> omega
     refine .inl ⟨N - (es ++ [en]).length, _, H2, ?_, by simp; omega, es ++ [en], rfl, by simp; omega, rfl, ?_, h2⟩
     ·rw [ζ6u, ← hmax]
      simp -implicitDefEqProofs (disch := omega) [hM, hl2, hlt', hr, e2]
     ·rw [List.length_append, List.length_singleton]
      unfold entsTo at ht ⊢
      rw [ζ7x, ht, Option.bind_some, hK]
      rfl
   ·have hlt' : ¬ (es.length : Int) < N := by omega
    refine .inr (.inl ⟨.exit 4, _, H', ?_, by simp, es, rfl, rfl, by rw [show N = es.length by omega]; exact ht, h⟩)
    rw [ζ6u]
    simp -implicitDefEqProofs (disch := omega) [hM, hl2, hlt']) with ⟨x, e', H', h1, es', rfl, rfl, h2, h3⟩ | ⟨v, H', h1, rfl, h2, h3⟩
 ·exact .inl ⟨es', H', h1, h2, h3⟩
 ·exact .inr ⟨H', h1, h2, h3⟩
end
section
variable (k : Nat) {H0 : Heap} {X : List It} {c r : Nat} {n : Int} {tab vR vE : Value} {rv ev : List Int} {w : Int}
 (hn : 0 ≤ n ∧ n ≤ 65535) (hw : w = 0 ∨ w = 1 ∨ w = 2) (hvR : Sl H0 1 vR encB rv) (hvE : Sl H0 1 vE encB ev) (hbR : Byt rv) (hbE : Byt ev) (hlR : rv.length < 2 ^ 31) (hlE : ev.length < 2 ^ 31)
 (hX : itBlk r ⟨[ptrV c, vR, vE, .int .i64 w], 1, false⟩ ∈ X)
include hn hw hvR hvE hbR hbE hlR hlE hX
theorem all_loop {H : Heap} (h : MS H0 H X c n tab [] []) :
  Cp failV (Ext H0) (loopN (ζ40 k (R (T k))) loopFuel [(8, ptrV c), (9, ptrV r), (10, .int .i64 2), (11, .int .i64 0)] H) (closeA rv ev n w 2)
   fun x xe H' => (∃ a b, xe = (.exit 0, [(8, ptrV c), (9, ptrV r), (10, a), (11, b), (56, .bool false)])) ∧ MS H0 H' X c n tab x.1 x.2 := by
 rcases loopDecP (body := ζ40 k (R (T k)))
  (fun m e H' => ∃ (s : Nat) (rs : List (List Int)) (es : List En), m = 2 * (65537 - s) + (if rs.length < s then 1 else 0) ∧ e = [(8, ptrV c), (9, ptrV r), (10, .int .i64 s), (11, .int .i64 (needR rs))] ∧ 2 ≤ s ∧ s ≤ 65536 ∧ rs.length ≤ s ∧
   rowsTo rv n rs.length = some rs ∧ es.length = (needR rs).toNat ∧ entsTo ev w es.length = some es ∧ needE es ≤ s ∧ MS H0 H' X c n tab rs es ∧ closeA rv ev n w 2 = if rs.length < s then closeA rv ev n w s else some (rs, es))
  (fun x e H' => x = .exit 0 ∧ ∃ rs es a b, e = [(8, ptrV c), (9, ptrV r), (10, a), (11, b), (56, .bool false)] ∧ closeA rv ev n w 2 = some (rs, es) ∧ MS H0 H' X c n tab rs es)
  (fun v H' => v = failV ∧ Ext H0 H' ∧ closeA rv ev n w 2 = none)
  (2 * 65535 + 1) (e0 := [(8, ptrV c), (9, ptrV r), (10, .int .i64 2), (11, .int .i64 0)]) (H0 := H) ⟨2, [], [], rfl, rfl, by omega, by omega, by simp, rfl, rfl, rfl, (by decide), h, rfl⟩ (by omega)
  (fun m e H' ⟨s, rs, es, hm, he, hs2, hs6, hrs, ht, hel, hte, hne, h, hspec⟩ => by
   subst he
   obtain ⟨s1, s2, hM, hl1, hl2⟩ := h.here
   have h0 := ζ6o rs
   by_cases hlt : rs.length < s
   ·have hlt' : (rs.length : Int) < s := by omega
    rw [if_pos hlt] at hspec
    have hce := ζit (rv := rv) hbE (n := n) (w := w) hs6
    have hgo : ∀ x, (loopN (ζ41 k (R (T k))) loopFuel [(8, ptrV c), (9, ptrV r), (10, .int .i64 s), (11, .int .i64 (needR rs))] H').bind (fun r111 h112 => ζ8s k (R (T k)) r111.1 r111.2 h112) = x → ζ40 k (R (T k)) [(8, ptrV c), (9, ptrV r), (10, .int .i64 s), (11, .int .i64 (needR rs))] H' = x := fun x hx => by
     rw [← hx, ζ9m]
     simp -implicitDefEqProofs (disch := omega) [hM, hl1, hlt']
    rcases ζn9 k hn hvR hvE hbR hlR hX s hs6 h hrs ht with ⟨rs', H2, e2, ht2, h2⟩ | ⟨H2, e2, hx2, ht2⟩
    rotate_left
    ·refine .inr (.inr ⟨failV, H2, hgo _ ?_, rfl, hx2, by rw [hspec, hce, ht2]; rfl⟩)
     rw [e2]; rfl
    have hrl : rs'.length = s := by have := mapO_len ht2; simpa using this
    have hn2 := ζ6o rs'
    have hn6 := ζcm hbR ht2
    have hpre : rs = rs'.take rs.length := by
     have := ζaa hrs ht2
     have ht' : mapO (rowK rv n) (List.range rs.length) = some rs := ht
     rw [ht'] at this
     injection this
    have hmono : needR rs ≤ needR rs' := by
     conv => lhs; rw [hpre]
     have := List.take_append_drop rs.length rs'
     conv => rhs; rw [← this]
     unfold needR
     rw [List.flatten_append, ζ4v]
     omega
    have hNN : ((needR rs').toNat : Int) = needR rs' := by omega
    rw [hspec] at *
    rw [ht2, Option.bind_some] at hce
    have hgo2 : ∀ x, (loopN (ζ42 k (R (T k))) loopFuel [(8, ptrV c), (9, ptrV r), (10, .int .i64 s), (11, .int .i64 (((needR rs').toNat : Nat) : Int))] H2).bind (fun r111 h112 => ζ8t k (R (T k)) r111.1 r111.2 h112) = x → ζ40 k (R (T k)) [(8, ptrV c), (9, ptrV r), (10, .int .i64 s), (11, .int .i64 (needR rs))] H' = x := fun x hx => by
     refine hgo x ?_
     rw [e2, ← hx, Res.bind_ok, ζd5, hNN]
    rcases ζmm k hw hvR hvE hbE hlE hX s (by omega) (needR rs').toNat (by omega) h2 (by omega) hte hne with ⟨es', H3, e3, ht3, h3⟩ | ⟨H3, e3, hx3, ht3⟩
    rotate_left
    ·refine .inr (.inr ⟨failV, H3, hgo2 _ ?_, rfl, hx3, by rw [hce, ht3]; rfl⟩)
     rw [e3]; rfl
    have hE := needE_le hbE ht3
    have hel' : es'.length = (needR rs').toNat := by have := mapO_len ht3; simpa using this
    rw [ht3, Option.bind_some] at hce
    have hmx : ((max s (needE es').toNat : Nat) : Int) = max (s : Int) (needE es') := by omega
    refine .inl ⟨2 * (65537 - max s (needE es').toNat) + (if rs'.length < max s (needE es').toNat then 1 else 0), _, H3, hgo2 _ ?_, ?_, max s (needE es').toNat, rs', es', rfl, rfl, by omega, by omega, by omega, by rw [hrl]; exact ht2, hel', by rw [hel']; exact ht3, by omega, h3, ?_⟩
    ·rw [e3, Res.bind_ok, ζd6, hmx, hNN]
    ·rw [hm, if_pos hlt, hrl]
     split <;> omega
    ·rw [hce, hrl]
     by_cases hcl : (needE es').toNat ≤ s
     ·rw [if_pos hcl, if_neg (by omega)]
     ·rw [if_neg hcl, if_pos (by omega), show max s (needE es').toNat = (needE es').toNat by omega]
   ·have hlt' : ¬ (rs.length : Int) < s := by omega
    have hlt2 : ¬ (es.length : Int) < needR rs := by omega
    rw [if_neg hlt] at hspec
    refine .inr (.inl ⟨.exit 0, [(8, ptrV c), (9, ptrV r), (10, .int .i64 s), (11, .int .i64 (needR rs)), (56, .bool false)], H', ?_, by simp, rfl, rs, es, _, _, rfl, hspec, h⟩)
    rw [ζ9m]
    simp -implicitDefEqProofs (disch := omega) [hM, hl1, hl2, hlt', hlt2]) with ⟨x, e', H', h1, rfl, rs', es', a, b, rfl, h2, h3⟩ | ⟨v, H', h1, rfl, h2, h3⟩
 ·rw [h2]
  exact ⟨_, H', h1, h3.ext, ⟨a, b, rfl⟩, h3⟩
 ·rw [h3]
  exact ⟨H', h1, h2⟩
end
end Go.Sw
end
section
namespace Go.Sw
open Go.RowKit
abbrev machV (m : Mach) : Value := boxV #[.int .i64 m.classes, tabV m.tab, lv encRow m.rows, lv encEn m.ents]
theorem Flat.rowsL (l : List (List Int)) : Flat (Go.Sw.lv encRow l) := .lv fun p _ => .cons (Flat.I _) .nil
theorem Flat.mach (m : Mach) : Flat (machV m) := .boxV (l := [.int .i64 m.classes, tabV m.tab, Go.Sw.lv encRow m.rows, Go.Sw.lv encEn m.ents]) (.cons (.int _ _) (.cons (Flat.tab _) (.cons (Flat.rowsL _) (.cons (Flat.Ens _) .nil))))
theorem ζn8 (l : List (List Int × Value)) : rows (fun x : List Int × Value => encRow x.1) l = rows encRow (l.map Prod.fst) := by
 induction l with
 | nil => rfl
 | cons x l ih => rw [List.map_cons, ζ3q, ζ3q, ih]
theorem MS.freeze {H0 H : Heap} {X : List It} {c : Nat} {n : Int} {t : Int × List Pt} {rs : List (List Int)} {es : List En} (h : MS H0 H X c n (tabV t) rs es) : ∃ L, fzV H0.n H fzDepth (ptrV c) = some (machV ⟨n, t, rs, es⟩, L) := by
 obtain ⟨l, s1, o1, s2, o2, bs, h1, g, h3⟩ := h
 have hc := (g.lt 0 rfl c (by simp [itBlk])).1
 obtain ⟨L1, f1⟩ := (g.own 1 rfl).freezeG (enc' := fun x : List Int × Value => encRow x.1) encU_len 5 fun x hx => by
  obtain ⟨o, ho⟩ := h3 x hx
  obtain ⟨L, hL⟩ := (g.memOwn (o := o) (m := 1) (s := x.2) (enc := encI) (l := x.1) (by simp [ho])).freeze encI_len (ζ9f _) 4
  exact ⟨_, mapF_one hL⟩
 obtain ⟨L2, f2⟩ := (g.own 2 rfl).freeze ζ3f (ζfp _) 5
 have e1 : lv (fun x : List Int × Value => encRow x.1) l = lv encRow rs := by
  unfold lv
  rw [ζn8, h1, ← h1, List.length_map]
 rw [e1] at f1
 exact ⟨_, fz_box hc (g.get 0 rfl) (ζ1e (v := .int .i64 n) (u := .int .i64 n) (L1 := []) rfl (ζ1e (v := tabV t) (u := tabV t) (L1 := []) rfl (ζ1e f1 (mapF_one f2))))⟩
theorem restS_sl {H : Heap} {v : Value} {b r : List Int} (hv : Sl H 1 v encB b) {i : Int} (hl : b.length < 2 ^ 62) (hi : i ≤ 9223372036854775807) (h : restS b i = some r) : Sl H 1 (subV 1 v i.toNat (behind b i).toNat) encB r :=
 ζ3h hv (by rw [ζb5 b i hl hi]; exact h)
theorem ζ56 {b r : List Int} {i : Int} (h : restS b i = some r) : r.length ≤ b.length := by
 unfold restS at h
 split at h
 ·injection h with h
  subst h
  simp
 ·cases h
theorem ζi6 (k : Nat) {H : Heap} {v : Value} {b : List Int} (hv : Sl H 1 v encB b) (hb : Byt b) (g w : Int) (hg1 : 1 ≤ g) (hg2 : g ≤ 65535) (hw : w = 0 ∨ w = 1 ∨ w = 2) (hl : b.length < 2 ^ 31) :
  R (T k) F.ζ27 [.agg #[v], .int .i64 g, .int .i64 w] H = orF (machS b g w) machV H := by
 rw [ζip]
 have hx : Ext H (H.push ⟨[v], 1, false⟩) := (Ext.refl H).push _
 have hq := rd_vw hv
 have hqa : veq (.agg #[v]) (.agg #[v]) = true := veq_agg (l := [v]) fun u hu => by simp at hu; subst hu; exact hq
 refine fz_orF ?_ fun _ _ => (Flat.mach _).alive
 simp -implicitDefEqProofs [ζ27]
 unfold machS
 refine Cp.call (U32_run k (hv.up hx) hb 0 (by omega)) hx fun n hn => ?_
 have hn := uS_four hb hn
 by_cases h4 : 4 ≤ n
 rotate_left
 ·have h4' : ¬ n ≥ 4 := by omega
  rw [if_neg (fun h => h4 h.1)]
  simp -implicitDefEqProofs (disch := omega) [h4']
  exact .throw hx
 have h4' : n ≥ 4 := h4
 by_cases h5 : n ≤ 65535
 rotate_left
 ·rw [if_neg (fun h => h5 h.2)]
  simp -implicitDefEqProofs (disch := omega) [h4', h5]
  exact .throw hx
 rw [if_pos ⟨h4, h5⟩]
 simp -implicitDefEqProofs (disch := omega) [h4', h5]
 refine Cp.callT (U32_run k (hv.up hx) hb 4 (by omega)) (fun _ => ⟨_, rfl, hx⟩) fun i hi => ?_
 have hi := uS_four hb hi
 refine Cp.callT (Rest_run k (hv.up hx) i (by omega) (by omega)) (fun _ => ⟨_, by simp -implicitDefEqProofs (disch := omega) [hqa], hx⟩) fun tb htb => ?_
 refine Cp.callT (ζea k (restS_sl (hv.up hx) (by omega) (by omega) htb) (hb.rest htb) g 2 hg1 hg2 (.inl rfl) (by have := ζ56 htb; omega)) (fun _ => ⟨_, by simp -implicitDefEqProofs (disch := omega) [hqa], hx⟩) fun tab htab => ?_
 have hx2 : Ext H ((H.push ⟨[v], 1, false⟩).push ⟨[.int .i64 n, tabV tab, .slice none 0 0, .slice none 0 0], 1, false⟩) := hx.push _
 simp -implicitDefEqProofs (disch := omega) [hqa]
 refine Cp.callT (U32_run k (hv.up hx2) hb 8 (by omega)) (fun _ => ⟨_, by simp -implicitDefEqProofs (disch := omega) [hqa], hx2⟩) fun j hj => ?_
 have hj := uS_four hb hj
 refine Cp.callT (Rest_run k (hv.up hx2) j (by omega) (by omega)) (fun _ => ⟨_, by simp -implicitDefEqProofs (disch := omega) [hqa], hx2⟩) fun rv hrv => ?_
 simp -implicitDefEqProofs (disch := omega) [hqa]
 refine Cp.callT (U32_run k (hv.up hx2) hb 12 (by omega)) (fun _ => ⟨_, by simp -implicitDefEqProofs (disch := omega) [hqa], hx2⟩) fun q hq => ?_
 have hq := uS_four hb hq
 refine Cp.callT (Rest_run k (hv.up hx2) q (by omega) (by omega)) (fun _ => ⟨_, by simp -implicitDefEqProofs (disch := omega) [hqa], hx2⟩) fun ev hev => ?_
 have sR := restS_sl hv (by omega) (by omega) hrv
 have sE := restS_sl hv (by omega) (by omega) hev
 have lR := ζ56 hrv
 have lE := ζ56 hev
 generalize subV 1 v j.toNat (behind b j).toNat = vR at sR
 generalize subV 1 v q.toNat (behind b q).toNat = vE at sE
 have qR := rd_vw sR
 have qE := rd_vw sE
 have qaR : veq (.agg #[vR]) (.agg #[vR]) = true := veq_agg (l := [vR]) fun u hu => by simp at hu; subst hu; exact qR
 have qaE : veq (.agg #[vE]) (.agg #[vE]) = true := veq_agg (l := [vE]) fun u hu => by simp at hu; subst hu; exact qE
 have stR := sR.storable
 have stE := sE.storable
 have ceR := sR.cells
 have ceE := sE.cells
 have hms : MS H (((H.push ⟨[v], 1, false⟩).push ⟨[.int .i64 n, tabV tab, .slice none 0 0, .slice none 0 0], 1, false⟩).push ⟨[ptrV (H.n + 1), vR, vE, .int .i64 w], 1, false⟩) [itBlk (H.n + 2) ⟨[ptrV (H.n + 1), vR, vE, .int .i64 w], 1, false⟩] (H.n + 1) n (tabV tab) [] [] := by
  have g := ((Star.nil H).rest hx).push ⟨[.int .i64 n, tabV tab, .slice none 0 0, .slice none 0 0], 1, false⟩
  have g := g.more_row (Ext.refl _) (OwnO.nil encU _ 1) (fun b hb => by cases hb)
  have g := g.more_row (Ext.refl _) (OwnO.nil encEn _ 4) (fun b hb => by cases hb)
  have g := g.push ⟨[ptrV (H.n + 1), vR, vE, .int .i64 w], 1, false⟩
  exact ⟨[], _, none, _, none, [], rfl, by simpa using g, fun x hx => by cases hx⟩
 simp -implicitDefEqProofs (disch := omega) [hqa, qaR, qaE, stR, stE, ceR, ceE]
 refine Cp.bindM (all_loop k (X := [itBlk (H.n + 2) ⟨[ptrV (H.n + 1), vR, vE, .int .i64 w], 1, false⟩]) (by omega) hw sR sE (hb.rest hrv) (hb.rest hev) (by omega) (by omega) (by simp) hms) ?_
 rintro ⟨rs, es⟩ ⟨x, e⟩ H' _ hx' ⟨⟨a, b, he⟩, hm⟩
 injection he with e1 e2
 subst e1 e2
 simp only [ζd4]
 exact .ok hx' hm.freeze
end Go.Sw
end
section
set_option maxRecDepth 100000
set_option linter.unusedVariables false
namespace Go.Sw
noncomputable section
end
end Go.Sw
end
section
namespace Go.Sw
open Go.RowKit
theorem subV_lv (b : List Int) (a n : Nat) (h : a + n ≤ b.length) : subV 1 (lv encB b) a n = lv encB ((b.drop a).take n) := by
 have h2 := ((Sl.lv Heap.empty 1 b).sub encB_len .i64 .i64 .i64 a n h).1 Heap.empty (Ext.refl _)
 rw [slS_lv encB_len b _ _ _ a (a + n) (a + n) (by simp [boundOf]) (by unfold boundOf; dsimp only; rw [if_pos (by omega), Int.toNat_natCast]) (by unfold boundOf; dsimp only; rw [if_pos (by omega), Int.toNat_natCast]) (fun _ => rfl) (by omega) (Nat.le_refl _) h] at h2
 injection h2 with h2
 rw [← h2, List.drop_take, show a + n - a = n by omega]
theorem piece_lv {b r : List Int} {i n : Int} (h : pieceS b i n = some r) : subV 1 (lv encB b) i.toNat n.toNat = lv encB r := by
 obtain ⟨h1, rfl⟩ := ζ37.1 h
 exact subV_lv b _ _ (by omega)
theorem ζn1 {α : Type} {o : Option α} {f g : α → Value} (h : ∀ a, o = some a → f a = g a) (H : Heap) : orF o f H = orF o g H := by
 cases o with
 | none => rfl
 | some a => show Res.ok (f a) H = Res.ok (g a) H; rw [h a rfl]
abbrev vwB (b : List Int) : Value := .agg #[lv encB b]
theorem Rest_lv (k : Nat) (b : List Int) (i : Int) (hl : b.length < 2 ^ 62) (hi : i ≤ 9223372036854775807) (H : Heap) : R (T k) F.ζ18 [vwB b, .int .i64 i] H = orF (restS b i) vwB H :=
 (Rest_run k (Sl.lv H 1 b) i hl hi).trans (ζn1 (fun r hr => by rw [piece_lv (by rw [ζb5 b i hl hi]; exact hr)]) H)
theorem Of_lv (k : Nat) (b : List Int) (H : Heap) : R (T k) F.view_Of [lv encB b] H = .ok (vwB b) H := Of_run k (Sl.lv H 1 b)
theorem veq_Pt (l : List Pt) : veq (lv encPt l) (lv encPt l) = true := veq_lv fun p _ v hv => by
 simp [encPt] at hv
 rcases hv with rfl | rfl | rfl <;> simp
theorem veq_tab (x : Int × List Pt) : veq (boxV #[.int .i64 x.1, lv encPt x.2]) (boxV #[.int .i64 x.1, lv encPt x.2]) = true := veq_boxV (l := [.int .i64 x.1, lv encPt x.2]) fun v hv => by
 simp at hv
 rcases hv with rfl | rfl
 ·simp
 ·exact veq_Pt _
theorem ζgu {α : Type} (a : α) (f : α → Value) (H : Heap) : orF (some a) f H = .ok (f a) H := rfl
end Go.Sw
end
section
namespace Go.Sw
open Go.RowKit
theorem ζm3 (k : Nat) (m : Mach) (hm : m.ok) (id : Int) (H : Heap) : R (T k) F.ζt [machV m, .int .i64 id] H = .ok (.int .i64 (classS m id)) H := by
 rw [ζaf]
 refine nrm_gc (Pure.of ?_) (.int _ _)
 have hget := fun H => Get_run k m.tab hm.pts hm.rise id hm.plen H
 unfold classS
 by_cases h : id = 65535
 ·subst h
  simp -implicitDefEqProofs (disch := omega) [ζt]
 ·have h' : (id == 65535) = false := by simpa using h
  rw [if_neg h]
  cases hg : getS m.tab.2 id with
  | none =>
   rw [hg] at hget
   simp -implicitDefEqProofs (disch := omega) [ζt, h', hget]
  | some x =>
   rw [hg] at hget
   dsimp only
   by_cases hx : x < m.classes
   ·simp -implicitDefEqProofs (disch := omega) [ζt, h', hget, hx]
   ·simp -implicitDefEqProofs (disch := omega) [ζt, h', hget, hx]
def encEA (o : Option En) : Value := .agg (encEn (o.getD ⟨0, 0, 0, 0⟩)).toArray
theorem ζe1 (o : Option En) : Flat (encEA o) := Flat.ofEn _
theorem ζes {m : Mach} (hm : m.ok) {s c : Int} (h : 0 ≤ s ∧ s < m.rows.length ∧ 0 ≤ c ∧ c < m.classes) :
  ∃ r x e, m.rows[s.toNat]? = some r ∧ r[c.toNat]? = some x ∧ 0 ≤ x ∧ m.ents[x.toNat]? = some e ∧ stepS m s c = some e := by
 obtain ⟨r, hr⟩ : ∃ r, m.rows[s.toNat]? = some r := ⟨_, List.getElem?_eq_getElem (by omega)⟩
 have hrm := hm.row r (List.mem_of_getElem? hr)
 obtain ⟨x, hx⟩ : ∃ x, r[c.toNat]? = some x := ⟨_, List.getElem?_eq_getElem (by omega)⟩
 have hxm := hrm.2 x (List.mem_of_getElem? hx)
 obtain ⟨e, he⟩ : ∃ e, m.ents[x.toNat]? = some e := ⟨_, List.getElem?_eq_getElem (by omega)⟩
 refine ⟨r, x, e, hr, hx, hxm.1, he, ?_⟩
 unfold stepS
 rw [if_pos h, hr, Option.bind_some, hx, Option.bind_some, he]
theorem Step_run (k : Nat) (m : Mach) (hm : m.ok) (s c : Int) (H : Heap) : R (T k) F.ζs [machV m, .int .i64 s, .int .i64 c] H = .ok (.tuple #[encEA (stepS m s c), .bool (stepS m s c).isSome]) H := by
 rw [ζbd]
 have fl : Flat (.tuple #[encEA (stepS m s c), .bool (stepS m s c).isSome]) := .tupleL (.cons (ζe1 _) (.cons (.bool _) .nil))
 have no : ¬ (0 ≤ s ∧ s < m.rows.length ∧ 0 ≤ c ∧ c < m.classes) → stepS m s c = none := fun h => by unfold stepS; rw [if_neg h]
 have hx : Ext H (H.push ⟨[.int .i64 0, .int .i64 0, .int .i64 0, .int .i64 0], 1, false⟩) := (Ext.refl H).push _
 by_cases h1 : s < 0
 ·rw [no (by omega)] at fl ⊢
  refine nrm_gc ⟨_, ?_, hx⟩ fl.alive
  simp -implicitDefEqProofs (disch := omega) [ζs, h1, encEA]
 by_cases h2 : s ≥ m.rows.length
 ·rw [no (by omega)] at fl ⊢
  refine nrm_gc ⟨_, ?_, hx⟩ fl.alive
  simp -implicitDefEqProofs (disch := omega) [ζs, h1, h2, encEA]
 by_cases h3 : c < 0
 ·rw [no (by omega)] at fl ⊢
  refine nrm_gc ⟨_, ?_, hx⟩ fl.alive
  simp -implicitDefEqProofs (disch := omega) [ζs, h1, h2, h3, encEA]
 by_cases h4 : c ≥ m.classes
 ·rw [no (by omega)] at fl ⊢
  refine nrm_gc ⟨_, ?_, hx⟩ fl.alive
  simp -implicitDefEqProofs (disch := omega) [ζs, h1, h2, h3, h4, encEA]
 obtain ⟨r, x, e, hr, hxx, hx0, he, hs⟩ := ζes hm (s := s) (c := c) (by omega)
 rw [hs] at fl ⊢
 have i1 := fun H' => ixS_lv ζl3 m.rows .i64 s r (by omega) hr H'
 have i2 := fun H' => ixS_lv encI_len r .i64 c x (by omega) hxx H'
 have i3 := fun H' => ixS_lv ζ3f m.ents .i64 x e hx0 he H'
 refine nrm_gc ⟨H.push ⟨encEn e, 1, false⟩, ?_, (Ext.refl H).push _⟩ fl.alive
 simp -implicitDefEqProofs (disch := omega) [ζs, h1, h2, h3, h4, i1, i2, i3, encEA]
theorem ζjt (k : Nat) (hk : k < 1000000) (m : Mach) (hl : m.ents.length ≤ 65536) (H : Heap) : R (T k) F.ζ1j [machV m] H = .ok (lv encEn m.ents) H := by
 have ho : own k = .fz := by unfold own; rw [show Nat.blt k 1000000 = true from Nat.ble_eq_true_of_le hk]; rfl
 rw [ζ95, ho]
 have g := (Star.nil H).more_row (Ext.refl _) (OwnO.bare encEn _ 4) (fun b hb => by cases hb)
 obtain ⟨s, o, H1, e1, g⟩ := g.append (bytes := 32) 0 ζ3f rfl (b := lv encEn m.ents) (l2 := m.ents) rfl (lv_first ζ3f m.ents H) (by simp; omega) (by decide)
 simp only [List.nil_append, List.set_cons_zero] at g
 obtain ⟨L, hf⟩ := (g.own 0 rfl).freeze ζ3f (ζfp _) 6
 refine nrm_fz (v := s) (H' := H1) ?_ hf g.ext (Flat.Ens _).alive
 simp -implicitDefEqProofs (disch := omega) [ζ1j, e1]
end Go.Sw
end
section
set_option maxRecDepth 100000
set_option linter.unusedVariables false
namespace Go.Sw
noncomputable section
def ctx_Read (k : Nat) (call : Caller) (a0 a1 : Value) (h : Heap) : Res Value :=
 (boxR a0 h).bind fun v1 h2 =>
 (boxR a1 h2).bind fun v3 h4 =>
 (allocR Prog 193 h4).bind fun v5 h6 =>
 (loadR Prog 3 v3 h6).bind fun v7 h8 =>
 (binR Prog .lss 3 v7 (.int .i64 1) h8).bind fun v9 h10 =>
 ((bif wantVal v9 false then loadR Prog 3 v3 h10 else Res.ok undef h10)).bind fun v11 h12 =>
 ((bif wantVal v9 false then binR Prog .gtr 3 v11 (.int .i64 65535) h12 else Res.ok undef h12)).bind fun v13 h14 =>
 (condV (some v9) (Res.ok (.bool true) h14) (Res.ok v13 h14)).bind fun v15 h16 =>
 condV (some v15) (
 (storeR Prog 193 v5 (.pointer none) h16).bind fun _v17 h18 =>
 (loadR Prog 193 v5 h18).bind fun v19 h20 =>
 .ok (.tuple #[v19, (.int .i64 1)]) h20)
 (
 (call F.view_Try [(.func (.func F.ζ2m) #[] #[v1, v3, v5])] h16).bind fun v21 h22 =>
 (unR .not v21 h22).bind fun v23 h24 =>
 condV (some v23) (
 (storeR Prog 193 v5 (.pointer none) h24).bind fun _v25 h26 =>
 (loadR Prog 193 v5 h26).bind fun v27 h28 =>
 .ok (.tuple #[v27, (.int .i64 2)]) h28)
 (
 (loadR Prog 193 v5 h24).bind fun v29 h30 =>
 (storeR Prog 193 v5 v29 h30).bind fun _v31 h32 =>
 (loadR Prog 193 v5 h32).bind fun v33 h34 =>
 .ok (.tuple #[v33, (.int .i64 0)]) h34))
theorem ζl1 (k : Nat) (a0 a1 : Value) (h : Heap) : R (T k) F.ctx_Read [a0, a1] h = nrm .fz h (ctx_Read k (R (T k)) a0 a1 h) :=
 (R_body (t := T k) (T_scott k) (by kernel_rfl) (by kernel_rfl) _ _).trans (by kernel_rfl)
def ζ3w (k : Nat) (call : Caller) (a0 a1 : Value) (h : Heap) : Res Value :=
 (boxR a0 h).bind fun v1 h2 =>
 (boxR a1 h2).bind fun v3 h4 =>
 (allocR Prog 3 h4).bind fun v5 h6 =>
 (storeR Prog 3 v5 (.int .i64 (-1)) h6).bind fun _v7 h8 =>
 (loadR Prog 193 v1 h8).bindN fun v9 h10 =>
 (nilR v9 h10).bindN fun v11 h12 =>
 (fieldAddrR Prog 285 v11 0 h12).bindN fun v13 h14 =>
 (loadR Prog 133 v13 h14).bindN fun v15 h16 =>
 (loadR Prog 51 v3 h16).bindN fun v17 h18 =>
 (call F.ζ4s [(.func (.func F.ζr) #[] #[v1, v3, v5])] h18).bindT (fun p21 h22 => .panic p21 h22) fun v19 h20 =>
 (call F.ζ45 [v15, v17, v19] h20).bindT (fun p25 h26 => chkR ((okVal (loadR Prog 193 v1 h20) v9 && true) && ((okVal (loadR Prog 133 v13 h20) v15 && true) && ((okVal (loadR Prog 51 v3 h20) v17 && true) && true))) (.panic p25 h26)) fun v23 h24 =>
 (extractR v23 0 h24).bindN fun v27 h28 =>
 (extractR v23 1 h28).bindN fun v29 h30 =>
 chkR ((okVal (loadR Prog 193 v1 h20) v9 && true) && ((okVal (loadR Prog 133 v13 h20) v15 && true) && ((okVal (loadR Prog 51 v3 h20) v17 && true) && true))) (
 .ok v29 h30)
theorem ζf4 (k : Nat) (a0 a1 : Value) (h : Heap) : R (T k) F.ζ3w [a0, a1] h = nrm .no h (ζ3w k (R (T k)) a0 a1 h) :=
 (R_body (t := T k) (T_scott k) (by kernel_rfl) (by kernel_rfl) _ _).trans (by kernel_rfl)
def ζa2 (k : Nat) (call : Caller) : Env → Heap → Res (AExit × Env) := loopB (C k) call F.ctx_Take [1, 1, 1, 1, 0, 1, 0, 0]
def ζdv (k : Nat) (call : Caller) : Kont Value := kBlock 0 (kSeq (pieceK (C k) call F.ctx_Take [1, 1, 1, 1, 1]) (kDone Prog (resOf Prog F.ctx_Take)))
def ζa3 (k : Nat) (call : Caller) : Env → Heap → Res (AExit × Env) := loopB (C k) call F.ctx_Take [1, 1, 1, 1, 0, 1, 0, 0, 1, 1, 0, 0, 1, 1, 0, 0]
def ζdw (k : Nat) (call : Caller) : Kont (AExit × Env) := kBlock 2 (kBlock 1 (kSeq (pieceK (C k) call F.ctx_Take [1, 1, 1, 1, 0, 1, 0, 0, 1, 1, 1]) (kRound (ownOf (C k) F.ctx_Take [1, 1, 1, 1, 0, 1, 0, 0]))))
def ζfn (k : Nat) (call : Caller) (a1 a5 a6 a7 a26 a27 a28 a36 a37 a38 : Value) (h : Heap) : Res (AExit × Env) :=
 kSeq (pieceK (C k) call F.ctx_Take [1, 1, 1, 1, 0, 1, 0, 0, 1, 1, 0, 0, 1, 1, 0, 0, 1, 1, 1]) (kRound (ownOf (C k) F.ctx_Take [1, 1, 1, 1, 0, 1, 0, 0, 1, 1, 0, 0, 1, 1, 0, 0])) .normal [(1, a1), (5, a5), (6, a6), (7, a7), (26, a26), (27, a27), (28, a28), (36, a36), (37, a37), (38, a38)] h
def ζfo (k : Nat) (call : Caller) (a1 a5 a6 a7 a11 a26 a27 a28 a36 a37 a38 a43 : Value) (h : Heap) : Res (AExit × Env) :=
 kSeq (pieceK (C k) call F.ctx_Take [1, 1, 1, 1, 0, 1, 0, 0, 1, 1, 0, 0, 1, 1, 0, 0, 1, 1, 1]) (kRound (ownOf (C k) F.ctx_Take [1, 1, 1, 1, 0, 1, 0, 0, 1, 1, 0, 0, 1, 1, 0, 0])) .normal [(1, a1), (5, a5), (6, a6), (7, a7), (11, a11), (26, a26), (27, a27), (28, a28), (36, a36), (37, a37), (38, a38), (43, a43)] h
def ζ7q (k : Nat) (call : Caller) : Env → Heap → Res (AExit × Env) := loopB (C k) call F.ctx_Take [1, 1, 1, 1, 1, 0, 1, 0, 0]
def ζdx (k : Nat) (call : Caller) : Kont Value := kBlock 4 (kSeq (pieceK (C k) call F.ctx_Take [1, 1, 1, 1, 1, 1]) (kDone Prog (resOf Prog F.ctx_Take)))
def ctx_Take (k : Nat) (call : Caller) (a0 a1 : Value) (h : Heap) : Res Value :=
 (boxR a0 h).bind fun v1 h2 =>
 (loadR Prog 83 v1 h2).bind fun v3 h4 =>
 (call F.ζ27 [v3, a1, (.int .i64 2)] h4).bind fun v5 h6 =>
 (buildR Prog 285 [(0, v5)] h6).bind fun v7 h8 =>
 (boxR v7 h8).bind fun v9 h10 =>
 (loadR Prog 83 v1 h10).bindN fun v11 h12 =>
 (loadR Prog 83 v1 h12).bindN fun v13 h14 =>
 (call F.ζ1d [v13, (.int .i64 16)] h14).bindT (fun p17 h18 => (allocR Prog 83 h14).bindN fun v19 h20 => .panic p17 h18) fun v15 h16 =>
 (call F.ζ18 [v11, v15] h16).bindT (fun p23 h24 => (allocR Prog 83 h16).bindN fun v25 h26 => chkR ((okVal (loadR Prog 83 v1 h16) v11 && true) && true) (.panic p23 h24)) fun v21 h22 =>
 (allocR Prog 83 h22).bindN fun v27 h28 =>
 (storeR Prog 83 v27 v21 h28).bindN fun _v29 h30 =>
 chkR ((okVal (loadR Prog 83 v1 h16) v11 && true) && true) (
 (nilR v9 h30).bind fun v31 h32 =>
 (fieldAddrR Prog 285 v31 0 h32).bind fun v33 h34 =>
 (loadR Prog 133 v33 h34).bind fun v35 h36 =>
 (call F.ζ1j [v35] h36).bind fun v37 h38 =>
 (builtinV Prog .len [144] [v37] h38).bind fun v39 h40 =>
 (loopN (ζa2 k call) loopFuel [(1, a1), (5, v9), (6, v27), (7, (.int .i64 0)), (26, v37), (27, v39), (28, (.int .i64 0))] h40).bind fun r41 h42 =>
 ζdv k call r41.1 r41.2 h42)
theorem ζl2 (k : Nat) (a0 a1 : Value) (h : Heap) : R (T k) F.ctx_Take [a0, a1] h = nrm .fz h (ctx_Take k (R (T k)) a0 a1 h) :=
 (R_body (t := T k) (T_scott k) (by kernel_rfl) (by kernel_rfl) _ _).trans (by kernel_rfl)
theorem ζbm (k : Nat) (call : Caller) (a1 a5 a6 a7 a26 a27 a28 : Value) (h : Heap) : ζa2 k call [(1, a1), (5, a5), (6, a6), (7, a7), (26, a26), (27, a27), (28, a28)] h =
 (binR Prog .lss 3 a28 a27 h).bind fun v43 h44 =>
 condV (some v43) (
 (indexAddrR Prog 144 a26 a28 h44).bind fun v45 h46 =>
 (loadR Prog 150 v45 h46).bind fun v47 h48 =>
 (allocR Prog 150 h48).bind fun v49 h50 =>
 (storeR Prog 150 v49 v47 h50).bind fun _v51 h52 =>
 (fieldAddrR Prog 150 v49 2 h52).bind fun v53 h54 =>
 (loadR Prog 3 v53 h54).bind fun v55 h56 =>
 (fieldAddrR Prog 150 v49 3 h56).bind fun v57 h58 =>
 (loadR Prog 3 v57 h58).bind fun v59 h60 =>
 (buildSliceR Prog 28 2 [(0, v55), (1, v59)] h60).bind fun v61 h62 =>
 (builtinV Prog .len [28] [v61] h62).bind fun v63 h64 =>
 (loopN (ζa3 k call) loopFuel [(1, a1), (5, a5), (6, a6), (7, a7), (26, a26), (27, a27), (28, a28), (36, v61), (37, v63), (38, (.int .i64 0))] h64).bind fun r65 h66 =>
 ζdw k call r65.1 r65.2 h66)
 (
 .ok ((.exit 0), [(1, a1), (5, a5), (6, a6), (7, a7), (26, a26), (27, a27), (28, a28), (29, v43)]) h44) :=
 (loopB_eq _ _).trans (by kernel_rfl)
theorem ζbn (k : Nat) (call : Caller) (a1 a5 a6 a7 a26 a27 a28 a36 a37 a38 : Value) (h : Heap) : ζa3 k call [(1, a1), (5, a5), (6, a6), (7, a7), (26, a26), (27, a27), (28, a28), (36, a36), (37, a37), (38, a38)] h =
 (binR Prog .lss 3 a38 a37 h).bind fun v67 h68 =>
 condV (some v67) (
 (indexAddrR Prog 28 a36 a38 h68).bind fun v69 h70 =>
 (loadR Prog 3 v69 h70).bind fun v71 h72 =>
 (binR Prog .neq 3 v71 (.int .i64 65535) h72).bind fun v73 h74 =>
 condV (some v73) (
 (binR Prog .add 3 v71 (.int .i64 1) h74).bind fun v75 h76 =>
 (builtinV Prog .max [3, 3] [a7, v75] h76).bind fun v77 h78 =>
 ζfn k call a1 a5 a6 v77 a26 a27 a28 a36 a37 a38 h78)
 (
 ζfo k call a1 a5 a6 a7 v71 a26 a27 a28 a36 a37 a38 v73 h74))
 (
 .ok ((.exit 2), [(1, a1), (5, a5), (6, a6), (7, a7), (26, a26), (27, a27), (28, a28), (36, a36), (37, a37), (38, a38), (39, v67)]) h68) :=
 (loopB_eq _ _).trans (by kernel_rfl)
theorem ζbk (k : Nat) (call : Caller) (a1 a5 a6 a7 a26 a27 a28 a36 a37 a38 : Value) (h : Heap) : ζfn k call a1 a5 a6 a7 a26 a27 a28 a36 a37 a38 h =
 (binR Prog .add 3 a38 (.int .i64 1) h).bind fun v79 h80 =>
 .ok (.normal, [(1, a1), (5, a5), (6, a6), (7, a7), (26, a26), (27, a27), (28, a28), (36, a36), (37, a37), (38, v79)]) h80 := by kernel_rfl
theorem ζbl (k : Nat) (call : Caller) (a1 a5 a6 a7 a11 a26 a27 a28 a36 a37 a38 a43 : Value) (h : Heap) : ζfo k call a1 a5 a6 a7 a11 a26 a27 a28 a36 a37 a38 a43 h =
 (binR Prog .add 3 a38 (.int .i64 1) h).bind fun v81 h82 =>
 .ok (.normal, [(1, a1), (5, a5), (6, a6), (7, a7), (26, a26), (27, a27), (28, a28), (36, a36), (37, a37), (38, v81)]) h82 := by kernel_rfl
theorem ζf5 (k : Nat) (call : Caller) (a1 a5 a6 a7 a26 a27 a28 a29 : Value) (h : Heap) : ζdv k call (.exit 0) [(1, a1), (5, a5), (6, a6), (7, a7), (26, a26), (27, a27), (28, a28), (29, a29)] h =
 (loopN (ζ7q k call) loopFuel [(1, a1), (5, a5), (6, a6), (50, a7), (51, (.int .i64 0))] h).bind fun r83 h84 =>
 ζdx k call r83.1 r83.2 h84 := by kernel_rfl
theorem ζ44 (k : Nat) (call : Caller) (a1 a5 a6 a50 a51 : Value) (h : Heap) : ζ7q k call [(1, a1), (5, a5), (6, a6), (50, a50), (51, a51)] h =
 (binR Prog .lss 3 a51 a50 h).bind fun v85 h86 =>
 condV (some v85) (
 (nilR a5 h86).bindN fun v87 h88 =>
 (fieldAddrR Prog 285 v87 1 h88).bindN fun v89 h90 =>
 (loadR Prog 283 v89 h90).bindN fun v91 h92 =>
 (loadR Prog 83 a6 h92).bindN fun v93 h94 =>
 (loadR Prog 83 a6 h94).bindN fun v95 h96 =>
 (binR Prog .mul 3 (.int .i64 4) a51 h96).bindN fun v97 h98 =>
 (call F.ζ1d [v95, v97] h98).bindT (fun p101 h102 => .panic p101 h102) fun v99 h100 =>
 (call F.ζ18 [v93, v99] h100).bindT (fun p105 h106 => chkR ((okVal (loadR Prog 283 v89 h100) v91 && true) && ((okVal (loadR Prog 83 a6 h100) v93 && true) && true)) (.panic p105 h106)) fun v103 h104 =>
 (call F.ζ24 [v103, a1, (.int .i64 2)] h104).bindT (fun p109 h110 => chkR ((okVal (loadR Prog 283 v89 h100) v91 && (okVal (loadR Prog 283 v89 h104) v91 && true)) && ((okVal (loadR Prog 83 a6 h100) v93 && true) && true)) (.panic p109 h110)) fun v107 h108 =>
 (buildSliceR Prog 283 1 [(0, v107)] h108).bindN fun v111 h112 =>
 (builtinV Prog .append [283, 283] [v91, v111] h112).bindN fun v113 h114 =>
 (nilR a5 h114).bindN fun v115 h116 =>
 (fieldAddrR Prog 285 v115 1 h116).bindN fun v117 h118 =>
 (storeR Prog 283 v117 v113 h118).bindN fun _v119 h120 =>
 chkR ((okVal (loadR Prog 283 v89 h100) v91 && (okVal (loadR Prog 283 v89 h104) v91 && (okVal (loadR Prog 283 v89 h108) v91 && (okVal (loadR Prog 283 v89 h112) v91 && true)))) && ((okVal (loadR Prog 83 a6 h100) v93 && true) && true)) (
 (binR Prog .add 3 a51 (.int .i64 1) h120).bind fun v121 h122 =>
 .ok (.normal, [(1, a1), (5, a5), (6, a6), (50, a50), (51, v121)]) h122))
 (
 .ok ((.exit 4), [(1, a1), (5, a5), (6, a6), (50, a50), (51, a51), (52, v85)]) h86) :=
 (loopB_eq _ _).trans (by kernel_rfl)
theorem ζf6 (k : Nat) (call : Caller) (a1 a5 a6 a7 a26 a27 a28 a36 a37 a38 a39 : Value) (h : Heap) : ζdw k call (.exit 2) [(1, a1), (5, a5), (6, a6), (7, a7), (26, a26), (27, a27), (28, a28), (36, a36), (37, a37), (38, a38), (39, a39)] h =
 (binR Prog .add 3 a28 (.int .i64 1) h).bind fun v123 h124 =>
 .ok (.normal, [(1, a1), (5, a5), (6, a6), (7, a7), (26, a26), (27, a27), (28, v123)]) h124 := by kernel_rfl
theorem ζf7 (k : Nat) (call : Caller) (a1 a5 a6 a50 a51 a52 : Value) (h : Heap) : ζdx k call (.exit 4) [(1, a1), (5, a5), (6, a6), (50, a50), (51, a51), (52, a52)] h =
 .ok a5 h := by kernel_rfl
def ζ2m (k : Nat) (call : Caller) (a0 a1 a2 : Value) (h : Heap) : Res Value :=
 (loadR Prog 65 a0 h).bindN fun v1 h2 =>
 (call F.view_Of [v1] h2).bindT (fun p5 h6 => (loadR Prog 3 a1 h2).bindN fun v7 h8 => chkR ((okVal (loadR Prog 3 a1 h) v7 && true) && true) (.panic p5 h6)) fun v3 h4 =>
 (loadR Prog 3 a1 h4).bindN fun v9 h10 =>
 (call F.ctx_Take [v3, v9] h10).bindT (fun p13 h14 => chkR ((okVal (loadR Prog 3 a1 h) v9 && true) && true) (.panic p13 h14)) fun v11 h12 =>
 (storeR Prog 193 a2 v11 h12).bindN fun _v15 h16 =>
 chkR ((okVal (loadR Prog 3 a1 h) v9 && true) && true) (
 .ok (.tuple #[]) h16)
theorem ζgf (k : Nat) (a0 a1 a2 : Value) (h : Heap) : R (T k) F.ζ2m [a0, a1, a2] h = nrm .no h (ζ2m k (R (T k)) a0 a1 a2 h) :=
 (R_body (t := T k) (T_scott k) (by kernel_rfl) (by kernel_rfl) _ _).trans (by kernel_rfl)
def ζr (k : Nat) (call : Caller) (a0 a1 a2 a3 a4 : Value) (h : Heap) : Res Value :=
 (boxR a1 h).bind fun v1 h2 =>
 (loadR Prog 193 a2 h2).bind fun v3 h4 =>
 (loadR Prog 51 a3 h4).bind fun v5 h6 =>
 (loadR Prog 3 a4 h6).bind fun v7 h8 =>
 (fieldAddrR Prog 150 v1 2 h8).bind fun v9 h10 =>
 (loadR Prog 3 v9 h10).bind fun v11 h12 =>
 (call F.ζ17 [v3, v5, v7, v11] h12).bind fun v13 h14 =>
 (loadR Prog 193 a2 h14).bind fun v15 h16 =>
 (loadR Prog 51 a3 h16).bind fun v17 h18 =>
 (fieldAddrR Prog 150 v1 3 h18).bind fun v19 h20 =>
 (loadR Prog 3 v19 h20).bind fun v21 h22 =>
 (call F.ζ17 [v15, v17, a0, v21] h22).bind fun v23 h24 =>
 (fieldAddrR Prog 150 v1 1 h24).bind fun v25 h26 =>
 (loadR Prog 3 v25 h26).bind fun v27 h28 =>
 (binR Prog .and 3 v27 (.int .i64 32768) h28).bind fun v29 h30 =>
 (binR Prog .neq 3 v29 (.int .i64 0) h30).bind fun v31 h32 =>
 ((bif wantVal v31 true then Res.ok a0 h32 else Res.ok undef h32)).bind fun v33 h34 =>
 ((bif wantVal v31 true then loadR Prog 51 a3 h34 else Res.ok undef h34)).bind fun v35 h36 =>
 ((bif wantVal v31 true then call F.ζ32 [v35] h36 else Res.ok undef h36)).bind fun v37 h38 =>
 ((bif wantVal v31 true then binR Prog .lss 3 v33 v37 h38 else Res.ok undef h38)).bind fun v39 h40 =>
 (condV (some v31) (Res.ok v39 h40) (Res.ok (.bool false) h40)).bind fun v41 h42 =>
 condV (some v41) (
 (storeR Prog 3 a4 a0 h42).bind fun _v43 h44 =>
 .ok (.tuple #[]) h44)
 (
 .ok (.tuple #[]) h42)
theorem ζ43 (k : Nat) (a0 a1 a2 a3 a4 : Value) (h : Heap) : R (T k) F.ζr [a0, a1, a2, a3, a4] h = nrm .no h (ζr k (R (T k)) a0 a1 a2 a3 a4 h) :=
 (R_body (t := T k) (T_scott k) (by kernel_rfl) (by kernel_rfl) _ _).trans (by kernel_rfl)
def ζ17 (k : Nat) (call : Caller) (a0 a1 a2 a3 : Value) (h : Heap) : Res Value :=
 (call F.ζ31 [a1, a2] h).bind fun v1 h2 =>
 (extractR v1 0 h2).bind fun v3 h4 =>
 (extractR v1 1 h4).bind fun v5 h6 =>
 (allocR Prog 55 h6).bind fun v7 h8 =>
 (storeR Prog 55 v7 v3 h8).bind fun _v9 h10 =>
 (binR Prog .eql 3 a3 (.int .i64 65535) h10).bind fun v11 h12 =>
 ((bif wantVal v11 false then Res.ok v5 h12 else Res.ok undef h12)).bind fun v13 h14 =>
 ((bif wantVal v11 false then unR .not v13 h14 else Res.ok undef h14)).bind fun v15 h16 =>
 (condV (some v11) (Res.ok (.bool true) h16) (Res.ok v15 h16)).bind fun v17 h18 =>
 condV (some v17) (
 .ok (.tuple #[]) h18)
 (
 (nilR a0 h18).bindN fun v19 h20 =>
 (fieldAddrR Prog 285 v19 1 h20).bindN fun v21 h22 =>
 (loadR Prog 283 v21 h22).bindN fun v23 h24 =>
 (indexAddrR Prog 283 v23 a3 h24).bindN fun v25 h26 =>
 (loadR Prog 68 v25 h26).bindN fun v27 h28 =>
 (fieldAddrR Prog 55 v7 0 h28).bindN fun v29 h30 =>
 (loadR Prog 3 v29 h30).bindN fun v31 h32 =>
 (call F.ζ1g [v27, v31] h32).bindT (fun p35 h36 => .panic p35 h36) fun v33 h34 =>
 (extractR v33 0 h34).bindN fun v37 h38 =>
 (extractR v33 1 h38).bindN fun v39 h40 =>
 condV (some v39) (
 (call F.ζ33 [a1, a2, v37] h40).bind fun v41 h42 =>
 .ok (.tuple #[]) h42)
 (
 .ok (.tuple #[]) h40))
theorem ζdu (k : Nat) (a0 a1 a2 a3 : Value) (h : Heap) : R (T k) F.ζ17 [a0, a1, a2, a3] h = nrm .no h (ζ17 k (R (T k)) a0 a1 a2 a3 h) :=
 (R_body (t := T k) (T_scott k) (by kernel_rfl) (by kernel_rfl) _ _).trans (by kernel_rfl)
end
end Go.Sw
end
section
namespace Go.Sw
open Go.RowKit
def manyE (c : Int) (e : En) : Int := let c1 := if e.a = 65535 then c else max c (e.a + 1); if e.b = 65535 then c1 else max c1 (e.b + 1)
def manyS (es : List En) : Int := es.foldl manyE 0
theorem ζhk (es : List En) (e : En) : manyS (es ++ [e]) = manyE (manyS es) e := by simp [manyS]
theorem ζkb {c : Int} (h : 0 ≤ c ∧ c ≤ 65536) {e : En} (he : 0 ≤ e.a ∧ e.a < 65536 ∧ 0 ≤ e.b ∧ e.b < 65536) : 0 ≤ manyE c e ∧ manyE c e ≤ 65536 := by
 unfold manyE
 dsimp only
 split <;> split <;> omega
theorem ζj7 : ∀ (es : List En) (c : Int), 0 ≤ c → c ≤ 65536 → (∀ e, e ∈ es → 0 ≤ e.a ∧ e.a < 65536 ∧ 0 ≤ e.b ∧ e.b < 65536) → 0 ≤ es.foldl manyE c ∧ es.foldl manyE c ≤ 65536
 | [], c, h0, h1, _ => ⟨h0, h1⟩
 | e :: es, c, h0, h1, h => by
  have := ζkb ⟨h0, h1⟩ (h e (by simp))
  exact ζj7 es _ this.1 this.2 fun x hx => h x (by simp [hx])
theorem ζa8 {es : List En} (h : ∀ e, e ∈ es → 0 ≤ e.a ∧ e.a < 65536 ∧ 0 ≤ e.b ∧ e.b < 65536) : 0 ≤ manyS es ∧ manyS es ≤ 65536 := ζj7 es 0 (by omega) (by omega) h
abbrev encT (x : Int × List Pt) : List Value := [tabV x]
theorem encT_len (x : Int × List Pt) : (encT x).length = 1 := rfl
theorem Flat.tabT (x : Int × List Pt) : Flat (tabV x) := .boxV (.cons (.int _ _) (.cons (.lv fun p _ => .cons (.int _ _) (.cons (.int _ _) (.cons (Flat.I _) .nil))) .nil))
theorem Flat.Ts (l : List (Int × List Pt)) : Flat (Go.Sw.lv encT l) := .lv fun p _ => .cons (Flat.tabT p) .nil
structure CTab where
 m : Mach
 subs : List (Int × List Pt)
abbrev ctxC (t : CTab) : List Value := [machV t.m, lv encT t.subs]
abbrev ctxV (t : CTab) : Value := boxV (ctxC t).toArray
theorem Flat.ctx (t : CTab) : Flat (ctxV t) := .boxV (.cons (Flat.mach _) (.cons (Flat.Ts _) .nil))
def subS (sb : List Int) (g : Int) (i : Nat) : Option (Int × List Pt) := (uS sb (4 * (i : Int)) 4).bind fun p => (restS sb p).bind fun tb => lookS tb g 2
def subsS (sb : List Int) (g : Int) (n : Nat) : Option (List (Int × List Pt)) := mapO (subS sb g) (List.range n)
def ctxS (b : List Int) (g : Int) : Option CTab := (machS b g 2).bind fun m => (uS b 16 4).bind fun p => (restS b p).bind fun sb => (subsS sb g (manyS m.ents).toNat).map fun subs => ⟨m, subs⟩
theorem ctx_l1 (k : Nat) (es : List En) (hes : ∀ e, e ∈ es → 0 ≤ e.a ∧ e.a < 65536 ∧ 0 ≤ e.b ∧ e.b < 65536) (hl : es.length ≤ 65536) (a1 a5 a6 : Value) (H : Heap) :
  ∃ z H', loopN (ζa2 k (R (T k))) loopFuel [(1, a1), (5, a5), (6, a6), (7, .int .i64 0), (26, lv encEn es), (27, .int .i64 es.length), (28, .int .i64 0)] H =
   .ok (.exit 0, [(1, a1), (5, a5), (6, a6), (7, .int .i64 (manyS es)), (26, lv encEn es), (27, .int .i64 es.length), (28, z), (29, .bool false)]) H' ∧ Ext H H' := by
 obtain ⟨x, e', H1, hr1, rfl, z, rfl, hx⟩ := loop_up (body := ζa2 k (R (T k))) es.length
  (fun j e H' => e = [(1, a1), (5, a5), (6, a6), (7, .int .i64 (manyS (es.take j))), (26, lv encEn es), (27, .int .i64 es.length), (28, .int .i64 j)] ∧ Ext H H')
  (fun x e H' => x = .exit 0 ∧ ∃ z, e = [(1, a1), (5, a5), (6, a6), (7, .int .i64 (manyS es)), (26, lv encEn es), (27, .int .i64 es.length), (28, z), (29, .bool false)] ∧ Ext H H')
  (e0 := [(1, a1), (5, a5), (6, a6), (7, .int .i64 0), (26, lv encEn es), (27, .int .i64 es.length), (28, .int .i64 0)]) (H0 := H) ⟨rfl, Ext.refl _⟩ (by omega)
  (fun j e H' hj ⟨he, hx⟩ => by
   subst he
   have hlt : (j : Int) < es.length := by omega
   obtain ⟨en, hen⟩ : ∃ en, es[j]? = some en := ⟨_, List.getElem?_eq_getElem hj⟩
   have i1 := fun H' => ixS_lvN ζ3f es .i64 j en hen H'
   have heb := hes en (List.mem_of_getElem? hen)
   have hm := ζa8 (es := es.take j) fun e he => hes e (List.mem_of_mem_take he)
   rw [ζ1p hen, ζhk]
   generalize manyS (es.take j) = c at hm ⊢
   obtain ⟨P, hP⟩ : ∃ P, P = (H'.push ⟨encEn en, 1, false⟩).push ⟨[.int .i64 en.a, .int .i64 en.b], 1, false⟩ := ⟨_, rfl⟩
   have hPg : P.get (H'.n + 1) = some ⟨[.int .i64 en.a, .int .i64 en.b], 1, false⟩ := by rw [hP]; simp
   have ix := fun (j : Nat) hj H'' => ζbv 1 (H'.n + 1) 0 2 2 .i64 j H'' hj
   have ix0 := ix 0 (by omega)
   have ix1 := ix 1 (by omega)
   have m1 : (if en.a + 1 > c then en.a + 1 else c) = max c (en.a + 1) := by split <;> omega
   have inner : ∃ z, loopN (ζa3 k (R (T k))) loopFuel [(1, a1), (5, a5), (6, a6), (7, .int .i64 c), (26, lv encEn es), (27, .int .i64 es.length), (28, .int .i64 j), (36, .slice (some ⟨H'.n + 1, 0, none⟩) 2 2), (37, .int .i64 2), (38, .int .i64 0)] P =
     .ok (.exit 2, [(1, a1), (5, a5), (6, a6), (7, .int .i64 (manyE c en)), (26, lv encEn es), (27, .int .i64 es.length), (28, .int .i64 j), (36, .slice (some ⟨H'.n + 1, 0, none⟩) 2 2), (37, .int .i64 2), (38, z), (39, .bool false)]) P := by
    obtain ⟨x, e', H1, hr1, rfl, ⟨z, rfl⟩, rfl⟩ := loop_up (body := ζa3 k (R (T k))) 2
     (fun i e H'' => e = [(1, a1), (5, a5), (6, a6), (7, .int .i64 (if i = 0 then c else if i = 1 then (if en.a = 65535 then c else max c (en.a + 1)) else manyE c en)), (26, lv encEn es), (27, .int .i64 es.length), (28, .int .i64 j), (36, .slice (some ⟨H'.n + 1, 0, none⟩) 2 2), (37, .int .i64 2), (38, .int .i64 i)] ∧ H'' = P)
     (fun x e H'' => x = .exit 2 ∧ (∃ z, e = [(1, a1), (5, a5), (6, a6), (7, .int .i64 (manyE c en)), (26, lv encEn es), (27, .int .i64 es.length), (28, .int .i64 j), (36, .slice (some ⟨H'.n + 1, 0, none⟩) 2 2), (37, .int .i64 2), (38, z), (39, .bool false)]) ∧ H'' = P)
     (e0 := [(1, a1), (5, a5), (6, a6), (7, .int .i64 c), (26, lv encEn es), (27, .int .i64 es.length), (28, .int .i64 j), (36, .slice (some ⟨H'.n + 1, 0, none⟩) 2 2), (37, .int .i64 2), (38, .int .i64 0)]) (H0 := P) ⟨rfl, rfl⟩ (by omega)
     (fun i e H'' hi ⟨he, hH⟩ => by
      subst he hH
      refine .inl ⟨_, _, ?_, rfl, rfl⟩
      rw [ζbn]
      have hi2 : i = 0 ∨ i = 1 := by omega
      rcases hi2 with rfl | rfl
      ·simp at ix0
       by_cases ha : en.a = 65535
       ·simp -implicitDefEqProofs (disch := omega) [ix0, hPg, ha, bne, ζbl]
       ·have ha' : (en.a == 65535) = false := by simpa using ha
        simp -implicitDefEqProofs (disch := omega) [ix0, hPg, ha, ha', bne, m1, ζbk]
      ·simp at ix1
       generalize hc1 : (if en.a = 65535 then c else max c (en.a + 1)) = c1
       have m2 : (if en.b + 1 > c1 then en.b + 1 else c1) = max c1 (en.b + 1) := by split <;> omega
       have hmE : manyE c en = if en.b = 65535 then c1 else max c1 (en.b + 1) := by unfold manyE; rw [hc1]
       by_cases hb : en.b = 65535
       ·simp -implicitDefEqProofs (disch := omega) [ix1, hPg, hb, bne, hmE, ζbl]
       ·have hb' : (en.b == 65535) = false := by simpa using hb
        simp -implicitDefEqProofs (disch := omega) [ix1, hPg, hb, hb', bne, m2, hmE, ζbk])
     (fun e H'' ⟨he, hH⟩ => by
      subst he hH
      refine ⟨.exit 2, _, _, ?_, by simp, rfl, ⟨.int .i64 ((2 : Nat) : Int), rfl⟩, rfl⟩
      rw [ζbn]
      simp -implicitDefEqProofs)
    exact ⟨z, hr1⟩
   obtain ⟨z, hz⟩ := inner
   rw [hP] at hz
   refine .inl ⟨_, P, ?_, rfl, by rw [hP]; exact (hx.push _).push _⟩
   rw [ζbm, hP]
   simp -implicitDefEqProofs (disch := omega) [hlt, i1, hz, ζf6])
  (fun e H' ⟨he, hx⟩ => by
   subst he
   rw [List.take_length]
   refine ⟨.exit 0, _, H', ?_, by simp, rfl, .int .i64 es.length, rfl, hx⟩
   rw [ζbm]
   simp -implicitDefEqProofs)
 exact ⟨z, H1, hr1, hx⟩
end Go.Sw
end
section
set_option maxRecDepth 100000
set_option linter.unusedVariables false
namespace Go.Sw
noncomputable section
def ζ4d (k : Nat) (call : Caller) : Env → Heap → Res (AExit × Env) := loopB (C k) call F.ζ0 [1, 1, 1, 1, 0, 1, 0, 0]
def ζ6w (k : Nat) (call : Caller) : Kont Value := kBlock 0 (kSeq (pieceK (C k) call F.ζ0 [1, 1, 1, 1, 1]) (kDone Prog (resOf Prog F.ζ0)))
def ζ4e (k : Nat) (call : Caller) : Env → Heap → Res (AExit × Env) := loopB (C k) call F.ζ0 [1, 1, 1, 1, 1, 1, 0, 1, 0, 0]
def ζ6x (k : Nat) (call : Caller) : Kont Value := kBlock 2 (kSeq (pieceK (C k) call F.ζ0 [1, 1, 1, 1, 1, 1, 1]) (kDone Prog (resOf Prog F.ζ0)))
def ζ2v (k : Nat) (call : Caller) : Env → Heap → Res (AExit × Env) := loopB (C k) call F.ζ0 [1, 1, 1, 1, 1, 1, 0, 1, 0, 0, 1, 1, 0, 0, 1, 1, 0, 0]
def ζ6y (k : Nat) (call : Caller) : Kont (AExit × Env) := kBlock 4 (kBlock 3 (kSeq (pieceK (C k) call F.ζ0 [1, 1, 1, 1, 1, 1, 0, 1, 0, 0, 1, 1, 1]) (kRound (ownOf (C k) F.ζ0 [1, 1, 1, 1, 1, 1, 0, 1, 0, 0]))))
def ζ7e (k : Nat) (call : Caller) (a1 a2 a3 a7 a8 a9 a12 a13 a15 a17 a47 a48 a49 a53 a54 : Value) (h : Heap) : Res (AExit × Env) :=
 kSeq (pieceK (C k) call F.ζ0 [1, 1, 1, 1, 1, 1, 0, 1, 0, 0, 1, 1, 0, 0, 1, 1, 0, 0, 1, 1, 0, 0, 1, 1, 1]) (kBlock 5 (kSeq (pieceK (C k) call F.ζ0 [1, 1, 1, 1, 1, 1, 0, 1, 0, 0, 1, 1, 0, 0, 1, 1, 0, 0, 1, 1, 1]) (kRound (ownOf (C k) F.ζ0 [1, 1, 1, 1, 1, 1, 0, 1, 0, 0, 1, 1, 0, 0, 1, 1, 0, 0])))) .normal [(1, a1), (2, a2), (3, a3), (7, a7), (8, a8), (9, a9), (12, a12), (13, a13), (15, a15), (17, a17), (47, a47), (48, a48), (49, a49), (53, a53), (54, a54)] h
def ζ7f (k : Nat) (call : Caller) (a1 a2 a3 a7 a8 a9 a12 a13 a15 a16 a17 a47 a48 a49 a53 a54 a60 : Value) (h : Heap) : Res (AExit × Env) :=
 kSeq (pieceK (C k) call F.ζ0 [1, 1, 1, 1, 1, 1, 0, 1, 0, 0, 1, 1, 0, 0, 1, 1, 0, 0, 1, 1, 0, 0, 1, 1, 1]) (kBlock 5 (kSeq (pieceK (C k) call F.ζ0 [1, 1, 1, 1, 1, 1, 0, 1, 0, 0, 1, 1, 0, 0, 1, 1, 0, 0, 1, 1, 1]) (kRound (ownOf (C k) F.ζ0 [1, 1, 1, 1, 1, 1, 0, 1, 0, 0, 1, 1, 0, 0, 1, 1, 0, 0])))) .normal [(1, a1), (2, a2), (3, a3), (7, a7), (8, a8), (9, a9), (12, a12), (13, a13), (15, a15), (16, a16), (17, a17), (47, a47), (48, a48), (49, a49), (53, a53), (54, a54), (60, a60)] h
def ζ2w (k : Nat) (call : Caller) : Env → Heap → Res (AExit × Env) := loopB (C k) call F.ζ0 [1, 1, 1, 1, 1, 1, 1, 0, 1, 0, 0]
def ζ6z (k : Nat) (call : Caller) : Kont Value := kBlock 6 (kSeq (pieceK (C k) call F.ζ0 [1, 1, 1, 1, 1, 1, 1, 1]) (kDone Prog (resOf Prog F.ζ0)))
def ζ7g (k : Nat) (call : Caller) (a1 a2 a7 a8 a9 a12 a13 a19 a72 a73 a74 : Value) (h : Heap) : Res (AExit × Env) :=
 kSeq (pieceK (C k) call F.ζ0 [1, 1, 1, 1, 1, 1, 1, 0, 1, 0, 0, 1, 1, 0, 0, 1, 1, 1]) (kBlock 7 (kSeq (pieceK (C k) call F.ζ0 [1, 1, 1, 1, 1, 1, 1, 0, 1, 0, 0, 1, 1, 1]) (kRound (ownOf (C k) F.ζ0 [1, 1, 1, 1, 1, 1, 1, 0, 1, 0, 0])))) .normal [(1, a1), (2, a2), (7, a7), (8, a8), (9, a9), (12, a12), (13, a13), (19, a19), (72, a72), (73, a73), (74, a74)] h
def ζ7h (k : Nat) (call : Caller) (a1 a2 a7 a8 a9 a12 a13 a19 a72 a73 a74 a88 : Value) (h : Heap) : Res (AExit × Env) :=
 kSeq (pieceK (C k) call F.ζ0 [1, 1, 1, 1, 1, 1, 1, 0, 1, 0, 0, 1, 1, 0, 0, 1, 1, 1]) (kBlock 7 (kSeq (pieceK (C k) call F.ζ0 [1, 1, 1, 1, 1, 1, 1, 0, 1, 0, 0, 1, 1, 1]) (kRound (ownOf (C k) F.ζ0 [1, 1, 1, 1, 1, 1, 1, 0, 1, 0, 0])))) .normal [(1, a1), (2, a2), (7, a7), (8, a8), (9, a9), (12, a12), (13, a13), (19, a19), (72, a72), (73, a73), (74, a74), (88, a88)] h
def ζ4b (k : Nat) (call : Caller) (a1 a2 a7 a8 a9 a12 a13 a72 a73 a74 : Value) (h : Heap) : Res (AExit × Env) :=
 kSeq (pieceK (C k) call F.ζ0 [1, 1, 1, 1, 1, 1, 1, 0, 1, 0, 0, 1, 1, 1]) (kRound (ownOf (C k) F.ζ0 [1, 1, 1, 1, 1, 1, 1, 0, 1, 0, 0])) .normal [(1, a1), (2, a2), (7, a7), (8, a8), (9, a9), (12, a12), (13, a13), (72, a72), (73, a73), (74, a74)] h
def ζ4c (k : Nat) (call : Caller) (a1 a2 a7 a8 a9 a12 a13 a19 a72 a73 a74 a95 : Value) (h : Heap) : Res (AExit × Env) :=
 kSeq (pieceK (C k) call F.ζ0 [1, 1, 1, 1, 1, 1, 1, 0, 1, 0, 0, 1, 1, 1]) (kRound (ownOf (C k) F.ζ0 [1, 1, 1, 1, 1, 1, 1, 0, 1, 0, 0])) .normal [(1, a1), (2, a2), (7, a7), (8, a8), (9, a9), (12, a12), (13, a13), (19, a19), (72, a72), (73, a73), (74, a74), (95, a95)] h
def ζ0 (k : Nat) (call : Caller) (a0 a1 a2 : Value) (h : Heap) : Res Value :=
 (boxR a0 h).bind fun v1 h2 =>
 (fieldAddrR Prog 146 v1 3 h2).bind fun v3 h4 =>
 (loadR Prog 5 v3 h4).bind fun v5 h6 =>
 (convR Prog 5 3 v5 h6).bind fun v7 h8 =>
 (binR Prog .rem 3 v7 (.int .i64 8) h8).bind fun v9 h10 =>
 (binR Prog .add 3 (.int .i64 4) v9 h10).bind fun v11 h12 =>
 (binR Prog .add 3 (.int .i64 16) a2 h12).bind fun v13 h14 =>
 (call F.ζ5 [(.slice none 0 0), (.int .i64 8), (.int .i64 2)] h14).bindT (fun p17 h18 => (fieldAddrR Prog 146 v1 0 h14).bindN fun v19 h20 => (loadR Prog 65 v19 h20).bindN fun v21 h22 => (builtinV Prog .len [65] [v21] h22).bindN fun v23 h24 => chkR ((okVal (loadR Prog 65 v19 h14) v21 && true) && true) (.panic p17 h18)) fun v15 h16 =>
 (call F.ζ5 [v15, (.int .i64 0), (.int .i64 2)] h16).bindT (fun p27 h28 => (fieldAddrR Prog 146 v1 0 h16).bindN fun v29 h30 => (loadR Prog 65 v29 h30).bindN fun v31 h32 => (builtinV Prog .len [65] [v31] h32).bindN fun v33 h34 => chkR ((okVal (loadR Prog 65 v29 h14) v31 && (okVal (loadR Prog 65 v29 h16) v31 && true)) && true) (.panic p27 h28)) fun v25 h26 =>
 (fieldAddrR Prog 146 v1 0 h26).bindN fun v35 h36 =>
 (loadR Prog 65 v35 h36).bindN fun v37 h38 =>
 (builtinV Prog .len [65] [v37] h38).bindN fun v39 h40 =>
 (call F.ζ5 [v25, v39, (.int .i64 2)] h40).bindT (fun p43 h44 => chkR ((okVal (loadR Prog 65 v35 h14) v37 && (okVal (loadR Prog 65 v35 h16) v37 && true)) && true) (.panic p43 h44)) fun v41 h42 =>
 chkR ((okVal (loadR Prog 65 v35 h14) v37 && (okVal (loadR Prog 65 v35 h16) v37 && true)) && true) (
 (fieldAddrR Prog 146 v1 0 h42).bind fun v45 h46 =>
 (loadR Prog 65 v45 h46).bind fun v47 h48 =>
 (builtinV Prog .len [65] [v47] h48).bind fun v49 h50 =>
 (loopN (ζ4d k call) loopFuel [(1, a1), (2, a2), (3, v1), (7, v11), (8, v13), (9, v41), (35, v47), (36, v49), (37, (.int .i64 0))] h50).bind fun r51 h52 =>
 ζ6w k call r51.1 r51.2 h52)
theorem ζco (k : Nat) (a0 a1 a2 : Value) (h : Heap) : R (T k) F.ζ0 [a0, a1, a2] h = nrm (ownW k) h (ζ0 k (R (T k)) a0 a1 a2 h) :=
 (R_body (t := T k) (T_scott k) (by kernel_rfl) (by kernel_rfl) _ _).trans (by kernel_rfl)
theorem ζ5c (k : Nat) (call : Caller) (a1 a2 a3 a7 a8 a9 a35 a36 a37 : Value) (h : Heap) : ζ4d k call [(1, a1), (2, a2), (3, a3), (7, a7), (8, a8), (9, a9), (35, a35), (36, a36), (37, a37)] h =
 (binR Prog .lss 3 a37 a36 h).bind fun v53 h54 =>
 condV (some v53) (
 (indexAddrR Prog 65 a35 a37 h54).bind fun v55 h56 =>
 (loadR Prog 5 v55 h56).bind fun v57 h58 =>
 (convR Prog 5 3 v57 h58).bind fun v59 h60 =>
 (call F.ζ5 [a9, v59, (.int .i64 2)] h60).bind fun v61 h62 =>
 (binR Prog .add 3 a37 (.int .i64 1) h62).bind fun v63 h64 =>
 .ok (.normal, [(1, a1), (2, a2), (3, a3), (7, a7), (8, a8), (9, v61), (35, a35), (36, a36), (37, v63)]) h64)
 (
 .ok ((.exit 0), [(1, a1), (2, a2), (3, a3), (7, a7), (8, a8), (9, a9), (35, a35), (36, a36), (37, a37), (38, v53)]) h54) :=
 (loopB_eq _ _).trans (by kernel_rfl)
theorem ζ97 (k : Nat) (call : Caller) (a1 a2 a3 a7 a8 a9 a35 a36 a37 a38 : Value) (h : Heap) : ζ6w k call (.exit 0) [(1, a1), (2, a2), (3, a3), (7, a7), (8, a8), (9, a9), (35, a35), (36, a36), (37, a37), (38, a38)] h =
 (fieldAddrR Prog 146 a3 1 h).bind fun v65 h66 =>
 (loadR Prog 143 v65 h66).bind fun v67 h68 =>
 (builtinV Prog .len [143] [v67] h68).bind fun v69 h70 =>
 (loopN (ζ4e k call) loopFuel [(1, a1), (2, a2), (3, a3), (7, a7), (8, a8), (9, a9), (12, (.slice none 0 0)), (13, (.slice none 0 0)), (47, v67), (48, v69), (49, (.int .i64 0))] h70).bind fun r71 h72 =>
 ζ6x k call r71.1 r71.2 h72 := by kernel_rfl
theorem ζ5d (k : Nat) (call : Caller) (a1 a2 a3 a7 a8 a9 a12 a13 a47 a48 a49 : Value) (h : Heap) : ζ4e k call [(1, a1), (2, a2), (3, a3), (7, a7), (8, a8), (9, a9), (12, a12), (13, a13), (47, a47), (48, a48), (49, a49)] h =
 (binR Prog .lss 3 a49 a48 h).bind fun v73 h74 =>
 condV (some v73) (
 (indexAddrR Prog 143 a47 a49 h74).bind fun v75 h76 =>
 (loadR Prog 65 v75 h76).bind fun v77 h78 =>
 (loopN (ζ2v k call) loopFuel [(1, a1), (2, a2), (3, a3), (7, a7), (8, a8), (9, a9), (12, a12), (13, a13), (15, v77), (47, a47), (48, a48), (49, a49), (53, a7), (54, (.int .i64 0))] h78).bind fun r79 h80 =>
 ζ6y k call r79.1 r79.2 h80)
 (
 .ok ((.exit 2), [(1, a1), (2, a2), (3, a3), (7, a7), (8, a8), (9, a9), (12, a12), (13, a13), (47, a47), (48, a48), (49, a49), (50, v73)]) h74) :=
 (loopB_eq _ _).trans (by kernel_rfl)
theorem ζ5e (k : Nat) (call : Caller) (a1 a2 a3 a7 a8 a9 a12 a13 a15 a47 a48 a49 a53 a54 : Value) (h : Heap) : ζ2v k call [(1, a1), (2, a2), (3, a3), (7, a7), (8, a8), (9, a9), (12, a12), (13, a13), (15, a15), (47, a47), (48, a48), (49, a49), (53, a53), (54, a54)] h =
 (binR Prog .lss 3 a54 a53 h).bind fun v81 h82 =>
 condV (some v81) (
 (builtinV Prog .len [65] [a15] h82).bind fun v83 h84 =>
 (binR Prog .lss 3 a54 v83 h84).bind fun v85 h86 =>
 condV (some v85) (
 (indexAddrR Prog 65 a15 a54 h86).bind fun v87 h88 =>
 (loadR Prog 5 v87 h88).bind fun v89 h90 =>
 (convR Prog 5 3 v89 h90).bind fun v91 h92 =>
 ζ7e k call a1 a2 a3 a7 a8 a9 a12 a13 a15 v91 a47 a48 a49 a53 a54 h92)
 (
 ζ7f k call a1 a2 a3 a7 a8 a9 a12 a13 a15 a54 (.int .i64 0) a47 a48 a49 a53 a54 v85 h86))
 (
 .ok ((.exit 4), [(1, a1), (2, a2), (3, a3), (7, a7), (8, a8), (9, a9), (12, a12), (13, a13), (15, a15), (47, a47), (48, a48), (49, a49), (53, a53), (54, a54), (55, v81)]) h82) :=
 (loopB_eq _ _).trans (by kernel_rfl)
theorem ζ9n (k : Nat) (call : Caller) (a1 a2 a3 a7 a8 a9 a12 a13 a15 a17 a47 a48 a49 a53 a54 : Value) (h : Heap) : ζ7e k call a1 a2 a3 a7 a8 a9 a12 a13 a15 a17 a47 a48 a49 a53 a54 h =
 (call F.ζ5 [a12, a17, (.int .i64 2)] h).bind fun v93 h94 =>
 (binR Prog .add 3 a54 (.int .i64 1) h94).bind fun v95 h96 =>
 .ok (.normal, [(1, a1), (2, a2), (3, a3), (7, a7), (8, a8), (9, a9), (12, v93), (13, a13), (15, a15), (47, a47), (48, a48), (49, a49), (53, a53), (54, v95)]) h96 := by kernel_rfl
theorem ζ9o (k : Nat) (call : Caller) (a1 a2 a3 a7 a8 a9 a12 a13 a15 a16 a17 a47 a48 a49 a53 a54 a60 : Value) (h : Heap) : ζ7f k call a1 a2 a3 a7 a8 a9 a12 a13 a15 a16 a17 a47 a48 a49 a53 a54 a60 h =
 (call F.ζ5 [a12, a17, (.int .i64 2)] h).bind fun v97 h98 =>
 (binR Prog .add 3 a54 (.int .i64 1) h98).bind fun v99 h100 =>
 .ok (.normal, [(1, a1), (2, a2), (3, a3), (7, a7), (8, a8), (9, a9), (12, v97), (13, a13), (15, a15), (47, a47), (48, a48), (49, a49), (53, a53), (54, v99)]) h100 := by kernel_rfl
theorem ζ98 (k : Nat) (call : Caller) (a1 a2 a3 a7 a8 a9 a12 a13 a47 a48 a49 a50 : Value) (h : Heap) : ζ6x k call (.exit 2) [(1, a1), (2, a2), (3, a3), (7, a7), (8, a8), (9, a9), (12, a12), (13, a13), (47, a47), (48, a48), (49, a49), (50, a50)] h =
 (fieldAddrR Prog 146 a3 2 h).bind fun v101 h102 =>
 (loadR Prog 144 v101 h102).bind fun v103 h104 =>
 (builtinV Prog .len [144] [v103] h104).bind fun v105 h106 =>
 (loopN (ζ2w k call) loopFuel [(1, a1), (2, a2), (7, a7), (8, a8), (9, a9), (12, a12), (13, a13), (72, v103), (73, v105), (74, (.int .i64 0))] h106).bind fun r107 h108 =>
 ζ6z k call r107.1 r107.2 h108 := by kernel_rfl
theorem ζ28 (k : Nat) (call : Caller) (a1 a2 a7 a8 a9 a12 a13 a72 a73 a74 : Value) (h : Heap) : ζ2w k call [(1, a1), (2, a2), (7, a7), (8, a8), (9, a9), (12, a12), (13, a13), (72, a72), (73, a73), (74, a74)] h =
 (binR Prog .lss 3 a74 a73 h).bind fun v109 h110 =>
 condV (some v109) (
 (indexAddrR Prog 144 a72 a74 h110).bind fun v111 h112 =>
 (loadR Prog 150 v111 h112).bind fun v113 h114 =>
 (allocR Prog 150 h114).bind fun v115 h116 =>
 (storeR Prog 150 v115 v113 h116).bind fun _v117 h118 =>
 (fieldAddrR Prog 150 v115 0 h118).bindN fun v119 h120 =>
 (loadR Prog 3 v119 h120).bindN fun v121 h122 =>
 (binR Prog .and 3 v121 (.int .i64 65535) h122).bindN fun v123 h124 =>
 (call F.ζ5 [a13, v123, (.int .i64 2)] h124).bindT (fun p127 h128 => (fieldAddrR Prog 150 v115 1 h124).bindN fun v129 h130 => (loadR Prog 3 v129 h130).bindN fun v131 h132 => (binR Prog .and 3 v131 (.int .i64 65535) h132).bindN fun v133 h134 => chkR ((okVal (loadR Prog 3 v129 h118) v131 && true) && true) (.panic p127 h128)) fun v125 h126 =>
 (fieldAddrR Prog 150 v115 1 h126).bindN fun v135 h136 =>
 (loadR Prog 3 v135 h136).bindN fun v137 h138 =>
 (binR Prog .and 3 v137 (.int .i64 65535) h138).bindN fun v139 h140 =>
 (call F.ζ5 [v125, v139, (.int .i64 2)] h140).bindT (fun p143 h144 => chkR ((okVal (loadR Prog 3 v135 h118) v137 && true) && true) (.panic p143 h144)) fun v141 h142 =>
 chkR ((okVal (loadR Prog 3 v135 h118) v137 && true) && true) (
 (binR Prog .gtr 3 a1 (.int .i64 0) h142).bind fun v145 h146 =>
 condV (some v145) (
 (fieldAddrR Prog 150 v115 2 h146).bind fun v147 h148 =>
 (loadR Prog 3 v147 h148).bind fun v149 h150 =>
 (binR Prog .and 3 v149 (.int .i64 65535) h150).bind fun v151 h152 =>
 (call F.ζ5 [v141, v151, (.int .i64 2)] h152).bind fun v153 h154 =>
 ζ7g k call a1 a2 a7 a8 a9 a12 v153 v115 a72 a73 a74 h154)
 (
 ζ7h k call a1 a2 a7 a8 a9 a12 v141 v115 a72 a73 a74 v145 h146)))
 (
 .ok ((.exit 6), [(1, a1), (2, a2), (7, a7), (8, a8), (9, a9), (12, a12), (13, a13), (72, a72), (73, a73), (74, a74), (75, v109)]) h110) :=
 (loopB_eq _ _).trans (by kernel_rfl)
theorem ζ5a (k : Nat) (call : Caller) (a1 a2 a7 a8 a9 a12 a13 a19 a72 a73 a74 : Value) (h : Heap) : ζ7g k call a1 a2 a7 a8 a9 a12 a13 a19 a72 a73 a74 h =
 (binR Prog .gtr 3 a1 (.int .i64 1) h).bind fun v155 h156 =>
 condV (some v155) (
 (fieldAddrR Prog 150 a19 3 h156).bind fun v157 h158 =>
 (loadR Prog 3 v157 h158).bind fun v159 h160 =>
 (binR Prog .and 3 v159 (.int .i64 65535) h160).bind fun v161 h162 =>
 (call F.ζ5 [a13, v161, (.int .i64 2)] h162).bind fun v163 h164 =>
 ζ4b k call a1 a2 a7 a8 a9 a12 v163 a72 a73 a74 h164)
 (
 ζ4c k call a1 a2 a7 a8 a9 a12 a13 a19 a72 a73 a74 v155 h156) := by kernel_rfl
theorem ζ9p (k : Nat) (call : Caller) (a1 a2 a7 a8 a9 a12 a13 a19 a72 a73 a74 a88 : Value) (h : Heap) : ζ7h k call a1 a2 a7 a8 a9 a12 a13 a19 a72 a73 a74 a88 h =
 (binR Prog .gtr 3 a1 (.int .i64 1) h).bind fun v165 h166 =>
 condV (some v165) (
 (fieldAddrR Prog 150 a19 3 h166).bind fun v167 h168 =>
 (loadR Prog 3 v167 h168).bind fun v169 h170 =>
 (binR Prog .and 3 v169 (.int .i64 65535) h170).bind fun v171 h172 =>
 (call F.ζ5 [a13, v171, (.int .i64 2)] h172).bind fun v173 h174 =>
 ζ4b k call a1 a2 a7 a8 a9 a12 v173 a72 a73 a74 h174)
 (
 ζ4c k call a1 a2 a7 a8 a9 a12 a13 a19 a72 a73 a74 v165 h166) := by kernel_rfl
theorem ζ9q (k : Nat) (call : Caller) (a1 a2 a7 a8 a9 a12 a13 a72 a73 a74 : Value) (h : Heap) : ζ4b k call a1 a2 a7 a8 a9 a12 a13 a72 a73 a74 h =
 (binR Prog .add 3 a74 (.int .i64 1) h).bind fun v175 h176 =>
 .ok (.normal, [(1, a1), (2, a2), (7, a7), (8, a8), (9, a9), (12, a12), (13, a13), (72, a72), (73, a73), (74, v175)]) h176 := by kernel_rfl
theorem ζ5b (k : Nat) (call : Caller) (a1 a2 a7 a8 a9 a12 a13 a19 a72 a73 a74 a95 : Value) (h : Heap) : ζ4c k call a1 a2 a7 a8 a9 a12 a13 a19 a72 a73 a74 a95 h =
 (binR Prog .add 3 a74 (.int .i64 1) h).bind fun v177 h178 =>
 .ok (.normal, [(1, a1), (2, a2), (7, a7), (8, a8), (9, a9), (12, a12), (13, a13), (72, a72), (73, a73), (74, v177)]) h178 := by kernel_rfl
theorem ζ99 (k : Nat) (call : Caller) (a1 a2 a3 a7 a8 a9 a12 a13 a15 a47 a48 a49 a53 a54 a55 : Value) (h : Heap) : ζ6y k call (.exit 4) [(1, a1), (2, a2), (3, a3), (7, a7), (8, a8), (9, a9), (12, a12), (13, a13), (15, a15), (47, a47), (48, a48), (49, a49), (53, a53), (54, a54), (55, a55)] h =
 (binR Prog .add 3 a49 (.int .i64 1) h).bind fun v179 h180 =>
 .ok (.normal, [(1, a1), (2, a2), (3, a3), (7, a7), (8, a8), (9, a9), (12, a12), (13, a13), (47, a47), (48, a48), (49, v179)]) h180 := by kernel_rfl
theorem ζ9a (k : Nat) (call : Caller) (a1 a2 a7 a8 a9 a12 a13 a72 a73 a74 a75 : Value) (h : Heap) : ζ6z k call (.exit 6) [(1, a1), (2, a2), (7, a7), (8, a8), (9, a9), (12, a12), (13, a13), (72, a72), (73, a73), (74, a74), (75, a75)] h =
 (call F.ζ5 [(.slice none 0 0), a7, (.int .i64 4)] h).bind fun v181 h182 =>
 (call F.ζ5 [v181, a8, (.int .i64 4)] h182).bind fun v183 h184 =>
 (builtinV Prog .len [65] [a9] h184).bind fun v185 h186 =>
 (binR Prog .add 3 a8 v185 h186).bind fun v187 h188 =>
 (call F.ζ5 [v183, v187, (.int .i64 4)] h188).bind fun v189 h190 =>
 (builtinV Prog .len [65] [a9] h190).bind fun v191 h192 =>
 (binR Prog .add 3 a8 v191 h192).bind fun v193 h194 =>
 (builtinV Prog .len [65] [a12] h194).bind fun v195 h196 =>
 (binR Prog .add 3 v193 v195 h196).bind fun v197 h198 =>
 (call F.ζ5 [v189, v197, (.int .i64 4)] h198).bind fun v199 h200 =>
 (builtinV Prog .append [65, 3] [v199, a2] h200).bind fun v201 h202 =>
 (builtinV Prog .append [65, 65] [v201, a9] h202).bind fun v203 h204 =>
 (builtinV Prog .append [65, 65] [v203, a12] h204).bind fun v205 h206 =>
 (builtinV Prog .append [65, 65] [v205, a13] h206).bind fun v207 h208 =>
 .ok v207 h208 := by kernel_rfl
end
end Go.Sw
end
