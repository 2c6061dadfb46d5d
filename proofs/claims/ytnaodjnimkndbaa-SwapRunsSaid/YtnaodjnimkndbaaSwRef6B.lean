/-
  The document's parts of lookups.
-/
import Derived.Test.YtnaodjnimkndbaaSwRef6A
import Derived.Test.YtnaodjnimkndbaaSwGswashref06
namespace Go.Sw
open Go.RowKit

abbrev encRP (r : RP) : List Value := [.int .i64 r.first, .int .i64 r.last, .int .i64 r.pos, .int .i64 r.size, .int .i64 r.step]
theorem encRP_len (r : RP) : (encRP r).length = 5 := rfl
theorem encRP_still (l : List RP) : ∀ p, p ∈ l → ∀ v, v ∈ encRP p → Still v := fun p _ v hv => by
  simp [encRP] at hv
  rcases hv with rfl | rfl | rfl | rfl | rfl <;> trivial
theorem Flat.RPs (l : List RP) : Flat (Go.Sw.lv encRP l) := .lv fun p _ => .cons (.int _ _) (.cons (.int _ _) (.cons (.int _ _) (.cons (.int _ _) (.cons (.int _ _) .nil))))

/-- What is answered: parts, and whether they are such. -/
def PartsAre (o : Option (List RP)) (v : Value) : Prop := ∃ l, v = .tuple #[lv encRP l, .bool o.isSome] ∧ (∀ x, o = some x → l = x) ∧ l.length ≤ 65536
theorem parts_flat (l : List RP) (x : Bool) : Flat (.tuple #[lv encRP l, .bool x]) := .tupleL (.cons (Flat.RPs _) (.cons (.bool _) .nil))

def segE (b : List Int) (z : Int) (each : Bool) (p : Int) : RP := if each then ⟨gU b (p + 2) 2, gU b p 2, gU b (p + 4) 2, z, z⟩ else ⟨gU b (p + 2) 2, gU b p 2, p + 4, z, 0⟩
def segB (b : List Int) (z : Int) (each : Bool) (p : Int) : Bool := if each then rowsB b.length (gU b (p + 4) 2) (gU b p 2 - gU b (p + 2) 2 + 1) z else true
theorem segR_eq (b : List Int) (z : Int) (each : Bool) (p : Int) : segR b z each p = if segB b z each p then some (segE b z each p) else none := by
  unfold segR segB segE
  cases each <;> simp

theorem mapO_take {β : Type} {f : Int → Option β} {l : List Int} {j : Nat} {p : Int} (hp : l[j]? = some p) : mapO f (l.take (j + 1)) = (mapO f (l.take j)).bind fun r => (f p).map fun y => r ++ [y] := by
  have h : ∀ (a : List Int), mapO f (a ++ [p]) = (mapO f a).bind fun r => (f p).map fun y => r ++ [y] := by
    intro a
    induction a with
    | nil => simp [mapO]; cases f p <;> rfl
    | cons x a ih =>
      simp only [List.cons_append, mapO, ih]
      cases f x with
      | none => rfl
      | some y =>
        simp only [Option.bind_some]
        cases mapO f a with
        | none => rfl
        | some r => simp only [Option.bind_some, Option.map_some]; cases f p <;> rfl
  rw [take_snoc hp, h]
theorem mapO_none_take {β : Type} {f : Int → Option β} {l : List Int} {j : Nat} (h : mapO f (l.take j) = none) : mapO f l = none := by
  have : ∀ (a b : List Int), mapO f a = none → mapO f (a ++ b) = none := by
    intro a
    induction a with
    | nil => intro b h; cases h
    | cons x a ih =>
      intro b h
      simp only [List.cons_append, mapO] at h ⊢
      cases hx : f x with
      | none => rfl
      | some y =>
        rw [hx] at h
        simp only [Option.bind_some, Option.map_eq_none_iff] at h ⊢
        exact ih b h
  rw [← List.take_append_drop j l]
  exact this _ _ h

theorem segs06_run (k : Nat) (b : List Int) (hb : Byt b) (z : Int) (hz : z = 2 ∨ z = 4) (each : Bool) (hl : b.length < 2 ^ 31) (H : Heap) :
    ∃ v, R (T k) F.swashref06_segments [lv encB b, .int .i64 z, .bool each] H = .ok v H ∧ PartsAre (refSegS b z each) v := by
  have hU := fun j H' => refU_run k (H := H') (Sl.lv H' 1 b) hb j 2 (by omega) (by omega)
  have hRows := fun i n H' => refRows_run k b.length i n z (by omega) (by omega) H'
  obtain ⟨need, hneed⟩ : ∃ need : Int, need = if each then 6 else 4 + z := ⟨_, rfl⟩
  have hr5 : ∀ H', R (T k) F.swashref05_Rows [lv encB b, .int .i64 2, .int .i64 need, .int .i64 2] H' = .ok (rowsO b 2 need 2) H' := fun H' => rows05_run k b hb 2 need 2 hl (by omega) (by omega) (by subst hneed; split <;> omega) (by subst hneed; split <;> omega) H'
  -- the rows
  obtain ⟨ps, ok, zz, hrow, hps, hok⟩ : ∃ (ps : List Int) (ok : Bool) (zz : Int), rowsO b 2 need 2 = .tuple #[lv encI ps, .int .i64 zz, .bool ok] ∧ (∀ p, p ∈ ps → 0 ≤ p ∧ p < 2 ^ 34) ∧
      ps.length < 65536 ∧ refSegS b z each = (if ok then mapO (segR b z each) ps else none) ∧ (ok = false → ps = []) := by
    unfold rowsO refSegS
    rw [← hneed]
    cases ht : takeS b 2 need 2 with
    | none => exact ⟨[], false, 0, rfl, (fun p h => by cases h), by simp, rfl, fun _ => rfl⟩
    | some rows =>
      obtain ⟨s, n, h1, h2, h3, h4, h5, h6⟩ := takeS_get ht
      have hs := uS_two hb h1
      have hn := uS_two hb h2
      rw [gU_some h1]
      refine ⟨posS 2 s rows.length, true, s, rfl, fun p hp => ?_, by simp; omega, rfl, fun h => by cases h⟩
      obtain ⟨i, hi⟩ := List.getElem?_of_mem hp
      have hlt := (List.getElem?_eq_some_iff.1 hi).1
      simp at hlt
      rw [posS_get _ _ _ _ hlt] at hi
      injection hi with hi
      have := Int.mul_nonneg hs.1 (show (0 : Int) ≤ (i : Nat) by omega)
      have : s * (i : Nat) ≤ 65536 * 65536 := Int.mul_le_mul (by omega) (by omega) (by omega) (by omega)
      omega
  obtain ⟨hplen, href, hoknil⟩ := hok
  rw [href]
  obtain ⟨x, e', H1, hr, rfl, hx, a, s, out, fl, rfl, ho, hq⟩ := loop_up (body := swashref06_segments_l1 k (R (T k))) ps.length
    (fun j e H' => Ext H H' ∧ ∃ s out fl, e = [(0, lv encB b), (1, .int .i64 z), (2, .bool each), (9, lv encI ps), (11, .bool fl), (12, s), (13, .int .i64 j)] ∧ Own H H' 5 s encRP out ∧
      out.length ≤ j ∧ ((ok = true ∧ fl = true ∧ mapO (segR b z each) (ps.take j) = some out) ∨ (fl = false ∧ (ok = false ∨ mapO (segR b z each) ps = none))))
    (fun x e H' => x = .exit 0 ∧ Ext H H' ∧ ∃ a s out fl, e = [(0, lv encB b), (1, .int .i64 z), (2, .bool each), (9, lv encI ps), (11, .bool fl), (12, s), (13, a), (32, .bool false)] ∧ Own H H' 5 s encRP out ∧
      out.length ≤ ps.length ∧ ((ok = true ∧ fl = true ∧ mapO (segR b z each) ps = some out) ∨ (fl = false ∧ (ok = false ∨ mapO (segR b z each) ps = none))))
    (e0 := [(0, lv encB b), (1, .int .i64 z), (2, .bool each), (9, lv encI ps), (11, .bool ok), (12, bareV), (13, .int .i64 0)]) (H0 := H)
    ⟨Ext.refl H, bareV, [], ok, rfl, Own.bare _ _ _, by simp, by cases ok; exact .inr ⟨rfl, .inl rfl⟩; exact .inl ⟨rfl, rfl, rfl⟩⟩ (by omega)
    (fun j e H' hj ⟨hx, s, out, fl, he, ho, hol, hq⟩ => by
      subst he
      have hlt : (j : Int) < ps.length := by omega
      rcases hq with ⟨hok, rfl, hm⟩ | ⟨rfl, hn⟩
      rotate_left
      · refine .inr ⟨.exit 0, _, H', ?_, by simp, rfl, hx, .int .i64 j, s, out, false, rfl, ho, by omega, .inr ⟨rfl, hn⟩⟩
        rw [swashref06_segments_l1_eq]
        simp -implicitDefEqProofs (disch := omega) [hlt]
      · obtain ⟨p, hp⟩ : ∃ p, ps[j]? = some p := ⟨_, List.getElem?_eq_getElem hj⟩
        have hpb := hps p (List.mem_of_getElem? hp)
        have i1 := fun H' => ixS_lvN encI_len ps .i64 j p hp H'
        have u0 := fun H' => hU p H'
        have u2 := fun H' => hU (p + 2) H'
        have u4 := fun H' => hU (p + 4) H'
        have g0 := gU_two hb p
        have g2 := gU_two hb (p + 2)
        have g4 := gU_two hb (p + 4)
        obtain ⟨f, hf⟩ : ∃ f, gU b (p + 2) 2 = f := ⟨_, rfl⟩
        obtain ⟨l, hll⟩ : ∃ l, gU b p 2 = l := ⟨_, rfl⟩
        obtain ⟨q, hqq⟩ : ∃ q, gU b (p + 4) 2 = q := ⟨_, rfl⟩
        rw [hf] at g2
        rw [hll] at g0
        rw [hqq] at g4
        have u0 : ∀ H', R (T k) F.swashref01_U [lv encB b, .int .i64 p, .int .i64 2] H' = .ok (.int .i64 l) H' := fun H' => by rw [u0]; unfold gU at hll; rw [hll]
        have u2 : ∀ H', R (T k) F.swashref01_U [lv encB b, .int .i64 (p + 2), .int .i64 2] H' = .ok (.int .i64 f) H' := fun H' => by rw [u2]; unfold gU at hf; rw [hf]
        have u4 : ∀ H', R (T k) F.swashref01_U [lv encB b, .int .i64 (p + 4), .int .i64 2] H' = .ok (.int .i64 q) H' := fun H' => by rw [u4]; unfold gU at hqq; rw [hqq]
        have hE : segE b z each p = if each then ⟨f, l, q, z, z⟩ else ⟨f, l, p + 4, z, 0⟩ := by unfold segE; rw [hf, hll, hqq]
        have hB : segB b z each p = if each then rowsB b.length q (l - f + 1) z else true := by unfold segB; rw [hf, hll, hqq]
        have hx1 : Ext H' (H'.push ⟨encRP (segE b z each p), 1, false⟩) := (Ext.refl H').push _
        obtain ⟨s2, H2, e2, o2, x2⟩ := ap1_own (bytes := 40) encRP_len (ho.up hx1) (hx.trans hx1) (segE b z each p) (by omega) (by decide)
        refine .inl ⟨_, H2, ?_, x2, s2, out ++ [segE b z each p], segB b z each p, rfl, o2, by simp; omega, ?_⟩
        · rw [swashref06_segments_l1_eq]
          rw [hE] at e2
          rw [hB]
          cases each with
          | false =>
            simp only [Bool.false_eq_true, if_false, hn_push, encRP] at e2 ⊢
            simp -implicitDefEqProofs (disch := omega) [hlt, i1, u0, u2, swashref06_segments_j4_eq, e2]
          | true =>
            simp only [if_true, hn_push, encRP] at e2 ⊢
            simp -implicitDefEqProofs (disch := omega) [hlt, i1, u0, u2, u4, hRows, swashref06_segments_j3_eq, e2]
        · cases hsb : segB b z each p with
          | true =>
            refine .inl ⟨hok, rfl, ?_⟩
            rw [mapO_take hp, hm, segR_eq, hsb]
            rfl
          | false =>
            refine .inr ⟨rfl, .inr (mapO_none_take (j := j + 1) ?_)⟩
            rw [mapO_take hp, hm, segR_eq, hsb]
            rfl)
    (fun e H' ⟨hx, s, out, fl, he, ho, hol, hq⟩ => by
      subst he
      refine ⟨.exit 0, _, H', ?_, by simp, rfl, hx, .int .i64 ps.length, s, out, fl, rfl, ho, hol, by rw [List.take_length] at hq; exact hq⟩
      rw [swashref06_segments_l1_eq]
      simp -implicitDefEqProofs)
  obtain ⟨L, hf⟩ := ho.freeze encRP_len (encRP_still _) 5
  have hall : swashref06_segments k (R (T k)) (lv encB b) (.int .i64 z) (.bool each) H = .ok (.tuple #[s, .bool fl]) H1 := by
    cases each with
    | false =>
      simp only [Bool.false_eq_true, if_false] at hneed
      subst hneed
      have hr5' := hr5
      rw [hrow] at hr5'
      rcases hz with rfl | rfl <;> simp only [show (4 : Int) + 2 = 6 from rfl, show (4 : Int) + 4 = 8 from rfl] at hr5' <;> simp -implicitDefEqProofs (disch := omega) [swashref06_segments, swashref06_segments_j2_eq, hr5', hr, swashref06_segments_l1k_x0]
    | true =>
      simp only [if_true] at hneed
      subst hneed
      have hr5' := hr5
      rw [hrow] at hr5'
      rcases hz with rfl | rfl <;> simp -implicitDefEqProofs (disch := omega) [swashref06_segments, swashref06_segments_j1_eq, hr5', hr, swashref06_segments_l1k_x0]
  refine ⟨.tuple #[lv encRP out, .bool fl], ?_, ?_⟩
  · rw [swashref06_segments_R]
    exact nrm_fz hall (fz_tuple (l := [s, .bool fl]) (mapF_cons hf (mapF_one (L := []) rfl))) hx (parts_flat _ _).alive
  · rcases hq with ⟨hol, ⟨rfl, rfl, hm⟩ | ⟨rfl, hn⟩⟩
    · exact ⟨out, by simp [hm], fun x h => (by simp [hm] at h; exact h), by omega⟩
    · have : (if ok = true then mapO (segR b z each) ps else none) = none := by
        rcases hn with rfl | hn
        · rfl
        · rw [hn]; split <;> rfl
      rw [this]
      exact ⟨out, rfl, fun x h => (by cases h), by omega⟩
end Go.Sw
