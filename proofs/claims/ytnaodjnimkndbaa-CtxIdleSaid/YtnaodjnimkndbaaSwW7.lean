/-
  Functions' forms, and what is proved of them, part 7.
-/
import Derived.Test.YtnaodjnimkndbaaSwW6
import Derived.Test.YtnaodjnimkndbaaSwW5
import Derived.Test.YtnaodjnimkndbaaSwCfg
set_option linter.unusedSimpArgs false
set_option linter.unusedVariables false
set_option linter.unusedSectionVars false
section
namespace Go.Sw
open Go.RowKit
abbrev encRP (r : RP) : List Value := [.int .i64 r.first, .int .i64 r.last, .int .i64 r.pos, .int .i64 r.size, .int .i64 r.step]
theorem ζ6e (r : RP) : (encRP r).length = 5 := rfl
theorem ζa7 (l : List RP) : ∀ p, p ∈ l → ∀ v, v ∈ encRP p → Still v := fun p _ v hv => by
 simp [encRP] at hv
 rcases hv with rfl | rfl | rfl | rfl | rfl <;> trivial
theorem Flat.RPs (l : List RP) : Flat (Go.Sw.lv encRP l) := .lv fun p _ => .cons (.int _ _) (.cons (.int _ _) (.cons (.int _ _) (.cons (.int _ _) (.cons (.int _ _) .nil))))
def PartsAre (o : Option (List RP)) (v : Value) : Prop := ∃ l, v = .tuple #[lv encRP l, .bool o.isSome] ∧ (∀ x, o = some x → l = x) ∧ l.length ≤ 65536
theorem ζ6p (l : List RP) (x : Bool) : Flat (.tuple #[lv encRP l, .bool x]) := .tupleL (.cons (Flat.RPs _) (.cons (.bool _) .nil))
def segE (b : List Int) (z : Int) (each : Bool) (p : Int) : RP := if each then ⟨gU b (p + 2) 2, gU b p 2, gU b (p + 4) 2, z, z⟩ else ⟨gU b (p + 2) 2, gU b p 2, p + 4, z, 0⟩
def segB (b : List Int) (z : Int) (each : Bool) (p : Int) : Bool := if each then rowsB b.length (gU b (p + 4) 2) (gU b p 2 - gU b (p + 2) 2 + 1) z else true
theorem segR_eq (b : List Int) (z : Int) (each : Bool) (p : Int) : segR b z each p = if segB b z each p then some (segE b z each p) else none := by
 unfold segR segB segE
 cases each <;> simp
theorem ζjb {β : Type} {f : Int → Option β} {l : List Int} {j : Nat} {p : Int} (hp : l[j]? = some p) : mapO f (l.take (j + 1)) = (mapO f (l.take j)).bind fun r => (f p).map fun y => r ++ [y] := by
 have h : ∀ (a : List Int), mapO f (a ++ [p]) = (mapO f a).bind fun r => (f p).map fun y => r ++ [y] := by
  intro a
  induction a with
  | nil => simp [mapO]; cases f p <;> rfl
  | cons x a ih =>
   simp only [List.cons_append, mapO, ih]
   cases f x with
   | none => rfl
   | some y =>
    simp only [Option.bind_some]
    cases mapO f a with
    | none => rfl
    | some r => simp only [Option.bind_some, Option.map_some]; cases f p <;> rfl
 rw [ζ1p hp, h]
theorem ζgr {β : Type} {f : Int → Option β} {l : List Int} {j : Nat} (h : mapO f (l.take j) = none) : mapO f l = none := by
 have : ∀ (a b : List Int), mapO f a = none → mapO f (a ++ b) = none := by
  intro a
  induction a with
  | nil => intro b h; cases h
  | cons x a ih =>
   intro b h
   simp only [List.cons_append, mapO] at h ⊢
   cases hx : f x with
   | none => rfl
   | some y =>
    rw [hx] at h
    simp only [Option.bind_some, Option.map_eq_none_iff] at h ⊢
    exact ih b h
 rw [← List.take_append_drop j l]
 exact this _ _ h
theorem ζi5 (k : Nat) (b : List Int) (hb : Byt b) (z : Int) (hz : z = 2 ∨ z = 4) (each : Bool) (hl : b.length < 2 ^ 31) (H : Heap) :
  ∃ v, R (T k) F.ζ3 [lv encB b, .int .i64 z, .bool each] H = .ok v H ∧ PartsAre (refSegS b z each) v := by
 have hU := fun j H' => refU_run k (H := H') (Sl.lv H' 1 b) hb j 2 (by omega) (by omega)
 have hRows := fun i n H' => ζ7y k b.length i n z (by omega) (by omega) H'
 obtain ⟨need, hneed⟩ : ∃ need : Int, need = if each then 6 else 4 + z := ⟨_, rfl⟩
 have hr5 : ∀ H', R (T k) F.ζ6 [lv encB b, .int .i64 2, .int .i64 need, .int .i64 2] H' = .ok (rowsO b 2 need 2) H' := fun H' => ζi0 k b hb 2 need 2 hl (by omega) (by omega) (by subst hneed; split <;> omega) (by subst hneed; split <;> omega) H'
 -- the rows
 obtain ⟨ps, ok, zz, hrow, hps, hok⟩ : ∃ (ps : List Int) (ok : Bool) (zz : Int), rowsO b 2 need 2 = .tuple #[lv encI ps, .int .i64 zz, .bool ok] ∧ (∀ p, p ∈ ps → 0 ≤ p ∧ p < 2 ^ 34) ∧
   ps.length < 65536 ∧ refSegS b z each = (if ok then mapO (segR b z each) ps else none) ∧ (ok = false → ps = []) := by
  unfold rowsO refSegS
  rw [← hneed]
  cases ht : takeS b 2 need 2 with
  | none => exact ⟨[], false, 0, rfl, (fun p h => by cases h), by simp, rfl, fun _ => rfl⟩
  | some rows =>
   obtain ⟨s, n, h1, h2, h3, h4, h5, h6⟩ := ζcc ht
   have hs := uS_two hb h1
   have hn := uS_two hb h2
   rw [gU_some h1]
   refine ⟨posS 2 s rows.length, true, s, rfl, fun p hp => ?_, by simp; omega, rfl, fun h => by cases h⟩
   obtain ⟨i, hi⟩ := List.getElem?_of_mem hp
   have hlt := (List.getElem?_eq_some_iff.1 hi).1
   simp at hlt
   rw [posS_get _ _ _ _ hlt] at hi
   injection hi with hi
   have := Int.mul_nonneg hs.1 (show (0 : Int) ≤ (i : Nat) by omega)
   have : s * (i : Nat) ≤ 65536 * 65536 := Int.mul_le_mul (by omega) (by omega) (by omega) (by omega)
   omega
 obtain ⟨hplen, href, hoknil⟩ := hok
 rw [href]
 obtain ⟨x, e', H1, hr, rfl, hx, a, s, out, fl, rfl, ho, hq⟩ := loop_up (body := ζ29 k (R (T k))) ps.length
  (fun j e H' => Ext H H' ∧ ∃ s out fl, e = [(0, lv encB b), (1, .int .i64 z), (2, .bool each), (9, lv encI ps), (11, .bool fl), (12, s), (13, .int .i64 j)] ∧ Own H H' 5 s encRP out ∧
   out.length ≤ j ∧ ((ok = true ∧ fl = true ∧ mapO (segR b z each) (ps.take j) = some out) ∨ (fl = false ∧ (ok = false ∨ mapO (segR b z each) ps = none))))
  (fun x e H' => x = .exit 0 ∧ Ext H H' ∧ ∃ a s out fl, e = [(0, lv encB b), (1, .int .i64 z), (2, .bool each), (9, lv encI ps), (11, .bool fl), (12, s), (13, a), (32, .bool false)] ∧ Own H H' 5 s encRP out ∧
   out.length ≤ ps.length ∧ ((ok = true ∧ fl = true ∧ mapO (segR b z each) ps = some out) ∨ (fl = false ∧ (ok = false ∨ mapO (segR b z each) ps = none))))
  (e0 := [(0, lv encB b), (1, .int .i64 z), (2, .bool each), (9, lv encI ps), (11, .bool ok), (12, bareV), (13, .int .i64 0)]) (H0 := H)
  ⟨Ext.refl H, bareV, [], ok, rfl, Own.bare _ _ _, by simp, by cases ok; exact .inr ⟨rfl, .inl rfl⟩; exact .inl ⟨rfl, rfl, rfl⟩⟩ (by omega)
  (fun j e H' hj ⟨hx, s, out, fl, he, ho, hol, hq⟩ => by
   subst he
   have hlt : (j : Int) < ps.length := by omega
   rcases hq with ⟨hok, rfl, hm⟩ | ⟨rfl, hn⟩
   rotate_left
   ·refine .inr ⟨.exit 0, _, H', ?_, by simp, rfl, hx, .int .i64 j, s, out, false, rfl, ho, by omega, .inr ⟨rfl, hn⟩⟩
    rw [ζ2j]
    simp -implicitDefEqProofs (disch := omega) [hlt]
   ·obtain ⟨p, hp⟩ : ∃ p, ps[j]? = some p := ⟨_, List.getElem?_eq_getElem hj⟩
    have hpb := hps p (List.mem_of_getElem? hp)
    have i1 := fun H' => ixS_lvN encI_len ps .i64 j p hp H'
    have u0 := fun H' => hU p H'
    have u2 := fun H' => hU (p + 2) H'
    have u4 := fun H' => hU (p + 4) H'
    have g0 := gU_two hb p
    have g2 := gU_two hb (p + 2)
    have g4 := gU_two hb (p + 4)
    obtain ⟨f, hf⟩ : ∃ f, gU b (p + 2) 2 = f := ⟨_, rfl⟩
    obtain ⟨l, hll⟩ : ∃ l, gU b p 2 = l := ⟨_, rfl⟩
    obtain ⟨q, hqq⟩ : ∃ q, gU b (p + 4) 2 = q := ⟨_, rfl⟩
    rw [hf] at g2
    rw [hll] at g0
    rw [hqq] at g4
    have u0 : ∀ H', R (T k) F.ζ1 [lv encB b, .int .i64 p, .int .i64 2] H' = .ok (.int .i64 l) H' := fun H' => by rw [u0]; unfold gU at hll; rw [hll]
    have u2 : ∀ H', R (T k) F.ζ1 [lv encB b, .int .i64 (p + 2), .int .i64 2] H' = .ok (.int .i64 f) H' := fun H' => by rw [u2]; unfold gU at hf; rw [hf]
    have u4 : ∀ H', R (T k) F.ζ1 [lv encB b, .int .i64 (p + 4), .int .i64 2] H' = .ok (.int .i64 q) H' := fun H' => by rw [u4]; unfold gU at hqq; rw [hqq]
    have hE : segE b z each p = if each then ⟨f, l, q, z, z⟩ else ⟨f, l, p + 4, z, 0⟩ := by unfold segE; rw [hf, hll, hqq]
    have hB : segB b z each p = if each then rowsB b.length q (l - f + 1) z else true := by unfold segB; rw [hf, hll, hqq]
    have hx1 : Ext H' (H'.push ⟨encRP (segE b z each p), 1, false⟩) := (Ext.refl H').push _
    obtain ⟨s2, H2, e2, o2, x2⟩ := ap1_own (bytes := 40) ζ6e (ho.up hx1) (hx.trans hx1) (segE b z each p) (by omega) (by decide)
    refine .inl ⟨_, H2, ?_, x2, s2, out ++ [segE b z each p], segB b z each p, rfl, o2, by simp; omega, ?_⟩
    ·rw [ζ2j]
     rw [hE] at e2
     rw [hB]
     cases each with
     | false =>
      simp only [Bool.false_eq_true, if_false, hn_push, encRP] at e2 ⊢
      simp -implicitDefEqProofs (disch := omega) [hlt, i1, u0, u2, ζ8b, e2]
     | true =>
      simp only [if_true, hn_push, encRP] at e2 ⊢
      simp -implicitDefEqProofs (disch := omega) [hlt, i1, u0, u2, u4, hRows, ζ8a, e2]
    ·cases hsb : segB b z each p with
     | true =>
      refine .inl ⟨hok, rfl, ?_⟩
      rw [ζjb hp, hm, segR_eq, hsb]
      rfl
     | false =>
      refine .inr ⟨rfl, .inr (ζgr (j := j + 1) ?_)⟩
      rw [ζjb hp, hm, segR_eq, hsb]
      rfl)
  (fun e H' ⟨hx, s, out, fl, he, ho, hol, hq⟩ => by
   subst he
   refine ⟨.exit 0, _, H', ?_, by simp, rfl, hx, .int .i64 ps.length, s, out, fl, rfl, ho, hol, by rw [List.take_length] at hq; exact hq⟩
   rw [ζ2j]
   simp -implicitDefEqProofs)
 obtain ⟨L, hf⟩ := ho.freeze ζ6e (ζa7 _) 5
 have hall : ζ3 k (R (T k)) (lv encB b) (.int .i64 z) (.bool each) H = .ok (.tuple #[s, .bool fl]) H1 := by
  cases each with
  | false =>
   simp only [Bool.false_eq_true, if_false] at hneed
   subst hneed
   have hr5' := hr5
   rw [hrow] at hr5'
   rcases hz with rfl | rfl <;> simp only [show (4 : Int) + 2 = 6 from rfl, show (4 : Int) + 4 = 8 from rfl] at hr5' <;> simp -implicitDefEqProofs (disch := omega) [ζ3, ζ89, hr5', hr, ζ3o]
  | true =>
   simp only [if_true] at hneed
   subst hneed
   have hr5' := hr5
   rw [hrow] at hr5'
   rcases hz with rfl | rfl <;> simp -implicitDefEqProofs (disch := omega) [ζ3, ζ88, hr5', hr, ζ3o]
 refine ⟨.tuple #[lv encRP out, .bool fl], ?_, ?_⟩
 ·rw [ζam]
  exact nrm_fz hall (fz_tuple (l := [s, .bool fl]) (ζ1e hf (mapF_one (L := []) rfl))) hx (ζ6p _ _).alive
 ·rcases hq with ⟨hol, ⟨rfl, rfl, hm⟩ | ⟨rfl, hn⟩⟩
  ·exact ⟨out, by simp [hm], fun x h => (by simp [hm] at h; exact h), by omega⟩
  ·have : (if ok = true then mapO (segR b z each) ps else none) = none := by
    rcases hn with rfl | hn
    ·rfl
    ·rw [hn]; split <;> rfl
   rw [this]
   exact ⟨out, rfl, fun x h => (by cases h), by omega⟩
end Go.Sw
end
section
namespace Go.Sw
open Go.RowKit
theorem refNo {H : Heap} {r : Res Value} (h : r = .ok (.tuple #[.slice none 0 0, .bool false]) H) : nrm .fz H r = .ok (.tuple #[lv encRP [], .bool false]) H :=
 nrm_fz (L := []) h rfl (Ext.refl H) (ζ6p [] false).alive
theorem PartsAre.no : PartsAre none (.tuple #[lv encRP [], .bool false]) := ⟨[], rfl, fun x h => (by cases h), by simp⟩
theorem ζib (k : Nat) (b : List Int) (hb : Byt b) (i z : Int) (hz : z = 1 ∨ z = 2 ∨ z = 4) (hi : 0 ≤ i ∧ i ≤ 4) (hl : b.length < 2 ^ 31) (H : Heap) :
  ∃ v, R (T k) F.ζl [lv encB b, .int .i64 i, .int .i64 z] H = .ok v H ∧ PartsAre (refTrimS b i z) v := by
 have hU := fun j H' => refU_run k (H := H') (Sl.lv H' 1 b) hb j 2 (by omega) (by omega)
 have hR := fun n H' => ζ7y k b.length (i + 4) n z (by omega) (by omega) H'
 rw [ζbh]
 unfold refTrimS
 cases h1 : uS b i 2 with
 | none =>
  refine ⟨_, refNo ?_, .no⟩
  have u1 := fun H' => hU i H'
  rw [h1] at u1
  have g2 := gU_two hb (i + 2)
  unfold gU at g2
  simp -implicitDefEqProofs (disch := omega) [ζl, u1, hU]
 | some f =>
  have u1 := fun H' => hU i H'
  rw [h1] at u1
  have hf := uS_two hb h1
  have hf' : ¬ f < 0 := by omega
  cases h2 : uS b (i + 2) 2 with
  | none =>
   refine ⟨_, refNo ?_, .no⟩
   have u2 := fun H' => hU (i + 2) H'
   rw [h2] at u2
   simp -implicitDefEqProofs (disch := omega) [ζl, u1, u2, hf']
  | some n =>
   have u2 := fun H' => hU (i + 2) H'
   rw [h2] at u2
   have hn := uS_two hb h2
   have hn' : ¬ n < 0 := by omega
   simp only [Option.bind_some, Option.getD_some] at u1 u2 ⊢
   by_cases h3 : f + n ≤ 65536
   ·have h3' : ¬ f + n > 65536 := by omega
    cases h4 : rowsB b.length (i + 4) n z with
    | false =>
     rw [if_neg (by simp)]
     refine ⟨_, refNo ?_, .no⟩
     have hR4 := hR n
     rw [h4] at hR4
     simp -implicitDefEqProofs (disch := omega) [ζl, u1, u2, hf', hn', h3', hR4]
    | true =>
     rw [if_pos ⟨h3, rfl⟩]
     have hR4 := hR n
     rw [h4] at hR4
     by_cases h0 : n = 0
     ·subst h0
      rw [if_pos rfl]
      have h3'' : ¬ 65536 < f := by omega
      refine ⟨.tuple #[lv encRP [], .bool true], nrm_fz (v := .tuple #[bareV, .bool true]) (H' := H) (L := []) ?_ rfl (Ext.refl H) (ζ6p [] true).alive, [], rfl, fun x h => (by injection h), by simp⟩
      simp -implicitDefEqProofs (disch := omega) [ζl, u1, u2, hf', h3'', hR4]
     ·rw [if_neg h0]
      have h0' : (n == 0) = false := by simpa using h0
      obtain ⟨r, hr⟩ : ∃ r : RP, r = ⟨f, f + n - 1, i + 4, z, z⟩ := ⟨_, rfl⟩
      rw [← hr]
      have ho : Own H (H.push ⟨encRP r, 5, false⟩) 5 (.slice (some ⟨H.n, 0, none⟩) 1 1) encRP [r] := .inr ⟨H.n, rfl, by omega, ζe _ _ _ rfl⟩
      obtain ⟨L, hfz⟩ := ho.freeze ζ6e (ζa7 _) 5
      refine ⟨.tuple #[lv encRP [r], .bool true], nrm_fz (v := .tuple #[.slice (some ⟨H.n, 0, none⟩) 1 1, .bool true]) (H' := H.push ⟨encRP r, 5, false⟩) ?_ (fz_tuple (l := [.slice (some ⟨H.n, 0, none⟩) 1 1, .bool true]) (ζ1e hfz (mapF_one (L := []) rfl))) ((Ext.refl H).push _) (ζ6p [r] true).alive, [r], rfl, fun x h => (by injection h), by simp⟩
      subst hr
      simp -implicitDefEqProofs (disch := omega) [ζl, u1, u2, hf', hn', h3', hR4, h0']
   ·rw [if_neg (fun h => h3 h.1)]
    have h3' : f + n > 65536 := by omega
    refine ⟨_, refNo ?_, .no⟩
    simp -implicitDefEqProofs (disch := omega) [ζl, u1, u2, hf', hn', h3']
theorem PartsAre.val {o : Option (List RP)} {v : Value} (h : PartsAre o v) : ∃ l ok, v = .tuple #[lv encRP l, .bool ok] ∧ o = (if ok then some l else none) ∧ l.length ≤ 65536 := by
 obtain ⟨l, rfl, h1, h2⟩ := h
 cases o with
 | none => exact ⟨l, false, rfl, rfl, h2⟩
 | some x => exact ⟨l, true, rfl, by simp [h1 x rfl], h2⟩
theorem PartsAre.pass {o : Option (List RP)} {l : List RP} {ok : Bool} (h : o = (if ok then some l else none)) (hl : l.length ≤ 65536) : PartsAre o (.tuple #[lv encRP l, .bool ok]) := by
 subst h
 cases ok with
 | true => exact ⟨l, rfl, fun x h => (by injection h), hl⟩
 | false => exact ⟨l, rfl, fun x h => (by cases h), hl⟩
theorem ζdm {H : Heap} {r : Res Value} {l : List RP} {ok : Bool} (h : r = .ok (.tuple #[lv encRP l, .bool ok]) H) : nrm .fz H r = .ok (.tuple #[lv encRP l, .bool ok]) H :=
 nrm_fz (L := []) h rfl (Ext.refl H) (ζ6p l ok).alive
theorem ζkf (k : Nat) (b : List Int) (hb : Byt b) (g z : Int) (hg : 1 ≤ g ∧ g ≤ 65535) (hz : z = 2 ∨ z = 4) (hl : b.length < 2 ^ 31) (H : Heap) :
  ∃ v, R (T k) F.ζd [lv encB b, .int .i64 g, .int .i64 z] H = .ok v H ∧ PartsAre (refPartsS b g z (gU b 0 2)) v := by
 have hU := fun j H' => refU_run k (H := H') (Sl.lv H' 1 b) hb j 2 (by omega) (by omega)
 have hR := fun H' => ζ7y k b.length 2 g z (by omega) (by omega) H'
 rw [ζcr]
 have hu0 : ∀ H', R (T k) F.ζ1 [lv encB b, .int .i64 0, .int .i64 2] H' = .ok (.int .i64 (gU b 0 2)) H' := fun H' => hU 0 H'
 have hu2 : ∀ H', R (T k) F.ζ1 [lv encB b, .int .i64 2, .int .i64 2] H' = .ok (.int .i64 (gU b 2 2)) H' := fun H' => hU 2 H'
 generalize gU b 0 2 = fmt at hu0 ⊢
 unfold refPartsS
 by_cases h0 : fmt = 0
 ·subst h0
  rw [if_pos rfl]
  obtain ⟨r, hr⟩ : ∃ r : RP, r = ⟨0, g - 1, 2, z, z⟩ := ⟨_, rfl⟩
  rw [← hr]
  have ho : Own H (H.push ⟨encRP r, 5, false⟩) 5 (.slice (some ⟨H.n, 0, none⟩) 1 1) encRP [r] := .inr ⟨H.n, rfl, by omega, ζe _ _ _ rfl⟩
  obtain ⟨L, hfz⟩ := ho.freeze ζ6e (ζa7 _) 5
  refine ⟨.tuple #[lv encRP [r], .bool (rowsB b.length 2 g z)], nrm_fz (v := .tuple #[.slice (some ⟨H.n, 0, none⟩) 1 1, .bool (rowsB b.length 2 g z)]) (H' := H.push ⟨encRP r, 5, false⟩) ?_ (fz_tuple (l := [.slice (some ⟨H.n, 0, none⟩) 1 1, .bool (rowsB b.length 2 g z)]) (ζ1e hfz (mapF_one (L := []) rfl))) ((Ext.refl H).push _) (ζ6p [r] _).alive, .pass rfl (by simp)⟩
  subst hr
  simp -implicitDefEqProofs (disch := omega) [ζd, hu0, hR]
 rw [if_neg h0]
 have h0' : (fmt == 0) = false := by simpa using h0
 by_cases h2 : fmt = 2
 ·subst h2
  rw [if_pos rfl]
  obtain ⟨v, e, hp⟩ := ζi5 k b hb z hz false hl H
  obtain ⟨l, ok, rfl, ho, hll⟩ := hp.val
  refine ⟨_, ζdm (l := l) (ok := ok) ?_, .pass ho hll⟩
  simp -implicitDefEqProofs (disch := omega) [ζd, hu0, e]
 rw [if_neg h2]
 have h2' : (fmt == 2) = false := by simpa using h2
 by_cases h4 : fmt = 4
 ·subst h4
  rw [if_pos rfl]
  obtain ⟨v, e, hp⟩ := ζi5 k b hb z hz true hl H
  obtain ⟨l, ok, rfl, ho, hll⟩ := hp.val
  refine ⟨_, ζdm (l := l) (ok := ok) ?_, .pass ho hll⟩
  simp -implicitDefEqProofs (disch := omega) [ζd, hu0, e]
 rw [if_neg h4]
 have h4' : (fmt == 4) = false := by simpa using h4
 by_cases h6 : fmt = 6
 ·subst h6
  rw [if_pos rfl]
  have hr5 := fun H' => ζi0 k b hb 2 (2 + z) 1 hl (by omega) (by omega) (by omega) (by omega) H'
  obtain ⟨ps, ok, zz, hrow, hps, hpl, hok⟩ : ∃ (ps : List Int) (ok : Bool) (zz : Int), rowsO b 2 (2 + z) 1 = .tuple #[lv encI ps, .int .i64 zz, .bool ok] ∧ (∀ p, p ∈ ps → 0 ≤ p ∧ p < 2 ^ 34) ∧
    ps.length < 65536 ∧ refOneS b z = (if ok then some (ps.map (oneR b z)) else none) := by
   unfold rowsO refOneS
   cases ht : takeS b 2 (2 + z) 1 with
   | none => exact ⟨[], false, 0, rfl, (fun p h => by cases h), by simp, rfl⟩
   | some rows =>
    obtain ⟨s, n, h1, h2, h3, h4, h5, h6⟩ := ζcc ht
    have hs := uS_two hb h1
    have hn := uS_two hb h2
    rw [gU_some h1]
    refine ⟨posS 2 s rows.length, true, s, rfl, fun p hp => ?_, by simp; omega, by rw [Option.map_some]; rfl⟩
    obtain ⟨j, hj⟩ := List.getElem?_of_mem hp
    have hjl := (List.getElem?_eq_some_iff.1 hj).1
    rw [posS_len] at hjl
    rw [posS_get _ _ _ _ hjl] at hj
    injection hj with hj
    have h7 := Int.mul_nonneg hs.1 (show (0 : Int) ≤ (j : Int) by omega)
    have h8 : s * (j : Int) ≤ 65536 * 65536 := Int.mul_le_mul (by omega) (by omega) (by omega) (by omega)
    omega
  rw [hrow] at hr5
  rw [hok]
  obtain ⟨x, e', H1, hr, rfl, hx, a, s, rfl, ho⟩ := loop_up (body := ζ4i k (R (T k))) ps.length
   (fun j e H' => Ext H H' ∧ ∃ s, e = [(0, lv encB b), (2, .int .i64 z), (8, lv encI ps), (10, .bool ok), (11, s), (12, .int .i64 j)] ∧ Own H H' 5 s encRP ((ps.take j).map (oneR b z)))
   (fun x e H' => x = .exit 1 ∧ Ext H H' ∧ ∃ a s, e = [(0, lv encB b), (2, .int .i64 z), (8, lv encI ps), (10, .bool ok), (11, s), (12, a), (58, .bool false)] ∧ Own H H' 5 s encRP (ps.map (oneR b z)))
   (e0 := [(0, lv encB b), (2, .int .i64 z), (8, lv encI ps), (10, .bool ok), (11, bareV), (12, .int .i64 0)]) (H0 := H) ⟨Ext.refl H, _, rfl, Own.bare _ _ _⟩ (by omega)
   (fun j e H' hj ⟨hx, s, he, ho⟩ => by
    subst he
    have hlt : (j : Int) < ps.length := by omega
    obtain ⟨p, hp⟩ : ∃ p, ps[j]? = some p := ⟨_, List.getElem?_eq_getElem hj⟩
    have hpb := hps p (List.mem_of_getElem? hp)
    have i1 := fun H' => ixS_lvN encI_len ps .i64 j p hp H'
    have u0 : ∀ H', R (T k) F.ζ1 [lv encB b, .int .i64 p, .int .i64 2] H' = .ok (.int .i64 (gU b p 2)) H' := fun H' => hU p H'
    obtain ⟨s2, H2, e2, o2, x2⟩ := ap1_own (bytes := 40) ζ6e ho hx (oneR b z p) (by simp; omega) (by decide)
    refine .inl ⟨_, H2, ?_, x2, s2, rfl, by rw [ζ1p hp, List.map_append]; exact o2⟩
    rw [ζ5l]
    unfold encRP oneR at e2
    simp -implicitDefEqProofs (disch := omega) [hlt, i1, u0, e2])
   (fun e H' ⟨hx, s, he, ho⟩ => by
    subst he
    refine ⟨.exit 1, _, H', ?_, by simp, rfl, hx, .int .i64 ps.length, s, rfl, by rw [List.take_length] at ho; exact ho⟩
    rw [ζ5l]
    simp -implicitDefEqProofs)
  obtain ⟨L, hf⟩ := ho.freeze ζ6e (ζa7 _) 5
  refine ⟨.tuple #[lv encRP (ps.map (oneR b z)), .bool ok], nrm_fz (v := .tuple #[s, .bool ok]) (H' := H1) ?_ (fz_tuple (l := [s, .bool ok]) (ζ1e hf (mapF_one (L := []) rfl))) hx (ζ6p _ _).alive, .pass rfl (by simp; omega)⟩
  rcases hz with rfl | rfl <;> simp -implicitDefEqProofs (disch := omega) at hr5 <;> simp -implicitDefEqProofs (disch := omega) [ζd, hu0, hr5, hr, ζ9d]
 rw [if_neg h6]
 have h6' : (fmt == 6) = false := by simpa using h6
 by_cases h8 : fmt = 8
 ·subst h8
  rw [if_pos rfl]
  obtain ⟨v, e, hp⟩ := ζib k b hb 2 z (by omega) (by omega) hl H
  obtain ⟨l, ok, rfl, ho, hll⟩ := hp.val
  refine ⟨_, ζdm (l := l) (ok := ok) ?_, .pass ho hll⟩
  simp -implicitDefEqProofs (disch := omega) [ζd, hu0, e]
 rw [if_neg h8]
 have h8' : (fmt == 8) = false := by simpa using h8
 by_cases h10 : fmt = 10
 ·subst h10
  rw [if_pos rfl]
  have hno : ¬ (gU b 2 2 = 1 ∨ gU b 2 2 = 2 ∨ gU b 2 2 = 4) → ζd k (R (T k)) (lv encB b) (.int .i64 g) (.int .i64 z) H = .ok (.tuple #[.slice none 0 0, .bool false]) H := fun hu => by
   have u1 : (gU b 2 2 == 1) = false := by simpa using fun h => hu (.inl h)
   have u2 : (gU b 2 2 == 2) = false := by simpa using fun h => hu (.inr (.inl h))
   have u4 : (gU b 2 2 == 4) = false := by simpa using fun h => hu (.inr (.inr h))
   simp -implicitDefEqProofs (disch := omega) [ζd, hu0, hu2, bne, u1, u2, u4]
  cases h : uS b 2 2 with
  | none =>
   have hg2 : gU b 2 2 = -1 := by unfold gU; rw [h]; rfl
   exact ⟨_, refNo (hno (by rw [hg2]; decide)), .no⟩
  | some u =>
   have hg2 := gU_some h
   rw [hg2] at hu2 hno
   simp only [Option.bind_some]
   by_cases hu : u = 1 ∨ u = 2 ∨ u = 4
   ·rw [if_pos hu]
    obtain ⟨v, e, hp⟩ := ζib k b hb 4 u hu (by omega) hl H
    obtain ⟨l, ok, rfl, ho, hll⟩ := hp.val
    refine ⟨_, ζdm (l := l) (ok := ok) ?_, .pass ho hll⟩
    rcases hu with rfl | rfl | rfl <;> simp -implicitDefEqProofs (disch := omega) [ζd, hu0, hu2, bne, e]
   ·rw [if_neg hu]
    exact ⟨_, refNo (hno hu), .no⟩
 rw [if_neg h10]
 have h10' : (fmt == 10) = false := by simpa using h10
 refine ⟨_, refNo ?_, .no⟩
 simp -implicitDefEqProofs (disch := omega) [ζd, hu0, h0', h2', h4', h6', h8', h10']
end Go.Sw
end
section
namespace Go.Sw
open Go.RowKit
theorem ζhc (r : RP) : ∀ a : List RP, goodR (a ++ [r]) = (goodR a && decide (r.first ≤ r.last) && match a.getLast? with | some q => decide (q.last < r.first) | none => true)
 | [] => by simp [goodR]
 | [x] => by
  simp only [List.singleton_append, goodR, List.getLast?_singleton]
  cases decide (x.first ≤ x.last) <;> cases decide (x.last < r.first) <;> cases decide (r.first ≤ r.last) <;> rfl
 | x :: y :: t => by
  have ih := ζhc r (y :: t)
  simp only [List.cons_append] at ih ⊢
  simp only [goodR, ih, List.getLast?_cons_cons]
  simp only [Bool.and_assoc]
abbrev tabRV (b : List Int) (rs : List RP) : Value := .agg #[lv encB b, lv encRP rs]
def tabRO (b : List Int) (o : Option (List RP)) : Value := match o with | some rs => tabRV b rs | none => tabRV [] []
theorem Flat.tabRV (b : List Int) (rs : List RP) : Flat (tabRV b rs) := .aggL (.cons (Flat.B _) (.cons (Flat.RPs _) .nil))
theorem ζlz (b : List Int) (o : Option (List RP)) : Flat (tabRO b o) := by
 unfold tabRO
 split
 ·exact Flat.tabRV _ _
 ·exact Flat.tabRV _ _
theorem ζhu (k : Nat) (b : List Int) (hb : Byt b) (g z : Int) (hg : 1 ≤ g ∧ g ≤ 65535) (hz : z = 2 ∨ z = 4) (hl : b.length < 2 ^ 31) (H : Heap) :
  R (T k) F.ζm [lv encB b, .int .i64 g, .int .i64 z] H = .ok (.tuple #[tabRO b (refReadS b g z), .bool (refReadS b g z).isSome]) H := by
 have hx0 : Ext H (H.push ⟨[.slice none 0 0, .slice none 0 0], 1, false⟩) := (Ext.refl H).push _
 obtain ⟨v, e, hp⟩ := ζkf k b hb g z hg hz hl (H.push ⟨[.slice none 0 0, .slice none 0 0], 1, false⟩)
 obtain ⟨l, ok, rfl, ho, hll⟩ := hp.val
 rw [ζd9]
 obtain ⟨x, e', H1, hr, rfl, rfl, rfl⟩ := loop_up (body := ζ50 k (R (T k))) l.length
  (fun j e H' => H' = H.push ⟨[.slice none 0 0, .slice none 0 0], 1, false⟩ ∧ e = [(0, lv encB b), (6, .pointer (some ⟨H.n, 0, none⟩)), (8, lv encRP l), (9, .bool (ok && goodR (l.take j))), (10, .int .i64 j)])
  (fun x e H' => H' = H.push ⟨[.slice none 0 0, .slice none 0 0], 1, false⟩ ∧ x = .exit 0 ∧ e = [(0, lv encB b), (6, .pointer (some ⟨H.n, 0, none⟩)), (8, lv encRP l), (9, .bool (ok && goodR l)), (10, .int .i64 l.length), (21, .bool false)])
  (e0 := [(0, lv encB b), (6, .pointer (some ⟨H.n, 0, none⟩)), (8, lv encRP l), (9, .bool ok), (10, .int .i64 0)]) (H0 := H.push ⟨[.slice none 0 0, .slice none 0 0], 1, false⟩) ⟨rfl, by simp [goodR]⟩ (by omega)
  (fun j e H' hj ⟨hH, he⟩ => by
   subst he hH
   have hlt : (j : Int) < l.length := by omega
   obtain ⟨r, hr⟩ : ∃ r, l[j]? = some r := ⟨_, List.getElem?_eq_getElem hj⟩
   have i1 := fun H' => ixS_lvN ζ6e l .i64 j r hr H'
   refine .inl ⟨_, _, ?_, rfl, rfl⟩
   rw [ζ69, ζ1p hr, ζhc]
   by_cases h1 : r.last < r.first
   ·have h1' : ¬ r.first ≤ r.last := by omega
    simp -implicitDefEqProofs (disch := omega) [hlt, i1, h1, h1', ζ67]
   ·have h1' : r.first ≤ r.last := by omega
    cases j with
    | zero =>
     simp -implicitDefEqProofs (disch := omega) at i1 hlt
     simp -implicitDefEqProofs (disch := omega) [hlt, i1, h1, h1', ζ68, goodR]
    | succ j =>
     obtain ⟨q, hq⟩ : ∃ q, l[j]? = some q := ⟨_, List.getElem?_eq_getElem (by omega)⟩
     have i2 := fun H' => ixS_lvN ζ6e l .i64 j q hq H'
     have hlast : (l.take (j + 1)).getLast? = some q := by rw [ζ1p hq]; simp
     rw [hlast]
     have hj0 : (0 : Int) < (j : Int) + 1 := by omega
     simp -implicitDefEqProofs (disch := omega) at i1 hlt
     by_cases h2 : r.first ≤ q.last
     ·have h2' : ¬ q.last < r.first := by omega
      simp -implicitDefEqProofs (disch := omega) [hlt, i1, i2, h1, h1', h2, h2', hj0, ζ67]
     ·have h2' : q.last < r.first := by omega
      simp -implicitDefEqProofs (disch := omega) [hlt, i1, i2, h1, h1', h2, h2', hj0, ζ68])
  (fun e H' ⟨hH, he⟩ => by
   subst he hH
   refine ⟨.exit 0, _, _, ?_, by simp, rfl, rfl, rfl⟩
   rw [ζ69, List.take_length]
   simp -implicitDefEqProofs)
 have hread : refReadS b g z = if (ok && goodR l) = true then some l else none := by
  unfold refReadS
  rw [ho]
  cases ok <;> simp
 rw [hread]
 cases hgood : (ok && goodR l) with
 | false =>
  rw [hgood] at hr
  refine nrm_fz (v := .tuple #[.agg #[.slice none 0 0, .slice none 0 0], .bool false]) (L := []) (H' := H.push ⟨[.slice none 0 0, .slice none 0 0], 1, false⟩) ?_ rfl hx0 (Flat.tupleL (.cons (ζlz b none) (.cons (.bool _) .nil))).alive
  simp -implicitDefEqProofs [ζm, e, hr, ζ5k]
 | true =>
  rw [hgood] at hr
  refine nrm_fz (v := .tuple #[tabRV b l, .bool true]) (L := []) (H' := H.push ⟨[lv encB b, lv encRP l], 1, false⟩) ?_ rfl ((Ext.refl H).push _) (Flat.tupleL (.cons (Flat.tabRV b l) (.cons (.bool _) .nil))).alive
  simp -implicitDefEqProofs [ζm, e, hr, ζ5k]
def RP.ok (r : RP) : Prop := -1 ≤ r.first ∧ r.first ≤ 65536 ∧ -1 ≤ r.last ∧ r.last ≤ 65536 ∧ -1 ≤ r.pos ∧ r.pos < 2 ^ 35 ∧ 0 ≤ r.step ∧ r.step ≤ 4 ∧ 0 ≤ r.size ∧ r.size ≤ 4
theorem ζht {b : List Int} (hb : Byt b) {i need : Int} {keys : Nat} {rows : List (List Int)} (h : takeS b i need keys = some rows) (hi : 0 ≤ i ∧ i ≤ 65536) : ∀ p, p ∈ posS i (gU b i 2) rows.length → 0 ≤ p ∧ p < 2 ^ 34 := by
 obtain ⟨s, n, h1, h2, h3, h4, h5, h6⟩ := ζcc h
 have hs := uS_two hb h1
 have hn := uS_two hb h2
 rw [gU_some h1]
 intro p hp
 obtain ⟨j, hj⟩ := List.getElem?_of_mem hp
 have hjl := (List.getElem?_eq_some_iff.1 hj).1
 rw [posS_len] at hjl
 rw [posS_get _ _ _ _ hjl] at hj
 injection hj with hj
 have h7 := Int.mul_nonneg hs.1 (show (0 : Int) ≤ (j : Int) by omega)
 have h8 : s * (j : Int) ≤ 65536 * 65536 := Int.mul_le_mul (by omega) (by omega) (by omega) (by omega)
 omega
theorem ζhx {b : List Int} (hb : Byt b) {i z : Int} (hi : 0 ≤ i ∧ i ≤ 4) (hz : z = 1 ∨ z = 2 ∨ z = 4) {rs : List RP} (h : refTrimS b i z = some rs) : ∀ r, r ∈ rs → r.ok := by
 unfold refTrimS at h
 obtain ⟨f, hf, h⟩ := Option.bind_eq_some_iff.1 h
 obtain ⟨n, hn, h⟩ := Option.bind_eq_some_iff.1 h
 have hf := uS_two hb hf
 have hn := uS_two hb hn
 split at h
 ·rename_i hc
  injection h with h
  subst h
  intro r hr
  split at hr
  ·cases hr
  ·rw [List.mem_singleton] at hr
   subst hr
   refine ⟨?_, ?_, ?_, ?_, ?_, ?_, ?_, ?_, ?_, ?_⟩ <;> dsimp only <;> omega
 ·cases h
theorem ζkg {b : List Int} (hb : Byt b) {g z fmt : Int} (hg : 1 ≤ g ∧ g ≤ 65535) (hz : z = 2 ∨ z = 4) {rs : List RP} (h : refPartsS b g z fmt = some rs) : ∀ r, r ∈ rs → r.ok := by
 have seg : ∀ each rs, refSegS b z each = some rs → ∀ r, r ∈ rs → r.ok := fun each rs h => by
  unfold refSegS at h
  obtain ⟨rows, h1, h2⟩ := Option.bind_eq_some_iff.1 h
  refine mapO_all h2 fun p r hp hr => ?_
  have hpb := ζht hb h1 (by omega) p hp
  have g0 := gU_two hb p
  have g2 := gU_two hb (p + 2)
  have g4 := gU_two hb (p + 4)
  unfold segR at hr
  split at hr
  ·split at hr
   ·injection hr with hr
    subst hr
    refine ⟨?_, ?_, ?_, ?_, ?_, ?_, ?_, ?_, ?_, ?_⟩ <;> dsimp only <;> omega
   ·cases hr
  ·injection hr with hr
   subst hr
   refine ⟨?_, ?_, ?_, ?_, ?_, ?_, ?_, ?_, ?_, ?_⟩ <;> dsimp only <;> omega
 unfold refPartsS at h
 split at h
 ·split at h
  ·injection h with h
   subst h
   intro r hr
   rw [List.mem_singleton] at hr
   subst hr
   refine ⟨?_, ?_, ?_, ?_, ?_, ?_, ?_, ?_, ?_, ?_⟩ <;> dsimp only <;> omega
  ·cases h
 split at h
 ·exact seg _ _ h
 split at h
 ·exact seg _ _ h
 split at h
 ·unfold refOneS at h
  obtain ⟨rows, h1, rfl⟩ := Option.map_eq_some_iff.1 h
  intro r hr
  obtain ⟨p, hp, rfl⟩ := List.mem_map.1 hr
  have hpb := ζht hb h1 (by omega) p hp
  have g0 := gU_two hb p
  unfold oneR
  refine ⟨?_, ?_, ?_, ?_, ?_, ?_, ?_, ?_, ?_, ?_⟩ <;> dsimp only <;> omega
 split at h
 ·exact ζhx hb (by omega) (by omega) h
 split at h
 ·obtain ⟨u, _, h⟩ := Option.bind_eq_some_iff.1 h
  split at h
  ·rename_i hu
   exact ζhx hb (by omega) hu h
  ·cases h
 ·cases h
theorem ζhw {b : List Int} (hb : Byt b) {g z : Int} (hg : 1 ≤ g ∧ g ≤ 65535) (hz : z = 2 ∨ z = 4) {rs : List RP} (h : refReadS b g z = some rs) : ∀ r, r ∈ rs → r.ok := by
 unfold refReadS at h
 obtain ⟨qs, h1, h⟩ := Option.bind_eq_some_iff.1 h
 split at h
 ·injection h with h
  subst h
  exact ζkg hb hg hz h1
 ·cases h
theorem ζg0 {b : List Int} {g z : Int} {rs : List RP} (hb : Byt b) (hg : 1 ≤ g ∧ g ≤ 65535) (hz : z = 2 ∨ z = 4) {x : Int × List Pt} (hx : lookS b g z = some x) (h : refReadS b g z = some rs) : rs.length < 2 ^ 31 := by
 obtain ⟨rs', h1, h2⟩ := (look_ref hb hg.1 hg.2 hz).1 x hx
 rw [h] at h1
 injection h1 with h1
 subst h1
 have : ∀ (ps : List Pt) (rs : List RP), Rel b ps rs → rs.length = ps.length := by
  intro ps
  induction ps with
  | nil => intro rs h; cases rs with | nil => rfl | cons _ _ => cases h
  | cons p ps ih => intro rs h; cases rs with | nil => cases h | cons r rs => simp [ih rs h.2]
 rw [this _ _ h2]
 exact ζgq hb hx
theorem ζj3 (k : Nat) (b : List Int) (hb : Byt b) (rs : List RP) (hok : ∀ r, r ∈ rs → r.ok) (hrl : rs.length < 2 ^ 31) (hl : b.length < 2 ^ 31) (id : Int) (H : Heap) :
  R (T k) F.ζ1h [tabRV b rs, .int .i64 id] H = .ok (.tuple #[.int .i64 ((refGetS b rs id).getD 0), .bool (refGetS b rs id).isSome]) H := by
 rw [ζeu]
 obtain ⟨B, hB⟩ : ∃ B : Blk, B = ⟨[lv encB b, lv encRP rs], 1, false⟩ := ⟨_, rfl⟩
 have hx0 : Ext H (H.push B) := (Ext.refl H).push _
 obtain ⟨x, e', H1, hr, hx, hq⟩ := loop_up (body := ζ5w k (R (T k))) rs.length
  (fun j e H' => e = [(1, .int .i64 id), (2, .pointer (some ⟨H.n, 0, none⟩)), (6, .int .i64 j)] ∧ Ext (H.push B) H' ∧ refGetS b rs id = refGetS b (rs.drop j) id)
  (fun x e H' => Ext H H' ∧ ((x = .ret ∧ ∃ n, e = [(4, .int .i64 n), (5, .bool true)] ∧ refGetS b rs id = some n) ∨ (x = .exit 0 ∧ (∃ a c, e = [(1, .int .i64 id), (2, .pointer (some ⟨H.n, 0, none⟩)), (6, a), (12, c)]) ∧ refGetS b rs id = none)))
  (e0 := [(1, .int .i64 id), (2, .pointer (some ⟨H.n, 0, none⟩)), (6, .int .i64 0)]) (H0 := H.push B) ⟨rfl, Ext.refl _, rfl⟩ (by omega)
  (fun j e H' hj ⟨he, hx, hg⟩ => by
   subst he
   have hlt : (j : Int) < rs.length := by omega
   obtain ⟨r, hr⟩ : ∃ r, rs[j]? = some r := ⟨_, List.getElem?_eq_getElem hj⟩
   have hrok := hok r (List.mem_of_getElem? hr)
   obtain ⟨o1, o2, o3, o4, o5, o6, o7, o8, o9, o10⟩ := hrok
   have i1 := fun H' => ixS_lvN ζ6e rs .i64 j r hr H'
   have hget : H'.get H.n = some ⟨[lv encB b, lv encRP rs], 1, false⟩ := hx.get (by rw [ζe _ _ _ rfl, hB])
   have hne : ¬ H.n = H'.n := by have := Heap.get_lt hget; omega
   have hx2 : Ext H' (H'.push ⟨encRP r, 1, false⟩) := (Ext.refl H').push _
   have hdrop : rs.drop j = r :: rs.drop (j + 1) := by
    obtain ⟨h1, h2⟩ := List.getElem?_eq_some_iff.1 hr
    rw [List.drop_eq_getElem_cons h1, h2]
   rw [hdrop] at hg
   unfold refGetS at hg
   rw [List.find?_cons] at hg
   by_cases h1 : r.first ≤ id
   ·by_cases h2 : id ≤ r.last
    ·rw [decide_eq_true (show r.first ≤ id ∧ id ≤ r.last from ⟨h1, h2⟩)] at hg
     dsimp only at hg
     have hm0 : 0 ≤ (id - r.first) * r.step := Int.mul_nonneg (by omega) o7
     have hm1 : (id - r.first) * r.step ≤ 65540 * 4 := Int.mul_le_mul (by omega) (by omega) (by omega) (by omega)
     have hu := fun H' => refU_run k (H := H') (Sl.lv H' 1 b) hb (r.pos + (id - r.first) * r.step) r.size (by omega) (by omega)
     refine .inr ⟨.ret, _, H'.push ⟨encRP r, 1, false⟩, ?_, by simp, hx0.trans (hx.trans hx2), .inl ⟨rfl, gU b (r.pos + (id - r.first) * r.step) r.size, rfl, hg⟩⟩
     rw [ζ2q]
     unfold gU
     simp -implicitDefEqProofs (disch := omega) [hlt, i1, hget, hne, h1, h2, hu]
    ·rw [decide_eq_false (fun h => h2 h.2)] at hg
     refine .inl ⟨_, H'.push ⟨encRP r, 1, false⟩, ?_, rfl, hx.trans hx2, hg⟩
     rw [ζ2q]
     simp -implicitDefEqProofs (disch := omega) [hlt, i1, hget, hne, h1, h2]
   ·rw [decide_eq_false (fun h => h1 h.1)] at hg
    refine .inl ⟨_, H'.push ⟨encRP r, 1, false⟩, ?_, rfl, hx.trans hx2, hg⟩
    rw [ζ2q]
    simp -implicitDefEqProofs (disch := omega) [hlt, i1, hget, hne, h1])
  (fun e H' ⟨he, hx, hg⟩ => by
   subst he
   have hget : H'.get H.n = some ⟨[lv encB b, lv encRP rs], 1, false⟩ := hx.get (by rw [ζe _ _ _ rfl, hB])
   refine ⟨.exit 0, _, H', ?_, by simp, hx0.trans hx, .inr ⟨rfl, ⟨.int .i64 rs.length, .bool false, rfl⟩, by rw [hg, List.drop_length]; rfl⟩⟩
   rw [ζ2q]
   simp -implicitDefEqProofs [hget])
 rw [hB] at hr
 rcases hq with ⟨rfl, n, rfl, hg⟩ | ⟨rfl, ⟨a, c, rfl⟩, hg⟩
 ·rw [hg]
  refine nrm_gc ⟨H1, ?_, hx⟩ (Flat.tupleL (.cons (.int _ _) (.cons (.bool _) .nil))).alive
  simp -implicitDefEqProofs [ζ1h, hr, ζbg]
 ·rw [hg]
  refine nrm_gc ⟨H1, ?_, hx⟩ (Flat.tupleL (.cons (.int _ _) (.cons (.bool _) .nil))).alive
  simp -implicitDefEqProofs [ζ1h, hr, ζal]
end Go.Sw
end
section
namespace Go.Sw
open Go.RowKit
theorem ζ1v {b rv : List Int} {j : Int} : restS b j = some rv ↔ (0 ≤ j ∧ j ≤ b.length) ∧ rv = b.drop j.toNat := by
 unfold restS
 split
 ·rename_i h
  exact ⟨fun e => by injection e with e; exact ⟨h, e.symm⟩, fun e => by rw [e.2]⟩
 ·rename_i h
  exact ⟨fun e => (by cases e), fun e => absurd e.1 h⟩
theorem ζ6q {b rv : List Int} {j : Int} (h : restS b j = some rv) : (rv.length : Int) = b.length - j := by
 obtain ⟨h1, rfl⟩ := ζ1v.1 h
 simp
 omega
theorem uS_rest {b rv : List Int} {j : Int} (h : restS b j = some rv) {x : Int} (hx : 0 ≤ x) (z : Int) : uS rv x z = uS b (j + x) z := by
 have hl := ζ6q h
 obtain ⟨h1, rfl⟩ := ζ1v.1 h
 unfold uS pieceS
 by_cases hc : 0 ≤ z ∧ x ≤ b.length - j ∧ z ≤ b.length - j - x
 ·rw [if_pos (by omega), if_pos (by omega), List.drop_drop, show j.toNat + x.toNat = (j + x).toNat by omega]
 ·rw [if_neg (by omega), if_neg (by omega)]
def needsS (b : List Int) (i step : Int) (n : Nat) : Int := needL ((List.range n).map fun j => gU b (i + (j : Nat) * step) 2)
theorem rowK_iff {rv : List Int} {n : Int} (hn : 0 < n) {k : Nat} : (rowK rv n k).isSome = true ↔ 2 * n * (k + 1) ≤ rv.length := by
 unfold rowK
 rw [ζ6k (by omega), ζ8q (by omega)]
 have h0 : 0 ≤ 2 * n * (k : Int) := Int.mul_nonneg (by omega) (by omega)
 have h1 : 2 * n * ((k : Int) + 1) = 2 * n * k + 2 * n := by rw [Int.mul_add]; omega
 constructor
 ·rintro ⟨_, _, _, h⟩; omega
 ·intro h; exact ⟨h0, by omega, by omega, by omega⟩
theorem row_at {b rv : List Int} {j : Int} (h : restS b j = some rv) {n : Int} {k : Nat} {r : List Int} (hn : 0 < n) (hr : rowK rv n k = some r) : r = (List.range n.toNat).map fun i => gU b (j + (n * k + (i : Nat)) * 2) 2 := by
 have hs := (rowK_iff (rv := rv) (k := k) hn).1 (by rw [hr]; rfl)
 have hr' := hr
 unfold rowK listS at hr'
 obtain ⟨q, hq, hqr⟩ := Option.map_eq_some_iff.1 hr'
 have hlen : r.length = n.toNat := by rw [← hqr]; simp
 have hk0 : 0 ≤ n * (k : Int) := Int.mul_nonneg (by omega) (by omega)
 apply List.ext_getElem?
 intro i
 by_cases hi : i < n.toNat
 ·rw [ζgp (by omega) hr i (by omega), List.getElem?_map, List.getElem?_range hi, uS_rest h (by rw [Int.mul_assoc]; omega)]
  have e : j + (2 * n * (k : Int) + (i : Int) * 2) = j + (n * k + (i : Nat)) * 2 := by rw [Int.mul_assoc, Int.add_mul]; omega
  rw [e]
  have hlen := ζ6q h
  have hj := (ζ1v.1 h).1
  have h1 : 2 * n * ((k : Int) + 1) = 2 * (n * k) + 2 * n := by rw [Int.mul_add, Int.mul_assoc]; omega
  obtain ⟨x, hx⟩ : ∃ x, uS b (j + (n * k + (i : Nat)) * 2) 2 = some x := uS_of_in (by unfold inS; exact decide_eq_true (by rw [Int.add_mul]; omega))
  rw [hx, Option.map_some, gU_some hx]
 ·rw [List.getElem?_eq_none (by omega), List.getElem?_eq_none (by simp; omega)]
theorem ζek {b rv : List Int} {j : Int} (h : restS b j = some rv) {n : Int} (hn : 0 < n) : ∀ {s : Nat} {rs : List (List Int)}, rowsTo rv n s = some rs → rs.flatten = (List.range (s * n.toNat)).map fun (i : Nat) => gU b (j + (i : Int) * 2) 2
 | 0, rs, hr => by injection hr with hr; subst hr; simp
 | s + 1, rs, hr => by
  unfold rowsTo at hr
  rw [ζ7x] at hr
  obtain ⟨rs', h1, hr⟩ := Option.bind_eq_some_iff.1 hr
  obtain ⟨r, h2, rfl⟩ := Option.map_eq_some_iff.1 hr
  rw [List.flatten_append, ζek h hn h1, Nat.succ_mul, List.range_add, List.map_append]
  congr 1
  simp only [List.flatten_cons, List.flatten_nil, List.append_nil, row_at h hn h2, List.map_map]
  apply List.map_congr_left
  intro i _
  simp only [Function.comp]
  congr 2
  have : ((s * n.toNat + i : Nat) : Int) = n * s + i := by
   obtain ⟨m, rfl⟩ := Int.eq_ofNat_of_zero_le (Int.le_of_lt hn)
   simp [Int.mul_comm]
  rw [this]
theorem ζlq {b rv : List Int} {j : Int} (h : restS b j = some rv) {n : Int} (hn : 0 < n) {s : Nat} {rs : List (List Int)} (hr : rowsTo rv n s = some rs) : needsS b j 2 (s * n.toNat) = needR rs := by
 unfold needsS needR
 rw [ζek h hn hr]
theorem ζlr {b rv : List Int} {j : Int} (h : restS b j = some rv) {n : Int} (hn : 0 < n) {s : Nat} (hs : 0 < s) : (rowsTo rv n s).isSome = rowsB b.length j s (2 * n) := by
 have hl := ζ6q h
 have hj := (ζ1v.1 h).1
 rw [Bool.eq_iff_iff, ζ8q (by omega)]
 have e : (s : Int) * (2 * n) = 2 * n * s := Int.mul_comm _ _
 constructor
 ·intro hsome
  obtain ⟨rs, hrs⟩ := Option.isSome_iff_exists.1 hsome
  obtain ⟨y, hy, _⟩ := mapO_at hrs (i := s - 1) (by omega)
  have := (rowK_iff (rv := rv) (k := s - 1) hn).1 (by rw [hy]; rfl)
  rw [show (((s - 1 : Nat) : Int) + 1) = s by omega] at this
  exact ⟨hj.1, by omega, hj.2, by omega⟩
 ·rintro ⟨_, _, _, h4⟩
  obtain ⟨r, hr⟩ := ζ9i (f := rowK rv n) (n := s) fun i hi => by
   rw [rowK_iff hn]
   have : 2 * n * ((i : Int) + 1) ≤ 2 * n * s := Int.mul_le_mul_of_nonneg_left (by omega) (by omega)
   omega
  exact Option.isSome_iff_exists.2 ⟨r, hr⟩
theorem entK_iff {ev : List Int} {w : Int} (hw : 0 ≤ w) {k : Nat} : (entK ev w k).isSome = true ↔ (4 + 2 * w) * (k + 1) ≤ ev.length := by
 unfold entK
 rw [Option.isSome_map, ζdj]
 unfold inS
 rw [decide_eq_true_eq]
 have h0 : 0 ≤ (4 + 2 * w) * (k : Int) := Int.mul_nonneg (by omega) (by omega)
 have h1 : (4 + 2 * w) * ((k : Int) + 1) = (4 + 2 * w) * k + (4 + 2 * w) := by rw [Int.mul_add]; omega
 omega
theorem ζl6 {b ev : List Int} {q : Int} (h : restS b q = some ev) {w : Int} (hw : 0 ≤ w) (s : Nat) : (entsTo ev w s).isSome = rowsB b.length q s (4 + 2 * w) := by
 have hl := ζ6q h
 have hj := (ζ1v.1 h).1
 rw [Bool.eq_iff_iff, ζ8q (by omega)]
 have e : (s : Int) * (4 + 2 * w) = (4 + 2 * w) * s := Int.mul_comm _ _
 constructor
 ·intro hsome
  obtain ⟨rs, hrs⟩ := Option.isSome_iff_exists.1 hsome
  refine ⟨hj.1, by omega, hj.2, ?_⟩
  by_cases h0 : s = 0
  ·subst h0; simp; omega
  ·obtain ⟨y, hy, _⟩ := mapO_at hrs (i := s - 1) (by omega)
   have := (entK_iff (ev := ev) (k := s - 1) hw).1 (by rw [hy]; rfl)
   rw [show (((s - 1 : Nat) : Int) + 1) = s by omega] at this
   omega
 ·rintro ⟨_, _, _, h4⟩
  obtain ⟨r, hr⟩ := ζ9i (f := entK ev w) (n := s) fun i hi => by
   rw [entK_iff hw]
   have : (4 + 2 * w) * ((i : Int) + 1) ≤ (4 + 2 * w) * s := Int.mul_le_mul_of_nonneg_left (by omega) (by omega)
   omega
  exact Option.isSome_iff_exists.2 ⟨r, hr⟩
theorem ent_at {b ev : List Int} {q : Int} (h : restS b q = some ev) {w : Int} (hw : 0 ≤ w ∧ w ≤ 2) {k : Nat} {e : En} (he : entK ev w k = some e) :
  e = ⟨gU b (q + (k : Int) * (4 + 2 * w)) 2, gU b (q + (k : Int) * (4 + 2 * w) + 2) 2, if 0 < w then gU b (q + (k : Int) * (4 + 2 * w) + 4) 2 else 0, if 1 < w then gU b (q + (k : Int) * (4 + 2 * w) + 6) 2 else 0⟩ := by
 unfold entK at he
 obtain ⟨r, hr, rfl⟩ := Option.map_eq_some_iff.1 he
 have h0 : 0 ≤ (4 + 2 * w) * (k : Int) := Int.mul_nonneg (by omega) (by omega)
 have sub : ∀ x, 0 ≤ x → x + 2 ≤ 4 + 2 * w → gU r x 2 = gU b (q + (k : Int) * (4 + 2 * w) + x) 2 := fun x hx hx2 => by
  unfold gU
  rw [uS_sub hr hx (by omega) hx2, uS_rest h (by omega), Int.mul_comm (k : Int), Int.add_assoc]
 have s0 := sub 0 (by omega) (by omega)
 rw [Int.add_zero] at s0
 unfold entOf
 rw [s0, sub 2 (by omega) (by omega)]
 congr 1
 ·by_cases h1 : 0 < w
  ·rw [if_pos h1, if_pos h1, sub 4 (by omega) (by omega)]
  ·rw [if_neg h1, if_neg h1]
 ·by_cases h1 : 1 < w
  ·rw [if_pos h1, if_pos h1, sub 6 (by omega) (by omega)]
  ·rw [if_neg h1, if_neg h1]
theorem ζl5 {b ev : List Int} {q : Int} (h : restS b q = some ev) {w : Int} (hw : 0 ≤ w ∧ w ≤ 2) {s : Nat} {es : List En} (hr : entsTo ev w s = some es) : needsS b q (4 + 2 * w) s = needL (es.map En.next) := by
 unfold needsS
 congr 1
 apply List.ext_getElem?
 intro i
 have hl := mapO_len hr
 rw [List.length_range] at hl
 by_cases hi : i < s
 ·obtain ⟨y, h1, h2⟩ := mapO_at hr hi
  rw [List.getElem?_map, List.getElem?_map, List.getElem?_range hi, h2, Option.map_some, Option.map_some, ent_at h hw h1]
 ·rw [List.getElem?_eq_none (by simp; omega), List.getElem?_eq_none (by simp; omega)]
theorem ζli {rv : List Int} {n : Int} {s t : Nat} (hst : s ≤ t) {rs rt : List (List Int)} (h1 : rowsTo rv n s = some rs) (h2 : rowsTo rv n t = some rt) : needR rs ≤ needR rt := by
 have h3 := ζaa hst h2
 have h4 : mapO (rowK rv n) (List.range s) = some rs := h1
 rw [h4] at h3
 injection h3 with h3
 rw [h3]
 have := List.take_append_drop s rt
 conv => rhs; rw [← this]
 unfold needR
 rw [List.flatten_append, ζ4v]
 omega
structure RMach where
 b : List Int
 cl : Int
 rowsAt : Int
 entsAt : Int
 states : Int
 n : Int
 words : Int
 tb : List Int
 parts : List RP
def rmOf (b : List Int) (g w : Int) (m : Mach) : RMach :=
 ⟨b, m.classes, gU b 8 4, gU b 12 4, m.rows.length, m.ents.length, w, b.drop (gU b 4 4).toNat, (refReadS (b.drop (gU b 4 4).toNat) g 2).getD []⟩
def refMachS (b : List Int) (g w : Int) : Option RMach := (machS b g w).map (rmOf b g w)
theorem ζcj {b : List Int} {g w : Int} {m : Mach} (h : machS b g w = some m) : ∃ i j q tb rv ev x, uS b 0 4 = some m.classes ∧ 4 ≤ m.classes ∧ m.classes ≤ 65535 ∧ uS b 4 4 = some i ∧ restS b i = some tb ∧ lookS tb g 2 = some m.tab ∧
  uS b 8 4 = some j ∧ restS b j = some rv ∧ uS b 12 4 = some q ∧ restS b q = some ev ∧ closeA rv ev m.classes w 2 = some x ∧ m.rows = x.1 ∧ m.ents = x.2 := by
 unfold machS at h
 obtain ⟨n, h0, h⟩ := Option.bind_eq_some_iff.1 h
 split at h
 rotate_left
 ·cases h
 rename_i hn
 obtain ⟨i, h1, h⟩ := Option.bind_eq_some_iff.1 h
 obtain ⟨tb, h2, h⟩ := Option.bind_eq_some_iff.1 h
 obtain ⟨tab, h3, h⟩ := Option.bind_eq_some_iff.1 h
 obtain ⟨j, h4, h⟩ := Option.bind_eq_some_iff.1 h
 obtain ⟨rv, h5, h⟩ := Option.bind_eq_some_iff.1 h
 obtain ⟨k, h6, h⟩ := Option.bind_eq_some_iff.1 h
 obtain ⟨ev, h7, h⟩ := Option.bind_eq_some_iff.1 h
 obtain ⟨x, h8, rfl⟩ := Option.map_eq_some_iff.1 h
 exact ⟨i, j, k, tb, rv, ev, x, h0, hn.1, hn.2, h1, h2, h3, h4, h5, h6, h7, h8, rfl, rfl⟩
end Go.Sw
end
section
namespace Go.Sw
open Go.RowKit
theorem twos_get (l : List Int) (pre rest : List Int) (i : Nat) (x : Int) (hx : l[i]? = some x) (hb : 0 ≤ x ∧ x < 65536) (p : Int) (hp : p = pre.length + 2 * i) : uS (pre ++ (twos l ++ rest)) p 2 = some x := by
 obtain ⟨hi, hg⟩ := List.getElem?_eq_some_iff.1 hx
 have e : twos l = twos (l.take i) ++ (bytesOf x 2 ++ twos (l.drop (i + 1))) := by
  have : l = l.take i ++ ([x] ++ l.drop (i + 1)) := by
   rw [← hg, List.singleton_append, ← List.drop_eq_getElem_cons hi, List.take_append_drop]
  conv => lhs; rw [this]
  simp [twos]
 rw [e, ← List.append_assoc]
 have h := uS_at (pre ++ twos (l.take i)) (twos (l.drop (i + 1)) ++ rest) (n := x) (k := 2) p 2 (by rw [List.length_append, twos_len, List.length_take]; omega) rfl hb.1 (by simpa using hb.2)
 simpa [List.append_assoc] using h
def planRoom (p : Plan) (w : Int) (rm : List Int) : List Int :=
 bytesOf (planN p : Int) 4 ++ (bytesOf (16 + rm.length : Int) 4 ++ (bytesOf (16 + rm.length + (ofS p.cls).length : Int) 4 ++ (bytesOf (16 + rm.length + (ofS p.cls).length + (rowsL (planN p) p.rows).length : Int) 4 ++ (rm ++ (ofS p.cls ++ (rowsL (planN p) p.rows ++ entsB w p.ents))))))
theorem ζgw (p : Plan) (w : Int) (room : Nat) : planBytes p w room = planRoom p w (List.replicate room 0) := by
 unfold planBytes planRoom
 simp [List.append_assoc]
def tabOf (cls : List Int) : Int × List Pt := (8, if cls = [] then [] else [⟨0, (cls.length : Int) - 1, cls⟩])
theorem ζnl (l : List Int) (pre rest : List Int) (hb : ∀ x, x ∈ l → 0 ≤ x ∧ x < 65536) (i : Int) (hi : i = pre.length) : listS (pre ++ (twos l ++ rest)) i l.length 2 = some l := by
 have hs : (listS (pre ++ (twos l ++ rest)) i l.length 2).isSome = true := by
  rw [ζ6k (by omega), ζ8q (by omega)]
  simp [twos_len]
  omega
 obtain ⟨vs, hv⟩ := Option.isSome_iff_exists.1 hs
 rw [hv]
 congr 1
 have hlen : vs.length = l.length := by
  unfold listS at hv
  obtain ⟨r, _, rfl⟩ := Option.map_eq_some_iff.1 hv
  simp
 apply List.ext_getElem?
 intro j
 by_cases hj : j < l.length
 ·obtain ⟨x, hx⟩ : ∃ x, l[j]? = some x := ⟨_, List.getElem?_eq_getElem hj⟩
  rw [ζgp (by omega) hv j (by omega), hx]
  exact twos_get l pre rest j x hx (hb x (List.mem_of_getElem? hx)) _ (by omega)
 ·rw [List.getElem?_eq_none (by omega), List.getElem?_eq_none (by omega)]
theorem look_ofS (cls : List Int) (hb : ∀ x, x ∈ cls → 0 ≤ x ∧ x < 65536) (hl : cls.length ≤ 65535) (rest : List Int) (g : Int) : lookS (ofS cls ++ rest) g 2 = some (tabOf cls) := by
 have h0 : uS (ofS cls ++ rest) 0 2 = some 8 := by
  have := uS_at [] (bytesOf 0 2 ++ (bytesOf cls.length 2 ++ (twos cls ++ rest))) (n := 8) (k := 2) 0 2 rfl rfl (by omega) (by decide)
  simpa [ofS, List.append_assoc] using this
 have h2 : uS (ofS cls ++ rest) 2 2 = some 0 := by
  have := uS_at (bytesOf 8 2) (bytesOf cls.length 2 ++ (twos cls ++ rest)) (n := 0) (k := 2) 2 2 (by simp) rfl (by omega) (by decide)
  simpa [ofS, List.append_assoc] using this
 have h4 : uS (ofS cls ++ rest) (2 + 2) 2 = some (cls.length : Int) := by
  have := uS_at (bytesOf 8 2 ++ bytesOf 0 2) (twos cls ++ rest) (n := cls.length) (k := 2) (2 + 2) 2 (by simp) rfl (by omega) (by simp; omega)
  simpa [ofS, List.append_assoc] using this
 have h6 : listS (ofS cls ++ rest) (2 + 4) cls.length 2 = some cls := by
  have := ζnl cls (bytesOf 8 2 ++ bytesOf 0 2 ++ bytesOf cls.length 2) rest hb (2 + 4) (by simp)
  simpa [ofS, List.append_assoc] using this
 unfold lookS partsS
 rw [h0, Option.bind_some]
 simp only [show ¬ ((8 : Int) = 0) by decide, show ¬ ((8 : Int) = 2) by decide, show ¬ ((8 : Int) = 4) by decide, show ¬ ((8 : Int) = 6) by decide, if_false, if_true]
 unfold trimS
 rw [h2, Option.bind_some, h4, Option.bind_some, if_pos (by omega), h6, Option.map_some, Option.bind_some]
 unfold tabOf
 by_cases hc : cls = []
 ·subst hc; rfl
 ·rw [if_neg hc, if_neg (show ¬ ((cls.length : Int) = 0) by have := List.length_pos_iff.2 hc; omega)]
  simp [risesS]
end Go.Sw
end
section
namespace Go.Sw
open Go.RowKit
theorem ζi8 (sb : List Int) (g : Int) (n : Nat) : subsS sb g (n + 1) = (subsS sb g n).bind fun l => (subS sb g n).map fun x => l ++ [x] := by
 unfold subsS
 rw [List.range_succ, ζa9]
 cases mapO (subS sb g) (List.range n) with
 | none => rfl
 | some l =>
  simp only [Option.bind_some]
  cases h : subS sb g n with
  | none => simp [mapO, h]
  | some x => simp [mapO, h]
theorem ζca {sb : List Int} {g : Int} {n : Nat} {l} (h : subsS sb g n = some l) : l.length = n := by
 have := mapO_len h
 simpa using this
set_option maxHeartbeats 1000000 in
theorem ctx_l3 (k : Nat) (sb : List Int) (hb : Byt sb) (hl : sb.length < 2 ^ 31) (g : Int) (hg : 1 ≤ g ∧ g ≤ 65535) (m : Mach) (N : Nat) (hN : N ≤ 65536) {H0 H : Heap} (q p6 : Nat)
  (st : Star H0 H [itBlk q ⟨[machV m, .slice none 0 0], 1, false⟩, itBlk p6 ⟨[lv encB sb], 1, false⟩, itRow none 1 (.slice none 0 0) encT []]) :
  (∃ subs z s o H', subsS sb g N = some subs ∧ loopN (ζ7q k (R (T k))) loopFuel [(1, .int .i64 g), (5, ptrV q), (6, ptrV p6), (50, .int .i64 N), (51, .int .i64 0)] H = .ok (.exit 4, [(1, .int .i64 g), (5, ptrV q), (6, ptrV p6), (50, .int .i64 N), (51, z), (52, .bool false)]) H' ∧
   Star H0 H' [itBlk q ⟨[machV m, s], 1, false⟩, itBlk p6 ⟨[lv encB sb], 1, false⟩, itRow o 1 s encT subs]) ∨
  (∃ H', subsS sb g N = none ∧ loopN (ζ7q k (R (T k))) loopFuel [(1, .int .i64 g), (5, ptrV q), (6, ptrV p6), (50, .int .i64 N), (51, .int .i64 0)] H = .panic failV H' ∧ Ext H0 H') := by
 have hU := fun (j : Int) H' => U32_run k (Sl.lv H' 1 sb) hb j (by omega)
 have hR := fun j hj H' => Rest_lv k sb j (by omega) hj H'
 have hT := fun tb htb hl H' => ζea k (Sl.lv H' 1 tb) htb g 2 hg.1 hg.2 (.inl rfl) hl
 have hvb := veq_B sb
 have prefixNone : ∀ j, j < N → subsS sb g (j + 1) = none → subsS sb g N = none := fun j hj h => by
  cases hn : subsS sb g N with
  | none => rfl
  | some l =>
   have := ζaa (show j + 1 ≤ N by omega) hn
   unfold subsS at h
   rw [this] at h
   cases h
 rcases loop_upP (body := ζ7q k (R (T k))) N
  (fun j e H' => e = [(1, .int .i64 g), (5, ptrV q), (6, ptrV p6), (50, .int .i64 N), (51, .int .i64 j)] ∧ ∃ l s o, subsS sb g j = some l ∧ Star H0 H' [itBlk q ⟨[machV m, s], 1, false⟩, itBlk p6 ⟨[lv encB sb], 1, false⟩, itRow o 1 s encT l])
  (fun x e H' => x = .exit 4 ∧ e = [(1, .int .i64 g), (5, ptrV q), (6, ptrV p6), (50, .int .i64 N), (51, .int .i64 N), (52, .bool false)] ∧ ∃ l s o, subsS sb g N = some l ∧ Star H0 H' [itBlk q ⟨[machV m, s], 1, false⟩, itBlk p6 ⟨[lv encB sb], 1, false⟩, itRow o 1 s encT l])
  (fun v H' => v = failV ∧ Ext H0 H' ∧ subsS sb g N = none)
  (fun j e H' hj ⟨he, l, s, o, hls, st⟩ => by
   subst he
   have hlt : (j : Int) < N := by omega
   have hq := st.get 0 rfl
   have h6 := st.get 1 rfl
   have hvs := (st.row 2 rfl).veq
   have hlen := ζca hls
   have hsucc := ζi8 sb g j
   rw [hls, Option.bind_some] at hsucc
   have hu := fun H' => hU (4 * (j : Int)) H'
   cases e1 : uS sb (4 * (j : Int)) 4 with
   | none =>
    have hno : subsS sb g (j + 1) = none := by rw [hsucc]; unfold subS; rw [e1]; rfl
    simp only [e1] at hu
    refine .inr (.inr ⟨failV, H', ?_, rfl, st.ext, prefixNone j hj hno⟩)
    rw [ζ44]
    simp -implicitDefEqProofs (disch := omega) [hlt, hq, h6, hu, orF]
   | some p =>
    simp only [e1, ζgu] at hu
    have hp := uS_four hb e1
    have hr := fun H' => hR p (by omega) H'
    cases e2 : restS sb p with
    | none =>
     have hno : subsS sb g (j + 1) = none := by rw [hsucc]; unfold subS; rw [e1, Option.bind_some, e2]; rfl
     simp only [e2] at hr
     refine .inr (.inr ⟨failV, H', ?_, rfl, st.ext, prefixNone j hj hno⟩)
     rw [ζ44]
     simp -implicitDefEqProofs (disch := omega) [hlt, hq, h6, hu, hr, hvs, hvb, orF]
    | some tb =>
     simp only [e2, ζgu] at hr
     have htl := ζ56 e2
     have ht := fun H' => hT tb (hb.rest e2) (by omega) H'
     cases e3 : lookS tb g 2 with
     | none =>
      have hno : subsS sb g (j + 1) = none := by rw [hsucc]; unfold subS; rw [e1, Option.bind_some, e2, Option.bind_some, e3]; rfl
      simp only [e3] at ht
      refine .inr (.inr ⟨failV, H', ?_, rfl, st.ext, prefixNone j hj hno⟩)
      rw [ζ44]
      simp -implicitDefEqProofs (disch := omega) [hlt, hq, h6, hu, hr, ht, hvs, hvb, orF]
     | some x =>
      simp only [e3, ζgu] at ht
      have hyes : subsS sb g (j + 1) = some (l ++ [x]) := by rw [hsucc]; unfold subS; rw [e1, Option.bind_some, e2, Option.bind_some, e3]; rfl
      obtain ⟨s', o', H2, f2, st3⟩ := st.append1 (bytes := 8) 2 encT_len rfl x (by omega) (by decide)
      have hqn : ¬ q = H'.n := by have := Heap.get_lt hq; omega
      simp only [List.set_cons_zero, List.set_cons_succ] at st3
      obtain ⟨H3, f3, st4, _⟩ := st3.stCell 0 rfl 1 (st3.row 2 rfl).storable (st3.row 2 rfl).cells (by simp)
      simp only [List.set_cons_zero, List.set_cons_succ] at st4
      refine .inl ⟨_, H3, ?_, rfl, l ++ [x], s', o', hyes, st4⟩
      rw [ζ44]
      simp only [encT] at f2
      simp -implicitDefEqProofs (disch := omega) [-stR_ptr, hlt, hq, h6, hu, hr, ht, hvs, hvb, hqn, f2, f3])
  (fun e H' ⟨he, l, s, o, hls, st⟩ => by
   subst he
   refine .inl ⟨.exit 4, _, H', ?_, by simp, rfl, rfl, l, s, o, hls, st⟩
   rw [ζ44]
   simp -implicitDefEqProofs) loopFuel 0 [(1, .int .i64 g), (5, ptrV q), (6, ptrV p6), (50, .int .i64 N), (51, .int .i64 0)] H (by omega) (by unfold loopFuel; omega) ⟨rfl, [], .slice none 0 0, none, rfl, st⟩ with ⟨x, e', H1, hr1, rfl, rfl, l, s, o, hls, st⟩ | ⟨v, H1, hr1, rfl, hx, hno⟩
 ·exact .inl ⟨l, _, s, o, H1, hls, hr1, st⟩
 ·exact .inr ⟨H1, hno, hr1, hx⟩
end Go.Sw
end
section
namespace Go.Sw
open Go.RowKit
set_option maxHeartbeats 1000000 in
theorem ζk2 (k : Nat) (hk : k < 1000000) (b : List Int) (hb : Byt b) (g : Int) (hg : 1 ≤ g ∧ g ≤ 65535) (hl : b.length < 2 ^ 31) (H : Heap) : R (T k) F.ctx_Take [vwB b, .int .i64 g] H = orF (ctxS b g) ctxV H := by
 rw [ζl2]
 have hx : Ext H (H.push ⟨[lv encB b], 1, false⟩) := (Ext.refl H).push _
 have hvb : veq (vwB b) (vwB b) = true := veq_agg (l := [lv encB b]) fun u hu => by simp at hu; subst hu; exact veq_B b
 refine fz_orF ?_ fun _ _ => (Flat.ctx _).alive
 unfold ctxS
 simp -implicitDefEqProofs (disch := omega) [ctx_Take]
 refine Cp.call (ζi6 k (Sl.lv _ 1 b) hb g 2 hg.1 hg.2 (.inr (.inr rfl)) hl) hx fun m hm => ?_
 have hok := machS_ok hb hg.1 hg.2 (by omega) hm
 have hx2 : Ext H ((H.push ⟨[lv encB b], 1, false⟩).push ⟨[machV m, .slice none 0 0], 1, false⟩) := hx.push _
 simp -implicitDefEqProofs (disch := omega)
 refine Cp.callT (U32_run k (Sl.lv _ 1 b) hb 16 (by omega)) (fun _ => ⟨_, by simp -implicitDefEqProofs (disch := omega), hx2⟩) fun p hp => ?_
 have hp := uS_four hb hp
 simp -implicitDefEqProofs (disch := omega)
 refine Cp.callT (Rest_lv k b p (by omega) (by omega) _) (fun _ => ⟨_, by simp -implicitDefEqProofs (disch := omega) [hvb], hx2⟩) fun sb hsb => ?_
 have lsb := ζ56 hsb
 have hent := fun H' => ζjt k hk m hok.elen H'
 have hx3 : Ext H (((H.push ⟨[lv encB b], 1, false⟩).push ⟨[machV m, .slice none 0 0], 1, false⟩).push ⟨[lv encB sb], 1, false⟩) := hx2.push _
 have hes : ∀ e, e ∈ m.ents → 0 ≤ e.a ∧ e.a < 65536 ∧ 0 ≤ e.b ∧ e.b < 65536 := fun e he => by have := hok.ent e he; omega
 obtain ⟨z, H1, l1, hx1⟩ := ctx_l1 k m.ents hes hok.elen (.int .i64 g) (ptrV (H.n + 1)) (ptrV (H.n + 2)) (((H.push ⟨[lv encB b], 1, false⟩).push ⟨[machV m, .slice none 0 0], 1, false⟩).push ⟨[lv encB sb], 1, false⟩)
 have mb := ζa8 hes
 obtain ⟨N, hN⟩ : ∃ N, N = (manyS m.ents).toNat := ⟨_, rfl⟩
 have hNi : manyS m.ents = (N : Int) := by omega
 rw [hNi] at l1
 rw [← hN]
 have st := (((Star.nil H).rest hx).push ⟨[machV m, .slice none 0 0], 1, false⟩).push ⟨[lv encB sb], 1, false⟩
 have st := (st.rest hx1).more_row (Ext.refl _) (OwnO.nil encT _ 1) (fun b hb => by cases hb)
 simp only [List.nil_append, List.cons_append, hn_push] at st
 simp -implicitDefEqProofs (disch := omega) [hvb, hent, l1, ζf5]
 rcases ctx_l3 k sb (hb.rest hsb) (by omega) g hg m N (by omega) _ _ st with ⟨subs, z3, s, o, H2, hsub, l3, st3⟩ | ⟨H2, hsub, l3, hx4⟩
 ·rw [hsub]
  have hlast := st3.get 0 rfl
  simp -implicitDefEqProofs (disch := omega) [l3, ζf7]
  refine .ok st3.ext ?_
  obtain ⟨L, hf⟩ := (st3.own 2 rfl).freeze encT_len (fun n _ v hv => by simp at hv; subst hv; exact trivial) 5
  exact ⟨_, fz_box (by omega) hlast (ζ1e (v := machV m) (u := machV m) (L1 := []) rfl (ζ1e hf rfl))⟩
 ·rw [hsub]
  simp -implicitDefEqProofs (disch := omega) [l3]
  exact ⟨H2, rfl, hx4⟩
end Go.Sw
end
section
set_option maxRecDepth 100000
set_option linter.unusedVariables false
namespace Go.Sw
noncomputable section
def ζb6 (k : Nat) (call : Caller) : Env → Heap → Res (AExit × Env) := loopB (C k) call F.ζ45 [1, 1, 1, 0, 0, 0]
def ζ7b (k : Nat) (call : Caller) : Kont Value := kBlock 0 (kSeq (pieceK (C k) call F.ζ45 [1, 1, 1, 1]) (kDone Prog (resOf Prog F.ζ45)))
def ζ45 (k : Nat) (call : Caller) (a0 a1 a2 : Value) (h : Heap) : Res Value :=
 (buildR Prog 281 [(0, a0), (1, a1)] h).bind fun v1 h2 =>
 (boxR v1 h2).bind fun v3 h4 =>
 (call F.ζ32 [a1] h4).bind fun v5 h6 =>
 (binR Prog .mul 3 (.int .i64 2) v5 h6).bind fun v7 h8 =>
 (binR Prog .add 3 v7 (.int .i64 128) h8).bind fun v9 h10 =>
 (loopN (ζb6 k call) loopFuel [(2, a2), (8, v3), (9, v9)] h10).bind fun r11 h12 =>
 ζ7b k call r11.1 r11.2 h12
theorem ζk4 (k : Nat) (a0 a1 a2 : Value) (h : Heap) : R (T k) F.ζ45 [a0, a1, a2] h = nrm .no h (ζ45 k (R (T k)) a0 a1 a2 h) :=
 (R_body (t := T k) (T_scott k) (by kernel_rfl) (by kernel_rfl) _ _).trans (by kernel_rfl)
theorem ζ55 (k : Nat) (call : Caller) (a2 a8 a9 : Value) (h : Heap) : ζb6 k call [(2, a2), (8, a8), (9, a9)] h =
 (nilR a8 h).bind fun v13 h14 =>
 (fieldAddrR Prog 281 v13 4 h14).bind fun v15 h16 =>
 (loadR Prog 3 v15 h16).bind fun v17 h18 =>
 (binR Prog .lss 3 v17 a9 h18).bind fun v19 h20 =>
 condV (some v19) (
 (call F.ζ1s [a8, a2] h20).bind fun v21 h22 =>
 condV (some v21) (
 (nilR a8 h22).bind fun v23 h24 =>
 (fieldAddrR Prog 281 v23 4 h24).bind fun v25 h26 =>
 (loadR Prog 3 v25 h26).bind fun v27 h28 =>
 .ok (.ret, [(6, v27), (7, (.int .i64 0))]) h28)
 (
 (nilR a8 h22).bind fun v29 h30 =>
 (fieldAddrR Prog 281 v29 5 h30).bind fun v31 h32 =>
 (loadR Prog 3 v31 h32).bind fun v33 h34 =>
 (binR Prog .gtr 3 v33 (.int .i64 64) h34).bind fun v35 h36 =>
 condV (some v35) (
 .ok ((.exit 0), [(2, a2), (8, a8), (9, a9), (35, v35)]) h36)
 (
 .ok (.normal, [(2, a2), (8, a8), (9, a9)]) h36)))
 (
 .ok ((.exit 0), [(2, a2), (8, a8), (9, a9), (23, v19)]) h20) :=
 (loopB_eq _ _).trans (by kernel_rfl)
theorem ζf8 (k : Nat) (call : Caller) (a6 a7 : Value) (h : Heap) : ζ7b k call .ret [(6, a6), (7, a7)] h =
 .ok (.tuple #[a6, a7]) h := by kernel_rfl
theorem ζe0 (k : Nat) (call : Caller) (a2 a8 a9 a35 : Value) (h : Heap) : ζ7b k call (.exit 0) [(2, a2), (8, a8), (9, a9), (35, a35)] h =
 (nilR a8 h).bind fun v37 h38 =>
 (fieldAddrR Prog 281 v37 4 h38).bind fun v39 h40 =>
 (loadR Prog 3 v39 h40).bind fun v41 h42 =>
 .ok (.tuple #[v41, (.int .i64 4)]) h42 := by kernel_rfl
theorem ζcd (k : Nat) (call : Caller) (a2 a8 a9 a23 : Value) (h : Heap) : ζ7b k call (.exit 0) [(2, a2), (8, a8), (9, a9), (23, a23)] h =
 (nilR a8 h).bind fun v43 h44 =>
 (fieldAddrR Prog 281 v43 4 h44).bind fun v45 h46 =>
 (loadR Prog 3 v45 h46).bind fun v47 h48 =>
 .ok (.tuple #[v47, (.int .i64 4)]) h48 := by kernel_rfl
def ζ4s (k : Nat) (call : Caller) (a0 : Value) (h : Heap) : Res Value :=
 (boxR a0 h).bind fun v1 h2 =>
 .ok (.func (.func F.ζ1l) #[] #[v1]) h2
theorem ζh7 (k : Nat) (a0 : Value) (h : Heap) : R (T k) F.ζ4s [a0] h = nrm .gc h (ζ4s k (R (T k)) a0 h) :=
 (R_body (t := T k) (T_scott k) (by kernel_rfl) (by kernel_rfl) _ _).trans (by kernel_rfl)
def ζ1s (k : Nat) (call : Caller) (a0 a1 : Value) (h : Heap) : Res Value :=
 (call F.ζ1k [a0] h).bind fun v1 h2 =>
 (extractR v1 0 h2).bind fun v3 h4 =>
 (extractR v1 1 h4).bind fun v5 h6 =>
 (nilR a0 h6).bindN fun v7 h8 =>
 (fieldAddrR Prog 281 v7 0 h8).bindN fun v9 h10 =>
 (loadR Prog 133 v9 h10).bindN fun v11 h12 =>
 (nilR a0 h12).bindN fun v13 h14 =>
 (fieldAddrR Prog 281 v13 2 h14).bindN fun v15 h16 =>
 (loadR Prog 3 v15 h16).bindN fun v17 h18 =>
 (call F.ζs [v11, v17, v3] h18).bindT (fun p21 h22 => (allocR Prog 150 h18).bindN fun v23 h24 => .panic p21 h22) fun v19 h20 =>
 (extractR v19 0 h20).bindN fun v25 h26 =>
 (extractR v19 1 h26).bindN fun v27 h28 =>
 (allocR Prog 150 h28).bindN fun v29 h30 =>
 (storeR Prog 150 v29 v25 h30).bindN fun _v31 h32 =>
 (nilR a0 h32).bind fun v33 h34 =>
 (fieldAddrR Prog 281 v33 4 h34).bind fun v35 h36 =>
 (loadR Prog 3 v35 h36).bind fun v37 h38 =>
 (binR Prog .add 3 v37 (.int .i64 1) h38).bind fun v39 h40 =>
 (nilR a0 h40).bind fun v41 h42 =>
 (fieldAddrR Prog 281 v41 4 h42).bind fun v43 h44 =>
 (storeR Prog 3 v43 v39 h44).bind fun _v45 h46 =>
 (fieldAddrR Prog 150 v29 0 h46).bind fun v47 h48 =>
 (loadR Prog 3 v47 h48).bind fun v49 h50 =>
 (nilR a0 h50).bind fun v51 h52 =>
 (fieldAddrR Prog 281 v51 2 h52).bind fun v53 h54 =>
 (storeR Prog 3 v53 v49 h54).bind fun _v55 h56 =>
 (nilR a0 h56).bindN fun v57 h58 =>
 (fieldAddrR Prog 281 v57 3 h58).bindN fun v59 h60 =>
 (loadR Prog 3 v59 h60).bindN fun v61 h62 =>
 (loadR Prog 150 v29 h62).bindN fun v63 h64 =>
 (callV call a1 [v61, v63] h64).bindT (fun p67 h68 => .panic p67 h68) fun v65 h66 =>
 (extractR v65 0 h66).bindN fun v69 h70 =>
 (extractR v65 1 h70).bindN fun v71 h72 =>
 (fieldAddrR Prog 150 v29 1 h72).bind fun v73 h74 =>
 (loadR Prog 3 v73 h74).bind fun v75 h76 =>
 (binR Prog .and 3 v75 (.int .i64 16384) h76).bind fun v77 h78 =>
 (binR Prog .neq 3 v77 (.int .i64 0) h78).bind fun v79 h80 =>
 condV (some v79) (
 (builtinV Prog .max [3, 3] [v69, (.int .i64 0)] h80).bind fun v81 h82 =>
 (nilR a0 h82).bind fun v83 h84 =>
 (fieldAddrR Prog 281 v83 3 h84).bind fun v85 h86 =>
 (storeR Prog 3 v85 v81 h86).bind fun _v87 h88 =>
 (nilR a0 h88).bind fun v89 h90 =>
 (fieldAddrR Prog 281 v89 5 h90).bind fun v91 h92 =>
 (loadR Prog 3 v91 h92).bind fun v93 h94 =>
 (binR Prog .add 3 v93 (.int .i64 1) h94).bind fun v95 h96 =>
 (nilR a0 h96).bind fun v97 h98 =>
 (fieldAddrR Prog 281 v97 5 h98).bind fun v99 h100 =>
 (storeR Prog 3 v99 v95 h100).bind fun _v101 h102 =>
 .ok (.bool false) h102)
 (
 (builtinV Prog .max [3, 3] [v71, (.int .i64 0)] h80).bind fun v103 h104 =>
 (nilR a0 h104).bind fun v105 h106 =>
 (fieldAddrR Prog 281 v105 3 h106).bind fun v107 h108 =>
 (storeR Prog 3 v107 v103 h108).bind fun _v109 h110 =>
 (nilR a0 h110).bind fun v111 h112 =>
 (fieldAddrR Prog 281 v111 5 h112).bind fun v113 h114 =>
 (storeR Prog 3 v113 (.int .i64 0) h114).bind fun _v115 h116 =>
 .ok v5 h116)
theorem ζ7c (k : Nat) (a0 a1 : Value) (h : Heap) : R (T k) F.ζ1s [a0, a1] h = nrm .no h (ζ1s k (R (T k)) a0 a1 h) :=
 (R_body (t := T k) (T_scott k) (by kernel_rfl) (by kernel_rfl) _ _).trans (by kernel_rfl)
def ζ1l (k : Nat) (call : Caller) (a0 a1 a2 : Value) (h : Heap) : Res Value :=
 (boxR a1 h).bind fun v1 h2 =>
 (loadR Prog 187 a2 h2).bind fun v3 h4 =>
 (loadR Prog 150 v1 h4).bind fun v5 h6 =>
 (callV call v3 [a0, v5] h6).bind fun v7 h8 =>
 (binR Prog .add 3 a0 (.int .i64 1) h8).bind fun v9 h10 =>
 .ok (.tuple #[a0, v9]) h10
theorem ζd1 (k : Nat) (a0 a1 a2 : Value) (h : Heap) : R (T k) F.ζ1l [a0, a1, a2] h = nrm .no h (ζ1l k (R (T k)) a0 a1 a2 h) :=
 (R_body (t := T k) (T_scott k) (by kernel_rfl) (by kernel_rfl) _ _).trans (by kernel_rfl)
def ζ1k (k : Nat) (call : Caller) (a0 : Value) (h : Heap) : Res Value :=
 (nilR a0 h).bindN fun v1 h2 =>
 (fieldAddrR Prog 281 v1 1 h2).bindN fun v3 h4 =>
 (loadR Prog 51 v3 h4).bindN fun v5 h6 =>
 (nilR a0 h6).bindN fun v7 h8 =>
 (fieldAddrR Prog 281 v7 3 h8).bindN fun v9 h10 =>
 (loadR Prog 3 v9 h10).bindN fun v11 h12 =>
 (call F.ζ31 [v5, v11] h12).bindT (fun p15 h16 => (allocR Prog 55 h12).bindN fun v17 h18 => .panic p15 h16) fun v13 h14 =>
 (extractR v13 0 h14).bindN fun v19 h20 =>
 (extractR v13 1 h20).bindN fun v21 h22 =>
 (allocR Prog 55 h22).bindN fun v23 h24 =>
 (storeR Prog 55 v23 v19 h24).bindN fun _v25 h26 =>
 (unR .not v21 h26).bind fun v27 h28 =>
 condV (some v27) (
 .ok (.tuple #[(.int .i64 0), (.bool true)]) h28)
 (
 (nilR a0 h28).bindN fun v29 h30 =>
 (fieldAddrR Prog 281 v29 0 h30).bindN fun v31 h32 =>
 (loadR Prog 133 v31 h32).bindN fun v33 h34 =>
 (fieldAddrR Prog 55 v23 0 h34).bindN fun v35 h36 =>
 (loadR Prog 3 v35 h36).bindN fun v37 h38 =>
 (call F.ζt [v33, v37] h38).bindT (fun p41 h42 => .panic p41 h42) fun v39 h40 =>
 .ok (.tuple #[v39, (.bool false)]) h40)
theorem ζb7 (k : Nat) (a0 : Value) (h : Heap) : R (T k) F.ζ1k [a0] h = nrm .gc h (ζ1k k (R (T k)) a0 h) :=
 (R_body (t := T k) (T_scott k) (by kernel_rfl) (by kernel_rfl) _ _).trans (by kernel_rfl)
end
end Go.Sw
end
