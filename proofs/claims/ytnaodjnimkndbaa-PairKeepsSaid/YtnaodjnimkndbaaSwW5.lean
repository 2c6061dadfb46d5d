/-
  Functions' forms, and what is proved of them, part 5.
-/
import Derived.Test.YtnaodjnimkndbaaSwW4
import Derived.Test.YtnaodjnimkndbaaSwCfg
import Derived.Test.YtnaodjnimkndbaaSwW1
import Derived.Test.YtnaodjnimkndbaaSwLib8
import Derived.Test.YtnaodjnimkndbaaSwW2
import Derived.Test.YtnaodjnimkndbaaSwLib9
import Derived.Test.YtnaodjnimkndbaaSwW3
set_option linter.unusedSimpArgs false
set_option linter.unusedVariables false
set_option linter.unusedSectionVars false
section
namespace Go.Sw
open Go.RowKit
abbrev encRP (r : RP) : List Value := [.int .i64 r.first, .int .i64 r.last, .int .i64 r.pos, .int .i64 r.size, .int .i64 r.step]
theorem encRP_len (r : RP) : (encRP r).length = 5 := rfl
theorem encRP_still (l : List RP) : ∀ p, p ∈ l → ∀ v, v ∈ encRP p → Still v := fun p _ v hv => by
 simp [encRP] at hv
 rcases hv with rfl | rfl | rfl | rfl | rfl <;> trivial
theorem Flat.RPs (l : List RP) : Flat (Go.Sw.lv encRP l) := .lv fun p _ => .cons (.int _ _) (.cons (.int _ _) (.cons (.int _ _) (.cons (.int _ _) (.cons (.int _ _) .nil))))
def PartsAre (o : Option (List RP)) (v : Value) : Prop := ∃ l, v = .tuple #[lv encRP l, .bool o.isSome] ∧ (∀ x, o = some x → l = x) ∧ l.length ≤ 65536
theorem parts_flat (l : List RP) (x : Bool) : Flat (.tuple #[lv encRP l, .bool x]) := .tupleL (.cons (Flat.RPs _) (.cons (.bool _) .nil))
def segE (b : List Int) (z : Int) (each : Bool) (p : Int) : RP := if each then ⟨gU b (p + 2) 2, gU b p 2, gU b (p + 4) 2, z, z⟩ else ⟨gU b (p + 2) 2, gU b p 2, p + 4, z, 0⟩
def segB (b : List Int) (z : Int) (each : Bool) (p : Int) : Bool := if each then rowsB b.length (gU b (p + 4) 2) (gU b p 2 - gU b (p + 2) 2 + 1) z else true
theorem segR_eq (b : List Int) (z : Int) (each : Bool) (p : Int) : segR b z each p = if segB b z each p then some (segE b z each p) else none := by
 unfold segR segB segE
 cases each <;> simp
theorem mapO_take {β : Type} {f : Int → Option β} {l : List Int} {j : Nat} {p : Int} (hp : l[j]? = some p) : mapO f (l.take (j + 1)) = (mapO f (l.take j)).bind fun r => (f p).map fun y => r ++ [y] := by
 have h : ∀ (a : List Int), mapO f (a ++ [p]) = (mapO f a).bind fun r => (f p).map fun y => r ++ [y] := by
  intro a
  induction a with
  | nil => simp [mapO]; cases f p <;> rfl
  | cons x a ih =>
   simp only [List.cons_append, mapO, ih]
   cases f x with
   | none => rfl
   | some y =>
    simp only [Option.bind_some]
    cases mapO f a with
    | none => rfl
    | some r => simp only [Option.bind_some, Option.map_some]; cases f p <;> rfl
 rw [take_snoc hp, h]
theorem mapO_none_take {β : Type} {f : Int → Option β} {l : List Int} {j : Nat} (h : mapO f (l.take j) = none) : mapO f l = none := by
 have : ∀ (a b : List Int), mapO f a = none → mapO f (a ++ b) = none := by
  intro a
  induction a with
  | nil => intro b h; cases h
  | cons x a ih =>
   intro b h
   simp only [List.cons_append, mapO] at h ⊢
   cases hx : f x with
   | none => rfl
   | some y =>
    rw [hx] at h
    simp only [Option.bind_some, Option.map_eq_none_iff] at h ⊢
    exact ih b h
 rw [← List.take_append_drop j l]
 exact this _ _ h
theorem segs06_run (k : Nat) (b : List Int) (hb : Byt b) (z : Int) (hz : z = 2 ∨ z = 4) (each : Bool) (hl : b.length < 2 ^ 31) (H : Heap) :
  ∃ v, R (T k) F.swashref06_segments [lv encB b, .int .i64 z, .bool each] H = .ok v H ∧ PartsAre (refSegS b z each) v := by
 have hU := fun j H' => refU_run k (H := H') (Sl.lv H' 1 b) hb j 2 (by omega) (by omega)
 have hRows := fun i n H' => refRows_run k b.length i n z (by omega) (by omega) H'
 obtain ⟨need, hneed⟩ : ∃ need : Int, need = if each then 6 else 4 + z := ⟨_, rfl⟩
 have hr5 : ∀ H', R (T k) F.swashref05_Rows [lv encB b, .int .i64 2, .int .i64 need, .int .i64 2] H' = .ok (rowsO b 2 need 2) H' := fun H' => rows05_run k b hb 2 need 2 hl (by omega) (by omega) (by subst hneed; split <;> omega) (by subst hneed; split <;> omega) H'
 -- the rows
 obtain ⟨ps, ok, zz, hrow, hps, hok⟩ : ∃ (ps : List Int) (ok : Bool) (zz : Int), rowsO b 2 need 2 = .tuple #[lv encI ps, .int .i64 zz, .bool ok] ∧ (∀ p, p ∈ ps → 0 ≤ p ∧ p < 2 ^ 34) ∧
   ps.length < 65536 ∧ refSegS b z each = (if ok then mapO (segR b z each) ps else none) ∧ (ok = false → ps = []) := by
  unfold rowsO refSegS
  rw [← hneed]
  cases ht : takeS b 2 need 2 with
  | none => exact ⟨[], false, 0, rfl, (fun p h => by cases h), by simp, rfl, fun _ => rfl⟩
  | some rows =>
   obtain ⟨s, n, h1, h2, h3, h4, h5, h6⟩ := takeS_get ht
   have hs := uS_two hb h1
   have hn := uS_two hb h2
   rw [gU_some h1]
   refine ⟨posS 2 s rows.length, true, s, rfl, fun p hp => ?_, by simp; omega, rfl, fun h => by cases h⟩
   obtain ⟨i, hi⟩ := List.getElem?_of_mem hp
   have hlt := (List.getElem?_eq_some_iff.1 hi).1
   simp at hlt
   rw [posS_get _ _ _ _ hlt] at hi
   injection hi with hi
   have := Int.mul_nonneg hs.1 (show (0 : Int) ≤ (i : Nat) by omega)
   have : s * (i : Nat) ≤ 65536 * 65536 := Int.mul_le_mul (by omega) (by omega) (by omega) (by omega)
   omega
 obtain ⟨hplen, href, hoknil⟩ := hok
 rw [href]
 obtain ⟨x, e', H1, hr, rfl, hx, a, s, out, fl, rfl, ho, hq⟩ := loop_up (body := swashref06_segments_l1 k (R (T k))) ps.length
  (fun j e H' => Ext H H' ∧ ∃ s out fl, e = [(0, lv encB b), (1, .int .i64 z), (2, .bool each), (9, lv encI ps), (11, .bool fl), (12, s), (13, .int .i64 j)] ∧ Own H H' 5 s encRP out ∧
   out.length ≤ j ∧ ((ok = true ∧ fl = true ∧ mapO (segR b z each) (ps.take j) = some out) ∨ (fl = false ∧ (ok = false ∨ mapO (segR b z each) ps = none))))
  (fun x e H' => x = .exit 0 ∧ Ext H H' ∧ ∃ a s out fl, e = [(0, lv encB b), (1, .int .i64 z), (2, .bool each), (9, lv encI ps), (11, .bool fl), (12, s), (13, a), (32, .bool false)] ∧ Own H H' 5 s encRP out ∧
   out.length ≤ ps.length ∧ ((ok = true ∧ fl = true ∧ mapO (segR b z each) ps = some out) ∨ (fl = false ∧ (ok = false ∨ mapO (segR b z each) ps = none))))
  (e0 := [(0, lv encB b), (1, .int .i64 z), (2, .bool each), (9, lv encI ps), (11, .bool ok), (12, bareV), (13, .int .i64 0)]) (H0 := H)
  ⟨Ext.refl H, bareV, [], ok, rfl, Own.bare _ _ _, by simp, by cases ok; exact .inr ⟨rfl, .inl rfl⟩; exact .inl ⟨rfl, rfl, rfl⟩⟩ (by omega)
  (fun j e H' hj ⟨hx, s, out, fl, he, ho, hol, hq⟩ => by
   subst he
   have hlt : (j : Int) < ps.length := by omega
   rcases hq with ⟨hok, rfl, hm⟩ | ⟨rfl, hn⟩
   rotate_left
   ·refine .inr ⟨.exit 0, _, H', ?_, by simp, rfl, hx, .int .i64 j, s, out, false, rfl, ho, by omega, .inr ⟨rfl, hn⟩⟩
    rw [swashref06_segments_l1_eq]
    simp -implicitDefEqProofs (disch := omega) [hlt]
   ·obtain ⟨p, hp⟩ : ∃ p, ps[j]? = some p := ⟨_, List.getElem?_eq_getElem hj⟩
    have hpb := hps p (List.mem_of_getElem? hp)
    have i1 := fun H' => ixS_lvN encI_len ps .i64 j p hp H'
    have u0 := fun H' => hU p H'
    have u2 := fun H' => hU (p + 2) H'
    have u4 := fun H' => hU (p + 4) H'
    have g0 := gU_two hb p
    have g2 := gU_two hb (p + 2)
    have g4 := gU_two hb (p + 4)
    obtain ⟨f, hf⟩ : ∃ f, gU b (p + 2) 2 = f := ⟨_, rfl⟩
    obtain ⟨l, hll⟩ : ∃ l, gU b p 2 = l := ⟨_, rfl⟩
    obtain ⟨q, hqq⟩ : ∃ q, gU b (p + 4) 2 = q := ⟨_, rfl⟩
    rw [hf] at g2
    rw [hll] at g0
    rw [hqq] at g4
    have u0 : ∀ H', R (T k) F.swashref01_U [lv encB b, .int .i64 p, .int .i64 2] H' = .ok (.int .i64 l) H' := fun H' => by rw [u0]; unfold gU at hll; rw [hll]
    have u2 : ∀ H', R (T k) F.swashref01_U [lv encB b, .int .i64 (p + 2), .int .i64 2] H' = .ok (.int .i64 f) H' := fun H' => by rw [u2]; unfold gU at hf; rw [hf]
    have u4 : ∀ H', R (T k) F.swashref01_U [lv encB b, .int .i64 (p + 4), .int .i64 2] H' = .ok (.int .i64 q) H' := fun H' => by rw [u4]; unfold gU at hqq; rw [hqq]
    have hE : segE b z each p = if each then ⟨f, l, q, z, z⟩ else ⟨f, l, p + 4, z, 0⟩ := by unfold segE; rw [hf, hll, hqq]
    have hB : segB b z each p = if each then rowsB b.length q (l - f + 1) z else true := by unfold segB; rw [hf, hll, hqq]
    have hx1 : Ext H' (H'.push ⟨encRP (segE b z each p), 1, false⟩) := (Ext.refl H').push _
    obtain ⟨s2, H2, e2, o2, x2⟩ := ap1_own (bytes := 40) encRP_len (ho.up hx1) (hx.trans hx1) (segE b z each p) (by omega) (by decide)
    refine .inl ⟨_, H2, ?_, x2, s2, out ++ [segE b z each p], segB b z each p, rfl, o2, by simp; omega, ?_⟩
    ·rw [swashref06_segments_l1_eq]
     rw [hE] at e2
     rw [hB]
     cases each with
     | false =>
      simp only [Bool.false_eq_true, if_false, hn_push, encRP] at e2 ⊢
      simp -implicitDefEqProofs (disch := omega) [hlt, i1, u0, u2, swashref06_segments_j4_eq, e2]
     | true =>
      simp only [if_true, hn_push, encRP] at e2 ⊢
      simp -implicitDefEqProofs (disch := omega) [hlt, i1, u0, u2, u4, hRows, swashref06_segments_j3_eq, e2]
    ·cases hsb : segB b z each p with
     | true =>
      refine .inl ⟨hok, rfl, ?_⟩
      rw [mapO_take hp, hm, segR_eq, hsb]
      rfl
     | false =>
      refine .inr ⟨rfl, .inr (mapO_none_take (j := j + 1) ?_)⟩
      rw [mapO_take hp, hm, segR_eq, hsb]
      rfl)
  (fun e H' ⟨hx, s, out, fl, he, ho, hol, hq⟩ => by
   subst he
   refine ⟨.exit 0, _, H', ?_, by simp, rfl, hx, .int .i64 ps.length, s, out, fl, rfl, ho, hol, by rw [List.take_length] at hq; exact hq⟩
   rw [swashref06_segments_l1_eq]
   simp -implicitDefEqProofs)
 obtain ⟨L, hf⟩ := ho.freeze encRP_len (encRP_still _) 5
 have hall : swashref06_segments k (R (T k)) (lv encB b) (.int .i64 z) (.bool each) H = .ok (.tuple #[s, .bool fl]) H1 := by
  cases each with
  | false =>
   simp only [Bool.false_eq_true, if_false] at hneed
   subst hneed
   have hr5' := hr5
   rw [hrow] at hr5'
   rcases hz with rfl | rfl <;> simp only [show (4 : Int) + 2 = 6 from rfl, show (4 : Int) + 4 = 8 from rfl] at hr5' <;> simp -implicitDefEqProofs (disch := omega) [swashref06_segments, swashref06_segments_j2_eq, hr5', hr, swashref06_segments_l1k_x0]
  | true =>
   simp only [if_true] at hneed
   subst hneed
   have hr5' := hr5
   rw [hrow] at hr5'
   rcases hz with rfl | rfl <;> simp -implicitDefEqProofs (disch := omega) [swashref06_segments, swashref06_segments_j1_eq, hr5', hr, swashref06_segments_l1k_x0]
 refine ⟨.tuple #[lv encRP out, .bool fl], ?_, ?_⟩
 ·rw [swashref06_segments_R]
  exact nrm_fz hall (fz_tuple (l := [s, .bool fl]) (mapF_cons hf (mapF_one (L := []) rfl))) hx (parts_flat _ _).alive
 ·rcases hq with ⟨hol, ⟨rfl, rfl, hm⟩ | ⟨rfl, hn⟩⟩
  ·exact ⟨out, by simp [hm], fun x h => (by simp [hm] at h; exact h), by omega⟩
  ·have : (if ok = true then mapO (segR b z each) ps else none) = none := by
    rcases hn with rfl | hn
    ·rfl
    ·rw [hn]; split <;> rfl
   rw [this]
   exact ⟨out, rfl, fun x h => (by cases h), by omega⟩
end Go.Sw
end
section
namespace Go.Sw
open Go.RowKit
theorem refNo {H : Heap} {r : Res Value} (h : r = .ok (.tuple #[.slice none 0 0, .bool false]) H) : nrm .fz H r = .ok (.tuple #[lv encRP [], .bool false]) H :=
 nrm_fz (L := []) h rfl (Ext.refl H) (parts_flat [] false).alive
theorem PartsAre.no : PartsAre none (.tuple #[lv encRP [], .bool false]) := ⟨[], rfl, fun x h => (by cases h), by simp⟩
theorem trim06_run (k : Nat) (b : List Int) (hb : Byt b) (i z : Int) (hz : z = 1 ∨ z = 2 ∨ z = 4) (hi : 0 ≤ i ∧ i ≤ 4) (hl : b.length < 2 ^ 31) (H : Heap) :
  ∃ v, R (T k) F.swashref06_trimmed [lv encB b, .int .i64 i, .int .i64 z] H = .ok v H ∧ PartsAre (refTrimS b i z) v := by
 have hU := fun j H' => refU_run k (H := H') (Sl.lv H' 1 b) hb j 2 (by omega) (by omega)
 have hR := fun n H' => refRows_run k b.length (i + 4) n z (by omega) (by omega) H'
 rw [swashref06_trimmed_R]
 unfold refTrimS
 cases h1 : uS b i 2 with
 | none =>
  refine ⟨_, refNo ?_, .no⟩
  have u1 := fun H' => hU i H'
  rw [h1] at u1
  have g2 := gU_two hb (i + 2)
  unfold gU at g2
  simp -implicitDefEqProofs (disch := omega) [swashref06_trimmed, u1, hU]
 | some f =>
  have u1 := fun H' => hU i H'
  rw [h1] at u1
  have hf := uS_two hb h1
  have hf' : ¬ f < 0 := by omega
  cases h2 : uS b (i + 2) 2 with
  | none =>
   refine ⟨_, refNo ?_, .no⟩
   have u2 := fun H' => hU (i + 2) H'
   rw [h2] at u2
   simp -implicitDefEqProofs (disch := omega) [swashref06_trimmed, u1, u2, hf']
  | some n =>
   have u2 := fun H' => hU (i + 2) H'
   rw [h2] at u2
   have hn := uS_two hb h2
   have hn' : ¬ n < 0 := by omega
   simp only [Option.bind_some, Option.getD_some] at u1 u2 ⊢
   by_cases h3 : f + n ≤ 65536
   ·have h3' : ¬ f + n > 65536 := by omega
    cases h4 : rowsB b.length (i + 4) n z with
    | false =>
     rw [if_neg (by simp)]
     refine ⟨_, refNo ?_, .no⟩
     have hR4 := hR n
     rw [h4] at hR4
     simp -implicitDefEqProofs (disch := omega) [swashref06_trimmed, u1, u2, hf', hn', h3', hR4]
    | true =>
     rw [if_pos ⟨h3, rfl⟩]
     have hR4 := hR n
     rw [h4] at hR4
     by_cases h0 : n = 0
     ·subst h0
      rw [if_pos rfl]
      have h3'' : ¬ 65536 < f := by omega
      refine ⟨.tuple #[lv encRP [], .bool true], nrm_fz (v := .tuple #[bareV, .bool true]) (H' := H) (L := []) ?_ rfl (Ext.refl H) (parts_flat [] true).alive, [], rfl, fun x h => (by injection h), by simp⟩
      simp -implicitDefEqProofs (disch := omega) [swashref06_trimmed, u1, u2, hf', h3'', hR4]
     ·rw [if_neg h0]
      have h0' : (n == 0) = false := by simpa using h0
      obtain ⟨r, hr⟩ : ∃ r : RP, r = ⟨f, f + n - 1, i + 4, z, z⟩ := ⟨_, rfl⟩
      rw [← hr]
      have ho : Own H (H.push ⟨encRP r, 5, false⟩) 5 (.slice (some ⟨H.n, 0, none⟩) 1 1) encRP [r] := .inr ⟨H.n, rfl, by omega, get_push_eq _ _ _ rfl⟩
      obtain ⟨L, hfz⟩ := ho.freeze encRP_len (encRP_still _) 5
      refine ⟨.tuple #[lv encRP [r], .bool true], nrm_fz (v := .tuple #[.slice (some ⟨H.n, 0, none⟩) 1 1, .bool true]) (H' := H.push ⟨encRP r, 5, false⟩) ?_ (fz_tuple (l := [.slice (some ⟨H.n, 0, none⟩) 1 1, .bool true]) (mapF_cons hfz (mapF_one (L := []) rfl))) ((Ext.refl H).push _) (parts_flat [r] true).alive, [r], rfl, fun x h => (by injection h), by simp⟩
      subst hr
      simp -implicitDefEqProofs (disch := omega) [swashref06_trimmed, u1, u2, hf', hn', h3', hR4, h0']
   ·rw [if_neg (fun h => h3 h.1)]
    have h3' : f + n > 65536 := by omega
    refine ⟨_, refNo ?_, .no⟩
    simp -implicitDefEqProofs (disch := omega) [swashref06_trimmed, u1, u2, hf', hn', h3']
theorem PartsAre.val {o : Option (List RP)} {v : Value} (h : PartsAre o v) : ∃ l ok, v = .tuple #[lv encRP l, .bool ok] ∧ o = (if ok then some l else none) ∧ l.length ≤ 65536 := by
 obtain ⟨l, rfl, h1, h2⟩ := h
 cases o with
 | none => exact ⟨l, false, rfl, rfl, h2⟩
 | some x => exact ⟨l, true, rfl, by simp [h1 x rfl], h2⟩
theorem PartsAre.pass {o : Option (List RP)} {l : List RP} {ok : Bool} (h : o = (if ok then some l else none)) (hl : l.length ≤ 65536) : PartsAre o (.tuple #[lv encRP l, .bool ok]) := by
 subst h
 cases ok with
 | true => exact ⟨l, rfl, fun x h => (by injection h), hl⟩
 | false => exact ⟨l, rfl, fun x h => (by cases h), hl⟩
theorem nrm_parts {H : Heap} {r : Res Value} {l : List RP} {ok : Bool} (h : r = .ok (.tuple #[lv encRP l, .bool ok]) H) : nrm .fz H r = .ok (.tuple #[lv encRP l, .bool ok]) H :=
 nrm_fz (L := []) h rfl (Ext.refl H) (parts_flat l ok).alive
theorem parts06_run (k : Nat) (b : List Int) (hb : Byt b) (g z : Int) (hg : 1 ≤ g ∧ g ≤ 65535) (hz : z = 2 ∨ z = 4) (hl : b.length < 2 ^ 31) (H : Heap) :
  ∃ v, R (T k) F.swashref06_parts [lv encB b, .int .i64 g, .int .i64 z] H = .ok v H ∧ PartsAre (refPartsS b g z (gU b 0 2)) v := by
 have hU := fun j H' => refU_run k (H := H') (Sl.lv H' 1 b) hb j 2 (by omega) (by omega)
 have hR := fun H' => refRows_run k b.length 2 g z (by omega) (by omega) H'
 rw [swashref06_parts_R]
 have hu0 : ∀ H', R (T k) F.swashref01_U [lv encB b, .int .i64 0, .int .i64 2] H' = .ok (.int .i64 (gU b 0 2)) H' := fun H' => hU 0 H'
 have hu2 : ∀ H', R (T k) F.swashref01_U [lv encB b, .int .i64 2, .int .i64 2] H' = .ok (.int .i64 (gU b 2 2)) H' := fun H' => hU 2 H'
 generalize gU b 0 2 = fmt at hu0 ⊢
 unfold refPartsS
 by_cases h0 : fmt = 0
 ·subst h0
  rw [if_pos rfl]
  obtain ⟨r, hr⟩ : ∃ r : RP, r = ⟨0, g - 1, 2, z, z⟩ := ⟨_, rfl⟩
  rw [← hr]
  have ho : Own H (H.push ⟨encRP r, 5, false⟩) 5 (.slice (some ⟨H.n, 0, none⟩) 1 1) encRP [r] := .inr ⟨H.n, rfl, by omega, get_push_eq _ _ _ rfl⟩
  obtain ⟨L, hfz⟩ := ho.freeze encRP_len (encRP_still _) 5
  refine ⟨.tuple #[lv encRP [r], .bool (rowsB b.length 2 g z)], nrm_fz (v := .tuple #[.slice (some ⟨H.n, 0, none⟩) 1 1, .bool (rowsB b.length 2 g z)]) (H' := H.push ⟨encRP r, 5, false⟩) ?_ (fz_tuple (l := [.slice (some ⟨H.n, 0, none⟩) 1 1, .bool (rowsB b.length 2 g z)]) (mapF_cons hfz (mapF_one (L := []) rfl))) ((Ext.refl H).push _) (parts_flat [r] _).alive, .pass rfl (by simp)⟩
  subst hr
  simp -implicitDefEqProofs (disch := omega) [swashref06_parts, hu0, hR]
 rw [if_neg h0]
 have h0' : (fmt == 0) = false := by simpa using h0
 by_cases h2 : fmt = 2
 ·subst h2
  rw [if_pos rfl]
  obtain ⟨v, e, hp⟩ := segs06_run k b hb z hz false hl H
  obtain ⟨l, ok, rfl, ho, hll⟩ := hp.val
  refine ⟨_, nrm_parts (l := l) (ok := ok) ?_, .pass ho hll⟩
  simp -implicitDefEqProofs (disch := omega) [swashref06_parts, hu0, e]
 rw [if_neg h2]
 have h2' : (fmt == 2) = false := by simpa using h2
 by_cases h4 : fmt = 4
 ·subst h4
  rw [if_pos rfl]
  obtain ⟨v, e, hp⟩ := segs06_run k b hb z hz true hl H
  obtain ⟨l, ok, rfl, ho, hll⟩ := hp.val
  refine ⟨_, nrm_parts (l := l) (ok := ok) ?_, .pass ho hll⟩
  simp -implicitDefEqProofs (disch := omega) [swashref06_parts, hu0, e]
 rw [if_neg h4]
 have h4' : (fmt == 4) = false := by simpa using h4
 by_cases h6 : fmt = 6
 ·subst h6
  rw [if_pos rfl]
  have hr5 := fun H' => rows05_run k b hb 2 (2 + z) 1 hl (by omega) (by omega) (by omega) (by omega) H'
  obtain ⟨ps, ok, zz, hrow, hps, hpl, hok⟩ : ∃ (ps : List Int) (ok : Bool) (zz : Int), rowsO b 2 (2 + z) 1 = .tuple #[lv encI ps, .int .i64 zz, .bool ok] ∧ (∀ p, p ∈ ps → 0 ≤ p ∧ p < 2 ^ 34) ∧
    ps.length < 65536 ∧ refOneS b z = (if ok then some (ps.map (oneR b z)) else none) := by
   unfold rowsO refOneS
   cases ht : takeS b 2 (2 + z) 1 with
   | none => exact ⟨[], false, 0, rfl, (fun p h => by cases h), by simp, rfl⟩
   | some rows =>
    obtain ⟨s, n, h1, h2, h3, h4, h5, h6⟩ := takeS_get ht
    have hs := uS_two hb h1
    have hn := uS_two hb h2
    rw [gU_some h1]
    refine ⟨posS 2 s rows.length, true, s, rfl, fun p hp => ?_, by simp; omega, by rw [Option.map_some]; rfl⟩
    obtain ⟨j, hj⟩ := List.getElem?_of_mem hp
    have hjl := (List.getElem?_eq_some_iff.1 hj).1
    rw [posS_len] at hjl
    rw [posS_get _ _ _ _ hjl] at hj
    injection hj with hj
    have h7 := Int.mul_nonneg hs.1 (show (0 : Int) ≤ (j : Int) by omega)
    have h8 : s * (j : Int) ≤ 65536 * 65536 := Int.mul_le_mul (by omega) (by omega) (by omega) (by omega)
    omega
  rw [hrow] at hr5
  rw [hok]
  obtain ⟨x, e', H1, hr, rfl, hx, a, s, rfl, ho⟩ := loop_up (body := swashref06_parts_l1 k (R (T k))) ps.length
   (fun j e H' => Ext H H' ∧ ∃ s, e = [(0, lv encB b), (2, .int .i64 z), (8, lv encI ps), (10, .bool ok), (11, s), (12, .int .i64 j)] ∧ Own H H' 5 s encRP ((ps.take j).map (oneR b z)))
   (fun x e H' => x = .exit 1 ∧ Ext H H' ∧ ∃ a s, e = [(0, lv encB b), (2, .int .i64 z), (8, lv encI ps), (10, .bool ok), (11, s), (12, a), (58, .bool false)] ∧ Own H H' 5 s encRP (ps.map (oneR b z)))
   (e0 := [(0, lv encB b), (2, .int .i64 z), (8, lv encI ps), (10, .bool ok), (11, bareV), (12, .int .i64 0)]) (H0 := H) ⟨Ext.refl H, _, rfl, Own.bare _ _ _⟩ (by omega)
   (fun j e H' hj ⟨hx, s, he, ho⟩ => by
    subst he
    have hlt : (j : Int) < ps.length := by omega
    obtain ⟨p, hp⟩ : ∃ p, ps[j]? = some p := ⟨_, List.getElem?_eq_getElem hj⟩
    have hpb := hps p (List.mem_of_getElem? hp)
    have i1 := fun H' => ixS_lvN encI_len ps .i64 j p hp H'
    have u0 : ∀ H', R (T k) F.swashref01_U [lv encB b, .int .i64 p, .int .i64 2] H' = .ok (.int .i64 (gU b p 2)) H' := fun H' => hU p H'
    obtain ⟨s2, H2, e2, o2, x2⟩ := ap1_own (bytes := 40) encRP_len ho hx (oneR b z p) (by simp; omega) (by decide)
    refine .inl ⟨_, H2, ?_, x2, s2, rfl, by rw [take_snoc hp, List.map_append]; exact o2⟩
    rw [swashref06_parts_l1_eq]
    unfold encRP oneR at e2
    simp -implicitDefEqProofs (disch := omega) [hlt, i1, u0, e2])
   (fun e H' ⟨hx, s, he, ho⟩ => by
    subst he
    refine ⟨.exit 1, _, H', ?_, by simp, rfl, hx, .int .i64 ps.length, s, rfl, by rw [List.take_length] at ho; exact ho⟩
    rw [swashref06_parts_l1_eq]
    simp -implicitDefEqProofs)
  obtain ⟨L, hf⟩ := ho.freeze encRP_len (encRP_still _) 5
  refine ⟨.tuple #[lv encRP (ps.map (oneR b z)), .bool ok], nrm_fz (v := .tuple #[s, .bool ok]) (H' := H1) ?_ (fz_tuple (l := [s, .bool ok]) (mapF_cons hf (mapF_one (L := []) rfl))) hx (parts_flat _ _).alive, .pass rfl (by simp; omega)⟩
  rcases hz with rfl | rfl <;> simp -implicitDefEqProofs (disch := omega) at hr5 <;> simp -implicitDefEqProofs (disch := omega) [swashref06_parts, hu0, hr5, hr, swashref06_parts_l1k_x1]
 rw [if_neg h6]
 have h6' : (fmt == 6) = false := by simpa using h6
 by_cases h8 : fmt = 8
 ·subst h8
  rw [if_pos rfl]
  obtain ⟨v, e, hp⟩ := trim06_run k b hb 2 z (by omega) (by omega) hl H
  obtain ⟨l, ok, rfl, ho, hll⟩ := hp.val
  refine ⟨_, nrm_parts (l := l) (ok := ok) ?_, .pass ho hll⟩
  simp -implicitDefEqProofs (disch := omega) [swashref06_parts, hu0, e]
 rw [if_neg h8]
 have h8' : (fmt == 8) = false := by simpa using h8
 by_cases h10 : fmt = 10
 ·subst h10
  rw [if_pos rfl]
  have hno : ¬ (gU b 2 2 = 1 ∨ gU b 2 2 = 2 ∨ gU b 2 2 = 4) → swashref06_parts k (R (T k)) (lv encB b) (.int .i64 g) (.int .i64 z) H = .ok (.tuple #[.slice none 0 0, .bool false]) H := fun hu => by
   have u1 : (gU b 2 2 == 1) = false := by simpa using fun h => hu (.inl h)
   have u2 : (gU b 2 2 == 2) = false := by simpa using fun h => hu (.inr (.inl h))
   have u4 : (gU b 2 2 == 4) = false := by simpa using fun h => hu (.inr (.inr h))
   simp -implicitDefEqProofs (disch := omega) [swashref06_parts, hu0, hu2, bne, u1, u2, u4]
  cases h : uS b 2 2 with
  | none =>
   have hg2 : gU b 2 2 = -1 := by unfold gU; rw [h]; rfl
   exact ⟨_, refNo (hno (by rw [hg2]; decide)), .no⟩
  | some u =>
   have hg2 := gU_some h
   rw [hg2] at hu2 hno
   simp only [Option.bind_some]
   by_cases hu : u = 1 ∨ u = 2 ∨ u = 4
   ·rw [if_pos hu]
    obtain ⟨v, e, hp⟩ := trim06_run k b hb 4 u hu (by omega) hl H
    obtain ⟨l, ok, rfl, ho, hll⟩ := hp.val
    refine ⟨_, nrm_parts (l := l) (ok := ok) ?_, .pass ho hll⟩
    rcases hu with rfl | rfl | rfl <;> simp -implicitDefEqProofs (disch := omega) [swashref06_parts, hu0, hu2, bne, e]
   ·rw [if_neg hu]
    exact ⟨_, refNo (hno hu), .no⟩
 rw [if_neg h10]
 have h10' : (fmt == 10) = false := by simpa using h10
 refine ⟨_, refNo ?_, .no⟩
 simp -implicitDefEqProofs (disch := omega) [swashref06_parts, hu0, h0', h2', h4', h6', h8', h10']
end Go.Sw
end
section
namespace Go.Sw
open Go.RowKit
theorem goodR_snoc (r : RP) : ∀ a : List RP, goodR (a ++ [r]) = (goodR a && decide (r.first ≤ r.last) && match a.getLast? with | some q => decide (q.last < r.first) | none => true)
 | [] => by simp [goodR]
 | [x] => by
  simp only [List.singleton_append, goodR, List.getLast?_singleton]
  cases decide (x.first ≤ x.last) <;> cases decide (x.last < r.first) <;> cases decide (r.first ≤ r.last) <;> rfl
 | x :: y :: t => by
  have ih := goodR_snoc r (y :: t)
  simp only [List.cons_append] at ih ⊢
  simp only [goodR, ih, List.getLast?_cons_cons]
  simp only [Bool.and_assoc]
abbrev tabRV (b : List Int) (rs : List RP) : Value := .agg #[lv encB b, lv encRP rs]
def tabRO (b : List Int) (o : Option (List RP)) : Value := match o with | some rs => tabRV b rs | none => tabRV [] []
theorem Flat.tabRV (b : List Int) (rs : List RP) : Flat (tabRV b rs) := .aggL (.cons (Flat.B _) (.cons (Flat.RPs _) .nil))
theorem tabRO_flat (b : List Int) (o : Option (List RP)) : Flat (tabRO b o) := by
 unfold tabRO
 split
 ·exact Flat.tabRV _ _
 ·exact Flat.tabRV _ _
theorem read06_run (k : Nat) (b : List Int) (hb : Byt b) (g z : Int) (hg : 1 ≤ g ∧ g ≤ 65535) (hz : z = 2 ∨ z = 4) (hl : b.length < 2 ^ 31) (H : Heap) :
  R (T k) F.swashref06_Read [lv encB b, .int .i64 g, .int .i64 z] H = .ok (.tuple #[tabRO b (refReadS b g z), .bool (refReadS b g z).isSome]) H := by
 have hx0 : Ext H (H.push ⟨[.slice none 0 0, .slice none 0 0], 1, false⟩) := (Ext.refl H).push _
 obtain ⟨v, e, hp⟩ := parts06_run k b hb g z hg hz hl (H.push ⟨[.slice none 0 0, .slice none 0 0], 1, false⟩)
 obtain ⟨l, ok, rfl, ho, hll⟩ := hp.val
 rw [swashref06_Read_R]
 obtain ⟨x, e', H1, hr, rfl, rfl, rfl⟩ := loop_up (body := swashref06_Read_l1 k (R (T k))) l.length
  (fun j e H' => H' = H.push ⟨[.slice none 0 0, .slice none 0 0], 1, false⟩ ∧ e = [(0, lv encB b), (6, .pointer (some ⟨H.n, 0, none⟩)), (8, lv encRP l), (9, .bool (ok && goodR (l.take j))), (10, .int .i64 j)])
  (fun x e H' => H' = H.push ⟨[.slice none 0 0, .slice none 0 0], 1, false⟩ ∧ x = .exit 0 ∧ e = [(0, lv encB b), (6, .pointer (some ⟨H.n, 0, none⟩)), (8, lv encRP l), (9, .bool (ok && goodR l)), (10, .int .i64 l.length), (21, .bool false)])
  (e0 := [(0, lv encB b), (6, .pointer (some ⟨H.n, 0, none⟩)), (8, lv encRP l), (9, .bool ok), (10, .int .i64 0)]) (H0 := H.push ⟨[.slice none 0 0, .slice none 0 0], 1, false⟩) ⟨rfl, by simp [goodR]⟩ (by omega)
  (fun j e H' hj ⟨hH, he⟩ => by
   subst he hH
   have hlt : (j : Int) < l.length := by omega
   obtain ⟨r, hr⟩ : ∃ r, l[j]? = some r := ⟨_, List.getElem?_eq_getElem hj⟩
   have i1 := fun H' => ixS_lvN encRP_len l .i64 j r hr H'
   refine .inl ⟨_, _, ?_, rfl, rfl⟩
   rw [swashref06_Read_l1_eq, take_snoc hr, goodR_snoc]
   by_cases h1 : r.last < r.first
   ·have h1' : ¬ r.first ≤ r.last := by omega
    simp -implicitDefEqProofs (disch := omega) [hlt, i1, h1, h1', swashref06_Read_j1_eq]
   ·have h1' : r.first ≤ r.last := by omega
    cases j with
    | zero =>
     simp -implicitDefEqProofs (disch := omega) at i1 hlt
     simp -implicitDefEqProofs (disch := omega) [hlt, i1, h1, h1', swashref06_Read_j2_eq, goodR]
    | succ j =>
     obtain ⟨q, hq⟩ : ∃ q, l[j]? = some q := ⟨_, List.getElem?_eq_getElem (by omega)⟩
     have i2 := fun H' => ixS_lvN encRP_len l .i64 j q hq H'
     have hlast : (l.take (j + 1)).getLast? = some q := by rw [take_snoc hq]; simp
     rw [hlast]
     have hj0 : (0 : Int) < (j : Int) + 1 := by omega
     simp -implicitDefEqProofs (disch := omega) at i1 hlt
     by_cases h2 : r.first ≤ q.last
     ·have h2' : ¬ q.last < r.first := by omega
      simp -implicitDefEqProofs (disch := omega) [hlt, i1, i2, h1, h1', h2, h2', hj0, swashref06_Read_j1_eq]
     ·have h2' : q.last < r.first := by omega
      simp -implicitDefEqProofs (disch := omega) [hlt, i1, i2, h1, h1', h2, h2', hj0, swashref06_Read_j2_eq])
  (fun e H' ⟨hH, he⟩ => by
   subst he hH
   refine ⟨.exit 0, _, _, ?_, by simp, rfl, rfl, rfl⟩
   rw [swashref06_Read_l1_eq, List.take_length]
   simp -implicitDefEqProofs)
 have hread : refReadS b g z = if (ok && goodR l) = true then some l else none := by
  unfold refReadS
  rw [ho]
  cases ok <;> simp
 rw [hread]
 cases hgood : (ok && goodR l) with
 | false =>
  rw [hgood] at hr
  refine nrm_fz (v := .tuple #[.agg #[.slice none 0 0, .slice none 0 0], .bool false]) (L := []) (H' := H.push ⟨[.slice none 0 0, .slice none 0 0], 1, false⟩) ?_ rfl hx0 (Flat.tupleL (.cons (tabRO_flat b none) (.cons (.bool _) .nil))).alive
  simp -implicitDefEqProofs [swashref06_Read, e, hr, swashref06_Read_l1k_x0]
 | true =>
  rw [hgood] at hr
  refine nrm_fz (v := .tuple #[tabRV b l, .bool true]) (L := []) (H' := H.push ⟨[lv encB b, lv encRP l], 1, false⟩) ?_ rfl ((Ext.refl H).push _) (Flat.tupleL (.cons (Flat.tabRV b l) (.cons (.bool _) .nil))).alive
  simp -implicitDefEqProofs [swashref06_Read, e, hr, swashref06_Read_l1k_x0]
def RP.ok (r : RP) : Prop := -1 ≤ r.first ∧ r.first ≤ 65536 ∧ -1 ≤ r.last ∧ r.last ≤ 65536 ∧ -1 ≤ r.pos ∧ r.pos < 2 ^ 35 ∧ 0 ≤ r.step ∧ r.step ≤ 4 ∧ 0 ≤ r.size ∧ r.size ≤ 4
theorem posS_bound {b : List Int} (hb : Byt b) {i need : Int} {keys : Nat} {rows : List (List Int)} (h : takeS b i need keys = some rows) (hi : 0 ≤ i ∧ i ≤ 65536) : ∀ p, p ∈ posS i (gU b i 2) rows.length → 0 ≤ p ∧ p < 2 ^ 34 := by
 obtain ⟨s, n, h1, h2, h3, h4, h5, h6⟩ := takeS_get h
 have hs := uS_two hb h1
 have hn := uS_two hb h2
 rw [gU_some h1]
 intro p hp
 obtain ⟨j, hj⟩ := List.getElem?_of_mem hp
 have hjl := (List.getElem?_eq_some_iff.1 hj).1
 rw [posS_len] at hjl
 rw [posS_get _ _ _ _ hjl] at hj
 injection hj with hj
 have h7 := Int.mul_nonneg hs.1 (show (0 : Int) ≤ (j : Int) by omega)
 have h8 : s * (j : Int) ≤ 65536 * 65536 := Int.mul_le_mul (by omega) (by omega) (by omega) (by omega)
 omega
theorem refTrim_ok {b : List Int} (hb : Byt b) {i z : Int} (hi : 0 ≤ i ∧ i ≤ 4) (hz : z = 1 ∨ z = 2 ∨ z = 4) {rs : List RP} (h : refTrimS b i z = some rs) : ∀ r, r ∈ rs → r.ok := by
 unfold refTrimS at h
 obtain ⟨f, hf, h⟩ := Option.bind_eq_some_iff.1 h
 obtain ⟨n, hn, h⟩ := Option.bind_eq_some_iff.1 h
 have hf := uS_two hb hf
 have hn := uS_two hb hn
 split at h
 ·rename_i hc
  injection h with h
  subst h
  intro r hr
  split at hr
  ·cases hr
  ·rw [List.mem_singleton] at hr
   subst hr
   refine ⟨?_, ?_, ?_, ?_, ?_, ?_, ?_, ?_, ?_, ?_⟩ <;> dsimp only <;> omega
 ·cases h
theorem refParts_ok {b : List Int} (hb : Byt b) {g z fmt : Int} (hg : 1 ≤ g ∧ g ≤ 65535) (hz : z = 2 ∨ z = 4) {rs : List RP} (h : refPartsS b g z fmt = some rs) : ∀ r, r ∈ rs → r.ok := by
 have seg : ∀ each rs, refSegS b z each = some rs → ∀ r, r ∈ rs → r.ok := fun each rs h => by
  unfold refSegS at h
  obtain ⟨rows, h1, h2⟩ := Option.bind_eq_some_iff.1 h
  refine mapO_all h2 fun p r hp hr => ?_
  have hpb := posS_bound hb h1 (by omega) p hp
  have g0 := gU_two hb p
  have g2 := gU_two hb (p + 2)
  have g4 := gU_two hb (p + 4)
  unfold segR at hr
  split at hr
  ·split at hr
   ·injection hr with hr
    subst hr
    refine ⟨?_, ?_, ?_, ?_, ?_, ?_, ?_, ?_, ?_, ?_⟩ <;> dsimp only <;> omega
   ·cases hr
  ·injection hr with hr
   subst hr
   refine ⟨?_, ?_, ?_, ?_, ?_, ?_, ?_, ?_, ?_, ?_⟩ <;> dsimp only <;> omega
 unfold refPartsS at h
 split at h
 ·split at h
  ·injection h with h
   subst h
   intro r hr
   rw [List.mem_singleton] at hr
   subst hr
   refine ⟨?_, ?_, ?_, ?_, ?_, ?_, ?_, ?_, ?_, ?_⟩ <;> dsimp only <;> omega
  ·cases h
 split at h
 ·exact seg _ _ h
 split at h
 ·exact seg _ _ h
 split at h
 ·unfold refOneS at h
  obtain ⟨rows, h1, rfl⟩ := Option.map_eq_some_iff.1 h
  intro r hr
  obtain ⟨p, hp, rfl⟩ := List.mem_map.1 hr
  have hpb := posS_bound hb h1 (by omega) p hp
  have g0 := gU_two hb p
  unfold oneR
  refine ⟨?_, ?_, ?_, ?_, ?_, ?_, ?_, ?_, ?_, ?_⟩ <;> dsimp only <;> omega
 split at h
 ·exact refTrim_ok hb (by omega) (by omega) h
 split at h
 ·obtain ⟨u, _, h⟩ := Option.bind_eq_some_iff.1 h
  split at h
  ·rename_i hu
   exact refTrim_ok hb (by omega) hu h
  ·cases h
 ·cases h
theorem refRead_ok {b : List Int} (hb : Byt b) {g z : Int} (hg : 1 ≤ g ∧ g ≤ 65535) (hz : z = 2 ∨ z = 4) {rs : List RP} (h : refReadS b g z = some rs) : ∀ r, r ∈ rs → r.ok := by
 unfold refReadS at h
 obtain ⟨qs, h1, h⟩ := Option.bind_eq_some_iff.1 h
 split at h
 ·injection h with h
  subst h
  exact refParts_ok hb hg hz h1
 ·cases h
theorem refRead_len {b : List Int} {g z : Int} {rs : List RP} (hb : Byt b) (hg : 1 ≤ g ∧ g ≤ 65535) (hz : z = 2 ∨ z = 4) {x : Int × List Pt} (hx : lookS b g z = some x) (h : refReadS b g z = some rs) : rs.length < 2 ^ 31 := by
 obtain ⟨rs', h1, h2⟩ := (look_ref hb hg.1 hg.2 hz).1 x hx
 rw [h] at h1
 injection h1 with h1
 subst h1
 have : ∀ (ps : List Pt) (rs : List RP), Rel b ps rs → rs.length = ps.length := by
  intro ps
  induction ps with
  | nil => intro rs h; cases rs with | nil => rfl | cons _ _ => cases h
  | cons p ps ih => intro rs h; cases rs with | nil => cases h | cons r rs => simp [ih rs h.2]
 rw [this _ _ h2]
 exact lookS_len hb hx
theorem get06_run (k : Nat) (b : List Int) (hb : Byt b) (rs : List RP) (hok : ∀ r, r ∈ rs → r.ok) (hrl : rs.length < 2 ^ 31) (hl : b.length < 2 ^ 31) (id : Int) (H : Heap) :
  R (T k) F.swashref06_Get [tabRV b rs, .int .i64 id] H = .ok (.tuple #[.int .i64 ((refGetS b rs id).getD 0), .bool (refGetS b rs id).isSome]) H := by
 rw [swashref06_Get_R]
 obtain ⟨B, hB⟩ : ∃ B : Blk, B = ⟨[lv encB b, lv encRP rs], 1, false⟩ := ⟨_, rfl⟩
 have hx0 : Ext H (H.push B) := (Ext.refl H).push _
 obtain ⟨x, e', H1, hr, hx, hq⟩ := loop_up (body := swashref06_Get_l1 k (R (T k))) rs.length
  (fun j e H' => e = [(1, .int .i64 id), (2, .pointer (some ⟨H.n, 0, none⟩)), (6, .int .i64 j)] ∧ Ext (H.push B) H' ∧ refGetS b rs id = refGetS b (rs.drop j) id)
  (fun x e H' => Ext H H' ∧ ((x = .ret ∧ ∃ n, e = [(4, .int .i64 n), (5, .bool true)] ∧ refGetS b rs id = some n) ∨ (x = .exit 0 ∧ (∃ a c, e = [(1, .int .i64 id), (2, .pointer (some ⟨H.n, 0, none⟩)), (6, a), (12, c)]) ∧ refGetS b rs id = none)))
  (e0 := [(1, .int .i64 id), (2, .pointer (some ⟨H.n, 0, none⟩)), (6, .int .i64 0)]) (H0 := H.push B) ⟨rfl, Ext.refl _, rfl⟩ (by omega)
  (fun j e H' hj ⟨he, hx, hg⟩ => by
   subst he
   have hlt : (j : Int) < rs.length := by omega
   obtain ⟨r, hr⟩ : ∃ r, rs[j]? = some r := ⟨_, List.getElem?_eq_getElem hj⟩
   have hrok := hok r (List.mem_of_getElem? hr)
   obtain ⟨o1, o2, o3, o4, o5, o6, o7, o8, o9, o10⟩ := hrok
   have i1 := fun H' => ixS_lvN encRP_len rs .i64 j r hr H'
   have hget : H'.get H.n = some ⟨[lv encB b, lv encRP rs], 1, false⟩ := hx.get (by rw [get_push_eq _ _ _ rfl, hB])
   have hne : ¬ H.n = H'.n := by have := Heap.get_lt hget; omega
   have hx2 : Ext H' (H'.push ⟨encRP r, 1, false⟩) := (Ext.refl H').push _
   have hdrop : rs.drop j = r :: rs.drop (j + 1) := by
    obtain ⟨h1, h2⟩ := List.getElem?_eq_some_iff.1 hr
    rw [List.drop_eq_getElem_cons h1, h2]
   rw [hdrop] at hg
   unfold refGetS at hg
   rw [List.find?_cons] at hg
   by_cases h1 : r.first ≤ id
   ·by_cases h2 : id ≤ r.last
    ·rw [decide_eq_true (show r.first ≤ id ∧ id ≤ r.last from ⟨h1, h2⟩)] at hg
     dsimp only at hg
     have hm0 : 0 ≤ (id - r.first) * r.step := Int.mul_nonneg (by omega) o7
     have hm1 : (id - r.first) * r.step ≤ 65540 * 4 := Int.mul_le_mul (by omega) (by omega) (by omega) (by omega)
     have hu := fun H' => refU_run k (H := H') (Sl.lv H' 1 b) hb (r.pos + (id - r.first) * r.step) r.size (by omega) (by omega)
     refine .inr ⟨.ret, _, H'.push ⟨encRP r, 1, false⟩, ?_, by simp, hx0.trans (hx.trans hx2), .inl ⟨rfl, gU b (r.pos + (id - r.first) * r.step) r.size, rfl, hg⟩⟩
     rw [swashref06_Get_l1_eq]
     unfold gU
     simp -implicitDefEqProofs (disch := omega) [hlt, i1, hget, hne, h1, h2, hu]
    ·rw [decide_eq_false (fun h => h2 h.2)] at hg
     refine .inl ⟨_, H'.push ⟨encRP r, 1, false⟩, ?_, rfl, hx.trans hx2, hg⟩
     rw [swashref06_Get_l1_eq]
     simp -implicitDefEqProofs (disch := omega) [hlt, i1, hget, hne, h1, h2]
   ·rw [decide_eq_false (fun h => h1 h.1)] at hg
    refine .inl ⟨_, H'.push ⟨encRP r, 1, false⟩, ?_, rfl, hx.trans hx2, hg⟩
    rw [swashref06_Get_l1_eq]
    simp -implicitDefEqProofs (disch := omega) [hlt, i1, hget, hne, h1])
  (fun e H' ⟨he, hx, hg⟩ => by
   subst he
   have hget : H'.get H.n = some ⟨[lv encB b, lv encRP rs], 1, false⟩ := hx.get (by rw [get_push_eq _ _ _ rfl, hB])
   refine ⟨.exit 0, _, H', ?_, by simp, hx0.trans hx, .inr ⟨rfl, ⟨.int .i64 rs.length, .bool false, rfl⟩, by rw [hg, List.drop_length]; rfl⟩⟩
   rw [swashref06_Get_l1_eq]
   simp -implicitDefEqProofs [hget])
 rw [hB] at hr
 rcases hq with ⟨rfl, n, rfl, hg⟩ | ⟨rfl, ⟨a, c, rfl⟩, hg⟩
 ·rw [hg]
  refine nrm_gc ⟨H1, ?_, hx⟩ (Flat.tupleL (.cons (.int _ _) (.cons (.bool _) .nil))).alive
  simp -implicitDefEqProofs [swashref06_Get, hr, swashref06_Get_l1k_r]
 ·rw [hg]
  refine nrm_gc ⟨H1, ?_, hx⟩ (Flat.tupleL (.cons (.int _ _) (.cons (.bool _) .nil))).alive
  simp -implicitDefEqProofs [swashref06_Get, hr, swashref06_Get_l1k_x0]
end Go.Sw
end
section
namespace Go.Sw
open Go.RowKit
def placeS (l : List Int) (x : Int) : Option Nat := l.findIdx? fun y => decide (y = x)
theorem upS_get : ∀ {l : List Int}, upS l = true → ∀ (i j : Nat) (a b : Int), i < j → l[i]? = some a → l[j]? = some b → a < b
 | [], _, i, j, a, b, _, h, _ => by simp at h
 | [_], _, i, j, a, b, hij, ha, hb => by
  have := (List.getElem?_eq_some_iff.1 hb).1
  simp at this; omega
 | x :: y :: l, h, i, j, a, b, hij, ha, hb => by
  simp only [upS, Bool.and_eq_true, decide_eq_true_eq] at h
  obtain ⟨j, rfl⟩ : ∃ j', j = j' + 1 := ⟨j - 1, by omega⟩
  have hb : (y :: l)[j]? = some b := by simpa using hb
  cases i with
  | succ i => exact upS_get h.2 i j a b (by omega) (by simpa using ha) hb
  | zero =>
   simp at ha
   subst ha
   cases j with
   | zero => simp at hb; subst hb; exact h.1
   | succ j => have := upS_get h.2 0 (j + 1) y b (by omega) (by simp) hb; omega
theorem placeS_at {l : List Int} {x : Int} {i : Nat} (h : l[i]? = some x) (hup : upS l = true) : placeS l x = some i := by
 unfold placeS
 obtain ⟨hi, hg⟩ := List.getElem?_eq_some_iff.1 h
 rw [List.findIdx?_eq_some_iff_getElem]
 refine ⟨hi, by simpa using hg, fun j hj => ?_⟩
 have hjl : j < l.length := by omega
 have := upS_get hup j i l[j] x hj (List.getElem?_eq_getElem hjl) h
 simp; omega
theorem placeS_none {l : List Int} {x : Int} (h : ∀ y, y ∈ l → y ≠ x) : placeS l x = none := by
 unfold placeS
 rw [List.findIdx?_eq_none_iff]
 intro y hy
 simpa using h y hy
theorem Place_in1_run (k : Nat) {H : Heap} (l : List Int) (x : Int) (p1 p2 : Nat) (h1 : H.get p1 = some ⟨[lv encI l], 1, false⟩) (h2 : H.get p2 = some ⟨[.int .i64 x], 1, false⟩) (j : Nat) (y : Int) (hj : l[j]? = some y) :
  R (T k) F.seek_Place_in1 [.int .i64 j, ptrV p1, ptrV p2] H = .ok (.bool (decide (x ≤ y))) H := by
 rw [seek_Place_in1_R]
 refine nrm_gc (Pure.of ?_) (.bool _)
 have i1 := fun H' => ixS_lvN encI_len l .i64 j y hj H'
 simp -implicitDefEqProofs (disch := omega) [seek_Place_in1, h1, h2, i1]
theorem Place_run (k : Nat) (l : List Int) (hup : upS l = true) (hl : l.length < 2 ^ 31) (x : Int) (H : Heap) :
  R (T k) F.seek_Place [lv encI l, .int .i64 x] H = .ok (.tuple #[.int .i64 (((placeS l x).getD 0 : Nat) : Int), .bool (placeS l x).isSome]) H := by
 rw [seek_Place_R]
 have hx : Ext H ((H.push ⟨[lv encI l], 1, false⟩).push ⟨[.int .i64 x], 1, false⟩) := ((Ext.refl H).push _).push _
 have fl : ∀ (n : Int) b, Flat (.tuple #[.int .i64 n, .bool b]) := fun n b => .tupleL (.cons (.int _ _) (.cons (.bool _) .nil))
 have hmono : ∀ i j : Nat, i ≤ j → j < l.length → (l[i]?).elim false (fun y => decide (x ≤ y)) = true → (l[j]?).elim false (fun y => decide (x ≤ y)) = true := by
  intro i j hij hj hi
  by_cases he : i = j
  ·subst he; exact hi
  ·obtain ⟨p, hp⟩ : ∃ p, l[i]? = some p := ⟨_, List.getElem?_eq_getElem (by omega)⟩
   obtain ⟨q, hq⟩ : ∃ q, l[j]? = some q := ⟨_, List.getElem?_eq_getElem hj⟩
   have := upS_get hup i j p q (by omega) hp hq
   rw [hp] at hi
   rw [hq]
   simp at hi ⊢
   omega
 obtain ⟨i, hfi⟩ := isFirst_ex l.length (fun j => (l[j]?).elim false fun y => decide (x ≤ y)) hmono
 have hfirst := First_run k l.length (.func (.func F.seek_Place_in1) #[] #[ptrV H.n, ptrV (H.n + 1)]) (fun j => (l[j]?).elim false fun y => decide (x ≤ y)) ((H.push ⟨[lv encI l], 1, false⟩).push ⟨[.int .i64 x], 1, false⟩) (by omega)
  (fun j hj => by
   obtain ⟨y, hy⟩ : ∃ y, l[j]? = some y := ⟨_, List.getElem?_eq_getElem hj⟩
   have := Place_in1_run k (H := (H.push ⟨[lv encI l], 1, false⟩).push ⟨[.int .i64 x], 1, false⟩) l x H.n (H.n + 1) (by simp) (by simp) j y hy
   simp only [callV, List.nil_append, List.cons_append]
   rw [hy]
   simpa using this)
  hmono i hfi
 by_cases hil : i < l.length
 ·obtain ⟨y, hy⟩ : ∃ y, l[i]? = some y := ⟨_, List.getElem?_eq_getElem hil⟩
  have hne : ((i : Int) == (l.length : Int)) = false := by simp; omega
  have i1 := fun H' => ixS_lvN encI_len l .i64 i y hy H'
  have hxy : x ≤ y := by
   have := hfi.2.2 i (Nat.le_refl _) hil
   simp only [hy] at this
   simpa using this
  by_cases he : y = x
  ·subst he
   rw [placeS_at hy hup]
   refine nrm_gc ⟨_, ?_, hx⟩ (fl _ _).alive
   simp -implicitDefEqProofs (disch := omega) [seek_Place, hfirst, hne, i1, bne]
  ·have hno : placeS l x = none := placeS_none fun z hz e => by
    subst e
    obtain ⟨j, hj⟩ := List.getElem?_of_mem hz
    have hjl := (List.getElem?_eq_some_iff.1 hj).1
    by_cases hji : j < i
    ·have := hfi.2.1 j hji
     simp [hj] at this
    ·by_cases hji2 : j = i
     ·subst hji2; rw [hj] at hy; injection hy with hy; exact he hy.symm
     ·have := upS_get hup i j y z (by omega) hy hj; omega
   rw [hno]
   have he' : (y == x) = false := by simpa using he
   refine nrm_gc ⟨_, ?_, hx⟩ (fl _ _).alive
   simp -implicitDefEqProofs (disch := omega) [seek_Place, hfirst, hne, i1, bne, he']
 ·have hie : i = l.length := by have := hfi.1; omega
  have hno : placeS l x = none := placeS_none fun z hz e => by
   subst e
   obtain ⟨j, hj⟩ := List.getElem?_of_mem hz
   have hjl := (List.getElem?_eq_some_iff.1 hj).1
   have := hfi.2.1 j (by omega)
   simp [hj] at this
  rw [hno]
  subst hie
  refine nrm_gc ⟨_, ?_, hx⟩ (fl _ _).alive
  simp -implicitDefEqProofs (disch := omega) [seek_Place, hfirst, bne]
structure PTab.ok (t : PTab) : Prop where
 byt : Byt t.vb
 len : t.vb.length < 2 ^ 31
 body : (t.rows = none ∧ t.cols = none ∧ t.size = 2 ∧ t.vb.length = t.pairs.length * 6 ∧ upS t.pairs = true ∧ t.pairs.length < 2 ^ 31) ∨
  ∃ r c, t.rows = some r ∧ t.cols = some c ∧ ((∀ p, p ∈ r.2 → p.ok) ∧ risesS r.2 = true ∧ r.2.length < 2 ^ 31) ∧ ((∀ p, p ∈ c.2 → p.ok) ∧ risesS c.2 = true ∧ c.2.length < 2 ^ 31) ∧
   (t.size = 2 ∨ t.size = 4) ∧ (t.step = 1 ∨ t.step = 2 ∨ t.step = 4) ∧ (pieceS t.vb (t.step * (max (mostS r.2) 0 + max (mostS c.2) 0)) t.size).isSome = true
theorem pTabS_ok {b : List Int} (hb : Byt b) (hl : b.length < 2 ^ 31) {i g z step : Int} (hg : 1 ≤ g ∧ g ≤ 65535) (hz : z = 2 ∨ z = 4) (hst : step = 1 ∨ step = 2 ∨ step = 4) {t : PTab} (h : pTabS b i g z step = some t) : t.ok := by
 unfold pTabS at h
 obtain ⟨p, _, h⟩ := Option.bind_eq_some_iff.1 h
 obtain ⟨rb, hrb, h⟩ := Option.bind_eq_some_iff.1 h
 obtain ⟨rows, hrows, h⟩ := Option.bind_eq_some_iff.1 h
 obtain ⟨q, _, h⟩ := Option.bind_eq_some_iff.1 h
 obtain ⟨cb, hcb, h⟩ := Option.bind_eq_some_iff.1 h
 obtain ⟨cols, hcols, h⟩ := Option.bind_eq_some_iff.1 h
 obtain ⟨o, _, h⟩ := Option.bind_eq_some_iff.1 h
 obtain ⟨vb, hvb, h⟩ := Option.bind_eq_some_iff.1 h
 obtain ⟨r, hr, rfl⟩ := Option.map_eq_some_iff.1 h
 have ok1 := lookS_ok (hb.rest hrb) hg.1 hg.2 hz hrows
 have ok2 := lookS_ok (hb.rest hcb) hg.1 hg.2 hz hcols
 have := restS_len hvb
 exact ⟨hb.rest hvb, by dsimp only; omega, .inr ⟨rows, cols, rfl, rfl, ⟨ok1.2.1, ok1.2.2, lookS_len (hb.rest hrb) hrows⟩, ⟨ok2.2.1, ok2.2.2, lookS_len (hb.rest hcb) hcols⟩, hz, hst, by dsimp only; rw [hr]; rfl⟩⟩
theorem pListS_ok {b : List Int} (hb : Byt b) (hl : b.length < 2 ^ 31) {t : PTab} (h : pListS b = some t) : t.ok := by
 unfold pListS at h
 obtain ⟨n, _, h⟩ := Option.bind_eq_some_iff.1 h
 obtain ⟨c, _, h⟩ := Option.bind_eq_some_iff.1 h
 obtain ⟨r, hr, h⟩ := Option.bind_eq_some_iff.1 h
 split at h
 ·rename_i hup
  injection h with h
  subst h
  have hn := rowsS_n hr
  have hrl := pieceS_len (rowsS_piece hr)
  have hkl : (keysS r n).length = n.toNat := by unfold keysS; simp
  exact ⟨(hb.piece (rowsS_piece hr)).1, by dsimp only; omega, .inl ⟨rfl, rfl, rfl, by dsimp only; omega, hup, by dsimp only; omega⟩⟩
 ·cases h
theorem pTakeS_ok {kind : Int} {b : List Int} (hb : Byt b) (hl : b.length < 2 ^ 31) {g : Int} (hg : 1 ≤ g ∧ g ≤ 65535) {t : PTab} (h : pTakeS kind b g = some t) : t.ok := by
 unfold pTakeS at h
 split at h
 ·exact pListS_ok hb hl h
 split at h
 ·exact pTabS_ok hb hl hg (by omega) (by omega) h
 split at h
 ·obtain ⟨f, _, h⟩ := Option.bind_eq_some_iff.1 h
  split at h
  ·exact pTabS_ok hb hl hg (by omega) (by omega) h
  ·exact pTabS_ok hb hl hg (by omega) (by omega) h
 ·cases h
def pvalS (t : PTab) (i : Int) : Int := if t.size = 4 then s32 (gU t.vb i 4) else s16 (gU t.vb i 2)
def pgetS (t : PTab) (l r : Int) : Int :=
 match t.rows, t.cols with
 | some a, some c => pvalS t (t.step * ((getS a.2 l).getD 0 + (getS c.2 r).getD 0))
 | _, _ => if l < 0 ∨ l > 65535 ∨ r < 0 ∨ r > 65535 then 0 else match placeS t.pairs (l * 65536 + r) with | some i => pvalS t (6 * (i : Int) + 4) | none => 0
theorem pval_run (k : Nat) (t : PTab) (hb : Byt t.vb) (hl : t.vb.length < 2 ^ 31) (hz : t.size = 2 ∨ t.size = 4) (i : Int) (h : (pieceS t.vb i t.size).isSome = true) (H : Heap) : R (T k) F.pair_Table_value [ptabV t, .int .i64 i] H = .ok (.int .i64 (pvalS t i)) H := by
 rw [pair_Table_value_R]
 refine nrm_gc (Pure.of ?_) (.int _ _)
 obtain ⟨r, hr⟩ := Option.isSome_iff_exists.1 h
 unfold pvalS
 rcases hz with hz | hz
 ·rw [hz] at hr ⊢
  have hu : uS t.vb i 2 = some (num r) := by unfold uS; rw [hr]; rfl
  have h16 := I16_run k (Sl.lv H 1 t.vb) hb i (by omega)
  rw [hu, Option.map_some, orF_some'] at h16
  rw [gU_some hu]
  simp -implicitDefEqProofs (disch := omega) [pair_Table_value, hz, h16]
 ·rw [hz] at hr ⊢
  have hu : uS t.vb i 4 = some (num r) := by unfold uS; rw [hr]; rfl
  have h32 := I32_run k (Sl.lv H 1 t.vb) hb i (by omega)
  rw [hu, Option.map_some, orF_some'] at h32
  rw [gU_some hu]
  simp -implicitDefEqProofs (disch := omega) [pair_Table_value, hz, h32]
theorem piece_less {vb : List Int} {i j z : Int} (h0 : 0 ≤ i) (hij : i ≤ j) (h : (pieceS vb j z).isSome = true) : (pieceS vb i z).isSome = true := by
 rw [inS_piece] at h ⊢
 unfold inS at h ⊢
 rw [decide_eq_true_eq] at h ⊢
 omega
theorem pGet_run (k : Nat) (t : PTab) (ht : t.ok) (l r : Int) (H : Heap) : R (T k) F.pair_Table_Get [ptabV t, .int .i64 l, .int .i64 r] H = .ok (.int .i64 (pgetS t l r)) H := by
 rw [pair_Table_Get_R]
 refine nrm_gc (Pure.of ?_) (.int _ _)
 have hval := fun hz i h H => pval_run k t ht.byt ht.len hz i h H
 obtain ⟨pairs, vb, rows, cols, step, size⟩ := t
 obtain ⟨hb, hl, hbody⟩ := ht
 dsimp only at hb hl hbody hval
 rcases hbody with ⟨rfl, rfl, hz, hvl, hup, hpl⟩ | ⟨a, c, rfl, rfl, ha, hc, hz, hst, hp⟩
 ·unfold pgetS
  dsimp only
  by_cases c1 : l < 0
  ·rw [if_pos (.inl c1)]
   simp -implicitDefEqProofs (disch := omega) [pair_Table_Get, lookV, c1]
  by_cases c2 : l > 65535
  ·rw [if_pos (.inr (.inl c2))]
   simp -implicitDefEqProofs (disch := omega) [pair_Table_Get, lookV, c1, c2]
  by_cases c3 : r < 0
  ·rw [if_pos (.inr (.inr (.inl c3)))]
   simp -implicitDefEqProofs (disch := omega) [pair_Table_Get, lookV, c1, c2, c3]
  by_cases c4 : r > 65535
  ·rw [if_pos (.inr (.inr (.inr c4)))]
   simp -implicitDefEqProofs (disch := omega) [pair_Table_Get, lookV, c1, c2, c3, c4]
  rw [if_neg (by omega)]
  have hor := fun H => bin_or Prog 3 H (l * 65536) r 16 (by omega) (by omega) (by omega) (by omega) (by omega)
  have hpl2 := fun H => Place_run k pairs hup hpl (l * 65536 + r) H
  cases hpp : placeS pairs (l * 65536 + r) with
  | none =>
   rw [hpp] at hpl2
   simp at hpl2
   simp -implicitDefEqProofs (disch := omega) [pair_Table_Get, lookV, c1, c2, c3, c4, hor, hpl2]
  | some i =>
   rw [hpp] at hpl2
   simp at hpl2
   have hi : i < pairs.length := by
    unfold placeS at hpp
    obtain ⟨h, _⟩ := List.findIdx?_eq_some_iff_getElem.1 hpp
    exact h
   have hv := fun H => hval (.inl hz) (6 * (i : Int) + 4) (by rw [hz, inS_piece]; unfold inS; rw [decide_eq_true_eq]; omega) H
   simp -implicitDefEqProofs (disch := omega) [pair_Table_Get, lookV, c1, c2, c3, c4, hor, hpl2, hv]
 ·have g1 := fun H => Get_run k a ha.1 ha.2.1 l ha.2.2 H
  have g2 := fun H => Get_run k c hc.1 hc.2.1 r hc.2.2 H
  unfold pgetS
  dsimp only
  have b1 := mostS_bound ha.1
  have b2 := mostS_bound hc.1
  have x1 : 0 ≤ (getS a.2 l).getD 0 ∧ (getS a.2 l).getD 0 ≤ max (mostS a.2) 0 := by
   cases h : getS a.2 l with
   | none => simp; omega
   | some x => have := getS_most h; have := getS_nonneg ha.1 h; simp; omega
  have x2 : 0 ≤ (getS c.2 r).getD 0 ∧ (getS c.2 r).getD 0 ≤ max (mostS c.2) 0 := by
   cases h : getS c.2 r with
   | none => simp; omega
   | some x => have := getS_most h; have := getS_nonneg hc.1 h; simp; omega
  generalize (getS a.2 l).getD 0 = u at g1 x1 ⊢
  generalize (getS c.2 r).getD 0 = v at g2 x2 ⊢
  have s0 : 0 ≤ step * (u + v) := Int.mul_nonneg (by omega) (by omega)
  have s1 : step * (u + v) ≤ step * (max (mostS a.2) 0 + max (mostS c.2) 0) := Int.mul_le_mul_of_nonneg_left (by omega) (by omega)
  have s2 : step * (u + v) ≤ 4 * 8589934592 := Int.mul_le_mul (by omega) (by omega) (by omega) (by omega)
  have hv := fun H => hval hz (step * (u + v)) (piece_less s0 s1 hp) H
  simp -implicitDefEqProofs (disch := omega) [pair_Table_Get, lookV, g1, g2, hv]
end Go.Sw
end
section
set_option maxRecDepth 100000
set_option linter.unusedVariables false
namespace Go.Sw
noncomputable section
def swashlaw22_PairKeeps_j1 (k : Nat) (call : Caller) (a2 a3 a7 a8 : Value) (h : Heap) : Res Value :=
 kSeq (pieceK (C k) call F.swashlaw22_PairKeeps [1, 1, 1, 1, 1, 1]) (kDone Prog (resOf Prog F.swashlaw22_PairKeeps)) .normal [(2, a2), (3, a3), (7, a7), (8, a8)] h
def swashlaw22_PairKeeps_j2 (k : Nat) (call : Caller) (a2 a3 a7 a8 a39 : Value) (h : Heap) : Res Value :=
 kSeq (pieceK (C k) call F.swashlaw22_PairKeeps [1, 1, 1, 1, 1, 1]) (kDone Prog (resOf Prog F.swashlaw22_PairKeeps)) .normal [(2, a2), (3, a3), (7, a7), (8, a8), (39, a39)] h
def swashlaw22_PairKeeps_l1 (k : Nat) (call : Caller) : Env → Heap → Res (AExit × Env) := loopB (C k) call F.swashlaw22_PairKeeps [1, 1, 1, 1, 1, 1, 1, 1, 1, 1, 0, 1, 0, 0]
def swashlaw22_PairKeeps_l1k (k : Nat) (call : Caller) : Kont Value := kBlock 0 (kSeq (pieceK (C k) call F.swashlaw22_PairKeeps [1, 1, 1, 1, 1, 1, 1, 1, 1, 1, 1]) (kDone Prog (resOf Prog F.swashlaw22_PairKeeps)))
def swashlaw22_PairKeeps_l2 (k : Nat) (call : Caller) : Env → Heap → Res (AExit × Env) := loopB (C k) call F.swashlaw22_PairKeeps [1, 1, 1, 1, 1, 1, 1, 1, 1, 1, 1, 0, 1, 0, 0]
def swashlaw22_PairKeeps_l2k (k : Nat) (call : Caller) : Kont Value := kBlock 2 (kSeq (pieceK (C k) call F.swashlaw22_PairKeeps [1, 1, 1, 1, 1, 1, 1, 1, 1, 1, 1, 1]) (kDone Prog (resOf Prog F.swashlaw22_PairKeeps)))
def swashlaw22_PairKeeps_l3 (k : Nat) (call : Caller) : Env → Heap → Res (AExit × Env) := loopB (C k) call F.swashlaw22_PairKeeps [1, 1, 1, 1, 1, 1, 1, 1, 1, 1, 1, 0, 1, 0, 0, 1, 1, 0, 0, 1, 1, 0, 0]
def swashlaw22_PairKeeps_l3k (k : Nat) (call : Caller) : Kont (AExit × Env) := kBlock 4 (kBlock 3 (kSeq (pieceK (C k) call F.swashlaw22_PairKeeps [1, 1, 1, 1, 1, 1, 1, 1, 1, 1, 1, 0, 1, 0, 0, 1, 1, 1]) (kRound (ownOf (C k) F.swashlaw22_PairKeeps [1, 1, 1, 1, 1, 1, 1, 1, 1, 1, 1, 0, 1, 0, 0]))))
def swashlaw22_PairKeeps (k : Nat) (call : Caller) (a0 a1 a2 : Value) (h : Heap) : Res Value :=
 (boxR a0 h).bind fun v1 h2 =>
 (call F.swashlaw22_speaks [] h2).bind fun v3 h4 =>
 (unR .not v3 h4).bind fun v5 h6 =>
 condV (some v5) (
 .ok (.bool false) h6)
 (
 (fieldAddrR Prog 177 v1 0 h6).bind fun v7 h8 =>
 (loadR Prog 65 v7 h8).bind fun v9 h10 =>
 (builtinV Prog .len [65] [v9] h10).bind fun v11 h12 =>
 (binR Prog .gtr 3 v11 (.int .i64 20) h12).bind fun v13 h14 =>
 ((bif wantVal v13 false then fieldAddrR Prog 177 v1 1 h14 else Res.ok undef h14)).bind fun v15 h16 =>
 ((bif wantVal v13 false then loadR Prog 65 v15 h16 else Res.ok undef h16)).bind fun v17 h18 =>
 ((bif wantVal v13 false then builtinV Prog .len [65] [v17] h18 else Res.ok undef h18)).bind fun v19 h20 =>
 ((bif wantVal v13 false then binR Prog .gtr 3 v19 (.int .i64 20) h20 else Res.ok undef h20)).bind fun v21 h22 =>
 (condV (some v13) (Res.ok (.bool true) h22) (Res.ok v21 h22)).bind fun v23 h24 =>
 ((bif wantVal v23 false then fieldAddrR Prog 177 v1 2 h24 else Res.ok undef h24)).bind fun v25 h26 =>
 ((bif wantVal v23 false then loadR Prog 175 v25 h26 else Res.ok undef h26)).bind fun v27 h28 =>
 ((bif wantVal v23 false then builtinV Prog .len [175] [v27] h28 else Res.ok undef h28)).bind fun v29 h30 =>
 ((bif wantVal v23 false then binR Prog .gtr 3 v29 (.int .i64 600) h30 else Res.ok undef h30)).bind fun v31 h32 =>
 (condV (some v23) (Res.ok (.bool true) h32) (Res.ok v31 h32)).bind fun v33 h34 =>
 condV (some v33) (
 .ok (.bool true) h34)
 (
 (convR Prog 5 3 a1 h34).bind fun v35 h36 =>
 (binR Prog .rem 3 v35 (.int .i64 3) h36).bind fun v37 h38 =>
 (binR Prog .eql 3 v37 (.int .i64 0) h38).bind fun v39 h40 =>
 condV (some v39) (
 swashlaw22_PairKeeps_j1 k call a2 v1 v37 (.int .i64 2) h40)
 (
 swashlaw22_PairKeeps_j2 k call a2 v1 v37 (.int .i64 6) v39 h40)))
theorem swashlaw22_PairKeeps_R (k : Nat) (a0 a1 a2 : Value) (h : Heap) : R (T k) F.swashlaw22_PairKeeps [a0, a1, a2] h = nrm .gc h (swashlaw22_PairKeeps k (R (T k)) a0 a1 a2 h) :=
 (R_body (t := T k) (T_scott k) (by kernel_rfl) (by kernel_rfl) _ _).trans (by kernel_rfl)
theorem swashlaw22_PairKeeps_j1_eq (k : Nat) (call : Caller) (a2 a3 a7 a8 : Value) (h : Heap) : swashlaw22_PairKeeps_j1 k call a2 a3 a7 a8 h =
 (loadR Prog 177 a3 h).bind fun v41 h42 =>
 (call F.swashlaw22_WriteGrid [v41, a7] h42).bind fun v43 h44 =>
 (call F.pair_Read [a8, v43, (.int .i64 300)] h44).bind fun v45 h46 =>
 (extractR v45 0 h46).bind fun v47 h48 =>
 (extractR v45 1 h48).bind fun v49 h50 =>
 (loadR Prog 177 a3 h50).bind fun v51 h52 =>
 (call F.swashlaw22_WriteGrid [v51, a7] h52).bind fun v53 h54 =>
 (call F.swashref22_Read [a8, v53, (.int .i64 300)] h54).bind fun v55 h56 =>
 (extractR v55 0 h56).bind fun v57 h58 =>
 (extractR v55 1 h58).bind fun v59 h60 =>
 (allocR Prog 164 h60).bind fun v61 h62 =>
 (storeR Prog 164 v61 v57 h62).bind fun _v63 h64 =>
 (binR Prog .eql 160 v47 (.pointer none) h64).bind fun v65 h66 =>
 ((bif wantVal v65 false then Res.ok v59 h66 else Res.ok undef h66)).bind fun v67 h68 =>
 ((bif wantVal v65 false then unR .not v67 h68 else Res.ok undef h68)).bind fun v69 h70 =>
 (condV (some v65) (Res.ok (.bool true) h70) (Res.ok v69 h70)).bind fun v71 h72 =>
 condV (some v71) (
 (binR Prog .eql 160 v47 (.pointer none) h72).bind fun v73 h74 =>
 ((bif wantVal v73 true then Res.ok v59 h74 else Res.ok undef h74)).bind fun v75 h76 =>
 ((bif wantVal v73 true then unR .not v75 h76 else Res.ok undef h76)).bind fun v77 h78 =>
 (condV (some v73) (Res.ok v77 h78) (Res.ok (.bool false) h78)).bind fun v79 h80 =>
 .ok v79 h80)
 (
 (builtinV Prog .len [65] [v43] h72).bind fun v81 h82 =>
 (loopN (swashlaw22_PairKeeps_l1 k call) loopFuel [(2, a2), (9, v43), (10, v47), (12, v61), (70, v81), (71, (.int .i64 0))] h82).bind fun r83 h84 =>
 swashlaw22_PairKeeps_l1k k call r83.1 r83.2 h84) := by kernel_rfl
theorem swashlaw22_PairKeeps_j2_eq (k : Nat) (call : Caller) (a2 a3 a7 a8 a39 : Value) (h : Heap) : swashlaw22_PairKeeps_j2 k call a2 a3 a7 a8 a39 h =
 (loadR Prog 177 a3 h).bind fun v85 h86 =>
 (call F.swashlaw22_WriteGrid [v85, a7] h86).bind fun v87 h88 =>
 (call F.pair_Read [a8, v87, (.int .i64 300)] h88).bind fun v89 h90 =>
 (extractR v89 0 h90).bind fun v91 h92 =>
 (extractR v89 1 h92).bind fun v93 h94 =>
 (loadR Prog 177 a3 h94).bind fun v95 h96 =>
 (call F.swashlaw22_WriteGrid [v95, a7] h96).bind fun v97 h98 =>
 (call F.swashref22_Read [a8, v97, (.int .i64 300)] h98).bind fun v99 h100 =>
 (extractR v99 0 h100).bind fun v101 h102 =>
 (extractR v99 1 h102).bind fun v103 h104 =>
 (allocR Prog 164 h104).bind fun v105 h106 =>
 (storeR Prog 164 v105 v101 h106).bind fun _v107 h108 =>
 (binR Prog .eql 160 v91 (.pointer none) h108).bind fun v109 h110 =>
 ((bif wantVal v109 false then Res.ok v103 h110 else Res.ok undef h110)).bind fun v111 h112 =>
 ((bif wantVal v109 false then unR .not v111 h112 else Res.ok undef h112)).bind fun v113 h114 =>
 (condV (some v109) (Res.ok (.bool true) h114) (Res.ok v113 h114)).bind fun v115 h116 =>
 condV (some v115) (
 (binR Prog .eql 160 v91 (.pointer none) h116).bind fun v117 h118 =>
 ((bif wantVal v117 true then Res.ok v103 h118 else Res.ok undef h118)).bind fun v119 h120 =>
 ((bif wantVal v117 true then unR .not v119 h120 else Res.ok undef h120)).bind fun v121 h122 =>
 (condV (some v117) (Res.ok v121 h122) (Res.ok (.bool false) h122)).bind fun v123 h124 =>
 .ok v123 h124)
 (
 (builtinV Prog .len [65] [v87] h116).bind fun v125 h126 =>
 (loopN (swashlaw22_PairKeeps_l1 k call) loopFuel [(2, a2), (9, v87), (10, v91), (12, v105), (70, v125), (71, (.int .i64 0))] h126).bind fun r127 h128 =>
 swashlaw22_PairKeeps_l1k k call r127.1 r127.2 h128) := by kernel_rfl
theorem swashlaw22_PairKeeps_l1_eq (k : Nat) (call : Caller) (a2 a9 a10 a12 a70 a71 : Value) (h : Heap) : swashlaw22_PairKeeps_l1 k call [(2, a2), (9, a9), (10, a10), (12, a12), (70, a70), (71, a71)] h =
 (binR Prog .lss 3 a71 a70 h).bind fun v129 h130 =>
 condV (some v129) (
 (indexAddrR Prog 65 a9 a71 h130).bind fun v131 h132 =>
 (storeR Prog 5 v131 a2 h132).bind fun _v133 h134 =>
 (binR Prog .add 3 a71 (.int .i64 1) h134).bind fun v135 h136 =>
 .ok (.normal, [(2, a2), (9, a9), (10, a10), (12, a12), (70, a70), (71, v135)]) h136)
 (
 .ok ((.exit 0), [(2, a2), (9, a9), (10, a10), (12, a12), (70, a70), (71, a71), (72, v129)]) h130) :=
 (loopB_eq _ _).trans (by kernel_rfl)
theorem swashlaw22_PairKeeps_l1k_x0 (k : Nat) (call : Caller) (a2 a9 a10 a12 a70 a71 a72 : Value) (h : Heap) : swashlaw22_PairKeeps_l1k k call (.exit 0) [(2, a2), (9, a9), (10, a10), (12, a12), (70, a70), (71, a71), (72, a72)] h =
 (loopN (swashlaw22_PairKeeps_l2 k call) loopFuel [(10, a10), (12, a12), (79, (.int .i64 0))] h).bind fun r137 h138 =>
 swashlaw22_PairKeeps_l2k k call r137.1 r137.2 h138 := by kernel_rfl
theorem swashlaw22_PairKeeps_l2_eq (k : Nat) (call : Caller) (a10 a12 a79 : Value) (h : Heap) : swashlaw22_PairKeeps_l2 k call [(10, a10), (12, a12), (79, a79)] h =
 (binR Prog .lss 3 a79 (.int .i64 20) h).bind fun v139 h140 =>
 condV (some v139) (
 (loopN (swashlaw22_PairKeeps_l3 k call) loopFuel [(10, a10), (12, a12), (15, a79), (79, a79), (82, (.int .i64 0))] h140).bind fun r141 h142 =>
 swashlaw22_PairKeeps_l3k k call r141.1 r141.2 h142)
 (
 .ok ((.exit 2), [(10, a10), (12, a12), (79, a79), (80, v139)]) h140) :=
 (loopB_eq _ _).trans (by kernel_rfl)
theorem swashlaw22_PairKeeps_l3_eq (k : Nat) (call : Caller) (a10 a12 a15 a79 a82 : Value) (h : Heap) : swashlaw22_PairKeeps_l3 k call [(10, a10), (12, a12), (15, a15), (79, a79), (82, a82)] h =
 (binR Prog .lss 3 a82 (.int .i64 20) h).bind fun v143 h144 =>
 condV (some v143) (
 (call F.pair_Table_Get [a10, a15, a82] h144).bindT (fun p147 h148 => (loadR Prog 164 a12 h144).bindN fun v149 h150 => chkR ((okVal (loadR Prog 164 a12 h144) v149 && true) && true) (.panic p147 h148)) fun v145 h146 =>
 (loadR Prog 164 a12 h146).bindN fun v151 h152 =>
 (call F.swashref22_Get [v151, a15, a82] h152).bindT (fun p155 h156 => chkR ((okVal (loadR Prog 164 a12 h144) v151 && true) && true) (.panic p155 h156)) fun v153 h154 =>
 (binR Prog .neq 3 v145 v153 h154).bindN fun v157 h158 =>
 chkR ((okVal (loadR Prog 164 a12 h144) v151 && true) && true) (
 condV (some v157) (
 .ok (.ret, [(6, (.bool false))]) h158)
 (
 (binR Prog .add 3 a82 (.int .i64 1) h158).bind fun v159 h160 =>
 .ok (.normal, [(10, a10), (12, a12), (15, a15), (79, a79), (82, v159)]) h160)))
 (
 .ok ((.exit 4), [(10, a10), (12, a12), (15, a15), (79, a79), (82, a82), (83, v143)]) h144) :=
 (loopB_eq _ _).trans (by kernel_rfl)
theorem swashlaw22_PairKeeps_l2k_x2 (k : Nat) (call : Caller) (a10 a12 a79 a80 : Value) (h : Heap) : swashlaw22_PairKeeps_l2k k call (.exit 2) [(10, a10), (12, a12), (79, a79), (80, a80)] h =
 .ok (.bool true) h := by kernel_rfl
theorem swashlaw22_PairKeeps_l3k_x4 (k : Nat) (call : Caller) (a10 a12 a15 a79 a82 a83 : Value) (h : Heap) : swashlaw22_PairKeeps_l3k k call (.exit 4) [(10, a10), (12, a12), (15, a15), (79, a79), (82, a82), (83, a83)] h =
 (binR Prog .add 3 a79 (.int .i64 1) h).bind fun v161 h162 =>
 .ok (.normal, [(10, a10), (12, a12), (79, v161)]) h162 := by kernel_rfl
def swashlaw22_WriteGrid_j1 (k : Nat) (call : Caller) (a2 a5 a6 a7 a8 : Value) (h : Heap) : Res Value :=
 kSeq (pieceK (C k) call F.swashlaw22_WriteGrid [1, 1, 1, 1]) (kDone Prog (resOf Prog F.swashlaw22_WriteGrid)) .normal [(2, a2), (5, a5), (6, a6), (7, a7), (8, a8)] h
def swashlaw22_WriteGrid_l1 (k : Nat) (call : Caller) : Env → Heap → Res (AExit × Env) := loopB (C k) call F.swashlaw22_WriteGrid [1, 1, 1, 1, 1, 1, 1, 0, 1, 0, 0]
def swashlaw22_WriteGrid_l1k (k : Nat) (call : Caller) : Kont Value := kBlock 1 (kSeq (pieceK (C k) call F.swashlaw22_WriteGrid [1, 1, 1, 1, 1, 1, 1, 1]) (kDone Prog (resOf Prog F.swashlaw22_WriteGrid)))
def swashlaw22_WriteGrid_j2 (k : Nat) (call : Caller) (a6 a8 a13 a56 a57 a58 : Value) (h : Heap) : Res (AExit × Env) :=
 kSeq (pieceK (C k) call F.swashlaw22_WriteGrid [1, 1, 1, 1, 1, 1, 1, 0, 1, 0, 0, 1, 1, 0, 0, 1, 1, 1]) (kBlock 2 (kSeq (pieceK (C k) call F.swashlaw22_WriteGrid [1, 1, 1, 1, 1, 1, 1, 0, 1, 0, 0, 1, 1, 1]) (kRound (ownOf (C k) F.swashlaw22_WriteGrid [1, 1, 1, 1, 1, 1, 1, 0, 1, 0, 0])))) .normal [(6, a6), (8, a8), (13, a13), (56, a56), (57, a57), (58, a58)] h
def swashlaw22_WriteGrid_j3 (k : Nat) (call : Caller) (a6 a8 a12 a13 a56 a57 a58 a66 : Value) (h : Heap) : Res (AExit × Env) :=
 kSeq (pieceK (C k) call F.swashlaw22_WriteGrid [1, 1, 1, 1, 1, 1, 1, 0, 1, 0, 0, 1, 1, 0, 0, 1, 1, 1]) (kBlock 2 (kSeq (pieceK (C k) call F.swashlaw22_WriteGrid [1, 1, 1, 1, 1, 1, 1, 0, 1, 0, 0, 1, 1, 1]) (kRound (ownOf (C k) F.swashlaw22_WriteGrid [1, 1, 1, 1, 1, 1, 1, 0, 1, 0, 0])))) .normal [(6, a6), (8, a8), (12, a12), (13, a13), (56, a56), (57, a57), (58, a58), (66, a66)] h
def swashlaw22_WriteGrid (k : Nat) (call : Caller) (a0 a1 : Value) (h : Heap) : Res Value :=
 (boxR a0 h).bind fun v1 h2 =>
 (binR Prog .eql 3 a1 (.int .i64 0) h2).bind fun v3 h4 =>
 condV (some v3) (
 (makeSliceV Prog 65 (.int .i64 4) (.int .i64 4) h4).bind fun v5 h6 =>
 swashlaw22_WriteGrid_j1 k call v1 (.int .i64 16) (.int .i64 2) (.int .i64 2) v5 h6)
 (
 (binR Prog .eql 3 a1 (.int .i64 1) h4).bind fun v7 h8 =>
 condV (some v7) (
 (makeSliceV Prog 65 (.int .i64 8) (.int .i64 8) h8).bind fun v9 h10 =>
 swashlaw22_WriteGrid_j1 k call v1 (.int .i64 20) (.int .i64 2) (.int .i64 1) v9 h10)
 (
 (buildSliceR Prog 65 4 [(0, (.int .u8 0)), (1, (.int .u8 0)), (2, (.int .u8 0)), (3, (.int .u8 1))] h8).bind fun v11 h12 =>
 (buildSliceR Prog 65 4 [(0, (.int .u8 0)), (1, (.int .u8 0)), (2, (.int .u8 0)), (3, (.int .u8 0))] h12).bind fun v13 h14 =>
 (builtinV Prog .append [65, 65] [v11, v13] h14).bind fun v15 h16 =>
 swashlaw22_WriteGrid_j1 k call v1 (.int .i64 20) (.int .i64 4) (.int .i64 1) v15 h16))
theorem swashlaw22_WriteGrid_R (k : Nat) (a0 a1 : Value) (h : Heap) : R (T k) F.swashlaw22_WriteGrid [a0, a1] h = nrm (own k) h (swashlaw22_WriteGrid k (R (T k)) a0 a1 h) :=
 (R_body (t := T k) (T_scott k) (by kernel_rfl) (by kernel_rfl) _ _).trans (by kernel_rfl)
theorem swashlaw22_WriteGrid_j1_eq (k : Nat) (call : Caller) (a2 a5 a6 a7 a8 : Value) (h : Heap) : swashlaw22_WriteGrid_j1 k call a2 a5 a6 a7 a8 h =
 (fieldAddrR Prog 177 a2 0 h).bindN fun v17 h18 =>
 (loadR Prog 65 v17 h18).bindN fun v19 h20 =>
 (call F.swashlaw22_of [v19, a6, a7] h20).bindT (fun p23 h24 => (fieldAddrR Prog 177 a2 1 h20).bindN fun v25 h26 => (loadR Prog 65 v25 h26).bindN fun v27 h28 => chkR ((okVal (loadR Prog 65 v25 h) v27 && true) && true) (.panic p23 h24)) fun v21 h22 =>
 (fieldAddrR Prog 177 a2 1 h22).bindN fun v29 h30 =>
 (loadR Prog 65 v29 h30).bindN fun v31 h32 =>
 (call F.swashlaw22_of [v31, a6, a7] h32).bindT (fun p35 h36 => chkR ((okVal (loadR Prog 65 v29 h) v31 && true) && true) (.panic p35 h36)) fun v33 h34 =>
 chkR ((okVal (loadR Prog 65 v29 h) v31 && true) && true) (
 (call F.swashref02_Put [a8, a5, (.int .i64 4)] h34).bind fun v37 h38 =>
 (builtinV Prog .len [65] [v21] h38).bind fun v39 h40 =>
 (binR Prog .add 3 a5 v39 h40).bind fun v41 h42 =>
 (call F.swashref02_Put [v37, v41, (.int .i64 4)] h42).bind fun v43 h44 =>
 (builtinV Prog .len [65] [v21] h44).bind fun v45 h46 =>
 (binR Prog .add 3 a5 v45 h46).bind fun v47 h48 =>
 (builtinV Prog .len [65] [v33] h48).bind fun v49 h50 =>
 (binR Prog .add 3 v47 v49 h50).bind fun v51 h52 =>
 (call F.swashref02_Put [v43, v51, (.int .i64 4)] h52).bind fun v53 h54 =>
 (builtinV Prog .append [65, 65] [v53, v21] h54).bind fun v55 h56 =>
 (builtinV Prog .append [65, 65] [v55, v33] h56).bind fun v57 h58 =>
 (fieldAddrR Prog 177 a2 2 h58).bind fun v59 h60 =>
 (loadR Prog 175 v59 h60).bind fun v61 h62 =>
 (builtinV Prog .len [175] [v61] h62).bind fun v63 h64 =>
 (loopN (swashlaw22_WriteGrid_l1 k call) loopFuel [(6, a6), (8, v57), (56, v61), (57, v63), (58, (.int .i64 0))] h64).bind fun r65 h66 =>
 swashlaw22_WriteGrid_l1k k call r65.1 r65.2 h66) := by kernel_rfl
theorem swashlaw22_WriteGrid_l1_eq (k : Nat) (call : Caller) (a6 a8 a56 a57 a58 : Value) (h : Heap) : swashlaw22_WriteGrid_l1 k call [(6, a6), (8, a8), (56, a56), (57, a57), (58, a58)] h =
 (binR Prog .lss 3 a58 a57 h).bind fun v67 h68 =>
 condV (some v67) (
 (indexAddrR Prog 175 a56 a58 h68).bind fun v69 h70 =>
 (loadR Prog 120 v69 h70).bind fun v71 h72 =>
 (convR Prog 120 62 v71 h72).bind fun v73 h74 =>
 (convR Prog 62 3 v73 h74).bind fun v75 h76 =>
 (binR Prog .eql 3 a6 (.int .i64 4) h76).bind fun v77 h78 =>
 condV (some v77) (
 (convR Prog 120 21 v71 h78).bind fun v79 h80 =>
 (convR Prog 21 276 v79 h80).bind fun v81 h82 =>
 (convR Prog 276 3 v81 h82).bind fun v83 h84 =>
 swashlaw22_WriteGrid_j2 k call a6 a8 v83 a56 a57 a58 h84)
 (
 swashlaw22_WriteGrid_j3 k call a6 a8 v71 v75 a56 a57 a58 v77 h78))
 (
 .ok ((.exit 1), [(6, a6), (8, a8), (56, a56), (57, a57), (58, a58), (59, v67)]) h68) :=
 (loopB_eq _ _).trans (by kernel_rfl)
theorem swashlaw22_WriteGrid_j2_eq (k : Nat) (call : Caller) (a6 a8 a13 a56 a57 a58 : Value) (h : Heap) : swashlaw22_WriteGrid_j2 k call a6 a8 a13 a56 a57 a58 h =
 (call F.swashref02_Put [a8, a13, a6] h).bind fun v85 h86 =>
 (binR Prog .add 3 a58 (.int .i64 1) h86).bind fun v87 h88 =>
 .ok (.normal, [(6, a6), (8, v85), (56, a56), (57, a57), (58, v87)]) h88 := by kernel_rfl
theorem swashlaw22_WriteGrid_j3_eq (k : Nat) (call : Caller) (a6 a8 a12 a13 a56 a57 a58 a66 : Value) (h : Heap) : swashlaw22_WriteGrid_j3 k call a6 a8 a12 a13 a56 a57 a58 a66 h =
 (call F.swashref02_Put [a8, a13, a6] h).bind fun v89 h90 =>
 (binR Prog .add 3 a58 (.int .i64 1) h90).bind fun v91 h92 =>
 .ok (.normal, [(6, a6), (8, v89), (56, a56), (57, a57), (58, v91)]) h92 := by kernel_rfl
theorem swashlaw22_WriteGrid_l1k_x1 (k : Nat) (call : Caller) (a6 a8 a56 a57 a58 a59 : Value) (h : Heap) : swashlaw22_WriteGrid_l1k k call (.exit 1) [(6, a6), (8, a8), (56, a56), (57, a57), (58, a58), (59, a59)] h =
 .ok a8 h := by kernel_rfl
def swashlaw22_of_l1 (k : Nat) (call : Caller) : Env → Heap → Res (AExit × Env) := loopB (C k) call F.swashlaw22_of [1, 1, 0, 1, 0, 0]
def swashlaw22_of_l1k (k : Nat) (call : Caller) : Kont Value := kBlock 0 (kSeq (pieceK (C k) call F.swashlaw22_of [1, 1, 1]) (kDone Prog (resOf Prog F.swashlaw22_of)))
def swashlaw22_of (k : Nat) (call : Caller) (a0 a1 a2 : Value) (h : Heap) : Res Value :=
 (call F.swashref02_Put [(.slice none 0 0), (.int .i64 8), (.int .i64 2)] h).bind fun v1 h2 =>
 (call F.swashref02_Put [v1, (.int .i64 0), (.int .i64 2)] h2).bind fun v3 h4 =>
 (builtinV Prog .len [65] [a0] h4).bind fun v5 h6 =>
 (call F.swashref02_Put [v3, v5, (.int .i64 2)] h6).bind fun v7 h8 =>
 (builtinV Prog .len [65] [a0] h8).bind fun v9 h10 =>
 (loopN (swashlaw22_of_l1 k call) loopFuel [(1, a1), (2, a2), (7, v7), (15, a0), (16, v9), (17, (.int .i64 0))] h10).bind fun r11 h12 =>
 swashlaw22_of_l1k k call r11.1 r11.2 h12
theorem swashlaw22_of_R (k : Nat) (a0 a1 a2 : Value) (h : Heap) : R (T k) F.swashlaw22_of [a0, a1, a2] h = nrm .fz h (swashlaw22_of k (R (T k)) a0 a1 a2 h) :=
 (R_body (t := T k) (T_scott k) (by kernel_rfl) (by kernel_rfl) _ _).trans (by kernel_rfl)
theorem swashlaw22_of_l1_eq (k : Nat) (call : Caller) (a1 a2 a7 a15 a16 a17 : Value) (h : Heap) : swashlaw22_of_l1 k call [(1, a1), (2, a2), (7, a7), (15, a15), (16, a16), (17, a17)] h =
 (binR Prog .lss 3 a17 a16 h).bind fun v13 h14 =>
 condV (some v13) (
 (indexAddrR Prog 65 a15 a17 h14).bind fun v15 h16 =>
 (loadR Prog 5 v15 h16).bind fun v17 h18 =>
 (convR Prog 5 3 v17 h18).bind fun v19 h20 =>
 (binR Prog .mul 3 v19 a2 h20).bind fun v21 h22 =>
 (call F.swashref02_Put [a7, v21, a1] h22).bind fun v23 h24 =>
 (binR Prog .add 3 a17 (.int .i64 1) h24).bind fun v25 h26 =>
 .ok (.normal, [(1, a1), (2, a2), (7, v23), (15, a15), (16, a16), (17, v25)]) h26)
 (
 .ok ((.exit 0), [(1, a1), (2, a2), (7, a7), (15, a15), (16, a16), (17, a17), (18, v13)]) h14) :=
 (loopB_eq _ _).trans (by kernel_rfl)
theorem swashlaw22_of_l1k_x0 (k : Nat) (call : Caller) (a1 a2 a7 a15 a16 a17 a18 : Value) (h : Heap) : swashlaw22_of_l1k k call (.exit 0) [(1, a1), (2, a2), (7, a7), (15, a15), (16, a16), (17, a17), (18, a18)] h =
 .ok a7 h := by kernel_rfl
end
end Go.Sw
end
section
namespace Go.Sw
theorem wf_u8 {n : Int} (h : (Lit.int .u8 n).wf = true) : 0 ≤ n ∧ n < 256 := by
 simp [Lit.wf, IntKind.min, IntKind.max, IntKind.signed, IntKind.bits] at h
 omega
theorem row_B {r : List Da} {cs : List Value} (h : LayRow [.int .u8] r cs) : ∃ n : Int, cs = encB n ∧ (0 ≤ n ∧ n < 256) := by
 obtain ⟨d, v, ds, vs, rfl, h1, h2⟩ := h.head
 obtain rfl := h2.done
 obtain ⟨n, rfl, w⟩ := h1.intv
 exact ⟨n, rfl, wf_u8 w⟩
theorem arg_i {k : IntKind} {v : Value} (h : ArgLay (.one (.int k)) v) : ∃ n, v = .int k n ∧ (Lit.int k n).wf = true := by
 obtain ⟨d, h1⟩ := h.cell
 exact h1.intv
end Go.Sw
end
section
namespace Go.Sw
open Go.RowKit
theorem speaks22_run (k : Nat) (hk : k % 1000000 = F.swashlaw22_speaks) (H : Heap) : R (T k) F.swashlaw22_speaks [] H = .ok (.bool true) H :=
 (R_sp (t := T k) (T_scott k) (s := constSp (.bool true)) (by unfold T C; dsimp only; rw [hk]; kernel_rfl) [] H).trans (nrm_gc (Pure.of rfl) (.bool _))
theorem pairO_take {kind : Int} {b : List Int} {g : Int} (hg : 1 ≤ g ∧ g ≤ 65535) : pairO kind b g = pTakeS kind b g := by
 unfold pairO
 split
 ·rename_i h
  unfold badP at h
  simp at h
  unfold pTakeS
  rw [if_neg (by omega), if_neg (by omega), if_neg (by omega)]
 ·rfl
end Go.Sw
end
section
set_option maxRecDepth 100000
set_option linter.unusedVariables false
namespace Go.Sw
noncomputable section
def swashref02_Put_l1 (k : Nat) (call : Caller) : Env → Heap → Res (AExit × Env) := loopB (C k) call F.swashref02_Put [1, 0, 1, 0, 0]
def swashref02_Put_l1k (k : Nat) (call : Caller) : Kont Value := kBlock 0 (kSeq (pieceK (C k) call F.swashref02_Put [1, 1]) (kDone Prog (resOf Prog F.swashref02_Put)))
def swashref02_Put_l2 (k : Nat) (call : Caller) : Env → Heap → Res (AExit × Env) := loopB (C k) call F.swashref02_Put [1, 0, 1, 0, 0, 1, 0, 0, 1, 0, 1, 0, 0]
def swashref02_Put_l2k (k : Nat) (call : Caller) : Kont (AExit × Env) := kBlock 2 (kSeq (pieceK (C k) call F.swashref02_Put [1, 0, 1, 0, 0, 1, 0, 0, 1, 1]) (kBlock 1 (kSeq (pieceK (C k) call F.swashref02_Put [1, 0, 1, 0, 0, 1, 1]) (kRound (ownOf (C k) F.swashref02_Put [1, 0, 1, 0, 0])))))
def swashref02_Put (k : Nat) (call : Caller) (a0 a1 a2 : Value) (h : Heap) : Res Value :=
 (binR Prog .sub 3 a2 (.int .i64 1) h).bind fun v1 h2 =>
 (loopN (swashref02_Put_l1 k call) loopFuel [(0, a0), (1, a1), (7, v1)] h2).bind fun r3 h4 =>
 swashref02_Put_l1k k call r3.1 r3.2 h4
theorem swashref02_Put_R (k : Nat) (a0 a1 a2 : Value) (h : Heap) : R (T k) F.swashref02_Put [a0, a1, a2] h = nrm .no h (swashref02_Put k (R (T k)) a0 a1 a2 h) :=
 (R_body (t := T k) (T_scott k) (by kernel_rfl) (by kernel_rfl) _ _).trans (by kernel_rfl)
theorem swashref02_Put_l1_eq (k : Nat) (call : Caller) (a0 a1 a7 : Value) (h : Heap) : swashref02_Put_l1 k call [(0, a0), (1, a1), (7, a7)] h =
 (binR Prog .geq 3 a7 (.int .i64 0) h).bind fun v5 h6 =>
 condV (some v5) (
 (loopN (swashref02_Put_l2 k call) loopFuel [(0, a0), (1, a1), (7, a7), (8, a1), (9, (.int .i64 0))] h6).bind fun r7 h8 =>
 swashref02_Put_l2k k call r7.1 r7.2 h8)
 (
 .ok ((.exit 0), [(0, a0), (1, a1), (7, a7), (13, v5)]) h6) :=
 (loopB_eq _ _).trans (by kernel_rfl)
theorem swashref02_Put_l2_eq (k : Nat) (call : Caller) (a0 a1 a7 a8 a9 : Value) (h : Heap) : swashref02_Put_l2 k call [(0, a0), (1, a1), (7, a7), (8, a8), (9, a9)] h =
 (binR Prog .lss 3 a9 a7 h).bind fun v9 h10 =>
 condV (some v9) (
 (binR Prog .quo 3 a8 (.int .i64 256) h10).bind fun v11 h12 =>
 (binR Prog .add 3 a9 (.int .i64 1) h12).bind fun v13 h14 =>
 .ok (.normal, [(0, a0), (1, a1), (7, a7), (8, v11), (9, v13)]) h14)
 (
 .ok ((.exit 2), [(0, a0), (1, a1), (7, a7), (8, a8), (9, a9), (19, v9)]) h10) :=
 (loopB_eq _ _).trans (by kernel_rfl)
theorem swashref02_Put_l1k_x0 (k : Nat) (call : Caller) (a0 a1 a7 a13 : Value) (h : Heap) : swashref02_Put_l1k k call (.exit 0) [(0, a0), (1, a1), (7, a7), (13, a13)] h =
 .ok a0 h := by kernel_rfl
theorem swashref02_Put_l2k_x2 (k : Nat) (call : Caller) (a0 a1 a7 a8 a9 a19 : Value) (h : Heap) : swashref02_Put_l2k k call (.exit 2) [(0, a0), (1, a1), (7, a7), (8, a8), (9, a9), (19, a19)] h =
 (binR Prog .rem 3 a8 (.int .i64 256) h).bind fun v15 h16 =>
 (convR Prog 3 5 v15 h16).bind fun v17 h18 =>
 (buildSliceR Prog 65 1 [(0, v17)] h18).bind fun v19 h20 =>
 (builtinV Prog .append [65, 65] [a0, v19] h20).bind fun v21 h22 =>
 (binR Prog .sub 3 a7 (.int .i64 1) h22).bind fun v23 h24 =>
 .ok (.normal, [(0, v21), (1, a1), (7, v23)]) h24 := by kernel_rfl
end
end Go.Sw
end
section
namespace Go.Sw
open Go.RowKit
theorem Put_in (k : Nat) (s : Value) (n : Int) (i : Nat) (h0 : 0 ≤ n) (hn : n < 2 ^ 62) (hi : i < 2 ^ 62) (H : Heap) :
  loopN (swashref02_Put_l2 k (R (T k))) loopFuel [(0, s), (1, .int .i64 n), (7, .int .i64 i), (8, .int .i64 n), (9, .int .i64 0)] H = .ok (.exit 2, [(0, s), (1, .int .i64 n), (7, .int .i64 i), (8, .int .i64 (n / 256 ^ i)), (9, .int .i64 i), (19, .bool false)]) H := by
 obtain ⟨x, e', H1, hr, rfl, rfl, rfl⟩ := loop_up (body := swashref02_Put_l2 k (R (T k))) i
  (fun j e H' => H' = H ∧ e = [(0, s), (1, .int .i64 n), (7, .int .i64 i), (8, .int .i64 (n / 256 ^ j)), (9, .int .i64 j)])
  (fun x e H' => H' = H ∧ x = .exit 2 ∧ e = [(0, s), (1, .int .i64 n), (7, .int .i64 i), (8, .int .i64 (n / 256 ^ i)), (9, .int .i64 i), (19, .bool false)])
  (e0 := [(0, s), (1, .int .i64 n), (7, .int .i64 i), (8, .int .i64 n), (9, .int .i64 0)]) (H0 := H) ⟨rfl, by simp⟩ (by omega)
  (fun j e H' hj ⟨hH, he⟩ => by
   subst he hH
   have hlt : (j : Int) < i := by omega
   have q0 : 0 ≤ n / 256 ^ j := Int.ediv_nonneg h0 (Int.pow_nonneg (by decide))
   have q1 : n / 256 ^ j ≤ n := Int.ediv_le_self _ h0
   have hq : (n / 256 ^ j).tdiv 256 = n / 256 ^ (j + 1) := by
    rw [Int.tdiv_eq_ediv_of_nonneg q0, Int.pow_succ, Int.ediv_ediv_of_nonneg (Int.pow_nonneg (by decide))]
   have q := fun H => bin_quo Prog 3 H .i64 (n / 256 ^ j) 256 (by decide)
   rw [hq] at q
   have q2 : 0 ≤ n / 256 ^ (j + 1) := Int.ediv_nonneg h0 (Int.pow_nonneg (by decide))
   have q3 : n / 256 ^ (j + 1) ≤ n := Int.ediv_le_self _ h0
   generalize n / 256 ^ (j + 1) = m at q q2 q3 ⊢
   generalize n / 256 ^ j = m0 at q ⊢
   refine .inl ⟨_, H', ?_, rfl, rfl⟩
   rw [swashref02_Put_l2_eq]
   simp -implicitDefEqProofs (disch := omega) [hlt, q])
  (fun e H' ⟨hH, he⟩ => by
   subst he hH
   refine ⟨.exit 2, _, H', ?_, by simp, rfl, rfl, rfl⟩
   rw [swashref02_Put_l2_eq]
   simp -implicitDefEqProofs (disch := omega))
 exact hr
theorem Put_star (k : Nat) {H0 H : Heap} {L : List It} (h : Star H0 H L) (i : Nat) {o : Option Nat} {s : Value} {b : List Int} (hi : L[i]? = some (itRow o 1 s encB b)) (n zi : Int) (z : Nat) (hzi : zi = z) (h0 : 0 ≤ n) (hn : n < 2 ^ 62) (hz : z ≤ 8) (hl : b.length < 2 ^ 30) :
  ∃ s' o' H', R (T k) F.swashref02_Put [s, .int .i64 n, .int .i64 zi] H = .ok s' H' ∧ Star H0 H' (L.set i (itRow o' 1 s' encB (b ++ bytesOf n z))) := by
 subst hzi
 rw [swashref02_Put_R]
 have hlt : i < L.length := (List.getElem?_eq_some_iff.1 hi).1
 have hself : L.set i (itRow o 1 s encB b) = L := by
  obtain ⟨hlt, hx⟩ := List.getElem?_eq_some_iff.1 hi
  rw [← hx, List.set_getElem_self]
 obtain ⟨x, e', H1, hr, s', o', rfl, ⟨a, c, rfl⟩, ho⟩ := loopDec (body := swashref02_Put_l1 k (R (T k)))
  (fun m e H' => ∃ s o acc, e = [(0, s), (1, .int .i64 n), (7, .int .i64 ((m : Int) - 1))] ∧ Star H0 H' (L.set i (itRow o 1 s encB acc)) ∧ acc ++ bytesOf n m = b ++ bytesOf n z ∧ m ≤ z)
  (fun x e H' => ∃ s' o', x = .exit 0 ∧ (∃ a c, e = [(0, s'), (1, .int .i64 n), (7, a), (13, c)]) ∧ Star H0 H' (L.set i (itRow o' 1 s' encB (b ++ bytesOf n z))))
  (e0 := [(0, s), (1, .int .i64 n), (7, .int .i64 ((z : Int) - 1))]) (H0 := H) z ⟨s, o, b, rfl, by rw [hself]; exact h, rfl, Nat.le_refl _⟩ (by omega)
  (fun m e H' ⟨s, o, acc, he, ho, ha, hmz⟩ => by
   subst he
   cases m with
   | zero =>
    refine .inr ⟨.exit 0, _, H', ?_, by simp, s, o, rfl, ⟨.int .i64 ((0 : Nat) - 1), .bool false, rfl⟩, by simpa [bytesOf] using (by simpa [bytesOf] using ha) ▸ ho⟩
    rw [swashref02_Put_l1_eq]
    simp -implicitDefEqProofs
   | succ m =>
    have hin := Put_in k s n m h0 hn (by omega) H'
    have q0 : 0 ≤ n / 256 ^ m := Int.ediv_nonneg h0 (Int.pow_nonneg (by decide))
    have hacc : acc.length < 2 ^ 31 := by
     have := congrArg List.length ha
     simp [bytesOf_len] at this
     omega
    obtain ⟨s2, o2, H2, e1, o1⟩ := ho.append1 (bytes := 1) i encB_len (List.getElem?_set_self hlt) ((n / 256 ^ m) % 256) hacc (by decide)
    rw [List.set_set] at o1
    have hrem := fun H => bin_rem Prog 3 H .i64 (n / 256 ^ m) 256 (by decide)
    rw [Int.tmod_eq_emod_of_nonneg q0] at hrem
    have hb : 0 ≤ (n / 256 ^ m) % 256 ∧ (n / 256 ^ m) % 256 < 256 := by omega
    refine .inl ⟨m, _, H2, ?_, by omega, s2, o2, acc ++ [(n / 256 ^ m) % 256], rfl, o1, by rw [List.append_assoc]; exact ha, by omega⟩
    rw [swashref02_Put_l1_eq]
    have hge : (m : Int) ≥ 0 := by omega
    rw [show (((m + 1 : Nat) : Int) - 1) = (m : Int) by omega]
    generalize (n / 256 ^ m) % 256 = y at e1 hrem hb
    simp -implicitDefEqProofs (disch := omega) [hge, hin, swashref02_Put_l2k_x2, hrem, e1])
 refine ⟨s', o', H1, ?_, ho⟩
 simp -implicitDefEqProofs (disch := omega) [swashref02_Put, hr, swashref02_Put_l1k_x0, nrm_no]
end Go.Sw
end
section
namespace Go.Sw
open Go.RowKit
end Go.Sw
end
section
set_option maxRecDepth 100000
set_option linter.unusedVariables false
namespace Go.Sw
noncomputable section
end
end Go.Sw
end
section
namespace Go.Sw
open Go.RowKit
structure Plan where
 cls : List Int
 rows : List (List Int)
 ents : List En
 wide : Int
def m16 (x : Int) : Int := x % 65536
theorem m16_bound (a : Int) : 0 ≤ m16 a ∧ m16 a < 65536 := by unfold m16; omega
def Plan.ok (p : Plan) : Prop := Byt p.cls ∧ (∀ r, r ∈ p.rows → Byt r) ∧ 0 ≤ p.wide ∧ p.wide < 256
end Go.Sw
end
section
namespace Go.Sw
open Go.RowKit
theorem restS_iff {b rv : List Int} {j : Int} : restS b j = some rv ↔ (0 ≤ j ∧ j ≤ b.length) ∧ rv = b.drop j.toNat := by
 unfold restS
 split
 ·rename_i h
  exact ⟨fun e => by injection e with e; exact ⟨h, e.symm⟩, fun e => by rw [e.2]⟩
 ·rename_i h
  exact ⟨fun e => (by cases e), fun e => absurd e.1 h⟩
end Go.Sw
end
