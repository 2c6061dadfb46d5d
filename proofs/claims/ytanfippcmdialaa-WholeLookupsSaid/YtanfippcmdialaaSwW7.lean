/-
  Functions' forms, and what is proved of them, part 7.
-/
import Derived.Test.YtanfippcmdialaaSwW6
import Derived.Test.YtanfippcmdialaaSwW2
import Derived.Test.YtanfippcmdialaaSwCfg
import Derived.Test.YtanfippcmdialaaSwLib8
import Derived.Test.YtanfippcmdialaaSwW1
import Derived.Test.YtanfippcmdialaaSwW5
import Derived.Tactics
import Derived.Tactics2
import Derived.Defers
import Derived.Recover
import Derived.Laws.Pointers
import Derived.Test.YtanfippcmdialaaSwW3
set_option linter.unusedSimpArgs false
set_option linter.unusedVariables false
set_option linter.unusedSectionVars false
section
namespace Go.Sw
open Go.RowKit
theorem ref11Clean_run (k : Nat) (l : List Gl) (hl : l.length < 2 ^ 30) (H : Heap) : R (T k) F.swashref11_Clean [lv encG l] H = .ok (lv encG (cleanG l)) H := by
 rw [swashref11_Clean_R];have g := (Star.nil H).more_row (Ext.refl _) (OwnO.bare encG _ 2) (fun b hb => by cases hb);simp only [List.nil_append] at g
 obtain ⟨x, e', H1, hr, rfl, s, o, rfl, g⟩ := loop_up (body := swashref11_Clean_l1 k (R (T k))) l.length
  (fun j e H' => ∃ s o, e = [(0, lv encG l), (3, s), (4, .int .i64 j)] ∧ Star H H' [itRow o 2 s encG (cleanG (l.take j))])
  (fun x e H' => x = .exit 0 ∧ ∃ s o, e = [(0, lv encG l), (3, s), (4, .int .i64 l.length), (9, .bool false)] ∧ Star H H' [itRow o 2 s encG (cleanG l)])
  (e0 := [(0, lv encG l), (3, bareV), (4, .int .i64 0)]) (H0 := H) ⟨_, none, rfl, g⟩ (by omega)
  (fun j e H' hj ⟨s, o, he, g⟩ => by
   subst he;have hjl : (j : Int) < l.length := by omega
   obtain ⟨y, hy⟩ : ∃ y, l[j]? = some y := ⟨_, List.getElem?_eq_getElem hj⟩
   have i1 := fun H' => ixS_lvN encG_len l .i64 j y hy H';by_cases hd : y.id = 65535
   ·refine .inl ⟨_, H', ?_, s, o, rfl, ?_⟩
    ·rw [swashref11_Clean_l1_eq];simp -implicitDefEqProofs (disch := omega) [hjl, i1, hd, swashref11_Clean_j2_eq]
    ·rw [take_snoc hy, cleanG_app];unfold cleanG at g ⊢;simpa [hd] using g
   ·have hd' : (y.id != 65535) = true := by simpa using hd
    obtain ⟨s', o', H2, e2, g2⟩ := g.append1 (bytes := 16) 0 encG_len rfl y (by have := cleanG_len (l.take j); rw [List.length_take] at this; omega) (by decide);simp only [List.set_cons_zero] at g2;refine .inl ⟨_, H2, ?_, s', o', rfl, ?_⟩
    ·rw [swashref11_Clean_l1_eq];simp -implicitDefEqProofs (disch := omega) [hjl, i1, hd', e2, swashref11_Clean_j1_eq]
    ·rw [take_snoc hy, cleanG_app];unfold cleanG at g2 ⊢;simpa [hd] using g2)
  (fun e H' ⟨s, o, he, g⟩ => by
   subst he;rw [List.take_length] at g;refine ⟨.exit 0, _, H', ?_, by simp, rfl, s, o, rfl, g⟩;rw [swashref11_Clean_l1_eq];simp -implicitDefEqProofs)
 obtain ⟨L, hf⟩ := (g.own 0 rfl).freeze encG_len (encG_still _) 6;refine nrm_fz (v := s) (H' := H1) ?_ hf g.ext (Flat.Gls _).alive;simp -implicitDefEqProofs [swashref11_Clean, hr, swashref11_Clean_l1k_x0]
theorem rev_take {l : List Gl} {j : Nat} {y : Gl} (hj : j < l.length) (hy : l[l.length - 1 - j]? = some y) : l.reverse.take (j + 1) = l.reverse.take j ++ [y] :=
 take_snoc (by rw [List.getElem?_reverse hj]; exact hy)
theorem ref11Turn_run (k : Nat) (l : List Gl) (hl : l.length < 2 ^ 30) (H : Heap) : R (T k) F.swashref11_Turn [lv encG l] H = .ok (lv encG l.reverse) H := by
 rw [swashref11_Turn_R];have g := (Star.nil H).more_row (Ext.refl _) (OwnO.bare encG _ 2) (fun b hb => by cases hb);simp only [List.nil_append] at g
 obtain ⟨x, e', H1, hr, rfl, s, o, z, rfl, g⟩ := loop_up (body := swashref11_Turn_l1 k (R (T k))) l.length
  (fun j e H' => ∃ s o, e = [(0, lv encG l), (3, s), (4, .int .i64 ((l.length : Int) - 1 - j))] ∧ Star H H' [itRow o 2 s encG (l.reverse.take j)])
  (fun x e H' => x = .exit 0 ∧ ∃ s o z, e = [(0, lv encG l), (3, s), (4, z), (10, .bool false)] ∧ Star H H' [itRow o 2 s encG l.reverse])
  (e0 := [(0, lv encG l), (3, bareV), (4, .int .i64 ((l.length : Int) - 1))]) (H0 := H) ⟨bareV, none, by simp, by simpa using g⟩ (by omega)
  (fun j e H' hj ⟨s, o, he, g⟩ => by
   subst he;have hjl : (l.length : Int) - 1 - j ≥ 0 := by omega
   obtain ⟨y, hy⟩ : ∃ y, l[l.length - 1 - j]? = some y := ⟨_, List.getElem?_eq_getElem (by omega)⟩
   have i1 := fun H' => ixS_lvN encG_len l .i64 (l.length - 1 - j) y hy H';rw [show ((l.length - 1 - j : Nat) : Int) = (l.length : Int) - 1 - j by omega] at i1;obtain ⟨s', o', H2, e2, g2⟩ := g.append1 (bytes := 16) 0 encG_len rfl y (by rw [List.length_take, List.length_reverse]; omega) (by decide);simp only [List.set_cons_zero] at g2;rw [← rev_take hj hy] at g2;refine .inl ⟨_, H2, ?_, s', o', rfl, g2⟩;rw [swashref11_Turn_l1_eq];have hjl2 : (j : Int) ≤ (l.length : Int) - 1 := by omega
   simp -implicitDefEqProofs (disch := omega) [hjl, hjl2, i1, e2];try omega)
  (fun e H' ⟨s, o, he, g⟩ => by
   subst he;rw [List.take_of_length_le (by simp)] at g;have hjl : ¬ (l.length : Int) - 1 - l.length ≥ 0 := by omega
   refine ⟨.exit 0, _, H', ?_, by simp, rfl, s, o, .int .i64 ((l.length : Int) - 1 - l.length), rfl, g⟩;rw [swashref11_Turn_l1_eq];simp -implicitDefEqProofs only [bin_geq, Res.bind_ok, hjl, decide_false, condV_bool, Bool.false_eq_true, if_false])
 obtain ⟨L, hf⟩ := (g.own 0 rfl).freeze encG_len (encG_still _) 6;refine nrm_fz (v := s) (H' := H1) ?_ hf g.ext (Flat.Gls _).alive;simp -implicitDefEqProofs (disch := omega) [swashref11_Turn, hr, swashref11_Turn_l1k_x0]
theorem insCl_none {l : List Gl} {i : Int} (h1 : atG l i = none) (h2 : atG l (i - 1) = none) : insCl l i = 0 := by
 unfold insCl;rw [h1, h2];rfl
set_option maxHeartbeats 1000000 in
theorem ref11Insert_run (k : Nat) (l : List Gl) (hl : l.length < 2 ^ 30) (i : Int) (ids : List Int) (hd : ids.length < 2 ^ 30) (H : Heap) :
    R (T k) F.swashref11_Insert [lv encG l, .int .i64 i, lv encI ids] H = .ok (.tuple #[lv encG (insertG l i ids), .bool (decide (0 ≤ i ∧ i ≤ l.length))]) H := by
  rw [swashref11_Insert_R];have fl : ∀ (l : List Gl) b, Flat (.tuple #[lv encG l, .bool b]) := fun l b => Flat.tupleL (l := [lv encG l, .bool b]) (.cons (Flat.Gls l) (.cons (.bool _) .nil));by_cases hi : 0 ≤ i ∧ i ≤ l.length;rotate_left
  · rw [decide_eq_false hi];unfold insertG;rw [if_neg hi];refine nrm_fz (v := .tuple #[lv encG l, .bool false]) (L := []) (H' := H) ?_ rfl (Ext.refl H) (fl _ _).alive;by_cases c1 : i < 0
    · simp -implicitDefEqProofs (disch := omega) [swashref11_Insert, c1]
    · have c2 : i > (l.length : Int) := by omega
      simp -implicitDefEqProofs (disch := omega) [swashref11_Insert, c1, c2]
  rw [decide_eq_true hi];obtain ⟨p, rfl⟩ := Int.eq_ofNat_of_zero_le hi.1;have hp : p ≤ l.length := by omega
  have c1 : ¬ (p : Int) < 0 := by omega
  have c2 : ¬ (p : Int) > (l.length : Int) := by omega
  have sl1 : ∀ H', slS 2 (lv encG l) none (some (.int .i64 (p : Nat))) none H' = .ok (lv encG (l.take p)) H' := fun H' => by
    rw [slS_lv encG_len l none (some (.int .i64 (p : Int))) none 0 p l.length rfl (by simp [boundOf]) rfl (fun h => by cases h) (Nat.zero_le _) hp (Nat.le_refl _), List.drop_zero]
  have sl2 : ∀ H', slS 2 (lv encG l) (some (.int .i64 (p : Nat))) none none H' = .ok (lv encG (l.drop p)) H' := fun H' => by
    rw [slS_lv encG_len l (some (.int .i64 (p : Int))) none none p l.length l.length (by simp [boundOf]) rfl rfl (fun h => by cases h) hp (Nat.le_refl _) (Nat.le_refl _), List.take_length]
  have key : ∀ cl : Int, ∃ s H1 L, Ext H H1 ∧ fzV H.n H1 fzDepth (.tuple #[s, .bool true]) = some (.tuple #[lv encG (l.take p ++ ((ids.map fun x => (⟨x, cl⟩ : Gl)) ++ l.drop p)), .bool true], L) ∧
      (∀ z, swashref11_Insert_j1 k (R (T k)) (lv encG l) (.int .i64 (p : Nat)) (lv encI ids) (.int .i64 cl) H = .ok (.tuple #[s, .bool true]) H1 ∧
       swashref11_Insert_j2 k (R (T k)) (lv encG l) (.int .i64 (p : Nat)) (lv encI ids) (.int .i64 cl) z H = .ok (.tuple #[s, .bool true]) H1) := by
    intro cl;have g := (Star.nil H).more_row (Ext.refl _) (OwnO.bare encG _ 2) (fun b hb => by cases hb);obtain ⟨s1, o1, H1, e1, g⟩ := g.append (bytes := 16) 0 encG_len rfl (b := lv encG (l.take p)) (l2 := l.take p) rfl (lv_first encG_len _ _) (by rw [List.length_take]; simp; omega) (by decide);simp only [List.nil_append, List.set_cons_zero] at g
    obtain ⟨x, e', H2, hr, rfl, s, o, rfl, g⟩ := loop_up (body := swashref11_Insert_l1 k (R (T k))) ids.length
      (fun j e H' => ∃ s o, e = [(0, lv encG l), (1, .int .i64 (p : Nat)), (2, lv encI ids), (8, .int .i64 cl), (9, s), (10, .int .i64 j)] ∧ Star H H' [itRow o 2 s encG (l.take p ++ (ids.take j).map fun x => (⟨x, cl⟩ : Gl))])
      (fun x e H' => x = .exit 0 ∧ ∃ s o, e = [(0, lv encG l), (1, .int .i64 (p : Nat)), (2, lv encI ids), (8, .int .i64 cl), (9, s), (10, .int .i64 ids.length), (45, .bool false)] ∧ Star H H' [itRow o 2 s encG (l.take p ++ ids.map fun x => (⟨x, cl⟩ : Gl))])
      (e0 := [(0, lv encG l), (1, .int .i64 (p : Nat)), (2, lv encI ids), (8, .int .i64 cl), (9, s1), (10, .int .i64 0)]) (H0 := H1) ⟨_, o1, rfl, by simpa using g⟩ (by omega)
      (fun j e H' hj ⟨s, o, he, g⟩ => by
        subst he;have hjl : (j : Int) < ids.length := by omega
        obtain ⟨y, hy⟩ : ∃ y, ids[j]? = some y := ⟨_, List.getElem?_eq_getElem hj⟩
        have i1 := fun H' => ixS_lvN encI_len ids .i64 j y hy H';obtain ⟨s', o', H2, e2, g2⟩ := g.append1 (bytes := 16) 0 encG_len rfl (⟨y, cl⟩ : Gl) (by rw [List.length_append, List.length_map, List.length_take, List.length_take]; omega) (by decide);simp only [List.set_cons_zero] at g2;rw [List.append_assoc, show (ids.take j).map (fun x => (⟨x, cl⟩ : Gl)) ++ [⟨y, cl⟩] = (ids.take (j + 1)).map (fun x => (⟨x, cl⟩ : Gl)) by rw [take_snoc hy, List.map_append]; rfl] at g2;refine .inl ⟨_, H2, ?_, s', o', rfl, g2⟩;rw [swashref11_Insert_l1_eq];simp -implicitDefEqProofs (disch := omega) [hjl, i1, e2])
      (fun e H' ⟨s, o, he, g⟩ => by
        subst he;rw [List.take_length] at g;refine ⟨.exit 0, _, H', ?_, by simp, rfl, s, o, rfl, g⟩;rw [swashref11_Insert_l1_eq];simp -implicitDefEqProofs)
    obtain ⟨s3, o3, H3, e3, g⟩ := g.append (bytes := 16) 0 encG_len rfl (b := lv encG (l.drop p)) (l2 := l.drop p) rfl (lv_first encG_len _ _) (by rw [List.length_append, List.length_map, List.length_take, List.length_drop]; omega) (by decide);simp only [List.set_cons_zero] at g;rw [List.append_assoc] at g;obtain ⟨L, hf⟩ := (g.own 0 rfl).freeze encG_len (encG_still _) 5;refine ⟨s3, H3, L ++ [], g.ext, fz_tuple (l := [s3, .bool true]) (r := [_, .bool true]) (mapF_cons hf (mapF_still fun v hv => by simp at hv; subst hv; trivial)), fun z => ⟨?_, ?_⟩⟩
    · rw [swashref11_Insert_j1_eq];simp -implicitDefEqProofs (disch := omega) [sl1, e1, hr, swashref11_Insert_l1k_x0, sl2, e3]
    · rw [swashref11_Insert_j2_eq];simp -implicitDefEqProofs (disch := omega) [sl1, e1, hr, swashref11_Insert_l1k_x0, sl2, e3]
  have hG : insertG l (p : Nat) ids = l.take p ++ ((ids.map fun x => (⟨x, insCl l p⟩ : Gl)) ++ l.drop p) := by
    unfold insertG;rw [if_pos hi, Int.toNat_natCast]
  rw [hG];obtain ⟨s, H1, L, x1, hf, hj⟩ := key (insCl l p);obtain ⟨hj1, hj2⟩ := hj (.bool false);refine nrm_fz (v := .tuple #[s, .bool true]) (H' := H1) ?_ hf x1 (fl _ _).alive;by_cases d1 : (p : Int) < l.length
  · obtain ⟨y, hy⟩ : ∃ y, l[p]? = some y := ⟨_, List.getElem?_eq_getElem (by omega)⟩
    have i1 := fun H' => ixS_lvN encG_len l .i64 p y hy H';have hc : insCl l (p : Nat) = y.cl := by
      unfold insCl atG;rw [if_pos ⟨hi.1, d1⟩, Int.toNat_natCast, hy]
    rw [hc] at hj1;simp -implicitDefEqProofs (disch := omega) [swashref11_Insert, c1, c2, d1, i1, hj1]
  · by_cases d2 : (p : Int) > 0
    · obtain ⟨q, hq⟩ : ∃ q, p = q + 1 := ⟨p - 1, by omega⟩
      obtain ⟨y, hy⟩ : ∃ y, l[q]? = some y := ⟨_, List.getElem?_eq_getElem (by omega)⟩
      have i1 := fun H' => ixS_lvN encG_len l .i64 q y hy H';have hw : IntKind.i64.wrap ((p : Int) - 1) = (q : Int) := by rw [show (p : Int) - 1 = (q : Int) by omega]; exact wrap_i64 (by omega) (by omega)
      have hc : insCl l (p : Int) = y.cl := by
        unfold insCl atG;rw [if_neg (by omega)];dsimp only;rw [show (p : Int) - 1 = (q : Int) by omega, if_pos ⟨by omega, by omega⟩, Int.toNat_natCast, hy];rfl
      rw [hc] at hj1;simp -implicitDefEqProofs [swashref11_Insert, c1, c2, d1, d2, (show 0 < p by omega), hw, i1, hj1]
    · have hc : insCl l (p : Int) = 0 := insCl_none (by unfold atG; exact if_neg (by omega)) (by unfold atG; exact if_neg (by omega));rw [hc] at hj2;have d2' : ¬ 0 < p := by omega
      have hf' : decide (0 < p) = false := decide_eq_false d2';simp -implicitDefEqProofs [swashref11_Insert, c1, c2, d1, d2, hf'];exact hj2
end Go.Sw
end
section
namespace Go.Sw
open Go.RowKit
def okO (o : List Int) : Prop := (∀ k, k ∈ o → 0 ≤ k ∧ k < o.length) ∧ o.Nodup
instance (o : List Int) : Decidable (okO o) := by unfold okO; infer_instance
def putO (l : List Gl) (a : Nat) (o : List Int) : List Gl := l.take a ++ ((o.map fun k => ((l.drop a)[k.toNat]?).getD ⟨0, 0⟩) ++ l.drop (a + o.length))
def orderG (l : List Gl) (a : Int) (o : List Int) : Option (List Gl) := if 0 ≤ a ∧ a ≤ l.length ∧ (o.length : Int) ≤ l.length - a ∧ okO o then some (putO l a.toNat o) else none
theorem putO_len {l : List Gl} {a : Nat} {o : List Int} (h : a + o.length ≤ l.length) : (putO l a o).length = l.length := by
 unfold putO;simp;omega
theorem orderG_len {l r : List Gl} {a : Int} {o : List Int} (h : orderG l a o = some r) : r.length = l.length := by
 unfold orderG at h;split at h
 ·injection h with h; subst h; exact putO_len (by omega)
 ·cases h
end Go.Sw
end
section
namespace Go.Sw
open Go.RowKit
section
variable {α : Type} {enc : α → List Value}
theorem OwnO.cut {H : Heap} {o : Option Nat} {m : Nat} {s : Value} {l : List α} (he : ∀ x, (enc x).length = m) (h : OwnO H o m s enc l) (k1 k2 : IntKind) (a n : Nat) (hn : a + n ≤ l.length) :
  ∃ v, slS m s (some (.int k1 a)) (some (.int k2 ((a + n : Nat) : Int))) none H = .ok v H ∧ Sl H m v enc ((l.drop a).take n) := by
 have b1 : ∀ d, boundOf (some (.int k1 (a : Int))) d = some a := fun d => by simp [boundOf]
 have b2 : ∀ d, boundOf (some (.int k2 ((a + n : Nat) : Int))) d = some (a + n) := fun d => by
  unfold boundOf; dsimp only; rw [if_pos (by omega), Int.toNat_natCast]
 have hl : ((l.drop a).take n).length = n := by simp; omega
 rcases h with ⟨h0, rfl, hs⟩ | ⟨b, rfl, rfl, hb⟩
 ·have ha : a = 0 := by simp at hn; omega
  have hn0 : n = 0 := by simp at hn; omega
  subst ha hn0;rcases hs with rfl | rfl | rfl
  ·refine ⟨.slice none 0 0, ?_, .inr (.inl ⟨by simp, .inl rfl⟩)⟩;unfold slS; dsimp only; rw [b1, b2]; rfl
  ·refine ⟨emptyV, ?_, .inr (.inl ⟨by simp, .inr (.inr rfl)⟩)⟩;unfold slS bareV; dsimp only; rw [b1, b2]; rfl
  ·refine ⟨emptyV, ?_, .inr (.inl ⟨by simp, .inr (.inr rfl)⟩)⟩;unfold slS emptyV; dsimp only; rw [b1, b2]; rfl
 ·refine ⟨.slice (some ⟨b, 0 + a * m, none⟩) n (l.length - a), ?_, .inr (.inr ⟨b, 0 + a * m, l.length - a, _, by rw [hl], by omega, hb, ?_⟩)⟩
  ·unfold slS;dsimp only;rw [b1, b2];dsimp only [boundOf];rw [if_pos ⟨Nat.le_refl _, by omega, by omega, by simp⟩];have : openOk H b m none = true := by unfold openOk; rw [hb]; simp
   rw [if_pos this, Nat.add_sub_cancel_left]
  ·rw [hl, ← rows_take he, ← rows_drop he, Nat.zero_add]
end
abbrev encBo (b : Bool) : List Value := [.bool b]
theorem encBo_len (b : Bool) : (encBo b).length = 1 := rfl
def marksO (n : Nat) (o : List Int) : List Bool := (List.range n).map fun (x : Nat) => decide ((x : Int) ∈ o)
theorem marksO_len (n : Nat) (o : List Int) : (marksO n o).length = n := by simp [marksO]
theorem marksO_nil (n : Nat) : marksO n [] = List.replicate n false := by
 unfold marksO;apply List.ext_getElem?;intro i;rw [List.getElem?_map];by_cases h : i < n
 ·rw [List.getElem?_range h, List.getElem?_replicate, if_pos h]; rfl
 ·rw [List.getElem?_eq_none (by simpa using h), List.getElem?_replicate, if_neg h]; rfl
theorem marksO_get {n : Nat} (o : List Int) {x : Nat} (h : x < n) : (marksO n o)[x]? = some (decide ((x : Int) ∈ o)) := by
 unfold marksO;rw [List.getElem?_map, List.getElem?_range h];rfl
theorem marksO_set {n : Nat} (o : List Int) {x : Nat} (h : x < n) : (marksO n o).set x true = marksO n (o ++ [(x : Int)]) := by
 apply List.ext_getElem?;intro i;by_cases hi : i < n
 ·rw [marksO_get _ hi, List.getElem?_set];by_cases hx : x = i
  ·subst hx;rw [if_pos rfl, if_pos (by rw [marksO_len]; exact h)];simp
  ·rw [if_neg hx, marksO_get _ hi];have : ¬ (i : Int) = x := by omega
   simp [this]
 ·rw [List.getElem?_eq_none (by rw [List.length_set, marksO_len]; omega), List.getElem?_eq_none (by rw [marksO_len]; omega)]
theorem bools_rep (n : Nat) : repeatCells [.bool false] n = rows encBo (List.replicate n false) := by
 induction n with
 | zero => rfl
 | succ n ih =>
  rw [List.replicate_succ];show _ = encBo false ++ rows encBo (List.replicate n false);rw [← ih];rfl
def toO (o : List Int) (n j : Nat) : Prop := (∀ k, k ∈ o.take j → 0 ≤ k ∧ k < n) ∧ (o.take j).Nodup
theorem toO_step {o : List Int} {n j : Nat} {x : Int} (h : toO o n j) (hx : o[j]? = some x) (h0 : 0 ≤ x) (h1 : x < n) (h2 : x ∉ o.take j) : toO o n (j + 1) := by
 unfold toO;rw [take_snoc hx];refine ⟨fun k hk => ?_, ?_⟩
 ·rcases List.mem_append.1 hk with h' | h'
  ·exact h.1 k h'
  ·have := List.mem_singleton.1 h';subst this;exact ⟨h0, h1⟩
 ·rw [List.nodup_append];refine ⟨h.2, by simp, fun a ha b hb => ?_⟩;have := List.mem_singleton.1 hb;subst this;exact fun e => h2 (e ▸ ha)
theorem notO_mem {o : List Int} {j : Nat} {x : Int} (hx : o[j]? = some x) (h : x ∈ o.take j) : ¬ okO o := fun hk => by
 obtain ⟨i, hi⟩ := List.getElem?_of_mem h;rw [List.getElem?_take] at hi;split at hi
 ·rename_i hij;have hn := hk.2;obtain ⟨h1, e1⟩ := List.getElem?_eq_some_iff.1 hi;obtain ⟨h2, e2⟩ := List.getElem?_eq_some_iff.1 hx;exact List.pairwise_iff_getElem.1 hn i j h1 h2 hij (e1.trans e2.symm)
 ·cases hi
theorem notO_out {o : List Int} {j : Nat} {x : Int} (hx : o[j]? = some x) (h : x < 0 ∨ x ≥ o.length) : ¬ okO o := fun hk => by
 have := hk.1 x (List.mem_of_getElem? hx);omega
def putTo (l : List Gl) (a : Nat) (o : List Int) (j : Nat) : List Gl := l.take a ++ (((o.take j).map fun k => ((l.drop a)[k.toNat]?).getD ⟨0, 0⟩) ++ l.drop (a + j))
theorem putTo_zero (l : List Gl) (a : Nat) (o : List Int) : putTo l a o 0 = l := by unfold putTo; simp
theorem putTo_all (l : List Gl) (a : Nat) (o : List Int) : putTo l a o o.length = putO l a o := by unfold putTo putO; rw [List.take_length]
theorem putTo_len {l : List Gl} {a : Nat} {o : List Int} {j : Nat} (h : a + o.length ≤ l.length) (hj : j ≤ o.length) : (putTo l a o j).length = l.length := by
 unfold putTo;simp;omega
theorem putTo_step {l : List Gl} {a : Nat} {o : List Int} {j : Nat} {x : Int} {g : Gl} (h : a + o.length ≤ l.length) (hx : o[j]? = some x) (hg : (l.drop a)[x.toNat]? = some g) : (putTo l a o j).set (a + j) g = putTo l a o (j + 1) := by
 have hj := (List.getElem?_eq_some_iff.1 hx).1;unfold putTo;rw [take_snoc hx, List.map_append, List.set_append_right _ _ (by simp; omega)];congr 1;have e1 : a + j - (l.take a).length = j := by simp; omega
 have e2 : ((o.take j).map fun k => ((l.drop a)[k.toNat]?).getD (⟨0, 0⟩ : Gl)).length = j := by simp; omega
 rw [e1, List.set_append_right _ _ (by omega), e2, Nat.sub_self, List.append_assoc];congr 1;rw [List.drop_eq_getElem_cons (show a + j < l.length by omega), List.set_cons_zero, ← Nat.add_assoc];rw [List.getElem?_drop] at hg;simp [hg]
set_option maxHeartbeats 2000000 in
theorem lineOrder_any (k : Nat) {H0 H : Heap} {L : List It} (h : Star H0 H L) (i : Nat) {c : Nat} {ob : Option Nat} {l : List Gl} (hi : L[i]? = some (itLine c ob l)) (hl : l.length ≤ 2 ^ 31) (a : Int) (o : List Int) (ho : o.length < 2 ^ 62) :
  ∃ H', R (T k) F.line_Line_Order [ptrV c, .int .i64 a, lv encI o] H = .ok (.bool (orderG l a o).isSome) H' ∧ Star H0 H' (L.set i (itLine c ob ((orderG l a o).getD l))) := by
 have hlt := (List.getElem?_eq_some_iff.1 hi).1;have same : L.set i (itLine c ob l) = L := by
  obtain ⟨hlt, hx⟩ := List.getElem?_eq_some_iff.1 hi;rw [← hx, List.set_getElem_self]
 obtain ⟨hne, s, h1, h2⟩ := h.box i hi;simp only [List.nil_append] at h1;have hln : ∀ H', lnS s H' = .ok (.int .i64 l.length) H' := h2.len;rw [line_Line_Order_R];unfold orderG;by_cases c1 : 0 ≤ a ∧ a ≤ l.length ∧ (o.length : Int) ≤ l.length - a;rotate_left
 ·rw [if_neg (fun hc => c1 ⟨hc.1, hc.2.1, hc.2.2.1⟩)];refine ⟨H, nrm_of ?_, by rw [Option.getD_none, same]; exact h⟩;by_cases d1 : a < 0
  ·simp -implicitDefEqProofs (disch := omega) [line_Line_Order, d1]
  ·by_cases d2 : a > l.length
   ·simp -implicitDefEqProofs (disch := omega) [line_Line_Order, d1, h1, hln, d2]
   ·have d3 : (o.length : Int) > l.length - a := by omega
    simp -implicitDefEqProofs (disch := omega) [line_Line_Order, d1, h1, hln, d2, d3]
 obtain ⟨q1, q2, q3⟩ := c1;obtain ⟨n, rfl⟩ := Int.eq_ofNat_of_zero_le q1;have d1 : ¬ (n : Int) < 0 := by omega
 have d2 : ¬ (n : Int) > l.length := by omega
 have d3 : ¬ (o.length : Int) > l.length - n := by omega
 obtain ⟨w, hw1, hw2⟩ := h2.cut encG_len .i64 .i64 n o.length (by omega);rw [Int.natCast_add] at hw1;obtain ⟨s7, H1, e1, o1, x1⟩ := clone_sl (bytes := 16) encG_len hw2 (by simp; omega) (by decide);obtain ⟨o7, g⟩ := h.more_own o1 x1;have hmk := fun H' => mkR_nat 1 1 [.bool false] .i64 .i64 o.length H' (by omega) (by omega);obtain ⟨Q, hQ⟩ : ∃ Q, Q = L ++ [itRow o7 2 s7 encG ((l.drop n).take o.length)] := ⟨_, rfl⟩
 rw [← hQ] at g;have hQl : Q.length = L.length + 1 := by rw [hQ]; simp
 obtain ⟨sM, hsM⟩ : ∃ sM, sM = Value.slice (some ⟨H1.n, 0, none⟩) o.length o.length := ⟨_, rfl⟩
 have g := g.more_row (o := some H1.n) (m := 1) (s := sM) (enc := encBo) (l := List.replicate o.length false) ((Ext.refl H1).push ⟨repeatCells [.bool false] o.length, 1, false⟩) (.inr ⟨H1.n, rfl, by rw [hsM, List.length_replicate], by rw [get_push_eq _ _ _ rfl, bools_rep]⟩) (fun b hb => by injection hb with hb; subst hb; simp);rw [← marksO_nil] at g;have hend : ∀ x : It, (Q ++ [x])[Q.length]? = some x := fun x => by simp
 obtain ⟨xx, e', H2, hr1, hX⟩ := loop_up (body := line_Line_Order_l1 k (R (T k))) o.length
  (fun j e H' => e = [(0, ptrV c), (1, .int .i64 n), (2, lv encI o), (7, s7), (8, sM), (50, lv encI o), (51, .int .i64 o.length), (52, .int .i64 j)] ∧ toO o o.length j ∧ Star H0 H' (Q ++ [itRow (some H1.n) 1 sM encBo (marksO o.length (o.take j))]))
  (fun xx e H' => (xx = .exit 0 ∧ e = [(0, ptrV c), (1, .int .i64 n), (2, lv encI o), (7, s7), (8, sM), (50, lv encI o), (51, .int .i64 o.length), (52, .int .i64 o.length), (53, .bool false)] ∧ okO o ∧ Star H0 H' Q) ∨ (xx = .ret ∧ e = [(6, .bool false)] ∧ ¬ okO o ∧ Star H0 H' Q))
  (e0 := [(0, ptrV c), (1, .int .i64 n), (2, lv encI o), (7, s7), (8, sM), (50, lv encI o), (51, .int .i64 o.length), (52, .int .i64 0)]) (H0 := H1.push ⟨repeatCells [.bool false] o.length, 1, false⟩) ⟨rfl, ⟨fun k hk => by simp at hk, by simp⟩, g⟩ (by omega)
  (fun j e H' hj ⟨he, ht, g⟩ => by
   subst he;have hjl : (j : Int) < o.length := by omega
   obtain ⟨x, hx⟩ : ∃ x, o[j]? = some x := ⟨_, List.getElem?_eq_getElem hj⟩
   have i1 := fun H' => ixS_lvN encI_len o .i64 j x hx H';by_cases b1 : x < 0
   ·refine .inr ⟨.ret, _, H', ?_, by simp, .inr ⟨rfl, rfl, notO_out hx (.inl b1), g.drop_last⟩⟩;rw [line_Line_Order_l1_eq];simp -implicitDefEqProofs (disch := omega) [hjl, i1, b1]
   by_cases b2 : x ≥ o.length
   ·refine .inr ⟨.ret, _, H', ?_, by simp, .inr ⟨rfl, rfl, notO_out hx (.inr b2), g.drop_last⟩⟩;rw [line_Line_Order_l1_eq];simp -implicitDefEqProofs (disch := omega) [hjl, i1, b1, b2]
   obtain ⟨y, rfl⟩ := Int.eq_ofNat_of_zero_le (Int.not_lt.1 b1);have hy : y < o.length := by omega
   have hm := marksO_get (n := o.length) (o.take j) hy;obtain ⟨b, hb, hgb, i2⟩ := g.ix Q.length (hend _) .i64 y (by rw [marksO_len]; exact hy);injection hb with hb;subst hb;have l1 := ld1_row encBo_len hgb (i := y) (c := 0) hm (by decide) rfl;rw [Nat.add_zero, Nat.mul_one] at l1;by_cases b3 : (y : Int) ∈ o.take j
   ·rw [decide_eq_true b3] at l1;refine .inr ⟨.ret, _, H', ?_, by simp, .inr ⟨rfl, rfl, notO_mem hx b3, g.drop_last⟩⟩;rw [line_Line_Order_l1_eq];simp -implicitDefEqProofs (disch := omega) [-ld1_ptr, hjl, i1, b1, b2, i2, l1]
   ·rw [decide_eq_false b3] at l1;obtain ⟨H3, e3, g3, _⟩ := g.stRow Q.length (hend _) encBo_len (j := y) (c := 0) (n := 1) true (v := .bool true) hm rfl rfl (by decide) rfl;rw [marksO_set _ hy, ← take_snoc hx, set_at_end] at g3;rw [Nat.add_zero, Nat.mul_one] at e3;refine .inl ⟨_, H3, ?_, rfl, toO_step ht hx (by omega) (by omega) b3, g3⟩;rw [line_Line_Order_l1_eq];simp -implicitDefEqProofs (disch := omega) [-ld1_ptr, -stR_ptr, hjl, i1, b1, b2, i2, l1, e3])
  (fun e H' ⟨he, ht, g⟩ => by
   subst he;refine ⟨.exit 0, _, H', ?_, by simp, .inl ⟨rfl, rfl, ?_, g.drop_last⟩⟩
   ·rw [line_Line_Order_l1_eq];simp -implicitDefEqProofs
   ·unfold toO at ht;rw [List.take_length] at ht;exact ht)
 rcases hX with ⟨rfl, rfl, hok, g⟩ | ⟨rfl, rfl, hno, g⟩
 rotate_left
 ·rw [if_neg (fun hc => hno hc.2.2.2)];rw [hQ] at g;refine ⟨H2, nrm_of ?_, by rw [Option.getD_none, same]; exact g.drop_last⟩;rw [hsM] at hr1;simp -implicitDefEqProofs (disch := omega) [line_Line_Order, d1, h1, hln, d2, d3, hw1, cloneG_R k e1, hmk, hr1, line_Line_Order_l1k_r]
 rw [if_pos ⟨q1, q2, q3, hok⟩, Int.toNat_natCast, Option.getD_some];have hiQ : Q[i]? = some (itLine c ob l) := by rw [hQ, List.getElem?_append_left hlt]; exact hi
 have h7 : Q[L.length]? = some (itRow o7 2 s7 encG ((l.drop n).take o.length)) := by rw [hQ]; simp
 have hQs : ∀ l', Q.set i (itLine c ob l') = L.set i (itLine c ob l') ++ [itRow o7 2 s7 encG ((l.drop n).take o.length)] := fun l' => by rw [hQ, List.set_append_left _ _ hlt]
 obtain ⟨xx, e', H4, hr4, rfl, ⟨z, rfl⟩, g⟩ := loop_up (body := line_Line_Order_l2 k (R (T k))) o.length
  (fun j e H' => e = [(0, ptrV c), (1, .int .i64 n), (7, s7), (74, lv encI o), (75, .int .i64 o.length), (76, .int .i64 j)] ∧ Star H0 H' (Q.set i (itLine c ob (putTo l n o j))))
  (fun xx e H' => xx = .exit 2 ∧ (∃ z, e = [(0, ptrV c), (1, .int .i64 n), (7, s7), (74, lv encI o), (75, .int .i64 o.length), (76, z), (77, .bool false)]) ∧ Star H0 H' (Q.set i (itLine c ob (putTo l n o o.length))))
  (e0 := [(0, ptrV c), (1, .int .i64 n), (7, s7), (74, lv encI o), (75, .int .i64 o.length), (76, .int .i64 0)]) (H0 := H2) ⟨rfl, by
   rw [putTo_zero];have : Q.set i (itLine c ob l) = Q := by
    obtain ⟨hlt, hx⟩ := List.getElem?_eq_some_iff.1 hiQ;rw [← hx, List.set_getElem_self]
   rw [this];exact g⟩ (by omega)
  (fun j e H' hj ⟨he, g⟩ => by
   subst he;have hjl : (j : Int) < o.length := by omega
   obtain ⟨x, hx⟩ : ∃ x, o[j]? = some x := ⟨_, List.getElem?_eq_getElem hj⟩
   have i1 := fun H' => ixS_lvN encI_len o .i64 j x hx H';have hxb := hok.1 x (List.mem_of_getElem? hx);obtain ⟨y, rfl⟩ := Int.eq_ofNat_of_zero_le hxb.1;have hne : i ≠ L.length := by omega
   have h7' : (Q.set i (itLine c ob (putTo l n o j)))[L.length]? = some (itRow o7 2 s7 encG ((l.drop n).take o.length)) := by rw [List.getElem?_set_ne hne]; exact h7
   have hiQ' : (Q.set i (itLine c ob (putTo l n o j)))[i]? = some (itLine c ob (putTo l n o j)) := List.getElem?_set_self (by rw [hQ, List.length_append]; omega);obtain ⟨b7, hb7, hg7, i2⟩ := g.ix L.length h7' .i64 y (by simp; omega);obtain ⟨gl, hgl⟩ : ∃ gl, (l.drop n)[y]? = some gl := ⟨_, List.getElem?_eq_getElem (by simp; omega)⟩
   have hgl2 : ((l.drop n).take o.length)[y]? = some gl := by rw [List.getElem?_take, if_pos (by omega)]; exact hgl
   have l1 := ldA_row encG_len hg7 hgl2;obtain ⟨hne2, s2, k1, k2⟩ := g.box i hiQ';simp only [List.nil_append] at k1;have hpl := putTo_len (l := l) (a := n) (o := o) (j := j) (by omega) (by omega);obtain ⟨bL, rfl, hsL, hgL, i3⟩ := k2.ix .i64 (n + j) (by omega);obtain ⟨gj, hgj⟩ : ∃ gj, (putTo l n o j)[n + j]? = some gj := ⟨_, List.getElem?_eq_getElem (by omega)⟩
   obtain ⟨H5, e5, g5, _⟩ := g.stBox i hiQ' encG_len (c := 0) (n := 2) gl (v := .agg (encG gl).toArray) hgj rfl rfl (by decide) rfl;rw [List.set_set, putTo_step (by omega) hx (by rw [Int.toNat_natCast]; exact hgl)] at g5;rw [Nat.add_zero] at e5;rw [Int.natCast_add] at i3;refine .inl ⟨_, H5, ?_, rfl, g5⟩;rw [line_Line_Order_l2_eq];simp -implicitDefEqProofs (disch := omega) [-ldA_ptr, -stR_ptr, hjl, i1, k1, i2, l1, i3, e5])
  (fun e H' ⟨he, g⟩ => by
   subst he;refine ⟨.exit 2, _, H', ?_, by simp, rfl, ⟨.int .i64 o.length, rfl⟩, g⟩;rw [line_Line_Order_l2_eq];simp -implicitDefEqProofs)
 rw [putTo_all, hQs] at g;refine ⟨H4, nrm_of ?_, g.drop_last⟩;rw [hsM] at hr1;simp -implicitDefEqProofs (disch := omega) [line_Line_Order, d1, h1, hln, d2, d3, hw1, cloneG_R k e1, hmk, hr1, line_Line_Order_l1k_x0, hr4, line_Line_Order_l2k_x2]
end Go.Sw
end
section
namespace Go.Sw
open Go.RowKit
theorem ref11O_l2 (k : Nat) (o : List Int) (hl : o.length < 2 ^ 62) {j : Nat} {x : Int} (hx : o[j]? = some x) (a0 a1 a8 a9 : Value) (H : Heap) :
  (x ∉ o.take j → ∃ z, loopN (swashref11_Order_l2 k (R (T k))) loopFuel [(0, a0), (1, a1), (2, lv encI o), (8, a8), (9, a9), (10, .int .i64 j), (11, .int .i64 0)] H = .ok (.exit 2, [(0, a0), (1, a1), (2, lv encI o), (8, a8), (9, a9), (10, .int .i64 j), (11, z), (55, .bool false)]) H) ∧
  (x ∈ o.take j → loopN (swashref11_Order_l2 k (R (T k))) loopFuel [(0, a0), (1, a1), (2, lv encI o), (8, a8), (9, a9), (10, .int .i64 j), (11, .int .i64 0)] H = .ok (.ret, [(6, a0), (7, .bool false)]) H) := by
 have hj := (List.getElem?_eq_some_iff.1 hx).1;have i1 := fun H' => ixS_lvN encI_len o .i64 j x hx H'
 obtain ⟨xx, e', H1, hr1, hX, rfl⟩ := loop_up (body := swashref11_Order_l2 k (R (T k))) j
  (fun i e H' => e = [(0, a0), (1, a1), (2, lv encI o), (8, a8), (9, a9), (10, .int .i64 j), (11, .int .i64 i)] ∧ x ∉ o.take i ∧ H' = H)
  (fun xx e H' => ((xx = .exit 2 ∧ (∃ z, e = [(0, a0), (1, a1), (2, lv encI o), (8, a8), (9, a9), (10, .int .i64 j), (11, z), (55, .bool false)]) ∧ x ∉ o.take j) ∨ (xx = .ret ∧ e = [(6, a0), (7, .bool false)] ∧ x ∈ o.take j)) ∧ H' = H)
  (e0 := [(0, a0), (1, a1), (2, lv encI o), (8, a8), (9, a9), (10, .int .i64 j), (11, .int .i64 0)]) (H0 := H) ⟨rfl, by simp, rfl⟩ (by omega)
  (fun i e H' hi ⟨he, hn, hH⟩ => by
   subst he hH;have hij : (i : Int) < j := by omega
   obtain ⟨y, hy⟩ : ∃ y, o[i]? = some y := ⟨_, List.getElem?_eq_getElem (by omega)⟩
   have i2 := fun H' => ixS_lvN encI_len o .i64 i y hy H';by_cases c : y = x
   ·refine .inr ⟨.ret, _, _, ?_, by simp, .inr ⟨rfl, rfl, ?_⟩, rfl⟩
    ·rw [swashref11_Order_l2_eq];simp -implicitDefEqProofs (disch := omega) [hij, i1, i2, c]
    ·subst c;exact List.mem_of_getElem? (i := i) (by rw [List.getElem?_take, if_pos hi]; exact hy)
   ·have c' : (y == x) = false := by rw [beq_eq_false_iff_ne]; exact c
    refine .inl ⟨_, _, ?_, rfl, ?_, rfl⟩
    ·rw [swashref11_Order_l2_eq];simp -implicitDefEqProofs (disch := omega) [hij, i1, i2, c']
    ·rw [take_snoc hy];intro h;rcases List.mem_append.1 h with h | h
     ·exact hn h
     ·exact c (List.mem_singleton.1 h).symm)
  (fun e H' ⟨he, hn, hH⟩ => by
   subst he hH;refine ⟨.exit 2, _, _, ?_, by simp, .inl ⟨rfl, ⟨.int .i64 j, rfl⟩, hn⟩, rfl⟩;rw [swashref11_Order_l2_eq];simp -implicitDefEqProofs)
 rcases hX with ⟨rfl, ⟨z, rfl⟩, hn⟩ | ⟨rfl, rfl, hy⟩
 ·exact ⟨fun _ => ⟨z, hr1⟩, fun h => absurd h hn⟩
 ·exact ⟨fun h => absurd hy h, fun _ => hr1⟩
set_option maxHeartbeats 2000000 in
theorem refOrder_any (k : Nat) (l : List Gl) (hl : l.length < 2 ^ 30) (a : Int) (o : List Int) (ho : o.length < 2 ^ 62) (H : Heap) :
  R (T k) F.swashref11_Order [lv encG l, .int .i64 a, lv encI o] H = .ok (.tuple #[lv encG ((orderG l a o).getD l), .bool (orderG l a o).isSome]) H := by
 rw [swashref11_Order_R];have fl : ∀ (l : List Gl) b, Flat (.tuple #[lv encG l, .bool b]) := fun l b => Flat.tupleL (l := [lv encG l, .bool b]) (.cons (Flat.Gls l) (.cons (.bool _) .nil));unfold orderG;by_cases c1 : 0 ≤ a ∧ a ≤ l.length ∧ (o.length : Int) ≤ l.length - a;rotate_left
 ·rw [if_neg (fun hc => c1 ⟨hc.1, hc.2.1, hc.2.2.1⟩)];rw [Option.getD_none];refine nrm_fz (v := .tuple #[lv encG l, .bool false]) (L := []) (H' := H) ?_ rfl (Ext.refl H) (fl _ _).alive;by_cases d1 : a < 0
  ·simp -implicitDefEqProofs (disch := omega) [swashref11_Order, d1]
  ·by_cases d2 : a > l.length
   ·simp -implicitDefEqProofs (disch := omega) [swashref11_Order, d1, d2]
   ·have d3 : (o.length : Int) > l.length - a := by omega
    simp -implicitDefEqProofs (disch := omega) [swashref11_Order, d1, d2, d3]
 obtain ⟨q1, q2, q3⟩ := c1;obtain ⟨n, rfl⟩ := Int.eq_ofNat_of_zero_le q1;have d1 : ¬ (n : Int) < 0 := by omega
 have d2 : ¬ (n : Int) > l.length := by omega
 have d3 : ¬ (o.length : Int) > l.length - n := by omega
 have g := (Star.nil H).more_row (Ext.refl _) (OwnO.bare encG _ 2) (fun b hb => by cases hb);simp only [List.nil_append] at g;obtain ⟨s1, o1, H1, e1, g⟩ := g.append (bytes := 16) 0 encG_len rfl (b := lv encG l) (l2 := l) rfl (lv_first encG_len l _) (by simp; omega) (by decide);simp only [List.nil_append, List.set_cons_zero] at g
 obtain ⟨xx, e', H2, hr2, hX⟩ := loop_up (body := swashref11_Order_l1 k (R (T k))) o.length
  (fun j e H' => e = [(0, lv encG l), (1, .int .i64 n), (2, lv encI o), (8, .int .i64 o.length), (9, s1), (10, .int .i64 j)] ∧ toO o o.length j ∧ Star H H' [itRow o1 2 s1 encG (putTo l n o j)])
  (fun xx e H' => (xx = .exit 0 ∧ (∃ z, e = [(0, lv encG l), (1, .int .i64 n), (2, lv encI o), (8, .int .i64 o.length), (9, s1), (10, z), (36, .bool false)]) ∧ okO o ∧ Star H H' [itRow o1 2 s1 encG (putTo l n o o.length)]) ∨ (xx = .ret ∧ e = [(6, lv encG l), (7, .bool false)] ∧ ¬ okO o ∧ Ext H H'))
  (e0 := [(0, lv encG l), (1, .int .i64 n), (2, lv encI o), (8, .int .i64 o.length), (9, s1), (10, .int .i64 0)]) (H0 := H1) ⟨rfl, ⟨fun k hk => by simp at hk, by simp⟩, by rw [putTo_zero]; exact g⟩ (by omega)
  (fun j e H' hj ⟨he, ht, g⟩ => by
   subst he;have hjl : (j : Int) < o.length := by omega
   obtain ⟨x, hx⟩ : ∃ x, o[j]? = some x := ⟨_, List.getElem?_eq_getElem hj⟩
   have i1 := fun H' => ixS_lvN encI_len o .i64 j x hx H';by_cases b1 : x < 0
   ·refine .inr ⟨.ret, _, H', ?_, by simp, .inr ⟨rfl, rfl, notO_out hx (.inl b1), g.ext⟩⟩;rw [swashref11_Order_l1_eq];simp -implicitDefEqProofs (disch := omega) [hjl, i1, b1]
   by_cases b2 : x ≥ o.length
   ·refine .inr ⟨.ret, _, H', ?_, by simp, .inr ⟨rfl, rfl, notO_out hx (.inr b2), g.ext⟩⟩;rw [swashref11_Order_l1_eq];simp -implicitDefEqProofs (disch := omega) [hjl, i1, b1, b2]
   obtain ⟨y, rfl⟩ := Int.eq_ofNat_of_zero_le (Int.not_lt.1 b1);have hy : y < o.length := by omega
   obtain ⟨in1, in2⟩ := ref11O_l2 k o ho hx (lv encG l) (.int .i64 n) (.int .i64 o.length) s1 H';by_cases b3 : (y : Int) ∈ o.take j
   ·have in2 := in2 b3;refine .inr ⟨.ret, _, H', ?_, by simp, .inr ⟨rfl, rfl, notO_mem hx b3, g.ext⟩⟩;rw [swashref11_Order_l1_eq];simp -implicitDefEqProofs (disch := omega) [hjl, i1, b1, b2, in2, swashref11_Order_l2k_r]
   ·obtain ⟨z, in1⟩ := in1 b3;obtain ⟨gl, hgl⟩ : ∃ gl, l[n + y]? = some gl := ⟨_, List.getElem?_eq_getElem (by omega)⟩
    have i3 := fun H' => ixS_lvN encG_len l .i64 (n + y) gl hgl H';have hpl := putTo_len (l := l) (a := n) (o := o) (j := j) (by omega) (by omega);obtain ⟨b, hb, hgb, i4⟩ := g.ix 0 rfl .i64 (n + j) (by omega);subst hb;obtain ⟨gj, hgj⟩ : ∃ gj, (putTo l n o j)[n + j]? = some gj := ⟨_, List.getElem?_eq_getElem (by omega)⟩
    obtain ⟨H5, e5, g5, _⟩ := g.stRow 0 rfl encG_len (c := 0) (n := 2) gl (v := .agg (encG gl).toArray) hgj rfl rfl (by decide) rfl;rw [putTo_step (by omega) hx (by rw [Int.toNat_natCast, List.getElem?_drop]; exact hgl)] at g5;simp only [Nat.add_zero, List.set_cons_zero] at e5 g5;rw [Int.natCast_add] at i3 i4;refine .inl ⟨_, H5, ?_, rfl, toO_step ht hx (by omega) (by omega) b3, g5⟩;rw [swashref11_Order_l1_eq];simp -implicitDefEqProofs (disch := omega) [-stR_ptr, hjl, i1, b1, b2, in1, swashref11_Order_l2k_x2, i3, i4, e5])
  (fun e H' ⟨he, ht, g⟩ => by
   subst he;refine ⟨.exit 0, _, H', ?_, by simp, .inl ⟨rfl, ⟨.int .i64 o.length, rfl⟩, ?_, g⟩⟩
   ·rw [swashref11_Order_l1_eq];simp -implicitDefEqProofs
   ·unfold toO at ht;rw [List.take_length] at ht;exact ht)
 rcases hX with ⟨rfl, ⟨z, rfl⟩, hok, g⟩ | ⟨rfl, rfl, hno, hx⟩
 ·rw [if_pos ⟨q1, q2, q3, hok⟩, Int.toNat_natCast, Option.getD_some];rw [putTo_all] at g;obtain ⟨L, hf⟩ := (g.own 0 rfl).freeze encG_len (encG_still _) 5;have hft : fzV H.n H2 fzDepth (.tuple #[s1, .bool true]) = some (.tuple #[lv encG (putO l n o), .bool true], L ++ []) :=
   fz_tuple (l := [s1, .bool true]) (r := [lv encG (putO l n o), .bool true]) (mapF_cons hf (mapF_still fun v hv => by simp at hv; subst hv; trivial))
  refine nrm_fz (v := .tuple #[s1, .bool true]) (H' := H2) ?_ hft g.ext (fl _ _).alive;simp -implicitDefEqProofs (disch := omega) [swashref11_Order, d1, d2, d3, e1, hr2, swashref11_Order_l1k_x0]
 ·rw [if_neg (fun hc => hno hc.2.2.2), Option.getD_none];refine nrm_fz (v := .tuple #[lv encG l, .bool false]) (L := []) (H' := H2) ?_ rfl hx (fl _ _).alive;simp -implicitDefEqProofs (disch := omega) [swashref11_Order, d1, d2, d3, e1, hr2, swashref11_Order_l1k_r]
end Go.Sw
end
section
set_option maxRecDepth 100000
set_option linter.unusedVariables false
namespace Go.Sw
noncomputable section
end
end Go.Sw
end
section
set_option maxRecDepth 100000
set_option linter.unusedVariables false
namespace Go.Sw
noncomputable section
end
end Go.Sw
end
section
namespace Go.Sw
structure Pl where
 adv : Int
 x : Int
 y : Int
 deriving DecidableEq
def Pl.ok (p : Pl) : Prop := (-2147483648 ≤ p.adv ∧ p.adv ≤ 2147483647) ∧ (-2147483648 ≤ p.x ∧ p.x ≤ 2147483647) ∧ (-2147483648 ≤ p.y ∧ p.y ≤ 2147483647)
end Go.Sw
end
section
namespace Go.Sw
end Go.Sw
end
section
namespace Go.Sw
end Go.Sw
end
section
namespace Go.Sw
end Go.Sw
end
section
namespace Go.Sw
open Go.RowKit
end Go.Sw
end
section
namespace Go.Sw
open Go.RowKit
end Go.Sw
end
section
namespace Go.Sw
open Go.RowKit
def oddB (vs : List Int) (a : Int) : Bool := (List.range (vs.length / 2)).any fun i => decide (a ≤ (i : Int) ∧ gU vs (2 * (i : Int)) 2 % 2 = 1)
structure STab where
 m : Mach
 vals : List Int
structure STab.ok (t : STab) : Prop where
 m : t.m.ok
 byt : Byt t.vals
 len : t.vals.length < 2 ^ 31
 has : ∀ e, e ∈ t.m.ents → e.a = 65535 ∨ oddB t.vals e.a = true
end Go.Sw
end
section
namespace Go.Sw
open Go.RowKit
end Go.Sw
end
section
namespace Go.Sw
open Go.RowKit
end Go.Sw
end
section
namespace Go.Sw
open Go.RowKit
end Go.Sw
end
section
namespace Go.Sw
open Go.RowKit
end Go.Sw
end
section
namespace Go.Sw
open Go.RowKit
end Go.Sw
end
section
namespace Go.Sw
open Go.RowKit
structure CTab where
 m : Mach
 subs : List (Int × List Pt)
end Go.Sw
end
section
namespace Go.Sw
open Go.RowKit
end Go.Sw
end
section
namespace Go.Sw
open Go.RowKit
end Go.Sw
end
section
namespace Go.Sw
open Go.RowKit Go.Proofs
set_option maxRecDepth 20000 in
theorem catch_short (p : Addr) (b : Bool) (w : World) (hc : (w.alloc (.cells #[] 190)).cell? p = some (.bool b)) (hz : (w.alloc (.cells #[] 190)).frozen? p = false) :
  CallsD Prog 100 #[.pointer (some p)] (.panicking [{ v := .iface 190 (.agg #[]), recovered := false }]) w fun e u' w' =>
   e = .returned (.tuple #[]) ∧ u' = .panicking [{ v := .iface 190 (.agg #[]), recovered := true }] ∧ w' = (w.alloc (.cells #[] 190)).setCell p (.bool false) := by
 refine callsD_of_wpS Try.func100 rfl fun c₀ cs hu => ?_;apply wpS_seq;apply wpS_region;simp [wpOpsS, go_sem, recoverD, hu, Try.ntmps100, Exit.thenS];have hta : ∀ w, (Instr.typeAssert (.iface 190 (.agg #[])) 20 190 true).run Prog w = .ok (.tuple #[.agg #[], .bool true]) w := fun w => by kernel_rfl
 refine wpS_of_wp ?_
 go_wp2
 cases c₀;simp_all [bodyPostS, results, Try.results100]
theorem catch_idle (p : Addr) (w : World) :
  CallsD Prog 100 #[.pointer (some p)] .returning w fun e u' w' => e = .returned (.tuple #[]) ∧ u' = .returning ∧ w' = w := by
 refine callsD_of_wpS Try.func100 rfl fun c₀ cs hu => ?_;apply wpS_seq;apply wpS_region;simp [wpOpsS, go_sem, recoverD, hu, Try.ntmps100, Exit.thenS];refine wpS_of_wp ?_
 go_wp2
 cases c₀;simp_all [bodyPostS, results, Try.results100]
set_option maxRecDepth 20000 in
theorem try_walk (g : FuncId) (first cap : Array Value) (w : World) (R : Ending → World → Prop)
  (hcf : (callFunc g (first ++ cap)).run Prog (w.alloc (.cells #[.bool false] 4)) = .ok (.enter g (first ++ cap)) (w.alloc (.cells #[.bool false] 4)))
  (hcall : Calls Prog g (first ++ cap) (w.alloc (.cells #[.bool false] 4)) fun e w' => match e with
   | .returned _ => w'.heap[w.heap.size]? = some (.cells #[.bool false] 4 (0, 0)) ∧ R (.returned (.bool true)) (w'.setCell ⟨w.heap.size, 0, none⟩ (.bool true))
   | .panicked chain => chain = [{ v := .iface 190 (.agg #[]), recovered := false }] ∧ w'.heap[w.heap.size]? = some (.cells #[.bool false] 4 (0, 0)) ∧ R (.returned (.bool false)) ((w'.alloc (.cells #[] 190)).setCell ⟨w.heap.size, 0, none⟩ (.bool false))
   | .outgrown => False) :
  Calls Prog 40 #[.func (.func g) first cap] w R := by
 have hmf : ∀ (fn : Fn) (first cap : Array Value) (w : World), (Instr.makeFunc fn first cap).run Prog w = .ok (.func fn first cap) w := fun _ _ _ _ => rfl
 go_enter_defers Try.func40, Try.ntmps40
 go_wp2
 rename_i K2 hK2 K1 hK1;refine hcall.mono fun e w' he => ?_;cases e with
 | returned v =>
  obtain ⟨h1, h2⟩ := he;have hc : w'.cell? ⟨w.heap.size, 0, none⟩ = some (.bool false) := by simp [World.cell?, h1]
  have hz : w'.frozen? ⟨w.heap.size, 0, none⟩ = false := by simp [World.frozen?, h1]
  apply hK1;apply hK2
  go_wp2
  have hc2 : (w'.setCell ⟨w.heap.size, 0, none⟩ (.bool true)).cell? ⟨w.heap.size, 0, none⟩ = some (.bool true) := World.cell?_setCell_same _ _ _ hc;refine leaves_cons (f := 100) (args := #[.pointer (some ⟨w.heap.size, 0, none⟩)]) (by simp) (by simp [go_sem]) ?_;refine (catch_idle ⟨w.heap.size, 0, none⟩ _).mono ?_;rintro e u' w'' ⟨rfl, rfl, rfl⟩;simp [Leaves, settle, results, Try.results40, go_sem, hc2];exact h2
 | panicked chain =>
  obtain ⟨h0, h1, h2⟩ := he;subst h0;have hlt : w.heap.size < w'.heap.size := by
   rcases Nat.lt_or_ge w.heap.size w'.heap.size with h | h
   ·exact h
   ·rw [Array.getElem?_eq_none h] at h1; cases h1
  have h3 : (w'.alloc (.cells #[] 190)).heap[w.heap.size]? = some (.cells #[.bool false] 4 (0, 0)) := by
   rw [heap_alloc_lt _ _ _ hlt]; exact h1
  have hc : (w'.alloc (.cells #[] 190)).cell? ⟨w.heap.size, 0, none⟩ = some (.bool false) := by simp only [World.cell?, h3]; rfl
  have hz : (w'.alloc (.cells #[] 190)).frozen? ⟨w.heap.size, 0, none⟩ = false := by simp [World.frozen?, h3]
  have hc2 : ((w'.alloc (.cells #[] 190)).setCell ⟨w.heap.size, 0, none⟩ (.bool false)).cell? ⟨w.heap.size, 0, none⟩ = some (.bool false) := World.cell?_setCell_same _ _ _ hc;show Leaves _ _ _ _ _ _ _;refine leaves_cons (f := 100) (args := #[.pointer (some ⟨w.heap.size, 0, none⟩)]) (by simp) (by simp [go_sem]) ?_;refine (catch_short ⟨w.heap.size, 0, none⟩ false _ hc hz).mono ?_;rintro e u' w'' ⟨rfl, rfl, rfl⟩;simp [Leaves, settle, results, Try.results40, go_sem, hc2];exact h2
 | outgrown => exact he.elim
theorem try_is : SpIs Prog 40 (tryV 190) := try_of (bt := 4) Try.func40 rfl (by kernel_rfl) try_walk
end Go.Sw
end
section
namespace Go.Sw
open Go.RowKit
structure CTab.ok (t : CTab) : Prop where
 m : t.m.ok
 subs : ∀ x, x ∈ t.subs → (∀ p, p ∈ x.2 → p.ok) ∧ risesS x.2 = true ∧ x.2.length < 2 ^ 31
 has : ∀ e, e ∈ t.m.ents → (e.a = 65535 ∨ e.a < t.subs.length) ∧ (e.b = 65535 ∨ e.b < t.subs.length)
end Go.Sw
end
section
namespace Go.Sw
open Go.RowKit
end Go.Sw
end
section
namespace Go.Sw
open Go.RowKit
end Go.Sw
end
section
namespace Go.Sw
open Go.RowKit
end Go.Sw
end
section
namespace Go.Sw
open Go.RowKit
end Go.Sw
end
section
namespace Go.Sw
open Go.RowKit
end Go.Sw
end
section
namespace Go.Sw
open Go.RowKit
end Go.Sw
end
section
set_option maxRecDepth 100000
set_option linter.unusedVariables false
namespace Go.Sw
noncomputable section
end
end Go.Sw
end
section
namespace Go.Sw
open Go.RowKit
end Go.Sw
end
section
namespace Go.Sw
open Go.RowKit
end Go.Sw
end
section
namespace Go.Sw
open Go.RowKit
end Go.Sw
end
section
namespace Go.Sw
open Go.RowKit
variable {σ : Type}
end Go.Sw
end
section
namespace Go.Sw
open Go.RowKit
end Go.Sw
end
section
namespace Go.Sw
open Go.RowKit
end Go.Sw
end
section
namespace Go.Sw
open Go.RowKit
end Go.Sw
end
section
namespace Go.Sw
open Go.RowKit
end Go.Sw
end
section
namespace Go.Sw
open Go.RowKit
def lastB (vs : List Int) (a : Int) : Bool := (List.range (vs.length / 4)).any fun i => decide (a ≤ (i : Int) ∧ gU vs (4 * (i : Int)) 4 ≥ 2147483648)
structure LTab where
 m : Mach
 acts : List Int
 comps : List Int
 ligs : List Int
structure LTab.ok (t : LTab) : Prop where
 m : t.m.ok
 byt : Byt t.acts ∧ Byt t.comps ∧ Byt t.ligs
 len : t.acts.length < 2 ^ 31 ∧ t.comps.length < 2 ^ 31 ∧ t.ligs.length < 2 ^ 31
 has : ∀ e, e ∈ t.m.ents → ¬ e.flags / 8192 % 2 = 1 ∨ lastB t.acts e.a = true
def join1 (i : Int) (l : List Gl) (k : Int) : List Gl := match atG l k with | some h => if 0 ≤ i ∧ i < l.length then l.modify i.toNat fun g => ⟨g.id, min g.cl h.cl⟩ else l | none => l
def joinG (l : List Gl) (i : Int) (ks : List Int) : List Gl := ks.foldl (join1 i) l
theorem join1_len (i : Int) (l : List Gl) (k : Int) : (join1 i l k).length = l.length := by
 unfold join1;split
 ·split <;> simp
 ·rfl
theorem joinG_len (i : Int) : ∀ (ks : List Int) (l : List Gl), (joinG l i ks).length = l.length
 | [], _ => rfl
 | k :: ks, l => by
  have := joinG_len i ks (join1 i l k);unfold joinG at this ⊢;rw [List.foldl_cons, this, join1_len]
end Go.Sw
end
section
set_option maxRecDepth 100000
set_option linter.unusedVariables false
namespace Go.Sw
noncomputable section
end
end Go.Sw
end
section
namespace Go.Sw
open Go.RowKit
end Go.Sw
end
section
namespace Go.Sw
open Go.RowKit
end Go.Sw
end
section
set_option maxRecDepth 100000
set_option linter.unusedVariables false
namespace Go.Sw
noncomputable section
end
end Go.Sw
end
section
namespace Go.Sw
open Go.RowKit
end Go.Sw
end
section
namespace Go.Sw
open Go.RowKit
end Go.Sw
end
section
namespace Go.Sw
open Go.RowKit
end Go.Sw
end
section
namespace Go.Sw
open Go.RowKit
end Go.Sw
end
section
namespace Go.Sw
open Go.RowKit
end Go.Sw
end
section
namespace Go.Sw
open Go.RowKit
end Go.Sw
end
section
namespace Go.Sw
open Go.RowKit
end Go.Sw
end
section
namespace Go.Sw
open Go.RowKit
end Go.Sw
end
section
namespace Go.Sw
open Go.RowKit
structure CPlan where
 m : Plan
 subs : List (List Int)
def CPlan.ok (p : CPlan) : Prop := (p.m.ok ∧ p.subs.length < 2 ^ 63) ∧ ∀ s, s ∈ p.subs → ∀ n, n ∈ s → 0 ≤ n ∧ n < 65536
def CSmall (p : CPlan) (n : Nat) : Prop := (∀ s, s ∈ p.subs → s.length ≤ 60) ∧ p.m.cls.length ≤ 40 ∧ p.m.rows.length ≤ 20 ∧ p.m.ents.length ≤ 40 ∧ p.subs.length ≤ 20 ∧ n ≤ 60
instance (p : CPlan) (n : Nat) : Decidable (CSmall p n) := by unfold CSmall; infer_instance
end Go.Sw
end
section
namespace Go.Sw
open Go.RowKit
end Go.Sw
end
section
namespace Go.Sw
open Go.RowKit
end Go.Sw
end
section
namespace Go.Sw
open Go.RowKit
end Go.Sw
end
section
namespace Go.Sw
open Go.RowKit
end Go.Sw
end
section
namespace Go.Sw
open Go.RowKit
theorem joinG_out {l : List Gl} {i : Int} (h : ¬ (0 ≤ i ∧ i < l.length)) : ∀ ks : List Int, joinG l i ks = l
 | [] => rfl
 | k :: ks => by
  have : join1 i l k = l := by
   unfold join1;split
   ·rw [if_neg h]
   ·rfl
  show joinG (join1 i l k) i ks = l;rw [this];exact joinG_out h ks
theorem joinG_snoc (l : List Gl) (i : Int) (ks : List Int) (k : Int) : joinG l i (ks ++ [k]) = join1 i (joinG l i ks) k := by unfold joinG; rw [List.foldl_append]; rfl
set_option maxHeartbeats 1000000 in
theorem lineJoin_starG (k : Nat) {H0 H : Heap} {L : List It} (h : Star H0 H L) (il : Nat) {c : Nat} {o : Option Nat} {l : List Gl} (hil : L[il]? = some (itLine c o l)) {s : Value} {ks : List Int} (hv : ∀ H' l', Star H0 H' (L.set il (itLine c o l')) → Sl H' 1 s encI ks) (hks : ks.length < 2 ^ 31) (i : Int) :
  ∃ H', R (T k) F.line_Line_Join [ptrV c, .int .i64 i, s] H = .ok (.tuple #[]) H' ∧ Star H0 H' (L.set il (itLine c o (joinG l i ks))) := by
 have hin := lineIn_run k h il hil (Ext.refl H) i;rw [line_Line_Join_R];by_cases hj : 0 ≤ i ∧ i < l.length;rotate_left
 ·rw [joinG_out hj, set_same hil];rw [decide_eq_false hj] at hin;refine ⟨H, nrm_of ?_, h⟩;simp -implicitDefEqProofs [line_Line_Join, hin]
 rw [decide_eq_true hj] at hin;obtain ⟨n, rfl⟩ := Int.eq_ofNat_of_zero_le hj.1;have hlt := (List.getElem?_eq_some_iff.1 hil).1;have hlen := (hv H l (by rw [set_same hil]; exact h)).len
 obtain ⟨xx, e', H1, hr, rfl, rfl, g⟩ := loop_up (body := line_Line_Join_l1 k (R (T k))) ks.length
  (fun j e H' => e = [(0, ptrV c), (1, .int .i64 n), (14, s), (15, .int .i64 ks.length), (16, .int .i64 j)] ∧ Star H0 H' (L.set il (itLine c o (joinG l n (ks.take j)))))
  (fun xx e H' => xx = .exit 0 ∧ e = [(0, ptrV c), (1, .int .i64 n), (14, s), (15, .int .i64 ks.length), (16, .int .i64 ks.length), (17, .bool false)] ∧ Star H0 H' (L.set il (itLine c o (joinG l n ks))))
  (e0 := [(0, ptrV c), (1, .int .i64 n), (14, s), (15, .int .i64 ks.length), (16, .int .i64 0)]) (H0 := H) ⟨rfl, by rw [List.take_zero]; show Star H0 H (L.set il (itLine c o l)); rw [set_same hil]; exact h⟩ (by omega)
  (fun j e H' hj2 ⟨he, g⟩ => by
   subst he;have hjl : (j : Int) < ks.length := by omega
   obtain ⟨x, hx⟩ : ∃ x, ks[j]? = some x := ⟨_, List.getElem?_eq_getElem hj2⟩
   have hil2 : (L.set il (itLine c o (joinG l n (ks.take j))))[il]? = some (itLine c o (joinG l n (ks.take j))) := List.getElem?_set_self hlt;obtain ⟨p, i1, i2⟩ := (hv H' _ g).ix1 encI_len j x hx _ rfl;have i2 := i2 H' (Ext.refl _);have hat := lineAt_run k g il hil2 x;have hjn := joinG_len (n : Int) (ks.take j) l;rw [take_snoc hx];have e2 := joinG_snoc l n (ks.take j) x;cases hq : atG (joinG l n (ks.take j)) x with
   | none =>
    rw [hq] at hat;have : joinG l n (ks.take j ++ [x]) = joinG l n (ks.take j) := by rw [e2]; unfold join1; rw [hq]
    rw [this];refine .inl ⟨_, H'.push ⟨[.int .i64 0, .int .i64 0], 1, false⟩, ?_, rfl, g.rest ((Ext.refl _).push _)⟩;rw [line_Line_Join_l1_eq];simp -implicitDefEqProofs (disch := omega) [hjl, i1, i2, hat, encA, line_Line_Join_j2_eq]
   | some q =>
    rw [hq] at hat;have gp := g.push ⟨encG q, 1, false⟩;have hil3 : (L.set il (itLine c o (joinG l n (ks.take j))) ++ [itBlk H'.n ⟨encG q, 1, false⟩])[il]? = some (itLine c o (joinG l n (ks.take j))) := by rw [List.getElem?_append_left (by simpa using hlt)]; exact hil2
    obtain ⟨y, hy⟩ : ∃ y, (joinG l n (ks.take j))[n]? = some y := ⟨_, List.getElem?_eq_getElem (by omega)⟩
    obtain ⟨_, s3, h1, h2⟩ := gp.box il hil3;simp at h1;obtain ⟨b, rfl, hs, hb, ix⟩ := h2.ix .i64 n (by omega);have l1 := ld1_row encG_len hb (i := n) (c := 1) hy (by decide) rfl;obtain ⟨H3, e3, g3, _⟩ := gp.stBox il hil3 encG_len (c := 1) (n := 1) (⟨y.id, min y.cl q.cl⟩ : Gl) (v := .int .i64 (min y.cl q.cl)) hy rfl rfl (by decide) rfl;have hcn : ¬ c = H'.n := by
     have := (g.lt il hil2 c (by simp [itLine, itBox])).2;omega
    have hfin : joinG l n (ks.take j ++ [x]) = (joinG l n (ks.take j)).set n ⟨y.id, min y.cl q.cl⟩ := by
     rw [e2];unfold join1;rw [hq];dsimp only;rw [if_pos ⟨by omega, by omega⟩, Int.toNat_natCast, modify_set _ _ _ _ hy]
    have hmin : (if q.cl < y.cl then q.cl else y.cl) = min y.cl q.cl := by rw [Int.min_def]; split <;> split <;> omega
    refine .inl ⟨_, H3, ?_, rfl, ?_⟩
    ·rw [line_Line_Join_l1_eq];have gq : (H'.push ⟨encG q, 1, false⟩).get H'.n = some ⟨encG q, 1, false⟩ := get_push_eq _ _ _ rfl;rw [if_neg hcn] at h1;simp -implicitDefEqProofs (disch := omega) [-stR_ptr, stR_ptr 2 H'.n 0, -ld1_ptr, ld1_ptr H'.n 1, ld1_ptr c 0, hjl, i1, i2, hat, encA, h1, ix, l1, hmin, e3, gq, line_Line_Join_j1_eq, hcn]
    ·rw [hfin];rw [List.set_append_left _ _ (by simpa using hlt), List.set_set] at g3;exact g3.drop_last)
  (fun e H' ⟨he, g⟩ => by
   subst he;rw [List.take_length] at g;refine ⟨.exit 0, _, H', ?_, by simp, rfl, rfl, g⟩;rw [line_Line_Join_l1_eq];simp -implicitDefEqProofs)
 refine ⟨H1, nrm_of ?_, g⟩;simp -implicitDefEqProofs [line_Line_Join, hin, hlen, hr, line_Line_Join_l1k_x0]
end Go.Sw
end
section
namespace Go.Sw
open Go.RowKit
theorem joinG_facts (l : List Gl) (i : Nat) {g : Gl} (hg : l[i]? = some g) : ∀ ks : List Int, (∀ x : Nat, x ≠ i → (joinG l (i : Int) ks)[x]? = l[x]?) ∧ ∃ c, (joinG l (i : Int) ks)[i]? = some ⟨g.id, c⟩ ∧ c ≤ g.cl := by
 intro ks
 induction hn : ks.length generalizing ks with
 | zero =>
  obtain rfl := List.eq_nil_of_length_eq_zero hn;exact ⟨fun x _ => rfl, g.cl, hg, Int.le_refl _⟩
 | succ n ih =>
  obtain ⟨ks', z, rfl⟩ : ∃ ks' z, ks = ks' ++ [z] := ⟨ks.dropLast, ks.getLast (by intro h; rw [h] at hn; cases hn), (List.dropLast_concat_getLast _).symm⟩
  rw [joinG_snoc];obtain ⟨a1, c, a2, a3⟩ := ih ks' (by simpa using hn);have hil : i < (joinG l (i : Int) ks').length := (List.getElem?_eq_some_iff.1 a2).1;unfold join1;cases hz : atG (joinG l (i : Int) ks') z with
  | none => exact ⟨a1, c, a2, a3⟩
  | some q =>
   dsimp only;rw [if_pos ⟨by omega, by omega⟩, Int.toNat_natCast];refine ⟨fun x hx => ?_, min c q.cl, ?_, by omega⟩
   ·rw [List.getElem?_modify];simp only [if_neg (fun h : i = x => hx h.symm)];simpa using a1 x hx
   ·rw [List.getElem?_modify, a2];simp
set_option maxHeartbeats 1000000 in
theorem refJoin_run (k : Nat) (l : List Gl) (hl : l.length < 2 ^ 30) (i : Int) {H : Heap} {v : Value} {ks : List Int} (hv : Sl H 1 v encI ks) (hkl : ks.length < 2 ^ 30) : R (T k) F.swashref11_Join [lv encG l, .int .i64 i, v] H = .ok (lv encG (joinG l i ks)) H := by
 rw [swashref11_Join_R];have g := (Star.nil H).more_row (Ext.refl _) (OwnO.bare encG _ 2) (fun b hb => by cases hb);obtain ⟨s1, o1, H1, e1, g⟩ := g.append (bytes := 16) 0 encG_len rfl (b := lv encG l) (l2 := l) rfl (lv_first encG_len l _) (by simp; omega) (by decide);simp only [List.nil_append, List.set_cons_zero] at g;have hln : ∀ H', lnS v H' = .ok (.int .i64 ks.length) H' := fun H' => hv.len H'
 obtain ⟨xx, e', H2, hr, rfl, zz, yy, rfl, g2⟩ := loop_up (body := swashref11_Join_l1 k (R (T k))) ks.length
  (fun j e H' => e = [(0, lv encG l), (1, .int .i64 i), (2, v), (7, s1), (8, .int .i64 j)] ∧ Star H H' [itRow o1 2 s1 encG (joinG l i (ks.take j))])
  (fun xx e H' => xx = .exit 0 ∧ ∃ zz yy, e = [(0, lv encG l), (1, .int .i64 i), (2, v), (7, s1), (8, zz), (26, yy)] ∧ Star H H' [itRow o1 2 s1 encG (joinG l i ks)])
  (e0 := [(0, lv encG l), (1, .int .i64 i), (2, v), (7, s1), (8, .int .i64 0)]) (H0 := H1) ⟨rfl, g⟩ (by omega)
  (fun j e H' hj ⟨he, g⟩ => by
   subst he;have hjl : (j : Int) < ks.length := by omega
   obtain ⟨z, hz⟩ : ∃ z, ks[j]? = some z := ⟨_, List.getElem?_eq_getElem hj⟩
   obtain ⟨p, i1, i2⟩ := hv.ix1 encI_len j z hz _ rfl;have i2 := i2 H' g.ext;by_cases d1 : i ≥ 0;rotate_left
   ·rw [joinG_out (by omega)] at g;refine .inr ⟨.exit 0, _, H', ?_, by simp, rfl, .int .i64 j, .bool false, rfl, by rw [joinG_out (by omega)]; exact g⟩;rw [swashref11_Join_l1_eq];simp -implicitDefEqProofs (disch := omega) [hln, hjl, d1]
   by_cases d2 : i < (l.length : Int)
   rotate_left
   ·rw [joinG_out (by omega)] at g;refine .inr ⟨.exit 0, _, H', ?_, by simp, rfl, .int .i64 j, .bool false, rfl, by rw [joinG_out (by omega)]; exact g⟩;rw [swashref11_Join_l1_eq];simp -implicitDefEqProofs (disch := omega) [hln, hjl, d1, d2]
   obtain ⟨n, rfl⟩ := Int.eq_ofNat_of_zero_le d1;have hn : n < l.length := by omega
   obtain ⟨gl, hgl⟩ : ∃ gl, l[n]? = some gl := ⟨_, List.getElem?_eq_getElem hn⟩
   obtain ⟨f1, c, f2, f3⟩ := joinG_facts l n hgl (ks.take j);have hnl : n < (joinG l (n : Int) (ks.take j)).length := (List.getElem?_eq_some_iff.1 f2).1;have hlen := joinG_len (n : Int) (ks.take j) l;have hsn : joinG l (n : Int) (ks.take (j + 1)) = join1 (n : Int) (joinG l (n : Int) (ks.take j)) z := by rw [take_snoc hz, joinG_snoc]
   obtain ⟨cc, hc, hgc, ix⟩ := g.ix 0 rfl .i64 n hnl;subst hc;have l1 := ld1_row encG_len hgc (i := n) (c := 1) f2 (by decide) rfl;have a1 : atG (joinG l (n : Int) (ks.take j)) z = if 0 ≤ z ∧ z < l.length then (joinG l (n : Int) (ks.take j))[z.toNat]? else none := by unfold atG; rw [hlen]
   by_cases d3 : z ≥ 0;rotate_left
   ·have hj1 : joinG l (n : Int) (ks.take (j + 1)) = joinG l (n : Int) (ks.take j) := by
     rw [hsn];unfold join1;rw [a1, if_neg (by omega)]
    refine .inl ⟨_, H', ?_, rfl, by rw [hj1]; exact g⟩;rw [swashref11_Join_l1_eq];simp -implicitDefEqProofs (disch := omega) [hln, hjl, d1, d2, i1, i2, d3, swashref11_Join_j2_eq]
   by_cases d4 : z < (l.length : Int)
   rotate_left
   ·have hj1 : joinG l (n : Int) (ks.take (j + 1)) = joinG l (n : Int) (ks.take j) := by
     rw [hsn];unfold join1;rw [a1, if_neg (by omega)]
    refine .inl ⟨_, H', ?_, rfl, by rw [hj1]; exact g⟩;rw [swashref11_Join_l1_eq];simp -implicitDefEqProofs (disch := omega) [hln, hjl, d1, d2, i1, i2, d3, d4, swashref11_Join_j2_eq]
   obtain ⟨m, rfl⟩ := Int.eq_ofNat_of_zero_le d3;have hm : m < l.length := by omega
   obtain ⟨q, hq⟩ : ∃ q, l[m]? = some q := ⟨_, List.getElem?_eq_getElem hm⟩
   have ixl := fun H' => ixS_lvN encG_len l .i64 m q hq H';rw [if_pos ⟨d3, d4⟩, Int.toNat_natCast] at a1;by_cases d5 : q.cl < c
   ·have hmn : m ≠ n := by
     intro h;subst h;rw [hgl] at hq;injection hq with hq;subst hq;omega
    rw [f1 m hmn, hq] at a1;have hj1 : joinG l (n : Int) (ks.take (j + 1)) = (joinG l (n : Int) (ks.take j)).set n ⟨gl.id, q.cl⟩ := by
     rw [hsn];unfold join1;rw [a1];dsimp only;rw [if_pos ⟨by omega, by omega⟩, Int.toNat_natCast];apply List.ext_getElem?;intro x;rw [List.getElem?_modify, List.getElem?_set];by_cases hx : n = x
     ·subst hx;rw [f2, if_pos rfl, if_pos hnl];simp;omega
     ·simp [hx]
    obtain ⟨H3, e3, g3, _⟩ := g.stRow 0 rfl encG_len (j := n) (c := 1) (n := 1) (⟨gl.id, q.cl⟩ : Gl) (v := .int .i64 q.cl) f2 rfl rfl (by decide) rfl;simp only [List.set_cons_zero] at g3;rw [← hj1] at g3;refine .inl ⟨_, H3, ?_, rfl, g3⟩;rw [swashref11_Join_l1_eq];simp -implicitDefEqProofs (disch := omega) [-stR_ptr, -ld1_ptr, hln, hjl, d1, d2, i1, i2, d3, d4, ixl, ix, l1, d5, e3, swashref11_Join_j1_eq]
   ·have hj1 : joinG l (n : Int) (ks.take (j + 1)) = joinG l (n : Int) (ks.take j) := by
     rw [hsn];obtain ⟨q', hq', hqc⟩ : ∃ q', (joinG l (n : Int) (ks.take j))[m]? = some q' ∧ c ≤ q'.cl := by
      by_cases hmn : m = n
      ·subst hmn;exact ⟨_, f2, Int.le_refl _⟩
      ·exact ⟨q, by rw [f1 m hmn]; exact hq, by omega⟩
     rw [hq'] at a1;unfold join1;rw [a1];dsimp only;rw [if_pos ⟨by omega, by omega⟩, Int.toNat_natCast];apply List.ext_getElem?;intro x;rw [List.getElem?_modify];by_cases hx : n = x
     ·subst hx;rw [f2];simp;omega
     ·simp [hx]
    refine .inl ⟨_, H', ?_, rfl, by rw [hj1]; exact g⟩;rw [swashref11_Join_l1_eq];simp -implicitDefEqProofs (disch := omega) [-ld1_ptr, hln, hjl, d1, d2, i1, i2, d3, d4, ixl, ix, l1, d5, swashref11_Join_j2_eq])
  (fun e H' ⟨he, g⟩ => by
   subst he;rw [List.take_length] at g;refine ⟨.exit 0, _, H', ?_, by simp, rfl, .int .i64 ks.length, .bool false, rfl, g⟩;rw [swashref11_Join_l1_eq];simp -implicitDefEqProofs [hln])
 obtain ⟨L, hf⟩ := (g2.own 0 rfl).freeze encG_len (encG_still _) 6;refine nrm_fz (v := s1) (H' := H2) ?_ hf g2.ext (Flat.Gls _).alive;simp -implicitDefEqProofs [swashref11_Join, e1, hr, swashref11_Join_l1k_x0]
end Go.Sw
end
section
namespace Go.Sw
open Go.RowKit
structure Ch where
 k : Int
 i : Int
 ids : List Int
abbrev encCh (o : Ch) : List Value := [.int .i64 o.k, .int .i64 o.i, lv encI o.ids]
theorem encCh_len (o : Ch) : (encCh o).length = 3 := rfl
def doG (l : List Gl) (o : Ch) : List Gl :=
 if o.k = 0 then setG l o.i (o.ids.headD 0) else if o.k = 1 then insertG l o.i o.ids else if o.k = 2 then (orderG l o.i o.ids).getD l else if o.k = 3 then joinG l o.i o.ids
 else if o.k = 4 then l.reverse else if o.k = 5 then cleanG l else l
theorem doG_len (l : List Gl) (o : Ch) : (doG l o).length ≤ l.length + o.ids.length := by
 unfold doG;split
 ·rw [setG_len]; omega
 split
 ·unfold insertG;split
  ·simp; omega
  ·omega
 split
 ·cases h : orderG l o.i o.ids with
  | none => simp
  | some m => rw [Option.getD_some, orderG_len h]; omega
 split
 ·rw [joinG_len]; omega
 split
 ·simp
 split
 ·have := cleanG_len l; omega
 ·omega
theorem chId_run (k : Nat) (ids : List Int) (H : Heap) : R (T k) F.swashlaw11_id [lv encI ids] H = .ok (.int .i64 (ids.headD 0)) H := by
 rw [swashlaw11_id_R];refine nrm_gc ⟨H, ?_, Ext.refl H⟩ (.int _ _);cases ids with
 | nil => simp -implicitDefEqProofs [swashlaw11_id]
 | cons x r =>
  have i1 := fun H' => ixS_lvN encI_len (x :: r) .i64 0 x rfl H';have hne : (((x :: r).length : Int) == 0) = false := by simp; omega
  simp only [Int.natCast_zero] at i1;simp -implicitDefEqProofs [-List.length_cons, swashlaw11_id, hne, i1]
set_option maxHeartbeats 2000000 in
theorem do11_run (k : Nat) {H0 H : Heap} {c : Nat} {o : Option Nat} {l : List Gl} (h : Star H0 H [itLine c o l]) (p : Ch) (hl : l.length + p.ids.length ≤ 2 ^ 29) :
  ∃ o' H', R (T k) F.swashlaw11_do [ptrV c, lv encG l, .agg (encCh p).toArray] H = .ok (.tuple #[lv encG (doG l p), .bool true]) H' ∧ Star H0 H' [itLine c o' (doG l p)] := by
 obtain ⟨kd, i, ids⟩ := p;simp only at hl;have g := h.push ⟨encCh ⟨kd, i, ids⟩, 1, false⟩;simp only [List.cons_append, List.nil_append] at g;have hb := g.get 1 rfl;rw [swashlaw11_do_R];unfold doG;dsimp only;by_cases d0 : kd = 0
 ·subst d0;rw [if_pos rfl];obtain ⟨H1, e1, g1⟩ := lineSet_star k g 0 rfl i (ids.headD 0);simp only [List.set_cons_zero] at g1;have hb1 := g1.get 1 rfl;have i1 := chId_run k ids;have r1 := refSet_run k l (by omega) i (ids.headD 0) H1;refine ⟨o, H1, nrm_of ?_, g1.take 1⟩;simp -implicitDefEqProofs [-List.headD_eq_head?_getD, swashlaw11_do, i1, e1, hb1, r1, swashlaw11_do_j1_eq]
 rw [if_neg d0];by_cases d1 : kd = 1
 ·subst d1;rw [if_pos rfl];obtain ⟨o1, H1, e1, g1⟩ := lineInsert_starG k g 0 rfl i (fun H' _ _ => Sl.lv H' 1 ids) (by omega);simp only [List.set_cons_zero] at g1;have hb1 := g1.get 1 rfl;have r1 := ref11Insert_run k l (by omega) i ids (by omega) H1;refine ⟨o1, H1, nrm_of ?_, g1.take 1⟩;simp -implicitDefEqProofs [swashlaw11_do, e1, hb1, r1, swashlaw11_do_j1_eq]
 rw [if_neg d1];by_cases d2 : kd = 2
 ·subst d2;rw [if_pos rfl];obtain ⟨H1, e1, g1⟩ := lineOrder_any k g 0 rfl (by omega) i ids (by omega);simp only [List.set_cons_zero] at g1;have hb1 := g1.get 1 rfl;have r1 := refOrder_any k l (by omega) i ids (by omega) H1;refine ⟨o, H1, nrm_of ?_, g1.take 1⟩;simp -implicitDefEqProofs [swashlaw11_do, e1, hb1, r1, swashlaw11_do_j1_eq]
 rw [if_neg d2];by_cases d3 : kd = 3
 ·subst d3;rw [if_pos rfl];obtain ⟨H1, e1, g1⟩ := lineJoin_starG k g 0 rfl (fun H' _ _ => Sl.lv H' 1 ids) (by omega) i;simp only [List.set_cons_zero] at g1;have hb1 := g1.get 1 rfl;have r1 := refJoin_run k l (by omega) i (Sl.lv H1 1 ids) (by omega);refine ⟨o, H1, nrm_of ?_, g1.take 1⟩;simp -implicitDefEqProofs [swashlaw11_do, e1, hb1, r1, swashlaw11_do_j1_eq]
 rw [if_neg d3];by_cases d4 : kd = 4
 ·subst d4;rw [if_pos rfl];obtain ⟨H1, e1, g1⟩ := lineTurn_star k g 0 rfl (by omega);simp only [List.set_cons_zero] at g1;have r1 := ref11Turn_run k l (by omega) H1;refine ⟨o, H1, nrm_of ?_, g1.take 1⟩;simp -implicitDefEqProofs [swashlaw11_do, e1, r1, swashlaw11_do_j1_eq]
 rw [if_neg d4];by_cases d5 : kd = 5
 ·subst d5;rw [if_pos rfl];obtain ⟨o1, H1, e1, g1⟩ := lineClean_star k g 0 rfl (by omega);simp only [List.set_cons_zero] at g1;have r1 := ref11Clean_run k l (by omega) H1;refine ⟨o1, H1, nrm_of ?_, g1.take 1⟩;simp -implicitDefEqProofs [swashlaw11_do, e1, r1, swashlaw11_do_j1_eq]
 rw [if_neg d5];refine ⟨o, _, nrm_of ?_, g.take 1⟩;have b0 : (kd == 0) = false := by simpa using d0
 have b1 : (kd == 1) = false := by simpa using d1
 have b2 : (kd == 2) = false := by simpa using d2
 have b3 : (kd == 3) = false := by simpa using d3
 have b4 : (kd == 4) = false := by simpa using d4
 have b5 : (kd == 5) = false := by simpa using d5
 simp -implicitDefEqProofs [swashlaw11_do, b0, b1, b2, b3, b4, b5, swashlaw11_do_j2_eq]
def smallC (cs : List Ch) : Prop := cs.length ≤ 60 ∧ ∀ p, p ∈ cs → p.ids.length ≤ 40
theorem big11_run (k : Nat) (cs : List Ch) (H : Heap) : ∃ b, R (T k) F.swashlaw11_big [lv encCh cs] H = .ok (.bool b) H ∧ (b = false → smallC cs) := by
 rw [swashlaw11_big_R];by_cases hl : cs.length > 60
 ·have hl' : (cs.length : Int) > 60 := by omega
  refine ⟨true, nrm_gc ⟨H, ?_, Ext.refl H⟩ (.bool _), fun h => by cases h⟩;simp -implicitDefEqProofs (disch := omega) [swashlaw11_big, hl']
 have hl' : ¬ (cs.length : Int) > 60 := by omega
 obtain ⟨x, e', H1, hr, hx1, hq⟩ := loop_up (body := swashlaw11_big_l1 k (R (T k))) cs.length
  (fun j e H' => e = [(8, lv encCh cs), (9, .int .i64 cs.length), (10, .int .i64 j)] ∧ Ext H H' ∧ ∀ p, p ∈ cs.take j → p.ids.length ≤ 40)
  (fun x e H' => Ext H H' ∧ ((x = .ret ∧ e = [(2, .bool true)]) ∨ (x = .exit 0 ∧ e = [(8, lv encCh cs), (9, .int .i64 cs.length), (10, .int .i64 cs.length), (11, .bool false)] ∧ ∀ p, p ∈ cs → p.ids.length ≤ 40)))
  (e0 := [(8, lv encCh cs), (9, .int .i64 cs.length), (10, .int .i64 0)]) (H0 := H) ⟨rfl, Ext.refl H, by simp⟩ (by omega)
  (fun j e H' hj ⟨he, hx, ha⟩ => by
   subst he;have hjl : (j : Int) < cs.length := by omega
   obtain ⟨y, hy⟩ : ∃ y, cs[j]? = some y := ⟨_, List.getElem?_eq_getElem hj⟩
   have i1 := fun H' => ixS_lvN encCh_len cs .i64 j y hy H';by_cases hd : y.ids.length > 40
   ·have hd' : (y.ids.length : Int) > 40 := by omega
    refine .inr ⟨.ret, _, H'.push ⟨encCh y, 1, false⟩, ?_, by simp, hx.push _, .inl ⟨rfl, rfl⟩⟩;rw [swashlaw11_big_l1_eq];simp -implicitDefEqProofs (disch := omega) [hjl, i1, hd']
   ·have hd' : ¬ (y.ids.length : Int) > 40 := by omega
    refine .inl ⟨_, H'.push ⟨encCh y, 1, false⟩, ?_, rfl, hx.push _, ?_⟩
    ·rw [swashlaw11_big_l1_eq];simp -implicitDefEqProofs (disch := omega) [hjl, i1, hd']
    ·rw [take_snoc hy];intro z hz;rcases List.mem_append.1 hz with hz | hz
     ·exact ha z hz
     ·rw [List.mem_singleton.1 hz]; omega)
  (fun e H' ⟨he, hx, ha⟩ => by
   subst he;rw [List.take_length] at ha;refine ⟨.exit 0, _, H', ?_, by simp, hx, .inr ⟨rfl, rfl, ha⟩⟩;rw [swashlaw11_big_l1_eq];simp -implicitDefEqProofs)
 rcases hq with ⟨rfl, rfl⟩ | ⟨rfl, rfl, ha⟩
 ·refine ⟨true, nrm_gc ⟨H1, ?_, hx1⟩ (.bool _), fun h => by cases h⟩;simp -implicitDefEqProofs (disch := omega) [swashlaw11_big, hl', hr, swashlaw11_big_l1k_r]
 ·refine ⟨false, nrm_gc ⟨H1, ?_, hx1⟩ (.bool _), fun _ => ⟨by omega, ha⟩⟩;simp -implicitDefEqProofs (disch := omega) [swashlaw11_big, hl', hr, swashlaw11_big_l1k_x0]
set_option maxHeartbeats 2000000 in
theorem LineDoes_run (ids : List Int) (cs : List Ch) (i : Int) : R (T F.swashlaw11_speaks) F.swashlaw11_LineDoes [lv encI ids, lv encCh cs, .int .i64 i] Heap.empty = .ok (.bool true) Heap.empty := by
 generalize hk : F.swashlaw11_speaks = k;have hs := speaks11_run k (by subst hk; rfl);have hk6 : k < 1000000 := by subst hk; decide
 clear hk;rw [swashlaw11_LineDoes_R];generalize Heap.empty = H;obtain ⟨b, hb, hsm⟩ := big11_run k cs H;cases b with
 | true =>
  refine nrm_gc ⟨_, ?_, Ext.refl H⟩ (.bool _);simp -implicitDefEqProofs (disch := omega) [swashlaw11_LineDoes, hs, hb]
 | false =>
 obtain ⟨hc1, hc2⟩ := hsm rfl;by_cases hl : ids.length > 60
 ·have hl' : (ids.length : Int) > 60 := by omega
  refine nrm_gc ⟨_, ?_, Ext.refl H⟩ (.bool _);simp -implicitDefEqProofs (disch := omega) [swashlaw11_LineDoes, hs, hb, hl']
 have hl' : ¬ (ids.length : Int) > 60 := by omega
 obtain ⟨c, o1, H1, e1, g⟩ := lineNew_star k (Star.nil H) ids (by omega);simp only [List.nil_append] at g;have r1 := refNew_run k ids (by omega) H1
 obtain ⟨x, e', H2, hr, rfl, M, o, rfl, g, hM⟩ := loop_up (body := swashlaw11_LineDoes_l1 k (R (T k))) cs.length
  (fun j e H' => ∃ M o, e = [(2, .int .i64 i), (7, ptrV c), (8, lv encG M), (27, lv encCh cs), (28, .int .i64 cs.length), (29, .int .i64 j)] ∧ Star H H' [itLine c o M] ∧ M.length ≤ 60 + 40 * j)
  (fun x e H' => x = .exit 0 ∧ ∃ M o, e = [(2, .int .i64 i), (7, ptrV c), (8, lv encG M), (27, lv encCh cs), (28, .int .i64 cs.length), (29, .int .i64 cs.length), (30, .bool false)] ∧ Star H H' [itLine c o M] ∧ M.length ≤ 2460)
  (e0 := [(2, .int .i64 i), (7, ptrV c), (8, lv encG (newG ids)), (27, lv encCh cs), (28, .int .i64 cs.length), (29, .int .i64 0)]) (H0 := H1) ⟨newG ids, o1, rfl, g, by rw [newG_len]; omega⟩ (by omega)
  (fun j e H' hj ⟨M, o, he, g, hM⟩ => by
   subst he;have hjl : (j : Int) < cs.length := by omega
   obtain ⟨y, hy⟩ : ∃ y, cs[j]? = some y := ⟨_, List.getElem?_eq_getElem hj⟩
   have hyl := hc2 y (List.mem_of_getElem? hy);have i1 := fun H' => ixS_lvN encCh_len cs .i64 j y hy H';have g1 := g.rest ((Ext.refl H').push ⟨encCh y, 1, false⟩);obtain ⟨o2, H3, e3, g3⟩ := do11_run k g1 y (by omega);have hdl := doG_len M y;have gl := lineGlyphs_run k hk6 g3 0 rfl (by omega);have hlen := lineLen_run k g3 0 rfl;have hsame := Same_run k (Rd.lv encG_len H3 (doG M y)) (Rd.lv encG_len H3 (doG M y)) (by omega) (by omega);rw [decide_eq_true rfl] at hsame;refine .inl ⟨_, H3, ?_, doG M y, o2, rfl, g3, by omega⟩;rw [swashlaw11_LineDoes_l1_eq];simp -implicitDefEqProofs (disch := omega) [hjl, i1, e3, gl, hlen, hsame])
  (fun e H' ⟨M, o, he, g, hM⟩ => by
   subst he;refine ⟨.exit 0, _, H', ?_, by simp, rfl, M, o, rfl, g, by omega⟩;rw [swashlaw11_LineDoes_l1_eq];simp -implicitDefEqProofs)
 have hat := lineAt_run k g 0 rfl i;refine nrm_gc ⟨H2.push ⟨encG ((atG M i).getD ⟨0, 0⟩), 1, false⟩, ?_, g.ext.push _⟩ (.bool _);have hbx : (H2.push ⟨encG ((atG M i).getD ⟨0, 0⟩), 1, false⟩).get H2.n = some ⟨encG ((atG M i).getD ⟨0, 0⟩), 1, false⟩ := get_push_eq _ _ _ rfl;by_cases d1 : i ≥ 0
 ·by_cases d2 : i < (M.length : Int)
  ·obtain ⟨n, rfl⟩ := Int.eq_ofNat_of_zero_le d1;obtain ⟨y, hy⟩ : ∃ y, M[n]? = some y := ⟨_, List.getElem?_eq_getElem (by omega)⟩
   have ha : atG M (n : Int) = some y := by unfold atG; rw [if_pos ⟨d1, d2⟩, Int.toNat_natCast, hy]
   have i2 := fun H' => ixS_lvN encG_len M .i64 n y hy H';rw [ha] at hat hbx ⊢;simp -implicitDefEqProofs (disch := omega) [swashlaw11_LineDoes, hs, hb, hl', e1, r1, hr, swashlaw11_LineDoes_l1k_x0, hat, encA, d1, d2, hbx, i2]
  ·have ha : atG M i = none := by unfold atG; rw [if_neg (fun h => d2 h.2)]
   rw [ha] at hat hbx ⊢;simp -implicitDefEqProofs (disch := omega) [swashlaw11_LineDoes, hs, hb, hl', e1, r1, hr, swashlaw11_LineDoes_l1k_x0, hat, encA, d1, d2, hbx]
 ·have ha : atG M i = none := by unfold atG; rw [if_neg (fun h => d1 h.1)]
  rw [ha] at hat hbx ⊢;simp -implicitDefEqProofs (disch := omega) [swashlaw11_LineDoes, hs, hb, hl', e1, r1, hr, swashlaw11_LineDoes_l1k_x0, hat, encA, d1, hbx]
theorem row_Ch {r : List Da} {cs : List Value} (h : LayRow [.int .i64, .int .i64, .slice [.int .i64]] r cs) : ∃ g : Ch, cs = encCh g ∧ True := by
 obtain ⟨_, v1, _, _, rfl, h1, h⟩ := h.head;obtain ⟨_, v2, _, _, rfl, h2, h⟩ := h.head;obtain ⟨_, v3, _, _, rfl, h3, h⟩ := h.head;obtain rfl := h.done;obtain ⟨a, rfl, _⟩ := h1.intv;obtain ⟨b, rfl, _⟩ := h2.intv;obtain ⟨l, rfl, _⟩ := Lay.list (enc := encI) (ok := fun _ => True) (fun r cs h => by obtain ⟨n, h1, _⟩ := row_I h; exact ⟨n, h1, trivial⟩) h3;exact ⟨⟨a, b, l⟩, rfl, trivial⟩
theorem LineDoes_args (vs : List Value) (h : ArgsLay [.one (.slice [.int .i64]), .one (.slice [.int .i64, .int .i64, .slice [.int .i64]]), .one (.int .i64)] vs) : ∃ H', R (T F.swashlaw11_speaks) F.swashlaw11_LineDoes vs Heap.empty = .ok (.bool true) H' := by
 obtain ⟨v1, _, rfl, h1, h⟩ := h.head;obtain ⟨v2, _, rfl, h2, h⟩ := h.head;obtain ⟨v3, _, rfl, h3, h⟩ := h.head;obtain rfl := h.done;obtain ⟨ids, rfl, _⟩ := arg_I h1;obtain ⟨i, rfl, _⟩ := arg_i h3;cases h2 with
 | one s d v h =>
  obtain ⟨l, rfl, _⟩ := Lay.list (enc := encCh) (ok := fun _ => True) (fun r cs h => row_Ch h) h;exact ⟨_, LineDoes_run ids l i⟩
end Go.Sw
end
