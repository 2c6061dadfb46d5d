/-
  Functions' forms, and what is proved of them, part 6.
-/
import Derived.Test.YtanfippcmdialaaSwW4
import Derived.Test.YtanfippcmdialaaSwW5
import Derived.Test.YtanfippcmdialaaSwCfg
import Derived.Test.YtanfippcmdialaaSwLib8
import Derived.Test.YtanfippcmdialaaSwW3
import Derived.Test.YtanfippcmdialaaSwW1
set_option linter.unusedSimpArgs false
set_option linter.unusedVariables false
set_option linter.unusedSectionVars false
section
namespace Go.Sw
open Go.RowKit
def aoffs (ls : List (List (Int × Int))) : List Int := (List.range ls.length).map fun j => ((dataB (ls.take j)).length : Int)
theorem aoffs_len (ls : List (List (Int × Int))) : (aoffs ls).length = ls.length := by simp [aoffs]
theorem ofA_twos (ls : List (List (Int × Int))) : ofA ls ls.length = ofS (aoffs ls) := by
 unfold ofA ofS aoffs aoffB twos offB;rw [List.map_map, List.length_map, List.length_range];rfl
theorem aoffs_get (ls : List (List (Int × Int))) {j : Nat} (hj : j < ls.length) : (aoffs ls)[j]? = some ((dataB (ls.take j)).length : Int) := by
 unfold aoffs;rw [List.getElem?_map, List.getElem?_range hj];rfl
theorem dataB_split (ls : List (List (Int × Int))) {j : Nat} {l : List (Int × Int)} (h : ls[j]? = some l) : dataB ls = dataB (ls.take j) ++ (glB l ++ dataB (ls.drop (j + 1))) := by
 obtain ⟨hj, hl⟩ := List.getElem?_eq_some_iff.1 h;have : ls = ls.take j ++ (l :: ls.drop (j + 1)) := by
  rw [← hl, ← List.drop_eq_getElem_cons, List.take_append_drop]
 conv => lhs; rw [this]
 simp [dataB]
theorem aoffs_bound {ls : List (List (Int × Int))} (hn : ls.length ≤ 30) (hl : ∀ l, l ∈ ls → l.length ≤ 30) : ∀ x, x ∈ aoffs ls → 0 ≤ x ∧ x < 65536 := fun x hx => by
 unfold aoffs at hx;obtain ⟨j, hj, rfl⟩ := List.mem_map.1 hx;have h1 := dataB_len (ls.take j) fun l h => hl l (List.mem_of_mem_take h);rw [List.length_take] at h1;omega
theorem ptB_byt (p : Int × Int) : Byt (ptB p) := (bytesOf_byt _ _).app (bytesOf_byt _ _)
theorem dataB_byt (ls : List (List (Int × Int))) : Byt (dataB ls) := Byt.flat fun r hr => by
 obtain ⟨l, _, rfl⟩ := List.mem_map.1 hr;exact (bytesOf_byt _ _).app (Byt.flat fun r hr => by obtain ⟨p, _, rfl⟩ := List.mem_map.1 hr; exact ptB_byt p)
theorem data_cnt (ls : List (List (Int × Int))) {j : Nat} {l : List (Int × Int)} (h : ls[j]? = some l) (hl : l.length ≤ 30) : uS (dataB ls) ((dataB (ls.take j)).length : Int) 4 = some (l.length : Int) := by
 rw [dataB_split ls h];unfold glB;rw [List.append_assoc];exact uS_at _ _ _ _ rfl rfl (by omega) (by omega)
theorem pts_split (l : List (Int × Int)) {i : Nat} {p : Int × Int} (h : l[i]? = some p) : ptsB l = ptsB (l.take i) ++ (ptB p ++ ptsB (l.drop (i + 1))) := by
 obtain ⟨hj, hl⟩ := List.getElem?_eq_some_iff.1 h;have : l = l.take i ++ (p :: l.drop (i + 1)) := by
  rw [← hl, ← List.drop_eq_getElem_cons, List.take_append_drop]
 conv => lhs; rw [this]
 simp [ptsB]
theorem data_pt (ls : List (List (Int × Int))) {j : Nat} {l : List (Int × Int)} (h : ls[j]? = some l) {i : Nat} {p : Int × Int} (hp : l[i]? = some p) :
  uS (dataB ls) (((dataB (ls.take j)).length : Int) + 4 + 4 * (i : Int)) 2 = some (m16 p.1) ∧ uS (dataB ls) (((dataB (ls.take j)).length : Int) + 6 + 4 * (i : Int)) 2 = some (m16 p.2) := by
 have hi := (List.getElem?_eq_some_iff.1 hp).1;have hlen : (ptsB (l.take i)).length = 4 * i := by rw [ptsB_len, List.length_take]; omega
 have b1 := m16_lt p.1;have b2 := m16_lt p.2;rw [dataB_split ls h];unfold glB;rw [pts_split l hp];unfold ptB;constructor
 ·rw [show dataB (ls.take j) ++ (bytesOf (↑l.length) 4 ++ (ptsB (l.take i) ++ (bytesOf (m16 p.1) 2 ++ bytesOf (m16 p.2) 2 ++ ptsB (l.drop (i + 1)))) ++ dataB (ls.drop (j + 1))) = (dataB (ls.take j) ++ bytesOf (↑l.length) 4 ++ ptsB (l.take i)) ++ (bytesOf (m16 p.1) 2 ++ (bytesOf (m16 p.2) 2 ++ ptsB (l.drop (i + 1)) ++ dataB (ls.drop (j + 1)))) by simp only [List.append_assoc]];exact uS_at _ _ _ _ (by simp only [List.length_append, bytesOf_len, hlen]; push_cast; omega) rfl b1.1 (by omega)
 ·rw [show dataB (ls.take j) ++ (bytesOf (↑l.length) 4 ++ (ptsB (l.take i) ++ (bytesOf (m16 p.1) 2 ++ bytesOf (m16 p.2) 2 ++ ptsB (l.drop (i + 1)))) ++ dataB (ls.drop (j + 1))) = (dataB (ls.take j) ++ bytesOf (↑l.length) 4 ++ ptsB (l.take i) ++ bytesOf (m16 p.1) 2) ++ (bytesOf (m16 p.2) 2 ++ (ptsB (l.drop (i + 1)) ++ dataB (ls.drop (j + 1)))) by simp only [List.append_assoc]];exact uS_at _ _ _ _ (by simp only [List.length_append, bytesOf_len, hlen]; push_cast; omega) rfl b2.1 (by omega)
theorem data_fit (ls : List (List (Int × Int))) {j : Nat} {l : List (Int × Int)} (h : ls[j]? = some l) : (dataB (ls.take j)).length + 4 + 4 * l.length ≤ (dataB ls).length := by
 conv => rhs; rw [dataB_split ls h]
 simp only [List.length_append, glB_len];omega
theorem ankB_parts (ls : List (List (Int × Int))) (hn : ls.length ≤ 30) : uS (ankB ls) 0 2 = some 0 ∧ uS (ankB ls) 4 4 = some 12 ∧ uS (ankB ls) 8 4 = some (12 + ((ofS (aoffs ls)).length : Int)) ∧ (ankB ls).drop 12 = ofS (aoffs ls) ++ dataB ls ∧ (ankB ls).drop (12 + (ofS (aoffs ls)).length) = dataB ls ∧ (ankB ls).length = 12 + (ofS (aoffs ls)).length + (dataB ls).length := by
 have hol : (ofS (aoffs ls)).length = 6 + ls.length * 2 := by unfold ofS; simp [twos_len, aoffs_len]; omega
 have e : ankB ls = [0, 0, 0, 0, 0, 0, 0, 12] ++ (bytesOf ((12 + (ofS (aoffs ls)).length : Nat) : Int) 4 ++ (ofS (aoffs ls) ++ dataB ls)) := by unfold ankB; rw [ofA_twos]; simp only [List.append_assoc]
 have e3 : ankB ls = ([0, 0, 0, 0, 0, 0, 0, 12] ++ bytesOf ((12 + (ofS (aoffs ls)).length : Nat) : Int) 4) ++ (ofS (aoffs ls) ++ dataB ls) := by rw [e]; simp only [List.append_assoc]
 refine ⟨?_, ?_, ?_, ?_, ?_, ?_⟩
 ·rw [e, show ([0, 0, 0, 0, 0, 0, 0, 12] : List Int) = [] ++ (bytesOf 0 2 ++ [0, 0, 0, 0, 0, 12]) by decide, List.append_assoc, List.append_assoc];exact uS_at _ _ _ _ (by simp) rfl (by omega) (by omega)
 ·rw [e, show ([0, 0, 0, 0, 0, 0, 0, 12] : List Int) = [0, 0, 0, 0] ++ (bytesOf 12 4 ++ []) by decide, List.append_assoc, List.append_assoc];exact uS_at _ _ _ _ (by simp) rfl (by omega) (by omega)
 ·rw [e];have := uS_at [0, 0, 0, 0, 0, 0, 0, 12] (ofS (aoffs ls) ++ dataB ls) (n := ((12 + (ofS (aoffs ls)).length : Nat) : Int)) (k := 4) 8 4 (by simp) rfl (by omega) (by omega);rw [this]; simp
 ·rw [e3, List.drop_append_of_le_length (by simp)];rw [List.drop_of_length_le (by simp)];rfl
 ·rw [e3, ← List.append_assoc, List.drop_append_of_le_length (by simp; omega), List.drop_of_length_le (by simp; omega)];rfl
 ·rw [e]; simp; omega
theorem ankB_byt (ls : List (List (Int × Int))) : Byt (ankB ls) := by
 unfold ankB;rw [ofA_twos];refine (((Byt.app ?_ (bytesOf_byt _ _)).app ?_)).app (dataB_byt ls)
 ·intro x hx;simp at hx;omega
 ·unfold ofS;exact (((bytesOf_byt _ _).app (bytesOf_byt _ _)).app (bytesOf_byt _ _)).app (twos_byt _)
abbrev tabA (ls : List (List (Int × Int))) : ATab := ⟨tabOf (aoffs ls), dataB ls⟩
theorem ankS_back (ls : List (List (Int × Int))) (hn : ls.length ≤ 30) (hl : ∀ l, l ∈ ls → l.length ≤ 30) (g : Int) : ankS (ankB ls) g = some (tabA ls) := by
 obtain ⟨p1, p2, p3, p4, p5, p6⟩ := ankB_parts ls hn;have hb := aoffs_bound hn hl;have hlk := look_ofS (aoffs ls) hb (by rw [aoffs_len]; omega) (dataB ls) g;unfold ankS;have r1 : restS (ankB ls) 12 = some (ofS (aoffs ls) ++ dataB ls) := by
  unfold restS;rw [if_pos ⟨by omega, by omega⟩];exact congrArg some p4
 have r2 : restS (ankB ls) (12 + (ofS (aoffs ls)).length) = some (dataB ls) := by
  unfold restS;rw [if_pos ⟨by omega, by omega⟩];rw [show (12 + ((ofS (aoffs ls)).length : Int)).toNat = 12 + (ofS (aoffs ls)).length by omega, p5]
 simp only [p1, p2, r1, hlk, p3, r2, Option.bind_some, if_true];rw [if_pos];rw [List.all_eq_true];intro x hx;have hok : ∀ p, p ∈ (tabOf (aoffs ls)).2 → p.ok := by
  intro p hp;unfold tabOf at hp;dsimp only at hp;split at hp
  ·cases hp
  ·rename_i hne;simp only [List.mem_singleton] at hp;subst hp;have : 0 < (aoffs ls).length := List.length_pos_iff.2 hne;rw [aoffs_len] at this;refine ⟨by simp, by simp [aoffs_len]; omega, by simp [aoffs_len]; omega, hne, by simp [aoffs_len]; omega, fun x hx => ?_⟩;have := hb x hx;omega
 obtain ⟨p, hp, hx⟩ := List.mem_flatMap.1 hx;unfold tabOf at hp;dsimp only at hp;split at hp
 ·cases hp
 ·simp only [List.mem_singleton] at hp;subst hp;unfold ptL at hx;obtain ⟨j, hj, rfl⟩ := List.mem_map.1 hx;have hj := List.mem_range.1 hj;dsimp only at hj;rw [aoffs_len] at hj;have hj : j < ls.length := by omega
  have hnum : Pt.num ⟨0, ((aoffs ls).length : Int) - 1, aoffs ls⟩ (0 + (j : Nat)) = some ((dataB (ls.take j)).length : Int) := by
   unfold Pt.num;dsimp only;rw [aoffs_len, show (min (0 + (j : Int) - 0) ((ls.length : Int) - 1)).toNat = j by omega];exact aoffs_get ls hj
  obtain ⟨l, hl2⟩ : ∃ l, ls[j]? = some l := ⟨_, List.getElem?_eq_getElem hj⟩
  have h30 := hl l (List.mem_of_getElem? hl2);dsimp only;rw [hnum];show ptOk (dataB ls) ((dataB (ls.take j)).length : Int) = true;unfold ptOk;rw [data_cnt ls hl2 h30, Option.bind_some];have hf := data_fit ls hl2;rw [(rowsS_iff (r := ((dataB ls).drop (((dataB (ls.take j)).length : Int) + 4).toNat).take ((l.length : Int) * 4).toNat) (by decide)).2 ⟨⟨by omega, by omega, by omega, by omega⟩, rfl⟩];rfl
theorem tabA_cnt (ls : List (List (Int × Int))) (hl : ∀ l, l ∈ ls → l.length ≤ 30) (id : Int) : cntA (tabA ls) id = if 0 ≤ id then (ls[id.toNat]?).elim 0 (fun l => (l.length : Int)) else 0 := by
 unfold cntA;dsimp only;rw [tab_get];by_cases h0 : 0 ≤ id
 ·rw [if_pos h0, if_pos h0];cases h : ls[id.toNat]? with
  | none =>
   rw [List.getElem?_eq_none (by rw [aoffs_len]; exact List.getElem?_eq_none_iff.1 h)];rfl
  | some l =>
   rw [aoffs_get ls (List.getElem?_eq_some_iff.1 h).1];dsimp only;rw [gU_some (data_cnt ls h (hl l (List.mem_of_getElem? h)))];rfl
 ·rw [if_neg h0, if_neg h0]
theorem s16_m16 {x : Int} (h0 : -32768 ≤ x) (h1 : x < 32768) : s16 (m16 x) = x := by unfold s16 m16; split <;> omega
theorem tabA_get (ls : List (List (Int × Int))) (hl : ∀ l, l ∈ ls → l.length ≤ 30) {j i : Nat} {l : List (Int × Int)} (h : ls[j]? = some l) : getA (tabA ls) j i = (l[i]?).map fun p => (s16 (m16 p.1), s16 (m16 p.2)) := by
 unfold getA;dsimp only;rw [tab_get, if_pos (by omega), show ((j : Int)).toNat = j from rfl, aoffs_get ls (List.getElem?_eq_some_iff.1 h).1];dsimp only;rw [gU_some (data_cnt ls h (hl l (List.mem_of_getElem? h)))];cases hp : l[i]? with
 | none =>
  have := List.getElem?_eq_none_iff.1 hp;rw [if_neg (by omega)];rfl
 | some p =>
  have := (List.getElem?_eq_some_iff.1 hp).1;rw [if_pos (by omega), gU_some (data_pt ls h hp).1, gU_some (data_pt ls h hp).2];rfl
end Go.Sw
end
section
set_option maxRecDepth 100000
set_option linter.unusedVariables false
namespace Go.Sw
noncomputable section
end
end Go.Sw
end
section
set_option maxRecDepth 100000
set_option linter.unusedVariables false
namespace Go.Sw
noncomputable section
end
end Go.Sw
end
section
namespace Go.Sw
structure Pl where
 adv : Int
 x : Int
 y : Int
 deriving DecidableEq
def Pl.ok (p : Pl) : Prop := (-2147483648 ≤ p.adv ∧ p.adv ≤ 2147483647) ∧ (-2147483648 ≤ p.x ∧ p.x ≤ 2147483647) ∧ (-2147483648 ≤ p.y ∧ p.y ≤ 2147483647)
end Go.Sw
end
section
namespace Go.Sw
end Go.Sw
end
section
namespace Go.Sw
end Go.Sw
end
section
namespace Go.Sw
end Go.Sw
end
section
namespace Go.Sw
open Go.RowKit
end Go.Sw
end
section
namespace Go.Sw
open Go.RowKit
end Go.Sw
end
section
namespace Go.Sw
open Go.RowKit
def oddB (vs : List Int) (a : Int) : Bool := (List.range (vs.length / 2)).any fun i => decide (a ≤ (i : Int) ∧ gU vs (2 * (i : Int)) 2 % 2 = 1)
structure STab where
 m : Mach
 vals : List Int
structure STab.ok (t : STab) : Prop where
 m : t.m.ok
 byt : Byt t.vals
 len : t.vals.length < 2 ^ 31
 has : ∀ e, e ∈ t.m.ents → e.a = 65535 ∨ oddB t.vals e.a = true
end Go.Sw
end
section
namespace Go.Sw
open Go.RowKit
end Go.Sw
end
section
namespace Go.Sw
open Go.RowKit
end Go.Sw
end
section
namespace Go.Sw
open Go.RowKit
end Go.Sw
end
section
namespace Go.Sw
open Go.RowKit
end Go.Sw
end
section
namespace Go.Sw
open Go.RowKit
end Go.Sw
end
section
namespace Go.Sw
open Go.RowKit
end Go.Sw
end
section
namespace Go.Sw
open Go.RowKit
end Go.Sw
end
section
namespace Go.Sw
open Go.RowKit
end Go.Sw
end
section
namespace Go.Sw
open Go.RowKit
structure BTab where
 m : Mach
 kind : Int
 acts : List Int
def entAct (k : Int) (a : List Int) (e : En) : Bool := decide (e.a = 65535) || (pieceS a (4 * k * e.a) (4 * k)).isSome
def bindS (b : List Int) (g : Int) : Option BTab := (machS b g 1).bind fun m => (uS b 16 4).bind fun w =>
 if w / 1073741824 = 1 ∨ w / 1073741824 = 2 then (restS b (w % 16777216)).bind fun a => if m.ents.all (entAct (w / 1073741824) a) then some ⟨m, w / 1073741824, a⟩ else none else some ⟨m, w / 1073741824, []⟩
structure BTab.ok (t : BTab) : Prop where
 m : t.m.ok
 kind : 0 ≤ t.kind ∧ t.kind < 4
 byt : Byt t.acts
 len : t.acts.length < 2 ^ 31
 has : t.kind = 1 ∨ t.kind = 2 → ∀ e, e ∈ t.m.ents → e.a = 65535 ∨ 4 * t.kind * e.a + 4 * t.kind ≤ t.acts.length
end Go.Sw
end
section
set_option maxRecDepth 100000
set_option linter.unusedVariables false
namespace Go.Sw
noncomputable section
end
end Go.Sw
end
section
namespace Go.Sw
open Go.RowKit
abbrev bindC (t : BTab) : List Value := [machV t.m, .int .i64 t.kind, lv encB t.acts]
abbrev bindV (t : BTab) : Value := boxV (bindC t).toArray
end Go.Sw
end
section
namespace Go.Sw
open Go.RowKit
def bindP (o : Option BTab) : Value := match o with | some t => bindV t | none => .pointer none
def bindN (b : List Int) (g : Int) : Int := if 1 ≤ g ∧ g ≤ 65535 then (if (bindS b g).isSome then 0 else 2) else 1
end Go.Sw
end
section
namespace Go.Sw
open Go.RowKit
def nilAnk : List Value := [.pointer none, .slice none 0 0]
theorem ankr0Count (k : Nat) {H : Heap} {a : Nat} (ha : H.get a = some ⟨nilAnk, 1, false⟩) (id : Int) : R (T k) F.ankr_Table_Count [ptrV a, .int .i64 id] H = .ok (.int .i64 0) H := by
 rw [ankr_Table_Count_R];refine nrm_gc ⟨H, ?_, Ext.refl H⟩ (.int _ _);unfold nilAnk at ha;simp -implicitDefEqProofs (disch := omega) [ankr_Table_Count, ha]
end Go.Sw
end
section
namespace Go.Sw
open Go.RowKit
abbrev encPs (l : List (Int × Int)) : List Value := [lv enc2 l]
theorem encPs_len (l : List (Int × Int)) : (encPs l).length = 1 := rfl
theorem ptsSl_lv (H : Heap) (ls : List (List (Int × Int))) : PtsSl H ls (lv encPs ls) (ls.map fun l => (l, lv enc2 l)) := by
 refine ⟨by rw [List.map_map]; simp [Function.comp_def], fun x hx => by obtain ⟨l, _, rfl⟩ := List.mem_map.1 hx; exact Sl.lv _ 2 _, ?_⟩;have : lv encPs ls = lv encV (ls.map fun l => (l, lv enc2 l)) := by
  unfold lv;rw [List.length_map];congr 2;unfold rows;rw [List.flatMap_map];rfl
 rw [this];exact Sl.lv _ 1 _
theorem cuts24_l1 (k : Nat) (a1 : Value) (ls : List (List (Int × Int))) (hn : ls.length ≤ 30) (H : Heap) :
  ((∀ l, l ∈ ls → l.length ≤ 30) ∧ ∃ z, loopN (swashlaw24_AnkrCuts_l1 k (R (T k))) loopFuel [(0, lv encPs ls), (1, a1), (20, lv encPs ls), (21, .int .i64 ls.length), (22, .int .i64 0)] H = .ok (.exit 0, [(0, lv encPs ls), (1, a1), (20, lv encPs ls), (21, .int .i64 ls.length), (22, z), (23, .bool false)]) H) ∨
  loopN (swashlaw24_AnkrCuts_l1 k (R (T k))) loopFuel [(0, lv encPs ls), (1, a1), (20, lv encPs ls), (21, .int .i64 ls.length), (22, .int .i64 0)] H = .ok (.ret, [(4, .bool true)]) H := by
 obtain ⟨xx, e', H1, hr1, hQ⟩ := loop_up (body := swashlaw24_AnkrCuts_l1 k (R (T k))) ls.length
  (fun j e H' => e = [(0, lv encPs ls), (1, a1), (20, lv encPs ls), (21, .int .i64 ls.length), (22, .int .i64 j)] ∧ (∀ l, l ∈ ls.take j → l.length ≤ 30) ∧ H' = H)
  (fun xx e H' => H' = H ∧ ((xx = .exit 0 ∧ (∀ l, l ∈ ls → l.length ≤ 30) ∧ ∃ z, e = [(0, lv encPs ls), (1, a1), (20, lv encPs ls), (21, .int .i64 ls.length), (22, z), (23, .bool false)]) ∨ (xx = .ret ∧ e = [(4, .bool true)])))
  (e0 := [(0, lv encPs ls), (1, a1), (20, lv encPs ls), (21, .int .i64 ls.length), (22, .int .i64 0)]) (H0 := H) ⟨rfl, fun l h => (by cases h), rfl⟩ (by omega)
  (fun j e H' hj ⟨he, hall, hH⟩ => by
   subst he hH;have hjl : (j : Int) < ls.length := by omega
   obtain ⟨l, hl⟩ : ∃ l, ls[j]? = some l := ⟨_, List.getElem?_eq_getElem hj⟩
   have i1 := fun H' => ixS_lvN encPs_len ls .i64 j l hl H';by_cases c : l.length > 30
   ·have c' : (l.length : Int) > 30 := by omega
    refine .inr ⟨.ret, _, _, ?_, by simp, rfl, .inr ⟨rfl, rfl⟩⟩;rw [swashlaw24_AnkrCuts_l1_eq];simp -implicitDefEqProofs (disch := omega) [hjl, i1, c']
   ·have c' : ¬ (l.length : Int) > 30 := by omega
    refine .inl ⟨_, _, ?_, rfl, fun x hx => ?_, rfl⟩
    ·rw [swashlaw24_AnkrCuts_l1_eq];simp -implicitDefEqProofs (disch := omega) [hjl, i1, c']
    ·rw [take_snoc hl] at hx;rcases List.mem_append.1 hx with hx | hx
     ·exact hall x hx
     ·rw [List.mem_singleton.1 hx]; omega)
  (fun e H' ⟨he, hall, hH⟩ => by
   subst he hH;rw [List.take_length] at hall;refine ⟨.exit 0, _, _, ?_, by simp, rfl, .inl ⟨rfl, hall, .int .i64 ls.length, rfl⟩⟩;rw [swashlaw24_AnkrCuts_l1_eq];simp -implicitDefEqProofs)
 obtain ⟨rfl, ⟨rfl, hall, z, rfl⟩ | ⟨rfl, rfl⟩⟩ := hQ
 ·exact .inl ⟨hall, z, hr1⟩
 ·exact .inr hr1
theorem restS_more {b r : List Int} {i : Int} (h : restS b i = some r) (x : List Int) : restS (b ++ x) i = some (r ++ x) := by
 unfold restS at h ⊢;split at h
 ·rename_i hc;injection h with h;subst h;rw [if_pos ⟨hc.1, by simp; omega⟩, List.drop_append_of_le_length (by omega)]
 ·cases h
theorem look8_more {b : List Int} {g : Int} {t : Int × List Pt} (h : lookS b g 2 = some t) (x : List Int) (h8 : uS (b ++ x) 0 2 = some 8) : lookS (b ++ x) g 2 = some t := by
 unfold lookS at h ⊢;obtain ⟨f, hf, h⟩ := Option.bind_eq_some_iff.1 h;have hf2 := uS_more hf x;rw [hf2] at h8;injection h8 with h8;subst h8;rw [hf2, Option.bind_some];obtain ⟨ps, hp, h⟩ := Option.bind_eq_some_iff.1 h;have : partsS (b ++ x) g 2 8 = some ps := by
  unfold partsS at hp ⊢;simp only [show ¬ (8 : Int) = 0 by decide, show ¬ (8 : Int) = 2 by decide, show ¬ (8 : Int) = 4 by decide, show ¬ (8 : Int) = 6 by decide, if_false, if_true] at hp ⊢;unfold trimS at hp ⊢;obtain ⟨a, ha, hp⟩ := Option.bind_eq_some_iff.1 hp;obtain ⟨n, hn, hp⟩ := Option.bind_eq_some_iff.1 hp;rw [uS_more ha x, Option.bind_some, uS_more hn x, Option.bind_some];split at hp
  ·rename_i hc;rw [if_pos hc];obtain ⟨vs, hv, hp⟩ := Option.map_eq_some_iff.1 hp;rw [listS_more (by decide) hv x];exact congrArg some hp
  ·cases hp
 rw [this, Option.bind_some];exact h
theorem ankS_cut (ls : List (List (Int × Int))) (hn : ls.length ≤ 30) (hl : ∀ l, l ∈ ls → l.length ≤ 30) (hne : ls ≠ []) (m : Nat) (hm : m < (ankB ls).length) (g : Int) : ankS ((ankB ls).take m) g = none := by
 obtain ⟨p1, p2, p3, p4, p5, p6⟩ := ankB_parts ls hn;have hB : ankB ls = (ankB ls).take m ++ (ankB ls).drop m := (List.take_append_drop _ _).symm;have hlm : ((ankB ls).take m).length = m := by rw [List.length_take]; omega
 cases h : ankS ((ankB ls).take m) g with
 | none => rfl
 | some t =>
  exfalso;unfold ankS at h;obtain ⟨z, hz, h⟩ := Option.bind_eq_some_iff.1 h;split at h;rotate_left
  ·cases h
  obtain ⟨w, hw, h⟩ := Option.bind_eq_some_iff.1 h;have hw2 := uS_more hw ((ankB ls).drop m);rw [← hB, p2] at hw2;injection hw2 with hw2;subst hw2;obtain ⟨of, hof, h⟩ := Option.bind_eq_some_iff.1 h;have hof2 := restS_more hof ((ankB ls).drop m);have hfull : restS (ankB ls) 12 = some (ofS (aoffs ls) ++ dataB ls) := by
   unfold restS;rw [if_pos ⟨by omega, by omega⟩];exact congrArg some p4
  rw [← hB, hfull] at hof2;injection hof2 with hof2;obtain ⟨tab, htab, h⟩ := Option.bind_eq_some_iff.1 h;have hlk := look_ofS (aoffs ls) (aoffs_bound hn hl) (by rw [aoffs_len]; omega) (dataB ls) g;have h8 : uS (of ++ (ankB ls).drop m) 0 2 = some 8 := by
   have := hlk;unfold lookS at this;obtain ⟨f, hf, this⟩ := Option.bind_eq_some_iff.1 this;obtain ⟨ps, _, this⟩ := Option.bind_eq_some_iff.1 this;rw [← hof2, hf];split at this
   ·injection this with this;unfold tabOf at this;injection this with this;rw [this]
   ·cases this
  have ht2 := look8_more htab _ h8;rw [← hof2, hlk] at ht2;injection ht2 with ht2;subst ht2;obtain ⟨w2, hw2, h⟩ := Option.bind_eq_some_iff.1 h;have hw3 := uS_more hw2 ((ankB ls).drop m);rw [← hB, p3] at hw3;injection hw3 with hw3;subst hw3;obtain ⟨d, hd, h⟩ := Option.bind_eq_some_iff.1 h;have hd2 := restS_more hd ((ankB ls).drop m);have hfull2 : restS (ankB ls) (12 + ((ofS (aoffs ls)).length : Int)) = some (dataB ls) := by
   unfold restS;rw [if_pos ⟨by omega, by omega⟩, show (12 + ((ofS (aoffs ls)).length : Int)).toNat = 12 + (ofS (aoffs ls)).length by omega, p5]
  rw [← hB, hfull2] at hd2;injection hd2 with hd2;split at h;rotate_left
  ·cases h
  rename_i hall;have hpos : 0 < ls.length := List.length_pos_iff.2 hne;obtain ⟨l, hl2⟩ : ∃ l, ls[ls.length - 1]? = some l := ⟨_, List.getElem?_eq_getElem (by omega)⟩
  have hg : getS (tabOf (aoffs ls)).2 ((ls.length - 1 : Nat) : Int) = some ((dataB (ls.take (ls.length - 1))).length : Int) := by
   rw [tab_get, if_pos (by omega), Int.toNat_natCast, aoffs_get ls (by omega)]
  have hp := List.all_eq_true.1 hall _ (ptL_has hg);have hp : ptOk d ((dataB (ls.take (ls.length - 1))).length : Int) = true := hp;unfold ptOk at hp;obtain ⟨r, hr⟩ := Option.isSome_iff_exists.1 hp;obtain ⟨c, hc, hr⟩ := Option.bind_eq_some_iff.1 hr;have hc2 := uS_more hc ((ankB ls).drop m);rw [← hd2, data_cnt ls hl2 (hl l (List.mem_of_getElem? hl2))] at hc2;injection hc2 with hc2;subst hc2;have hr := ((rowsS_iff (by decide)).1 hr).1;have hlast : (dataB ls).length = (dataB (ls.take (ls.length - 1))).length + 4 + 4 * l.length := by
   conv => lhs; rw [dataB_split ls hl2]
   rw [show ls.length - 1 + 1 = ls.length by omega, List.drop_length];simp [glB_len, dataB];omega
  have hdl := congrArg List.length hd2;rw [List.length_append, List.length_drop] at hdl;omega
theorem AnkrCuts_run (ls : List (List (Int × Int))) (hls : ls.length < 2 ^ 63) (c : Int) (hc : 0 ≤ c ∧ c < 256) (k : Nat) (hk : k = F.swashlaw24_speaks) : R (T k) F.swashlaw24_AnkrCuts [lv encPs ls, .int .u8 c] Heap.empty = .ok (.bool true) Heap.empty := by
 have hs := speaks24_run k (by subst hk; rfl);have hk6 : k < 1000000 := by subst hk; decide
 clear hk;rw [swashlaw24_AnkrCuts_R];generalize Heap.empty = H;refine nrm_gc ⟨H, ?_, Ext.refl H⟩ (.bool _);by_cases h0 : ls = []
 ·subst h0;simp -implicitDefEqProofs (disch := omega) [swashlaw24_AnkrCuts, hs]
 have hpos : 0 < ls.length := List.length_pos_iff.2 h0;have c0 : ((ls.length : Int) == 0) = false := by rw [beq_eq_false_iff_ne]; omega
 by_cases hn : ls.length > 30
 ·have hn' : (ls.length : Int) > 30 := by omega
  simp -implicitDefEqProofs (disch := omega) [swashlaw24_AnkrCuts, hs, c0, hn', h0]
 have hn' : ¬ (ls.length : Int) > 30 := by omega
 rcases cuts24_l1 k (.int .u8 c) ls (by omega) H with ⟨hall, z, hlp⟩ | hlp;rotate_left
 ·simp -implicitDefEqProofs (disch := omega) [swashlaw24_AnkrCuts, hs, c0, hn', h0, hlp, swashlaw24_AnkrCuts_l1k_r]
 have hw := write24_fz k hk6 (ptsSl_lv H ls) (by omega) hall;obtain ⟨p1, p2, p3, p4, p5, p6⟩ := ankB_parts ls (by omega);have hdl := dataB_len ls hall;have hol : (ofS (aoffs ls)).length = 6 + ls.length * 2 := by unfold ofS; simp [twos_len, aoffs_len]; omega
 obtain ⟨m, hm⟩ : ∃ m : Nat, (m : Int) = max (((ankB ls).length : Int) - 1 - c) 0 := ⟨(max (((ankB ls).length : Int) - 1 - c) 0).toNat, by omega⟩
 have hcut := ankS_cut ls (by omega) hall h0 m (by omega) 60;have hrd := fun H' => ankrRead_run k (H := H') (Sl.lv H' 1 ((ankB ls).take m)) (fun x hx => ankB_byt ls x (List.mem_of_mem_take hx)) 60 (by rw [List.length_take]; omega) (fun _ H' => ankrTake_run k _ (fun x hx => ankB_byt ls x (List.mem_of_mem_take hx)) 60 (by omega) (by rw [List.length_take]; omega) H');unfold ankrO ankrN at hrd;rw [if_pos (by omega), if_pos (by omega), hcut] at hrd;simp only [ankrP, Option.isSome_none, Bool.false_eq_true, if_false] at hrd;have w1 : IntKind.i64.wrap (((ankB ls).length : Int) - 1) = ((ankB ls).length : Int) - 1 := wrap_i64 (by omega) (by omega);have w2 : IntKind.i64.wrap c = c := wrap_i64 (by omega) (by omega);have w3 : IntKind.i64.wrap (((ankB ls).length : Int) - 1 - c) = ((ankB ls).length : Int) - 1 - c := wrap_i64 (by omega) (by omega);have hsl := fun H' => slS_lv encB_len (ankB ls) none (some (.int .i64 m)) none 0 m (ankB ls).length rfl (by simp [boundOf]) rfl (fun h => by cases h) (by omega) (by omega) (Nat.le_refl _) H';simp only [List.drop_zero] at hsl;have hmx : (if (0 : Int) > ((ankB ls).length : Int) - 1 - c then 0 else ((ankB ls).length : Int) - 1 - c) = m := by rw [hm]; split <;> omega
 simp -implicitDefEqProofs (disch := omega) [swashlaw24_AnkrCuts, hs, c0, hn', h0, hlp, swashlaw24_AnkrCuts_l1k_x0, hw, w1, w2, w3, hmx, hsl, hrd]
theorem back24_l1 (k : Nat) (a1 : Value) (ls : List (List (Int × Int))) (hn : ls.length ≤ 30) (H : Heap) :
  ((∀ l, l ∈ ls → l.length ≤ 30) ∧ ∃ z, loopN (swashlaw24_AnkrBack_l1 k (R (T k))) loopFuel [(0, lv encPs ls), (1, a1), (25, lv encPs ls), (26, .int .i64 ls.length), (27, .int .i64 0)] H = .ok (.exit 0, [(0, lv encPs ls), (1, a1), (25, lv encPs ls), (26, .int .i64 ls.length), (27, z), (28, .bool false)]) H) ∨
  loopN (swashlaw24_AnkrBack_l1 k (R (T k))) loopFuel [(0, lv encPs ls), (1, a1), (25, lv encPs ls), (26, .int .i64 ls.length), (27, .int .i64 0)] H = .ok (.ret, [(4, .bool true)]) H := by
 obtain ⟨xx, e', H1, hr1, hQ⟩ := loop_up (body := swashlaw24_AnkrBack_l1 k (R (T k))) ls.length
  (fun j e H' => e = [(0, lv encPs ls), (1, a1), (25, lv encPs ls), (26, .int .i64 ls.length), (27, .int .i64 j)] ∧ (∀ l, l ∈ ls.take j → l.length ≤ 30) ∧ H' = H)
  (fun xx e H' => H' = H ∧ ((xx = .exit 0 ∧ (∀ l, l ∈ ls → l.length ≤ 30) ∧ ∃ z, e = [(0, lv encPs ls), (1, a1), (25, lv encPs ls), (26, .int .i64 ls.length), (27, z), (28, .bool false)]) ∨ (xx = .ret ∧ e = [(4, .bool true)])))
  (e0 := [(0, lv encPs ls), (1, a1), (25, lv encPs ls), (26, .int .i64 ls.length), (27, .int .i64 0)]) (H0 := H) ⟨rfl, fun l h => (by cases h), rfl⟩ (by omega)
  (fun j e H' hj ⟨he, hall, hH⟩ => by
   subst he hH;have hjl : (j : Int) < ls.length := by omega
   obtain ⟨l, hl⟩ : ∃ l, ls[j]? = some l := ⟨_, List.getElem?_eq_getElem hj⟩
   have i1 := fun H' => ixS_lvN encPs_len ls .i64 j l hl H';by_cases c : l.length > 30
   ·have c' : (l.length : Int) > 30 := by omega
    refine .inr ⟨.ret, _, _, ?_, by simp, rfl, .inr ⟨rfl, rfl⟩⟩;rw [swashlaw24_AnkrBack_l1_eq];simp -implicitDefEqProofs (disch := omega) [hjl, i1, c']
   ·have c' : ¬ (l.length : Int) > 30 := by omega
    refine .inl ⟨_, _, ?_, rfl, fun x hx => ?_, rfl⟩
    ·rw [swashlaw24_AnkrBack_l1_eq];simp -implicitDefEqProofs (disch := omega) [hjl, i1, c']
    ·rw [take_snoc hl] at hx;rcases List.mem_append.1 hx with hx | hx
     ·exact hall x hx
     ·rw [List.mem_singleton.1 hx]; omega)
  (fun e H' ⟨he, hall, hH⟩ => by
   subst he hH;rw [List.take_length] at hall;refine ⟨.exit 0, _, _, ?_, by simp, rfl, .inl ⟨rfl, hall, .int .i64 ls.length, rfl⟩⟩;rw [swashlaw24_AnkrBack_l1_eq];simp -implicitDefEqProofs)
 obtain ⟨rfl, ⟨rfl, hall, z, rfl⟩ | ⟨rfl, rfl⟩⟩ := hQ
 ·exact .inl ⟨hall, z, hr1⟩
 ·exact .inr hr1
theorem back24_l2 (k : Nat) {H0 H : Heap} {o : Option Nat} {s : Value} {b : List Int} (g : Star H0 H [itRow o 1 s encB b]) (hb : b.length < 2 ^ 40) (y : Int) (t a0 : Value) :
  ∃ z H', loopN (swashlaw24_AnkrBack_l2 k (R (T k))) loopFuel [(0, a0), (1, .int .u8 y), (7, s), (8, t), (49, .int .i64 b.length), (50, .int .i64 0)] H = .ok (.exit 2, [(0, a0), (1, .int .u8 y), (7, s), (8, t), (49, .int .i64 b.length), (50, z), (51, .bool false)]) H' ∧ Ext H0 H' := by
 obtain ⟨xx, e', H1, hr1, rfl, ⟨z, rfl⟩, b', _, g⟩ := loop_up (body := swashlaw24_AnkrBack_l2 k (R (T k))) b.length
  (fun j e H' => e = [(0, a0), (1, .int .u8 y), (7, s), (8, t), (49, .int .i64 b.length), (50, .int .i64 j)] ∧ ∃ b' : List Int, b'.length = b.length ∧ Star H0 H' [itRow o 1 s encB b'])
  (fun xx e H' => xx = .exit 2 ∧ (∃ z, e = [(0, a0), (1, .int .u8 y), (7, s), (8, t), (49, .int .i64 b.length), (50, z), (51, .bool false)]) ∧ ∃ b' : List Int, b'.length = b.length ∧ Star H0 H' [itRow o 1 s encB b'])
  (e0 := [(0, a0), (1, .int .u8 y), (7, s), (8, t), (49, .int .i64 b.length), (50, .int .i64 0)]) (H0 := H) ⟨rfl, b, rfl, g⟩ (by omega)
  (fun j e H' hj ⟨he, b', hl, g⟩ => by
   subst he;have hjl : (j : Int) < b.length := by omega
   obtain ⟨c, hc, _, i2⟩ := g.ix 0 rfl .i64 j (by omega);subst hc;obtain ⟨x, hx⟩ : ∃ x, b'[j]? = some x := ⟨_, List.getElem?_eq_getElem (by omega)⟩
   obtain ⟨H2, e2, g2, _⟩ := g.stRow 0 rfl encB_len (j := j) (c := 0) (n := 1) y (v := .int .u8 y) hx rfl rfl (by decide) rfl;simp only [List.set_cons_zero] at g2;rw [Nat.add_zero] at e2;refine .inl ⟨_, H2, ?_, rfl, _, by rw [List.length_set]; exact hl, g2⟩;rw [swashlaw24_AnkrBack_l2_eq];simp -implicitDefEqProofs (disch := omega) [-stR_ptr, hjl, i2];simp only [Nat.mul_one] at e2;simp -implicitDefEqProofs (disch := omega) [-stR_ptr, e2])
  (fun e H' ⟨he, b', hl, g⟩ => by
   subst he;refine ⟨.exit 2, _, H', ?_, by simp, rfl, ⟨.int .i64 b.length, rfl⟩, b', hl, g⟩;rw [swashlaw24_AnkrBack_l2_eq];simp -implicitDefEqProofs)
 exact ⟨z, H1, hr1, g.ext⟩
theorem tabA_ok (ls : List (List (Int × Int))) (hn : ls.length ≤ 30) (hl : ∀ l, l ∈ ls → l.length ≤ 30) : (tabA ls).ok := by
 obtain ⟨p1, p2, p3, p4, p5, p6⟩ := ankB_parts ls hn;have hdl := dataB_len ls hl;have hol : (ofS (aoffs ls)).length = 6 + ls.length * 2 := by unfold ofS; simp [twos_len, aoffs_len]; omega
 exact ankS_ok (ankB_byt ls) (g := 60) (by omega) (by omega) (by omega) (ankS_back ls hn hl 60)
theorem back24_l4 (k : Nat) (ls : List (List (Int × Int))) (hn : ls.length ≤ 30) (hl : ∀ l, l ∈ ls → l.length ≤ 30) (hw : ∀ l, l ∈ ls → ∀ p, p ∈ l → (-32768 ≤ p.1 ∧ p.1 < 32768) ∧ (-32768 ≤ p.2 ∧ p.2 < 32768)) {j : Nat} {l : List (Int × Int)} (hj : ls[j]? = some l) (a0 a58 a59 a60 : Value) (H : Heap) :
  ∃ z H', loopN (swashlaw24_AnkrBack_l4 k (R (T k))) loopFuel [(0, a0), (8, ankV (tabA ls)), (11, .int .i64 j), (12, lv enc2 l), (58, a58), (59, a59), (60, a60), (71, lv enc2 l), (72, .int .i64 l.length), (73, .int .i64 0)] H =
   .ok (.exit 6, [(0, a0), (8, ankV (tabA ls)), (11, .int .i64 j), (12, lv enc2 l), (58, a58), (59, a59), (60, a60), (71, lv enc2 l), (72, .int .i64 l.length), (73, z), (74, .bool false)]) H' ∧ Ext H H' := by
 have hmem := List.mem_of_getElem? hj;have hok := tabA_ok ls hn hl;have hl30 := hl l hmem
 obtain ⟨xx, e', H1, hr1, rfl, ⟨z, rfl⟩, hx⟩ := loop_up (body := swashlaw24_AnkrBack_l4 k (R (T k))) l.length
  (fun i e H' => e = [(0, a0), (8, ankV (tabA ls)), (11, .int .i64 j), (12, lv enc2 l), (58, a58), (59, a59), (60, a60), (71, lv enc2 l), (72, .int .i64 l.length), (73, .int .i64 i)] ∧ Ext H H')
  (fun xx e H' => xx = .exit 6 ∧ (∃ z, e = [(0, a0), (8, ankV (tabA ls)), (11, .int .i64 j), (12, lv enc2 l), (58, a58), (59, a59), (60, a60), (71, lv enc2 l), (72, .int .i64 l.length), (73, z), (74, .bool false)]) ∧ Ext H H')
  (e0 := [(0, a0), (8, ankV (tabA ls)), (11, .int .i64 j), (12, lv enc2 l), (58, a58), (59, a59), (60, a60), (71, lv enc2 l), (72, .int .i64 l.length), (73, .int .i64 0)]) (H0 := H) ⟨rfl, Ext.refl H⟩ (by have := hl l hmem; omega)
  (fun i e H' hi ⟨he, hx⟩ => by
   subst he;have hil : (i : Int) < l.length := by omega
   obtain ⟨p, hp⟩ : ∃ p, l[i]? = some p := ⟨_, List.getElem?_eq_getElem hi⟩
   have i1 := fun H' => ixS_lvN enc2_len l .i64 i p hp H';have hg := fun H' => ankrGet_run k (tabA ls) hok j i H';have hb := hw l hmem p (List.mem_of_getElem? hp);rw [tabA_get ls hl hj, hp] at hg;simp only [Option.map_some, Option.getD_some, Option.isSome_some, s16_m16 hb.1.1 hb.1.2, s16_m16 hb.2.1 hb.2.2] at hg;have w1 : IntKind.i64.wrap p.1 = p.1 := wrap_i64 (by omega) (by omega);have w2 : IntKind.i64.wrap p.2 = p.2 := wrap_i64 (by omega) (by omega);refine .inl ⟨_, _, ?_, rfl, (hx.push ⟨enc2 p, 1, false⟩).push ⟨[.int .i64 p.1, .int .i64 p.2], 1, false⟩⟩;rw [swashlaw24_AnkrBack_l4_eq];simp -implicitDefEqProofs (disch := omega) [hil, i1, hg, w1, w2, ixA2_0, ixA2_1])
  (fun e H' ⟨he, hx⟩ => by
   subst he;refine ⟨.exit 6, _, H', ?_, by simp, rfl, ⟨.int .i64 l.length, rfl⟩, hx⟩;rw [swashlaw24_AnkrBack_l4_eq];simp -implicitDefEqProofs)
 exact ⟨z, H1, hr1, hx⟩
theorem back24_l3 (k : Nat) (ls : List (List (Int × Int))) (hn : ls.length ≤ 30) (hl : ∀ l, l ∈ ls → l.length ≤ 30) (hw : ∀ l, l ∈ ls → ∀ p, p ∈ l → (-32768 ≤ p.1 ∧ p.1 < 32768) ∧ (-32768 ≤ p.2 ∧ p.2 < 32768)) (H : Heap) :
  ∃ z H', loopN (swashlaw24_AnkrBack_l3 k (R (T k))) loopFuel [(0, lv encPs ls), (8, ankV (tabA ls)), (58, lv encPs ls), (59, .int .i64 ls.length), (60, .int .i64 0)] H =
   .ok (.exit 4, [(0, lv encPs ls), (8, ankV (tabA ls)), (58, lv encPs ls), (59, .int .i64 ls.length), (60, z), (61, .bool false)]) H' ∧ Ext H H' := by
 have hok := tabA_ok ls hn hl
 obtain ⟨xx, e', H1, hr1, rfl, ⟨z, rfl⟩, hx⟩ := loop_up (body := swashlaw24_AnkrBack_l3 k (R (T k))) ls.length
  (fun i e H' => e = [(0, lv encPs ls), (8, ankV (tabA ls)), (58, lv encPs ls), (59, .int .i64 ls.length), (60, .int .i64 i)] ∧ Ext H H')
  (fun xx e H' => xx = .exit 4 ∧ (∃ z, e = [(0, lv encPs ls), (8, ankV (tabA ls)), (58, lv encPs ls), (59, .int .i64 ls.length), (60, z), (61, .bool false)]) ∧ Ext H H')
  (e0 := [(0, lv encPs ls), (8, ankV (tabA ls)), (58, lv encPs ls), (59, .int .i64 ls.length), (60, .int .i64 0)]) (H0 := H) ⟨rfl, Ext.refl H⟩ (by omega)
  (fun j e H' hj ⟨he, hx⟩ => by
   subst he;have hjl : (j : Int) < ls.length := by omega
   obtain ⟨l, hl2⟩ : ∃ l, ls[j]? = some l := ⟨_, List.getElem?_eq_getElem hj⟩
   have i1 := fun H' => ixS_lvN encPs_len ls .i64 j l hl2 H';have hc := fun H' => ankrCount_run k (tabA ls) hok j H';rw [tabA_cnt ls hl, if_pos (by omega), Int.toNat_natCast, hl2] at hc;simp only [Option.elim_some] at hc;have hg := fun H' => ankrGet_run k (tabA ls) hok j l.length H';rw [tabA_get ls hl hl2, List.getElem?_eq_none (Nat.le_refl _)] at hg;simp only [Option.map_none, Option.getD_none, Option.isSome_none] at hg;obtain ⟨z, H2, e2, hx2⟩ := back24_l4 k ls hn hl hw hl2 (lv encPs ls) (lv encPs ls) (.int .i64 ls.length) (.int .i64 j) H';refine .inl ⟨_, _, ?_, rfl, (hx.trans hx2).push ⟨[.int .i64 0, .int .i64 0], 1, false⟩⟩;rw [swashlaw24_AnkrBack_l3_eq];simp -implicitDefEqProofs (disch := omega) [hjl, i1, hc, e2, swashlaw24_AnkrBack_l4k_x6, hg])
  (fun e H' ⟨he, hx⟩ => by
   subst he;refine ⟨.exit 4, _, H', ?_, by simp, rfl, ⟨.int .i64 ls.length, rfl⟩, hx⟩;rw [swashlaw24_AnkrBack_l3_eq];simp -implicitDefEqProofs)
 exact ⟨z, H1, hr1, hx⟩
theorem AnkrBack_run (ls : List (List (Int × Int))) (hls : ls.length < 2 ^ 63) (hw : ∀ l, l ∈ ls → ∀ p, p ∈ l → (-32768 ≤ p.1 ∧ p.1 < 32768) ∧ (-32768 ≤ p.2 ∧ p.2 < 32768)) (c : Int) (k : Nat) (hk : k = 1000000 + F.swashlaw24_speaks) : R (T k) F.swashlaw24_AnkrBack [lv encPs ls, .int .u8 c] Heap.empty = .ok (.bool true) Heap.empty := by
 have hs := speaks24_run k (by subst hk; rfl);have hk6 : 1000000 ≤ k := by subst hk; decide
 clear hk;rw [swashlaw24_AnkrBack_R];generalize Heap.empty = H;by_cases hn : ls.length > 30
 ·have hn' : (ls.length : Int) > 30 := by omega
  refine nrm_gc ⟨H, ?_, Ext.refl H⟩ (.bool _);simp -implicitDefEqProofs (disch := omega) [swashlaw24_AnkrBack, hs, hn']
 have hn' : ¬ (ls.length : Int) > 30 := by omega
 rcases back24_l1 k (.int .u8 c) ls (by omega) H with ⟨hall, z, hlp⟩ | hlp;rotate_left
 ·refine nrm_gc ⟨H, ?_, Ext.refl H⟩ (.bool _);simp -implicitDefEqProofs (disch := omega) [swashlaw24_AnkrBack, hs, hn', hlp, swashlaw24_AnkrBack_l1k_r]
 obtain ⟨s, o, H1, e1, g1⟩ := write24_own k hk6 (Star.nil H) (ptsSl_lv H ls) (by omega) hall;simp only [List.nil_append] at g1;obtain ⟨p1, p2, p3, p4, p5, p6⟩ := ankB_parts ls (by omega);have hdl := dataB_len ls hall;have hol : (ofS (aoffs ls)).length = 6 + ls.length * 2 := by unfold ofS; simp [twos_len, aoffs_len]; omega
 have hrd := ankrRead_run k ((g1.row 0 rfl).sl encB_len) (ankB_byt ls) 60 (by omega) (fun _ H' => ankrTake_run k _ (ankB_byt ls) 60 (by omega) (by omega) H');unfold ankrO ankrN at hrd;rw [if_pos (by omega), if_pos (by omega), ankS_back ls (by omega) hall] at hrd;simp only [ankrP, Option.isSome_some, if_true] at hrd;have hln : ∀ H', lnS s H' = .ok (.int .i64 (ankB ls).length) H' := (g1.row 0 rfl).len;obtain ⟨z2, H2, e2, x2⟩ := back24_l2 k g1 (by omega) c (ankV (tabA ls)) (lv encPs ls);obtain ⟨z3, H3, e3, x3⟩ := back24_l3 k ls (by omega) hall hw H2;have hok := tabA_ok ls (by omega) hall;have hc := fun H' => ankrCount_run k (tabA ls) hok ls.length H';rw [tabA_cnt ls hall, if_pos (by omega), Int.toNat_natCast, List.getElem?_eq_none (Nat.le_refl _)] at hc;simp only [Option.elim_none] at hc;have h0 := ankr0Count k (H := H3.push ⟨nilAnk, 1, false⟩) (a := H3.n) (get_push_eq _ _ _ rfl) 0;unfold nilAnk at h0;refine nrm_gc ⟨_, ?_, (x2.trans x3).push ⟨[.pointer none, .slice none 0 0], 1, false⟩⟩ (.bool _);simp -implicitDefEqProofs (disch := omega) [swashlaw24_AnkrBack, hs, hn', hlp, swashlaw24_AnkrBack_l1k_x0, e1, hrd, hln, e2, swashlaw24_AnkrBack_l2k_x2, e3, swashlaw24_AnkrBack_l3k_x4, hc, h0]
theorem wf_i16 {n : Int} (h : (Lit.int .i16 n).wf = true) : -32768 ≤ n ∧ n < 32768 := by
 simp [Lit.wf, IntKind.min, IntKind.max, IntKind.signed, IntKind.bits] at h;omega
theorem row_2 {r : List Da} {cs : List Value} (h : LayRow [.int .i16, .int .i16] r cs) : ∃ p : Int × Int, cs = enc2 p ∧ ((-32768 ≤ p.1 ∧ p.1 < 32768) ∧ (-32768 ≤ p.2 ∧ p.2 < 32768)) := by
 obtain ⟨d, v, ds, vs, rfl, h1, h2⟩ := h.head;obtain ⟨d', v', ds', vs', rfl, g2, h3⟩ := h2.head;obtain rfl := h3.done;obtain ⟨n, rfl, w⟩ := h1.intv;obtain ⟨m, rfl, w2⟩ := g2.intv;exact ⟨(n, m), rfl, wf_i16 w, wf_i16 w2⟩
theorem row_Ps {r : List Da} {cs : List Value} (h : LayRow [.slice [.int .i16, .int .i16]] r cs) : ∃ l : List (Int × Int), cs = encPs l ∧ ∀ p, p ∈ l → ((-32768 ≤ p.1 ∧ p.1 < 32768) ∧ (-32768 ≤ p.2 ∧ p.2 < 32768)) := by
 obtain ⟨d, v, ds, vs, rfl, h1, h2⟩ := h.head;obtain rfl := h2.done;obtain ⟨l, rfl, hl⟩ := Lay.list (enc := enc2) (ok := fun p => (-32768 ≤ p.1 ∧ p.1 < 32768) ∧ (-32768 ≤ p.2 ∧ p.2 < 32768)) (fun r cs h => row_2 h) h1;exact ⟨l, rfl, hl⟩
theorem AnkrBack_args (vs : List Value) (h : ArgsLay [.one (.slice [.slice [.int .i16, .int .i16]]), .one (.int .u8)] vs) : ∃ H', R (T (1000000 + F.swashlaw24_speaks)) F.swashlaw24_AnkrBack vs Heap.empty = .ok (.bool true) H' := by
 obtain ⟨v1, _, rfl, h1, h⟩ := h.head;obtain ⟨v2, _, rfl, h2, h⟩ := h.head;obtain rfl := h.done;obtain ⟨d, h1⟩ := h1.cell;obtain ⟨ls, rfl, hlen, hl⟩ := Lay.listN (enc := encPs) (ok := fun l => ∀ p, p ∈ l → ((-32768 ≤ p.1 ∧ p.1 < 32768) ∧ (-32768 ≤ p.2 ∧ p.2 < 32768))) (fun r cs h => row_Ps h) h1;obtain ⟨z, rfl, hz⟩ := arg_i h2;exact ⟨_, AnkrBack_run ls hlen hl z _ rfl⟩
theorem AnkrCuts_args (vs : List Value) (h : ArgsLay [.one (.slice [.slice [.int .i16, .int .i16]]), .one (.int .u8)] vs) : ∃ H', R (T F.swashlaw24_speaks) F.swashlaw24_AnkrCuts vs Heap.empty = .ok (.bool true) H' := by
 obtain ⟨v1, _, rfl, h1, h⟩ := h.head;obtain ⟨v2, _, rfl, h2, h⟩ := h.head;obtain rfl := h.done;obtain ⟨d, h1⟩ := h1.cell;obtain ⟨ls, rfl, hlen, hl⟩ := Lay.listN (enc := encPs) (ok := fun l => ∀ p, p ∈ l → ((-32768 ≤ p.1 ∧ p.1 < 32768) ∧ (-32768 ≤ p.2 ∧ p.2 < 32768))) (fun r cs h => row_Ps h) h1;obtain ⟨z, rfl, hz⟩ := arg_i h2;exact ⟨_, AnkrCuts_run ls hlen z (wf_u8 hz) _ rfl⟩
end Go.Sw
end
