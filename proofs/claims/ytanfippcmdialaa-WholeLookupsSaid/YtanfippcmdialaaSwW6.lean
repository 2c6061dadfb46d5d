/-
  Functions' forms, and what is proved of them, part 6.
-/
import Derived.Test.YtanfippcmdialaaSwW5
import Derived.Test.YtanfippcmdialaaSwCfg
import Derived.Test.YtanfippcmdialaaSwW1
import Derived.Test.YtanfippcmdialaaSwLib8
import Derived.Test.YtanfippcmdialaaSwW2
import Derived.Test.YtanfippcmdialaaSwLib9
import Derived.Laws.IdiomCopy
set_option linter.unusedSimpArgs false
set_option linter.unusedVariables false
set_option linter.unusedSectionVars false
section
namespace Go.Sw
open Go.RowKit
theorem goodR_snoc (r : RP) : ∀ a : List RP, goodR (a ++ [r]) = (goodR a && decide (r.first ≤ r.last) && match a.getLast? with | some q => decide (q.last < r.first) | none => true)
 | [] => by simp [goodR]
 | [x] => by
  simp only [List.singleton_append, goodR, List.getLast?_singleton];cases decide (x.first ≤ x.last) <;> cases decide (x.last < r.first) <;> cases decide (r.first ≤ r.last) <;> rfl
 | x :: y :: t => by
  have ih := goodR_snoc r (y :: t);simp only [List.cons_append] at ih ⊢;simp only [goodR, ih, List.getLast?_cons_cons];simp only [Bool.and_assoc]
abbrev tabRV (b : List Int) (rs : List RP) : Value := .agg #[lv encB b, lv encRP rs]
def tabRO (b : List Int) (o : Option (List RP)) : Value := match o with | some rs => tabRV b rs | none => tabRV [] []
theorem Flat.tabRV (b : List Int) (rs : List RP) : Flat (tabRV b rs) := .aggL (.cons (Flat.B _) (.cons (Flat.RPs _) .nil))
theorem tabRO_flat (b : List Int) (o : Option (List RP)) : Flat (tabRO b o) := by
 unfold tabRO;split
 ·exact Flat.tabRV _ _
 ·exact Flat.tabRV _ _
theorem read06_run (k : Nat) (b : List Int) (hb : Byt b) (g z : Int) (hg : 1 ≤ g ∧ g ≤ 65535) (hz : z = 2 ∨ z = 4) (hl : b.length < 2 ^ 31) (H : Heap) :
  R (T k) F.swashref06_Read [lv encB b, .int .i64 g, .int .i64 z] H = .ok (.tuple #[tabRO b (refReadS b g z), .bool (refReadS b g z).isSome]) H := by
 have hx0 : Ext H (H.push ⟨[.slice none 0 0, .slice none 0 0], 1, false⟩) := (Ext.refl H).push _;obtain ⟨v, e, hp⟩ := parts06_run k b hb g z hg hz hl (H.push ⟨[.slice none 0 0, .slice none 0 0], 1, false⟩);obtain ⟨l, ok, rfl, ho, hll⟩ := hp.val;rw [swashref06_Read_R]
 obtain ⟨x, e', H1, hr, rfl, rfl, rfl⟩ := loop_up (body := swashref06_Read_l1 k (R (T k))) l.length
  (fun j e H' => H' = H.push ⟨[.slice none 0 0, .slice none 0 0], 1, false⟩ ∧ e = [(0, lv encB b), (6, .pointer (some ⟨H.n, 0, none⟩)), (8, lv encRP l), (9, .bool (ok && goodR (l.take j))), (10, .int .i64 j)])
  (fun x e H' => H' = H.push ⟨[.slice none 0 0, .slice none 0 0], 1, false⟩ ∧ x = .exit 0 ∧ e = [(0, lv encB b), (6, .pointer (some ⟨H.n, 0, none⟩)), (8, lv encRP l), (9, .bool (ok && goodR l)), (10, .int .i64 l.length), (21, .bool false)])
  (e0 := [(0, lv encB b), (6, .pointer (some ⟨H.n, 0, none⟩)), (8, lv encRP l), (9, .bool ok), (10, .int .i64 0)]) (H0 := H.push ⟨[.slice none 0 0, .slice none 0 0], 1, false⟩) ⟨rfl, by simp [goodR]⟩ (by omega)
  (fun j e H' hj ⟨hH, he⟩ => by
   subst he hH;have hlt : (j : Int) < l.length := by omega
   obtain ⟨r, hr⟩ : ∃ r, l[j]? = some r := ⟨_, List.getElem?_eq_getElem hj⟩
   have i1 := fun H' => ixS_lvN encRP_len l .i64 j r hr H';refine .inl ⟨_, _, ?_, rfl, rfl⟩;rw [swashref06_Read_l1_eq, take_snoc hr, goodR_snoc];by_cases h1 : r.last < r.first
   ·have h1' : ¬ r.first ≤ r.last := by omega
    simp -implicitDefEqProofs (disch := omega) [hlt, i1, h1, h1', swashref06_Read_j1_eq]
   ·have h1' : r.first ≤ r.last := by omega
    cases j with
    | zero =>
     simp -implicitDefEqProofs (disch := omega) at i1 hlt;simp -implicitDefEqProofs (disch := omega) [hlt, i1, h1, h1', swashref06_Read_j2_eq, goodR]
    | succ j =>
     obtain ⟨q, hq⟩ : ∃ q, l[j]? = some q := ⟨_, List.getElem?_eq_getElem (by omega)⟩
     have i2 := fun H' => ixS_lvN encRP_len l .i64 j q hq H';have hlast : (l.take (j + 1)).getLast? = some q := by rw [take_snoc hq]; simp
     rw [hlast];have hj0 : (0 : Int) < (j : Int) + 1 := by omega
     simp -implicitDefEqProofs (disch := omega) at i1 hlt;by_cases h2 : r.first ≤ q.last
     ·have h2' : ¬ q.last < r.first := by omega
      simp -implicitDefEqProofs (disch := omega) [hlt, i1, i2, h1, h1', h2, h2', hj0, swashref06_Read_j1_eq]
     ·have h2' : q.last < r.first := by omega
      simp -implicitDefEqProofs (disch := omega) [hlt, i1, i2, h1, h1', h2, h2', hj0, swashref06_Read_j2_eq])
  (fun e H' ⟨hH, he⟩ => by
   subst he hH;refine ⟨.exit 0, _, _, ?_, by simp, rfl, rfl, rfl⟩;rw [swashref06_Read_l1_eq, List.take_length];simp -implicitDefEqProofs)
 have hread : refReadS b g z = if (ok && goodR l) = true then some l else none := by
  unfold refReadS;rw [ho];cases ok <;> simp
 rw [hread];cases hgood : (ok && goodR l) with
 | false =>
  rw [hgood] at hr;refine nrm_fz (v := .tuple #[.agg #[.slice none 0 0, .slice none 0 0], .bool false]) (L := []) (H' := H.push ⟨[.slice none 0 0, .slice none 0 0], 1, false⟩) ?_ rfl hx0 (Flat.tupleL (.cons (tabRO_flat b none) (.cons (.bool _) .nil))).alive;simp -implicitDefEqProofs [swashref06_Read, e, hr, swashref06_Read_l1k_x0]
 | true =>
  rw [hgood] at hr;refine nrm_fz (v := .tuple #[tabRV b l, .bool true]) (L := []) (H' := H.push ⟨[lv encB b, lv encRP l], 1, false⟩) ?_ rfl ((Ext.refl H).push _) (Flat.tupleL (.cons (Flat.tabRV b l) (.cons (.bool _) .nil))).alive;simp -implicitDefEqProofs [swashref06_Read, e, hr, swashref06_Read_l1k_x0]
def RP.ok (r : RP) : Prop := -1 ≤ r.first ∧ r.first ≤ 65536 ∧ -1 ≤ r.last ∧ r.last ≤ 65536 ∧ -1 ≤ r.pos ∧ r.pos < 2 ^ 35 ∧ 0 ≤ r.step ∧ r.step ≤ 4 ∧ 0 ≤ r.size ∧ r.size ≤ 4
end Go.Sw
end
section
namespace Go.Sw
open Go.RowKit
end Go.Sw
end
section
namespace Go.Sw
open Go.RowKit
end Go.Sw
end
section
set_option maxRecDepth 100000
set_option linter.unusedVariables false
namespace Go.Sw
noncomputable section
end
end Go.Sw
end
section
namespace Go.Sw
open Go.RowKit
end Go.Sw
end
section
namespace Go.Sw
open Go.RowKit
end Go.Sw
end
section
namespace Go.Sw
theorem row_I {r : List Da} {cs : List Value} (h : LayRow [.int .i64] r cs) : ∃ n : Int, cs = encI n ∧ (Lit.int .i64 n).wf = true := by
 obtain ⟨d, v, ds, vs, rfl, h1, h2⟩ := h.head;obtain rfl := h2.done;obtain ⟨n, rfl, w⟩ := h1.intv;exact ⟨n, rfl, w⟩
theorem wf_u8 {n : Int} (h : (Lit.int .u8 n).wf = true) : 0 ≤ n ∧ n < 256 := by
 simp [Lit.wf, IntKind.min, IntKind.max, IntKind.signed, IntKind.bits] at h;omega
theorem row_B {r : List Da} {cs : List Value} (h : LayRow [.int .u8] r cs) : ∃ n : Int, cs = encB n ∧ (0 ≤ n ∧ n < 256) := by
 obtain ⟨d, v, ds, vs, rfl, h1, h2⟩ := h.head;obtain rfl := h2.done;obtain ⟨n, rfl, w⟩ := h1.intv;exact ⟨n, rfl, wf_u8 w⟩
theorem arg_B {v : Value} (h : ArgLay (.one (.slice [.int .u8])) v) : ∃ b, v = lv encB b ∧ Byt b := by
 obtain ⟨d, h1⟩ := h.cell;obtain ⟨b, rfl, hb⟩ := Lay.list (enc := encB) (ok := fun n => 0 ≤ n ∧ n < 256) (fun r cs h => row_B h) h1;exact ⟨b, rfl, hb⟩
theorem arg_I {v : Value} (h : ArgLay (.one (.slice [.int .i64])) v) : ∃ l, v = lv encI l ∧ ∀ n, n ∈ l → (Lit.int .i64 n).wf = true := by
 obtain ⟨d, h1⟩ := h.cell;exact Lay.list (enc := encI) (ok := fun n => (Lit.int .i64 n).wf = true) (fun r cs h => row_I h) h1
theorem arg_i {k : IntKind} {v : Value} (h : ArgLay (.one (.int k)) v) : ∃ n, v = .int k n ∧ (Lit.int k n).wf = true := by
 obtain ⟨d, h1⟩ := h.cell;exact h1.intv
end Go.Sw
end
section
namespace Go.Sw
open Go.RowKit
end Go.Sw
end
section
namespace Go.Sw
open Go.RowKit
end Go.Sw
end
section
namespace Go.Sw
open Go.RowKit
variable {σ : Type}
end Go.Sw
end
section
namespace Go.Sw
open Go.RowKit
end Go.Sw
end
section
namespace Go.Sw
open Go.RowKit
variable {σ : Type}
end Go.Sw
end
section
namespace Go.Sw
open Go.RowKit
structure ITab where
 m : Mach
 list : List Int
def hereS (e : En) : Int := if e.a = 65535 then 0 else e.flags / 32 % 32
def markS (e : En) : Int := if e.b = 65535 then 0 else e.flags % 32
structure ITab.ok (t : ITab) : Prop where
 m : t.m.ok
 byt : Byt t.list
 len : t.list.length < 2 ^ 31
 has : ∀ e, e ∈ t.m.ents → (0 < hereS e → 2 * e.a + hereS e * 2 ≤ t.list.length) ∧ (0 < markS e → 2 * e.b + markS e * 2 ≤ t.list.length)
def insCl (l : List Gl) (i : Int) : Int := match atG l i with | some g => g.cl | none => ((atG l (i - 1)).getD ⟨0, 0⟩).cl
def insertG (l : List Gl) (i : Int) (ids : List Int) : List Gl := if 0 ≤ i ∧ i ≤ l.length then l.take i.toNat ++ (ids.map (fun x => (⟨x, insCl l i⟩ : Gl)) ++ l.drop i.toNat) else l
def listN (list : List Int) (at_ n : Int) : List Int := (List.range n.toNat).map fun (i : Nat) => gU list (2 * (at_ + (i : Int))) 2
end Go.Sw
end
section
namespace Go.Sw
open Go.RowKit
theorem insertV_R (k : Nat) {args : List Value} {s : Value} {H H' : Heap} (h : insertV 2 16 args H = .ok s H') : R (T k) F.slices_Insert_of_api_Glyph_api_Glyph args H = .ok s H' :=
 (R_sp (t := T k) (T_scott k) (s := fun _ args H => insertV 2 16 args H) (by kernel_rfl) args H).trans (by
  show nrm (mdS k F.slices_Insert_of_api_Glyph_api_Glyph) H _ = _;rw [show mdS k F.slices_Insert_of_api_Glyph_api_Glyph = .no from by kernel_rfl];exact nrm_of h)
set_option maxHeartbeats 2000000 in
theorem lineInsert_starG (k : Nat) {H0 H : Heap} {L : List It} (h : Star H0 H L) (il : Nat) {c : Nat} {o : Option Nat} {l : List Gl} (hil : L[il]? = some (itLine c o l)) (i : Int) {vI : Value} {ids : List Int} (hv : ∀ H' L', Star H0 H' (L ++ L') → Sl H' 1 vI encI ids) (hb : l.length + ids.length ≤ 2 ^ 30) :
  ∃ o' H', R (T k) F.line_Line_Insert [ptrV c, .int .i64 i, vI] H = .ok (.bool (decide (0 ≤ i ∧ i ≤ l.length))) H' ∧ Star H0 H' (L.set il (itLine c o' (insertG l i ids))) := by
 have hlt := (List.getElem?_eq_some_iff.1 hil).1;obtain ⟨_, s0, h1, h2⟩ := h.box il hil;simp at h1;have hlen := h2.len;rw [line_Line_Insert_R];by_cases hi : 0 ≤ i ∧ i ≤ l.length;rotate_left
 ·refine ⟨o, H, nrm_of ?_, ?_⟩
  ·rw [decide_eq_false hi];by_cases d : i < 0
   ·simp -implicitDefEqProofs [line_Line_Insert, d]
   ·have d2 : i > (l.length : Int) := by omega
    simp -implicitDefEqProofs [line_Line_Insert, d, h1, hlen, d2]
  ·unfold insertG;rw [if_neg hi, set_same hil];exact h
 rw [decide_eq_true hi];have d1 : ¬ i < 0 := by omega
 have d2 : ¬ i > (l.length : Int) := by omega
 obtain ⟨p, rfl⟩ := Int.eq_ofNat_of_zero_le hi.1;have hat := lineAt_run k h il hil (p : Int);have hcn : ¬ c = H.n := by have := Heap.get_lt h1; omega
 -- whatever glyph stands there
 have key : ∀ q : Gl, q.cl = insCl l p → ∃ o' H', (loopN (line_Line_Insert_l1 k (R (T k))) loopFuel [(0, ptrV c), (1, .int .i64 p), (7, ptrV H.n), (9, .slice none 0 0), (38, vI), (39, .int .i64 ids.length), (40, .int .i64 0)] (H.push ⟨encG q, 1, false⟩)).bind (fun r h' => line_Line_Insert_l1k k (R (T k)) r.1 r.2 h') = .ok (.bool true) H' ∧ Star H0 H' (L.set il (itLine c o' (insertG l p ids))) := by
  intro q hq;have g := (h.push ⟨encG q, 1, false⟩).more_row (Ext.refl _) (OwnO.nil encG _ 2) (fun b hb => by cases hb)
  obtain ⟨xx, e', H1, hr, rfl, s, o1, rfl, g⟩ := loop_up (body := line_Line_Insert_l1 k (R (T k))) ids.length
   (fun j e H' => ∃ s o1, e = [(0, ptrV c), (1, .int .i64 p), (7, ptrV H.n), (9, s), (38, vI), (39, .int .i64 ids.length), (40, .int .i64 j)] ∧ Star H0 H' (L ++ [itBlk H.n ⟨encG q, 1, false⟩] ++ [itRow o1 2 s encG ((ids.take j).map fun x => (⟨x, q.cl⟩ : Gl))]))
   (fun xx e H' => xx = .exit 0 ∧ ∃ s o1, e = [(0, ptrV c), (1, .int .i64 p), (7, ptrV H.n), (9, s), (38, vI), (39, .int .i64 ids.length), (40, .int .i64 ids.length), (41, .bool false)] ∧ Star H0 H' (L ++ [itBlk H.n ⟨encG q, 1, false⟩] ++ [itRow o1 2 s encG (ids.map fun x => (⟨x, q.cl⟩ : Gl))]))
   (e0 := [(0, ptrV c), (1, .int .i64 p), (7, ptrV H.n), (9, .slice none 0 0), (38, vI), (39, .int .i64 ids.length), (40, .int .i64 0)]) (H0 := H.push ⟨encG q, 1, false⟩) ⟨_, none, rfl, by simpa using g⟩ (by omega)
   (fun j e H' hj ⟨s, o1, he, g⟩ => by
    subst he;have hjl : (j : Int) < ids.length := by omega
    obtain ⟨x, hx⟩ : ∃ x, ids[j]? = some x := ⟨_, List.getElem?_eq_getElem hj⟩
    obtain ⟨pp, i1, i2⟩ := (hv H' ([itBlk H.n ⟨encG q, 1, false⟩] ++ [itRow o1 2 s encG ((ids.take j).map fun x => (⟨x, q.cl⟩ : Gl))]) (by rw [← List.append_assoc]; exact g)).ix1 encI_len j x hx _ rfl;have i2 := i2 H' (Ext.refl _);have gb := g.memBlk (c := H.n) (k := ⟨encG q, 1, false⟩) (by simp);have hne : ¬ H.n = H'.n := by have := Heap.get_lt gb; omega
    have hrw : (L ++ [itBlk H.n ⟨encG q, 1, false⟩] ++ [itRow o1 2 s encG ((ids.take j).map fun x => (⟨x, q.cl⟩ : Gl))])[L.length + 1]? = some (itRow o1 2 s encG ((ids.take j).map fun x => (⟨x, q.cl⟩ : Gl))) := by
     rw [List.getElem?_append_right (by simp), List.length_append, List.length_singleton, Nat.sub_self];rfl
    obtain ⟨s2, o2, H2, e2, g2⟩ := g.append1 (bytes := 16) (L.length + 1) encG_len hrw (⟨x, q.cl⟩ : Gl) (by rw [List.length_map, List.length_take]; omega) (by decide);rw [List.set_append_right _ _ (by simp)] at g2;have hm : (ids.take j).map (fun x => (⟨x, q.cl⟩ : Gl)) ++ [⟨x, q.cl⟩] = (ids.take (j + 1)).map fun x => (⟨x, q.cl⟩ : Gl) := by rw [take_snoc hx, List.map_append]; rfl
    rw [hm] at g2;simp only [List.length_append, List.length_singleton, Nat.sub_self, List.set_cons_zero] at g2;refine .inl ⟨_, H2, ?_, s2, o2, rfl, g2⟩;rw [line_Line_Insert_l1_eq];have e2 : apR 2 16 s (.slice (some ⟨H'.n, 0, none⟩) 1 1) (H'.push ⟨[.int .i64 x, .int .i64 q.cl], 2, false⟩) = .ok s2 H2 := e2;simp -implicitDefEqProofs (disch := omega) [hjl, i1, i2, gb, hne, e2])
   (fun e H' ⟨s, o1, he, g⟩ => by
    subst he;rw [List.take_length] at g;refine ⟨.exit 0, _, H', ?_, by simp, rfl, s, o1, rfl, g⟩;rw [line_Line_Insert_l1_eq];simp -implicitDefEqProofs)
  have hil2 : (L ++ [itBlk H.n ⟨encG q, 1, false⟩] ++ [itRow o1 2 s encG (ids.map fun x => (⟨x, q.cl⟩ : Gl))])[il]? = some (itLine c o l) := by rw [List.append_assoc, List.getElem?_append_left hlt]; exact hil
  obtain ⟨s3, g3⟩ := g.split il hil2;have hc3 := g3.memBlk (c := c) (k := ⟨[s3], 1, false⟩) (by simp);have hrow : ((L ++ [itBlk H.n ⟨encG q, 1, false⟩] ++ [itRow o1 2 s encG (ids.map fun x => (⟨x, q.cl⟩ : Gl))]).set il (itRow o 2 s3 encG l) ++ [itBlk c ⟨[] ++ [s3], 1, false⟩])[il]? = some (itRow o 2 s3 encG l) := by
   rw [List.getElem?_append_left (by simp; omega), List.getElem?_set_self (by simp; omega)]
  have hins : ((L ++ [itBlk H.n ⟨encG q, 1, false⟩] ++ [itRow o1 2 s encG (ids.map fun x => (⟨x, q.cl⟩ : Gl))]).set il (itRow o 2 s3 encG l) ++ [itBlk c ⟨[] ++ [s3], 1, false⟩])[L.length + 1]? = some (itRow o1 2 s encG (ids.map fun x => (⟨x, q.cl⟩ : Gl))) := by
   rw [List.getElem?_append_left (by simp), List.getElem?_set_ne (by omega), List.getElem?_append_right (by simp)];simp
  obtain ⟨s4, o4, H4, e4, g4⟩ := g3.insertRow (bytes := 16) il (L.length + 1) encG_len (by omega) hrow hins (p := p) (by omega) (by simp; omega) (by decide);have hblk : ((((L ++ [itBlk H.n ⟨encG q, 1, false⟩] ++ [itRow o1 2 s encG (ids.map fun x => (⟨x, q.cl⟩ : Gl))]).set il (itRow o 2 s3 encG l) ++ [itBlk c ⟨[] ++ [s3], 1, false⟩]).set il (itRow o4 2 s4 encG (l.take p ++ ((ids.map fun x => (⟨x, q.cl⟩ : Gl)) ++ l.drop p)))))[L.length + 2]? = some (itBlk c ⟨[] ++ [s3], 1, false⟩) := by
   rw [List.getElem?_set_ne (by omega), List.getElem?_append_right (by simp)];simp
  have hrow4 : ((((L ++ [itBlk H.n ⟨encG q, 1, false⟩] ++ [itRow o1 2 s encG (ids.map fun x => (⟨x, q.cl⟩ : Gl))]).set il (itRow o 2 s3 encG l) ++ [itBlk c ⟨[] ++ [s3], 1, false⟩]).set il (itRow o4 2 s4 encG (l.take p ++ ((ids.map fun x => (⟨x, q.cl⟩ : Gl)) ++ l.drop p)))))[il]? = some (itRow o4 2 s4 encG (l.take p ++ ((ids.map fun x => (⟨x, q.cl⟩ : Gl)) ++ l.drop p))) := List.getElem?_set_self (by simp; omega);have hc4 := g4.get (L.length + 2) hblk;have st4 := (g4.row il hrow4).storable;have ce4 := (g4.row il hrow4).cells;have g5 := g4.setBlk (L.length + 2) hblk ⟨[] ++ [s4], 1, false⟩;have g6 := g5.join il (L.length + 2) L.length hlt (by omega) (by rw [List.getElem?_set_ne (by omega)]; exact hrow4) (List.getElem?_set_self (by simp));have hfin : insertG l p ids = l.take p ++ ((ids.map fun x => (⟨x, q.cl⟩ : Gl)) ++ l.drop p) := by
   unfold insertG;rw [if_pos hi, Int.toNat_natCast, hq]
  refine ⟨o4, H4.set c (some ⟨[] ++ [s4], 1, false⟩), ?_, ?_⟩;rotate_left
  ·rw [hfin];have e : ∀ (x y z z' R R4 : It), (((L ++ [x] ++ [y]).set il R ++ [z]).set il R4).set (L.length + 2) z' = L.set il R4 ++ [x, y, z'] := by
    intro x y z z' R R4;rw [List.append_assoc L, List.set_append_left _ _ hlt, List.append_assoc (L.set il R), List.set_append_left _ _ (by simpa using hlt), List.set_set, List.set_append_right _ _ (by simp)];simp
   rw [e, List.take_left' (by simp), List.set_set] at g6;exact g6
  ·have e4 := insertV_R k e4;simp -implicitDefEqProofs (disch := omega) [hr, line_Line_Insert_l1k_x0, hc3, e4, hc4, st4, ce4]
 have hlv := fun H' => (hv H [] (by rw [List.append_nil]; exact h)).len H';cases hq : atG l p with
 | some q =>
  rw [hq] at hat;obtain ⟨o', H', e1, g1⟩ := key q (by unfold insCl; rw [hq]);refine ⟨o', H', nrm_of ?_, g1⟩;simp -implicitDefEqProofs [line_Line_Insert, d1, h1, hlen, d2, hat, encA, line_Line_Insert_j2_eq, hlv, e1]
 | none =>
  rw [hq] at hat;have hxp : Ext H (H.push ⟨[.int .i64 0, .int .i64 0], 1, false⟩) := (Ext.refl H).push _;have hat2 := lineAt_run k (h.rest hxp) il hil ((p : Int) - 1);obtain ⟨o', H', e1, g1⟩ := key ((atG l ((p : Int) - 1)).getD ⟨0, 0⟩) (by unfold insCl; rw [hq]);refine ⟨o', H', nrm_of ?_, g1⟩;have hw : IntKind.i64.wrap ((p : Int) - 1) = (p : Int) - 1 := wrap_i64 (by omega) (by omega);simp -implicitDefEqProofs [line_Line_Insert, d1, h1, hlen, d2, hat, encA, line_Line_Insert_j1_eq, hlv, hw, hat2, e1]
end Go.Sw
end
section
set_option maxRecDepth 100000
set_option linter.unusedVariables false
namespace Go.Sw
noncomputable section
def swashlaw11_LineDoes_l1 (k : Nat) (call : Caller) : Env → Heap → Res (AExit × Env) := loopB (C k) call F.swashlaw11_LineDoes [1, 1, 1, 1, 0, 1, 0, 0]
def swashlaw11_LineDoes_l1k (k : Nat) (call : Caller) : Kont Value := kBlock 0 (kSeq (pieceK (C k) call F.swashlaw11_LineDoes [1, 1, 1, 1, 1]) (kDone Prog (resOf Prog F.swashlaw11_LineDoes)))
def swashlaw11_LineDoes (k : Nat) (call : Caller) (a0 a1 a2 : Value) (h : Heap) : Res Value :=
 (call F.swashlaw11_speaks [] h).bind fun v1 h2 =>
 (unR .not v1 h2).bind fun v3 h4 =>
 condV (some v3) (
 .ok (.bool false) h4)
 (
 (call F.swashlaw11_big [a1] h4).bind fun v5 h6 =>
 ((bif wantVal v5 false then Res.ok a0 h6 else Res.ok undef h6)).bind fun v7 h8 =>
 ((bif wantVal v5 false then builtinV Prog .len [23] [v7] h8 else Res.ok undef h8)).bind fun v9 h10 =>
 ((bif wantVal v5 false then binR Prog .gtr 3 v9 (.int .i64 60) h10 else Res.ok undef h10)).bind fun v11 h12 =>
 (condV (some v5) (Res.ok (.bool true) h12) (Res.ok v11 h12)).bind fun v13 h14 =>
 condV (some v13) (
 .ok (.bool true) h14)
 (
 (call F.line_New [a0] h14).bind fun v15 h16 =>
 (call F.swashref11_New [a0] h16).bind fun v17 h18 =>
 (builtinV Prog .len [47] [a1] h18).bind fun v19 h20 =>
 (loopN (swashlaw11_LineDoes_l1 k call) loopFuel [(2, a2), (7, v15), (8, v17), (27, a1), (28, v19), (29, (.int .i64 0))] h20).bind fun r21 h22 =>
 swashlaw11_LineDoes_l1k k call r21.1 r21.2 h22))
theorem swashlaw11_LineDoes_R (k : Nat) (a0 a1 a2 : Value) (h : Heap) : R (T k) F.swashlaw11_LineDoes [a0, a1, a2] h = nrm .gc h (swashlaw11_LineDoes k (R (T k)) a0 a1 a2 h) :=
 (R_body (t := T k) (T_scott k) (by kernel_rfl) (by kernel_rfl) _ _).trans (by kernel_rfl)
theorem swashlaw11_LineDoes_l1_eq (k : Nat) (call : Caller) (a2 a7 a8 a27 a28 a29 : Value) (h : Heap) : swashlaw11_LineDoes_l1 k call [(2, a2), (7, a7), (8, a8), (27, a27), (28, a28), (29, a29)] h =
 (binR Prog .lss 3 a29 a28 h).bind fun v23 h24 =>
 condV (some v23) (
 (indexAddrR Prog 47 a27 a29 h24).bind fun v25 h26 =>
 (loadR Prog 52 v25 h26).bind fun v27 h28 =>
 (allocR Prog 52 h28).bind fun v29 h30 =>
 (storeR Prog 52 v29 v27 h30).bind fun _v31 h32 =>
 (loadR Prog 52 v29 h32).bind fun v33 h34 =>
 (call F.swashlaw11_do [a7, a8, v33] h34).bind fun v35 h36 =>
 (extractR v35 0 h36).bind fun v37 h38 =>
 (extractR v35 1 h38).bind fun v39 h40 =>
 (unR .not v39 h40).bind fun v41 h42 =>
 ((bif wantVal v41 false then Res.ok a7 h42 else Res.ok undef h42)).bind fun v43 h44 =>
 ((bif wantVal v41 false then call F.line_Line_Glyphs [v43] h44 else Res.ok undef h44)).bind fun v45 h46 =>
 ((bif wantVal v41 false then Res.ok v37 h46 else Res.ok undef h46)).bind fun v47 h48 =>
 ((bif wantVal v41 false then call F.swashref11_Same [v45, v47] h48 else Res.ok undef h48)).bind fun v49 h50 =>
 ((bif wantVal v41 false then unR .not v49 h50 else Res.ok undef h50)).bind fun v51 h52 =>
 (condV (some v41) (Res.ok (.bool true) h52) (Res.ok v51 h52)).bind fun v53 h54 =>
 ((bif wantVal v53 false then Res.ok a7 h54 else Res.ok undef h54)).bind fun v55 h56 =>
 ((bif wantVal v53 false then call F.line_Line_Len [v55] h56 else Res.ok undef h56)).bind fun v57 h58 =>
 ((bif wantVal v53 false then Res.ok v37 h58 else Res.ok undef h58)).bind fun v59 h60 =>
 ((bif wantVal v53 false then builtinV Prog .len [22] [v59] h60 else Res.ok undef h60)).bind fun v61 h62 =>
 ((bif wantVal v53 false then binR Prog .neq 3 v57 v61 h62 else Res.ok undef h62)).bind fun v63 h64 =>
 (condV (some v53) (Res.ok (.bool true) h64) (Res.ok v63 h64)).bind fun v65 h66 =>
 condV (some v65) (
 .ok (.ret, [(6, (.bool false))]) h66)
 (
 (binR Prog .add 3 a29 (.int .i64 1) h66).bind fun v67 h68 =>
 .ok (.normal, [(2, a2), (7, a7), (8, v37), (27, a27), (28, a28), (29, v67)]) h68))
 (
 .ok ((.exit 0), [(2, a2), (7, a7), (8, a8), (27, a27), (28, a28), (29, a29), (30, v23)]) h24) :=
 (loopB_eq _ _).trans (by kernel_rfl)
theorem swashlaw11_LineDoes_l1k_x0 (k : Nat) (call : Caller) (a2 a7 a8 a27 a28 a29 a30 : Value) (h : Heap) : swashlaw11_LineDoes_l1k k call (.exit 0) [(2, a2), (7, a7), (8, a8), (27, a27), (28, a28), (29, a29), (30, a30)] h =
 (call F.line_Line_At [a7, a2] h).bind fun v69 h70 =>
 (extractR v69 0 h70).bind fun v71 h72 =>
 (extractR v69 1 h72).bind fun v73 h74 =>
 (allocR Prog 57 h74).bind fun v75 h76 =>
 (storeR Prog 57 v75 v71 h76).bind fun _v77 h78 =>
 (binR Prog .geq 3 a2 (.int .i64 0) h78).bind fun v79 h80 =>
 ((bif wantVal v79 true then Res.ok a2 h80 else Res.ok undef h80)).bind fun v81 h82 =>
 ((bif wantVal v79 true then Res.ok a8 h82 else Res.ok undef h82)).bind fun v83 h84 =>
 ((bif wantVal v79 true then builtinV Prog .len [22] [v83] h84 else Res.ok undef h84)).bind fun v85 h86 =>
 ((bif wantVal v79 true then binR Prog .lss 3 v81 v85 h86 else Res.ok undef h86)).bind fun v87 h88 =>
 (condV (some v79) (Res.ok v87 h88) (Res.ok (.bool false) h88)).bind fun v89 h90 =>
 (binR Prog .neq 4 v73 v89 h90).bind fun v91 h92 =>
 condV (some v91) (
 .ok (.bool false) h92)
 (
 ((bif wantVal v73 true then loadR Prog 57 v75 h92 else Res.ok undef h92)).bindN fun v93 h94 =>
 ((bif wantVal v73 true then Res.ok a8 h94 else Res.ok undef h94)).bindN fun v95 h96 =>
 ((bif wantVal v73 true then Res.ok a2 h96 else Res.ok undef h96)).bindN fun v97 h98 =>
 ((bif wantVal v73 true then indexAddrR Prog 22 v95 v97 h98 else Res.ok undef h98)).bindN fun v99 h100 =>
 ((bif wantVal v73 true then loadR Prog 57 v99 h100 else Res.ok undef h100)).bindN fun v101 h102 =>
 ((bif wantVal v73 true then binR Prog .eql 57 v93 v101 h102 else Res.ok undef h102)).bindN fun v103 h104 =>
 (condV (some v73) (Res.ok v103 h104) (Res.ok (.bool false) h104)).bindN fun v105 h106 =>
 ((bif wantVal v105 false then Res.ok v73 h106 else Res.ok undef h106)).bindN fun v107 h108 =>
 ((bif wantVal v105 false then unR .not v107 h108 else Res.ok undef h108)).bindN fun v109 h110 =>
 ((bif wantVal v105 false then Res.ok v109 h110 else Res.ok undef h110)).bindN fun v111 h112 =>
 ((bif wantVal v111 true then loadR Prog 57 v75 h112 else Res.ok undef h112)).bindN fun v113 h114 =>
 ((bif wantVal v111 true then buildR Prog 57 [] h114 else Res.ok undef h114)).bindN fun v115 h116 =>
 ((bif wantVal v111 true then binR Prog .eql 57 v113 v115 h116 else Res.ok undef h116)).bindN fun v117 h118 =>
 ((bif wantVal v105 false then condV (some v111) (Res.ok v117 h118) (Res.ok (.bool false) h118) else Res.ok undef h118)).bindN fun v119 h120 =>
 (condV (some v105) (Res.ok (.bool true) h120) (Res.ok v119 h120)).bindN fun v121 h122 =>
 .ok v121 h122) := by kernel_rfl
def swashlaw11_big_l1 (k : Nat) (call : Caller) : Env → Heap → Res (AExit × Env) := loopB (C k) call F.swashlaw11_big [1, 1, 0, 1, 0, 0]
def swashlaw11_big_l1k (k : Nat) (call : Caller) : Kont Value := kBlock 0 (kSeq (pieceK (C k) call F.swashlaw11_big [1, 1, 1]) (kDone Prog (resOf Prog F.swashlaw11_big)))
def swashlaw11_big (k : Nat) (call : Caller) (a0 : Value) (h : Heap) : Res Value :=
 (builtinV Prog .len [47] [a0] h).bind fun v1 h2 =>
 (binR Prog .gtr 3 v1 (.int .i64 60) h2).bind fun v3 h4 =>
 condV (some v3) (
 .ok (.bool true) h4)
 (
 (builtinV Prog .len [47] [a0] h4).bind fun v5 h6 =>
 (loopN (swashlaw11_big_l1 k call) loopFuel [(8, a0), (9, v5), (10, (.int .i64 0))] h6).bind fun r7 h8 =>
 swashlaw11_big_l1k k call r7.1 r7.2 h8)
theorem swashlaw11_big_R (k : Nat) (a0 : Value) (h : Heap) : R (T k) F.swashlaw11_big [a0] h = nrm .gc h (swashlaw11_big k (R (T k)) a0 h) :=
 (R_body (t := T k) (T_scott k) (by kernel_rfl) (by kernel_rfl) _ _).trans (by kernel_rfl)
theorem swashlaw11_big_l1_eq (k : Nat) (call : Caller) (a8 a9 a10 : Value) (h : Heap) : swashlaw11_big_l1 k call [(8, a8), (9, a9), (10, a10)] h =
 (binR Prog .lss 3 a10 a9 h).bind fun v9 h10 =>
 condV (some v9) (
 (indexAddrR Prog 47 a8 a10 h10).bind fun v11 h12 =>
 (loadR Prog 52 v11 h12).bind fun v13 h14 =>
 (allocR Prog 52 h14).bind fun v15 h16 =>
 (storeR Prog 52 v15 v13 h16).bind fun _v17 h18 =>
 (fieldAddrR Prog 52 v15 2 h18).bind fun v19 h20 =>
 (loadR Prog 23 v19 h20).bind fun v21 h22 =>
 (builtinV Prog .len [23] [v21] h22).bind fun v23 h24 =>
 (binR Prog .gtr 3 v23 (.int .i64 40) h24).bind fun v25 h26 =>
 condV (some v25) (
 .ok (.ret, [(2, (.bool true))]) h26)
 (
 (binR Prog .add 3 a10 (.int .i64 1) h26).bind fun v27 h28 =>
 .ok (.normal, [(8, a8), (9, a9), (10, v27)]) h28))
 (
 .ok ((.exit 0), [(8, a8), (9, a9), (10, a10), (11, v9)]) h10) :=
 (loopB_eq _ _).trans (by kernel_rfl)
theorem swashlaw11_big_l1k_r (k : Nat) (call : Caller) (a2 : Value) (h : Heap) : swashlaw11_big_l1k k call .ret [(2, a2)] h =
 .ok a2 h := by kernel_rfl
theorem swashlaw11_big_l1k_x0 (k : Nat) (call : Caller) (a8 a9 a10 a11 : Value) (h : Heap) : swashlaw11_big_l1k k call (.exit 0) [(8, a8), (9, a9), (10, a10), (11, a11)] h =
 .ok (.bool false) h := by kernel_rfl
def swashlaw11_do_j1 (k : Nat) (call : Caller) (a1 a8 a9 : Value) (h : Heap) : Res Value :=
 kSeq (pieceK (C k) call F.swashlaw11_do [1, 1, 1]) (kDone Prog (resOf Prog F.swashlaw11_do)) .normal [(1, a1), (8, a8), (9, a9)] h
def swashlaw11_do_j2 (k : Nat) (call : Caller) (a0 a1 a8 a9 a85 : Value) (h : Heap) : Res Value :=
 kSeq (pieceK (C k) call F.swashlaw11_do [1, 1, 1]) (kDone Prog (resOf Prog F.swashlaw11_do)) .normal [(0, a0), (1, a1), (8, a8), (9, a9), (85, a85)] h
def swashlaw11_do (k : Nat) (call : Caller) (a0 a1 a2 : Value) (h : Heap) : Res Value :=
 (boxR a2 h).bind fun v1 h2 =>
 (fieldAddrR Prog 52 v1 0 h2).bind fun v3 h4 =>
 (loadR Prog 3 v3 h4).bind fun v5 h6 =>
 (binR Prog .eql 3 v5 (.int .i64 0) h6).bind fun v7 h8 =>
 condV (some v7) (
 (fieldAddrR Prog 52 v1 1 h8).bindN fun v9 h10 =>
 (loadR Prog 3 v9 h10).bindN fun v11 h12 =>
 (fieldAddrR Prog 52 v1 2 h12).bindN fun v13 h14 =>
 (loadR Prog 23 v13 h14).bindN fun v15 h16 =>
 (call F.swashlaw11_id [v15] h16).bindT (fun p19 h20 => .panic p19 h20) fun v17 h18 =>
 (call F.line_Line_Set [a0, v11, v17] h18).bindT (fun p23 h24 => chkR ((okVal (loadR Prog 3 v9 h18) v11 && true) && true) (.panic p23 h24)) fun v21 h22 =>
 chkR ((okVal (loadR Prog 3 v9 h18) v11 && true) && true) (
 (fieldAddrR Prog 52 v1 1 h22).bindN fun v25 h26 =>
 (loadR Prog 3 v25 h26).bindN fun v27 h28 =>
 (fieldAddrR Prog 52 v1 2 h28).bindN fun v29 h30 =>
 (loadR Prog 23 v29 h30).bindN fun v31 h32 =>
 (call F.swashlaw11_id [v31] h32).bindT (fun p35 h36 => .panic p35 h36) fun v33 h34 =>
 (call F.swashref11_Set [a1, v27, v33] h34).bindT (fun p39 h40 => chkR ((okVal (loadR Prog 3 v25 h34) v27 && true) && true) (.panic p39 h40)) fun v37 h38 =>
 (extractR v37 0 h38).bindN fun v41 h42 =>
 (extractR v37 1 h42).bindN fun v43 h44 =>
 chkR ((okVal (loadR Prog 3 v25 h34) v27 && true) && true) (
 swashlaw11_do_j1 k call v41 v21 v43 h44)))
 (
 (binR Prog .eql 3 v5 (.int .i64 1) h8).bind fun v45 h46 =>
 condV (some v45) (
 (fieldAddrR Prog 52 v1 1 h46).bind fun v47 h48 =>
 (loadR Prog 3 v47 h48).bind fun v49 h50 =>
 (fieldAddrR Prog 52 v1 2 h50).bind fun v51 h52 =>
 (loadR Prog 23 v51 h52).bind fun v53 h54 =>
 (call F.line_Line_Insert [a0, v49, v53] h54).bind fun v55 h56 =>
 (fieldAddrR Prog 52 v1 1 h56).bind fun v57 h58 =>
 (loadR Prog 3 v57 h58).bind fun v59 h60 =>
 (fieldAddrR Prog 52 v1 2 h60).bind fun v61 h62 =>
 (loadR Prog 23 v61 h62).bind fun v63 h64 =>
 (call F.swashref11_Insert [a1, v59, v63] h64).bind fun v65 h66 =>
 (extractR v65 0 h66).bind fun v67 h68 =>
 (extractR v65 1 h68).bind fun v69 h70 =>
 swashlaw11_do_j1 k call v67 v55 v69 h70)
 (
 (binR Prog .eql 3 v5 (.int .i64 2) h46).bind fun v71 h72 =>
 condV (some v71) (
 (fieldAddrR Prog 52 v1 1 h72).bind fun v73 h74 =>
 (loadR Prog 3 v73 h74).bind fun v75 h76 =>
 (fieldAddrR Prog 52 v1 2 h76).bind fun v77 h78 =>
 (loadR Prog 23 v77 h78).bind fun v79 h80 =>
 (call F.line_Line_Order [a0, v75, v79] h80).bind fun v81 h82 =>
 (fieldAddrR Prog 52 v1 1 h82).bind fun v83 h84 =>
 (loadR Prog 3 v83 h84).bind fun v85 h86 =>
 (fieldAddrR Prog 52 v1 2 h86).bind fun v87 h88 =>
 (loadR Prog 23 v87 h88).bind fun v89 h90 =>
 (call F.swashref11_Order [a1, v85, v89] h90).bind fun v91 h92 =>
 (extractR v91 0 h92).bind fun v93 h94 =>
 (extractR v91 1 h94).bind fun v95 h96 =>
 swashlaw11_do_j1 k call v93 v81 v95 h96)
 (
 (binR Prog .eql 3 v5 (.int .i64 3) h72).bind fun v97 h98 =>
 condV (some v97) (
 (fieldAddrR Prog 52 v1 1 h98).bind fun v99 h100 =>
 (loadR Prog 3 v99 h100).bind fun v101 h102 =>
 (fieldAddrR Prog 52 v1 2 h102).bind fun v103 h104 =>
 (loadR Prog 23 v103 h104).bind fun v105 h106 =>
 (call F.line_Line_Join [a0, v101, v105] h106).bind fun v107 h108 =>
 (fieldAddrR Prog 52 v1 1 h108).bind fun v109 h110 =>
 (loadR Prog 3 v109 h110).bind fun v111 h112 =>
 (fieldAddrR Prog 52 v1 2 h112).bind fun v113 h114 =>
 (loadR Prog 23 v113 h114).bind fun v115 h116 =>
 (call F.swashref11_Join [a1, v111, v115] h116).bind fun v117 h118 =>
 swashlaw11_do_j1 k call v117 (.bool true) (.bool true) h118)
 (
 (binR Prog .eql 3 v5 (.int .i64 4) h98).bind fun v119 h120 =>
 condV (some v119) (
 (call F.line_Line_Turn [a0] h120).bind fun v121 h122 =>
 (call F.swashref11_Turn [a1] h122).bind fun v123 h124 =>
 swashlaw11_do_j1 k call v123 (.bool true) (.bool true) h124)
 (
 (binR Prog .eql 3 v5 (.int .i64 5) h120).bind fun v125 h126 =>
 condV (some v125) (
 (call F.line_Line_Clean [a0] h126).bind fun v127 h128 =>
 (call F.swashref11_Clean [a1] h128).bind fun v129 h130 =>
 swashlaw11_do_j1 k call v129 (.bool true) (.bool true) h130)
 (
 swashlaw11_do_j2 k call a0 a1 (.bool true) (.bool true) v125 h126))))))
theorem swashlaw11_do_R (k : Nat) (a0 a1 a2 : Value) (h : Heap) : R (T k) F.swashlaw11_do [a0, a1, a2] h = nrm .no h (swashlaw11_do k (R (T k)) a0 a1 a2 h) :=
 (R_body (t := T k) (T_scott k) (by kernel_rfl) (by kernel_rfl) _ _).trans (by kernel_rfl)
theorem swashlaw11_do_j1_eq (k : Nat) (call : Caller) (a1 a8 a9 : Value) (h : Heap) : swashlaw11_do_j1 k call a1 a8 a9 h =
 (binR Prog .eql 4 a8 a9 h).bind fun v131 h132 =>
 .ok (.tuple #[a1, v131]) h132 := by kernel_rfl
theorem swashlaw11_do_j2_eq (k : Nat) (call : Caller) (a0 a1 a8 a9 a85 : Value) (h : Heap) : swashlaw11_do_j2 k call a0 a1 a8 a9 a85 h =
 (binR Prog .eql 4 a8 a9 h).bind fun v133 h134 =>
 .ok (.tuple #[a1, v133]) h134 := by kernel_rfl
def swashlaw11_id (k : Nat) (call : Caller) (a0 : Value) (h : Heap) : Res Value :=
 (builtinV Prog .len [23] [a0] h).bind fun v1 h2 =>
 (binR Prog .eql 3 v1 (.int .i64 0) h2).bind fun v3 h4 =>
 condV (some v3) (
 .ok (.int .i64 0) h4)
 (
 (indexAddrR Prog 23 a0 (.int .i64 0) h4).bind fun v5 h6 =>
 (loadR Prog 3 v5 h6).bind fun v7 h8 =>
 .ok v7 h8)
theorem swashlaw11_id_R (k : Nat) (a0 : Value) (h : Heap) : R (T k) F.swashlaw11_id [a0] h = nrm .gc h (swashlaw11_id k (R (T k)) a0 h) :=
 (R_body (t := T k) (T_scott k) (by kernel_rfl) (by kernel_rfl) _ _).trans (by kernel_rfl)
end
end Go.Sw
end
section
namespace Go.Sw
open Go.RowKit
theorem speaks11_run (k : Nat) (hk : k % 1000000 = F.swashlaw11_speaks) (H : Heap) : R (T k) F.swashlaw11_speaks [] H = .ok (.bool true) H :=
 (R_sp (t := T k) (T_scott k) (s := constSp (.bool true)) (by unfold T C; dsimp only; rw [hk]; kernel_rfl) [] H).trans (nrm_gc (Pure.of rfl) (.bool _))
end Go.Sw
end
section
namespace Go.Sw
open Go.RowKit
theorem refSet_run (k : Nat) (l : List Gl) (hl : l.length < 2 ^ 30) (j id : Int) (H : Heap) :
  R (T k) F.swashref11_Set [lv encG l, .int .i64 j, .int .i64 id] H = .ok (.tuple #[lv encG (setG l j id), .bool (decide (0 ≤ j ∧ j < l.length))]) H := by
 rw [swashref11_Set_R];have fl : ∀ (l : List Gl) b, Flat (.tuple #[lv encG l, .bool b]) := fun l b => .tupleL (.cons (Flat.Gls l) (.cons (.bool _) .nil));by_cases hj : 0 ≤ j ∧ j < l.length
 ·rw [decide_eq_true hj];obtain ⟨n, rfl⟩ := Int.eq_ofNat_of_zero_le hj.1;have hn : n < l.length := by omega
  obtain ⟨gl, hgl⟩ : ∃ gl, l[n]? = some gl := ⟨_, List.getElem?_eq_getElem hn⟩
  have c1 : ¬ (n : Int) ≥ l.length := by omega
  have c0 : ¬ (n : Int) < 0 := by omega
  have g := (Star.nil H).more_row (Ext.refl _) (OwnO.bare encG _ 2) (fun b hb => by cases hb);obtain ⟨s1, o1, H1, e1, g⟩ := g.append (bytes := 16) 0 encG_len rfl (b := lv encG l) (l2 := l) rfl (lv_first encG_len l _) (by simp; omega) (by decide);simp only [List.nil_append, List.set_cons_zero] at g;obtain ⟨c, hc, hgc, i2⟩ := g.ix 0 rfl .i64 n hn;subst hc;obtain ⟨H2, e2, g, _⟩ := g.stRow 0 rfl encG_len (j := n) (c := 0) (n := 1) (⟨id, gl.cl⟩ : Gl) (v := .int .i64 id) hgl rfl rfl (by decide) rfl;simp only [Nat.add_zero, List.set_cons_zero] at e2 g;obtain ⟨L, hf⟩ := (g.own 0 rfl).freeze encG_len (encG_still _) 5;have hs : setG l (n : Int) id = l.set n ⟨id, gl.cl⟩ := by
   unfold setG;rw [if_pos hj, Int.toNat_natCast];apply List.ext_getElem?;intro i;rw [List.getElem?_modify, List.getElem?_set];by_cases hin : n = i
   ·subst hin; simp [hn, (List.getElem?_eq_some_iff.1 hgl).2]
   ·simp [hin]
  rw [hs];have hft : fzV H.n H2 fzDepth (.tuple #[s1, .bool true]) = some (.tuple #[lv encG (l.set n ⟨id, gl.cl⟩), .bool true], L ++ []) :=
   fz_tuple (l := [s1, .bool true]) (r := [lv encG (l.set n ⟨id, gl.cl⟩), .bool true]) (mapF_cons hf (mapF_still fun v hv => by simp at hv; subst hv; trivial))
  refine nrm_fz (v := .tuple #[s1, .bool true]) (H' := H2) ?_ hft g.ext (fl _ _).alive;simp -implicitDefEqProofs (disch := omega) [-stR_ptr, swashref11_Set, c0, c1, e1, i2, e2]
 ·have hs : setG l j id = l := by unfold setG; rw [if_neg hj]
  rw [decide_eq_false hj, hs];refine nrm_fz (v := .tuple #[lv encG l, .bool false]) (L := []) (H' := H) ?_ rfl (Ext.refl H) (fl _ _).alive;by_cases c1 : j < 0
  ·simp -implicitDefEqProofs (disch := omega) [swashref11_Set, c1]
  ·have c2 : j ≥ l.length := by omega
   simp -implicitDefEqProofs (disch := omega) [swashref11_Set, c1, c2]
theorem refNew_run (k : Nat) (ids : List Int) (hl : ids.length < 2 ^ 30) (H : Heap) : R (T k) F.swashref11_New [lv encI ids] H = .ok (lv encG (newG ids)) H := by
 rw [swashref11_New_R];have g := (Star.nil H).more_row (Ext.refl _) (OwnO.bare encG _ 2) (fun b hb => by cases hb);simp only [List.nil_append] at g
 obtain ⟨x, e', H1, hr1, rfl, z, s, o, rfl, g⟩ := loop_up (body := swashref11_New_l1 k (R (T k))) ids.length
  (fun j e H' => ∃ s o, e = [(0, lv encI ids), (3, s), (4, .int .i64 j)] ∧ Star H H' [itRow o 2 s encG (newG (ids.take j))])
  (fun x e H' => x = .exit 0 ∧ ∃ z s o, e = [(0, lv encI ids), (3, s), (4, z), (9, .bool false)] ∧ Star H H' [itRow o 2 s encG (newG ids)])
  (e0 := [(0, lv encI ids), (3, bareV), (4, .int .i64 0)]) (H0 := H) ⟨bareV, none, rfl, g⟩ (by omega)
  (fun j e H' hj ⟨s, o, he, g⟩ => by
   subst he;have hlt : (j : Int) < ids.length := by omega
   obtain ⟨x, hx⟩ : ∃ x, ids[j]? = some x := ⟨_, List.getElem?_eq_getElem hj⟩
   have i1 := fun H' => ixS_lvN encI_len ids .i64 j x hx H';have hlen : (ids.take j).length = j := by rw [List.length_take]; omega
   obtain ⟨s', o', H2, e2, g2⟩ := g.append1 (bytes := 16) 0 encG_len rfl (⟨x, j⟩ : Gl) (by rw [newG_len]; omega) (by decide);simp only [List.set_cons_zero] at g2;simp only [encG] at e2;refine .inl ⟨_, H2, ?_, s', o', rfl, by rw [take_snoc hx, newG_snoc, hlen]; exact g2⟩;rw [swashref11_New_l1_eq];simp -implicitDefEqProofs (disch := omega) [hlt, i1, e2])
  (fun e H' ⟨s, o, he, g⟩ => by
   subst he;rw [List.take_length] at g;refine ⟨.exit 0, _, H', ?_, by simp, rfl, .int .i64 ids.length, s, o, rfl, g⟩;rw [swashref11_New_l1_eq];simp -implicitDefEqProofs)
 obtain ⟨L, hf⟩ := (g.own 0 rfl).freeze encG_len (encG_still _) 6;refine nrm_fz (v := s) (H' := H1) ?_ hf g.ext (Flat.Gls _).alive;simp -implicitDefEqProofs (disch := omega) [swashref11_New, hr1, swashref11_New_l1k_x0]
end Go.Sw
end
section
namespace Go.Sw
open Go.RowKit
theorem setCells_row (g : Nat) (el : TypeId) (fz : Nat × Nat) : ∀ (vs : List Value) (o : Nat) (cs : Array Value) (w : World), w.heap[g]? = some (.cells cs el fz) → o + vs.length ≤ cs.size → w.setCells g o vs = w.setRow g (splice cs.toList o vs).toArray
 | [], o, cs, w, hg, _ => by
  rw [World.setCells];unfold splice;simp only [List.length_nil, Nat.add_zero, List.nil_append, List.take_append_drop, Array.toArray_toList];exact (setRow_self w g cs el fz hg).symm
 | v :: r, o, cs, w, hg, hl => by
  rw [World.setCells, setCell_eq_setRow w g o cs el fz v hg, setCells_row g el fz r (o + 1) (cs.setIfInBounds o v) _ (setRow_heap w g cs _ el fz hg) (by simp at hl ⊢; omega), setRow_setRow];congr 2;have e := list_seg_step cs.toList o v r (by simp at hl ⊢; omega);unfold splice;simpa [Array.toList_setIfInBounds, Nat.add_assoc, Nat.add_comm 1] using e
theorem splice_two (l a b : List Value) (o : Nat) (h : o + a.length + b.length ≤ l.length) : splice (splice l (o + a.length) b) o a = splice l o (a ++ b) := by
 apply List.ext_getElem?;intro j;have h1 : (splice l (o + a.length) b).length = l.length := splice_length _ _ _ (by omega);rw [splice_get _ _ _ (by rw [h1]; omega), splice_get _ _ _ (by omega), splice_get _ _ _ (by rw [List.length_append]; omega)];rw [List.length_append];by_cases c0 : j < o
 ·have c1 : j < o + a.length := by omega
  simp only [if_pos c0, if_pos c1]
 ·simp only [if_neg c0];by_cases c1 : j < o + a.length
  ·have c3 : j < o + (a.length + b.length) := by omega
   simp only [if_pos c1, if_pos c3];rw [List.getElem?_append_left (by omega)]
  ·simp only [if_neg c1];by_cases c2 : j < o + a.length + b.length
   ·have c3 : j < o + (a.length + b.length) := by omega
    simp only [if_pos c2, if_pos c3];rw [List.getElem?_append_right (by omega), show j - o - a.length = j - (o + a.length) by omega]
   ·have c3 : ¬ j < o + (a.length + b.length) := by omega
    simp only [if_neg c2, if_neg c3]
theorem VRs.cut {μ : Mu} {k : List Value} {cs : Array Value} {base off N : Nat} (h4 : ∀ (i : Nat) v, k[i]? = some v → ∃ v', cs[base + i]? = some v' ∧ VR μ v v') (hk : off + N ≤ k.length) :
  VRs μ ((k.drop off).take N) ((cs.toList.drop (base + off)).take N) := by
 have hcs : ∀ i, i < N → base + off + i < cs.size := fun i hi => by
  obtain ⟨v', e, _⟩ := h4 (off + i) _ (List.getElem?_eq_getElem (by omega));have := (Array.getElem?_eq_some_iff.1 e).1;omega
 refine ⟨?_, fun i v v' hv hv' => ?_⟩
 ·rw [List.length_take, List.length_take, List.length_drop, List.length_drop, Array.length_toList (xs := cs)];by_cases h0 : N = 0
  ·subst h0; simp
  ·have := hcs (N - 1) (by omega);have e1 : N ≤ k.length - off := by omega
   have e2 : N ≤ cs.size - (base + off) := by omega
   rw [Nat.min_eq_left e1, Nat.min_eq_left e2]
 ·rw [List.getElem?_take] at hv hv';split at hv
  ·rename_i hi;rw [if_pos hi, List.getElem?_drop] at hv';rw [List.getElem?_drop] at hv;obtain ⟨u, e, r⟩ := h4 _ v hv;rw [← Nat.add_assoc] at e;simp only [Array.getElem?_toList] at hv';rw [e] at hv';injection hv' with hv';subst hv';exact r
  ·cases hv
structure InsWalk (P : Program) (f : FuncId) (tS e : TypeId) (sz : Nat) (z : Value) : Prop where
 fn : ∃ fn, P.funcs[f]? = some fn ∧ fn.body.isSome = true ∧ (fn.name == "runtime.NumGoroutine") = false
 none_ : ∀ (base : Option Addr) (n c i : Nat) (vb : Option Addr) (vc : Nat) (w : World), i ≤ n → n ≤ c → (base = none → n = 0 ∧ c = 0) → Calls P f #[.slice base n c, .int .i64 (i : Nat), .slice vb 0 vc] w fun e w' => e = .returned (.slice base n c) ∧ w' = w
 end_ : ∀ (base : Option Addr) (n c : Nat) (vb : Option Addr) (m vc : Nat) (w : World) (v' : Value) (w1 : World), n ≤ c → (base = none → n = 0 ∧ c = 0) → 0 < m → (Builtin.append_ #[tS, tS] tS #[.slice base n c, .slice vb m vc]).run P w = .ok v' w1 →
  Calls P f #[.slice base n c, .int .i64 (n : Nat), .slice vb m vc] w fun e w' => e = .returned v' ∧ w' = w1
 shift : ∀ (b off n c i vb voff m vc : Nat) (CS VS : Array Value) (el el2 : TypeId) (cs vs : List Value) (w : World), i < n → 0 < m → n + m ≤ c → n + m ≤ 2 ^ 31 → vb ≠ b → w.heap[b]? = some (.cells CS el (0, 0)) → w.heap[vb]? = some (.cells VS el2 (0, 0)) → off + c * sz ≤ CS.size → voff + m * sz ≤ VS.size →
  cs = (CS.toList.drop off).take (n * sz) → vs = (VS.toList.drop voff).take (m * sz) → Ones cs → Ones vs →
  Calls P f #[.slice (some ⟨b, off, none⟩) n c, .int .i64 (i : Nat), .slice (some ⟨vb, voff, none⟩) m vc] w fun e w' => e = .returned (.slice (some ⟨b, off, none⟩) (n + m) c) ∧ w' = (w.drew.setCells b (off + (i + m) * sz) (cs.drop (i * sz))).setCells b (off + i * sz) vs
 grow : ∀ (b off n c i vb voff m vc : Nat) (CS VS : Array Value) (el el2 : TypeId) (cs vs : List Value) (w : World), i < n → 0 < m → n ≤ c → c < n + m → n + m ≤ 2 ^ 31 → w.heap[b]? = some (.cells CS el (0, 0)) → w.heap[vb]? = some (.cells VS el2 (0, 0)) → off + n * sz ≤ CS.size → voff + m * sz ≤ VS.size →
  cs = (CS.toList.drop off).take (n * sz) → vs = (VS.toList.drop voff).take (m * sz) → Ones cs → Ones vs →
  ∃ G, n + m ≤ G ∧ Calls P f #[.slice (some ⟨b, off, none⟩) n c, .int .i64 (i : Nat), .slice (some ⟨vb, voff, none⟩) m vc] w fun r w' => r = .returned (.slice (some ⟨w.heap.size, 0, none⟩) (n + m) G) ∧
   w' = (((w.alloc (.cells ((cs.take (i * sz)).toArray ++ Builtin.zeroCells z.cells (n + m - i) ++ Builtin.zeroCells z.cells (G - (n + m))) e)).drew.setCells w.heap.size (i * sz) vs).drew).setCells w.heap.size ((i + m) * sz) (cs.drop (i * sz))
theorem lenL_slice {μ : Mu} {v v' : Value} {n : Nat} (h : VR μ v v') (hl : lenL v = some n) : ∃ a c, v' = .slice a n c := by
 unfold lenL at hl;split at hl
 ·injection hl with hl; subst hl;cases h <;> exact ⟨_, _, rfl⟩
 ·injection hl with hl; subst hl;cases h <;> exact ⟨_, _, rfl⟩
 ·cases hl
theorem slice_shape {μ : Mu} {base : Option Addr} {n c : Nat} {s' : Value} (h : VR μ (.slice base n c) s') : ∃ base' c', s' = .slice base' n c' ∧ n ≤ c' ∧ (base' = none → n = 0 ∧ c' = 0) := by
 cases h with
 | nilSlice => exact ⟨_, _, rfl, Nat.le_refl _, fun _ => ⟨rfl, rfl⟩⟩
 | slice b off off' len cap cap' m h hl hc ho hx => exact ⟨_, _, rfl, Nat.le_trans hl hc, fun h => by cases h⟩
 | unsure a => exact ⟨_, _, rfl, Nat.le_refl _, fun _ => ⟨rfl, rfl⟩⟩
 | bare a => exact ⟨_, _, rfl, Nat.le_refl _, fun h => by cases h⟩
theorem heap_setRow_new (w : World) (A B : Array Value) (e : TypeId) : ((w.alloc (.cells A e)).setRow w.heap.size B).heap = (w.alloc (.cells B e)).heap := by
 have h1 : (w.alloc (.cells A e)).heap[w.heap.size]? = some (.cells A e (0, 0)) := heap_alloc_new' _ _;apply Array.ext_getElem?;intro j;by_cases hj : j = w.heap.size
 ·subst hj;rw [setRow_heap _ _ _ _ _ _ h1, heap_alloc_new']
 ·rw [setRow_other _ _ _ _ hj];show (w.heap.push _)[j]? = (w.heap.push _)[j]?;rw [Array.getElem?_push, Array.getElem?_push, if_neg hj, if_neg hj]
set_option maxHeartbeats 1000000 in
theorem insert_of {P : Program} {f : FuncId} {tS e : TypeId} {inf : TypeInfo} {z : Value} {sz bytes : Nat} (ht : P.underlying tS = some (.slice e)) (hi : P.info? e = some inf) (hz : inf.zero = some z) (hzs : z.cells.size = inf.size) (es : inf.size = sz) (eb : inf.bytes = bytes) (h0 : 0 < sz)
  (hW : InsWalk P f tS e sz z) : SpIs P f fun _ args H => insertV sz bytes args H := by
 subst es eb;intro call _ args H hne;refine ⟨hW.fn, fun w0 μ w args' hH hargs => ?_⟩;dsimp only at hne ⊢;unfold insertV at hne ⊢;split at hne;rotate_left
 ·exact absurd rfl hne
 rename_i base n cap i v;obtain ⟨s', r1, rfl, hs, ha⟩ := hargs.cons_inv;obtain ⟨i', r2, rfl, hi', ha⟩ := ha.cons_inv;obtain ⟨v', r3, rfl, hv, ha⟩ := ha.cons_inv;have := ha.nil_inv;subst this;cases hi';obtain ⟨base', cap', rfl, hnc, hnil⟩ := slice_shape hs;cases hl : lenL v with
 | none => rw [hl] at hne; exact absurd rfl hne
 | some q =>
 rw [hl] at hne;obtain ⟨vb', vc', rfl⟩ := lenL_slice hv hl;cases q with
 | zero =>
  dsimp only at hne ⊢;split at hne;rotate_left
  ·exact absurd rfl hne
  rename_i hin;rw [if_pos hin];obtain ⟨p, rfl⟩ := Int.eq_ofNat_of_zero_le hin.1;refine (hW.none_ base' n cap' p vb' vc' w (by omega) hnc hnil).mono ?_;rintro _ _ ⟨rfl, rfl⟩;exact ⟨μ, _, Mu.le_refl _, hH, hs, rfl⟩
 | succ q =>
  dsimp only at hne ⊢;split at hne
  ·rename_i hin;rw [if_pos hin];subst hin;unfold apR at hne ⊢;dsimp only at hne ⊢;rw [lenL_lenV hl] at hne ⊢;dsimp only at hne ⊢;cases hr : appendK inf.size inf.bytes inf.size (q + 1) base n cap v H with
   | stuck => rw [hr] at hne; exact absurd rfl hne
   | panic u H' =>
    exfalso;revert hr;unfold appendK
    repeat' split
    all_goals (intro h; cases h)
   | ok u H' =>
    obtain ⟨μ', u', w1, e1, e2, e3, e4⟩ := appendK_sim (ty := tS) hH ht (.inl ⟨e, ht⟩) hi hz hs hv (lenL_lenV hl) (by rw [hzs]; exact hr);refine (hW.end_ base' n cap' vb' (q + 1) vc' w u' w1 hnc hnil (by omega) e1).mono ?_;rintro _ _ ⟨rfl, rfl⟩;exact ⟨μ', u', e2, e3, e4, rfl⟩
  ·rename_i hin;rw [if_neg hin];split at hne;rotate_left
   ·exact absurd rfl hne
   rename_i b off c voff m vcap _;split at hne;rotate_left
   ·exact absurd rfl hne
   rename_i k kc hk hkc;split at hne;rotate_left
   ·exact absurd rfl hne
   rename_i hcond;rw [if_pos hcond];obtain ⟨c1, c2, c3, c4, c5, c6, c7, c8, c9, c10, c11⟩ := hcond;obtain ⟨p, rfl⟩ := Int.eq_ofNat_of_zero_le c1;have hpn : p < n := by omega
   cases hs with
   | slice _ _ off' _ _ cap' M hM hl1 hc1 ho1 hx1 =>
   cases hv with
   | slice _ _ voff' _ _ vcap' Mc hMc hl2 hc2 ho2 hx2 =>
   have hm0 : 0 < q + 1 := by omega
   generalize q + 1 = m at *;have ho1 := ho1.resolve_left (by omega);have ho2 := ho2.resolve_left (by omega);subst ho1 ho2;obtain ⟨M', hM', bM⟩ := hH.blk b k hk;rw [hM] at hM'; injection hM' with hM'; subst hM';obtain ⟨Mc', hMc', bMc⟩ := hH.blk c kc hkc;rw [hMc] at hMc'; injection hMc' with hMc'; subst hMc';obtain ⟨CS, el, fz, g1, g2, g3, g4⟩ := bM.here;obtain ⟨VS, el2, fz2, f1, f2, f3, f4⟩ := bMc.here;have g2 := g2 c6;have f2 := f2 c10;subst g2 f2;have hesz : M.esz = inf.size := bM.esz.trans c7;have hext := bM.ext;have hext2 := bMc.ext;have hroomx : off + cap' * inf.size ≤ M.ext := by
    rcases hx1 with h | h | h
    ·rw [h]; omega
    ·rw [bM.ro, c6] at h; cases h
    ·rw [hesz] at h; exact h
   have hne2 : Mc.blk ≠ M.blk := hH.other hk hkc hM hMc c6 c9;have hnsz : n * inf.size ≤ cap * inf.size := Nat.mul_le_mul_right _ c3;have hps : p * inf.size ≤ n * inf.size := Nat.mul_le_mul_right _ (by omega);have kcut := VRs.cut (N := n * inf.size) (off := off) (base := M.base) g4 (by omega);have vcut := VRs.cut (N := m * inf.size) (off := voff) (base := Mc.base) f4 (by omega);have ko : Ones ((k.cells.drop off).take (n * inf.size)) := (bM.ones.drop _).take _;have vo : Ones ((kc.cells.drop voff).take (m * inf.size)) := (bMc.ones.drop _).take _;have ko' := kcut.ones ko;have vo' := vcut.ones vo;have kl : ((k.cells.drop off).take (n * inf.size)).length = n * inf.size := by rw [List.length_take, List.length_drop]; omega
   have vl : ((kc.cells.drop voff).take (m * inf.size)).length = m * inf.size := by rw [List.length_take, List.length_drop]; omega
   have kl' := kcut.1.symm.trans kl;have vl' := vcut.1.symm.trans vl;obtain ⟨cs, hcs⟩ : ∃ cs, cs = (CS.toList.drop (M.base + off)).take (n * inf.size) := ⟨_, rfl⟩
   obtain ⟨vs, hvs⟩ : ∃ vs, vs = (VS.toList.drop (Mc.base + voff)).take (m * inf.size) := ⟨_, rfl⟩
   rw [← hcs] at kcut ko' kl';rw [← hvs] at vcut vo' vl';have hd : HR w0 μ H w.drew := hH.drew rfl rfl rfl rfl;have e1 : (n + m) * inf.size = n * inf.size + m * inf.size := Nat.add_mul _ _ _;have e2 : (p + m) * inf.size = p * inf.size + m * inf.size := Nat.add_mul _ _ _;have hdl : (cs.drop (p * inf.size)).length = n * inf.size - p * inf.size := by rw [List.length_drop, kl']
   by_cases hroom : n + m ≤ cap'
   ·
    have hnm : (n + m) * inf.size ≤ cap' * inf.size := Nat.mul_le_mul_right _ hroom;refine (hW.shift M.blk (M.base + off) n cap' p Mc.blk (Mc.base + voff) m vc' CS VS el el2 cs vs w hpn (by omega) hroom c4 hne2 g1 f1 (by omega) (by omega) hcs hvs ko' vo').mono ?_;rintro _ _ ⟨rfl, rfl⟩;have hsr : (w.drew.setCells M.blk (M.base + off + (p + m) * inf.size) (cs.drop (p * inf.size))).setCells M.blk (M.base + off + p * inf.size) vs = w.drew.setRow M.blk (splice CS.toList (M.base + off + p * inf.size) (vs ++ cs.drop (p * inf.size))).toArray := by
     rw [setCells_row M.blk el (0, 0) _ _ CS w.drew g1 (by omega)];have hsl : (splice CS.toList (M.base + off + (p + m) * inf.size) (cs.drop (p * inf.size))).length = CS.size := by rw [splice_length _ _ _ (by rw [Array.length_toList (xs := CS)]; omega)]; simp
     rw [setCells_row M.blk el (0, 0) _ _ _ _ (setRow_heap w.drew M.blk CS _ el (0, 0) g1) (by rw [List.size_toArray, hsl]; omega), setRow_setRow];congr 2;rw [List.toList_toArray, ← splice_two CS.toList vs (cs.drop (p * inf.size)) (M.base + off + p * inf.size) (by rw [Array.length_toList (xs := CS)]; omega), vl', e2, Nat.add_assoc (M.base + off)]
    rw [hsr];obtain ⟨i1, i2⟩ := inplace_sim (size := inf.size) (off := off) (p := p * inf.size) hd hk hM c6 c7 g1 (by omega) (vcut.append (kcut.drop (p * inf.size))) (vo.append (ko.drop _)) (by rw [List.length_append, hdl, vl']; omega) g3;refine ⟨_, _, i1, ?_, ?_, rfl⟩
    ·rw [Int.toNat_natCast, List.take_take, Nat.min_eq_left hps];exact i2
    ·have := VR.slice (μ := μ.set H.n ⟨M.blk, M.base + off, M.ext - off, inf.size, false⟩) H.n 0 (M.base + off) (n + m) (n + m) cap' ⟨M.blk, M.base + off, M.ext - off, inf.size, false⟩ (by simp [Mu.set]) (Nat.le_refl _) hroom (.inr rfl) (.inr (.inr (by dsimp only; omega)));exact this
   ·obtain ⟨G, hG, hcall⟩ := hW.grow M.blk (M.base + off) n cap' p Mc.blk (Mc.base + voff) m vc' CS VS el el2 cs vs w hpn (by omega) hnc (by omega) c4 g1 f1 (by omega) (by omega) hcs hvs ko' vo';refine hcall.mono ?_;rintro _ _ ⟨rfl, rfl⟩;have hGs : (n + m) * inf.size ≤ G * inf.size := Nat.mul_le_mul_right _ hG;obtain ⟨ROW, hROW⟩ : ∃ ROW : Array Value, ROW = (cs.take (p * inf.size)).toArray ++ Builtin.zeroCells z.cells (n + m - p) ++ Builtin.zeroCells z.cells (G - (n + m)) := ⟨_, rfl⟩
    have hRl : ROW.size = G * inf.size := by
     rw [hROW];simp only [Array.size_append, List.size_toArray, size_zeroCells, hzs, Nat.sub_mul, Nat.add_mul, List.length_take, kl'];omega
    rw [← hROW];obtain ⟨FIN, hFIN⟩ : ∃ FIN : List Value, FIN = splice (splice ROW.toList (p * inf.size) vs) ((p + m) * inf.size) (cs.drop (p * inf.size)) := ⟨_, rfl⟩
    have hs1 : (splice ROW.toList (p * inf.size) vs).length = ROW.size := by rw [splice_length _ _ _ (by rw [Array.length_toList (xs := ROW)]; omega)]; simp
    have hFl : FIN.length = G * inf.size := by rw [hFIN, splice_length _ _ _ (by rw [hs1]; omega), hs1, hRl]
    have hN : (w.alloc (.cells ROW e)).drew.heap[w.heap.size]? = some (.cells ROW e (0, 0)) := heap_alloc_new' _ _;have hw : ((((w.alloc (.cells ROW e)).drew.setCells w.heap.size (p * inf.size) vs).drew).setCells w.heap.size ((p + m) * inf.size) (cs.drop (p * inf.size))) = ((w.alloc (.cells ROW e)).drew.setRow w.heap.size (splice ROW.toList (p * inf.size) vs).toArray).drew.setRow w.heap.size FIN.toArray := by
     rw [setCells_row w.heap.size e (0, 0) _ _ ROW _ hN (by omega)];have hN2 : ((w.alloc (.cells ROW e)).drew.setRow w.heap.size (splice ROW.toList (p * inf.size) vs).toArray).drew.heap[w.heap.size]? = some (.cells (splice ROW.toList (p * inf.size) vs).toArray e (0, 0)) := setRow_heap _ _ _ _ _ _ hN;rw [setCells_row w.heap.size e (0, 0) _ _ _ _ hN2 (by rw [List.size_toArray, hs1]; omega), hFIN]
    rw [hw];have hheap : (((w.alloc (.cells ROW e)).drew.setRow w.heap.size (splice ROW.toList (p * inf.size) vs).toArray).drew.setRow w.heap.size FIN.toArray).heap = (w.alloc (.cells FIN.toArray e)).heap := by
     have h1 : (((w.alloc (.cells ROW e)).drew.setRow w.heap.size (splice ROW.toList (p * inf.size) vs).toArray).drew.setRow w.heap.size FIN.toArray).heap = (((w.alloc (.cells ROW e)).setRow w.heap.size (splice ROW.toList (p * inf.size) vs).toArray).setRow w.heap.size FIN.toArray).heap := rfl;rw [h1, setRow_setRow];exact heap_setRow_new _ _ _ _
    have hkill := hH.kill hk;have hnew := kcut.take (p * inf.size);have hall : VRs μ (((k.cells.drop off).take (n * inf.size)).take (p * inf.size) ++ ((kc.cells.drop voff).take (m * inf.size) ++ ((k.cells.drop off).take (n * inf.size)).drop (p * inf.size))) (cs.take (p * inf.size) ++ (vs ++ cs.drop (p * inf.size))) := hnew.append (vcut.append (kcut.drop _))
    have hal := hkill.alloc (((k.cells.drop off).take (n * inf.size)).take (p * inf.size) ++ ((kc.cells.drop voff).take (m * inf.size) ++ ((k.cells.drop off).take (n * inf.size)).drop (p * inf.size))) FIN.toArray e inf.size (G * inf.size) (by rw [List.size_toArray, hFl]; exact Nat.le_refl _)
     (by
      simp only [List.length_append, List.length_take, List.length_drop];omega)
     ((ko.take _).append (vo.append (ko.drop _)))
     (fun j u hj => by
      obtain ⟨u', e', r⟩ := hall.get hj;refine ⟨u', ?_, r⟩;have hjl : j < (cs.take (p * inf.size) ++ (vs ++ cs.drop (p * inf.size))).length := (List.getElem?_eq_some_iff.1 e').1;simp only [List.length_append, List.length_take, kl', hdl, vl'] at hjl;have htl : (cs.take (p * inf.size)).length = p * inf.size := by rw [List.length_take, kl']; omega
      rw [List.getElem?_toArray, hFIN, splice_get _ _ _ (by rw [hs1]; omega), splice_get ROW.toList (p * inf.size) vs (by rw [Array.length_toList (xs := ROW)]; omega)];by_cases d1 : j < p * inf.size
      ·rw [List.getElem?_append_left (by omega)] at e';rw [if_pos (show j < (p + m) * inf.size by omega), if_pos d1, hROW];simp only [Array.getElem?_toList];rw [Array.append_assoc, Array.getElem?_append_left (by simp only [List.size_toArray]; omega)];simpa using e'
      ·rw [List.getElem?_append_right (by omega), htl] at e';by_cases d2 : j < (p + m) * inf.size
       ·rw [List.getElem?_append_left (by omega)] at e';rw [if_pos d2, if_neg d1, if_pos (by omega)];exact e'
       ·rw [List.getElem?_append_right (by omega), vl'] at e';rw [if_neg d2, if_pos (by omega), show j - (p + m) * inf.size = j - p * inf.size - m * inf.size by omega];exact e')
    have hn : (H.set b none).n = H.n := Heap.n_set _ _ _;rw [hn] at hal;refine ⟨μ.set H.n ⟨w.heap.size, 0, G * inf.size, inf.size, false⟩, _, Mu.le_set (μ := μ) hH.dom _, ?_, ?_, rfl⟩
    ·rw [Int.toNat_natCast];exact hal.drew hheap rfl rfl rfl
    ·exact VR.slice H.n 0 0 (n + m) (n + m) G ⟨w.heap.size, 0, G * inf.size, inf.size, false⟩ (by simp [Mu.set]) (Nat.le_refl _) hG (.inr rfl) (.inr (.inr (by dsimp only; omega)))
end Go.Sw
end
section
namespace Go.Sw
open Go.RowKit
theorem splice_nil (l : List Value) (o : Nat) : splice l o [] = l := by unfold splice; simp
theorem trim_sim {w0 : Base} {μ : Mu} {H : Heap} {w : World} (h : HR w0 μ H w) {b off n cap size : Nat} {k : Blk} {v' : Value} (hv : VR μ (.slice (some ⟨b, off, none⟩) n cap) v') (hk : H.get b = some k) (hro : k.ro = false) (hesz : k.esz = size) (h1 : n ≤ cap) (h2 : off + cap * size ≤ k.cells.length)
  (hset : ∀ (g : Nat) (cs : Array Value) (el : TypeId), w.heap[g]? = some (.cells cs el (0, 0)) → w.setRow g cs = w) :
  ∃ μ', μ.le μ' ∧ HR w0 μ' ((H.set b none).push ⟨(k.cells.drop off).take (n * size) ++ [], size, false⟩) w ∧ VR μ' (.slice (some ⟨H.n, 0, none⟩) n n) v' := by
 cases hv with
 | slice _ _ off' _ _ cap' M hM hl hc ho hx =>
 obtain ⟨M', hM', bM⟩ := h.blk b k hk;rw [hM] at hM'; injection hM' with hM'; subst hM';obtain ⟨CS, el, fz, g1, g2, g3, g4⟩ := bM.here;have g2 := g2 hro;subst g2;have hext := bM.ext;have hMe := bM.esz;have hMr := bM.ro;have hns : n * size ≤ cap * size := Nat.mul_le_mul_right _ h1;obtain ⟨i1, i2⟩ := inplace_sim (size := size) (off := off) (p := n * size) (new := []) (news := []) h hk hM hro hesz g1 (by omega) VRs.nil Ones.nil (by simp; omega) g3;rw [splice_nil] at i2;rw [show CS.toList.toArray = CS from rfl, hset _ _ _ g1] at i2;refine ⟨_, i1, i2, ?_⟩;refine VR.slice (μ := μ.set H.n ⟨M.blk, M.base + off, M.ext - off, size, false⟩) H.n 0 off' n n cap' ⟨M.blk, M.base + off, M.ext - off, size, false⟩ (by simp [Mu.set]) (Nat.le_refl _) (by omega) (ho.imp id fun h => by dsimp only; omega) ?_;rcases hx with hx | hx | hx
 ·refine .inr (.inr ?_);rw [hx];dsimp only;omega
 ·rw [hMr, hro] at hx; cases hx
 ·refine .inr (.inr ?_);rw [hMe, hesz] at hx;dsimp only;omega
theorem setRow_same (w : World) (g : Nat) (cs : Array Value) (el : TypeId) (h : w.heap[g]? = some (.cells cs el (0, 0))) : w.setRow g cs = w := by
 have hg : g < w.heap.size := by
  rcases Nat.lt_or_ge g w.heap.size with hlt | hge
  ·exact hlt
  ·rw [Array.getElem?_eq_none hge] at h; cases h
 have hh : (w.setRow g cs).heap = w.heap := by
  apply Array.ext_getElem?;intro i;by_cases hi : i = g
  ·subst hi;rw [setRow_heap w i cs cs el (0, 0) h, h]
  ·exact setRow_other w g i cs hi
 have hw : w.setRow g cs = { w with heap := (w.setRow g cs).heap } := rfl;rw [hw, hh]
theorem trim_is {c : Cfg} (hit : ∀ v H, c.it v H = none := by intro _ _; rfl) (hN : NamesOk c.P) (hmix : c.P.follows .mixedOrders = true) {f : FuncId} {size : Nat} : SpIs c.P f fun call args H => (bodyK c call f args H).bind (trimR size) := by
 intro call hc args H hne;have hne1 : bodyK c call f args H ≠ .stuck := Res.bind_ne hne;obtain ⟨b1, b2⟩ := body_is hit hN hmix hc (f := f) (args := args) (H := H) rfl hne1;refine ⟨b1, fun w0 μ w args' hH hargs => (b2 w0 μ w args' hH hargs).mono fun e w' he => ?_⟩;dsimp only at hne ⊢;cases hr : bodyK c call f args H with
 | stuck => exact absurd hr hne1
 | panic v H' => rw [hr] at he; exact he
 | ok v H' =>
  rw [hr] at he hne;obtain ⟨μ', v', l1, h1, h2, rfl⟩ := he;have hne : trimR size v H' ≠ .stuck := hne;show Ended w0 μ (trimR size v H') _ w';unfold trimR at hne ⊢;split at hne
  ·rename_i b off n cap _;split at hne
   ·rename_i k hk;split
    ·rename_i hcond;obtain ⟨c1, c2, c3, c4⟩ := hcond;obtain ⟨μ2, l2, h3, h4⟩ := trim_sim h1 h2 hk c1 c2 c3 c4 (fun g cs el hg => setRow_same _ g cs el hg);exact ⟨μ2, v', Mu.le_trans l1 l2, h3, h4, rfl⟩
    ·rename_i hcond;exact absurd (by split <;> first | rfl | contradiction) hne
   ·exact absurd rfl hne
  ·exact ⟨μ', v', l1, h1, h2, rfl⟩
end Go.Sw
end
section
namespace Go.Sw
open Go.RowKit
def cleanG (l : List Gl) : List Gl := l.filter fun g => decide (g.id ≠ 65535)
theorem cleanG_app (a b : List Gl) : cleanG (a ++ b) = cleanG a ++ cleanG b := List.filter_append ..
theorem cleanG_all {l : List Gl} (h : ∀ g, g ∈ l → g.id ≠ 65535) : cleanG l = l := List.filter_eq_self.2 fun g hg => decide_eq_true (h g hg)
theorem cleanG_len (l : List Gl) : (cleanG l).length ≤ l.length := List.length_filter_le _ _
abbrev delV : Value := .func (.func F.line_Line_Clean_in1) #[] #[]
theorem del1_run (k : Nat) (g : Gl) (H : Heap) : R (T k) F.line_Line_Clean_in1 [.agg (encG g).toArray] H = .ok (.bool (decide (g.id = 65535))) (H.push ⟨encG g, 1, false⟩) := by
 rw [line_Line_Clean_in1_R];refine nrm_of ?_;simp -implicitDefEqProofs [line_Line_Clean_in1];rfl
theorem IndexG_run (k : Nat) {H : Heap} {o : Option Nat} {s : Value} {l : List Gl} (h : OwnO H o 2 s encG l) (hl : l.length < 2 ^ 31) :
  ∃ H', Ext H H' ∧ ((R (T k) F.slices_IndexFunc_of_api_Glyph_api_Glyph [s, delV] H = .ok (.int .i64 (-1)) H' ∧ ∀ g, g ∈ l → g.id ≠ 65535) ∨
   ∃ j g, R (T k) F.slices_IndexFunc_of_api_Glyph_api_Glyph [s, delV] H = .ok (.int .i64 (j : Nat)) H' ∧ l[j]? = some g ∧ g.id = 65535 ∧ ∀ g, g ∈ l.take j → g.id ≠ 65535) := by
 rw [slices_IndexFunc_of_api_Glyph_api_Glyph_R];have hlen := h.len
 obtain ⟨x, e', H1, hr, hx, hq⟩ := loop_up (body := slices_IndexFunc_of_api_Glyph_api_Glyph_l1 k (R (T k))) l.length
  (fun j e H' => e = [(0, s), (1, delV), (7, .int .i64 l.length), (8, .int .i64 j)] ∧ Ext H H' ∧ ∀ g, g ∈ l.take j → g.id ≠ 65535)
  (fun x e H' => Ext H H' ∧ ((x = .exit 0 ∧ e = [(0, s), (1, delV), (7, .int .i64 l.length), (8, .int .i64 l.length), (9, .bool false)] ∧ ∀ g, g ∈ l → g.id ≠ 65535) ∨
   (x = .ret ∧ ∃ j g, e = [(4, .int .i64 (j : Nat))] ∧ l[j]? = some g ∧ g.id = 65535 ∧ ∀ g, g ∈ l.take j → g.id ≠ 65535)))
  (e0 := [(0, s), (1, delV), (7, .int .i64 l.length), (8, .int .i64 0)]) (H0 := H) ⟨rfl, Ext.refl H, by simp⟩ (by omega)
  (fun j e H' hj ⟨he, hx, ha⟩ => by
   subst he;have hlt : (j : Int) < l.length := by omega
   obtain ⟨g, hg⟩ : ∃ g, l[j]? = some g := ⟨_, List.getElem?_eq_getElem hj⟩
   obtain ⟨b, _, hs, hb, i1⟩ := h.ix .i64 j hj;have l1 := ldA_row encG_len (hx.get hb) hg;have hcv : ∀ H2, callV (R (T k)) delV [.agg (encG g).toArray] H2 = .ok (.bool (decide (g.id = 65535))) (H2.push ⟨encG g, 1, false⟩) := fun H2 => del1_run k g H2;by_cases hd : g.id = 65535
   ·refine .inr ⟨.ret, _, H'.push ⟨encG g, 1, false⟩, ?_, by simp, hx.push _, .inr ⟨rfl, j, g, rfl, hg, hd, ha⟩⟩;rw [decide_eq_true hd] at hcv;rw [slices_IndexFunc_of_api_Glyph_api_Glyph_l1_eq];simp -implicitDefEqProofs (disch := omega) [-ldA_ptr, hlt, i1, l1, hcv]
   ·refine .inl ⟨_, H'.push ⟨encG g, 1, false⟩, ?_, rfl, hx.push _, ?_⟩
    ·rw [decide_eq_false hd] at hcv;rw [slices_IndexFunc_of_api_Glyph_api_Glyph_l1_eq];simp -implicitDefEqProofs (disch := omega) [-ldA_ptr, hlt, i1, l1, hcv]
    ·rw [take_snoc hg];intro z hz;rcases List.mem_append.1 hz with hz | hz
     ·exact ha z hz
     ·rw [List.mem_singleton.1 hz]; exact hd)
  (fun e H' ⟨he, hx, ha⟩ => by
   subst he;refine ⟨.exit 0, _, H', ?_, by simp, hx, .inl ⟨rfl, rfl, by rwa [List.take_length] at ha⟩⟩;rw [slices_IndexFunc_of_api_Glyph_api_Glyph_l1_eq];simp -implicitDefEqProofs)
 refine ⟨H1, hx, ?_⟩;rcases hq with ⟨rfl, rfl, ha⟩ | ⟨rfl, j, g, rfl, hg, hd, ha⟩
 ·refine .inl ⟨nrm_of ?_, ha⟩;simp -implicitDefEqProofs [slices_IndexFunc_of_api_Glyph_api_Glyph, hlen, hr, slices_IndexFunc_of_api_Glyph_api_Glyph_l1k_x0]
 ·refine .inr ⟨j, g, nrm_of ?_, hg, hd, ha⟩;simp -implicitDefEqProofs [slices_IndexFunc_of_api_Glyph_api_Glyph, hlen, hr, slices_IndexFunc_of_api_Glyph_api_Glyph_l1k_r]
theorem trimR_own {H : Heap} {b p n : Nat} {cells : List Value} {l : List Gl} (hb : H.get b = some ⟨cells, 2, false⟩) (hp : p ≤ n) (hn : n * 2 ≤ cells.length) (hl : cells.take (p * 2) = rows encG l) (hpl : l.length = p) :
  trimR 2 (.slice (some ⟨b, 0, none⟩) p n) H = .ok (.slice (some ⟨H.n, 0, none⟩) p p) ((H.set b none).push ⟨rows encG l, 2, false⟩) ∧ OwnO ((H.set b none).push ⟨rows encG l, 2, false⟩) (some H.n) 2 (.slice (some ⟨H.n, 0, none⟩) p p) encG l := by
 constructor
 ·unfold trimR;dsimp only;rw [hb];dsimp only;rw [if_pos ⟨rfl, rfl, hp, by omega⟩, List.drop_zero, hl, List.append_nil]
 ·exact .inr ⟨H.n, rfl, by rw [hpl], get_push_eq _ _ _ (by simp)⟩
theorem clR_tail {H : Heap} {b p n : Nat} {r : List Gl} (hb : H.get b = some ⟨rows encG r, 2, false⟩) (hp : p < n) (hn : r.length = n) :
  ∃ H' cells, clR [.int .i64 0, .int .i64 0] (.slice (some ⟨b, p * 2, none⟩) (n - p) (n - p)) H = .ok undef H' ∧ H'.get b = some ⟨cells, 2, false⟩ ∧ cells.length = n * 2 ∧ cells.take (p * 2) = rows encG (r.take p) ∧ H'.n = H.n ∧ ∀ c, c ≠ b → H'.get c = H.get c := by
 have hrl : (rows encG r).length = n * 2 := by rw [rows_length encG_len, hn]
 have hz : ∀ m, (repeatCells [Value.int .i64 0, Value.int .i64 0] m).length = m * 2 := fun m => by
  induction m with
  | zero => rfl
  | succ m ih => rw [repeatCells, List.length_append, ih]; simp; omega
 have hle : p * 2 + (repeatCells [Value.int .i64 0, Value.int .i64 0] (n - p)).length ≤ (rows encG r).length := by rw [hz, hrl]; omega
 refine ⟨H.set b (some ⟨splice (rows encG r) (p * 2) (repeatCells [Value.int .i64 0, Value.int .i64 0] (n - p)), 2, false⟩), _, ?_, get_set_eq2 hb, ?_, ?_, Heap.n_set _ _ _, fun c hc => get_set_ne _ _ _ _ hc⟩
 ·unfold clR;dsimp only;rw [if_neg (by omega), put_eq, hb];simp only [hle, true_and, if_true];rfl
 ·unfold splice;rw [List.length_append, List.length_append, List.length_take, List.length_drop, hz, hrl];omega
 ·unfold splice;rw [List.take_append_of_le_length (by rw [List.length_take, hrl]; omega), List.take_take, Nat.min_self, rows_take encG_len]
where
 get_set_eq2 {H : Heap} {b : Nat} {k x : Blk} (hb : H.get b = some k) : (H.set b (some x)).get b = some x := by rw [Heap.get_set hb, if_pos rfl]
theorem List.take_set_succ' {α : Type} {r : List α} {p : Nat} (g : α) (h : p < r.length) : (r.set p g).take (p + 1) = r.take p ++ [g] := by
 rw [take_snoc (p := g) (List.getElem?_set_self h), List.take_set_of_le (Nat.le_refl _)]
set_option maxHeartbeats 1000000 in
theorem DeleteG_run (k : Nat) {H : Heap} {o : Option Nat} {s : Value} {l : List Gl} (h : OwnO H o 2 s encG l) (hl : l.length < 2 ^ 31) :
  ∃ s' o' H', R (T k) F.slices_DeleteFunc_of_api_Glyph_api_Glyph [s, delV] H = .ok s' H' ∧ OwnO H' o' 2 s' encG (cleanG l) ∧ H.n ≤ H'.n ∧ (∀ c, c < H.n → o ≠ some c → H'.get c = H.get c) ∧ ∀ b, o' = some b → H.n ≤ b ∧ b < H'.n := by
 have hR : ∀ {v : Value} {H1 H2 : Heap} {s' : Value}, slices_DeleteFunc_of_api_Glyph_api_Glyph k (R (T k)) s delV H = .ok v H1 → trimR 2 v H1 = .ok s' H2 → R (T k) F.slices_DeleteFunc_of_api_Glyph_api_Glyph [s, delV] H = .ok s' H2 := fun {v H1 H2 s'} e1 e2 =>
  (R_sp (t := T k) (T_scott k) (s := fun call args H => (bodyK { P := Prog, kp := kpS, sp := fun _ => none } call F.slices_DeleteFunc_of_api_Glyph_api_Glyph args H).bind (trimR 2)) (by kernel_rfl) [s, delV] H).trans (by
   show nrm (mdS k F.slices_DeleteFunc_of_api_Glyph_api_Glyph) H _ = _;rw [show mdS k F.slices_DeleteFunc_of_api_Glyph_api_Glyph = .no from by kernel_rfl];refine nrm_of ?_;show (bodyK { P := Prog, kp := kpS, sp := fun _ => none } (R (T k)) F.slices_DeleteFunc_of_api_Glyph_api_Glyph [s, delV] H).bind (trimR 2) = _;rw [slices_DeleteFunc_of_api_Glyph_api_Glyph_body, e1];exact e2)
 obtain ⟨H1, x1, hi⟩ := IndexG_run k h hl;have h1 : OwnO H1 o 2 s encG l := h.up fun b hb => by rw [x1.2 b (h.lt b hb) (by simp)]
 have keep1 : ∀ c, c < H.n → H1.get c = H.get c := fun c hc => x1.2 c hc (by simp);rcases hi with ⟨e1, ha⟩ | ⟨j0, g0, e1, hg0, hd0, ha⟩
 ·rw [cleanG_all ha];have e2 : slices_DeleteFunc_of_api_Glyph_api_Glyph k (R (T k)) s delV H = .ok s H1 := by
   simp -implicitDefEqProofs [slices_DeleteFunc_of_api_Glyph_api_Glyph, e1]
  rcases h1 with ⟨rfl, rfl, hs⟩ | ⟨b, rfl, rfl, hb⟩
  ·refine ⟨s, none, H1, hR e2 ?_, .inl ⟨rfl, rfl, hs⟩, x1.1, fun c hc _ => keep1 c hc, fun b hb => by cases hb⟩;rcases hs with rfl | rfl | rfl <;> rfl
  ·have hrl := rows_length encG_len l;obtain ⟨t1, t2⟩ := trimR_own (p := l.length) (n := l.length) (l := l) hb (Nat.le_refl _) (by omega) (List.take_of_length_le (by omega)) rfl;refine ⟨_, _, _, hR e2 t1, t2, by simp; have := x1.1; omega, fun c hc hne => ?_, fun c hc => by injection hc with hc; subst hc; simp; exact x1.1⟩;rw [get_push_lt _ _ _ (by simp; have := x1.1; omega), get_set_ne _ _ _ _ (fun e => hne (by rw [e]))];exact keep1 c hc
 ·have hj0 := (List.getElem?_eq_some_iff.1 hg0).1;obtain ⟨b, rfl, rfl, hb⟩ := h1.full (fun e => by subst e; simp at hj0);have hbn : b < H.n := h.lt b rfl;have hx1 := x1.1;have c0 : cleanG (l.take (j0 + 1)) = l.take j0 := by
   rw [take_snoc hg0, cleanG_app, cleanG_all ha];unfold cleanG;simp [hd0]
  have e3 := fun (H' : Heap) (i : Nat) (hi : i < l.length) => ixS_slice 2 b 0 l.length l.length .i64 i H' hi
  obtain ⟨x, e', H2, hr, rfl, p, v, rfl, r, hp, hrl, hrt, hrb, hn2, hk2⟩ := loop_up (body := slices_DeleteFunc_of_api_Glyph_api_Glyph_l1 k (R (T k))) (l.length - (j0 + 1))
   (fun t e H' => ∃ p, e = [(0, .slice (some ⟨b, 0, none⟩) l.length l.length), (1, delV), (5, .int .i64 (p : Nat)), (6, .int .i64 (j0 + 1 + t : Nat))] ∧ ∃ r : List Gl, p < j0 + 1 + t ∧ r.length = l.length ∧ r.take p = cleanG (l.take (j0 + 1 + t)) ∧ r.drop (j0 + 1 + t) = l.drop (j0 + 1 + t) ∧ H'.get b = some ⟨rows encG r, 2, false⟩ ∧ H1.n ≤ H'.n ∧ ∀ c, c < H1.n → c ≠ b → H'.get c = H1.get c)
   (fun x e H' => x = .exit 0 ∧ ∃ (p : Nat) (v : Value), e = [(0, .slice (some ⟨b, 0, none⟩) l.length l.length), (1, delV), (5, .int .i64 (p : Nat)), (6, v), (19, .bool false)] ∧ ∃ r : List Gl, p < l.length ∧ r.length = l.length ∧ r.take p = cleanG l ∧ H'.get b = some ⟨rows encG r, 2, false⟩ ∧ H1.n ≤ H'.n ∧ ∀ c, c < H1.n → c ≠ b → H'.get c = H1.get c)
   (e0 := [(0, .slice (some ⟨b, 0, none⟩) l.length l.length), (1, delV), (5, .int .i64 (j0 : Nat)), (6, .int .i64 (j0 + 1 : Nat))]) (H0 := H1)
   ⟨j0, rfl, l, by omega, rfl, by rw [Nat.add_zero, c0], rfl, hb, Nat.le_refl _, fun _ _ _ => rfl⟩ (by omega)
   (fun t e H' ht ⟨p, he, r, hp, hrl, hrt, hrd, hrb, hn', hk'⟩ => by
    subst he;have hjl : j0 + 1 + t < l.length := by omega
    obtain ⟨jj, hjj⟩ : ∃ jj, jj = j0 + 1 + t := ⟨_, rfl⟩
    rw [← hjj] at hp hrt hrd hjl ⊢;have hlt : (jj : Int) < l.length := by omega
    obtain ⟨g, hg⟩ : ∃ g, l[jj]? = some g := ⟨_, List.getElem?_eq_getElem hjl⟩
    have hgr : r[jj]? = some g := by
     have h2 : (r.drop jj)[0]? = (l.drop jj)[0]? := by rw [hrd]
     rw [List.getElem?_drop, List.getElem?_drop, Nat.add_zero, hg] at h2;exact h2
    have i1 := fun H' => e3 H' jj hjl;rw [show 0 + jj * 2 = jj * 2 by omega] at i1;have l1 := ldA_row encG_len hrb hgr;have hbn' : ¬ b = H'.n := by have := x1.1; omega
    have hcv : ∀ H2, callV (R (T k)) delV [.agg (encG g).toArray] H2 = .ok (.bool (decide (g.id = 65535))) (H2.push ⟨encG g, 1, false⟩) := fun H2 => del1_run k g H2;have hne1 : ¬ H'.n = H'.n + 1 := by omega
    have l2 : ldA 2 (.pointer (some ⟨H'.n, 0, none⟩)) (H'.push ⟨encG g, 1, false⟩) = .ok (.agg (encG g).toArray) (H'.push ⟨encG g, 1, false⟩) := by simp
    have l3 : ldA 2 (.pointer (some ⟨H'.n, 0, none⟩)) ((H'.push ⟨encG g, 1, false⟩).push ⟨encG g, 1, false⟩) = .ok (.agg (encG g).toArray) ((H'.push ⟨encG g, 1, false⟩).push ⟨encG g, 1, false⟩) := by simp [hne1]
    have s0 : stR 2 (.pointer (some ⟨H'.n, 0, none⟩)) (.agg (encG g).toArray) (H'.push ⟨[.int .i64 0, .int .i64 0], 1, false⟩) = .ok undef (H'.push ⟨encG g, 1, false⟩) := by simp
    have hj2 : (jj : Int) + 1 = ((jj + 1 : Nat) : Int) := by omega
    have hjt : j0 + 1 + (t + 1) = jj + 1 := by omega
    by_cases hd : g.id = 65535
    ·rw [decide_eq_true hd] at hcv;refine .inl ⟨_, (H'.push ⟨encG g, 1, false⟩).push ⟨encG g, 1, false⟩, ?_, p, rfl, r, by omega, hrl, ?_, ?_, by rw [get_push_ne _ _ _ (by simp; omega), get_push_ne _ _ _ hbn']; exact hrb, by simp; omega, fun c hc hcb => by rw [get_push_lt _ _ _ (by simp; omega), get_push_lt _ _ _ (by omega)]; exact hk' c hc hcb⟩
     ·rw [slices_DeleteFunc_of_api_Glyph_api_Glyph_l1_eq];rw [hjt];simp -implicitDefEqProofs (disch := omega) [-ldA_ptr, hlt, i1, l1, hcv, l2, s0, -stR_ptr, slices_DeleteFunc_of_api_Glyph_api_Glyph_j2_eq]
     ·rw [hjt, hrt, take_snoc hg, cleanG_app];unfold cleanG;simp [hd]
     ·rw [hjt, ← List.drop_drop, hrd, List.drop_drop]
    ·rw [decide_eq_false hd] at hcv;obtain ⟨q, hq⟩ : ∃ q, r[p]? = some q := ⟨_, List.getElem?_eq_getElem (by omega)⟩
     have hrb2 : ((H'.push ⟨encG g, 1, false⟩).push ⟨encG g, 1, false⟩).get b = some ⟨rows encG r, 2, false⟩ := by
      rw [get_push_ne _ _ _ (by simp; omega), get_push_ne _ _ _ hbn']; exact hrb
     obtain ⟨H3, s1, s2, s3, s4⟩ := st_row encG_len hrb2 (c := 0) (n := 2) g (v := .agg (encG g).toArray) hq rfl rfl (by decide) (by simp [splice, Value.cells]);have i2 := fun H' => e3 H' p (by omega);rw [show 0 + p * 2 = p * 2 by omega] at i2;rw [Nat.add_zero] at s1;refine .inl ⟨_, H3, ?_, p + 1, rfl, r.set p g, by omega, by rw [List.length_set]; exact hrl, ?_, ?_, s2, by rw [s4]; simp; omega, fun c hc hcb => ?_⟩
     ·rw [slices_DeleteFunc_of_api_Glyph_api_Glyph_l1_eq];rw [hjt];simp -implicitDefEqProofs (disch := omega) [-ldA_ptr, -stR_ptr, hlt, i1, l1, hcv, l2, l3, s0, i2, s1, slices_DeleteFunc_of_api_Glyph_api_Glyph_j1_eq]
     ·rw [hjt, take_snoc hg, cleanG_app, ← hrt];unfold cleanG;simp only [ne_eq, hd, not_false_eq_true, decide_true, List.filter_cons_of_pos, List.filter_nil];rw [List.take_set_succ' g (by omega)]
     ·rw [hjt, List.drop_set_of_lt (by omega), ← List.drop_drop, hrd, List.drop_drop]
     ·rw [s3 c hcb, get_push_lt _ _ _ (by simp; omega), get_push_lt _ _ _ (by omega)];exact hk' c hc hcb)
   (fun e H' ⟨p, he, r, hp, hrl, hrt, hrd, hrb, hn', hk'⟩ => by
    subst he;have hjl : j0 + 1 + (l.length - (j0 + 1)) = l.length := by omega
    rw [hjl] at hp hrt ⊢;rw [List.take_length] at hrt;refine ⟨.exit 0, [(0, .slice (some ⟨b, 0, none⟩) l.length l.length), (1, delV), (5, .int .i64 (p : Nat)), (6, .int .i64 l.length), (19, .bool false)], H', ?_, by simp, rfl, p, .int .i64 l.length, rfl, r, hp, hrl, hrt, hrb, hn', hk'⟩;rw [slices_DeleteFunc_of_api_Glyph_api_Glyph_l1_eq];simp -implicitDefEqProofs)
  have hpl : (cleanG l).length = p := by rw [← hrt, List.length_take]; omega
  obtain ⟨H3, cells, c1, c2, c3, c4, c5, c6⟩ := clR_tail hrb hp hrl;rw [hrt] at c4;obtain ⟨t1, t2⟩ := trimR_own (p := p) (n := l.length) c2 (by omega) (by omega) c4 hpl;have sl1 : slS 2 (.slice (some ⟨b, 0, none⟩) l.length l.length) (some (.int .i64 (p : Nat))) none none H2 = .ok (.slice (some ⟨b, p * 2, none⟩) (l.length - p) (l.length - p)) H2 := by
   unfold slS openOk;simp [boundOf, hrb];omega
  have sl2 : slS 2 (.slice (some ⟨b, 0, none⟩) l.length l.length) none (some (.int .i64 (p : Nat))) none H3 = .ok (.slice (some ⟨b, 0, none⟩) p l.length) H3 := by
   unfold slS openOk;simp [boundOf, c2];omega
  have e2 : slices_DeleteFunc_of_api_Glyph_api_Glyph k (R (T k)) (.slice (some ⟨b, 0, none⟩) l.length l.length) delV H = .ok (.slice (some ⟨b, 0, none⟩) p l.length) H3 := by
   have hne : ((j0 : Int) == -1) = false := by simp
   have hr' := hr;rw [show ((j0 + 1 : Nat) : Int) = (j0 : Int) + 1 by omega] at hr';simp -implicitDefEqProofs (disch := omega) [slices_DeleteFunc_of_api_Glyph_api_Glyph, e1, hne, hr', slices_DeleteFunc_of_api_Glyph_api_Glyph_l1k_x0, sl1, c1, sl2]
  refine ⟨_, _, _, hR e2 t1, t2, by simp; omega, fun c hc hne => ?_, fun c hc => by injection hc with hc; subst hc; simp; omega⟩;have hcb : c ≠ b := fun e => hne (by rw [e]);rw [get_push_lt _ _ _ (by simp; omega), get_set_ne _ _ _ _ hcb, c6 c hcb, hk2 c (by omega) hcb];exact keep1 c hc
theorem lineClean_star (k : Nat) {H0 H : Heap} {L : List It} (h : Star H0 H L) (i : Nat) {c : Nat} {o : Option Nat} {l : List Gl} (hi : L[i]? = some (itLine c o l)) (hl : l.length < 2 ^ 31) :
  ∃ o' H', R (T k) F.line_Line_Clean [ptrV c] H = .ok (.tuple #[]) H' ∧ Star H0 H' (L.set i (itLine c o' (cleanG l))) := by
 obtain ⟨hne, s, h1, h2⟩ := h.box i hi;have hcn := Heap.get_lt h1;obtain ⟨s', o', H1, e1, e2, e3, e4, e5⟩ := DeleteG_run k h2 hl;have h1' : H1.get c = some ⟨[] ++ [s], 1, false⟩ := by rw [e4 c hcn hne]; exact h1
 have hoc : o' ≠ some c := fun e => by have := (e5 c e).1; omega
 have ok2 : OwnO (H1.set c (some ⟨[s'], 1, false⟩)) o' 2 s' encG (cleanG l) := e2.up fun b hb => get_set_ne _ _ _ _ fun e => hoc (by rw [← e]; exact hb);have st := e2.storable;have ce := e2.cells;refine ⟨o', H1.set c (some ⟨[s'], 1, false⟩), ?_, h.step i hi (by simpa using e3) (fun d hd hdx => ?_) _ ⟨hoc, s', by rw [Heap.get_set h1', if_pos rfl]; rfl, ok2⟩ fun b hb => ?_⟩
 ·simp at h1 h1';rw [line_Line_Clean_R];refine nrm_of ?_;simp -implicitDefEqProofs [line_Line_Clean, h1, e1, h1', st, ce]
 ·have hdc : d ≠ c := fun e => hdx (by rw [e]; exact List.mem_cons_self ..);rw [get_set_ne _ _ _ _ hdc];exact e4 d hd fun e => hdx (List.mem_cons_of_mem _ (Option.mem_toList.2 e))
 ·rcases List.mem_cons.1 hb with rfl | hb
  ·exact .inl (List.mem_cons_self ..)
  ·have := e5 b (Option.mem_toList.1 hb);exact .inr ⟨this.1, by simpa using this.2⟩
end Go.Sw
end
