/-
  Functions' forms, and what is proved of them, part 6.
-/
import Derived.Test.YtnaodjnimkndbaaSwW5
import Derived.Test.YtnaodjnimkndbaaSwCfg
set_option linter.unusedSimpArgs false
set_option linter.unusedVariables false
set_option linter.unusedSectionVars false
section
namespace Go.Sw
open Go.RowKit
end Go.Sw
end
section
namespace Go.Sw
open Go.RowKit
structure PW where
 l : Int
 r : Int
 v : Int
def PW.ok (p : PW) : Prop := (0 ≤ p.l ∧ p.l < 65536) ∧ (0 ≤ p.r ∧ p.r < 65536) ∧ -32768 ≤ p.v ∧ p.v < 32768
def PW.key (p : PW) : Int := p.l * 65536 + p.r
theorem wrap_m16 (n : Int) : IntKind.u16.wrap n = m16 n := by
 unfold IntKind.wrap m16
 simp [IntKind.signed, IntKind.bits]
theorem num_app (a b : List Int) : num (a ++ b) = num a * 256 ^ b.length + num b := by
 induction a with
 | nil => simp [num]
 | cons x a ih => rw [List.cons_append, num_cons, num_cons, ih, List.length_append, Int.pow_add, Int.add_mul, Int.mul_assoc]; omega
end Go.Sw
end
section
namespace Go.Sw
open Go.RowKit
abbrev encH (n : Int) : List Value := [.int .i16 n]
theorem encH_len (n : Int) : (encH n).length = 1 := rfl
structure Grid where
 rows : List Int
 cols : List Int
 vals : List Int
abbrev gridC (g : Grid) : List Value := [lv encB g.rows, lv encB g.cols, lv encH g.vals]
abbrev gridV (g : Grid) : Value := .agg (gridC g).toArray
def Grid.ok (g : Grid) : Prop := Byt g.rows ∧ Byt g.cols ∧ ∀ x, x ∈ g.vals → -32768 ≤ x ∧ x < 32768
def nums (z : Nat) (l : List Int) : List Int := (l.map fun c => bytesOf c z).flatten
theorem nums_len (z : Nat) (l : List Int) : (nums z l).length = l.length * z := flat_len (z := z) (fun r hr => by obtain ⟨p, _, rfl⟩ := List.mem_map.1 hr; simp) |>.trans (by simp)
theorem nums_snoc (z : Nat) (l : List Int) (x : Int) : nums z (l ++ [x]) = nums z l ++ bytesOf x z := by simp [nums]
theorem nums_byt (z : Nat) (l : List Int) : Byt (nums z l) := Byt.flat fun r hr => by obtain ⟨p, _, rfl⟩ := List.mem_map.1 hr; exact bytesOf_byt _ _
def of8 (z : Nat) (l : List Int) : List Int := (bytesOf 8 2 ++ bytesOf 0 2 ++ bytesOf l.length 2) ++ nums z l
theorem of8_len (z : Nat) (l : List Int) : (of8 z l).length = 6 + l.length * z := by unfold of8; simp [nums_len]; omega
theorem of8_byt (z : Nat) (l : List Int) : Byt (of8 z l) := (((bytesOf_byt _ _).app (bytesOf_byt _ _)).app (bytesOf_byt _ _)).app (nums_byt _ _)
abbrev times (m : Int) (l : List Int) : List Int := l.map fun x => x * m
theorem of_run (k : Nat) (l : List Int) (hl : Byt l) (hn : l.length ≤ 1000) (z : Nat) (hz : z = 2 ∨ z = 4) (m : Int) (hm : m = 1 ∨ m = 2) (H : Heap) :
  R (T k) F.swashlaw22_of [lv encB l, .int .i64 z, .int .i64 m] H = .ok (lv encB (of8 z (times m l))) H := by
 rw [swashlaw22_of_R]
 have g := (Star.nil H).more_row (Ext.refl _) (OwnO.nil encB _ 1) (fun b hb => by cases hb)
 simp only [List.nil_append] at g
 obtain ⟨s1, o1, H1, e1, g⟩ := Put_star k g 0 rfl 8 2 2 rfl (by omega) (by omega) (by omega) (by simp)
 simp only [List.set_cons_zero, List.set_cons_succ] at g
 obtain ⟨s2, o2, H2, e2, g⟩ := Put_star k g 0 rfl 0 2 2 rfl (by omega) (by omega) (by omega) (by simp)
 simp only [List.set_cons_zero, List.set_cons_succ] at g
 obtain ⟨s3, o3, H3, e3, g⟩ := Put_star k g 0 rfl l.length 2 2 rfl (by omega) (by omega) (by omega) (by simp)
 simp only [List.set_cons_zero, List.set_cons_succ, List.nil_append] at g
 obtain ⟨x, e', H4, hr4, rfl, z4, s4, o4, rfl, g⟩ := loop_up (body := swashlaw22_of_l1 k (R (T k))) l.length
  (fun j e H' => ∃ s o, e = [(1, .int .i64 z), (2, .int .i64 m), (7, s), (15, lv encB l), (16, .int .i64 l.length), (17, .int .i64 j)] ∧ Star H H' [itRow o 1 s encB ((bytesOf 8 2 ++ bytesOf 0 2 ++ bytesOf l.length 2) ++ nums z (times m (l.take j)))])
  (fun x e H' => x = .exit 0 ∧ ∃ z' s o, e = [(1, .int .i64 z), (2, .int .i64 m), (7, s), (15, lv encB l), (16, .int .i64 l.length), (17, z'), (18, .bool false)] ∧ Star H H' [itRow o 1 s encB ((bytesOf 8 2 ++ bytesOf 0 2 ++ bytesOf l.length 2) ++ nums z (times m l))])
  (e0 := [(1, .int .i64 z), (2, .int .i64 m), (7, s3), (15, lv encB l), (16, .int .i64 l.length), (17, .int .i64 0)]) (H0 := H3) ⟨s3, o3, rfl, by simpa [nums] using g⟩ (by omega)
  (fun j e H' hj ⟨s, o, he, g⟩ => by
   subst he
   have hlt : (j : Int) < l.length := by omega
   obtain ⟨c, hc⟩ : ∃ c, l[j]? = some c := ⟨_, List.getElem?_eq_getElem hj⟩
   have i1 := fun H' => ixS_lvN encB_len l .i64 j c hc H'
   have hcb := hl c (List.mem_of_getElem? hc)
   have h0 : 0 ≤ c * m := by rcases hm with rfl | rfl <;> omega
   have h1 : c * m < 2 ^ 20 := by rcases hm with rfl | rfl <;> omega
   have hzn : (times m (l.take j)).length * z ≤ 1000 * 4 := Nat.mul_le_mul (by simp; omega) (by omega)
   obtain ⟨s', o', H2, e2, g2⟩ := Put_star k g 0 rfl (c * m) z z rfl h0 (by omega) (by omega) (by simp only [List.length_append, bytesOf_len, nums_len]; omega)
   simp only [List.set_cons_zero, List.set_cons_succ] at g2
   have ht : times m (l.take (j + 1)) = times m (l.take j) ++ [c * m] := by rw [take_snoc hc]; simp
   refine .inl ⟨_, H2, ?_, s', o', rfl, by rw [ht, nums_snoc, ← List.append_assoc]; exact g2⟩
   rw [swashlaw22_of_l1_eq]
   simp -implicitDefEqProofs (disch := omega) [hlt, i1, e2])
  (fun e H' ⟨s, o, he, g⟩ => by
   subst he
   rw [List.take_length] at g
   refine ⟨.exit 0, _, H', ?_, by simp, rfl, .int .i64 l.length, s, o, rfl, g⟩
   rw [swashlaw22_of_l1_eq]
   simp -implicitDefEqProofs)
 have hof : of8 z (times m l) = (bytesOf 8 2 ++ bytesOf 0 2 ++ bytesOf l.length 2) ++ nums z (times m l) := by unfold of8; simp
 rw [hof]
 obtain ⟨L, hf⟩ := (g.own 0 rfl).freeze encB_len (fun n _ v hv => by simp at hv; subst hv; trivial) 6
 refine nrm_fz (v := s4) (H' := H4) ?_ hf g.ext (Flat.B _).alive
 simp -implicitDefEqProofs (disch := omega) [swashlaw22_of, e1, e2, e3, hr4, swashlaw22_of_l1k_x0]
structure Form where
 pre : List Int
 head : Int
 z : Nat
 m : Int
def formOf (n : Int) : Form := if n = 0 then ⟨[0, 0, 0, 0], 16, 2, 2⟩ else if n = 1 then ⟨[0, 0, 0, 0, 0, 0, 0, 0], 20, 2, 1⟩ else ⟨[0, 0, 0, 1, 0, 0, 0, 0], 20, 4, 1⟩
def mz (z : Nat) (x : Int) : Int := if z = 4 then x % 4294967296 else x % 65536
def gridB (g : Grid) (f : Form) : List Int :=
 f.pre ++ bytesOf f.head 4 ++ bytesOf (f.head + (of8 f.z (times f.m g.rows)).length) 4 ++ bytesOf (f.head + (of8 f.z (times f.m g.rows)).length + (of8 f.z (times f.m g.cols)).length) 4 ++
  of8 f.z (times f.m g.rows) ++ of8 f.z (times f.m g.cols) ++ nums f.z (g.vals.map (mz f.z))
theorem wrap_m32 (n : Int) : IntKind.u32.wrap n = n % 4294967296 := by
 unfold IntKind.wrap
 simp [IntKind.signed, IntKind.bits]
theorem mz_bound (z : Nat) (x : Int) : 0 ≤ mz z x ∧ mz z x < 4294967296 := by unfold mz; split <;> omega
set_option maxHeartbeats 2000000 in
/-- The grid's end, behind the bytes ahead. -/
theorem grid_j1 (k : Nat) (g : Grid) (hg : g.ok) (h1 : g.rows.length ≤ 1000) (h2 : g.cols.length ≤ 1000) (h3 : g.vals.length ≤ 1000) (f : Form) (hz : f.z = 2 ∨ f.z = 4) (hm : f.m = 1 ∨ f.m = 2) (hh : f.head = 16 ∨ f.head = 20) (hp : f.pre.length ≤ 100)
  {H0 H : Heap} {q : Nat} (hq : H.get q = some ⟨gridC g, 1, false⟩) {s0 : Value} {o0 : Option Nat} (st : Star H0 H [itBlk q ⟨gridC g, 1, false⟩, itRow o0 1 s0 encB f.pre]) :
  ∃ s o H', swashlaw22_WriteGrid_j1 k (R (T k)) (ptrV q) (.int .i64 f.head) (.int .i64 f.z) (.int .i64 f.m) s0 H = .ok s H' ∧ Star H0 H' [itBlk q ⟨gridC g, 1, false⟩, itRow o 1 s encB (gridB g f)] := by
 obtain ⟨rows, cols, vals⟩ := g
 obtain ⟨pre, head, z, m⟩ := f
 dsimp only at h1 h2 h3 hz hm hh hp st hq ⊢
 have of1 := fun H' => of_run k rows hg.1 h1 z hz m hm H'
 have of2 := fun H' => of_run k cols hg.2.1 h2 z hz m hm H'
 have lr := of8_len z (times m rows)
 have lc := of8_len z (times m cols)
 have hr4 : (times m rows).length * z ≤ 1000 * 4 := Nat.mul_le_mul (by simpa using h1) (by omega)
 have hc4 : (times m cols).length * z ≤ 1000 * 4 := Nat.mul_le_mul (by simpa using h2) (by omega)
 unfold gridB
 dsimp only
 generalize of8 z (times m rows) = rb at of1 lr ⊢
 generalize of8 z (times m cols) = cb at of2 lc ⊢
 obtain ⟨s1, o1, H1, e1, st⟩ := Put_star k st 1 rfl head 4 4 rfl (by omega) (by omega) (by omega) (by simp; omega)
 simp only [List.set_cons_zero, List.set_cons_succ] at st
 obtain ⟨s2, o2, H2, e2, st⟩ := Put_star k st 1 rfl (head + rb.length) 4 4 rfl (by omega) (by omega) (by omega) (by simp; omega)
 simp only [List.set_cons_zero, List.set_cons_succ] at st
 obtain ⟨s3, o3, H3, e3, st⟩ := Put_star k st 1 rfl (head + rb.length + cb.length) 4 4 rfl (by omega) (by omega) (by omega) (by simp; omega)
 simp only [List.set_cons_zero, List.set_cons_succ] at st
 obtain ⟨s4, o4, H4, e4, st⟩ := st.append (bytes := 1) 1 encB_len rfl (b := lv encB rb) (l2 := rb) rfl (by have := lv_first encB_len rb H3; exact this) (by simp; omega) (by decide)
 simp only [List.set_cons_zero, List.set_cons_succ] at st
 obtain ⟨s5, o5, H5, e5, st⟩ := st.append (bytes := 1) 1 encB_len rfl (b := lv encB cb) (l2 := cb) rfl (by have := lv_first encB_len cb H4; exact this) (by simp; omega) (by decide)
 simp only [List.set_cons_zero, List.set_cons_succ] at st
 have g5 := st.get 0 rfl
 obtain ⟨B, hB⟩ : ∃ B : Blk, B = ⟨[lv encB rows, lv encB cols, lv encH vals], 1, false⟩ := ⟨_, rfl⟩
 obtain ⟨x, e', H6, hr6, rfl, z6, s6, o6, rfl, st⟩ := loop_up (body := swashlaw22_WriteGrid_l1 k (R (T k))) vals.length
  (fun j e H' => ∃ s o, e = [(6, .int .i64 z), (8, s), (56, lv encH vals), (57, .int .i64 vals.length), (58, .int .i64 j)] ∧ Star H0 H' [itBlk q ⟨[lv encB rows, lv encB cols, lv encH vals], 1, false⟩, itRow o 1 s encB (pre ++ bytesOf head 4 ++ bytesOf (head + rb.length) 4 ++ bytesOf (head + rb.length + cb.length) 4 ++ rb ++ cb ++ nums z ((vals.take j).map (mz z)))])
  (fun x e H' => x = .exit 1 ∧ ∃ z' s o, e = [(6, .int .i64 z), (8, s), (56, lv encH vals), (57, .int .i64 vals.length), (58, z'), (59, .bool false)] ∧ Star H0 H' [itBlk q ⟨[lv encB rows, lv encB cols, lv encH vals], 1, false⟩, itRow o 1 s encB (pre ++ bytesOf head 4 ++ bytesOf (head + rb.length) 4 ++ bytesOf (head + rb.length + cb.length) 4 ++ rb ++ cb ++ nums z (vals.map (mz z)))])
  (e0 := [(6, .int .i64 z), (8, s5), (56, lv encH vals), (57, .int .i64 vals.length), (58, .int .i64 0)]) (H0 := H5) ⟨s5, o5, rfl, by simpa [nums] using st⟩ (by omega)
  (fun j e H' hj ⟨s, o, he, st⟩ => by
   subst he
   have hlt : (j : Int) < vals.length := by omega
   obtain ⟨c, hc⟩ : ∃ c, vals[j]? = some c := ⟨_, List.getElem?_eq_getElem hj⟩
   have i1 := fun H' => ixS_lvN encH_len vals .i64 j c hc H'
   have hcb := hg.2.2 c (List.mem_of_getElem? hc)
   have hb := mz_bound z c
   have hzn : ((vals.take j).map (mz z)).length * z ≤ 1000 * 4 := Nat.mul_le_mul (by simp; omega) (by omega)
   obtain ⟨s', o', H2, e2, g2⟩ := Put_star k st 1 rfl (mz z c) z z rfl hb.1 (by omega) (by omega) (by simp only [List.length_append, bytesOf_len, nums_len]; omega)
   simp only [List.set_cons_zero, List.set_cons_succ] at g2
   have ht : (vals.take (j + 1)).map (mz z) = (vals.take j).map (mz z) ++ [mz z c] := by rw [take_snoc hc]; simp
   refine .inl ⟨_, H2, ?_, s', o', rfl, by rw [ht, nums_snoc, ← List.append_assoc]; exact g2⟩
   rw [swashlaw22_WriteGrid_l1_eq]
   have w16 := wrap_m16 c
   have w32 := wrap_m32 c
   rcases hz with rfl | rfl
   ·have hmz : mz 2 c = m16 c := rfl
    rw [hmz] at e2
    have mb := m16_bound c
    simp at e2
    simp -implicitDefEqProofs (disch := omega) [hlt, i1, w16, e2, swashlaw22_WriteGrid_j3_eq]
   ·have hmz : mz 4 c = c % 4294967296 := rfl
    rw [hmz] at e2
    have mb := m16_bound c
    simp at e2
    simp -implicitDefEqProofs (disch := omega) [hlt, i1, w16, w32, e2, swashlaw22_WriteGrid_j2_eq])
  (fun e H' ⟨s, o, he, st⟩ => by
   subst he
   rw [List.take_length] at st
   refine ⟨.exit 1, _, H', ?_, by simp, rfl, .int .i64 vals.length, s, o, rfl, st⟩
   rw [swashlaw22_WriteGrid_l1_eq]
   simp -implicitDefEqProofs)
 refine ⟨s6, o6, H6, ?_, st⟩
 rw [swashlaw22_WriteGrid_j1_eq]
 have vb := veq_B rows
 have vc := veq_B cols
 simp -implicitDefEqProofs (disch := omega) [hq, of1, of2, vb, vc, e1, e2, e3, e4, e5, g5, hr6, swashlaw22_WriteGrid_l1k_x1]
set_option maxHeartbeats 1000000 in
theorem grid_core (k : Nat) (g : Grid) (hg : g.ok) (h1 : g.rows.length ≤ 1000) (h2 : g.cols.length ≤ 1000) (h3 : g.vals.length ≤ 1000) (n : Int) {H0 H : Heap} {L : List It} (st0 : Star H0 H L) :
  ∃ s o H', swashlaw22_WriteGrid k (R (T k)) (gridV g) (.int .i64 n) H = .ok s H' ∧ Star H H' [itBlk H.n ⟨gridC g, 1, false⟩, itRow o 1 s encB (gridB g (formOf n))] := by
 have st := (Star.nil H).push ⟨gridC g, 1, false⟩
 simp only [List.nil_append] at st
 have hq : ∀ k, ((H.push ⟨gridC g, 1, false⟩).push k).get H.n = some ⟨gridC g, 1, false⟩ := fun k => by simp
 unfold formOf
 by_cases c0 : n = 0
 ·rw [if_pos c0]
  have st1 := st.more_row (enc := encB) (m := 1) (o := some (H.n + 1)) (s := .slice (some ⟨H.n + 1, 0, none⟩) 4 4) (l := [0, 0, 0, 0]) (H' := (H.push ⟨gridC g, 1, false⟩).push ⟨repeatCells [.int .u8 0] 4, 1, false⟩) ((Ext.refl _).push _) (.inr ⟨_, rfl, rfl, by rw [get_push_eq _ _ _ (by simp)]; rfl⟩) (fun b hb => by injection hb with hb; subst hb; simp)
  simp only [List.cons_append, List.nil_append] at st1
  obtain ⟨s, o, H', e, st2⟩ := grid_j1 k g hg h1 h2 h3 ⟨[0, 0, 0, 0], 16, 2, 2⟩ (by simp) (by simp) (by simp) (by simp) (hq _) st1
  refine ⟨s, o, H', ?_, st2⟩
  subst c0
  have mk := fun H' => mkR_nat 1 1 [.int .u8 0] .i64 .i64 4 H' (by omega) (by omega)
  dsimp only at e
  simp at e mk
  simp -implicitDefEqProofs (disch := omega) [swashlaw22_WriteGrid, mk, e]
 rw [if_neg c0]
 by_cases c1 : n = 1
 ·rw [if_pos c1]
  have st1 := st.more_row (enc := encB) (m := 1) (o := some (H.n + 1)) (s := .slice (some ⟨H.n + 1, 0, none⟩) 8 8) (l := [0, 0, 0, 0, 0, 0, 0, 0]) (H' := (H.push ⟨gridC g, 1, false⟩).push ⟨repeatCells [.int .u8 0] 8, 1, false⟩) ((Ext.refl _).push _) (.inr ⟨_, rfl, rfl, by rw [get_push_eq _ _ _ (by simp)]; rfl⟩) (fun b hb => by injection hb with hb; subst hb; simp)
  simp only [List.cons_append, List.nil_append] at st1
  obtain ⟨s, o, H', e, st2⟩ := grid_j1 k g hg h1 h2 h3 ⟨[0, 0, 0, 0, 0, 0, 0, 0], 20, 2, 1⟩ (by simp) (by simp) (by simp) (by simp) (hq _) st1
  refine ⟨s, o, H', ?_, st2⟩
  subst c1
  have mk := fun H' => mkR_nat 1 1 [.int .u8 0] .i64 .i64 8 H' (by omega) (by omega)
  dsimp only at e
  simp at e mk
  simp -implicitDefEqProofs (disch := omega) [swashlaw22_WriteGrid, mk, e]
 rw [if_neg c1]
 have c0' : (n == 0) = false := by simpa using c0
 have c1' : (n == 1) = false := by simpa using c1
 have st1 := st.more_row (enc := encB) (m := 1) (o := some (H.n + 1)) (s := .slice (some ⟨H.n + 1, 0, none⟩) 4 4) (l := [0, 0, 0, 1]) (H' := (H.push ⟨gridC g, 1, false⟩).push ⟨[.int .u8 0, .int .u8 0, .int .u8 0, .int .u8 1], 1, false⟩) ((Ext.refl _).push _) (.inr ⟨_, rfl, rfl, by rw [get_push_eq _ _ _ (by simp)]; rfl⟩) (fun b hb => by injection hb with hb; subst hb; simp)
 simp only [List.cons_append, List.nil_append] at st1
 have st2 := st1.more_row (enc := encB) (m := 1) (o := some (H.n + 2)) (s := .slice (some ⟨H.n + 2, 0, none⟩) 4 4) (l := [0, 0, 0, 0]) (H' := ((H.push ⟨gridC g, 1, false⟩).push ⟨[.int .u8 0, .int .u8 0, .int .u8 0, .int .u8 1], 1, false⟩).push ⟨[.int .u8 0, .int .u8 0, .int .u8 0, .int .u8 0], 1, false⟩) ((Ext.refl _).push _) (.inr ⟨_, rfl, rfl, by rw [get_push_eq _ _ _ (by simp)]; rfl⟩) (fun b hb => by injection hb with hb; subst hb; simp)
 simp only [List.cons_append, List.nil_append] at st2
 obtain ⟨s1, o1, H1, e1, st3⟩ := st2.appendRow (bytes := 1) 1 2 encB_len rfl rfl (by simp) (by decide)
 simp only [List.set_cons_zero, List.set_cons_succ] at st3
 have st3 := st3.take 2
 simp only [List.take_succ_cons, List.take_zero, List.cons_append, List.nil_append] at st3
 obtain ⟨s, o, H', e, st4⟩ := grid_j1 k g hg h1 h2 h3 ⟨[0, 0, 0, 1, 0, 0, 0, 0], 20, 4, 1⟩ (by simp) (by simp) (by simp) (by simp) (st3.get 0 rfl) st3
 refine ⟨s, o, H', ?_, st4⟩
 dsimp only at e
 simp at e
 simp -implicitDefEqProofs (disch := omega) [swashlaw22_WriteGrid, c0', c1', e1, e]
end Go.Sw
end
section
set_option maxRecDepth 100000
set_option linter.unusedVariables false
namespace Go.Sw
noncomputable section
def swashref22_Read_j1 (k : Nat) (call : Caller) (a1 a2 a6 a8 a11 : Value) (h : Heap) : Res Value :=
 kSeq (pieceK (C k) call F.swashref22_Read [1, 1, 1, 1, 1]) (kDone Prog (resOf Prog F.swashref22_Read)) .normal [(1, a1), (2, a2), (6, a6), (8, a8), (11, a11)] h
def swashref22_Read_j2 (k : Nat) (call : Caller) (a1 a2 a6 a8 a11 a65 : Value) (h : Heap) : Res Value :=
 kSeq (pieceK (C k) call F.swashref22_Read [1, 1, 1, 1, 1]) (kDone Prog (resOf Prog F.swashref22_Read)) .normal [(1, a1), (2, a2), (6, a6), (8, a8), (11, a11), (65, a65)] h
def swashref22_Read_j3 (k : Nat) (call : Caller) (a1 a2 a6 a8 a11 a56 : Value) (h : Heap) : Res Value :=
 kSeq (pieceK (C k) call F.swashref22_Read [1, 1, 1, 1, 1]) (kDone Prog (resOf Prog F.swashref22_Read)) .normal [(1, a1), (2, a2), (6, a6), (8, a8), (11, a11), (56, a56)] h
def swashref22_Read_l1 (k : Nat) (call : Caller) : Env → Heap → Res (AExit × Env) := loopB (C k) call F.swashref22_Read [1, 1, 0, 1, 0, 1, 1, 0, 1, 0, 0]
def swashref22_Read_l1k (k : Nat) (call : Caller) : Kont Value := kBlock 0 (kSeq (pieceK (C k) call F.swashref22_Read [1, 1, 0, 1, 0, 1, 1, 1]) (kSeq (pieceK (C k) call F.swashref22_Read [1, 1, 1]) (kDone Prog (resOf Prog F.swashref22_Read))))
def swashref22_Read (k : Nat) (call : Caller) (a0 a1 a2 : Value) (h : Heap) : Res Value :=
 (allocR Prog 164 h).bind fun v1 h2 =>
 (buildR Prog 164 [(0, a0), (4, a1), (2, (.int .i64 2)), (3, (.int .i64 1))] h2).bind fun v3 h4 =>
 (allocR Prog 164 h4).bind fun v5 h6 =>
 (storeR Prog 164 v5 v3 h6).bind fun _v7 h8 =>
 (binR Prog .eql 3 a0 (.int .i64 0) h8).bind fun v9 h10 =>
 condV (some v9) (
 (call F.swashref01_U [a1, (.int .i64 0), (.int .i64 4)] h10).bind fun v11 h12 =>
 (fieldAddrR Prog 164 v5 1 h12).bind fun v13 h14 =>
 (storeR Prog 3 v13 v11 h14).bind fun _v15 h16 =>
 (builtinV Prog .len [65] [a1] h16).bind fun v17 h18 =>
 (fieldAddrR Prog 164 v5 1 h18).bind fun v19 h20 =>
 (loadR Prog 3 v19 h20).bind fun v21 h22 =>
 (call F.swashref01_Rows [v17, (.int .i64 16), v21, (.int .i64 6)] h22).bind fun v23 h24 =>
 (loopN (swashref22_Read_l1 k call) loopFuel [(1, a1), (6, v1), (8, v5), (9, v23), (10, (.int .i64 1))] h24).bind fun r25 h26 =>
 swashref22_Read_l1k k call r25.1 r25.2 h26)
 (
 (binR Prog .eql 3 a0 (.int .i64 6) h10).bind fun v27 h28 =>
 condV (some v27) (
 (fieldAddrR Prog 164 v5 3 h28).bind fun v29 h30 =>
 (storeR Prog 3 v29 (.int .i64 2) h30).bind fun _v31 h32 =>
 (call F.swashref01_U [a1, (.int .i64 0), (.int .i64 4)] h32).bind fun v33 h34 =>
 (binR Prog .lss 3 v33 (.int .i64 0) h34).bind fun v35 h36 =>
 condV (some v35) (
 (loadR Prog 164 v5 h36).bind fun v37 h38 =>
 (storeR Prog 164 v1 v37 h38).bind fun _v39 h40 =>
 (loadR Prog 164 v1 h40).bind fun v41 h42 =>
 .ok (.tuple #[v41, (.bool false)]) h42)
 (
 (binR Prog .rem 3 v33 (.int .i64 2) h36).bind fun v43 h44 =>
 (binR Prog .eql 3 v43 (.int .i64 1) h44).bind fun v45 h46 =>
 condV (some v45) (
 (fieldAddrR Prog 164 v5 2 h46).bind fun v47 h48 =>
 (storeR Prog 3 v47 (.int .i64 4) h48).bind fun _v49 h50 =>
 (fieldAddrR Prog 164 v5 3 h50).bind fun v51 h52 =>
 (storeR Prog 3 v51 (.int .i64 4) h52).bind fun _v53 h54 =>
 swashref22_Read_j1 k call a1 a2 v1 v5 (.int .i64 8) h54)
 (
 swashref22_Read_j2 k call a1 a2 v1 v5 (.int .i64 8) v45 h46)))
 (
 swashref22_Read_j3 k call a1 a2 v1 v5 (.int .i64 4) v27 h28))
theorem swashref22_Read_R (k : Nat) (a0 a1 a2 : Value) (b0 b1 b2 : Value) (h : Heap) (L : List Nat) (hf : mapF (fzV 0 h fzDepth) [a0, a1, a2] = some ([b0, b1, b2], L)) : R (T k) F.swashref22_Read [a0, a1, a2] h = nrm .fz (killAll h L) (swashref22_Read k (R (T k)) b0 b1 b2 (killAll h L)) :=
 (R_bodyA (t := T k) (T_scott k) (by kernel_rfl) (by kernel_rfl) hf).trans (by kernel_rfl)
theorem swashref22_Read_j1_eq (k : Nat) (call : Caller) (a1 a2 a6 a8 a11 : Value) (h : Heap) : swashref22_Read_j1 k call a1 a2 a6 a8 a11 h =
 (call F.swashref01_U [a1, a11, (.int .i64 4)] h).bind fun v55 h56 =>
 (call F.swashref01_From [a1, v55] h56).bind fun v57 h58 =>
 (extractR v57 0 h58).bind fun v59 h60 =>
 (extractR v57 1 h60).bind fun v61 h62 =>
 (binR Prog .add 3 a11 (.int .i64 4) h62).bind fun v63 h64 =>
 (call F.swashref01_U [a1, v63, (.int .i64 4)] h64).bind fun v65 h66 =>
 (call F.swashref01_From [a1, v65] h66).bind fun v67 h68 =>
 (extractR v67 0 h68).bind fun v69 h70 =>
 (extractR v67 1 h70).bind fun v71 h72 =>
 (binR Prog .add 3 a11 (.int .i64 8) h72).bind fun v73 h74 =>
 (call F.swashref01_U [a1, v73, (.int .i64 4)] h74).bind fun v75 h76 =>
 (call F.swashref01_From [a1, v75] h76).bind fun v77 h78 =>
 (extractR v77 0 h78).bind fun v79 h80 =>
 (extractR v77 1 h80).bind fun v81 h82 =>
 (unR .not v61 h82).bind fun v83 h84 =>
 ((bif wantVal v83 false then Res.ok v71 h84 else Res.ok undef h84)).bind fun v85 h86 =>
 ((bif wantVal v83 false then unR .not v85 h86 else Res.ok undef h86)).bind fun v87 h88 =>
 (condV (some v83) (Res.ok (.bool true) h88) (Res.ok v87 h88)).bind fun v89 h90 =>
 ((bif wantVal v89 false then Res.ok v81 h90 else Res.ok undef h90)).bind fun v91 h92 =>
 ((bif wantVal v89 false then unR .not v91 h92 else Res.ok undef h92)).bind fun v93 h94 =>
 (condV (some v89) (Res.ok (.bool true) h94) (Res.ok v93 h94)).bind fun v95 h96 =>
 condV (some v95) (
 (loadR Prog 164 a8 h96).bind fun v97 h98 =>
 (storeR Prog 164 a6 v97 h98).bind fun _v99 h100 =>
 (loadR Prog 164 a6 h100).bind fun v101 h102 =>
 .ok (.tuple #[v101, (.bool false)]) h102)
 (
 (fieldAddrR Prog 164 a8 2 h96).bind fun v103 h104 =>
 (loadR Prog 3 v103 h104).bind fun v105 h106 =>
 (call F.swashref06_Read [v59, a2, v105] h106).bind fun v107 h108 =>
 (extractR v107 0 h108).bind fun v109 h110 =>
 (extractR v107 1 h110).bind fun v111 h112 =>
 (fieldAddrR Prog 164 a8 6 h112).bind fun v113 h114 =>
 (storeR Prog 88 v113 v109 h114).bind fun _v115 h116 =>
 (fieldAddrR Prog 164 a8 2 h116).bind fun v117 h118 =>
 (loadR Prog 3 v117 h118).bind fun v119 h120 =>
 (call F.swashref06_Read [v69, a2, v119] h120).bind fun v121 h122 =>
 (extractR v121 0 h122).bind fun v123 h124 =>
 (extractR v121 1 h124).bind fun v125 h126 =>
 (fieldAddrR Prog 164 a8 7 h126).bind fun v127 h128 =>
 (storeR Prog 88 v127 v123 h128).bind fun _v129 h130 =>
 (fieldAddrR Prog 164 a8 5 h130).bind fun v131 h132 =>
 (storeR Prog 65 v131 v79 h132).bind fun _v133 h134 =>
 (loadR Prog 164 a8 h134).bindN fun v135 h136 =>
 ((bif wantVal v111 true then Res.ok v125 h136 else Res.ok undef h136)).bindN fun v137 h138 =>
 (condV (some v111) (Res.ok v137 h138) (Res.ok (.bool false) h138)).bindN fun v139 h140 =>
 ((bif wantVal v139 true then Res.ok v79 h140 else Res.ok undef h140)).bindN fun v141 h142 =>
 ((bif wantVal v139 true then builtinV Prog .len [65] [v141] h142 else Res.ok undef h142)).bindN fun v143 h144 =>
 ((bif wantVal v139 true then fieldAddrR Prog 164 a8 3 h144 else Res.ok undef h144)).bindN fun v145 h146 =>
 ((bif wantVal v139 true then loadR Prog 3 v145 h146 else Res.ok undef h146)).bindN fun v147 h148 =>
 ((bif wantVal v139 true then fieldAddrR Prog 164 a8 6 h148 else Res.ok undef h148)).bindN fun v149 h150 =>
 ((bif wantVal v139 true then loadR Prog 88 v149 h150 else Res.ok undef h150)).bindN fun v151 h152 =>
 ((bif wantVal v139 true then call F.swashref22_most [v151] h152 else Res.ok undef h152)).bindT (fun p155 h156 => ((bif wantVal v139 true then fieldAddrR Prog 164 a8 7 h152 else Res.ok undef h152)).bindN fun v157 h158 => ((bif wantVal v139 true then loadR Prog 88 v157 h158 else Res.ok undef h158)).bindN fun v159 h160 => ((bif wantVal v139 true then fieldAddrR Prog 164 a8 2 h160 else Res.ok undef h160)).bindN fun v161 h162 => ((bif wantVal v139 true then loadR Prog 3 v161 h162 else Res.ok undef h162)).bindN fun v163 h164 => chkR ((okVal ((bif wantVal v139 true then loadR Prog 88 v157 h134 else Res.ok undef h134)) v159 && true) && ((okVal ((bif wantVal v139 true then loadR Prog 3 v161 h134 else Res.ok undef h134)) v163 && true) && true)) (.panic p155 h156)) fun v153 h154 =>
 ((bif wantVal v139 true then fieldAddrR Prog 164 a8 7 h154 else Res.ok undef h154)).bindN fun v165 h166 =>
 ((bif wantVal v139 true then loadR Prog 88 v165 h166 else Res.ok undef h166)).bindN fun v167 h168 =>
 ((bif wantVal v139 true then call F.swashref22_most [v167] h168 else Res.ok undef h168)).bindT (fun p171 h172 => ((bif wantVal v139 true then fieldAddrR Prog 164 a8 2 h168 else Res.ok undef h168)).bindN fun v173 h174 => ((bif wantVal v139 true then loadR Prog 3 v173 h174 else Res.ok undef h174)).bindN fun v175 h176 => chkR ((okVal (loadR Prog 164 a8 h154) v135 && true) && ((okVal ((bif wantVal v139 true then loadR Prog 3 v145 h154 else Res.ok undef h154)) v147 && true) && ((okVal ((bif wantVal v139 true then loadR Prog 88 v165 h134 else Res.ok undef h134)) v167 && true) && ((okVal ((bif wantVal v139 true then loadR Prog 3 v173 h134 else Res.ok undef h134)) v175 && (okVal ((bif wantVal v139 true then loadR Prog 3 v173 h154 else Res.ok undef h154)) v175 && true)) && true)))) (.panic p171 h172)) fun v169 h170 =>
 ((bif wantVal v139 true then binR Prog .add 3 v153 v169 h170 else Res.ok undef h170)).bindN fun v177 h178 =>
 ((bif wantVal v139 true then binR Prog .mul 3 v147 v177 h178 else Res.ok undef h178)).bindN fun v179 h180 =>
 ((bif wantVal v139 true then fieldAddrR Prog 164 a8 2 h180 else Res.ok undef h180)).bindN fun v181 h182 =>
 ((bif wantVal v139 true then loadR Prog 3 v181 h182 else Res.ok undef h182)).bindN fun v183 h184 =>
 ((bif wantVal v139 true then call F.swashref01_In [v143, v179, v183] h184 else Res.ok undef h184)).bindT (fun p187 h188 => chkR ((okVal (loadR Prog 164 a8 h154) v135 && (okVal (loadR Prog 164 a8 h170) v135 && true)) && ((okVal ((bif wantVal v139 true then loadR Prog 3 v145 h154 else Res.ok undef h154)) v147 && (okVal ((bif wantVal v139 true then loadR Prog 3 v145 h170 else Res.ok undef h170)) v147 && true)) && ((okVal ((bif wantVal v139 true then loadR Prog 88 v165 h134 else Res.ok undef h134)) v167 && true) && ((okVal ((bif wantVal v139 true then loadR Prog 3 v181 h134 else Res.ok undef h134)) v183 && (okVal ((bif wantVal v139 true then loadR Prog 3 v181 h154 else Res.ok undef h154)) v183 && true)) && true)))) (.panic p187 h188)) fun v185 h186 =>
 (condV (some v139) (Res.ok v185 h186) (Res.ok (.bool false) h186)).bindN fun v189 h190 =>
 (storeR Prog 164 a6 v135 h190).bindN fun _v191 h192 =>
 chkR ((okVal (loadR Prog 164 a8 h154) v135 && (okVal (loadR Prog 164 a8 h170) v135 && (okVal (loadR Prog 164 a8 h186) v135 && true))) && ((okVal ((bif wantVal v139 true then loadR Prog 3 v145 h154 else Res.ok undef h154)) v147 && (okVal ((bif wantVal v139 true then loadR Prog 3 v145 h170 else Res.ok undef h170)) v147 && true)) && ((okVal ((bif wantVal v139 true then loadR Prog 88 v165 h134 else Res.ok undef h134)) v167 && true) && ((okVal ((bif wantVal v139 true then loadR Prog 3 v181 h134 else Res.ok undef h134)) v183 && (okVal ((bif wantVal v139 true then loadR Prog 3 v181 h154 else Res.ok undef h154)) v183 && true)) && true)))) (
 (loadR Prog 164 a6 h192).bind fun v193 h194 =>
 .ok (.tuple #[v193, v189]) h194)) := by kernel_rfl
theorem swashref22_Read_j2_eq (k : Nat) (call : Caller) (a1 a2 a6 a8 a11 a65 : Value) (h : Heap) : swashref22_Read_j2 k call a1 a2 a6 a8 a11 a65 h =
 (call F.swashref01_U [a1, a11, (.int .i64 4)] h).bind fun v195 h196 =>
 (call F.swashref01_From [a1, v195] h196).bind fun v197 h198 =>
 (extractR v197 0 h198).bind fun v199 h200 =>
 (extractR v197 1 h200).bind fun v201 h202 =>
 (binR Prog .add 3 a11 (.int .i64 4) h202).bind fun v203 h204 =>
 (call F.swashref01_U [a1, v203, (.int .i64 4)] h204).bind fun v205 h206 =>
 (call F.swashref01_From [a1, v205] h206).bind fun v207 h208 =>
 (extractR v207 0 h208).bind fun v209 h210 =>
 (extractR v207 1 h210).bind fun v211 h212 =>
 (binR Prog .add 3 a11 (.int .i64 8) h212).bind fun v213 h214 =>
 (call F.swashref01_U [a1, v213, (.int .i64 4)] h214).bind fun v215 h216 =>
 (call F.swashref01_From [a1, v215] h216).bind fun v217 h218 =>
 (extractR v217 0 h218).bind fun v219 h220 =>
 (extractR v217 1 h220).bind fun v221 h222 =>
 (unR .not v201 h222).bind fun v223 h224 =>
 ((bif wantVal v223 false then Res.ok v211 h224 else Res.ok undef h224)).bind fun v225 h226 =>
 ((bif wantVal v223 false then unR .not v225 h226 else Res.ok undef h226)).bind fun v227 h228 =>
 (condV (some v223) (Res.ok (.bool true) h228) (Res.ok v227 h228)).bind fun v229 h230 =>
 ((bif wantVal v229 false then Res.ok v221 h230 else Res.ok undef h230)).bind fun v231 h232 =>
 ((bif wantVal v229 false then unR .not v231 h232 else Res.ok undef h232)).bind fun v233 h234 =>
 (condV (some v229) (Res.ok (.bool true) h234) (Res.ok v233 h234)).bind fun v235 h236 =>
 condV (some v235) (
 (loadR Prog 164 a8 h236).bind fun v237 h238 =>
 (storeR Prog 164 a6 v237 h238).bind fun _v239 h240 =>
 (loadR Prog 164 a6 h240).bind fun v241 h242 =>
 .ok (.tuple #[v241, (.bool false)]) h242)
 (
 (fieldAddrR Prog 164 a8 2 h236).bind fun v243 h244 =>
 (loadR Prog 3 v243 h244).bind fun v245 h246 =>
 (call F.swashref06_Read [v199, a2, v245] h246).bind fun v247 h248 =>
 (extractR v247 0 h248).bind fun v249 h250 =>
 (extractR v247 1 h250).bind fun v251 h252 =>
 (fieldAddrR Prog 164 a8 6 h252).bind fun v253 h254 =>
 (storeR Prog 88 v253 v249 h254).bind fun _v255 h256 =>
 (fieldAddrR Prog 164 a8 2 h256).bind fun v257 h258 =>
 (loadR Prog 3 v257 h258).bind fun v259 h260 =>
 (call F.swashref06_Read [v209, a2, v259] h260).bind fun v261 h262 =>
 (extractR v261 0 h262).bind fun v263 h264 =>
 (extractR v261 1 h264).bind fun v265 h266 =>
 (fieldAddrR Prog 164 a8 7 h266).bind fun v267 h268 =>
 (storeR Prog 88 v267 v263 h268).bind fun _v269 h270 =>
 (fieldAddrR Prog 164 a8 5 h270).bind fun v271 h272 =>
 (storeR Prog 65 v271 v219 h272).bind fun _v273 h274 =>
 (loadR Prog 164 a8 h274).bindN fun v275 h276 =>
 ((bif wantVal v251 true then Res.ok v265 h276 else Res.ok undef h276)).bindN fun v277 h278 =>
 (condV (some v251) (Res.ok v277 h278) (Res.ok (.bool false) h278)).bindN fun v279 h280 =>
 ((bif wantVal v279 true then Res.ok v219 h280 else Res.ok undef h280)).bindN fun v281 h282 =>
 ((bif wantVal v279 true then builtinV Prog .len [65] [v281] h282 else Res.ok undef h282)).bindN fun v283 h284 =>
 ((bif wantVal v279 true then fieldAddrR Prog 164 a8 3 h284 else Res.ok undef h284)).bindN fun v285 h286 =>
 ((bif wantVal v279 true then loadR Prog 3 v285 h286 else Res.ok undef h286)).bindN fun v287 h288 =>
 ((bif wantVal v279 true then fieldAddrR Prog 164 a8 6 h288 else Res.ok undef h288)).bindN fun v289 h290 =>
 ((bif wantVal v279 true then loadR Prog 88 v289 h290 else Res.ok undef h290)).bindN fun v291 h292 =>
 ((bif wantVal v279 true then call F.swashref22_most [v291] h292 else Res.ok undef h292)).bindT (fun p295 h296 => ((bif wantVal v279 true then fieldAddrR Prog 164 a8 7 h292 else Res.ok undef h292)).bindN fun v297 h298 => ((bif wantVal v279 true then loadR Prog 88 v297 h298 else Res.ok undef h298)).bindN fun v299 h300 => ((bif wantVal v279 true then fieldAddrR Prog 164 a8 2 h300 else Res.ok undef h300)).bindN fun v301 h302 => ((bif wantVal v279 true then loadR Prog 3 v301 h302 else Res.ok undef h302)).bindN fun v303 h304 => chkR ((okVal ((bif wantVal v279 true then loadR Prog 88 v297 h274 else Res.ok undef h274)) v299 && true) && ((okVal ((bif wantVal v279 true then loadR Prog 3 v301 h274 else Res.ok undef h274)) v303 && true) && true)) (.panic p295 h296)) fun v293 h294 =>
 ((bif wantVal v279 true then fieldAddrR Prog 164 a8 7 h294 else Res.ok undef h294)).bindN fun v305 h306 =>
 ((bif wantVal v279 true then loadR Prog 88 v305 h306 else Res.ok undef h306)).bindN fun v307 h308 =>
 ((bif wantVal v279 true then call F.swashref22_most [v307] h308 else Res.ok undef h308)).bindT (fun p311 h312 => ((bif wantVal v279 true then fieldAddrR Prog 164 a8 2 h308 else Res.ok undef h308)).bindN fun v313 h314 => ((bif wantVal v279 true then loadR Prog 3 v313 h314 else Res.ok undef h314)).bindN fun v315 h316 => chkR ((okVal (loadR Prog 164 a8 h294) v275 && true) && ((okVal ((bif wantVal v279 true then loadR Prog 3 v285 h294 else Res.ok undef h294)) v287 && true) && ((okVal ((bif wantVal v279 true then loadR Prog 88 v305 h274 else Res.ok undef h274)) v307 && true) && ((okVal ((bif wantVal v279 true then loadR Prog 3 v313 h274 else Res.ok undef h274)) v315 && (okVal ((bif wantVal v279 true then loadR Prog 3 v313 h294 else Res.ok undef h294)) v315 && true)) && true)))) (.panic p311 h312)) fun v309 h310 =>
 ((bif wantVal v279 true then binR Prog .add 3 v293 v309 h310 else Res.ok undef h310)).bindN fun v317 h318 =>
 ((bif wantVal v279 true then binR Prog .mul 3 v287 v317 h318 else Res.ok undef h318)).bindN fun v319 h320 =>
 ((bif wantVal v279 true then fieldAddrR Prog 164 a8 2 h320 else Res.ok undef h320)).bindN fun v321 h322 =>
 ((bif wantVal v279 true then loadR Prog 3 v321 h322 else Res.ok undef h322)).bindN fun v323 h324 =>
 ((bif wantVal v279 true then call F.swashref01_In [v283, v319, v323] h324 else Res.ok undef h324)).bindT (fun p327 h328 => chkR ((okVal (loadR Prog 164 a8 h294) v275 && (okVal (loadR Prog 164 a8 h310) v275 && true)) && ((okVal ((bif wantVal v279 true then loadR Prog 3 v285 h294 else Res.ok undef h294)) v287 && (okVal ((bif wantVal v279 true then loadR Prog 3 v285 h310 else Res.ok undef h310)) v287 && true)) && ((okVal ((bif wantVal v279 true then loadR Prog 88 v305 h274 else Res.ok undef h274)) v307 && true) && ((okVal ((bif wantVal v279 true then loadR Prog 3 v321 h274 else Res.ok undef h274)) v323 && (okVal ((bif wantVal v279 true then loadR Prog 3 v321 h294 else Res.ok undef h294)) v323 && true)) && true)))) (.panic p327 h328)) fun v325 h326 =>
 (condV (some v279) (Res.ok v325 h326) (Res.ok (.bool false) h326)).bindN fun v329 h330 =>
 (storeR Prog 164 a6 v275 h330).bindN fun _v331 h332 =>
 chkR ((okVal (loadR Prog 164 a8 h294) v275 && (okVal (loadR Prog 164 a8 h310) v275 && (okVal (loadR Prog 164 a8 h326) v275 && true))) && ((okVal ((bif wantVal v279 true then loadR Prog 3 v285 h294 else Res.ok undef h294)) v287 && (okVal ((bif wantVal v279 true then loadR Prog 3 v285 h310 else Res.ok undef h310)) v287 && true)) && ((okVal ((bif wantVal v279 true then loadR Prog 88 v305 h274 else Res.ok undef h274)) v307 && true) && ((okVal ((bif wantVal v279 true then loadR Prog 3 v321 h274 else Res.ok undef h274)) v323 && (okVal ((bif wantVal v279 true then loadR Prog 3 v321 h294 else Res.ok undef h294)) v323 && true)) && true)))) (
 (loadR Prog 164 a6 h332).bind fun v333 h334 =>
 .ok (.tuple #[v333, v329]) h334)) := by kernel_rfl
theorem swashref22_Read_j3_eq (k : Nat) (call : Caller) (a1 a2 a6 a8 a11 a56 : Value) (h : Heap) : swashref22_Read_j3 k call a1 a2 a6 a8 a11 a56 h =
 (call F.swashref01_U [a1, a11, (.int .i64 4)] h).bind fun v335 h336 =>
 (call F.swashref01_From [a1, v335] h336).bind fun v337 h338 =>
 (extractR v337 0 h338).bind fun v339 h340 =>
 (extractR v337 1 h340).bind fun v341 h342 =>
 (binR Prog .add 3 a11 (.int .i64 4) h342).bind fun v343 h344 =>
 (call F.swashref01_U [a1, v343, (.int .i64 4)] h344).bind fun v345 h346 =>
 (call F.swashref01_From [a1, v345] h346).bind fun v347 h348 =>
 (extractR v347 0 h348).bind fun v349 h350 =>
 (extractR v347 1 h350).bind fun v351 h352 =>
 (binR Prog .add 3 a11 (.int .i64 8) h352).bind fun v353 h354 =>
 (call F.swashref01_U [a1, v353, (.int .i64 4)] h354).bind fun v355 h356 =>
 (call F.swashref01_From [a1, v355] h356).bind fun v357 h358 =>
 (extractR v357 0 h358).bind fun v359 h360 =>
 (extractR v357 1 h360).bind fun v361 h362 =>
 (unR .not v341 h362).bind fun v363 h364 =>
 ((bif wantVal v363 false then Res.ok v351 h364 else Res.ok undef h364)).bind fun v365 h366 =>
 ((bif wantVal v363 false then unR .not v365 h366 else Res.ok undef h366)).bind fun v367 h368 =>
 (condV (some v363) (Res.ok (.bool true) h368) (Res.ok v367 h368)).bind fun v369 h370 =>
 ((bif wantVal v369 false then Res.ok v361 h370 else Res.ok undef h370)).bind fun v371 h372 =>
 ((bif wantVal v369 false then unR .not v371 h372 else Res.ok undef h372)).bind fun v373 h374 =>
 (condV (some v369) (Res.ok (.bool true) h374) (Res.ok v373 h374)).bind fun v375 h376 =>
 condV (some v375) (
 (loadR Prog 164 a8 h376).bind fun v377 h378 =>
 (storeR Prog 164 a6 v377 h378).bind fun _v379 h380 =>
 (loadR Prog 164 a6 h380).bind fun v381 h382 =>
 .ok (.tuple #[v381, (.bool false)]) h382)
 (
 (fieldAddrR Prog 164 a8 2 h376).bind fun v383 h384 =>
 (loadR Prog 3 v383 h384).bind fun v385 h386 =>
 (call F.swashref06_Read [v339, a2, v385] h386).bind fun v387 h388 =>
 (extractR v387 0 h388).bind fun v389 h390 =>
 (extractR v387 1 h390).bind fun v391 h392 =>
 (fieldAddrR Prog 164 a8 6 h392).bind fun v393 h394 =>
 (storeR Prog 88 v393 v389 h394).bind fun _v395 h396 =>
 (fieldAddrR Prog 164 a8 2 h396).bind fun v397 h398 =>
 (loadR Prog 3 v397 h398).bind fun v399 h400 =>
 (call F.swashref06_Read [v349, a2, v399] h400).bind fun v401 h402 =>
 (extractR v401 0 h402).bind fun v403 h404 =>
 (extractR v401 1 h404).bind fun v405 h406 =>
 (fieldAddrR Prog 164 a8 7 h406).bind fun v407 h408 =>
 (storeR Prog 88 v407 v403 h408).bind fun _v409 h410 =>
 (fieldAddrR Prog 164 a8 5 h410).bind fun v411 h412 =>
 (storeR Prog 65 v411 v359 h412).bind fun _v413 h414 =>
 (loadR Prog 164 a8 h414).bindN fun v415 h416 =>
 ((bif wantVal v391 true then Res.ok v405 h416 else Res.ok undef h416)).bindN fun v417 h418 =>
 (condV (some v391) (Res.ok v417 h418) (Res.ok (.bool false) h418)).bindN fun v419 h420 =>
 ((bif wantVal v419 true then Res.ok v359 h420 else Res.ok undef h420)).bindN fun v421 h422 =>
 ((bif wantVal v419 true then builtinV Prog .len [65] [v421] h422 else Res.ok undef h422)).bindN fun v423 h424 =>
 ((bif wantVal v419 true then fieldAddrR Prog 164 a8 3 h424 else Res.ok undef h424)).bindN fun v425 h426 =>
 ((bif wantVal v419 true then loadR Prog 3 v425 h426 else Res.ok undef h426)).bindN fun v427 h428 =>
 ((bif wantVal v419 true then fieldAddrR Prog 164 a8 6 h428 else Res.ok undef h428)).bindN fun v429 h430 =>
 ((bif wantVal v419 true then loadR Prog 88 v429 h430 else Res.ok undef h430)).bindN fun v431 h432 =>
 ((bif wantVal v419 true then call F.swashref22_most [v431] h432 else Res.ok undef h432)).bindT (fun p435 h436 => ((bif wantVal v419 true then fieldAddrR Prog 164 a8 7 h432 else Res.ok undef h432)).bindN fun v437 h438 => ((bif wantVal v419 true then loadR Prog 88 v437 h438 else Res.ok undef h438)).bindN fun v439 h440 => ((bif wantVal v419 true then fieldAddrR Prog 164 a8 2 h440 else Res.ok undef h440)).bindN fun v441 h442 => ((bif wantVal v419 true then loadR Prog 3 v441 h442 else Res.ok undef h442)).bindN fun v443 h444 => chkR ((okVal ((bif wantVal v419 true then loadR Prog 88 v437 h414 else Res.ok undef h414)) v439 && true) && ((okVal ((bif wantVal v419 true then loadR Prog 3 v441 h414 else Res.ok undef h414)) v443 && true) && true)) (.panic p435 h436)) fun v433 h434 =>
 ((bif wantVal v419 true then fieldAddrR Prog 164 a8 7 h434 else Res.ok undef h434)).bindN fun v445 h446 =>
 ((bif wantVal v419 true then loadR Prog 88 v445 h446 else Res.ok undef h446)).bindN fun v447 h448 =>
 ((bif wantVal v419 true then call F.swashref22_most [v447] h448 else Res.ok undef h448)).bindT (fun p451 h452 => ((bif wantVal v419 true then fieldAddrR Prog 164 a8 2 h448 else Res.ok undef h448)).bindN fun v453 h454 => ((bif wantVal v419 true then loadR Prog 3 v453 h454 else Res.ok undef h454)).bindN fun v455 h456 => chkR ((okVal (loadR Prog 164 a8 h434) v415 && true) && ((okVal ((bif wantVal v419 true then loadR Prog 3 v425 h434 else Res.ok undef h434)) v427 && true) && ((okVal ((bif wantVal v419 true then loadR Prog 88 v445 h414 else Res.ok undef h414)) v447 && true) && ((okVal ((bif wantVal v419 true then loadR Prog 3 v453 h414 else Res.ok undef h414)) v455 && (okVal ((bif wantVal v419 true then loadR Prog 3 v453 h434 else Res.ok undef h434)) v455 && true)) && true)))) (.panic p451 h452)) fun v449 h450 =>
 ((bif wantVal v419 true then binR Prog .add 3 v433 v449 h450 else Res.ok undef h450)).bindN fun v457 h458 =>
 ((bif wantVal v419 true then binR Prog .mul 3 v427 v457 h458 else Res.ok undef h458)).bindN fun v459 h460 =>
 ((bif wantVal v419 true then fieldAddrR Prog 164 a8 2 h460 else Res.ok undef h460)).bindN fun v461 h462 =>
 ((bif wantVal v419 true then loadR Prog 3 v461 h462 else Res.ok undef h462)).bindN fun v463 h464 =>
 ((bif wantVal v419 true then call F.swashref01_In [v423, v459, v463] h464 else Res.ok undef h464)).bindT (fun p467 h468 => chkR ((okVal (loadR Prog 164 a8 h434) v415 && (okVal (loadR Prog 164 a8 h450) v415 && true)) && ((okVal ((bif wantVal v419 true then loadR Prog 3 v425 h434 else Res.ok undef h434)) v427 && (okVal ((bif wantVal v419 true then loadR Prog 3 v425 h450 else Res.ok undef h450)) v427 && true)) && ((okVal ((bif wantVal v419 true then loadR Prog 88 v445 h414 else Res.ok undef h414)) v447 && true) && ((okVal ((bif wantVal v419 true then loadR Prog 3 v461 h414 else Res.ok undef h414)) v463 && (okVal ((bif wantVal v419 true then loadR Prog 3 v461 h434 else Res.ok undef h434)) v463 && true)) && true)))) (.panic p467 h468)) fun v465 h466 =>
 (condV (some v419) (Res.ok v465 h466) (Res.ok (.bool false) h466)).bindN fun v469 h470 =>
 (storeR Prog 164 a6 v415 h470).bindN fun _v471 h472 =>
 chkR ((okVal (loadR Prog 164 a8 h434) v415 && (okVal (loadR Prog 164 a8 h450) v415 && (okVal (loadR Prog 164 a8 h466) v415 && true))) && ((okVal ((bif wantVal v419 true then loadR Prog 3 v425 h434 else Res.ok undef h434)) v427 && (okVal ((bif wantVal v419 true then loadR Prog 3 v425 h450 else Res.ok undef h450)) v427 && true)) && ((okVal ((bif wantVal v419 true then loadR Prog 88 v445 h414 else Res.ok undef h414)) v447 && true) && ((okVal ((bif wantVal v419 true then loadR Prog 3 v461 h414 else Res.ok undef h414)) v463 && (okVal ((bif wantVal v419 true then loadR Prog 3 v461 h434 else Res.ok undef h434)) v463 && true)) && true)))) (
 (loadR Prog 164 a6 h472).bind fun v473 h474 =>
 .ok (.tuple #[v473, v469]) h474)) := by kernel_rfl
theorem swashref22_Read_l1_eq (k : Nat) (call : Caller) (a1 a6 a8 a9 a10 : Value) (h : Heap) : swashref22_Read_l1 k call [(1, a1), (6, a6), (8, a8), (9, a9), (10, a10)] h =
 (fieldAddrR Prog 164 a8 1 h).bind fun v475 h476 =>
 (loadR Prog 3 v475 h476).bind fun v477 h478 =>
 (binR Prog .lss 3 a10 v477 h478).bind fun v479 h480 =>
 ((bif wantVal v479 true then Res.ok a9 h480 else Res.ok undef h480)).bind fun v481 h482 =>
 (condV (some v479) (Res.ok v481 h482) (Res.ok (.bool false) h482)).bind fun v483 h484 =>
 condV (some v483) (
 (binR Prog .sub 3 a10 (.int .i64 1) h484).bind fun v485 h486 =>
 (binR Prog .mul 3 (.int .i64 6) v485 h486).bind fun v487 h488 =>
 (binR Prog .add 3 (.int .i64 16) v487 h488).bind fun v489 h490 =>
 (call F.swashref01_U [a1, v489, (.int .i64 4)] h490).bind fun v491 h492 =>
 (binR Prog .mul 3 (.int .i64 6) a10 h492).bind fun v493 h494 =>
 (binR Prog .add 3 (.int .i64 16) v493 h494).bind fun v495 h496 =>
 (call F.swashref01_U [a1, v495, (.int .i64 4)] h496).bind fun v497 h498 =>
 (binR Prog .lss 3 v491 v497 h498).bind fun v499 h500 =>
 (binR Prog .add 3 a10 (.int .i64 1) h500).bind fun v501 h502 =>
 .ok (.normal, [(1, a1), (6, a6), (8, a8), (9, v499), (10, v501)]) h502)
 (
 .ok ((.exit 0), [(1, a1), (6, a6), (8, a8), (9, a9), (10, a10), (38, v483)]) h484) :=
 (loopB_eq _ _).trans (by kernel_rfl)
theorem swashref22_Read_l1k_x0 (k : Nat) (call : Caller) (a1 a6 a8 a9 a10 a38 : Value) (h : Heap) : swashref22_Read_l1k k call (.exit 0) [(1, a1), (6, a6), (8, a8), (9, a9), (10, a10), (38, a38)] h =
 (loadR Prog 164 a8 h).bind fun v503 h504 =>
 (storeR Prog 164 a6 v503 h504).bind fun _v505 h506 =>
 (loadR Prog 164 a6 h506).bind fun v507 h508 =>
 .ok (.tuple #[v507, a9]) h508 := by kernel_rfl
def swashref22_Get_l1 (k : Nat) (call : Caller) : Env → Heap → Res (AExit × Env) := loopB (C k) call F.swashref22_Get [1, 0, 1, 0, 0, 1, 0, 0]
def swashref22_Get_l1k (k : Nat) (call : Caller) : Kont Value := kBlock 0 (kSeq (pieceK (C k) call F.swashref22_Get [1, 0, 1, 0, 1]) (kSeq (pieceK (C k) call F.swashref22_Get [1, 1]) (kDone Prog (resOf Prog F.swashref22_Get))))
def swashref22_Get (k : Nat) (call : Caller) (a0 a1 a2 : Value) (h : Heap) : Res Value :=
 (boxR a0 h).bind fun v1 h2 =>
 (fieldAddrR Prog 164 v1 0 h2).bind fun v3 h4 =>
 (loadR Prog 3 v3 h4).bind fun v5 h6 =>
 (binR Prog .eql 3 v5 (.int .i64 0) h6).bind fun v7 h8 =>
 condV (some v7) (
 (loopN (swashref22_Get_l1 k call) loopFuel [(1, a1), (2, a2), (3, v1), (7, (.int .i64 0))] h8).bind fun r9 h10 =>
 swashref22_Get_l1k k call r9.1 r9.2 h10)
 (
 (fieldAddrR Prog 164 v1 6 h8).bind fun v11 h12 =>
 (loadR Prog 88 v11 h12).bind fun v13 h14 =>
 (call F.swashref06_Get [v13, a1] h14).bind fun v15 h16 =>
 (extractR v15 0 h16).bind fun v17 h18 =>
 (extractR v15 1 h18).bind fun v19 h20 =>
 (fieldAddrR Prog 164 v1 7 h20).bind fun v21 h22 =>
 (loadR Prog 88 v21 h22).bind fun v23 h24 =>
 (call F.swashref06_Get [v23, a2] h24).bind fun v25 h26 =>
 (extractR v25 0 h26).bind fun v27 h28 =>
 (extractR v25 1 h28).bind fun v29 h30 =>
 (fieldAddrR Prog 164 v1 5 h30).bind fun v31 h32 =>
 (loadR Prog 65 v31 h32).bind fun v33 h34 =>
 (fieldAddrR Prog 164 v1 3 h34).bind fun v35 h36 =>
 (loadR Prog 3 v35 h36).bind fun v37 h38 =>
 (binR Prog .add 3 v17 v27 h38).bind fun v39 h40 =>
 (binR Prog .mul 3 v37 v39 h40).bind fun v41 h42 =>
 (fieldAddrR Prog 164 v1 2 h42).bind fun v43 h44 =>
 (loadR Prog 3 v43 h44).bind fun v45 h46 =>
 (call F.swashref22_signed [v33, v41, v45] h46).bind fun v47 h48 =>
 .ok v47 h48)
theorem swashref22_Get_R (k : Nat) (a0 a1 a2 : Value) (h : Heap) : R (T k) F.swashref22_Get [a0, a1, a2] h = nrm .gc h (swashref22_Get k (R (T k)) a0 a1 a2 h) :=
 (R_body (t := T k) (T_scott k) (by kernel_rfl) (by kernel_rfl) _ _).trans (by kernel_rfl)
theorem swashref22_Get_l1_eq (k : Nat) (call : Caller) (a1 a2 a3 a7 : Value) (h : Heap) : swashref22_Get_l1 k call [(1, a1), (2, a2), (3, a3), (7, a7)] h =
 (fieldAddrR Prog 164 a3 1 h).bind fun v49 h50 =>
 (loadR Prog 3 v49 h50).bind fun v51 h52 =>
 (binR Prog .lss 3 a7 v51 h52).bind fun v53 h54 =>
 condV (some v53) (
 (fieldAddrR Prog 164 a3 4 h54).bind fun v55 h56 =>
 (loadR Prog 65 v55 h56).bind fun v57 h58 =>
 (binR Prog .mul 3 (.int .i64 6) a7 h58).bind fun v59 h60 =>
 (binR Prog .add 3 (.int .i64 16) v59 h60).bind fun v61 h62 =>
 (call F.swashref01_U [v57, v61, (.int .i64 2)] h62).bind fun v63 h64 =>
 (binR Prog .eql 3 v63 a1 h64).bind fun v65 h66 =>
 ((bif wantVal v65 true then fieldAddrR Prog 164 a3 4 h66 else Res.ok undef h66)).bind fun v67 h68 =>
 ((bif wantVal v65 true then loadR Prog 65 v67 h68 else Res.ok undef h68)).bind fun v69 h70 =>
 ((bif wantVal v65 true then Res.ok a7 h70 else Res.ok undef h70)).bind fun v71 h72 =>
 ((bif wantVal v65 true then binR Prog .mul 3 (.int .i64 6) v71 h72 else Res.ok undef h72)).bind fun v73 h74 =>
 ((bif wantVal v65 true then binR Prog .add 3 (.int .i64 18) v73 h74 else Res.ok undef h74)).bind fun v75 h76 =>
 ((bif wantVal v65 true then call F.swashref01_U [v69, v75, (.int .i64 2)] h76 else Res.ok undef h76)).bind fun v77 h78 =>
 ((bif wantVal v65 true then Res.ok a2 h78 else Res.ok undef h78)).bind fun v79 h80 =>
 ((bif wantVal v65 true then binR Prog .eql 3 v77 v79 h80 else Res.ok undef h80)).bind fun v81 h82 =>
 (condV (some v65) (Res.ok v81 h82) (Res.ok (.bool false) h82)).bind fun v83 h84 =>
 condV (some v83) (
 (fieldAddrR Prog 164 a3 4 h84).bind fun v85 h86 =>
 (loadR Prog 65 v85 h86).bind fun v87 h88 =>
 (binR Prog .mul 3 (.int .i64 6) a7 h88).bind fun v89 h90 =>
 (binR Prog .add 3 (.int .i64 20) v89 h90).bind fun v91 h92 =>
 (call F.swashref22_signed [v87, v91, (.int .i64 2)] h92).bind fun v93 h94 =>
 .ok (.ret, [(6, v93)]) h94)
 (
 (binR Prog .add 3 a7 (.int .i64 1) h84).bind fun v95 h96 =>
 .ok (.normal, [(1, a1), (2, a2), (3, a3), (7, v95)]) h96))
 (
 .ok ((.exit 0), [(1, a1), (2, a2), (3, a3), (7, a7), (18, v53)]) h54) :=
 (loopB_eq _ _).trans (by kernel_rfl)
theorem swashref22_Get_l1k_r (k : Nat) (call : Caller) (a6 : Value) (h : Heap) : swashref22_Get_l1k k call .ret [(6, a6)] h =
 .ok a6 h := by kernel_rfl
theorem swashref22_Get_l1k_x0 (k : Nat) (call : Caller) (a1 a2 a3 a7 a18 : Value) (h : Heap) : swashref22_Get_l1k k call (.exit 0) [(1, a1), (2, a2), (3, a3), (7, a7), (18, a18)] h =
 .ok (.int .i64 0) h := by kernel_rfl
def swashref22_most_l1 (k : Nat) (call : Caller) : Env → Heap → Res (AExit × Env) := loopB (C k) call F.swashref22_most [1, 1, 0, 1, 0, 0]
def swashref22_most_l1k (k : Nat) (call : Caller) : Kont Value := kBlock 0 (kSeq (pieceK (C k) call F.swashref22_most [1, 1, 1]) (kDone Prog (resOf Prog F.swashref22_most)))
def swashref22_most_l2 (k : Nat) (call : Caller) : Env → Heap → Res (AExit × Env) := loopB (C k) call F.swashref22_most [1, 1, 0, 1, 0, 0, 1, 0, 0, 1, 1, 0, 0]
def swashref22_most_l2k (k : Nat) (call : Caller) : Kont (AExit × Env) := kBlock 2 (kBlock 1 (kSeq (pieceK (C k) call F.swashref22_most [1, 1, 0, 1, 0, 0, 1, 1]) (kRound (ownOf (C k) F.swashref22_most [1, 1, 0, 1, 0, 0]))))
def swashref22_most_j1 (k : Nat) (call : Caller) (a1 a3 a4 a5 a6 : Value) (h : Heap) : Res (AExit × Env) :=
 kSeq (pieceK (C k) call F.swashref22_most [1, 1, 0, 1, 0, 0, 1, 0, 0, 1, 1, 0, 0, 1, 1]) (kRound (ownOf (C k) F.swashref22_most [1, 1, 0, 1, 0, 0, 1, 0, 0, 1, 1, 0, 0])) .normal [(1, a1), (3, a3), (4, a4), (5, a5), (6, a6)] h
def swashref22_most_j2 (k : Nat) (call : Caller) (a1 a3 a4 a5 a6 a40 : Value) (h : Heap) : Res (AExit × Env) :=
 kSeq (pieceK (C k) call F.swashref22_most [1, 1, 0, 1, 0, 0, 1, 0, 0, 1, 1, 0, 0, 1, 1]) (kRound (ownOf (C k) F.swashref22_most [1, 1, 0, 1, 0, 0, 1, 0, 0, 1, 1, 0, 0])) .normal [(1, a1), (3, a3), (4, a4), (5, a5), (6, a6), (40, a40)] h
def swashref22_most (k : Nat) (call : Caller) (a0 : Value) (h : Heap) : Res Value :=
 (boxR a0 h).bind fun v1 h2 =>
 (loopN (swashref22_most_l1 k call) loopFuel [(1, v1), (3, (.int .i64 0)), (4, (.int .i64 0))] h2).bind fun r3 h4 =>
 swashref22_most_l1k k call r3.1 r3.2 h4
theorem swashref22_most_R (k : Nat) (a0 : Value) (h : Heap) : R (T k) F.swashref22_most [a0] h = nrm .gc h (swashref22_most k (R (T k)) a0 h) :=
 (R_body (t := T k) (T_scott k) (by kernel_rfl) (by kernel_rfl) _ _).trans (by kernel_rfl)
theorem swashref22_most_l1_eq (k : Nat) (call : Caller) (a1 a3 a4 : Value) (h : Heap) : swashref22_most_l1 k call [(1, a1), (3, a3), (4, a4)] h =
 (fieldAddrR Prog 88 a1 1 h).bind fun v5 h6 =>
 (loadR Prog 86 v5 h6).bind fun v7 h8 =>
 (builtinV Prog .len [86] [v7] h8).bind fun v9 h10 =>
 (binR Prog .lss 3 a4 v9 h10).bind fun v11 h12 =>
 condV (some v11) (
 (fieldAddrR Prog 88 a1 1 h12).bind fun v13 h14 =>
 (loadR Prog 86 v13 h14).bind fun v15 h16 =>
 (indexAddrR Prog 86 v15 a4 h16).bind fun v17 h18 =>
 (loadR Prog 244 v17 h18).bind fun v19 h20 =>
 (allocR Prog 244 h20).bind fun v21 h22 =>
 (storeR Prog 244 v21 v19 h22).bind fun _v23 h24 =>
 (fieldAddrR Prog 244 v21 0 h24).bind fun v25 h26 =>
 (loadR Prog 3 v25 h26).bind fun v27 h28 =>
 (loopN (swashref22_most_l2 k call) loopFuel [(1, a1), (3, a3), (4, a4), (5, v21), (6, v27)] h28).bind fun r29 h30 =>
 swashref22_most_l2k k call r29.1 r29.2 h30)
 (
 .ok ((.exit 0), [(1, a1), (3, a3), (4, a4), (13, v11)]) h12) :=
 (loopB_eq _ _).trans (by kernel_rfl)
theorem swashref22_most_l2_eq (k : Nat) (call : Caller) (a1 a3 a4 a5 a6 : Value) (h : Heap) : swashref22_most_l2 k call [(1, a1), (3, a3), (4, a4), (5, a5), (6, a6)] h =
 (fieldAddrR Prog 244 a5 1 h).bind fun v31 h32 =>
 (loadR Prog 3 v31 h32).bind fun v33 h34 =>
 (binR Prog .leq 3 a6 v33 h34).bind fun v35 h36 =>
 condV (some v35) (
 (loadR Prog 88 a1 h36).bind fun v37 h38 =>
 (call F.swashref06_Get [v37, a6] h38).bind fun v39 h40 =>
 (extractR v39 0 h40).bind fun v41 h42 =>
 (extractR v39 1 h42).bind fun v43 h44 =>
 (builtinV Prog .max [3, 3] [a3, v41] h44).bind fun v45 h46 =>
 (fieldAddrR Prog 244 a5 4 h46).bind fun v47 h48 =>
 (loadR Prog 3 v47 h48).bind fun v49 h50 =>
 (binR Prog .eql 3 v49 (.int .i64 0) h50).bind fun v51 h52 =>
 condV (some v51) (
 (fieldAddrR Prog 244 a5 1 h52).bind fun v53 h54 =>
 (loadR Prog 3 v53 h54).bind fun v55 h56 =>
 swashref22_most_j1 k call a1 v45 a4 a5 v55 h56)
 (
 swashref22_most_j2 k call a1 v45 a4 a5 a6 v51 h52))
 (
 .ok ((.exit 2), [(1, a1), (3, a3), (4, a4), (5, a5), (6, a6), (26, v35)]) h36) :=
 (loopB_eq _ _).trans (by kernel_rfl)
theorem swashref22_most_j1_eq (k : Nat) (call : Caller) (a1 a3 a4 a5 a6 : Value) (h : Heap) : swashref22_most_j1 k call a1 a3 a4 a5 a6 h =
 (binR Prog .add 3 a6 (.int .i64 1) h).bind fun v57 h58 =>
 .ok (.normal, [(1, a1), (3, a3), (4, a4), (5, a5), (6, v57)]) h58 := by kernel_rfl
theorem swashref22_most_j2_eq (k : Nat) (call : Caller) (a1 a3 a4 a5 a6 a40 : Value) (h : Heap) : swashref22_most_j2 k call a1 a3 a4 a5 a6 a40 h =
 (binR Prog .add 3 a6 (.int .i64 1) h).bind fun v59 h60 =>
 .ok (.normal, [(1, a1), (3, a3), (4, a4), (5, a5), (6, v59)]) h60 := by kernel_rfl
theorem swashref22_most_l1k_x0 (k : Nat) (call : Caller) (a1 a3 a4 a13 : Value) (h : Heap) : swashref22_most_l1k k call (.exit 0) [(1, a1), (3, a3), (4, a4), (13, a13)] h =
 .ok a3 h := by kernel_rfl
theorem swashref22_most_l2k_x2 (k : Nat) (call : Caller) (a1 a3 a4 a5 a6 a26 : Value) (h : Heap) : swashref22_most_l2k k call (.exit 2) [(1, a1), (3, a3), (4, a4), (5, a5), (6, a6), (26, a26)] h =
 (binR Prog .add 3 a4 (.int .i64 1) h).bind fun v61 h62 =>
 .ok (.normal, [(1, a1), (3, a3), (4, v61)]) h62 := by kernel_rfl
def swashref22_signed (k : Nat) (call : Caller) (a0 a1 a2 : Value) (h : Heap) : Res Value :=
 (binR Prog .eql 3 a2 (.int .i64 4) h).bind fun v1 h2 =>
 condV (some v1) (
 (call F.swashref01_U [a0, a1, (.int .i64 4)] h2).bind fun v3 h4 =>
 (call F.swashref01_S32 [v3] h4).bind fun v5 h6 =>
 .ok v5 h6)
 (
 (call F.swashref01_U [a0, a1, (.int .i64 2)] h2).bind fun v7 h8 =>
 (call F.swashref01_S16 [v7] h8).bind fun v9 h10 =>
 .ok v9 h10)
theorem swashref22_signed_R (k : Nat) (a0 a1 a2 : Value) (h : Heap) : R (T k) F.swashref22_signed [a0, a1, a2] h = nrm .gc h (swashref22_signed k (R (T k)) a0 a1 a2 h) :=
 (R_body (t := T k) (T_scott k) (by kernel_rfl) (by kernel_rfl) _ _).trans (by kernel_rfl)
end
end Go.Sw
end
section
namespace Go.Sw
open Go.RowKit
theorem getS_at : ∀ {ps : List Pt}, risesS ps = true → (∀ p, p ∈ ps → p.ok) → ∀ {j : Nat} {p : Pt} {id : Int}, ps[j]? = some p → p.first ≤ id → id ≤ p.last → getS ps id = p.num id
 | [], _, _, j, p, id, h, _, _ => by simp at h
 | q :: ps, hr, hok, 0, p, id, h, h1, h2 => by
  simp at h
  subst h
  unfold getS
  rw [List.find?_cons, decide_eq_true h2]
  exact if_pos h1
 | q :: ps, hr, hok, j + 1, p, id, h, h1, h2 => by
  have hlt := risesS_get hr hok 0 (j + 1) q p (by omega) (by simp) h
  have hrs : risesS ps = true := by
   cases ps with
   | nil => rfl
   | cons q l => simp only [risesS, Bool.and_eq_true] at hr; exact hr.2
  have ih := getS_at hrs (fun x hx => hok x (by simp [hx])) (by simpa using h) h1 h2
  unfold getS at ih ⊢
  rw [List.find?_cons, decide_eq_false (by omega)]
  exact ih
theorem Rel.get {b : List Int} : ∀ {ps : List Pt} {rs : List RP}, Rel b ps rs → ps.length = rs.length ∧ ∀ {j : Nat} {p r}, ps[j]? = some p → rs[j]? = some r → PR b p r
 | [], [], _ => ⟨rfl, fun h => by simp at h⟩
 | [], _ :: _, h => by cases h
 | _ :: _, [], h => by cases h
 | p :: ps, r :: rs, h => by
  have ih := Rel.get h.2
  refine ⟨by simp [ih.1], fun {j p' r'} hp hr => ?_⟩
  cases j with
  | zero => simp at hp hr; subst hp hr; exact h.1
  | succ j => exact ih.2 (by simpa using hp) (by simpa using hr)
theorem foldl_max (c : Int) : ∀ (l : List Int) (m : Int), l.foldl max (max m c) = max (l.foldl max m) c
 | [], m => rfl
 | x :: l, m => by
  simp only [List.foldl_cons]
  rw [show max (max m c) x = max (max m x) c by omega]
  exact foldl_max c l (max m x)
def bestS (ps : List Pt) (m : Int) : Int := ps.foldl (fun m p => p.vals.foldl max m) m
theorem bestS_max (c : Int) : ∀ (ps : List Pt) (m : Int), bestS ps (max m c) = max (bestS ps m) c
 | [], m => rfl
 | p :: ps, m => by
  unfold bestS
  simp only [List.foldl_cons]
  rw [foldl_max]
  exact bestS_max c ps _
theorem bestS_most (ps : List Pt) : bestS ps 0 = max (mostS ps) 0 := by
 have := bestS_max 0 ps (-1)
 rw [show max (-1 : Int) 0 = 0 by decide] at this
 exact this
theorem bestS_snoc (ps : List Pt) (p : Pt) (m : Int) : bestS (ps ++ [p]) m = p.vals.foldl max (bestS ps m) := by simp [bestS]
theorem fold_bound : ∀ (l : List Int) (m : Int), 0 ≤ m → m < 4294967296 → (∀ x, x ∈ l → 0 ≤ x ∧ x < 4294967296) → 0 ≤ l.foldl max m ∧ l.foldl max m < 4294967296
 | [], m, h0, h1, _ => ⟨h0, h1⟩
 | x :: l, m, h0, h1, h => by
  have := h x (by simp)
  exact fold_bound l (max m x) (by omega) (by omega) fun y hy => h y (by simp [hy])
theorem bestS_bound : ∀ (ps : List Pt) (m : Int), 0 ≤ m → m < 4294967296 → (∀ p, p ∈ ps → p.ok) → 0 ≤ bestS ps m ∧ bestS ps m < 4294967296
 | [], m, h0, h1, _ => ⟨h0, h1⟩
 | p :: ps, m, h0, h1, h => by
  have := fold_bound p.vals m h0 h1 (h p (by simp)).2.2.2.2.2
  exact bestS_bound ps _ this.1 this.2 fun q hq => h q (by simp [hq])
set_option maxHeartbeats 1000000 in
theorem most22_l2 (k : Nat) (b : List Int) (hb : Byt b) (ps : List Pt) (rs : List RP) (hrel : Rel b ps rs) (hok : ∀ p, p ∈ ps → p.ok) (hup : risesS ps = true) (hrok : ∀ r, r ∈ rs → r.ok) (hrl : rs.length < 2 ^ 31) (hl : b.length < 2 ^ 31)
  {H : Heap} (q1 q2 : Nat) (h1 : H.get q1 = some ⟨[lv encB b, lv encRP rs], 1, false⟩) {j : Nat} {p : Pt} {r : RP} (hp : ps[j]? = some p) (hr : rs[j]? = some r) (h2 : H.get q2 = some ⟨encRP r, 1, false⟩) (m : Int) (hm : 0 ≤ m ∧ m < 4294967296) (a4 : Value) :
  ∃ z, loopN (swashref22_most_l2 k (R (T k))) loopFuel [(1, ptrV q1), (3, .int .i64 m), (4, a4), (5, ptrV q2), (6, .int .i64 r.first)] H =
   .ok (.exit 2, [(1, ptrV q1), (3, .int .i64 (p.vals.foldl max m)), (4, a4), (5, ptrV q2), (6, z), (26, .bool false)]) H := by
 obtain ⟨e1, e2, e3, e4⟩ := hrel.get.2 hp hr
 have po := hok p (List.mem_of_getElem? hp)
 obtain ⟨o1, o2, o3, o4, o5, o6⟩ := po
 have hget := fun id H' => get06_run k b hb rs hrok hrl hl id H'
 have hne : 0 < p.vals.length := List.length_pos_iff.2 o4
 obtain ⟨x, e', H1, hr1, rfl, ⟨z, rfl⟩, rfl⟩ := loop_up (body := swashref22_most_l2 k (R (T k))) p.vals.length
  (fun i e H' => e = [(1, ptrV q1), (3, .int .i64 ((p.vals.take i).foldl max m)), (4, a4), (5, ptrV q2), (6, .int .i64 (if r.step = 0 ∧ 0 < i then r.last + 1 else r.first + i))] ∧ H' = H)
  (fun x e H' => x = .exit 2 ∧ (∃ z, e = [(1, ptrV q1), (3, .int .i64 (p.vals.foldl max m)), (4, a4), (5, ptrV q2), (6, z), (26, .bool false)]) ∧ H' = H)
  (e0 := [(1, ptrV q1), (3, .int .i64 m), (4, a4), (5, ptrV q2), (6, .int .i64 r.first)]) (H0 := H) ⟨by simp, rfl⟩ (by omega)
  (fun i e H' hi ⟨he, hH⟩ => by
   subst he hH
   obtain ⟨x, hx⟩ : ∃ x, p.vals[i]? = some x := ⟨_, List.getElem?_eq_getElem hi⟩
   have hxb := o6 x (List.mem_of_getElem? hx)
   have hmb := fold_bound (p.vals.take i) m hm.1 hm.2 fun y hy => o6 y (List.mem_of_mem_take hy)
   rw [take_snoc hx, List.foldl_append, List.foldl_cons, List.foldl_nil]
   generalize (p.vals.take i).foldl max m = w at hmb ⊢
   have hmx : (if x > w then x else w) = max w x := by split <;> omega
   have hid : ∀ id, r.first ≤ id → id ≤ r.last → p.num id = some x → refGetS b rs id = some x := fun id a1 a2 a3 => by
    rw [← get_ref hrel hok hup, getS_at hup hok hp (by omega) (by omega), a3]
   refine .inl ⟨_, _, ?_, rfl, rfl⟩
   rw [swashref22_most_l2_eq]
   by_cases hs : r.step = 0
   ·have hv1 : p.vals.length = 1 := by rcases e4 with h | h <;> omega
    obtain rfl : i = 0 := by omega
    have hg : refGetS b rs r.first = some x := hid r.first (by omega) (by omega) (by
     unfold Pt.num
     rw [hv1, show (min (r.first - p.first) (((1 : Nat) : Int) - 1)).toNat = 0 by omega]
     exact hx)
    have hfl : r.first ≤ r.last := by omega
    simp -implicitDefEqProofs (disch := omega) [h1, h2, hs, hget, hg, hfl, hmx, swashref22_most_j1_eq]
   ·have hv1 : (p.vals.length : Int) = r.last - r.first + 1 := by rcases e4 with h | h <;> omega
    have hg : refGetS b rs (r.first + i) = some x := hid (r.first + i) (by omega) (by omega) (by
     unfold Pt.num
     rw [show (min (r.first + i - p.first) ((p.vals.length : Int) - 1)).toNat = i by omega]
     exact hx)
    have hfl : r.first + i ≤ r.last := by omega
    have hs' : (r.step == 0) = false := by simpa using hs
    simp -implicitDefEqProofs (disch := omega) [h1, h2, hs, hs', hget, hg, hfl, hmx, swashref22_most_j2_eq]
    omega)
  (fun e H' ⟨he, hH⟩ => by
   subst he hH
   rw [List.take_length]
   refine ⟨.exit 2, _, _, ?_, by simp, rfl, ⟨.int .i64 (if r.step = 0 ∧ 0 < p.vals.length then r.last + 1 else r.first + p.vals.length), rfl⟩, rfl⟩
   rw [swashref22_most_l2_eq]
   have hnl : ¬ (if r.step = 0 ∧ 0 < p.vals.length then r.last + 1 else r.first + p.vals.length) ≤ r.last := by
    rcases e4 with h | h
    ·rw [if_pos ⟨h.1, hne⟩]; omega
    ·rw [if_neg (fun hc => h.1 hc.1)]; omega
   generalize (if r.step = 0 ∧ 0 < p.vals.length then r.last + 1 else r.first + p.vals.length) = u at hnl ⊢
   simp -implicitDefEqProofs (disch := omega) [h2, hnl])
 exact ⟨z, hr1⟩
set_option maxHeartbeats 1000000 in
theorem most22_run (k : Nat) (b : List Int) (hb : Byt b) (ps : List Pt) (rs : List RP) (hrel : Rel b ps rs) (hok : ∀ p, p ∈ ps → p.ok) (hup : risesS ps = true) (hrok : ∀ r, r ∈ rs → r.ok) (hrl : rs.length < 2 ^ 31) (hl : b.length < 2 ^ 31) (H : Heap) :
  R (T k) F.swashref22_most [tabRV b rs] H = .ok (.int .i64 (max (mostS ps) 0)) H := by
 rw [swashref22_most_R]
 have hx0 : Ext H (H.push ⟨[lv encB b, lv encRP rs], 1, false⟩) := (Ext.refl H).push _
 have hlen := hrel.get.1
 rw [← bestS_most]
 obtain ⟨x, e', H1, hr1, rfl, ⟨z, rfl⟩, hx1⟩ := loop_up (body := swashref22_most_l1 k (R (T k))) rs.length
  (fun j e H' => e = [(1, ptrV H.n), (3, .int .i64 (bestS (ps.take j) 0)), (4, .int .i64 j)] ∧ Ext (H.push ⟨[lv encB b, lv encRP rs], 1, false⟩) H')
  (fun x e H' => x = .exit 0 ∧ (∃ z, e = [(1, ptrV H.n), (3, .int .i64 (bestS ps 0)), (4, z), (13, .bool false)]) ∧ Ext (H.push ⟨[lv encB b, lv encRP rs], 1, false⟩) H')
  (e0 := [(1, ptrV H.n), (3, .int .i64 0), (4, .int .i64 0)]) (H0 := H.push ⟨[lv encB b, lv encRP rs], 1, false⟩) ⟨rfl, Ext.refl _⟩ (by omega)
  (fun j e H' hj ⟨he, hx⟩ => by
   subst he
   have hlt : (j : Int) < rs.length := by omega
   obtain ⟨r, hr⟩ : ∃ r, rs[j]? = some r := ⟨_, List.getElem?_eq_getElem hj⟩
   obtain ⟨p, hp⟩ : ∃ p, ps[j]? = some p := ⟨_, List.getElem?_eq_getElem (by omega)⟩
   have i1 := fun H' => ixS_lvN encRP_len rs .i64 j r hr H'
   have hget : H'.get H.n = some ⟨[lv encB b, lv encRP rs], 1, false⟩ := hx.get (get_push_eq _ _ _ rfl)
   have hne : ¬ H.n = H'.n := by have := Heap.get_lt hget; omega
   have hx2 : Ext H' (H'.push ⟨encRP r, 1, false⟩) := (Ext.refl H').push _
   have hbb := bestS_bound (ps.take j) 0 (by omega) (by omega) fun q hq => hok q (List.mem_of_mem_take hq)
   obtain ⟨z, hz⟩ := most22_l2 k b hb ps rs hrel hok hup hrok hrl hl (H := H'.push ⟨encRP r, 1, false⟩) H.n H'.n (hx2.get hget) hp hr (get_push_eq _ _ _ rfl) (bestS (ps.take j) 0) hbb (.int .i64 j)
   refine .inl ⟨_, H'.push ⟨encRP r, 1, false⟩, ?_, by rw [take_snoc hp, bestS_snoc], hx.trans hx2⟩
   rw [swashref22_most_l1_eq]
   simp -implicitDefEqProofs (disch := omega) [hlt, i1, hget, hne, hz, swashref22_most_l2k_x2])
  (fun e H' ⟨he, hx⟩ => by
   subst he
   rw [List.take_of_length_le (by omega)]
   have hget : H'.get H.n = some ⟨[lv encB b, lv encRP rs], 1, false⟩ := hx.get (get_push_eq _ _ _ rfl)
   refine ⟨.exit 0, _, H', ?_, by simp, rfl, ⟨.int .i64 rs.length, rfl⟩, hx⟩
   rw [swashref22_most_l1_eq]
   simp -implicitDefEqProofs [hget])
 refine nrm_gc ⟨H1, ?_, hx0.trans hx1⟩ (.int _ _)
 simp -implicitDefEqProofs (disch := omega) [swashref22_most, hr1, swashref22_most_l1k_x0]
end Go.Sw
end
section
namespace Go.Sw
open Go.RowKit
end Go.Sw
end
section
namespace Go.Sw
open Go.RowKit
structure RTab where
 kind : Int
 n : Int
 size : Int
 step : Int
 b : List Int
 vb : List Int
 rows : List Int × List RP
 cols : List Int × List RP
abbrev rtC (t : RTab) : List Value := [.int .i64 t.kind, .int .i64 t.n, .int .i64 t.size, .int .i64 t.step, lv encB t.b, lv encB t.vb, lv encB t.rows.1, lv encRP t.rows.2, lv encB t.cols.1, lv encRP t.cols.2]
abbrev rtV (t : RTab) : Value := .agg (rtC t).toArray
theorem Flat.rt (t : RTab) : Flat (rtV t) := .aggL (.cons (.int _ _) (.cons (.int _ _) (.cons (.int _ _) (.cons (.int _ _) (.cons (Flat.B _) (.cons (Flat.B _) (.cons (Flat.B _) (.cons (Flat.RPs _) (.cons (Flat.B _) (.cons (Flat.RPs _) .nil))))))))))
theorem Flat.rtO (t : RTab) (x : Bool) : Flat (.tuple #[rtV t, .bool x]) := .tupleL (.cons (Flat.rt _) (.cons (.bool _) .nil))
theorem veq_RP (l : List RP) : veq (lv encRP l) (lv encRP l) = true := veq_lv fun p _ v hv => by
 simp [encRP] at hv
 rcases hv with rfl | rfl | rfl | rfl | rfl <;> simp
theorem veq_rt (t : RTab) : veq (rtV t) (rtV t) = true := veq_agg (l := rtC t) fun v hv => by
 simp [rtC] at hv
 rcases hv with rfl | rfl | rfl | rfl | rfl | rfl | rfl | rfl | rfl | rfl
 ·simp
 ·simp
 ·simp
 ·simp
 ·exact veq_B _
 ·exact veq_B _
 ·exact veq_B _
 ·exact veq_RP _
 ·exact veq_B _
 ·exact veq_RP _
theorem veq_tabR (b : List Int) (rs : List RP) : veq (tabRV b rs) (tabRV b rs) = true := veq_agg (l := [lv encB b, lv encRP rs]) fun v hv => by
 simp at hv
 rcases hv with rfl | rfl
 ·exact veq_B _
 ·exact veq_RP _
theorem veq_un : veq undef undef = true := by rfl
theorem restS_neg (b : List Int) : restS b (-1) = none := by
 cases h : restS b (-1) with
 | none => rfl
 | some r => have := (restS_iff.1 h).1; omega
theorem gU_bind {α : Type} (b : List Int) (i n : Int) (f : List Int → Option α) : ((uS b i n).bind fun p => (restS b p).bind f) = (restS b (gU b i n)).bind f := by
 cases h : uS b i n with
 | none =>
  have : gU b i n = -1 := by unfold gU; rw [h]; rfl
  rw [this, restS_neg]; rfl
 | some p => rw [gU_some h]; rfl
theorem pTabS_ref (b : List Int) (i g z step : Int) : pTabS b i g z step = (restS b (gU b i 4)).bind fun rb => (lookS rb g z).bind fun rows => (restS b (gU b (i + 4) 4)).bind fun cb => (lookS cb g z).bind fun cols => (restS b (gU b (i + 8) 4)).bind fun vb =>
  (pieceS vb (step * (max (mostS rows.2) 0 + max (mostS cols.2) 0)) z).map fun _ => ⟨[], vb, some rows, some cols, step, z⟩ := by
 unfold pTabS
 rw [gU_bind]
 simp only [gU_bind]
def Is22 (t : PTab) (rt : RTab) : Prop :=
 (rt.kind = 0 ∧ Byt rt.b ∧ rt.b.length < 2 ^ 31 ∧ pListS rt.b = some t ∧ rt.n = t.pairs.length) ∨
 (rt.kind ≠ 0 ∧ ∃ a c, t.rows = some a ∧ t.cols = some c ∧ t.vb = rt.vb ∧ t.step = rt.step ∧ t.size = rt.size ∧
  (Byt rt.rows.1 ∧ rt.rows.1.length < 2 ^ 31 ∧ Rel rt.rows.1 a.2 rt.rows.2 ∧ (∀ r, r ∈ rt.rows.2 → r.ok) ∧ rt.rows.2.length < 2 ^ 31) ∧
  (Byt rt.cols.1 ∧ rt.cols.1.length < 2 ^ 31 ∧ Rel rt.cols.1 c.2 rt.cols.2 ∧ (∀ r, r ∈ rt.cols.2 → r.ok) ∧ rt.cols.2.length < 2 ^ 31))
abbrev rzCells : List Value := [.int .i64 0, .int .i64 0, .int .i64 0, .int .i64 0, .slice none 0 0, .slice none 0 0, .slice none 0 0, .slice none 0 0, .slice none 0 0, .slice none 0 0]
abbrev r0Cells (kind size step : Int) (b : List Int) : List Value := [.int .i64 kind, .int .i64 0, .int .i64 size, .int .i64 step, lv encB b, .slice none 0 0, .slice none 0 0, .slice none 0 0, .slice none 0 0, .slice none 0 0]
theorem tabRO_some (b : List Int) (rs : List RP) : tabRO b (some rs) = tabRV b rs := rfl
set_option maxHeartbeats 2000000 in
theorem ref22_tail (k : Nat) (b : List Int) (hb : Byt b) (kind : Int) (hkd : kind ≠ 0) (i g z step : Int) (hi : i = 4 ∨ i = 8) (hg : 1 ≤ g ∧ g ≤ 65535) (hz : z = 2 ∨ z = 4) (hst : step = 1 ∨ step = 2 ∨ step = 4) (hl : b.length < 2 ^ 31) (H : Heap) :
  ∃ rt, nrm .fz H (swashref22_Read_j1 k (R (T k)) (lv encB b) (.int .i64 g) (ptrV H.n) (ptrV (H.n + 1)) (.int .i64 i) ((H.push ⟨rzCells, 1, false⟩).push ⟨r0Cells kind z step b, 1, false⟩)) = .ok (.tuple #[rtV rt, .bool (pTabS b i g z step).isSome]) H ∧
   ∀ t, pTabS b i g z step = some t → Is22 t rt := by
 rw [swashref22_Read_j1_eq, pTabS_ref]
 have hU := fun j H' => refU_run k (H := H') (Sl.lv H' 1 b) hb j 4 (by omega) (by omega)
 have u1 : ∀ H', R (T k) F.swashref01_U [lv encB b, .int .i64 i, .int .i64 4] H' = .ok (.int .i64 (gU b i 4)) H' := fun H' => hU _ H'
 have u2 : ∀ H', R (T k) F.swashref01_U [lv encB b, .int .i64 (i + 4), .int .i64 4] H' = .ok (.int .i64 (gU b (i + 4) 4)) H' := fun H' => hU _ H'
 have u3 : ∀ H', R (T k) F.swashref01_U [lv encB b, .int .i64 (i + 8), .int .i64 4] H' = .ok (.int .i64 (gU b (i + 8) 4)) H' := fun H' => hU _ H'
 generalize gU b i 4 = p at u1 ⊢
 generalize gU b (i + 4) 4 = q at u2 ⊢
 generalize gU b (i + 8) 4 = o at u3 ⊢
 have hf := fun j H' => refFrom_run k b j H'
 have hx2 : Ext H ((H.push ⟨rzCells, 1, false⟩).push ⟨r0Cells kind z step b, 1, false⟩) := ((Ext.refl H).push _).push _
 have early : ∀ (r : Res Value) (P : Option PTab), P = none → r = .ok (.tuple #[.agg (r0Cells kind z step b).toArray, .bool false]) ((H.push ⟨r0Cells kind z step b, 1, false⟩).push ⟨r0Cells kind z step b, 1, false⟩) →
   ∃ rt, nrm .fz H r = .ok (.tuple #[rtV rt, .bool P.isSome]) H ∧ ∀ t, P = some t → Is22 t rt := fun r P hP hr => by
  subst hP
  refine ⟨⟨kind, 0, z, step, b, [], ([], []), ([], [])⟩, ?_, fun t h => by cases h⟩
  exact nrm_fz (L := []) hr rfl (((Ext.refl H).push _).push _) (Flat.rtO ⟨kind, 0, z, step, b, [], ([], []), ([], [])⟩ false).alive
 cases hp : restS b p with
 | none =>
  refine early _ _ rfl ?_
  simp -implicitDefEqProofs (disch := omega) [u1, u2, u3, hf, hp]
 | some rb =>
  cases hq : restS b q with
  | none =>
   refine early _ _ (by simp) ?_
   simp -implicitDefEqProofs (disch := omega) [u1, u2, u3, hf, hp, hq]
  | some cb =>
   cases ho : restS b o with
   | none =>
    refine early _ _ (by simp) ?_
    simp -implicitDefEqProofs (disch := omega) [u1, u2, u3, hf, hp, hq, ho]
   | some vb =>
    have lrb := restS_len hp
    have lcb := restS_len hq
    have lvb := restS_len ho
    have rd1 := fun H' => read06_run k rb (hb.rest hp) g z hg hz (by omega) H'
    have rd2 := fun H' => read06_run k cb (hb.rest hq) g z hg hz (by omega) H'
    have lr1 := look_ref (hb.rest hp) hg.1 hg.2 hz
    have lr2 := look_ref (hb.rest hq) hg.1 hg.2 hz
    simp only [Option.bind_some]
    have tab : ∀ (b : List Int) (o : Option (List RP)), ∃ x : List Int × List RP, tabRO b o = tabRV x.1 x.2 := fun b o => by
     cases o with
     | none => exact ⟨([], []), rfl⟩
     | some rs => exact ⟨(b, rs), rfl⟩
    have late : ∀ (r : Res Value) (P : Option PTab) (x1 x2 : List Int × List RP), P = none → r = .ok (.tuple #[rtV ⟨kind, 0, z, step, b, vb, x1, x2⟩, .bool false]) ((H.push ⟨rtC ⟨kind, 0, z, step, b, vb, x1, x2⟩, 1, false⟩).push ⟨rtC ⟨kind, 0, z, step, b, vb, x1, x2⟩, 1, false⟩) →
      ∃ rt, nrm .fz H r = .ok (.tuple #[rtV rt, .bool P.isSome]) H ∧ ∀ t, P = some t → Is22 t rt := fun r P x1 x2 hP hr => by
     subst hP
     refine ⟨⟨kind, 0, z, step, b, vb, x1, x2⟩, ?_, fun t h => by cases h⟩
     exact nrm_fz (L := []) hr rfl (((Ext.refl H).push _).push _) (Flat.rtO ⟨kind, 0, z, step, b, vb, x1, x2⟩ false).alive
    cases h1 : lookS rb g z with
    | none =>
     obtain ⟨x1, hx1⟩ := tab rb (refReadS rb g z)
     obtain ⟨x2, hx2⟩ := tab cb (refReadS cb g z)
     rw [hx1, lr1.2 h1] at rd1
     rw [hx2] at rd2
     have v := veq_rt ⟨kind, 0, z, step, b, vb, x1, x2⟩
     refine late _ _ x1 x2 rfl ?_
     simp -implicitDefEqProofs (disch := omega) [u1, u2, u3, hf, hp, hq, ho, rd1, rd2, v, veq_un]
    | some rows =>
     obtain ⟨rs1, hrs1, rel1⟩ := lr1.1 rows h1
     have ok1 := lookS_ok (hb.rest hp) hg.1 hg.2 hz h1
     have ro1 := refRead_ok (hb.rest hp) hg hz hrs1
     have rl1 := refRead_len (hb.rest hp) hg hz h1 hrs1
     rw [hrs1, tabRO_some] at rd1
     cases h2 : lookS cb g z with
     | none =>
      obtain ⟨x2, hx2⟩ := tab cb (refReadS cb g z)
      rw [hx2, lr2.2 h2] at rd2
      have v := veq_rt ⟨kind, 0, z, step, b, vb, (rb, rs1), x2⟩
      refine late _ _ (rb, rs1) x2 rfl ?_
      simp -implicitDefEqProofs (disch := omega) [u1, u2, u3, hf, hp, hq, ho, rd1, rd2, v, veq_un]
     | some cols =>
      obtain ⟨rs2, hrs2, rel2⟩ := lr2.1 cols h2
      have ok2 := lookS_ok (hb.rest hq) hg.1 hg.2 hz h2
      have ro2 := refRead_ok (hb.rest hq) hg hz hrs2
      have rl2 := refRead_len (hb.rest hq) hg hz h2 hrs2
      rw [hrs2, tabRO_some] at rd2
      have m1 := fun H' => most22_run k rb (hb.rest hp) rows.2 rs1 rel1 ok1.2.1 ok1.2.2 ro1 rl1 (by omega) H'
      have m2 := fun H' => most22_run k cb (hb.rest hq) cols.2 rs2 rel2 ok2.2.1 ok2.2.2 ro2 rl2 (by omega) H'
      have b1 := mostS_bound ok1.2.1
      have b2 := mostS_bound ok2.2.1
      simp only [Option.bind_some]
      obtain ⟨y1, hy1⟩ : ∃ y1, y1 = max (mostS rows.2) 0 := ⟨_, rfl⟩
      obtain ⟨y2, hy2⟩ : ∃ y2, y2 = max (mostS cols.2) 0 := ⟨_, rfl⟩
      rw [← hy1] at m1 ⊢
      rw [← hy2] at m2 ⊢
      have s0 : 0 ≤ step * (y1 + y2) := Int.mul_nonneg (by omega) (by omega)
      have s1 : step * (y1 + y2) ≤ 4 * 8589934592 := Int.mul_le_mul (by omega) (by omega) (by omega) (by omega)
      have hin := fun H' => refIn_run k vb.length (step * (y1 + y2)) z (by omega) (by omega) H'
      have v := veq_rt ⟨kind, 0, z, step, b, vb, (rb, rs1), (cb, rs2)⟩
      have hIn : (Option.map (fun _ => (⟨[], vb, some rows, some cols, step, z⟩ : PTab)) (pieceS vb (step * (y1 + y2)) z)).isSome = inS vb.length (step * (y1 + y2)) z := by rw [Option.isSome_map, inS_piece]
      refine ⟨⟨kind, 0, z, step, b, vb, (rb, rs1), (cb, rs2)⟩, ?_, fun t ht => ?_⟩
      ·rw [hIn]
       refine nrm_fz (v := .tuple #[rtV ⟨kind, 0, z, step, b, vb, (rb, rs1), (cb, rs2)⟩, .bool (inS vb.length (step * (y1 + y2)) z)]) (L := []) (H' := (H.push ⟨rtC ⟨kind, 0, z, step, b, vb, (rb, rs1), (cb, rs2)⟩, 1, false⟩).push ⟨rtC ⟨kind, 0, z, step, b, vb, (rb, rs1), (cb, rs2)⟩, 1, false⟩) ?_ rfl (((Ext.refl H).push _).push _) (Flat.rtO _ _).alive
       simp -implicitDefEqProofs (disch := omega) [u1, u2, u3, hf, hp, hq, ho, rd1, rd2, v, veq_un, veq_tabR, m1, m2, hin]
      ·obtain ⟨_, _, rfl⟩ := Option.map_eq_some_iff.1 ht
       exact .inr ⟨hkd, rows, cols, rfl, rfl, rfl, rfl, rfl, ⟨hb.rest hp, by dsimp only; omega, rel1, ro1, rl1⟩, ⟨hb.rest hq, by dsimp only; omega, rel2, ro2, rl2⟩⟩
end Go.Sw
end
section
set_option maxRecDepth 100000
set_option linter.unusedVariables false
namespace Go.Sw
noncomputable section
end
end Go.Sw
end
section
namespace Go.Sw
open Go.RowKit
end Go.Sw
end
section
namespace Go.Sw
open Go.RowKit
theorem gU_four {b : List Int} (hb : Byt b) (i : Int) : -1 ≤ gU b i 4 ∧ gU b i 4 < 4294967296 := by
 unfold gU
 cases h : uS b i 4 with
 | none => simp
 | some x => have := uS_four hb h; simp; omega
end Go.Sw
end
