/-
  Functions' forms, and what is proved of them, part 5.
-/
import Derived.Test.YtnaodjnimkndbabSwW2
import Derived.Test.YtnaodjnimkndbabSwW4
import Derived.Test.YtnaodjnimkndbabSwW1
import Derived.Test.YtnaodjnimkndbabSwCfg
import Derived.Test.YtnaodjnimkndbabSwW3
import Derived.Test.YtnaodjnimkndbabSwLib8
import Derived.Tactics
import Derived.Tactics2
import Derived.Defers
import Derived.Recover
import Derived.Laws.Pointers
set_option linter.unusedSimpArgs false
set_option linter.unusedVariables false
set_option linter.unusedSectionVars false
section
namespace Go.Sw
open Go.RowKit
structure Plan where
 cls : List Int
 rows : List (List Int)
 ents : List En
 wide : Int
abbrev encBR (r : List Int) : List Value := [lv encB r]
def planN (p : Plan) : Nat := 4 + (p.wide % 8).toNat
def twos (l : List Int) : List Int := (l.map fun c => bytesOf c 2).flatten
def ofS (cls : List Int) : List Int := (bytesOf 8 2 ++ bytesOf 0 2 ++ bytesOf cls.length 2) ++ twos cls
def rowL (n : Nat) (r : List Int) : List Int := (List.range n).map fun i => r[i]?.getD 0
def rowsL (n : Nat) (rs : List (List Int)) : List Int := (rs.map fun r => twos (rowL n r)).flatten
def m16 (x : Int) : Int := x % 65536
def entB (w : Int) (e : En) : List Int := bytesOf (m16 e.next) 2 ++ bytesOf (m16 e.flags) 2 ++ (if 0 < w then bytesOf (m16 e.a) 2 else []) ++ (if 1 < w then bytesOf (m16 e.b) 2 else [])
def entsB (w : Int) (es : List En) : List Int := (es.map (entB w)).flatten
def planBytes (p : Plan) (w : Int) (room : Nat) : List Int :=
 (((bytesOf (planN p : Int) 4 ++ bytesOf (16 + room : Int) 4 ++ bytesOf (16 + room + (ofS p.cls).length : Int) 4 ++ bytesOf (16 + room + (ofS p.cls).length + (rowsL (planN p) p.rows).length : Int) 4 ++ List.replicate room 0) ++ ofS p.cls) ++ rowsL (planN p) p.rows) ++ entsB w p.ents
theorem twos_snoc (l : List Int) (x : Int) : twos (l ++ [x]) = twos l ++ bytesOf x 2 := by simp [twos]
theorem twos_len (l : List Int) : (twos l).length = l.length * 2 := flat_len (z := 2) (fun r hr => by obtain ⟨p, _, rfl⟩ := List.mem_map.1 hr; simp) |>.trans (by simp)
theorem rowL_len (n : Nat) (r : List Int) : (rowL n r).length = n := by simp [rowL]
theorem rowsL_snoc (n : Nat) (rs : List (List Int)) (r : List Int) : rowsL n (rs ++ [r]) = rowsL n rs ++ twos (rowL n r) := by simp [rowsL]
theorem rowsL_len (n : Nat) (rs : List (List Int)) : (rowsL n rs).length = rs.length * (n * 2) := flat_len (z := n * 2) (fun r hr => by obtain ⟨p, _, rfl⟩ := List.mem_map.1 hr; rw [twos_len, rowL_len]) |>.trans (by simp)
theorem entB_len (w : Int) (e : En) : (entB w e).length ≤ 8 := by
 unfold entB;simp only [List.length_append, bytesOf_len];split <;> split <;> simp
theorem entsB_snoc (w : Int) (es : List En) (e : En) : entsB w (es ++ [e]) = entsB w es ++ entB w e := by simp [entsB]
theorem entsB_len (w : Int) : ∀ es : List En, (entsB w es).length ≤ es.length * 8
 | [] => by simp [entsB]
 | e :: es => by
  have h1 := entsB_len w es;have h2 := entB_len w e;unfold entsB at h1 ⊢;simp only [List.map_cons, List.flatten_cons, List.length_append, List.length_cons];omega
theorem and16 (P : Program) (t : TypeId) (H : Heap) (a : Int) : binR P .and t (.int .i64 a) (.int .i64 65535) H = .ok (.int .i64 (m16 a)) H := by
 have e : (BitVec.ofInt 64 a &&& BitVec.ofInt 64 65535).toNat = (a % 65536).toNat := by
  rw [BitVec.toNat_and, BitVec.toNat_ofInt, BitVec.toNat_ofInt];rw [show ((65535 : Int) % ((2 ^ 64 : Nat) : Int)).toNat = 2 ^ 16 - 1 from by decide, Nat.and_two_pow_sub_one_eq_mod];omega
 have e1 : binV P .and t (.int .i64 a) (.int .i64 65535) = some (.int .i64 (IntKind.i64.wrap (BitVec.ofInt 64 a &&& BitVec.ofInt 64 65535).toNat)) := rfl;unfold binR;rw [e1, e];unfold m16;rw [show (((a % 65536).toNat : Nat) : Int) = a % 65536 by omega, wrap_i64 (by omega) (by omega)];rfl
theorem m16_bound (a : Int) : 0 ≤ m16 a ∧ m16 a < 65536 := by unfold m16; omega
theorem write_l3 (k : Nat) {H0 H : Heap} {o9 o12 : Option Nat} {a9 a12 : Value} {l9 l12 : List Int} {B : It} (w room : Value) (n : Nat) (hn : n ≤ 11) (a3 a8 : Value) {vr : Value} (r : List Int) (hr : Byt r) (hv : Sl H0 1 vr encB r) (x47 x48 x49 : Value) (hl : l12.length < 2 ^ 29)
  (g : Star H0 H [itRow o9 1 a9 encB l9, itRow o12 1 a12 encB l12, B]) :
  ∃ s o H' z, loopN (swashlaw07_Write_l3 k (R (T k))) loopFuel [(1, w), (2, room), (3, a3), (7, .int .i64 n), (8, a8), (9, a9), (12, a12), (13, .slice none 0 0), (15, vr), (47, x47), (48, x48), (49, x49), (53, .int .i64 n), (54, .int .i64 0)] H =
   .ok (.exit 4, [(1, w), (2, room), (3, a3), (7, .int .i64 n), (8, a8), (9, a9), (12, s), (13, .slice none 0 0), (15, vr), (47, x47), (48, x48), (49, x49), (53, .int .i64 n), (54, z), (55, .bool false)]) H' ∧
   Star H0 H' [itRow o9 1 a9 encB l9, itRow o 1 s encB (l12 ++ twos (rowL n r)), B] := by
 have hvl := fun H' => hv.len H'
 obtain ⟨x, e', H1, hr1, rfl, z, s, o, rfl, g⟩ := loop_up (body := swashlaw07_Write_l3 k (R (T k))) n
  (fun j e H' => ∃ s o, e = [(1, w), (2, room), (3, a3), (7, .int .i64 n), (8, a8), (9, a9), (12, s), (13, .slice none 0 0), (15, vr), (47, x47), (48, x48), (49, x49), (53, .int .i64 n), (54, .int .i64 j)] ∧ Star H0 H' [itRow o9 1 a9 encB l9, itRow o 1 s encB (l12 ++ twos ((rowL n r).take j)), B])
  (fun x e H' => x = .exit 4 ∧ ∃ z s o, e = [(1, w), (2, room), (3, a3), (7, .int .i64 n), (8, a8), (9, a9), (12, s), (13, .slice none 0 0), (15, vr), (47, x47), (48, x48), (49, x49), (53, .int .i64 n), (54, z), (55, .bool false)] ∧ Star H0 H' [itRow o9 1 a9 encB l9, itRow o 1 s encB (l12 ++ twos (rowL n r)), B])
  (e0 := [(1, w), (2, room), (3, a3), (7, .int .i64 n), (8, a8), (9, a9), (12, a12), (13, .slice none 0 0), (15, vr), (47, x47), (48, x48), (49, x49), (53, .int .i64 n), (54, .int .i64 0)]) (H0 := H) ⟨a12, o12, rfl, by simpa [twos] using g⟩ (by omega)
  (fun j e H' hj ⟨s, o, he, g⟩ => by
   subst he;have hlt : (j : Int) < n := by omega
   have hq : (rowL n r)[j]? = some (r[j]?.getD 0) := by unfold rowL; rw [List.getElem?_map, List.getElem?_range hj]; rfl
   have hlen : (l12 ++ twos ((rowL n r).take j)).length < 2 ^ 30 := by
    rw [List.length_append, twos_len, List.length_take, rowL_len];omega
   have hb : 0 ≤ r[j]?.getD 0 ∧ r[j]?.getD 0 < 256 := by
    cases h : r[j]? with
    | none => simp
    | some y => exact hr y (List.mem_of_getElem? h)
   obtain ⟨s', o', H2, e2, g2⟩ := Put_star k g 1 rfl (r[j]?.getD 0) 2 2 rfl hb.1 (by omega) (by omega) hlen;simp only [List.set_cons_zero, List.set_cons_succ] at g2;refine .inl ⟨_, H2, ?_, s', o', rfl, by rw [take_snoc hq, twos_snoc, ← List.append_assoc]; exact g2⟩;rw [swashlaw07_Write_l3_eq];cases h : r[j]? with
   | some y =>
    have hjr : (j : Int) < r.length := by have := (List.getElem?_eq_some_iff.1 h).1; omega
    obtain ⟨pp, i1, i2⟩ := hv.ix1 encB_len j y h _ rfl;have i2 := i2 H' g.ext;rw [h] at e2 hb;simp at e2 hb;simp -implicitDefEqProofs (disch := omega) [hlt, hjr, hvl, i1, i2, swashlaw07_Write_j1_eq, e2]
   | none =>
    have hjr : ¬ (j : Int) < r.length := by have := List.getElem?_eq_none_iff.1 h; omega
    rw [h] at e2;simp at e2;simp -implicitDefEqProofs (disch := omega) [hlt, hjr, hvl, swashlaw07_Write_j2_eq, e2])
  (fun e H' ⟨s, o, he, g⟩ => by
   subst he;rw [List.take_of_length_le (by rw [rowL_len]; exact Nat.le_refl _)] at g;refine ⟨.exit 4, _, H', ?_, by simp, rfl, .int .i64 n, s, o, rfl, g⟩;rw [swashlaw07_Write_l3_eq];simp -implicitDefEqProofs)
 exact ⟨s, o, H1, z, hr1, g⟩
def Plan.ok (p : Plan) : Prop := Byt p.cls ∧ (∀ r, r ∈ p.rows → Byt r) ∧ 0 ≤ p.wide ∧ p.wide < 256
set_option maxHeartbeats 1000000 in
theorem write_l4 (k : Nat) {H0 H : Heap} {o9 o12 : Option Nat} {a9 a12 : Value} {l9 l12 : List Int} {B : It} (w : Int) (hw : w = 0 ∨ w = 1 ∨ w = 2) (room : Value) (a7 a8 : Value) (es : List En) (hl : es.length < 2 ^ 20) {sE : Value} (hsE : Sl H0 4 sE encEn es)
  (g : Star H0 H [itRow o9 1 a9 encB l9, itRow o12 1 a12 encB l12, B]) :
  ∃ s o H' z, loopN (swashlaw07_Write_l4 k (R (T k))) loopFuel [(1, .int .i64 w), (2, room), (7, a7), (8, a8), (9, a9), (12, a12), (13, .slice none 0 0), (72, sE), (73, .int .i64 es.length), (74, .int .i64 0)] H =
   .ok (.exit 6, [(1, .int .i64 w), (2, room), (7, a7), (8, a8), (9, a9), (12, a12), (13, s), (72, sE), (73, .int .i64 es.length), (74, z), (75, .bool false)]) H' ∧
   Star H0 H' [itRow o9 1 a9 encB l9, itRow o12 1 a12 encB l12, B, itRow o 1 s encB (entsB w es)] := by
 have g := g.more_row (Ext.refl _) (OwnO.nil encB _ 1) (fun b hb => by cases hb)
 obtain ⟨x, e', H1, hr1, rfl, z, s, o, rfl, g⟩ := loop_up (body := swashlaw07_Write_l4 k (R (T k))) es.length
  (fun j e H' => ∃ s o, e = [(1, .int .i64 w), (2, room), (7, a7), (8, a8), (9, a9), (12, a12), (13, s), (72, sE), (73, .int .i64 es.length), (74, .int .i64 j)] ∧ Star H0 H' [itRow o9 1 a9 encB l9, itRow o12 1 a12 encB l12, B, itRow o 1 s encB (entsB w (es.take j))])
  (fun x e H' => x = .exit 6 ∧ ∃ z s o, e = [(1, .int .i64 w), (2, room), (7, a7), (8, a8), (9, a9), (12, a12), (13, s), (72, sE), (73, .int .i64 es.length), (74, z), (75, .bool false)] ∧ Star H0 H' [itRow o9 1 a9 encB l9, itRow o12 1 a12 encB l12, B, itRow o 1 s encB (entsB w es)])
  (e0 := [(1, .int .i64 w), (2, room), (7, a7), (8, a8), (9, a9), (12, a12), (13, .slice none 0 0), (72, sE), (73, .int .i64 es.length), (74, .int .i64 0)]) (H0 := H) ⟨.slice none 0 0, none, rfl, by simpa [entsB] using g⟩ (by omega)
  (fun j e H' hj ⟨s, o, he, g⟩ => by
   subst he;have hlt : (j : Int) < es.length := by omega
   obtain ⟨en, hen⟩ : ∃ en, es[j]? = some en := ⟨_, List.getElem?_eq_getElem hj⟩
   obtain ⟨q, i1, i2⟩ := ((hsE.up g.ext).rd (by decide) encEn_len).2 j en hen;have hlen := entsB_len w (es.take j);rw [List.length_take] at hlen;have g := g.push ⟨encEn en, 1, false⟩;simp only [List.cons_append, List.nil_append] at g;have b1 := m16_bound en.next;have b2 := m16_bound en.flags;have b3 := m16_bound en.a;have b4 := m16_bound en.b;have an := fun H a => and16 Prog 3 H a;obtain ⟨s1, o1, H1, e1, g1⟩ := Put_star k g 3 rfl (m16 en.next) 2 2 rfl b1.1 (by omega) (by omega) (by omega);simp only [List.set_cons_zero, List.set_cons_succ] at g1;have h1 := g1.get 4 rfl;obtain ⟨s2, o2, H2, e2, g2⟩ := Put_star k g1 3 rfl (m16 en.flags) 2 2 rfl b2.1 (by omega) (by omega) (by simp; omega);simp only [List.set_cons_zero, List.set_cons_succ] at g2;have h2 := g2.get 4 rfl;rcases hw with rfl | rfl | rfl
   ·refine .inl ⟨_, H2, ?_, s2, o2, rfl, by rw [take_snoc hen, entsB_snoc]; simpa [entB] using g2.take 4⟩;rw [swashlaw07_Write_l4_eq];simp -implicitDefEqProofs (disch := omega) [hlt, i1, i2, an, e1, h1, e2, h2, swashlaw07_Write_j4_eq, swashlaw07_Write_j6_eq]
   ·obtain ⟨s3, o3, H3, e3, g3⟩ := Put_star k g2 3 rfl (m16 en.a) 2 2 rfl b3.1 (by omega) (by omega) (by simp; omega);simp only [List.set_cons_zero, List.set_cons_succ] at g3;have h3 := g3.get 4 rfl;refine .inl ⟨_, H3, ?_, s3, o3, rfl, by rw [take_snoc hen, entsB_snoc]; simpa [entB] using g3.take 4⟩;rw [swashlaw07_Write_l4_eq];simp -implicitDefEqProofs (disch := omega) [hlt, i1, i2, an, e1, h1, e2, h2, e3, h3, swashlaw07_Write_j3_eq, swashlaw07_Write_j6_eq]
   ·obtain ⟨s3, o3, H3, e3, g3⟩ := Put_star k g2 3 rfl (m16 en.a) 2 2 rfl b3.1 (by omega) (by omega) (by simp; omega);simp only [List.set_cons_zero, List.set_cons_succ] at g3;have h3 := g3.get 4 rfl;obtain ⟨s4, o4, H4, e4, g4⟩ := Put_star k g3 3 rfl (m16 en.b) 2 2 rfl b4.1 (by omega) (by omega) (by simp; omega);simp only [List.set_cons_zero, List.set_cons_succ] at g4;refine .inl ⟨_, H4, ?_, s4, o4, rfl, by rw [take_snoc hen, entsB_snoc]; simpa [entB] using g4.take 4⟩;rw [swashlaw07_Write_l4_eq];simp -implicitDefEqProofs (disch := omega) [hlt, i1, i2, an, e1, h1, e2, h2, e3, h3, e4, swashlaw07_Write_j3_eq, swashlaw07_Write_j5_eq])
  (fun e H' ⟨s, o, he, g⟩ => by
   subst he;rw [List.take_length] at g;refine ⟨.exit 6, _, H', ?_, by simp, rfl, .int .i64 es.length, s, o, rfl, g⟩;rw [swashlaw07_Write_l4_eq];simp -implicitDefEqProofs)
 exact ⟨s, o, H1, z, hr1, g⟩
theorem planN_eq (p : Plan) (h : 0 ≤ p.wide ∧ p.wide < 256) : 4 + p.wide.tmod 8 = (planN p : Int) ∧ planN p ≤ 11 := by
 unfold planN;rw [Int.tmod_eq_emod_of_nonneg h.1];omega
set_option maxHeartbeats 2000000 in
theorem Write_coreG (k : Nat) (p : Plan) (hp : p.ok) (w : Int) (hw : w = 0 ∨ w = 1 ∨ w = 2) (room : Nat) (hroom : room ≤ 1000) (h1 : p.cls.length ≤ 1000) (h2 : p.rows.length ≤ 1000) (h3 : p.ents.length ≤ 1000) {H : Heap} {vC vR sE : Value} (hC : Sl H 1 vC encB p.cls) {rv : List (List Int × Value)} (hrv : rv.map Prod.fst = p.rows) (hrs : ∀ x, x ∈ rv → Sl H 1 x.2 encB x.1) (hR : Sl H 1 vR encU rv) (hsE : Sl H 4 sE encEn p.ents) :
  ∃ s H', swashlaw07_Write k (R (T k)) (.agg #[vC, vR, sE, .int .u8 p.wide]) (.int .i64 w) (.int .i64 room) H = .ok s H' ∧ Own H H' 1 s encB (planBytes p w room) ∧ Ext H H' := by
 have hrvl : rv.length = p.rows.length := by rw [← hrv]; simp
 have hN := planN_eq p hp.2.2;obtain ⟨n, hn⟩ : ∃ n, n = planN p := ⟨_, rfl⟩
 rw [← hn] at hN;have hwd : 0 ≤ p.wide ∧ p.wide < 256 := hp.2.2;have hrem := fun H => bin_rem Prog 3 H .i64 p.wide 8 (by decide);rw [Int.tmod_eq_emod_of_nonneg hwd.1] at hrem hN;obtain ⟨B, hB⟩ : ∃ B : Blk, B = ⟨[vC, vR, sE, .int .u8 p.wide], 1, false⟩ := ⟨_, rfl⟩
 have g := (Star.nil H).more_row (Ext.refl _) (OwnO.nil encB _ 1) (fun b hb => by cases hb);have g := g.more_row (Ext.refl _) (OwnO.nil encB _ 1) (fun b hb => by cases hb);have g := g.push B;simp only [List.cons_append, List.nil_append] at g
 -- the head of the classes
 obtain ⟨s1, o1, H1, e1, g⟩ := Put_star k g 0 rfl 8 2 2 rfl (by omega) (by omega) (by omega) (by simp);simp only [List.set_cons_zero, List.set_cons_succ] at g;have b1 := g.get 2 rfl;obtain ⟨s2, o2, H2, e2, g⟩ := Put_star k g 0 rfl 0 2 2 rfl (by omega) (by omega) (by omega) (by simp);simp only [List.set_cons_zero, List.set_cons_succ] at g;have b2 := g.get 2 rfl;obtain ⟨s3, o3, H3, e3, g⟩ := Put_star k g 0 rfl p.cls.length 2 2 rfl (by omega) (by omega) (by omega) (by simp);simp only [List.set_cons_zero, List.set_cons_succ, List.nil_append] at g;have b3 := g.get 2 rfl
 -- the classes
 obtain ⟨x, e', H4, hr4, rfl, z4, s4, o4, rfl, g⟩ := loop_up (body := swashlaw07_Write_l1 k (R (T k))) p.cls.length
  (fun j e H' => ∃ s o, e = [(1, .int .i64 w), (2, .int .i64 room), (3, ptrV H.n), (7, .int .i64 n), (8, .int .i64 (16 + room)), (9, s), (35, vC), (36, .int .i64 p.cls.length), (37, .int .i64 j)] ∧ Star H H' [itRow o 1 s encB ((bytesOf 8 2 ++ bytesOf 0 2 ++ bytesOf p.cls.length 2) ++ twos (p.cls.take j)), itRow none 1 (.slice none 0 0) encB [], itBlk H.n B])
  (fun x e H' => x = .exit 0 ∧ ∃ z s o, e = [(1, .int .i64 w), (2, .int .i64 room), (3, ptrV H.n), (7, .int .i64 n), (8, .int .i64 (16 + room)), (9, s), (35, vC), (36, .int .i64 p.cls.length), (37, z), (38, .bool false)] ∧ Star H H' [itRow o 1 s encB (ofS p.cls), itRow none 1 (.slice none 0 0) encB [], itBlk H.n B])
  (e0 := [(1, .int .i64 w), (2, .int .i64 room), (3, ptrV H.n), (7, .int .i64 n), (8, .int .i64 (16 + room)), (9, s3), (35, vC), (36, .int .i64 p.cls.length), (37, .int .i64 0)]) (H0 := H3) ⟨s3, o3, rfl, by simpa [twos] using g⟩ (by omega)
  (fun j e H' hj ⟨s, o, he, g⟩ => by
   subst he;have hlt : (j : Int) < p.cls.length := by omega
   obtain ⟨c, hc⟩ : ∃ c, p.cls[j]? = some c := ⟨_, List.getElem?_eq_getElem hj⟩
   obtain ⟨pp, i1, i2⟩ := hC.ix1 encB_len j c hc _ rfl;have i2 := i2 H' g.ext;have hcb := hp.1 c (List.mem_of_getElem? hc);obtain ⟨s', o', H2, e2, g2⟩ := Put_star k g 0 rfl c 2 2 rfl hcb.1 (by omega) (by omega) (by simp [twos_len]; omega);simp only [List.set_cons_zero, List.set_cons_succ] at g2;refine .inl ⟨_, H2, ?_, s', o', rfl, by rw [take_snoc hc, twos_snoc, ← List.append_assoc]; exact g2⟩;rw [swashlaw07_Write_l1_eq];simp -implicitDefEqProofs (disch := omega) [hlt, i1, i2, e2])
  (fun e H' ⟨s, o, he, g⟩ => by
   subst he;rw [List.take_length] at g;refine ⟨.exit 0, _, H', ?_, by simp, rfl, .int .i64 p.cls.length, s, o, rfl, g⟩;rw [swashlaw07_Write_l1_eq];simp -implicitDefEqProofs)
 have b4 := g.get 2 rfl;have hofl : (ofS p.cls).length = 6 + p.cls.length * 2 := by unfold ofS; simp [twos_len]; omega
 -- the rows
 obtain ⟨x, e', H5, hr5, rfl, z5, s5, o5, rfl, g⟩ := loop_up (body := swashlaw07_Write_l2 k (R (T k))) p.rows.length
  (fun j e H' => ∃ s o, e = [(1, .int .i64 w), (2, .int .i64 room), (3, ptrV H.n), (7, .int .i64 n), (8, .int .i64 (16 + room)), (9, s4), (12, s), (13, .slice none 0 0), (47, vR), (48, .int .i64 p.rows.length), (49, .int .i64 j)] ∧ Star H H' [itRow o4 1 s4 encB (ofS p.cls), itRow o 1 s encB (rowsL n (p.rows.take j)), itBlk H.n B])
  (fun x e H' => x = .exit 2 ∧ ∃ z s o, e = [(1, .int .i64 w), (2, .int .i64 room), (3, ptrV H.n), (7, .int .i64 n), (8, .int .i64 (16 + room)), (9, s4), (12, s), (13, .slice none 0 0), (47, vR), (48, .int .i64 p.rows.length), (49, z), (50, .bool false)] ∧ Star H H' [itRow o4 1 s4 encB (ofS p.cls), itRow o 1 s encB (rowsL n p.rows), itBlk H.n B])
  (e0 := [(1, .int .i64 w), (2, .int .i64 room), (3, ptrV H.n), (7, .int .i64 n), (8, .int .i64 (16 + room)), (9, s4), (12, .slice none 0 0), (13, .slice none 0 0), (47, vR), (48, .int .i64 p.rows.length), (49, .int .i64 0)]) (H0 := H4) ⟨.slice none 0 0, none, rfl, by simpa [rowsL] using g⟩ (by omega)
  (fun j e H' hj ⟨s, o, he, g⟩ => by
   subst he;have hlt : (j : Int) < p.rows.length := by omega
   obtain ⟨r, hr⟩ : ∃ r, p.rows[j]? = some r := ⟨_, List.getElem?_eq_getElem hj⟩
   obtain ⟨x, hx⟩ : ∃ x, rv[j]? = some x := ⟨_, List.getElem?_eq_getElem (by omega)⟩
   have hxr : x.1 = r := by
    have h0 : (rv.map Prod.fst)[j]? = some x.1 := by rw [List.getElem?_map, hx]; rfl
    rw [hrv, hr] at h0;exact (Option.some.inj h0).symm
   obtain ⟨pp, i1, i2⟩ := hR.ix1 encU_len j x hx _ rfl;have i2 := i2 H' g.ext;have hxs := hrs x (List.mem_of_getElem? hx);rw [hxr] at hxs;have hll : (rowsL n (p.rows.take j)).length < 2 ^ 29 := by
    rw [rowsL_len, List.length_take];have : min j p.rows.length * (n * 2) ≤ 1000 * 22 := Nat.mul_le_mul (by omega) (by omega);omega
   obtain ⟨s', o', H2, z', e2, g2⟩ := write_l3 k (.int .i64 w) (.int .i64 room) n (by omega) (ptrV H.n) (.int .i64 (16 + room)) r (hp.2.1 r (List.mem_of_getElem? hr)) hxs (vR) (.int .i64 p.rows.length) (.int .i64 j) hll g;refine .inl ⟨_, H2, ?_, s', o', rfl, by rw [take_snoc hr, rowsL_snoc]; exact g2⟩;rw [swashlaw07_Write_l2_eq];simp -implicitDefEqProofs (disch := omega) [hlt, i1, i2, e2, swashlaw07_Write_l3k_x4])
  (fun e H' ⟨s, o, he, g⟩ => by
   subst he;rw [List.take_length] at g;refine ⟨.exit 2, _, H', ?_, by simp, rfl, .int .i64 p.rows.length, s, o, rfl, g⟩;rw [swashlaw07_Write_l2_eq];simp -implicitDefEqProofs)
 have b5 := g.get 2 rfl;have hrl : (rowsL n p.rows).length ≤ 1000 * 22 := by rw [rowsL_len]; exact Nat.mul_le_mul h2 (by omega)
 -- the entries
 obtain ⟨s6, o6, H6, z6, hr6, g⟩ := write_l4 k w hw (.int .i64 room) (.int .i64 n) (.int .i64 (16 + room)) p.ents (by omega) hsE g;have hel := entsB_len w p.ents;have q9 : ∀ H', lnS s4 H' = .ok (.int .i64 (ofS p.cls).length) H' := (g.row 0 rfl).len;have q12 : ∀ H', lnS s5 H' = .ok (.int .i64 (rowsL n p.rows).length) H' := (g.row 1 rfl).len
 -- all together
 have g := g.more_row (Ext.refl _) (OwnO.nil encB _ 1) (fun b hb => by cases hb);simp only [List.cons_append, List.nil_append] at g;obtain ⟨t1, u1, J1, f1, g⟩ := Put_star k g 4 rfl n 4 4 rfl (by omega) (by omega) (by omega) (by simp);simp only [List.set_cons_zero, List.set_cons_succ, List.nil_append] at g;obtain ⟨t2, u2, J2, f2, g⟩ := Put_star k g 4 rfl (16 + room) 4 4 rfl (by omega) (by omega) (by omega) (by simp);simp only [List.set_cons_zero, List.set_cons_succ] at g;obtain ⟨t3, u3, J3, f3, g⟩ := Put_star k g 4 rfl (16 + room + (ofS p.cls).length) 4 4 rfl (by omega) (by omega) (by omega) (by simp);simp only [List.set_cons_zero, List.set_cons_succ] at g;obtain ⟨t4, u4, J4, f4, g⟩ := Put_star k g 4 rfl (16 + room + (ofS p.cls).length + (rowsL n p.rows).length) 4 4 rfl (by omega) (by omega) (by omega) (by simp);simp only [List.set_cons_zero, List.set_cons_succ] at g;obtain ⟨a4, l4, c4, ht4⟩ := (g.row 4 rfl).shape;obtain ⟨t5, u5, J5, f5, g⟩ := g.append (bytes := 1) 4 encB_len rfl (b := lv encB (List.replicate room 0)) (l2 := List.replicate room 0) (by rw [lv, List.length_replicate]; rfl) (by have := lv_first encB_len (List.replicate room 0) J4; exact this) (by simp; omega) (by decide);simp only [List.set_cons_zero, List.set_cons_succ] at g;have f5' : azR 1 1 [.int .u8 0] t4 (.int .i64 room) J4 = .ok t5 J5 := by
  rw [ht4] at f5 ⊢;rw [azR_eq encB_len a4 l4 c4 (0 : Int) _ rfl .i64 room (by omega)];exact f5
 obtain ⟨t6, u6, J6, f6, g⟩ := g.appendRow (bytes := 1) 4 0 encB_len rfl rfl (by simp; omega) (by decide);simp only [List.set_cons_zero, List.set_cons_succ] at g;obtain ⟨t7, u7, J7, f7, g⟩ := g.appendRow (bytes := 1) 4 1 encB_len rfl rfl (by simp; omega) (by decide);simp only [List.set_cons_zero, List.set_cons_succ] at g;obtain ⟨t8, u8, J8, f8, g⟩ := g.appendRow (bytes := 1) 4 3 encB_len rfl rfl (by simp; omega) (by decide);simp only [List.set_cons_zero, List.set_cons_succ] at g;have hbytes : planBytes p w room = bytesOf (n : Int) 4 ++ bytesOf (16 + room : Int) 4 ++ bytesOf (16 + room + (ofS p.cls).length : Int) 4 ++ bytesOf (16 + room + (ofS p.cls).length + (rowsL n p.rows).length : Int) 4 ++ List.replicate room 0 ++ ofS p.cls ++ rowsL n p.rows ++ entsB w p.ents := by
  unfold planBytes;rw [← hn]
 rw [hbytes];refine ⟨t8, J8, ?_, g.own 4 rfl, g.ext⟩;rw [hB] at e1 b1 b2 b3 b4 b5;have hlnE := fun H' => hsE.len H';have hlnC := fun H' => hC.len H';have hlnR := fun H' => hR.len H';rw [hrvl] at hlnR;have hvqC : veq vC vC = true := hC.veq fun x _ u hu => by simp at hu; subst hu; simp
 simp -implicitDefEqProofs (disch := omega) [swashlaw07_Write, hrem, hN.1, e1, b1, e2, b2, e3, b3, hr4, swashlaw07_Write_l1k_x0, b4, hr5, swashlaw07_Write_l2k_x2, b5, hr6, swashlaw07_Write_l4k_x6, f1, q9, q12, f2, f3, f4, f5', f6, f7, f8, hlnE, hlnC, hlnR, hvqC]
theorem lvU_rows (l : List (List Int)) : lv encBR l = lv encU (l.map fun s => (s, lv encB s)) := by
 unfold lv;rw [List.length_map];congr 2;unfold rows;rw [List.flatMap_map];rfl
theorem rv_fst (l : List (List Int)) : (l.map fun s => (s, lv encB s)).map Prod.fst = l := by rw [List.map_map]; simp [Function.comp_def]
structure PlanSl (H : Heap) (p : Plan) (vC vR sE : Value) (rv : List (List Int × Value)) : Prop where
 cls : Sl H 1 vC encB p.cls
 fst : rv.map Prod.fst = p.rows
 each : ∀ x, x ∈ rv → Sl H 1 x.2 encB x.1
 rows : Sl H 1 vR encU rv
 ents : Sl H 4 sE encEn p.ents
theorem PlanSl.up {H H' : Heap} {p : Plan} {vC vR sE : Value} {rv : List (List Int × Value)} (h : PlanSl H p vC vR sE rv) (he : Ext H H') : PlanSl H' p vC vR sE rv := ⟨h.cls.up he, h.fst, fun x hx => (h.each x hx).up he, h.rows.up he, h.ents.up he⟩
theorem PlanSl.lv (H : Heap) (p : Plan) {sE : Value} (h : Sl H 4 sE encEn p.ents) : PlanSl H p (Go.Sw.lv encB p.cls) (Go.Sw.lv encBR p.rows) sE (p.rows.map fun s => (s, Go.Sw.lv encB s)) :=
 ⟨Sl.lv _ 1 _, rv_fst p.rows, fun x hx => by obtain ⟨s, _, rfl⟩ := List.mem_map.1 hx; exact Sl.lv _ 1 _, by rw [lvU_rows]; exact Sl.lv _ 1 _, h⟩
theorem Write_starG (k : Nat) (hW : ownW k = .no) (p : Plan) (hp : p.ok) (w : Int) (hw : w = 0 ∨ w = 1 ∨ w = 2) (room : Nat) (hroom : room ≤ 1000) (h1 : p.cls.length ≤ 1000) (h2 : p.rows.length ≤ 1000) (h3 : p.ents.length ≤ 1000) {H0 H : Heap} {L : List It} (g : Star H0 H L) {vC vR sE : Value} {rv : List (List Int × Value)} (hP : PlanSl H p vC vR sE rv) :
  ∃ s o H', R (T k) F.swashlaw07_Write [.agg #[vC, vR, sE, .int .u8 p.wide], .int .i64 w, .int .i64 room] H = .ok s H' ∧ Star H0 H' (L ++ [itRow o 1 s encB (planBytes p w room)]) ∧ Ext H H' := by
 obtain ⟨s, H', e, ho, hx⟩ := Write_coreG k p hp w hw room hroom h1 h2 h3 hP.cls hP.fst hP.each hP.rows hP.ents;obtain ⟨o, g⟩ := g.more_own ho hx;exact ⟨s, o, H', by rw [swashlaw07_Write_R, hW]; exact nrm_of e, g, hx⟩
end Go.Sw
end
section
set_option maxRecDepth 100000
set_option linter.unusedVariables false
namespace Go.Sw
noncomputable section
end
end Go.Sw
end
section
namespace Go.Sw
open Go.RowKit
theorem inS_piece {b : List Int} {i n : Int} : (pieceS b i n).isSome = inS b.length i n := by
 unfold pieceS inS;split
 ·rename_i h; rw [decide_eq_true h]; rfl
 ·rename_i h; rw [decide_eq_false h]; rfl
theorem uS_of_in {b : List Int} {i n : Int} (h : inS b.length i n = true) : ∃ x, uS b i n = some x := by
 rw [← inS_piece, Option.isSome_iff_exists] at h;obtain ⟨r, hr⟩ := h;exact ⟨num r, by unfold uS; rw [hr]; rfl⟩
end Go.Sw
end
section
set_option maxRecDepth 100000
set_option linter.unusedVariables false
namespace Go.Sw
noncomputable section
end
end Go.Sw
end
section
namespace Go.Sw
open Go.RowKit
end Go.Sw
end
section
namespace Go.Sw
open Go.RowKit
end Go.Sw
end
section
namespace Go.Sw
open Go.RowKit
def RP.ok (r : RP) : Prop := -1 ≤ r.first ∧ r.first ≤ 65536 ∧ -1 ≤ r.last ∧ r.last ≤ 65536 ∧ -1 ≤ r.pos ∧ r.pos < 2 ^ 35 ∧ 0 ≤ r.step ∧ r.step ≤ 4 ∧ 0 ≤ r.size ∧ r.size ≤ 4
end Go.Sw
end
section
namespace Go.Sw
open Go.RowKit
end Go.Sw
end
section
namespace Go.Sw
open Go.RowKit
def planRoom (p : Plan) (w : Int) (rm : List Int) : List Int :=
 bytesOf (planN p : Int) 4 ++ (bytesOf (16 + rm.length : Int) 4 ++ (bytesOf (16 + rm.length + (ofS p.cls).length : Int) 4 ++ (bytesOf (16 + rm.length + (ofS p.cls).length + (rowsL (planN p) p.rows).length : Int) 4 ++ (rm ++ (ofS p.cls ++ (rowsL (planN p) p.rows ++ entsB w p.ents))))))
theorem planBytes_room (p : Plan) (w : Int) (room : Nat) : planBytes p w room = planRoom p w (List.replicate room 0) := by
 unfold planBytes planRoom;simp [List.append_assoc]
end Go.Sw
end
section
namespace Go.Sw
open Go.RowKit
end Go.Sw
end
section
namespace Go.Sw
open Go.RowKit
end Go.Sw
end
section
set_option maxRecDepth 100000
set_option linter.unusedVariables false
namespace Go.Sw
noncomputable section
def drive_Run_l1 (k : Nat) (call : Caller) : Env → Heap → Res (AExit × Env) := loopB (C k) call F.drive_Run [1, 1, 1, 0, 0, 0]
def drive_Run_l1k (k : Nat) (call : Caller) : Kont Value := kBlock 0 (kSeq (pieceK (C k) call F.drive_Run [1, 1, 1, 1]) (kDone Prog (resOf Prog F.drive_Run)))
def drive_Run (k : Nat) (call : Caller) (a0 a1 a2 : Value) (h : Heap) : Res Value :=
 (buildR Prog 297 [(0, a0), (1, a1)] h).bind fun v1 h2 =>
 (boxR v1 h2).bind fun v3 h4 =>
 (call F.line_Line_Len [a1] h4).bind fun v5 h6 =>
 (binR Prog .mul 3 (.int .i64 2) v5 h6).bind fun v7 h8 =>
 (binR Prog .add 3 v7 (.int .i64 128) h8).bind fun v9 h10 =>
 (loopN (drive_Run_l1 k call) loopFuel [(2, a2), (8, v3), (9, v9)] h10).bind fun r11 h12 =>
 drive_Run_l1k k call r11.1 r11.2 h12
theorem drive_Run_R (k : Nat) (a0 a1 a2 : Value) (h : Heap) : R (T k) F.drive_Run [a0, a1, a2] h = nrm .no h (drive_Run k (R (T k)) a0 a1 a2 h) :=
 (R_body (t := T k) (T_scott k) (by kernel_rfl) (by kernel_rfl) _ _).trans (by kernel_rfl)
theorem drive_Run_l1_eq (k : Nat) (call : Caller) (a2 a8 a9 : Value) (h : Heap) : drive_Run_l1 k call [(2, a2), (8, a8), (9, a9)] h =
 (nilR a8 h).bind fun v13 h14 =>
 (fieldAddrR Prog 297 v13 4 h14).bind fun v15 h16 =>
 (loadR Prog 3 v15 h16).bind fun v17 h18 =>
 (binR Prog .lss 3 v17 a9 h18).bind fun v19 h20 =>
 condV (some v19) (
 (call F.drive_driver_step [a8, a2] h20).bind fun v21 h22 =>
 condV (some v21) (
 (nilR a8 h22).bind fun v23 h24 =>
 (fieldAddrR Prog 297 v23 4 h24).bind fun v25 h26 =>
 (loadR Prog 3 v25 h26).bind fun v27 h28 =>
 .ok (.ret, [(6, v27), (7, (.int .i64 0))]) h28)
 (
 (nilR a8 h22).bind fun v29 h30 =>
 (fieldAddrR Prog 297 v29 5 h30).bind fun v31 h32 =>
 (loadR Prog 3 v31 h32).bind fun v33 h34 =>
 (binR Prog .gtr 3 v33 (.int .i64 64) h34).bind fun v35 h36 =>
 condV (some v35) (
 .ok ((.exit 0), [(2, a2), (8, a8), (9, a9), (35, v35)]) h36)
 (
 .ok (.normal, [(2, a2), (8, a8), (9, a9)]) h36)))
 (
 .ok ((.exit 0), [(2, a2), (8, a8), (9, a9), (23, v19)]) h20) :=
 (loopB_eq _ _).trans (by kernel_rfl)
theorem drive_Run_l1k_r (k : Nat) (call : Caller) (a6 a7 : Value) (h : Heap) : drive_Run_l1k k call .ret [(6, a6), (7, a7)] h =
 .ok (.tuple #[a6, a7]) h := by kernel_rfl
theorem drive_Run_l1k_x0 (k : Nat) (call : Caller) (a2 a8 a9 a35 : Value) (h : Heap) : drive_Run_l1k k call (.exit 0) [(2, a2), (8, a8), (9, a9), (35, a35)] h =
 (nilR a8 h).bind fun v37 h38 =>
 (fieldAddrR Prog 297 v37 4 h38).bind fun v39 h40 =>
 (loadR Prog 3 v39 h40).bind fun v41 h42 =>
 .ok (.tuple #[v41, (.int .i64 4)]) h42 := by kernel_rfl
theorem drive_Run_l1k_x0_1 (k : Nat) (call : Caller) (a2 a8 a9 a23 : Value) (h : Heap) : drive_Run_l1k k call (.exit 0) [(2, a2), (8, a8), (9, a9), (23, a23)] h =
 (nilR a8 h).bind fun v43 h44 =>
 (fieldAddrR Prog 297 v43 4 h44).bind fun v45 h46 =>
 (loadR Prog 3 v45 h46).bind fun v47 h48 =>
 .ok (.tuple #[v47, (.int .i64 4)]) h48 := by kernel_rfl
def drive_driver_step (k : Nat) (call : Caller) (a0 a1 : Value) (h : Heap) : Res Value :=
 (call F.drive_driver_class [a0] h).bind fun v1 h2 =>
 (extractR v1 0 h2).bind fun v3 h4 =>
 (extractR v1 1 h4).bind fun v5 h6 =>
 (nilR a0 h6).bindN fun v7 h8 =>
 (fieldAddrR Prog 297 v7 0 h8).bindN fun v9 h10 =>
 (loadR Prog 180 v9 h10).bindN fun v11 h12 =>
 (nilR a0 h12).bindN fun v13 h14 =>
 (fieldAddrR Prog 297 v13 2 h14).bindN fun v15 h16 =>
 (loadR Prog 3 v15 h16).bindN fun v17 h18 =>
 (call F.state_Machine_Step [v11, v17, v3] h18).bindT (fun p21 h22 => (allocR Prog 31 h18).bindN fun v23 h24 => .panic p21 h22) fun v19 h20 =>
 (extractR v19 0 h20).bindN fun v25 h26 =>
 (extractR v19 1 h26).bindN fun v27 h28 =>
 (allocR Prog 31 h28).bindN fun v29 h30 =>
 (storeR Prog 31 v29 v25 h30).bindN fun _v31 h32 =>
 (nilR a0 h32).bind fun v33 h34 =>
 (fieldAddrR Prog 297 v33 4 h34).bind fun v35 h36 =>
 (loadR Prog 3 v35 h36).bind fun v37 h38 =>
 (binR Prog .add 3 v37 (.int .i64 1) h38).bind fun v39 h40 =>
 (nilR a0 h40).bind fun v41 h42 =>
 (fieldAddrR Prog 297 v41 4 h42).bind fun v43 h44 =>
 (storeR Prog 3 v43 v39 h44).bind fun _v45 h46 =>
 (fieldAddrR Prog 31 v29 0 h46).bind fun v47 h48 =>
 (loadR Prog 3 v47 h48).bind fun v49 h50 =>
 (nilR a0 h50).bind fun v51 h52 =>
 (fieldAddrR Prog 297 v51 2 h52).bind fun v53 h54 =>
 (storeR Prog 3 v53 v49 h54).bind fun _v55 h56 =>
 (nilR a0 h56).bindN fun v57 h58 =>
 (fieldAddrR Prog 297 v57 3 h58).bindN fun v59 h60 =>
 (loadR Prog 3 v59 h60).bindN fun v61 h62 =>
 (loadR Prog 31 v29 h62).bindN fun v63 h64 =>
 (callV call a1 [v61, v63] h64).bindT (fun p67 h68 => .panic p67 h68) fun v65 h66 =>
 (extractR v65 0 h66).bindN fun v69 h70 =>
 (extractR v65 1 h70).bindN fun v71 h72 =>
 (fieldAddrR Prog 31 v29 1 h72).bind fun v73 h74 =>
 (loadR Prog 3 v73 h74).bind fun v75 h76 =>
 (binR Prog .and 3 v75 (.int .i64 16384) h76).bind fun v77 h78 =>
 (binR Prog .neq 3 v77 (.int .i64 0) h78).bind fun v79 h80 =>
 condV (some v79) (
 (builtinV Prog .max [3, 3] [v69, (.int .i64 0)] h80).bind fun v81 h82 =>
 (nilR a0 h82).bind fun v83 h84 =>
 (fieldAddrR Prog 297 v83 3 h84).bind fun v85 h86 =>
 (storeR Prog 3 v85 v81 h86).bind fun _v87 h88 =>
 (nilR a0 h88).bind fun v89 h90 =>
 (fieldAddrR Prog 297 v89 5 h90).bind fun v91 h92 =>
 (loadR Prog 3 v91 h92).bind fun v93 h94 =>
 (binR Prog .add 3 v93 (.int .i64 1) h94).bind fun v95 h96 =>
 (nilR a0 h96).bind fun v97 h98 =>
 (fieldAddrR Prog 297 v97 5 h98).bind fun v99 h100 =>
 (storeR Prog 3 v99 v95 h100).bind fun _v101 h102 =>
 .ok (.bool false) h102)
 (
 (builtinV Prog .max [3, 3] [v71, (.int .i64 0)] h80).bind fun v103 h104 =>
 (nilR a0 h104).bind fun v105 h106 =>
 (fieldAddrR Prog 297 v105 3 h106).bind fun v107 h108 =>
 (storeR Prog 3 v107 v103 h108).bind fun _v109 h110 =>
 (nilR a0 h110).bind fun v111 h112 =>
 (fieldAddrR Prog 297 v111 5 h112).bind fun v113 h114 =>
 (storeR Prog 3 v113 (.int .i64 0) h114).bind fun _v115 h116 =>
 .ok v5 h116)
theorem drive_driver_step_R (k : Nat) (a0 a1 : Value) (h : Heap) : R (T k) F.drive_driver_step [a0, a1] h = nrm .no h (drive_driver_step k (R (T k)) a0 a1 h) :=
 (R_body (t := T k) (T_scott k) (by kernel_rfl) (by kernel_rfl) _ _).trans (by kernel_rfl)
def drive_driver_class (k : Nat) (call : Caller) (a0 : Value) (h : Heap) : Res Value :=
 (nilR a0 h).bindN fun v1 h2 =>
 (fieldAddrR Prog 297 v1 1 h2).bindN fun v3 h4 =>
 (loadR Prog 44 v3 h4).bindN fun v5 h6 =>
 (nilR a0 h6).bindN fun v7 h8 =>
 (fieldAddrR Prog 297 v7 3 h8).bindN fun v9 h10 =>
 (loadR Prog 3 v9 h10).bindN fun v11 h12 =>
 (call F.line_Line_At [v5, v11] h12).bindT (fun p15 h16 => (allocR Prog 115 h12).bindN fun v17 h18 => .panic p15 h16) fun v13 h14 =>
 (extractR v13 0 h14).bindN fun v19 h20 =>
 (extractR v13 1 h20).bindN fun v21 h22 =>
 (allocR Prog 115 h22).bindN fun v23 h24 =>
 (storeR Prog 115 v23 v19 h24).bindN fun _v25 h26 =>
 (unR .not v21 h26).bind fun v27 h28 =>
 condV (some v27) (
 .ok (.tuple #[(.int .i64 0), (.bool true)]) h28)
 (
 (nilR a0 h28).bindN fun v29 h30 =>
 (fieldAddrR Prog 297 v29 0 h30).bindN fun v31 h32 =>
 (loadR Prog 180 v31 h32).bindN fun v33 h34 =>
 (fieldAddrR Prog 115 v23 0 h34).bindN fun v35 h36 =>
 (loadR Prog 3 v35 h36).bindN fun v37 h38 =>
 (call F.state_Machine_Class [v33, v37] h38).bindT (fun p41 h42 => .panic p41 h42) fun v39 h40 =>
 .ok (.tuple #[v39, (.bool false)]) h40)
theorem drive_driver_class_R (k : Nat) (a0 : Value) (h : Heap) : R (T k) F.drive_driver_class [a0] h = nrm .gc h (drive_driver_class k (R (T k)) a0 h) :=
 (R_body (t := T k) (T_scott k) (by kernel_rfl) (by kernel_rfl) _ _).trans (by kernel_rfl)
end
end Go.Sw
end
section
namespace Go.Sw
open Go.RowKit
theorem Star.stEnd {H0 H : Heap} {A B : List It} {c : Nat} {cells : List Value} {e : Nat} (h : Star H0 H (A ++ itBlk c ⟨cells, e, false⟩ :: B)) (off : Nat) {v : Value} (hs : storable v = true) (hc : v.cells = #[v]) (ho : off < cells.length) :
  ∃ H', stR 1 (.pointer (some ⟨c, off, none⟩)) v H = .ok undef H' ∧ Star H0 H' (A ++ itBlk c ⟨cells.set off v, e, false⟩ :: B) := by
 obtain ⟨H', h1, h2, _⟩ := h.stCell A.length (c := c) (cells := cells) (e := e) (by simp) off hs hc ho;exact ⟨H', h1, by simpa using h2⟩
structure Drv where
 st : Int
 pl : Int
 stp : Int
 rest : Int
abbrev drvC (m : Mach) (c : Nat) (d : Drv) : List Value := [machV m, ptrV c, .int .i64 d.st, .int .i64 d.pl, .int .i64 d.stp, .int .i64 d.rest]
def clsS (m : Mach) (l : List Gl) (pl : Int) : Int × Bool := match atG l pl with | some g => (classS m g.id, false) | none => (0, true)
def entS (m : Mach) (l : List Gl) (d : Drv) : En := (stepS m d.st (clsS m l d.pl).1).getD ⟨0, 0, 0, 0⟩
abbrev encE (e : En) : Value := .agg (encEn e).toArray
theorem take_mid {α : Type} (x : α) (B : List α) : ∀ A : List α, (A ++ x :: B).take (A.length + 1) = A ++ [x]
 | [] => rfl
 | a :: A => by simp [take_mid x B A]
theorem and_two14 (n : Nat) : n &&& 2 ^ 14 = if n.testBit 14 then 2 ^ 14 else 0 := by
 apply Nat.eq_of_testBit_eq;intro i;rw [Nat.testBit_and, Nat.testBit_two_pow];by_cases h : 14 = i
 ·subst h;cases hb : n.testBit 14 <;> simp <;> decide
 ·cases hb : n.testBit 14
  ·simp [h]
  ·simp only [h, decide_false, Bool.and_false, if_true, Nat.testBit_two_pow]
theorem and14 (P : Program) (t : TypeId) (H : Heap) {a : Int} (h0 : 0 ≤ a) (h1 : a < 65536) : binR P .and t (.int .i64 a) (.int .i64 16384) H = .ok (.int .i64 (if a / 16384 % 2 = 1 then 16384 else 0)) H := by
 have e : (BitVec.ofInt 64 a &&& BitVec.ofInt 64 16384).toNat = (if a / 16384 % 2 = 1 then 16384 else 0) := by
  rw [BitVec.toNat_and, BitVec.toNat_ofInt, BitVec.toNat_ofInt];rw [show ((16384 : Int) % ((2 ^ 64 : Nat) : Int)).toNat = 2 ^ 14 from by decide, and_two14, Nat.testBit_eq_decide_div_mod_eq];obtain ⟨n, rfl⟩ := Int.eq_ofNat_of_zero_le h0;rw [show (((n : Int)) % ((2 ^ 64 : Nat) : Int)).toNat = n by omega];by_cases h : (n : Int) / 16384 % 2 = 1
  ·rw [if_pos h, decide_eq_true (show n / 2 ^ 14 % 2 = 1 by omega)]; rfl
  ·rw [if_neg h, decide_eq_false (show ¬ n / 2 ^ 14 % 2 = 1 by omega)]; rfl
 have e1 : binV P .and t (.int .i64 a) (.int .i64 16384) = some (.int .i64 (IntKind.i64.wrap (BitVec.ofInt 64 a &&& BitVec.ofInt 64 16384).toNat)) := rfl;unfold binR;rw [e1, e];by_cases h : a / 16384 % 2 = 1
 ·simp [h]
 ·simp [h]
theorem driverClass_run (k : Nat) (m : Mach) (hm : m.ok) {H0 H : Heap} {L : List It} (h : Star H0 H L) {c q : Nat} {o : Option Nat} {l : List Gl} {d : Drv} (i : Nat) (hi : L[i]? = some (itLine c o l)) (hq : H.get q = some ⟨drvC m c d, 1, false⟩) :
  R (T k) F.drive_driver_class [ptrV q] H = .ok (.tuple #[.int .i64 (clsS m l d.pl).1, .bool (clsS m l d.pl).2]) H := by
 rw [drive_driver_class_R];have hat := lineAt_run k h i hi d.pl;have fl : ∀ (a : Int) b, Flat (.tuple #[.int .i64 a, .bool b]) := fun a b => .tupleL (.cons (.int _ _) (.cons (.bool _) .nil));unfold clsS;have hqn : ¬ q = H.n := by have := Heap.get_lt hq; omega
 cases ha : atG l d.pl with
 | none =>
  rw [ha] at hat;refine nrm_gc ⟨H.push ⟨[.int .i64 0, .int .i64 0], 1, false⟩, ?_, (Ext.refl H).push _⟩ (fl _ _).alive;unfold encA at hat;simp at hat;simp -implicitDefEqProofs (disch := omega) [drive_driver_class, hq, hat]
 | some g =>
  rw [ha] at hat;have hc := fun H' => Class_run k m hm g.id H';refine nrm_gc ⟨H.push ⟨encG g, 1, false⟩, ?_, (Ext.refl H).push _⟩ (fl _ _).alive;unfold encA at hat;simp at hat;simp -implicitDefEqProofs (disch := omega) [drive_driver_class, hq, hqn, hat, hc]
theorem entS_bound {m : Mach} (hm : m.ok) (l : List Gl) (d : Drv) : let e := entS m l d; 0 ≤ e.next ∧ e.next < 65536 ∧ 0 ≤ e.flags ∧ e.flags < 65536 ∧ 0 ≤ e.a ∧ e.a < 65536 ∧ 0 ≤ e.b ∧ e.b < 65536 := by
 dsimp only;unfold entS;cases h : stepS m d.st (clsS m l d.pl).1 with
 | none => simp
 | some x =>
  have hx : x ∈ m.ents := by
   unfold stepS at h;split at h
   ·obtain ⟨r, _, h⟩ := Option.bind_eq_some_iff.1 h;obtain ⟨y, _, h⟩ := Option.bind_eq_some_iff.1 h;exact List.mem_of_getElem? h
   ·cases h
  have := hm.ent x hx;have := hm.two;simp only [Option.getD_some];omega
theorem getS_pos {ps : List Pt} (hok : ∀ p, p ∈ ps → p.ok) {id x : Int} (h : getS ps id = some x) : 0 ≤ x := by
 unfold getS at h;obtain ⟨p, hp, h⟩ := Option.bind_eq_some_iff.1 h;split at h
 ·exact ((hok p (List.mem_of_find?_eq_some hp)).2.2.2.2.2 x (List.mem_of_getElem? h)).1
 ·cases h
theorem classS_bound {m : Mach} (hm : m.ok) (id : Int) : 0 ≤ classS m id ∧ classS m id < m.classes := by
 have := hm.cl;unfold classS;split
 ·omega
 ·split
  ·rename_i c hc;have := getS_pos hm.pts hc;split <;> omega
  ·omega
theorem clsS_bound {m : Mach} (hm : m.ok) (l : List Gl) (p : Int) : 0 ≤ (clsS m l p).1 ∧ (clsS m l p).1 < m.classes := by
 have := hm.cl;unfold clsS;split
 ·exact classS_bound hm _
 ·dsimp only; omega
theorem entS_mem {m : Mach} (hm : m.ok) (l : List Gl) (d : Drv) (h : 0 ≤ d.st ∧ d.st < m.rows.length) : entS m l d ∈ m.ents := by
 have hc := clsS_bound hm l d.pl;obtain ⟨r, x, e, _, _, _, he, hs⟩ := stepS_some hm (s := d.st) (c := (clsS m l d.pl).1) ⟨h.1, h.2, hc.1, hc.2⟩;unfold entS;rw [hs];exact List.mem_of_getElem? he
variable {σ : Type}
def stepD (m : Mach) (ln : σ → List Gl) (f : σ → Int → En → σ × Int × Int) (x : σ × Drv) : (σ × Drv) × Bool :=
 if (entS m (ln x.1) x.2).flags / 16384 % 2 = 1 then (((f x.1 x.2.pl (entS m (ln x.1) x.2)).1, ⟨(entS m (ln x.1) x.2).next, max (f x.1 x.2.pl (entS m (ln x.1) x.2)).2.1 0, x.2.stp + 1, x.2.rest + 1⟩), false)
 else (((f x.1 x.2.pl (entS m (ln x.1) x.2)).1, ⟨(entS m (ln x.1) x.2).next, max (f x.1 x.2.pl (entS m (ln x.1) x.2)).2.2 0, x.2.stp + 1, 0⟩), (clsS m (ln x.1) x.2.pl).2)
end Go.Sw
end
section
namespace Go.Sw
open Go.RowKit
variable {σ : Type}
def runD (m : Mach) (ln : σ → List Gl) (f : σ → Int → En → σ × Int × Int) (most : Int) : Nat → σ × Drv → Int × Int × σ
  | 0, x => (x.2.stp, 4, x.1)
  | n + 1, x => if x.2.stp < most then
      (if (stepD m ln f x).2 then ((stepD m ln f x).1.2.stp, 0, (stepD m ln f x).1.1)
       else if (stepD m ln f x).1.2.rest > 64 then ((stepD m ln f x).1.2.stp, 4, (stepD m ln f x).1.1)
       else runD m ln f most n (stepD m ln f x).1)
    else (x.2.stp, 4, x.1)
theorem stepD_stp (m : Mach) (ln : σ → List Gl) (f : σ → Int → En → σ × Int × Int) (x : σ × Drv) : (stepD m ln f x).1.2.stp = x.2.stp + 1 := by unfold stepD; split <;> rfl
theorem stepD_pl (m : Mach) (ln : σ → List Gl) (f : σ → Int → En → σ × Int × Int) (x : σ × Drv) : 0 ≤ (stepD m ln f x).1.2.pl := by unfold stepD; split <;> (dsimp only; omega)
theorem stepD_rest (m : Mach) (ln : σ → List Gl) (f : σ → Int → En → σ × Int × Int) (x : σ × Drv) (h : 0 ≤ x.2.rest) : 0 ≤ (stepD m ln f x).1.2.rest ∧ (stepD m ln f x).1.2.rest ≤ x.2.rest + 1 := by unfold stepD; split <;> (dsimp only; omega)
end Go.Sw
end
section
set_option maxRecDepth 100000
set_option linter.unusedVariables false
namespace Go.Sw
noncomputable section
end
end Go.Sw
end
section
namespace Go.Sw
open Go.RowKit
end Go.Sw
end
section
namespace Go.Sw
open Go.RowKit
end Go.Sw
end
section
namespace Go.Sw
theorem row_I {r : List Da} {cs : List Value} (h : LayRow [.int .i64] r cs) : ∃ n : Int, cs = encI n ∧ (Lit.int .i64 n).wf = true := by
 obtain ⟨d, v, ds, vs, rfl, h1, h2⟩ := h.head;obtain rfl := h2.done;obtain ⟨n, rfl, w⟩ := h1.intv;exact ⟨n, rfl, w⟩
theorem wf_u8 {n : Int} (h : (Lit.int .u8 n).wf = true) : 0 ≤ n ∧ n < 256 := by
 simp [Lit.wf, IntKind.min, IntKind.max, IntKind.signed, IntKind.bits] at h;omega
theorem wf_u16 {n : Int} (h : (Lit.int .u16 n).wf = true) : 0 ≤ n ∧ n < 65536 := by
 simp [Lit.wf, IntKind.min, IntKind.max, IntKind.signed, IntKind.bits] at h;omega
theorem row_B {r : List Da} {cs : List Value} (h : LayRow [.int .u8] r cs) : ∃ n : Int, cs = encB n ∧ (0 ≤ n ∧ n < 256) := by
 obtain ⟨d, v, ds, vs, rfl, h1, h2⟩ := h.head;obtain rfl := h2.done;obtain ⟨n, rfl, w⟩ := h1.intv;exact ⟨n, rfl, wf_u8 w⟩
theorem arg_B {v : Value} (h : ArgLay (.one (.slice [.int .u8])) v) : ∃ b, v = lv encB b ∧ Byt b := by
 obtain ⟨d, h1⟩ := h.cell;obtain ⟨b, rfl, hb⟩ := Lay.list (enc := encB) (ok := fun n => 0 ≤ n ∧ n < 256) (fun r cs h => row_B h) h1;exact ⟨b, rfl, hb⟩
theorem arg_I {v : Value} (h : ArgLay (.one (.slice [.int .i64])) v) : ∃ l, v = lv encI l ∧ ∀ n, n ∈ l → (Lit.int .i64 n).wf = true := by
 obtain ⟨d, h1⟩ := h.cell;exact Lay.list (enc := encI) (ok := fun n => (Lit.int .i64 n).wf = true) (fun r cs h => row_I h) h1
theorem arg_i {k : IntKind} {v : Value} (h : ArgLay (.one (.int k)) v) : ∃ n, v = .int k n ∧ (Lit.int k n).wf = true := by
 obtain ⟨d, h1⟩ := h.cell;exact h1.intv
end Go.Sw
end
section
namespace Go.Sw
open Go.RowKit
end Go.Sw
end
section
namespace Go.Sw
open Go.RowKit
theorem planRoom_byt {p : Plan} (hp : p.ok) (w : Int) {rm : List Int} (hrm : Byt rm) : Byt (planRoom p w rm) := by
 have tw : ∀ l, Byt (twos l) := fun l => Byt.flat fun r hr => by obtain ⟨c, _, rfl⟩ := List.mem_map.1 hr; exact bytesOf_byt _ _
 unfold planRoom;refine (bytesOf_byt _ _).app ((bytesOf_byt _ _).app ((bytesOf_byt _ _).app ((bytesOf_byt _ _).app (hrm.app (Byt.app ?_ (Byt.app ?_ ?_))))))
 ·unfold ofS;exact (((bytesOf_byt _ _).app (bytesOf_byt _ _)).app (bytesOf_byt _ _)).app (tw _)
 ·exact Byt.flat fun r hr => by obtain ⟨c, _, rfl⟩ := List.mem_map.1 hr; exact tw _
 ·refine Byt.flat fun r hr => ?_;obtain ⟨e, _, rfl⟩ := List.mem_map.1 hr;unfold entB;refine (((bytesOf_byt _ _).app (bytesOf_byt _ _)).app ?_).app ?_
  ·split
   ·exact bytesOf_byt _ _
   ·exact Byt.nil
  ·split
   ·exact bytesOf_byt _ _
   ·exact Byt.nil
theorem planRoom_len {p : Plan} (hp : p.ok) (w : Int) {rm : List Int} (hrm : rm.length ≤ 1000) (h1 : p.cls.length ≤ 1000) (h2 : p.rows.length ≤ 1000) (h3 : p.ents.length ≤ 1000) : (planRoom p w rm).length ≤ 100000 := by
 have hN := planN_eq p hp.2.2;have hofl : (ofS p.cls).length = 6 + p.cls.length * 2 := by unfold ofS; simp [twos_len]; omega
 have hrl : (rowsL (planN p) p.rows).length ≤ 1000 * 22 := by rw [rowsL_len]; exact Nat.mul_le_mul h2 (by omega)
 have hel := entsB_len w p.ents;unfold planRoom;simp;omega
theorem row_En {r : List Da} {cs : List Value} (h : LayRow [.int .i64, .int .i64, .int .i64, .int .i64] r cs) : ∃ p : En, cs = encEn p ∧ True := by
 obtain ⟨_, v1, _, _, rfl, h1, h⟩ := h.head;obtain ⟨_, v2, _, _, rfl, h2, h⟩ := h.head;obtain ⟨_, v3, _, _, rfl, h3, h⟩ := h.head;obtain ⟨_, v4, _, _, rfl, h4, h⟩ := h.head;obtain rfl := h.done;obtain ⟨a, rfl, _⟩ := h1.intv;obtain ⟨b, rfl, _⟩ := h2.intv;obtain ⟨c, rfl, _⟩ := h3.intv;obtain ⟨d, rfl, _⟩ := h4.intv;exact ⟨⟨a, b, c, d⟩, rfl, trivial⟩
theorem row_BR {r : List Da} {cs : List Value} (h : LayRow [.slice [.int .u8]] r cs) : ∃ b : List Int, cs = encBR b ∧ Byt b := by
 obtain ⟨_, v1, _, _, rfl, h1, h⟩ := h.head;obtain rfl := h.done;obtain ⟨b, rfl, hb⟩ := Lay.list (enc := encB) (ok := fun n => 0 ≤ n ∧ n < 256) (fun r cs h => row_B h) h1;exact ⟨b, rfl, hb⟩
end Go.Sw
end
section
namespace Go.Sw
open Go.RowKit
variable {σ : Type}
end Go.Sw
end
section
namespace Go.Sw
open Go.RowKit Go.Proofs
set_option maxRecDepth 20000 in
theorem catch_short (p : Addr) (b : Bool) (w : World) (hc : (w.alloc (.cells #[] 200)).cell? p = some (.bool b)) (hz : (w.alloc (.cells #[] 200)).frozen? p = false) :
  CallsD Prog 105 #[.pointer (some p)] (.panicking [{ v := .iface 200 (.agg #[]), recovered := false }]) w fun e u' w' =>
   e = .returned (.tuple #[]) ∧ u' = .panicking [{ v := .iface 200 (.agg #[]), recovered := true }] ∧ w' = (w.alloc (.cells #[] 200)).setCell p (.bool false) := by
 refine callsD_of_wpS Try.func105 rfl fun c₀ cs hu => ?_;apply wpS_seq;apply wpS_region;simp [wpOpsS, go_sem, recoverD, hu, Try.ntmps105, Exit.thenS];have hta : ∀ w, (Instr.typeAssert (.iface 200 (.agg #[])) 20 200 true).run Prog w = .ok (.tuple #[.agg #[], .bool true]) w := fun w => by kernel_rfl
 refine wpS_of_wp ?_
 go_wp2
 cases c₀;simp_all [bodyPostS, results, Try.results105]
theorem catch_idle (p : Addr) (w : World) :
  CallsD Prog 105 #[.pointer (some p)] .returning w fun e u' w' => e = .returned (.tuple #[]) ∧ u' = .returning ∧ w' = w := by
 refine callsD_of_wpS Try.func105 rfl fun c₀ cs hu => ?_;apply wpS_seq;apply wpS_region;simp [wpOpsS, go_sem, recoverD, hu, Try.ntmps105, Exit.thenS];refine wpS_of_wp ?_
 go_wp2
 cases c₀;simp_all [bodyPostS, results, Try.results105]
set_option maxRecDepth 20000 in
theorem try_walk (g : FuncId) (first cap : Array Value) (w : World) (R : Ending → World → Prop)
  (hcf : (callFunc g (first ++ cap)).run Prog (w.alloc (.cells #[.bool false] 4)) = .ok (.enter g (first ++ cap)) (w.alloc (.cells #[.bool false] 4)))
  (hcall : Calls Prog g (first ++ cap) (w.alloc (.cells #[.bool false] 4)) fun e w' => match e with
   | .returned _ => w'.heap[w.heap.size]? = some (.cells #[.bool false] 4 (0, 0)) ∧ R (.returned (.bool true)) (w'.setCell ⟨w.heap.size, 0, none⟩ (.bool true))
   | .panicked chain => chain = [{ v := .iface 200 (.agg #[]), recovered := false }] ∧ w'.heap[w.heap.size]? = some (.cells #[.bool false] 4 (0, 0)) ∧ R (.returned (.bool false)) ((w'.alloc (.cells #[] 200)).setCell ⟨w.heap.size, 0, none⟩ (.bool false))
   | .outgrown => False) :
  Calls Prog 35 #[.func (.func g) first cap] w R := by
 have hmf : ∀ (fn : Fn) (first cap : Array Value) (w : World), (Instr.makeFunc fn first cap).run Prog w = .ok (.func fn first cap) w := fun _ _ _ _ => rfl
 go_enter_defers Try.func35, Try.ntmps35
 go_wp2
 rename_i K2 hK2 K1 hK1;refine hcall.mono fun e w' he => ?_;cases e with
 | returned v =>
  obtain ⟨h1, h2⟩ := he;have hc : w'.cell? ⟨w.heap.size, 0, none⟩ = some (.bool false) := by simp [World.cell?, h1]
  have hz : w'.frozen? ⟨w.heap.size, 0, none⟩ = false := by simp [World.frozen?, h1]
  apply hK1;apply hK2
  go_wp2
  have hc2 : (w'.setCell ⟨w.heap.size, 0, none⟩ (.bool true)).cell? ⟨w.heap.size, 0, none⟩ = some (.bool true) := World.cell?_setCell_same _ _ _ hc;refine leaves_cons (f := 105) (args := #[.pointer (some ⟨w.heap.size, 0, none⟩)]) (by simp) (by simp [go_sem]) ?_;refine (catch_idle ⟨w.heap.size, 0, none⟩ _).mono ?_;rintro e u' w'' ⟨rfl, rfl, rfl⟩;simp [Leaves, settle, results, Try.results35, go_sem, hc2];exact h2
 | panicked chain =>
  obtain ⟨h0, h1, h2⟩ := he;subst h0;have hlt : w.heap.size < w'.heap.size := by
   rcases Nat.lt_or_ge w.heap.size w'.heap.size with h | h
   ·exact h
   ·rw [Array.getElem?_eq_none h] at h1; cases h1
  have h3 : (w'.alloc (.cells #[] 200)).heap[w.heap.size]? = some (.cells #[.bool false] 4 (0, 0)) := by
   rw [heap_alloc_lt _ _ _ hlt]; exact h1
  have hc : (w'.alloc (.cells #[] 200)).cell? ⟨w.heap.size, 0, none⟩ = some (.bool false) := by simp only [World.cell?, h3]; rfl
  have hz : (w'.alloc (.cells #[] 200)).frozen? ⟨w.heap.size, 0, none⟩ = false := by simp [World.frozen?, h3]
  have hc2 : ((w'.alloc (.cells #[] 200)).setCell ⟨w.heap.size, 0, none⟩ (.bool false)).cell? ⟨w.heap.size, 0, none⟩ = some (.bool false) := World.cell?_setCell_same _ _ _ hc;show Leaves _ _ _ _ _ _ _;refine leaves_cons (f := 105) (args := #[.pointer (some ⟨w.heap.size, 0, none⟩)]) (by simp) (by simp [go_sem]) ?_;refine (catch_short ⟨w.heap.size, 0, none⟩ false _ hc hz).mono ?_;rintro e u' w'' ⟨rfl, rfl, rfl⟩;simp [Leaves, settle, results, Try.results35, go_sem, hc2];exact h2
 | outgrown => exact he.elim
theorem try_is : SpIs Prog 35 (tryV 200) := try_of (bt := 4) Try.func35 rfl (by kernel_rfl) try_walk
end Go.Sw
end
section
namespace Go.Sw
open Go.RowKit
structure CTab.ok (t : CTab) : Prop where
 m : t.m.ok
 subs : ∀ x, x ∈ t.subs → (∀ p, p ∈ x.2 → p.ok) ∧ risesS x.2 = true ∧ x.2.length < 2 ^ 31
 has : ∀ e, e ∈ t.m.ents → (e.a = 65535 ∨ e.a < t.subs.length) ∧ (e.b = 65535 ∨ e.b < t.subs.length)
end Go.Sw
end
section
namespace Go.Sw
open Go.RowKit
end Go.Sw
end
section
namespace Go.Sw
open Go.RowKit
variable {σ : Type}
theorem clsS_over (m : Mach) (l : List Gl) (j : Nat) : (clsS m l j).2 = decide (l.length ≤ j) := by
 unfold clsS atG;by_cases h2 : (j : Int) < l.length
 ·obtain ⟨g, hg⟩ : ∃ g, l[j]? = some g := ⟨_, List.getElem?_eq_getElem (by omega)⟩
  rw [if_pos ⟨by omega, h2⟩, Int.toNat_natCast, hg, decide_eq_false (by omega)]
 ·rw [if_neg (fun hc => h2 hc.2), decide_eq_true (by omega)]
end Go.Sw
end
section
namespace Go.Sw
open Go.RowKit
theorem planRoom_size (p : Plan) (w : Int) (rm rm' : List Int) (h : rm.length = rm'.length) : (planRoom p w rm).length = (planRoom p w rm').length := by
 unfold planRoom;simp [h]
end Go.Sw
end
section
namespace Go.Sw
open Go.RowKit
theorem room_split (p : Plan) (w : Int) (n : Nat) : ∃ hd tl : List Int, hd.length = 16 ∧ ∀ rm : List Int, rm.length = n → planRoom p w rm = hd ++ (rm ++ tl) := by
 refine ⟨bytesOf (planN p : Int) 4 ++ (bytesOf (16 + n : Int) 4 ++ (bytesOf (16 + n + (ofS p.cls).length : Int) 4 ++ bytesOf (16 + n + (ofS p.cls).length + (rowsL (planN p) p.rows).length : Int) 4)), ofS p.cls ++ (rowsL (planN p) p.rows ++ entsB w p.ents), by simp, fun rm h => ?_⟩;unfold planRoom;rw [h];simp only [List.append_assoc]
theorem twos_byt (l : List Int) : Byt (twos l) := Byt.flat fun r hr => by
 obtain ⟨x, _, rfl⟩ := List.mem_map.1 hr;exact bytesOf_byt _ _
def roomB (p : Plan) (w : Int) (hi : Int) (l : List Int) : List Int := planRoom p w (bytesOf (hi + (planRoom p w (List.replicate 4 0)).length : Int) 4) ++ twos l
theorem room4_size (p : Plan) (w n : Int) : (planRoom p w (bytesOf n 4)).length = (planRoom p w (List.replicate 4 0)).length := planRoom_size p w _ _ (by simp)
theorem roomB_byt {p : Plan} (hp : p.ok) (w hi : Int) (l : List Int) : Byt (roomB p w hi l) := (planRoom_byt hp w (bytesOf_byt _ _)).app (twos_byt l)
theorem roomB_len {p : Plan} (hp : p.ok) (w hi : Int) {l : List Int} (h1 : p.cls.length ≤ 1000) (h2 : p.rows.length ≤ 1000) (h3 : p.ents.length ≤ 1000) (h4 : l.length ≤ 1000) : (roomB p w hi l).length ≤ 102000 := by
 have := planRoom_len hp w (rm := List.replicate 4 0) (by simp) h1 h2 h3;unfold roomB;rw [List.length_append, room4_size, twos_len];omega
end Go.Sw
end
section
set_option maxRecDepth 100000
set_option linter.unusedVariables false
namespace Go.Sw
noncomputable section
def swashlaw18_InsMore_l1 (k : Nat) (call : Caller) : Env → Heap → Res (AExit × Env) := loopB (C k) call F.swashlaw18_InsMore [1, 1, 1, 1, 1, 1, 0, 1, 0, 0]
def swashlaw18_InsMore_l1k (k : Nat) (call : Caller) : Kont Value := kBlock 0 (kSeq (pieceK (C k) call F.swashlaw18_InsMore [1, 1, 1, 1, 1, 1, 1]) (kDone Prog (resOf Prog F.swashlaw18_InsMore)))
def swashlaw18_InsMore_l2 (k : Nat) (call : Caller) : Env → Heap → Res (AExit × Env) := loopB (C k) call F.swashlaw18_InsMore [1, 1, 1, 1, 1, 1, 1, 1, 1, 1, 1, 1, 0, 1, 0, 0]
def swashlaw18_InsMore_l2k (k : Nat) (call : Caller) : Kont Value := kBlock 2 (kSeq (pieceK (C k) call F.swashlaw18_InsMore [1, 1, 1, 1, 1, 1, 1, 1, 1, 1, 1, 1, 1]) (kDone Prog (resOf Prog F.swashlaw18_InsMore)))
def swashlaw18_InsMore_j1 (k : Nat) (call : Caller) (a1 a15 a72 a73 a74 : Value) (h : Heap) : Res (AExit × Env) :=
 kSeq (pieceK (C k) call F.swashlaw18_InsMore [1, 1, 1, 1, 1, 1, 1, 1, 1, 1, 1, 1, 0, 1, 0, 0, 1, 1, 1]) (kRound (ownOf (C k) F.swashlaw18_InsMore [1, 1, 1, 1, 1, 1, 1, 1, 1, 1, 1, 1, 0, 1, 0, 0])) .normal [(1, a1), (15, a15), (72, a72), (73, a73), (74, a74)] h
def swashlaw18_InsMore_j2 (k : Nat) (call : Caller) (a1 a15 a17 a72 a73 a74 a80 : Value) (h : Heap) : Res (AExit × Env) :=
 kSeq (pieceK (C k) call F.swashlaw18_InsMore [1, 1, 1, 1, 1, 1, 1, 1, 1, 1, 1, 1, 0, 1, 0, 0, 1, 1, 1]) (kRound (ownOf (C k) F.swashlaw18_InsMore [1, 1, 1, 1, 1, 1, 1, 1, 1, 1, 1, 1, 0, 1, 0, 0])) .normal [(1, a1), (15, a15), (17, a17), (72, a72), (73, a73), (74, a74), (80, a80)] h
def swashlaw18_InsMore (k : Nat) (call : Caller) (a0 a1 a2 : Value) (h : Heap) : Res Value :=
 (boxR a0 h).bind fun v1 h2 =>
 (call F.swashlaw18_speaks [] h2).bind fun v3 h4 =>
 (unR .not v3 h4).bind fun v5 h6 =>
 condV (some v5) (
 .ok (.bool false) h6)
 (
 (loadR Prog 135 v1 h6).bind fun v7 h8 =>
 (call F.swashlaw18_small [v7, a1] h8).bind fun v9 h10 =>
 (unR .not v9 h10).bind fun v11 h12 =>
 condV (some v11) (
 .ok (.bool true) h12)
 (
 (loadR Prog 135 v1 h12).bind fun v13 h14 =>
 (call F.swashlaw18_Write [v13] h14).bind fun v15 h16 =>
 (call F.ins_Read [v15, (.int .i64 40)] h16).bind fun v17 h18 =>
 (extractR v17 0 h18).bind fun v19 h20 =>
 (extractR v17 1 h20).bind fun v21 h22 =>
 (binR Prog .eql 137 v19 (.pointer none) h22).bind fun v23 h24 =>
 condV (some v23) (
 .ok (.bool true) h24)
 (
 (builtinV Prog .len [27] [a1] h24).bind fun v25 h26 =>
 (loopN (swashlaw18_InsMore_l1 k call) loopFuel [(1, a1), (2, a2), (7, v19), (9, (.slice none 0 0)), (33, v25), (34, (.int .i64 0))] h26).bind fun r27 h28 =>
 swashlaw18_InsMore_l1k k call r27.1 r27.2 h28)))
theorem swashlaw18_InsMore_R (k : Nat) (a0 a1 a2 : Value) (h : Heap) : R (T k) F.swashlaw18_InsMore [a0, a1, a2] h = nrm .gc h (swashlaw18_InsMore k (R (T k)) a0 a1 a2 h) :=
 (R_body (t := T k) (T_scott k) (by kernel_rfl) (by kernel_rfl) _ _).trans (by kernel_rfl)
theorem swashlaw18_InsMore_l1_eq (k : Nat) (call : Caller) (a1 a2 a7 a9 a33 a34 : Value) (h : Heap) : swashlaw18_InsMore_l1 k call [(1, a1), (2, a2), (7, a7), (9, a9), (33, a33), (34, a34)] h =
 (binR Prog .lss 3 a34 a33 h).bind fun v29 h30 =>
 condV (some v29) (
 (binR Prog .add 3 (.int .i64 70000) a34 h30).bind fun v31 h32 =>
 (buildSliceR Prog 27 1 [(0, v31)] h32).bind fun v33 h34 =>
 (builtinV Prog .append [27, 27] [a9, v33] h34).bind fun v35 h36 =>
 (binR Prog .add 3 a34 (.int .i64 1) h36).bind fun v37 h38 =>
 .ok (.normal, [(1, a1), (2, a2), (7, a7), (9, v35), (33, a33), (34, v37)]) h38)
 (
 .ok ((.exit 0), [(1, a1), (2, a2), (7, a7), (9, a9), (33, a33), (34, a34), (35, v29)]) h30) :=
 (loopB_eq _ _).trans (by kernel_rfl)
theorem swashlaw18_InsMore_l1k_x0 (k : Nat) (call : Caller) (a1 a2 a7 a9 a33 a34 a35 : Value) (h : Heap) : swashlaw18_InsMore_l1k k call (.exit 0) [(1, a1), (2, a2), (7, a7), (9, a9), (33, a33), (34, a34), (35, a35)] h =
 (call F.line_New [a9] h).bind fun v39 h40 =>
 (convR Prog 5 3 a2 h40).bind fun v41 h42 =>
 (call F.ins_Table_Run [a7, v39, v41] h42).bind fun v43 h44 =>
 (extractR v43 0 h44).bind fun v45 h46 =>
 (extractR v43 1 h46).bind fun v47 h48 =>
 (call F.line_Line_Glyphs [v39] h48).bind fun v49 h50 =>
 (binR Prog .lss 3 v45 (.int .i64 0) h50).bind fun v51 h52 =>
 ((bif wantVal v51 false then Res.ok v45 h52 else Res.ok undef h52)).bind fun v53 h54 =>
 ((bif wantVal v51 false then Res.ok a2 h54 else Res.ok undef h54)).bind fun v55 h56 =>
 ((bif wantVal v51 false then convR Prog 5 3 v55 h56 else Res.ok undef h56)).bind fun v57 h58 =>
 ((bif wantVal v51 false then binR Prog .gtr 3 v53 v57 h58 else Res.ok undef h58)).bind fun v59 h60 =>
 (condV (some v51) (Res.ok (.bool true) h60) (Res.ok v59 h60)).bind fun v61 h62 =>
 ((bif wantVal v61 false then Res.ok v49 h62 else Res.ok undef h62)).bind fun v63 h64 =>
 ((bif wantVal v61 false then builtinV Prog .len [48] [v63] h64 else Res.ok undef h64)).bind fun v65 h66 =>
 ((bif wantVal v61 false then Res.ok a1 h66 else Res.ok undef h66)).bind fun v67 h68 =>
 ((bif wantVal v61 false then builtinV Prog .len [27] [v67] h68 else Res.ok undef h68)).bind fun v69 h70 =>
 ((bif wantVal v61 false then Res.ok v45 h70 else Res.ok undef h70)).bind fun v71 h72 =>
 ((bif wantVal v61 false then binR Prog .add 3 v69 v71 h72 else Res.ok undef h72)).bind fun v73 h74 =>
 ((bif wantVal v61 false then binR Prog .neq 3 v65 v73 h74 else Res.ok undef h74)).bind fun v75 h76 =>
 (condV (some v61) (Res.ok (.bool true) h76) (Res.ok v75 h76)).bind fun v77 h78 =>
 condV (some v77) (
 .ok (.bool false) h78)
 (
 (builtinV Prog .len [48] [v49] h78).bind fun v79 h80 =>
 (loopN (swashlaw18_InsMore_l2 k call) loopFuel [(1, a1), (15, (.int .i64 0)), (72, v49), (73, v79), (74, (.int .i64 0))] h80).bind fun r81 h82 =>
 swashlaw18_InsMore_l2k k call r81.1 r81.2 h82) := by kernel_rfl
theorem swashlaw18_InsMore_l2_eq (k : Nat) (call : Caller) (a1 a15 a72 a73 a74 : Value) (h : Heap) : swashlaw18_InsMore_l2 k call [(1, a1), (15, a15), (72, a72), (73, a73), (74, a74)] h =
 (binR Prog .lss 3 a74 a73 h).bind fun v83 h84 =>
 condV (some v83) (
 (indexAddrR Prog 48 a72 a74 h84).bind fun v85 h86 =>
 (loadR Prog 115 v85 h86).bind fun v87 h88 =>
 (allocR Prog 115 h88).bind fun v89 h90 =>
 (storeR Prog 115 v89 v87 h90).bind fun _v91 h92 =>
 (fieldAddrR Prog 115 v89 0 h92).bind fun v93 h94 =>
 (loadR Prog 3 v93 h94).bind fun v95 h96 =>
 (binR Prog .geq 3 v95 (.int .i64 70000) h96).bind fun v97 h98 =>
 condV (some v97) (
 (fieldAddrR Prog 115 v89 0 h98).bind fun v99 h100 =>
 (loadR Prog 3 v99 h100).bind fun v101 h102 =>
 (binR Prog .add 3 (.int .i64 70000) a15 h102).bind fun v103 h104 =>
 (binR Prog .neq 3 v101 v103 h104).bind fun v105 h106 =>
 ((bif wantVal v105 false then fieldAddrR Prog 115 v89 1 h106 else Res.ok undef h106)).bind fun v107 h108 =>
 ((bif wantVal v105 false then loadR Prog 3 v107 h108 else Res.ok undef h108)).bind fun v109 h110 =>
 ((bif wantVal v105 false then Res.ok a15 h110 else Res.ok undef h110)).bind fun v111 h112 =>
 ((bif wantVal v105 false then binR Prog .neq 3 v109 v111 h112 else Res.ok undef h112)).bind fun v113 h114 =>
 (condV (some v105) (Res.ok (.bool true) h114) (Res.ok v113 h114)).bind fun v115 h116 =>
 condV (some v115) (
 .ok (.ret, [(6, (.bool false))]) h116)
 (
 (binR Prog .add 3 a15 (.int .i64 1) h116).bind fun v117 h118 =>
 swashlaw18_InsMore_j1 k call a1 v117 a72 a73 a74 h118))
 (
 swashlaw18_InsMore_j2 k call a1 a15 v89 a72 a73 a74 v97 h98))
 (
 .ok ((.exit 2), [(1, a1), (15, a15), (72, a72), (73, a73), (74, a74), (75, v83)]) h84) :=
 (loopB_eq _ _).trans (by kernel_rfl)
theorem swashlaw18_InsMore_j1_eq (k : Nat) (call : Caller) (a1 a15 a72 a73 a74 : Value) (h : Heap) : swashlaw18_InsMore_j1 k call a1 a15 a72 a73 a74 h =
 (binR Prog .add 3 a74 (.int .i64 1) h).bind fun v119 h120 =>
 .ok (.normal, [(1, a1), (15, a15), (72, a72), (73, a73), (74, v119)]) h120 := by kernel_rfl
theorem swashlaw18_InsMore_j2_eq (k : Nat) (call : Caller) (a1 a15 a17 a72 a73 a74 a80 : Value) (h : Heap) : swashlaw18_InsMore_j2 k call a1 a15 a17 a72 a73 a74 a80 h =
 (binR Prog .add 3 a74 (.int .i64 1) h).bind fun v121 h122 =>
 .ok (.normal, [(1, a1), (15, a15), (72, a72), (73, a73), (74, v121)]) h122 := by kernel_rfl
theorem swashlaw18_InsMore_l2k_x2 (k : Nat) (call : Caller) (a1 a15 a72 a73 a74 a75 : Value) (h : Heap) : swashlaw18_InsMore_l2k k call (.exit 2) [(1, a1), (15, a15), (72, a72), (73, a73), (74, a74), (75, a75)] h =
 (builtinV Prog .len [27] [a1] h).bind fun v123 h124 =>
 (binR Prog .eql 3 a15 v123 h124).bind fun v125 h126 =>
 .ok v125 h126 := by kernel_rfl
def swashlaw18_InsLeft (k : Nat) (call : Caller) (a0 a1 a2 : Value) (h : Heap) : Res Value :=
 (boxR a0 h).bind fun v1 h2 =>
 (call F.swashlaw18_speaks [] h2).bind fun v3 h4 =>
 (unR .not v3 h4).bind fun v5 h6 =>
 condV (some v5) (
 .ok (.bool false) h6)
 (
 (loadR Prog 135 v1 h6).bind fun v7 h8 =>
 (call F.swashlaw18_small [v7, a1] h8).bind fun v9 h10 =>
 (unR .not v9 h10).bind fun v11 h12 =>
 condV (some v11) (
 .ok (.bool true) h12)
 (
 (loadR Prog 135 v1 h12).bind fun v13 h14 =>
 (call F.swashlaw18_Write [v13] h14).bind fun v15 h16 =>
 (call F.ins_Read [v15, (.int .i64 40)] h16).bind fun v17 h18 =>
 (extractR v17 0 h18).bind fun v19 h20 =>
 (extractR v17 1 h20).bind fun v21 h22 =>
 (binR Prog .eql 137 v19 (.pointer none) h22).bind fun v23 h24 =>
 condV (some v23) (
 .ok (.bool true) h24)
 (
 (call F.line_New [a1] h24).bind fun v25 h26 =>
 (call F.line_New [a1] h26).bind fun v27 h28 =>
 (call F.line_New [a1] h28).bind fun v29 h30 =>
 (convR Prog 5 3 a2 h30).bind fun v31 h32 =>
 (binR Prog .add 3 (.int .i64 100) v31 h32).bind fun v33 h34 =>
 (call F.ins_Table_Run [v19, v25, v33] h34).bind fun v35 h36 =>
 (extractR v35 0 h36).bind fun v37 h38 =>
 (extractR v35 1 h38).bind fun v39 h40 =>
 (binR Prog .neq 34 v39 (.int .i64 0) h40).bind fun v41 h42 =>
 condV (some v41) (
 (binR Prog .eql 34 v39 (.int .i64 4) h42).bind fun v43 h44 =>
 .ok v43 h44)
 (
 (call F.ins_Table_Run [v19, v27, v37] h42).bind fun v45 h46 =>
 (extractR v45 0 h46).bind fun v47 h48 =>
 (extractR v45 1 h48).bind fun v49 h50 =>
 (binR Prog .neq 3 v47 v37 h50).bind fun v51 h52 =>
 ((bif wantVal v51 false then Res.ok v49 h52 else Res.ok undef h52)).bind fun v53 h54 =>
 ((bif wantVal v51 false then binR Prog .neq 34 v53 (.int .i64 0) h54 else Res.ok undef h54)).bind fun v55 h56 =>
 (condV (some v51) (Res.ok (.bool true) h56) (Res.ok v55 h56)).bind fun v57 h58 =>
 ((bif wantVal v57 false then Res.ok v25 h58 else Res.ok undef h58)).bind fun v59 h60 =>
 ((bif wantVal v57 false then call F.line_Line_Glyphs [v59] h60 else Res.ok undef h60)).bind fun v61 h62 =>
 ((bif wantVal v57 false then Res.ok v27 h62 else Res.ok undef h62)).bind fun v63 h64 =>
 ((bif wantVal v57 false then call F.line_Line_Glyphs [v63] h64 else Res.ok undef h64)).bind fun v65 h66 =>
 ((bif wantVal v57 false then call F.swashref11_Same [v61, v65] h66 else Res.ok undef h66)).bind fun v67 h68 =>
 ((bif wantVal v57 false then unR .not v67 h68 else Res.ok undef h68)).bind fun v69 h70 =>
 (condV (some v57) (Res.ok (.bool true) h70) (Res.ok v69 h70)).bind fun v71 h72 =>
 condV (some v71) (
 .ok (.bool false) h72)
 (
 (binR Prog .sub 3 v37 (.int .i64 1) h72).bind fun v73 h74 =>
 (call F.ins_Table_Run [v19, v29, v73] h74).bind fun v75 h76 =>
 (extractR v75 0 h76).bind fun v77 h78 =>
 (extractR v75 1 h78).bind fun v79 h80 =>
 (binR Prog .eql 3 v37 (.int .i64 0) h80).bind fun v81 h82 =>
 ((bif wantVal v81 false then Res.ok v77 h82 else Res.ok undef h82)).bind fun v83 h84 =>
 ((bif wantVal v81 false then Res.ok v37 h84 else Res.ok undef h84)).bind fun v85 h86 =>
 ((bif wantVal v81 false then binR Prog .lss 3 v83 v85 h86 else Res.ok undef h86)).bind fun v87 h88 =>
 ((bif wantVal v81 false then Res.ok v87 h88 else Res.ok undef h88)).bind fun v89 h90 =>
 ((bif wantVal v89 true then Res.ok v79 h90 else Res.ok undef h90)).bind fun v91 h92 =>
 ((bif wantVal v89 true then binR Prog .eql 34 v91 (.int .i64 4) h92 else Res.ok undef h92)).bind fun v93 h94 =>
 ((bif wantVal v81 false then condV (some v89) (Res.ok v93 h94) (Res.ok (.bool false) h94) else Res.ok undef h94)).bind fun v95 h96 =>
 (condV (some v81) (Res.ok (.bool true) h96) (Res.ok v95 h96)).bind fun v97 h98 =>
 .ok v97 h98)))))
theorem swashlaw18_InsLeft_R (k : Nat) (a0 a1 a2 : Value) (h : Heap) : R (T k) F.swashlaw18_InsLeft [a0, a1, a2] h = nrm .gc h (swashlaw18_InsLeft k (R (T k)) a0 a1 a2 h) :=
 (R_body (t := T k) (T_scott k) (by kernel_rfl) (by kernel_rfl) _ _).trans (by kernel_rfl)
def swashlaw18_InsTakes (k : Nat) (call : Caller) (a0 a1 : Value) (h : Heap) : Res Value :=
 (boxR a0 h).bind fun v1 h2 =>
 (call F.swashlaw18_speaks [] h2).bind fun v3 h4 =>
 (unR .not v3 h4).bind fun v5 h6 =>
 condV (some v5) (
 .ok (.bool false) h6)
 (
 (loadR Prog 22 v1 h6).bind fun v7 h8 =>
 (builtinV Prog .len [22] [v7] h8).bind fun v9 h10 =>
 (binR Prog .gtr 3 v9 (.int .i64 800) h10).bind fun v11 h12 =>
 ((bif wantVal v11 false then Res.ok a1 h12 else Res.ok undef h12)).bind fun v13 h14 =>
 ((bif wantVal v11 false then builtinV Prog .len [27] [v13] h14 else Res.ok undef h14)).bind fun v15 h16 =>
 ((bif wantVal v11 false then binR Prog .gtr 3 v15 (.int .i64 40) h16 else Res.ok undef h16)).bind fun v17 h18 =>
 (condV (some v11) (Res.ok (.bool true) h18) (Res.ok v17 h18)).bind fun v19 h20 =>
 condV (some v19) (
 .ok (.bool true) h20)
 (
 (allocR Prog 137 h20).bind fun v21 h22 =>
 (call F.view_Try [(.func (.func F.swashlaw18_InsTakes_in1) #[] #[v1, v21])] h22).bind fun v23 h24 =>
 (loadR Prog 22 v1 h24).bind fun v25 h26 =>
 (call F.ins_Read [v25, (.int .i64 40)] h26).bind fun v27 h28 =>
 (extractR v27 0 h28).bind fun v29 h30 =>
 (extractR v27 1 h30).bind fun v31 h32 =>
 (binR Prog .eql 34 v31 (.int .i64 0) h32).bind fun v33 h34 =>
 (binR Prog .neq 4 v23 v33 h34).bind fun v35 h36 =>
 ((bif wantVal v35 false then Res.ok v23 h36 else Res.ok undef h36)).bind fun v37 h38 =>
 ((bif wantVal v35 false then loadR Prog 137 v21 h38 else Res.ok undef h38)).bind fun v39 h40 =>
 ((bif wantVal v35 false then binR Prog .neq 137 v39 (.pointer none) h40 else Res.ok undef h40)).bind fun v41 h42 =>
 ((bif wantVal v35 false then binR Prog .neq 4 v37 v41 h42 else Res.ok undef h42)).bind fun v43 h44 =>
 (condV (some v35) (Res.ok (.bool true) h44) (Res.ok v43 h44)).bind fun v45 h46 =>
 ((bif wantVal v45 false then Res.ok v23 h46 else Res.ok undef h46)).bind fun v47 h48 =>
 ((bif wantVal v45 false then Res.ok v29 h48 else Res.ok undef h48)).bind fun v49 h50 =>
 ((bif wantVal v45 false then binR Prog .neq 137 v49 (.pointer none) h50 else Res.ok undef h50)).bind fun v51 h52 =>
 ((bif wantVal v45 false then binR Prog .neq 4 v47 v51 h52 else Res.ok undef h52)).bind fun v53 h54 =>
 (condV (some v45) (Res.ok (.bool true) h54) (Res.ok v53 h54)).bind fun v55 h56 =>
 condV (some v55) (
 .ok (.bool false) h56)
 (
 (unR .not v23 h56).bind fun v57 h58 =>
 condV (some v57) (
 .ok (.bool true) h58)
 (
 (call F.line_New [a1] h58).bind fun v59 h60 =>
 (call F.line_New [a1] h60).bind fun v61 h62 =>
 (loadR Prog 137 v21 h62).bind fun v63 h64 =>
 (call F.ins_Table_Run [v63, v59, (.int .i64 50)] h64).bind fun v65 h66 =>
 (extractR v65 0 h66).bind fun v67 h68 =>
 (extractR v65 1 h68).bind fun v69 h70 =>
 (call F.ins_Table_Run [v29, v61, (.int .i64 50)] h70).bind fun v71 h72 =>
 (extractR v71 0 h72).bind fun v73 h74 =>
 (extractR v71 1 h74).bind fun v75 h76 =>
 (binR Prog .eql 3 v67 v73 h76).bind fun v77 h78 =>
 ((bif wantVal v77 true then Res.ok v69 h78 else Res.ok undef h78)).bind fun v79 h80 =>
 ((bif wantVal v77 true then Res.ok v75 h80 else Res.ok undef h80)).bind fun v81 h82 =>
 ((bif wantVal v77 true then binR Prog .eql 34 v79 v81 h82 else Res.ok undef h82)).bind fun v83 h84 =>
 (condV (some v77) (Res.ok v83 h84) (Res.ok (.bool false) h84)).bind fun v85 h86 =>
 ((bif wantVal v85 true then Res.ok v59 h86 else Res.ok undef h86)).bind fun v87 h88 =>
 ((bif wantVal v85 true then call F.line_Line_Glyphs [v87] h88 else Res.ok undef h88)).bind fun v89 h90 =>
 ((bif wantVal v85 true then Res.ok v61 h90 else Res.ok undef h90)).bind fun v91 h92 =>
 ((bif wantVal v85 true then call F.line_Line_Glyphs [v91] h92 else Res.ok undef h92)).bind fun v93 h94 =>
 ((bif wantVal v85 true then call F.swashref11_Same [v89, v93] h94 else Res.ok undef h94)).bind fun v95 h96 =>
 (condV (some v85) (Res.ok v95 h96) (Res.ok (.bool false) h96)).bind fun v97 h98 =>
 .ok v97 h98))))
theorem swashlaw18_InsTakes_R (k : Nat) (a0 a1 : Value) (h : Heap) : R (T k) F.swashlaw18_InsTakes [a0, a1] h = nrm .gc h (swashlaw18_InsTakes k (R (T k)) a0 a1 h) :=
 (R_body (t := T k) (T_scott k) (by kernel_rfl) (by kernel_rfl) _ _).trans (by kernel_rfl)
def swashlaw18_small (k : Nat) (call : Caller) (a0 a1 : Value) (h : Heap) : Res Value :=
 (boxR a0 h).bind fun v1 h2 =>
 (fieldAddrR Prog 135 v1 0 h2).bind fun v3 h4 =>
 (fieldAddrR Prog 26 v3 0 h4).bind fun v5 h6 =>
 (loadR Prog 22 v5 h6).bind fun v7 h8 =>
 (builtinV Prog .len [22] [v7] h8).bind fun v9 h10 =>
 (binR Prog .leq 3 v9 (.int .i64 40) h10).bind fun v11 h12 =>
 ((bif wantVal v11 true then fieldAddrR Prog 135 v1 0 h12 else Res.ok undef h12)).bind fun v13 h14 =>
 ((bif wantVal v11 true then fieldAddrR Prog 26 v13 1 h14 else Res.ok undef h14)).bind fun v15 h16 =>
 ((bif wantVal v11 true then loadR Prog 23 v15 h16 else Res.ok undef h16)).bind fun v17 h18 =>
 ((bif wantVal v11 true then builtinV Prog .len [23] [v17] h18 else Res.ok undef h18)).bind fun v19 h20 =>
 ((bif wantVal v11 true then binR Prog .leq 3 v19 (.int .i64 20) h20 else Res.ok undef h20)).bind fun v21 h22 =>
 (condV (some v11) (Res.ok v21 h22) (Res.ok (.bool false) h22)).bind fun v23 h24 =>
 ((bif wantVal v23 true then fieldAddrR Prog 135 v1 0 h24 else Res.ok undef h24)).bind fun v25 h26 =>
 ((bif wantVal v23 true then fieldAddrR Prog 26 v25 2 h26 else Res.ok undef h26)).bind fun v27 h28 =>
 ((bif wantVal v23 true then loadR Prog 24 v27 h28 else Res.ok undef h28)).bind fun v29 h30 =>
 ((bif wantVal v23 true then builtinV Prog .len [24] [v29] h30 else Res.ok undef h30)).bind fun v31 h32 =>
 ((bif wantVal v23 true then binR Prog .leq 3 v31 (.int .i64 40) h32 else Res.ok undef h32)).bind fun v33 h34 =>
 (condV (some v23) (Res.ok v33 h34) (Res.ok (.bool false) h34)).bind fun v35 h36 =>
 ((bif wantVal v35 true then fieldAddrR Prog 135 v1 1 h36 else Res.ok undef h36)).bind fun v37 h38 =>
 ((bif wantVal v35 true then loadR Prog 109 v37 h38 else Res.ok undef h38)).bind fun v39 h40 =>
 ((bif wantVal v35 true then builtinV Prog .len [109] [v39] h40 else Res.ok undef h40)).bind fun v41 h42 =>
 ((bif wantVal v35 true then binR Prog .leq 3 v41 (.int .i64 100) h42 else Res.ok undef h42)).bind fun v43 h44 =>
 (condV (some v35) (Res.ok v43 h44) (Res.ok (.bool false) h44)).bind fun v45 h46 =>
 ((bif wantVal v45 true then Res.ok a1 h46 else Res.ok undef h46)).bind fun v47 h48 =>
 ((bif wantVal v45 true then builtinV Prog .len [27] [v47] h48 else Res.ok undef h48)).bind fun v49 h50 =>
 ((bif wantVal v45 true then binR Prog .leq 3 v49 (.int .i64 40) h50 else Res.ok undef h50)).bind fun v51 h52 =>
 (condV (some v45) (Res.ok v51 h52) (Res.ok (.bool false) h52)).bind fun v53 h54 =>
 .ok v53 h54
theorem swashlaw18_small_R (k : Nat) (a0 a1 : Value) (h : Heap) : R (T k) F.swashlaw18_small [a0, a1] h = nrm .gc h (swashlaw18_small k (R (T k)) a0 a1 h) :=
 (R_body (t := T k) (T_scott k) (by kernel_rfl) (by kernel_rfl) _ _).trans (by kernel_rfl)
def swashlaw18_Write_l1 (k : Nat) (call : Caller) : Env → Heap → Res (AExit × Env) := loopB (C k) call F.swashlaw18_Write [1, 1, 1, 0, 1, 0, 0]
def swashlaw18_Write_l1k (k : Nat) (call : Caller) : Kont Value := kBlock 0 (kSeq (pieceK (C k) call F.swashlaw18_Write [1, 1, 1, 1]) (kDone Prog (resOf Prog F.swashlaw18_Write)))
def swashlaw18_Write (k : Nat) (call : Caller) (a0 : Value) (h : Heap) : Res Value :=
 (boxR a0 h).bind fun v1 h2 =>
 (fieldAddrR Prog 135 v1 0 h2).bind fun v3 h4 =>
 (loadR Prog 26 v3 h4).bind fun v5 h6 =>
 (call F.swashlaw07_Write [v5, (.int .i64 2), (.int .i64 4)] h6).bind fun v7 h8 =>
 (sliceR Prog 22 v7 (some (.int .i64 16)) (some (.int .i64 20)) none h8).bindN fun v9 h10 =>
 (builtinV Prog .len [22] [v7] h10).bindN fun v11 h12 =>
 (call F.swashref02_Put [(.slice none 0 0), v11, (.int .i64 4)] h12).bindT (fun p15 h16 => .panic p15 h16) fun v13 h14 =>
 (builtinV Prog .copy [22, 22] [v9, v13] h14).bindN fun v17 h18 =>
 chkR ((okVal (sliceR Prog 22 v7 (some (.int .i64 16)) (some (.int .i64 20)) none h14) v9 && true) && true) (
 (fieldAddrR Prog 135 v1 1 h18).bind fun v19 h20 =>
 (loadR Prog 109 v19 h20).bind fun v21 h22 =>
 (builtinV Prog .len [109] [v21] h22).bind fun v23 h24 =>
 (loopN (swashlaw18_Write_l1 k call) loopFuel [(3, v7), (16, v21), (17, v23), (18, (.int .i64 0))] h24).bind fun r25 h26 =>
 swashlaw18_Write_l1k k call r25.1 r25.2 h26)
theorem swashlaw18_Write_R (k : Nat) (a0 : Value) (h : Heap) : R (T k) F.swashlaw18_Write [a0] h = nrm .fz h (swashlaw18_Write k (R (T k)) a0 h) :=
 (R_body (t := T k) (T_scott k) (by kernel_rfl) (by kernel_rfl) _ _).trans (by kernel_rfl)
theorem swashlaw18_Write_l1_eq (k : Nat) (call : Caller) (a3 a16 a17 a18 : Value) (h : Heap) : swashlaw18_Write_l1 k call [(3, a3), (16, a16), (17, a17), (18, a18)] h =
 (binR Prog .lss 3 a18 a17 h).bind fun v27 h28 =>
 condV (some v27) (
 (indexAddrR Prog 109 a16 a18 h28).bind fun v29 h30 =>
 (loadR Prog 154 v29 h30).bind fun v31 h32 =>
 (convR Prog 154 3 v31 h32).bind fun v33 h34 =>
 (call F.swashref02_Put [a3, v33, (.int .i64 2)] h34).bind fun v35 h36 =>
 (binR Prog .add 3 a18 (.int .i64 1) h36).bind fun v37 h38 =>
 .ok (.normal, [(3, v35), (16, a16), (17, a17), (18, v37)]) h38)
 (
 .ok ((.exit 0), [(3, a3), (16, a16), (17, a17), (18, a18), (19, v27)]) h28) :=
 (loopB_eq _ _).trans (by kernel_rfl)
theorem swashlaw18_Write_l1k_x0 (k : Nat) (call : Caller) (a3 a16 a17 a18 a19 : Value) (h : Heap) : swashlaw18_Write_l1k k call (.exit 0) [(3, a3), (16, a16), (17, a17), (18, a18), (19, a19)] h =
 .ok a3 h := by kernel_rfl
def swashlaw18_InsTakes_in1 (k : Nat) (call : Caller) (a0 a1 : Value) (h : Heap) : Res Value :=
 (loadR Prog 22 a0 h).bind fun v1 h2 =>
 (call F.view_Of [v1] h2).bind fun v3 h4 =>
 (call F.ins_Take [v3, (.int .i64 40)] h4).bind fun v5 h6 =>
 (storeR Prog 137 a1 v5 h6).bind fun _v7 h8 =>
 .ok (.tuple #[]) h8
theorem swashlaw18_InsTakes_in1_R (k : Nat) (a0 a1 : Value) (h : Heap) : R (T k) F.swashlaw18_InsTakes_in1 [a0, a1] h = nrm .no h (swashlaw18_InsTakes_in1 k (R (T k)) a0 a1 h) :=
 (R_body (t := T k) (T_scott k) (by kernel_rfl) (by kernel_rfl) _ _).trans (by kernel_rfl)
end
end Go.Sw
end
