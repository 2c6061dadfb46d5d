/-
  Functions' forms, and what is proved of them, part 5.
-/
import Derived.Test.YtnaodjnimkndbabSwW2
import Derived.Test.YtnaodjnimkndbabSwW4
import Derived.Test.YtnaodjnimkndbabSwCfg
import Derived.Test.YtnaodjnimkndbabSwW3
import Derived.Test.YtnaodjnimkndbabSwW1
import Derived.Test.YtnaodjnimkndbabSwLib8
import Derived.Tactics
import Derived.Tactics2
import Derived.Defers
import Derived.Recover
import Derived.Laws.Pointers
set_option linter.unusedSimpArgs false
set_option linter.unusedVariables false
set_option linter.unusedSectionVars false
section
namespace Go.Sw
open Go.RowKit
structure Plan where
 cls : List Int
 rows : List (List Int)
 ents : List En
 wide : Int
abbrev encBR (r : List Int) : List Value := [lv encB r]
def planN (p : Plan) : Nat := 4 + (p.wide % 8).toNat
def twos (l : List Int) : List Int := (l.map fun c => bytesOf c 2).flatten
def ofS (cls : List Int) : List Int := (bytesOf 8 2 ++ bytesOf 0 2 ++ bytesOf cls.length 2) ++ twos cls
def rowL (n : Nat) (r : List Int) : List Int := (List.range n).map fun i => r[i]?.getD 0
def rowsL (n : Nat) (rs : List (List Int)) : List Int := (rs.map fun r => twos (rowL n r)).flatten
def m16 (x : Int) : Int := x % 65536
def entB (w : Int) (e : En) : List Int := bytesOf (m16 e.next) 2 ++ bytesOf (m16 e.flags) 2 ++ (if 0 < w then bytesOf (m16 e.a) 2 else []) ++ (if 1 < w then bytesOf (m16 e.b) 2 else [])
def entsB (w : Int) (es : List En) : List Int := (es.map (entB w)).flatten
def planBytes (p : Plan) (w : Int) (room : Nat) : List Int :=
 (((bytesOf (planN p : Int) 4 ++ bytesOf (16 + room : Int) 4 ++ bytesOf (16 + room + (ofS p.cls).length : Int) 4 ++ bytesOf (16 + room + (ofS p.cls).length + (rowsL (planN p) p.rows).length : Int) 4 ++ List.replicate room 0) ++ ofS p.cls) ++ rowsL (planN p) p.rows) ++ entsB w p.ents
theorem twos_snoc (l : List Int) (x : Int) : twos (l ++ [x]) = twos l ++ bytesOf x 2 := by simp [twos]
theorem twos_len (l : List Int) : (twos l).length = l.length * 2 := flat_len (z := 2) (fun r hr => by obtain ⟨p, _, rfl⟩ := List.mem_map.1 hr; simp) |>.trans (by simp)
theorem rowL_len (n : Nat) (r : List Int) : (rowL n r).length = n := by simp [rowL]
theorem rowsL_snoc (n : Nat) (rs : List (List Int)) (r : List Int) : rowsL n (rs ++ [r]) = rowsL n rs ++ twos (rowL n r) := by simp [rowsL]
theorem rowsL_len (n : Nat) (rs : List (List Int)) : (rowsL n rs).length = rs.length * (n * 2) := flat_len (z := n * 2) (fun r hr => by obtain ⟨p, _, rfl⟩ := List.mem_map.1 hr; rw [twos_len, rowL_len]) |>.trans (by simp)
theorem entB_len (w : Int) (e : En) : (entB w e).length ≤ 8 := by
 unfold entB
 simp only [List.length_append, bytesOf_len]
 split <;> split <;> simp
theorem entsB_snoc (w : Int) (es : List En) (e : En) : entsB w (es ++ [e]) = entsB w es ++ entB w e := by simp [entsB]
theorem entsB_len (w : Int) : ∀ es : List En, (entsB w es).length ≤ es.length * 8
 | [] => by simp [entsB]
 | e :: es => by
  have h1 := entsB_len w es
  have h2 := entB_len w e
  unfold entsB at h1 ⊢
  simp only [List.map_cons, List.flatten_cons, List.length_append, List.length_cons]
  omega
theorem and16 (P : Program) (t : TypeId) (H : Heap) (a : Int) : binR P .and t (.int .i64 a) (.int .i64 65535) H = .ok (.int .i64 (m16 a)) H := by
 have e : (BitVec.ofInt 64 a &&& BitVec.ofInt 64 65535).toNat = (a % 65536).toNat := by
  rw [BitVec.toNat_and, BitVec.toNat_ofInt, BitVec.toNat_ofInt]
  rw [show ((65535 : Int) % ((2 ^ 64 : Nat) : Int)).toNat = 2 ^ 16 - 1 from by decide, Nat.and_two_pow_sub_one_eq_mod]
  omega
 have e1 : binV P .and t (.int .i64 a) (.int .i64 65535) = some (.int .i64 (IntKind.i64.wrap (BitVec.ofInt 64 a &&& BitVec.ofInt 64 65535).toNat)) := rfl
 unfold binR
 rw [e1, e]
 unfold m16
 rw [show (((a % 65536).toNat : Nat) : Int) = a % 65536 by omega, wrap_i64 (by omega) (by omega)]
 rfl
theorem m16_bound (a : Int) : 0 ≤ m16 a ∧ m16 a < 65536 := by unfold m16; omega
theorem write_l3 (k : Nat) {H0 H : Heap} {o9 o12 : Option Nat} {a9 a12 : Value} {l9 l12 : List Int} {B : It} (w room : Value) (n : Nat) (hn : n ≤ 11) (a3 a8 : Value) {vr : Value} (r : List Int) (hr : Byt r) (hv : Sl H0 1 vr encB r) (x47 x48 x49 : Value) (hl : l12.length < 2 ^ 29)
  (g : Star H0 H [itRow o9 1 a9 encB l9, itRow o12 1 a12 encB l12, B]) :
  ∃ s o H' z, loopN (swashlaw07_Write_l3 k (R (T k))) loopFuel [(1, w), (2, room), (3, a3), (7, .int .i64 n), (8, a8), (9, a9), (12, a12), (13, .slice none 0 0), (15, vr), (47, x47), (48, x48), (49, x49), (53, .int .i64 n), (54, .int .i64 0)] H =
   .ok (.exit 4, [(1, w), (2, room), (3, a3), (7, .int .i64 n), (8, a8), (9, a9), (12, s), (13, .slice none 0 0), (15, vr), (47, x47), (48, x48), (49, x49), (53, .int .i64 n), (54, z), (55, .bool false)]) H' ∧
   Star H0 H' [itRow o9 1 a9 encB l9, itRow o 1 s encB (l12 ++ twos (rowL n r)), B] := by
 have hvl := fun H' => hv.len H'
 obtain ⟨x, e', H1, hr1, rfl, z, s, o, rfl, g⟩ := loop_up (body := swashlaw07_Write_l3 k (R (T k))) n
  (fun j e H' => ∃ s o, e = [(1, w), (2, room), (3, a3), (7, .int .i64 n), (8, a8), (9, a9), (12, s), (13, .slice none 0 0), (15, vr), (47, x47), (48, x48), (49, x49), (53, .int .i64 n), (54, .int .i64 j)] ∧ Star H0 H' [itRow o9 1 a9 encB l9, itRow o 1 s encB (l12 ++ twos ((rowL n r).take j)), B])
  (fun x e H' => x = .exit 4 ∧ ∃ z s o, e = [(1, w), (2, room), (3, a3), (7, .int .i64 n), (8, a8), (9, a9), (12, s), (13, .slice none 0 0), (15, vr), (47, x47), (48, x48), (49, x49), (53, .int .i64 n), (54, z), (55, .bool false)] ∧ Star H0 H' [itRow o9 1 a9 encB l9, itRow o 1 s encB (l12 ++ twos (rowL n r)), B])
  (e0 := [(1, w), (2, room), (3, a3), (7, .int .i64 n), (8, a8), (9, a9), (12, a12), (13, .slice none 0 0), (15, vr), (47, x47), (48, x48), (49, x49), (53, .int .i64 n), (54, .int .i64 0)]) (H0 := H) ⟨a12, o12, rfl, by simpa [twos] using g⟩ (by omega)
  (fun j e H' hj ⟨s, o, he, g⟩ => by
   subst he
   have hlt : (j : Int) < n := by omega
   have hq : (rowL n r)[j]? = some (r[j]?.getD 0) := by unfold rowL; rw [List.getElem?_map, List.getElem?_range hj]; rfl
   have hlen : (l12 ++ twos ((rowL n r).take j)).length < 2 ^ 30 := by
    rw [List.length_append, twos_len, List.length_take, rowL_len]
    omega
   have hb : 0 ≤ r[j]?.getD 0 ∧ r[j]?.getD 0 < 256 := by
    cases h : r[j]? with
    | none => simp
    | some y => exact hr y (List.mem_of_getElem? h)
   obtain ⟨s', o', H2, e2, g2⟩ := Put_star k g 1 rfl (r[j]?.getD 0) 2 2 rfl hb.1 (by omega) (by omega) hlen
   simp only [List.set_cons_zero, List.set_cons_succ] at g2
   refine .inl ⟨_, H2, ?_, s', o', rfl, by rw [take_snoc hq, twos_snoc, ← List.append_assoc]; exact g2⟩
   rw [swashlaw07_Write_l3_eq]
   cases h : r[j]? with
   | some y =>
    have hjr : (j : Int) < r.length := by have := (List.getElem?_eq_some_iff.1 h).1; omega
    obtain ⟨pp, i1, i2⟩ := hv.ix1 encB_len j y h _ rfl
    have i2 := i2 H' g.ext
    rw [h] at e2 hb
    simp at e2 hb
    simp -implicitDefEqProofs (disch := omega) [hlt, hjr, hvl, i1, i2, swashlaw07_Write_j1_eq, e2]
   | none =>
    have hjr : ¬ (j : Int) < r.length := by have := List.getElem?_eq_none_iff.1 h; omega
    rw [h] at e2
    simp at e2
    simp -implicitDefEqProofs (disch := omega) [hlt, hjr, hvl, swashlaw07_Write_j2_eq, e2])
  (fun e H' ⟨s, o, he, g⟩ => by
   subst he
   rw [List.take_of_length_le (by rw [rowL_len]; exact Nat.le_refl _)] at g
   refine ⟨.exit 4, _, H', ?_, by simp, rfl, .int .i64 n, s, o, rfl, g⟩
   rw [swashlaw07_Write_l3_eq]
   simp -implicitDefEqProofs)
 exact ⟨s, o, H1, z, hr1, g⟩
def Plan.ok (p : Plan) : Prop := Byt p.cls ∧ (∀ r, r ∈ p.rows → Byt r) ∧ 0 ≤ p.wide ∧ p.wide < 256
set_option maxHeartbeats 1000000 in
theorem write_l4 (k : Nat) {H0 H : Heap} {o9 o12 : Option Nat} {a9 a12 : Value} {l9 l12 : List Int} {B : It} (w : Int) (hw : w = 0 ∨ w = 1 ∨ w = 2) (room : Value) (a7 a8 : Value) (es : List En) (hl : es.length < 2 ^ 20) {sE : Value} (hsE : Sl H0 4 sE encEn es)
  (g : Star H0 H [itRow o9 1 a9 encB l9, itRow o12 1 a12 encB l12, B]) :
  ∃ s o H' z, loopN (swashlaw07_Write_l4 k (R (T k))) loopFuel [(1, .int .i64 w), (2, room), (7, a7), (8, a8), (9, a9), (12, a12), (13, .slice none 0 0), (72, sE), (73, .int .i64 es.length), (74, .int .i64 0)] H =
   .ok (.exit 6, [(1, .int .i64 w), (2, room), (7, a7), (8, a8), (9, a9), (12, a12), (13, s), (72, sE), (73, .int .i64 es.length), (74, z), (75, .bool false)]) H' ∧
   Star H0 H' [itRow o9 1 a9 encB l9, itRow o12 1 a12 encB l12, B, itRow o 1 s encB (entsB w es)] := by
 have g := g.more_row (Ext.refl _) (OwnO.nil encB _ 1) (fun b hb => by cases hb)
 obtain ⟨x, e', H1, hr1, rfl, z, s, o, rfl, g⟩ := loop_up (body := swashlaw07_Write_l4 k (R (T k))) es.length
  (fun j e H' => ∃ s o, e = [(1, .int .i64 w), (2, room), (7, a7), (8, a8), (9, a9), (12, a12), (13, s), (72, sE), (73, .int .i64 es.length), (74, .int .i64 j)] ∧ Star H0 H' [itRow o9 1 a9 encB l9, itRow o12 1 a12 encB l12, B, itRow o 1 s encB (entsB w (es.take j))])
  (fun x e H' => x = .exit 6 ∧ ∃ z s o, e = [(1, .int .i64 w), (2, room), (7, a7), (8, a8), (9, a9), (12, a12), (13, s), (72, sE), (73, .int .i64 es.length), (74, z), (75, .bool false)] ∧ Star H0 H' [itRow o9 1 a9 encB l9, itRow o12 1 a12 encB l12, B, itRow o 1 s encB (entsB w es)])
  (e0 := [(1, .int .i64 w), (2, room), (7, a7), (8, a8), (9, a9), (12, a12), (13, .slice none 0 0), (72, sE), (73, .int .i64 es.length), (74, .int .i64 0)]) (H0 := H) ⟨.slice none 0 0, none, rfl, by simpa [entsB] using g⟩ (by omega)
  (fun j e H' hj ⟨s, o, he, g⟩ => by
   subst he
   have hlt : (j : Int) < es.length := by omega
   obtain ⟨en, hen⟩ : ∃ en, es[j]? = some en := ⟨_, List.getElem?_eq_getElem hj⟩
   obtain ⟨q, i1, i2⟩ := ((hsE.up g.ext).rd (by decide) encEn_len).2 j en hen
   have hlen := entsB_len w (es.take j)
   rw [List.length_take] at hlen
   have g := g.push ⟨encEn en, 1, false⟩
   simp only [List.cons_append, List.nil_append] at g
   have b1 := m16_bound en.next
   have b2 := m16_bound en.flags
   have b3 := m16_bound en.a
   have b4 := m16_bound en.b
   have an := fun H a => and16 Prog 3 H a
   obtain ⟨s1, o1, H1, e1, g1⟩ := Put_star k g 3 rfl (m16 en.next) 2 2 rfl b1.1 (by omega) (by omega) (by omega)
   simp only [List.set_cons_zero, List.set_cons_succ] at g1
   have h1 := g1.get 4 rfl
   obtain ⟨s2, o2, H2, e2, g2⟩ := Put_star k g1 3 rfl (m16 en.flags) 2 2 rfl b2.1 (by omega) (by omega) (by simp; omega)
   simp only [List.set_cons_zero, List.set_cons_succ] at g2
   have h2 := g2.get 4 rfl
   rcases hw with rfl | rfl | rfl
   ·refine .inl ⟨_, H2, ?_, s2, o2, rfl, by rw [take_snoc hen, entsB_snoc]; simpa [entB] using g2.take 4⟩
    rw [swashlaw07_Write_l4_eq]
    simp -implicitDefEqProofs (disch := omega) [hlt, i1, i2, an, e1, h1, e2, h2, swashlaw07_Write_j4_eq, swashlaw07_Write_j6_eq]
   ·obtain ⟨s3, o3, H3, e3, g3⟩ := Put_star k g2 3 rfl (m16 en.a) 2 2 rfl b3.1 (by omega) (by omega) (by simp; omega)
    simp only [List.set_cons_zero, List.set_cons_succ] at g3
    have h3 := g3.get 4 rfl
    refine .inl ⟨_, H3, ?_, s3, o3, rfl, by rw [take_snoc hen, entsB_snoc]; simpa [entB] using g3.take 4⟩
    rw [swashlaw07_Write_l4_eq]
    simp -implicitDefEqProofs (disch := omega) [hlt, i1, i2, an, e1, h1, e2, h2, e3, h3, swashlaw07_Write_j3_eq, swashlaw07_Write_j6_eq]
   ·obtain ⟨s3, o3, H3, e3, g3⟩ := Put_star k g2 3 rfl (m16 en.a) 2 2 rfl b3.1 (by omega) (by omega) (by simp; omega)
    simp only [List.set_cons_zero, List.set_cons_succ] at g3
    have h3 := g3.get 4 rfl
    obtain ⟨s4, o4, H4, e4, g4⟩ := Put_star k g3 3 rfl (m16 en.b) 2 2 rfl b4.1 (by omega) (by omega) (by simp; omega)
    simp only [List.set_cons_zero, List.set_cons_succ] at g4
    refine .inl ⟨_, H4, ?_, s4, o4, rfl, by rw [take_snoc hen, entsB_snoc]; simpa [entB] using g4.take 4⟩
    rw [swashlaw07_Write_l4_eq]
    simp -implicitDefEqProofs (disch := omega) [hlt, i1, i2, an, e1, h1, e2, h2, e3, h3, e4, swashlaw07_Write_j3_eq, swashlaw07_Write_j5_eq])
  (fun e H' ⟨s, o, he, g⟩ => by
   subst he
   rw [List.take_length] at g
   refine ⟨.exit 6, _, H', ?_, by simp, rfl, .int .i64 es.length, s, o, rfl, g⟩
   rw [swashlaw07_Write_l4_eq]
   simp -implicitDefEqProofs)
 exact ⟨s, o, H1, z, hr1, g⟩
theorem planN_eq (p : Plan) (h : 0 ≤ p.wide ∧ p.wide < 256) : 4 + p.wide.tmod 8 = (planN p : Int) ∧ planN p ≤ 11 := by
 unfold planN
 rw [Int.tmod_eq_emod_of_nonneg h.1]
 omega
set_option maxHeartbeats 2000000 in
theorem Write_coreG (k : Nat) (p : Plan) (hp : p.ok) (w : Int) (hw : w = 0 ∨ w = 1 ∨ w = 2) (room : Nat) (hroom : room ≤ 1000) (h1 : p.cls.length ≤ 1000) (h2 : p.rows.length ≤ 1000) (h3 : p.ents.length ≤ 1000) {H : Heap} {vC vR sE : Value} (hC : Sl H 1 vC encB p.cls) {rv : List (List Int × Value)} (hrv : rv.map Prod.fst = p.rows) (hrs : ∀ x, x ∈ rv → Sl H 1 x.2 encB x.1) (hR : Sl H 1 vR encU rv) (hsE : Sl H 4 sE encEn p.ents) :
  ∃ s H', swashlaw07_Write k (R (T k)) (.agg #[vC, vR, sE, .int .u8 p.wide]) (.int .i64 w) (.int .i64 room) H = .ok s H' ∧ Own H H' 1 s encB (planBytes p w room) ∧ Ext H H' := by
 have hrvl : rv.length = p.rows.length := by rw [← hrv]; simp
 have hN := planN_eq p hp.2.2
 obtain ⟨n, hn⟩ : ∃ n, n = planN p := ⟨_, rfl⟩
 rw [← hn] at hN
 have hwd : 0 ≤ p.wide ∧ p.wide < 256 := hp.2.2
 have hrem := fun H => bin_rem Prog 3 H .i64 p.wide 8 (by decide)
 rw [Int.tmod_eq_emod_of_nonneg hwd.1] at hrem hN
 obtain ⟨B, hB⟩ : ∃ B : Blk, B = ⟨[vC, vR, sE, .int .u8 p.wide], 1, false⟩ := ⟨_, rfl⟩
 have g := (Star.nil H).more_row (Ext.refl _) (OwnO.nil encB _ 1) (fun b hb => by cases hb)
 have g := g.more_row (Ext.refl _) (OwnO.nil encB _ 1) (fun b hb => by cases hb)
 have g := g.push B
 simp only [List.cons_append, List.nil_append] at g
 -- the head of the classes
 obtain ⟨s1, o1, H1, e1, g⟩ := Put_star k g 0 rfl 8 2 2 rfl (by omega) (by omega) (by omega) (by simp)
 simp only [List.set_cons_zero, List.set_cons_succ] at g
 have b1 := g.get 2 rfl
 obtain ⟨s2, o2, H2, e2, g⟩ := Put_star k g 0 rfl 0 2 2 rfl (by omega) (by omega) (by omega) (by simp)
 simp only [List.set_cons_zero, List.set_cons_succ] at g
 have b2 := g.get 2 rfl
 obtain ⟨s3, o3, H3, e3, g⟩ := Put_star k g 0 rfl p.cls.length 2 2 rfl (by omega) (by omega) (by omega) (by simp)
 simp only [List.set_cons_zero, List.set_cons_succ, List.nil_append] at g
 have b3 := g.get 2 rfl
 -- the classes
 obtain ⟨x, e', H4, hr4, rfl, z4, s4, o4, rfl, g⟩ := loop_up (body := swashlaw07_Write_l1 k (R (T k))) p.cls.length
  (fun j e H' => ∃ s o, e = [(1, .int .i64 w), (2, .int .i64 room), (3, ptrV H.n), (7, .int .i64 n), (8, .int .i64 (16 + room)), (9, s), (35, vC), (36, .int .i64 p.cls.length), (37, .int .i64 j)] ∧ Star H H' [itRow o 1 s encB ((bytesOf 8 2 ++ bytesOf 0 2 ++ bytesOf p.cls.length 2) ++ twos (p.cls.take j)), itRow none 1 (.slice none 0 0) encB [], itBlk H.n B])
  (fun x e H' => x = .exit 0 ∧ ∃ z s o, e = [(1, .int .i64 w), (2, .int .i64 room), (3, ptrV H.n), (7, .int .i64 n), (8, .int .i64 (16 + room)), (9, s), (35, vC), (36, .int .i64 p.cls.length), (37, z), (38, .bool false)] ∧ Star H H' [itRow o 1 s encB (ofS p.cls), itRow none 1 (.slice none 0 0) encB [], itBlk H.n B])
  (e0 := [(1, .int .i64 w), (2, .int .i64 room), (3, ptrV H.n), (7, .int .i64 n), (8, .int .i64 (16 + room)), (9, s3), (35, vC), (36, .int .i64 p.cls.length), (37, .int .i64 0)]) (H0 := H3) ⟨s3, o3, rfl, by simpa [twos] using g⟩ (by omega)
  (fun j e H' hj ⟨s, o, he, g⟩ => by
   subst he
   have hlt : (j : Int) < p.cls.length := by omega
   obtain ⟨c, hc⟩ : ∃ c, p.cls[j]? = some c := ⟨_, List.getElem?_eq_getElem hj⟩
   obtain ⟨pp, i1, i2⟩ := hC.ix1 encB_len j c hc _ rfl
   have i2 := i2 H' g.ext
   have hcb := hp.1 c (List.mem_of_getElem? hc)
   obtain ⟨s', o', H2, e2, g2⟩ := Put_star k g 0 rfl c 2 2 rfl hcb.1 (by omega) (by omega) (by simp [twos_len]; omega)
   simp only [List.set_cons_zero, List.set_cons_succ] at g2
   refine .inl ⟨_, H2, ?_, s', o', rfl, by rw [take_snoc hc, twos_snoc, ← List.append_assoc]; exact g2⟩
   rw [swashlaw07_Write_l1_eq]
   simp -implicitDefEqProofs (disch := omega) [hlt, i1, i2, e2])
  (fun e H' ⟨s, o, he, g⟩ => by
   subst he
   rw [List.take_length] at g
   refine ⟨.exit 0, _, H', ?_, by simp, rfl, .int .i64 p.cls.length, s, o, rfl, g⟩
   rw [swashlaw07_Write_l1_eq]
   simp -implicitDefEqProofs)
 have b4 := g.get 2 rfl
 have hofl : (ofS p.cls).length = 6 + p.cls.length * 2 := by unfold ofS; simp [twos_len]; omega
 -- the rows
 obtain ⟨x, e', H5, hr5, rfl, z5, s5, o5, rfl, g⟩ := loop_up (body := swashlaw07_Write_l2 k (R (T k))) p.rows.length
  (fun j e H' => ∃ s o, e = [(1, .int .i64 w), (2, .int .i64 room), (3, ptrV H.n), (7, .int .i64 n), (8, .int .i64 (16 + room)), (9, s4), (12, s), (13, .slice none 0 0), (47, vR), (48, .int .i64 p.rows.length), (49, .int .i64 j)] ∧ Star H H' [itRow o4 1 s4 encB (ofS p.cls), itRow o 1 s encB (rowsL n (p.rows.take j)), itBlk H.n B])
  (fun x e H' => x = .exit 2 ∧ ∃ z s o, e = [(1, .int .i64 w), (2, .int .i64 room), (3, ptrV H.n), (7, .int .i64 n), (8, .int .i64 (16 + room)), (9, s4), (12, s), (13, .slice none 0 0), (47, vR), (48, .int .i64 p.rows.length), (49, z), (50, .bool false)] ∧ Star H H' [itRow o4 1 s4 encB (ofS p.cls), itRow o 1 s encB (rowsL n p.rows), itBlk H.n B])
  (e0 := [(1, .int .i64 w), (2, .int .i64 room), (3, ptrV H.n), (7, .int .i64 n), (8, .int .i64 (16 + room)), (9, s4), (12, .slice none 0 0), (13, .slice none 0 0), (47, vR), (48, .int .i64 p.rows.length), (49, .int .i64 0)]) (H0 := H4) ⟨.slice none 0 0, none, rfl, by simpa [rowsL] using g⟩ (by omega)
  (fun j e H' hj ⟨s, o, he, g⟩ => by
   subst he
   have hlt : (j : Int) < p.rows.length := by omega
   obtain ⟨r, hr⟩ : ∃ r, p.rows[j]? = some r := ⟨_, List.getElem?_eq_getElem hj⟩
   obtain ⟨x, hx⟩ : ∃ x, rv[j]? = some x := ⟨_, List.getElem?_eq_getElem (by omega)⟩
   have hxr : x.1 = r := by
    have h0 : (rv.map Prod.fst)[j]? = some x.1 := by rw [List.getElem?_map, hx]; rfl
    rw [hrv, hr] at h0
    exact (Option.some.inj h0).symm
   obtain ⟨pp, i1, i2⟩ := hR.ix1 encU_len j x hx _ rfl
   have i2 := i2 H' g.ext
   have hxs := hrs x (List.mem_of_getElem? hx)
   rw [hxr] at hxs
   have hll : (rowsL n (p.rows.take j)).length < 2 ^ 29 := by
    rw [rowsL_len, List.length_take]
    have : min j p.rows.length * (n * 2) ≤ 1000 * 22 := Nat.mul_le_mul (by omega) (by omega)
    omega
   obtain ⟨s', o', H2, z', e2, g2⟩ := write_l3 k (.int .i64 w) (.int .i64 room) n (by omega) (ptrV H.n) (.int .i64 (16 + room)) r (hp.2.1 r (List.mem_of_getElem? hr)) hxs (vR) (.int .i64 p.rows.length) (.int .i64 j) hll g
   refine .inl ⟨_, H2, ?_, s', o', rfl, by rw [take_snoc hr, rowsL_snoc]; exact g2⟩
   rw [swashlaw07_Write_l2_eq]
   simp -implicitDefEqProofs (disch := omega) [hlt, i1, i2, e2, swashlaw07_Write_l3k_x4])
  (fun e H' ⟨s, o, he, g⟩ => by
   subst he
   rw [List.take_length] at g
   refine ⟨.exit 2, _, H', ?_, by simp, rfl, .int .i64 p.rows.length, s, o, rfl, g⟩
   rw [swashlaw07_Write_l2_eq]
   simp -implicitDefEqProofs)
 have b5 := g.get 2 rfl
 have hrl : (rowsL n p.rows).length ≤ 1000 * 22 := by rw [rowsL_len]; exact Nat.mul_le_mul h2 (by omega)
 -- the entries
 obtain ⟨s6, o6, H6, z6, hr6, g⟩ := write_l4 k w hw (.int .i64 room) (.int .i64 n) (.int .i64 (16 + room)) p.ents (by omega) hsE g
 have hel := entsB_len w p.ents
 have q9 : ∀ H', lnS s4 H' = .ok (.int .i64 (ofS p.cls).length) H' := (g.row 0 rfl).len
 have q12 : ∀ H', lnS s5 H' = .ok (.int .i64 (rowsL n p.rows).length) H' := (g.row 1 rfl).len
 -- all together
 have g := g.more_row (Ext.refl _) (OwnO.nil encB _ 1) (fun b hb => by cases hb)
 simp only [List.cons_append, List.nil_append] at g
 obtain ⟨t1, u1, J1, f1, g⟩ := Put_star k g 4 rfl n 4 4 rfl (by omega) (by omega) (by omega) (by simp)
 simp only [List.set_cons_zero, List.set_cons_succ, List.nil_append] at g
 obtain ⟨t2, u2, J2, f2, g⟩ := Put_star k g 4 rfl (16 + room) 4 4 rfl (by omega) (by omega) (by omega) (by simp)
 simp only [List.set_cons_zero, List.set_cons_succ] at g
 obtain ⟨t3, u3, J3, f3, g⟩ := Put_star k g 4 rfl (16 + room + (ofS p.cls).length) 4 4 rfl (by omega) (by omega) (by omega) (by simp)
 simp only [List.set_cons_zero, List.set_cons_succ] at g
 obtain ⟨t4, u4, J4, f4, g⟩ := Put_star k g 4 rfl (16 + room + (ofS p.cls).length + (rowsL n p.rows).length) 4 4 rfl (by omega) (by omega) (by omega) (by simp)
 simp only [List.set_cons_zero, List.set_cons_succ] at g
 obtain ⟨a4, l4, c4, ht4⟩ := (g.row 4 rfl).shape
 obtain ⟨t5, u5, J5, f5, g⟩ := g.append (bytes := 1) 4 encB_len rfl (b := lv encB (List.replicate room 0)) (l2 := List.replicate room 0) (by rw [lv, List.length_replicate]; rfl) (by have := lv_first encB_len (List.replicate room 0) J4; exact this) (by simp; omega) (by decide)
 simp only [List.set_cons_zero, List.set_cons_succ] at g
 have f5' : azR 1 1 [.int .u8 0] t4 (.int .i64 room) J4 = .ok t5 J5 := by
  rw [ht4] at f5 ⊢
  rw [azR_eq encB_len a4 l4 c4 (0 : Int) _ rfl .i64 room (by omega)]
  exact f5
 obtain ⟨t6, u6, J6, f6, g⟩ := g.appendRow (bytes := 1) 4 0 encB_len rfl rfl (by simp; omega) (by decide)
 simp only [List.set_cons_zero, List.set_cons_succ] at g
 obtain ⟨t7, u7, J7, f7, g⟩ := g.appendRow (bytes := 1) 4 1 encB_len rfl rfl (by simp; omega) (by decide)
 simp only [List.set_cons_zero, List.set_cons_succ] at g
 obtain ⟨t8, u8, J8, f8, g⟩ := g.appendRow (bytes := 1) 4 3 encB_len rfl rfl (by simp; omega) (by decide)
 simp only [List.set_cons_zero, List.set_cons_succ] at g
 have hbytes : planBytes p w room = bytesOf (n : Int) 4 ++ bytesOf (16 + room : Int) 4 ++ bytesOf (16 + room + (ofS p.cls).length : Int) 4 ++ bytesOf (16 + room + (ofS p.cls).length + (rowsL n p.rows).length : Int) 4 ++ List.replicate room 0 ++ ofS p.cls ++ rowsL n p.rows ++ entsB w p.ents := by
  unfold planBytes
  rw [← hn]
 rw [hbytes]
 refine ⟨t8, J8, ?_, g.own 4 rfl, g.ext⟩
 rw [hB] at e1 b1 b2 b3 b4 b5
 have hlnE := fun H' => hsE.len H'
 have hlnC := fun H' => hC.len H'
 have hlnR := fun H' => hR.len H'
 rw [hrvl] at hlnR
 have hvqC : veq vC vC = true := hC.veq fun x _ u hu => by simp at hu; subst hu; simp
 simp -implicitDefEqProofs (disch := omega) [swashlaw07_Write, hrem, hN.1, e1, b1, e2, b2, e3, b3, hr4, swashlaw07_Write_l1k_x0, b4, hr5, swashlaw07_Write_l2k_x2, b5, hr6, swashlaw07_Write_l4k_x6, f1, q9, q12, f2, f3, f4, f5', f6, f7, f8, hlnE, hlnC, hlnR, hvqC]
theorem lvU_rows (l : List (List Int)) : lv encBR l = lv encU (l.map fun s => (s, lv encB s)) := by
 unfold lv
 rw [List.length_map]
 congr 2
 unfold rows
 rw [List.flatMap_map]
 rfl
theorem rv_fst (l : List (List Int)) : (l.map fun s => (s, lv encB s)).map Prod.fst = l := by rw [List.map_map]; simp [Function.comp_def]
structure PlanSl (H : Heap) (p : Plan) (vC vR sE : Value) (rv : List (List Int × Value)) : Prop where
 cls : Sl H 1 vC encB p.cls
 fst : rv.map Prod.fst = p.rows
 each : ∀ x, x ∈ rv → Sl H 1 x.2 encB x.1
 rows : Sl H 1 vR encU rv
 ents : Sl H 4 sE encEn p.ents
theorem PlanSl.up {H H' : Heap} {p : Plan} {vC vR sE : Value} {rv : List (List Int × Value)} (h : PlanSl H p vC vR sE rv) (he : Ext H H') : PlanSl H' p vC vR sE rv := ⟨h.cls.up he, h.fst, fun x hx => (h.each x hx).up he, h.rows.up he, h.ents.up he⟩
theorem PlanSl.lv (H : Heap) (p : Plan) {sE : Value} (h : Sl H 4 sE encEn p.ents) : PlanSl H p (Go.Sw.lv encB p.cls) (Go.Sw.lv encBR p.rows) sE (p.rows.map fun s => (s, Go.Sw.lv encB s)) :=
 ⟨Sl.lv _ 1 _, rv_fst p.rows, fun x hx => by obtain ⟨s, _, rfl⟩ := List.mem_map.1 hx; exact Sl.lv _ 1 _, by rw [lvU_rows]; exact Sl.lv _ 1 _, h⟩
theorem Write_starG (k : Nat) (hW : ownW k = .no) (p : Plan) (hp : p.ok) (w : Int) (hw : w = 0 ∨ w = 1 ∨ w = 2) (room : Nat) (hroom : room ≤ 1000) (h1 : p.cls.length ≤ 1000) (h2 : p.rows.length ≤ 1000) (h3 : p.ents.length ≤ 1000) {H0 H : Heap} {L : List It} (g : Star H0 H L) {vC vR sE : Value} {rv : List (List Int × Value)} (hP : PlanSl H p vC vR sE rv) :
  ∃ s o H', R (T k) F.swashlaw07_Write [.agg #[vC, vR, sE, .int .u8 p.wide], .int .i64 w, .int .i64 room] H = .ok s H' ∧ Star H0 H' (L ++ [itRow o 1 s encB (planBytes p w room)]) ∧ Ext H H' := by
 obtain ⟨s, H', e, ho, hx⟩ := Write_coreG k p hp w hw room hroom h1 h2 h3 hP.cls hP.fst hP.each hP.rows hP.ents
 obtain ⟨o, g⟩ := g.more_own ho hx
 exact ⟨s, o, H', by rw [swashlaw07_Write_R, hW]; exact nrm_of e, g, hx⟩
end Go.Sw
end
section
set_option maxRecDepth 100000
set_option linter.unusedVariables false
namespace Go.Sw
noncomputable section
end
end Go.Sw
end
section
namespace Go.Sw
open Go.RowKit
theorem inS_piece {b : List Int} {i n : Int} : (pieceS b i n).isSome = inS b.length i n := by
 unfold pieceS inS
 split
 ·rename_i h; rw [decide_eq_true h]; rfl
 ·rename_i h; rw [decide_eq_false h]; rfl
theorem uS_of_in {b : List Int} {i n : Int} (h : inS b.length i n = true) : ∃ x, uS b i n = some x := by
 rw [← inS_piece, Option.isSome_iff_exists] at h
 obtain ⟨r, hr⟩ := h
 exact ⟨num r, by unfold uS; rw [hr]; rfl⟩
end Go.Sw
end
section
set_option maxRecDepth 100000
set_option linter.unusedVariables false
namespace Go.Sw
noncomputable section
end
end Go.Sw
end
section
namespace Go.Sw
open Go.RowKit
end Go.Sw
end
section
namespace Go.Sw
open Go.RowKit
end Go.Sw
end
section
namespace Go.Sw
open Go.RowKit
def RP.ok (r : RP) : Prop := -1 ≤ r.first ∧ r.first ≤ 65536 ∧ -1 ≤ r.last ∧ r.last ≤ 65536 ∧ -1 ≤ r.pos ∧ r.pos < 2 ^ 35 ∧ 0 ≤ r.step ∧ r.step ≤ 4 ∧ 0 ≤ r.size ∧ r.size ≤ 4
end Go.Sw
end
section
namespace Go.Sw
open Go.RowKit
theorem restS_iff {b rv : List Int} {j : Int} : restS b j = some rv ↔ (0 ≤ j ∧ j ≤ b.length) ∧ rv = b.drop j.toNat := by
 unfold restS
 split
 ·rename_i h
  exact ⟨fun e => by injection e with e; exact ⟨h, e.symm⟩, fun e => by rw [e.2]⟩
 ·rename_i h
  exact ⟨fun e => (by cases e), fun e => absurd e.1 h⟩
theorem restS_length {b rv : List Int} {j : Int} (h : restS b j = some rv) : (rv.length : Int) = b.length - j := by
 obtain ⟨h1, rfl⟩ := restS_iff.1 h
 simp
 omega
theorem uS_rest {b rv : List Int} {j : Int} (h : restS b j = some rv) {x : Int} (hx : 0 ≤ x) (z : Int) : uS rv x z = uS b (j + x) z := by
 have hl := restS_length h
 obtain ⟨h1, rfl⟩ := restS_iff.1 h
 unfold uS pieceS
 by_cases hc : 0 ≤ z ∧ x ≤ b.length - j ∧ z ≤ b.length - j - x
 ·rw [if_pos (by omega), if_pos (by omega), List.drop_drop, show j.toNat + x.toNat = (j + x).toNat by omega]
 ·rw [if_neg (by omega), if_neg (by omega)]
theorem rowK_iff {rv : List Int} {n : Int} (hn : 0 < n) {k : Nat} : (rowK rv n k).isSome = true ↔ 2 * n * (k + 1) ≤ rv.length := by
 unfold rowK
 rw [listS_isSome (by omega), rowsB_iff (by omega)]
 have h0 : 0 ≤ 2 * n * (k : Int) := Int.mul_nonneg (by omega) (by omega)
 have h1 : 2 * n * ((k : Int) + 1) = 2 * n * k + 2 * n := by rw [Int.mul_add]; omega
 constructor
 ·rintro ⟨_, _, _, h⟩; omega
 ·intro h; exact ⟨h0, by omega, by omega, by omega⟩
theorem row_at {b rv : List Int} {j : Int} (h : restS b j = some rv) {n : Int} {k : Nat} {r : List Int} (hn : 0 < n) (hr : rowK rv n k = some r) : r = (List.range n.toNat).map fun i => gU b (j + (n * k + (i : Nat)) * 2) 2 := by
 have hs := (rowK_iff (rv := rv) (k := k) hn).1 (by rw [hr]; rfl)
 have hr' := hr
 unfold rowK listS at hr'
 obtain ⟨q, hq, hqr⟩ := Option.map_eq_some_iff.1 hr'
 have hlen : r.length = n.toNat := by rw [← hqr]; simp
 have hk0 : 0 ≤ n * (k : Int) := Int.mul_nonneg (by omega) (by omega)
 apply List.ext_getElem?
 intro i
 by_cases hi : i < n.toNat
 ·rw [listS_get (by omega) hr i (by omega), List.getElem?_map, List.getElem?_range hi, uS_rest h (by rw [Int.mul_assoc]; omega)]
  have e : j + (2 * n * (k : Int) + (i : Int) * 2) = j + (n * k + (i : Nat)) * 2 := by rw [Int.mul_assoc, Int.add_mul]; omega
  rw [e]
  have hlen := restS_length h
  have hj := (restS_iff.1 h).1
  have h1 : 2 * n * ((k : Int) + 1) = 2 * (n * k) + 2 * n := by rw [Int.mul_add, Int.mul_assoc]; omega
  obtain ⟨x, hx⟩ : ∃ x, uS b (j + (n * k + (i : Nat)) * 2) 2 = some x := uS_of_in (by unfold inS; exact decide_eq_true (by rw [Int.add_mul]; omega))
  rw [hx, Option.map_some, gU_some hx]
 ·rw [List.getElem?_eq_none (by omega), List.getElem?_eq_none (by simp; omega)]
end Go.Sw
end
section
namespace Go.Sw
open Go.RowKit
theorem twos_get (l : List Int) (pre rest : List Int) (i : Nat) (x : Int) (hx : l[i]? = some x) (hb : 0 ≤ x ∧ x < 65536) (p : Int) (hp : p = pre.length + 2 * i) : uS (pre ++ (twos l ++ rest)) p 2 = some x := by
 obtain ⟨hi, hg⟩ := List.getElem?_eq_some_iff.1 hx
 have e : twos l = twos (l.take i) ++ (bytesOf x 2 ++ twos (l.drop (i + 1))) := by
  have : l = l.take i ++ ([x] ++ l.drop (i + 1)) := by
   rw [← hg, List.singleton_append, ← List.drop_eq_getElem_cons hi, List.take_append_drop]
  conv => lhs; rw [this]
  simp [twos]
 rw [e, ← List.append_assoc]
 have h := uS_at (pre ++ twos (l.take i)) (twos (l.drop (i + 1)) ++ rest) (n := x) (k := 2) p 2 (by rw [List.length_append, twos_len, List.length_take]; omega) rfl hb.1 (by simpa using hb.2)
 simpa [List.append_assoc] using h
theorem twos_flat (n : Nat) : ∀ rs : List (List Int), rowsL n rs = twos (rs.map (rowL n)).flatten
 | [] => rfl
 | r :: rs => by
  have ih := twos_flat n rs
  unfold rowsL at ih ⊢
  rw [List.map_cons, List.flatten_cons, ih]
  simp [twos]
theorem flat_get {n : Nat} : ∀ {rs : List (List Int)} {s i : Nat} {r : List Int}, (∀ r, r ∈ rs → r.length = n) → rs[s]? = some r → i < n → rs.flatten[n * s + i]? = r[i]?
 | [], s, i, r, _, h, _ => by simp at h
 | q :: rs, 0, i, r, hl, h, hi => by
  simp at h
  subst h
  have := hl q (by simp)
  rw [List.flatten_cons, Nat.mul_zero, Nat.zero_add, List.getElem?_append_left (by omega)]
 | q :: rs, s + 1, i, r, hl, h, hi => by
  have h1 := hl q (by simp)
  have := flat_get (s := s) (i := i) (fun r hr => hl r (List.mem_cons_of_mem _ hr)) (by simpa using h) hi
  rw [List.flatten_cons, List.getElem?_append_right (by rw [h1, Nat.mul_succ]; omega), h1, ← this]
  congr 1
  rw [Nat.mul_succ]; omega
theorem restS_all (b : List Int) : restS b 0 = some b := by
 unfold restS
 rw [if_pos ⟨Int.le_refl _, by omega⟩]
 rfl
theorem rowK_plan {n : Nat} (hn : 0 < n) {rs : List (List Int)} (hb : ∀ r, r ∈ rs → Byt r) (x : List Int) {s : Nat} {r : List Int} (hr : rs[s]? = some r) : rowK (rowsL n rs ++ x) n s = some (rowL n r) := by
 have hs := (List.getElem?_eq_some_iff.1 hr).1
 have hlen : (n * 2) * (s + 1) ≤ rs.length * (n * 2) := by rw [Nat.mul_comm]; exact Nat.mul_le_mul_right _ hs
 have hsome : (rowK (rowsL n rs ++ x) n s).isSome = true := by
  rw [rowK_iff (by omega), List.length_append, rowsL_len]
  have h2 : (2 * (n : Int) * ((s : Int) + 1)) = (((n * 2) * (s + 1) : Nat) : Int) := by simp [Int.mul_comm]
  rw [h2]
  omega
 obtain ⟨q, hq⟩ := Option.isSome_iff_exists.1 hsome
 have hat := row_at (restS_all _) (show (0 : Int) < n by omega) hq
 rw [hq, hat]
 congr 1
 rw [Int.toNat_natCast]
 unfold rowL
 apply List.map_congr_left
 intro i hi
 have hi := List.mem_range.1 hi
 have hg : (rs.map (rowL n)).flatten[n * s + i]? = some (r[i]?.getD 0) := by
  rw [flat_get (r := rowL n r) (fun q hq => by obtain ⟨p, _, rfl⟩ := List.mem_map.1 hq; exact rowL_len _ _) (by rw [List.getElem?_map, hr]; rfl) hi]
  unfold rowL
  rw [List.getElem?_map, List.getElem?_range hi]
  rfl
 have hbd : 0 ≤ r[i]?.getD 0 ∧ r[i]?.getD 0 < 256 := by
  cases h : r[i]? with
  | none => simp
  | some y => exact hb r (List.mem_of_getElem? hr) y (List.mem_of_getElem? h)
 rw [twos_flat]
 have := twos_get _ [] x (n * s + i) _ hg ⟨hbd.1, by omega⟩ (0 + ((n : Int) * s + i) * 2) (by simp; omega)
 rw [List.nil_append] at this
 rw [gU_some this]
def entM (w : Int) (e : En) : En := ⟨m16 e.next, m16 e.flags, if 0 < w then m16 e.a else 0, if 1 < w then m16 e.b else 0⟩
theorem entB_length {w : Int} (hw : w = 0 ∨ w = 1 ∨ w = 2) (e : En) : (entB w e).length = (4 + 2 * w).toNat := by
 unfold entB
 simp only [List.length_append, bytesOf_len]
 rcases hw with rfl | rfl | rfl <;> simp
theorem entK_plan {w : Int} (hw : w = 0 ∨ w = 1 ∨ w = 2) {es : List En} (x : List Int) {i : Nat} {e : En} (he : es[i]? = some e) : entK (entsB w es ++ x) w i = some (entM w e) := by
 obtain ⟨hi, hg⟩ := List.getElem?_eq_some_iff.1 he
 have hall : entsB w es = entsB w (es.take i) ++ (entB w e ++ entsB w (es.drop (i + 1))) := by
  have : es = es.take i ++ ([e] ++ es.drop (i + 1)) := by
   rw [← hg, List.singleton_append, ← List.drop_eq_getElem_cons hi, List.take_append_drop]
  conv => lhs; rw [this]
  simp [entsB]
 have hl : (entsB w (es.take i)).length = i * (4 + 2 * w).toNat := by
  unfold entsB
  rw [flat_len (z := (4 + 2 * w).toNat) (fun r hr => by obtain ⟨p, _, rfl⟩ := List.mem_map.1 hr; exact entB_length hw p), List.length_map, List.length_take, Nat.min_eq_left (by omega)]
 unfold entK
 have hp : pieceS (entsB w es ++ x) ((4 + 2 * w) * i) (4 + 2 * w) = some (entB w e) := by
  rw [hall, List.append_assoc, List.append_assoc]
  refine pieceS_at _ _ _ _ _ ?_ ?_
  ·rw [hl, Int.mul_comm]
   have : (((4 + 2 * w).toNat : Nat) : Int) = 4 + 2 * w := by omega
   rw [Int.natCast_mul, this]
  ·rw [entB_length hw]; omega
 rw [hp, Option.map_some]
 congr 1
 have b1 := m16_bound e.next
 have b2 := m16_bound e.flags
 have b3 := m16_bound e.a
 have b4 := m16_bound e.b
 have at_ : ∀ (p q : List Int) (n i : Int), i = p.length → 0 ≤ n → n < 65536 → gU (p ++ (bytesOf n 2 ++ q)) i 2 = n := fun p q n i hi h0 h1 => gU_some (uS_at p q i 2 hi rfl h0 (by simpa using h1))
 unfold entOf entM entB
 rcases hw with rfl | rfl | rfl
 ·simp
  exact ⟨at_ [] _ _ 0 (by simp) b1.1 b1.2, by simpa using at_ (bytesOf (m16 e.next) 2) [] _ 2 (by simp) b2.1 b2.2⟩
 ·simp
  exact ⟨at_ [] _ _ 0 (by simp) b1.1 b1.2, at_ (bytesOf (m16 e.next) 2) _ _ 2 (by simp) b2.1 b2.2, by simpa using at_ (bytesOf (m16 e.next) 2 ++ bytesOf (m16 e.flags) 2) [] _ 4 (by simp) b3.1 b3.2⟩
 ·simp
  exact ⟨at_ [] _ _ 0 (by simp) b1.1 b1.2, at_ (bytesOf (m16 e.next) 2) _ _ 2 (by simp) b2.1 b2.2, by simpa [List.append_assoc] using at_ (bytesOf (m16 e.next) 2 ++ bytesOf (m16 e.flags) 2) (bytesOf (m16 e.b) 2) _ 4 (by simp) b3.1 b3.2,
   by simpa [List.append_assoc] using at_ (bytesOf (m16 e.next) 2 ++ (bytesOf (m16 e.flags) 2 ++ bytesOf (m16 e.a) 2)) [] _ 6 (by simp) b4.1 b4.2⟩
def planRoom (p : Plan) (w : Int) (rm : List Int) : List Int :=
 bytesOf (planN p : Int) 4 ++ (bytesOf (16 + rm.length : Int) 4 ++ (bytesOf (16 + rm.length + (ofS p.cls).length : Int) 4 ++ (bytesOf (16 + rm.length + (ofS p.cls).length + (rowsL (planN p) p.rows).length : Int) 4 ++ (rm ++ (ofS p.cls ++ (rowsL (planN p) p.rows ++ entsB w p.ents))))))
theorem planBytes_room (p : Plan) (w : Int) (room : Nat) : planBytes p w room = planRoom p w (List.replicate room 0) := by
 unfold planBytes planRoom
 simp [List.append_assoc]
def tabOf (cls : List Int) : Int × List Pt := (8, if cls = [] then [] else [⟨0, (cls.length : Int) - 1, cls⟩])
theorem twos_list (l : List Int) (pre rest : List Int) (hb : ∀ x, x ∈ l → 0 ≤ x ∧ x < 65536) (i : Int) (hi : i = pre.length) : listS (pre ++ (twos l ++ rest)) i l.length 2 = some l := by
 have hs : (listS (pre ++ (twos l ++ rest)) i l.length 2).isSome = true := by
  rw [listS_isSome (by omega), rowsB_iff (by omega)]
  simp [twos_len]
  omega
 obtain ⟨vs, hv⟩ := Option.isSome_iff_exists.1 hs
 rw [hv]
 congr 1
 have hlen : vs.length = l.length := by
  unfold listS at hv
  obtain ⟨r, _, rfl⟩ := Option.map_eq_some_iff.1 hv
  simp
 apply List.ext_getElem?
 intro j
 by_cases hj : j < l.length
 ·obtain ⟨x, hx⟩ : ∃ x, l[j]? = some x := ⟨_, List.getElem?_eq_getElem hj⟩
  rw [listS_get (by omega) hv j (by omega), hx]
  exact twos_get l pre rest j x hx (hb x (List.mem_of_getElem? hx)) _ (by omega)
 ·rw [List.getElem?_eq_none (by omega), List.getElem?_eq_none (by omega)]
theorem look_ofS (cls : List Int) (hb : ∀ x, x ∈ cls → 0 ≤ x ∧ x < 65536) (hl : cls.length ≤ 65535) (rest : List Int) (g : Int) : lookS (ofS cls ++ rest) g 2 = some (tabOf cls) := by
 have h0 : uS (ofS cls ++ rest) 0 2 = some 8 := by
  have := uS_at [] (bytesOf 0 2 ++ (bytesOf cls.length 2 ++ (twos cls ++ rest))) (n := 8) (k := 2) 0 2 rfl rfl (by omega) (by decide)
  simpa [ofS, List.append_assoc] using this
 have h2 : uS (ofS cls ++ rest) 2 2 = some 0 := by
  have := uS_at (bytesOf 8 2) (bytesOf cls.length 2 ++ (twos cls ++ rest)) (n := 0) (k := 2) 2 2 (by simp) rfl (by omega) (by decide)
  simpa [ofS, List.append_assoc] using this
 have h4 : uS (ofS cls ++ rest) (2 + 2) 2 = some (cls.length : Int) := by
  have := uS_at (bytesOf 8 2 ++ bytesOf 0 2) (twos cls ++ rest) (n := cls.length) (k := 2) (2 + 2) 2 (by simp) rfl (by omega) (by simp; omega)
  simpa [ofS, List.append_assoc] using this
 have h6 : listS (ofS cls ++ rest) (2 + 4) cls.length 2 = some cls := by
  have := twos_list cls (bytesOf 8 2 ++ bytesOf 0 2 ++ bytesOf cls.length 2) rest hb (2 + 4) (by simp)
  simpa [ofS, List.append_assoc] using this
 unfold lookS partsS
 rw [h0, Option.bind_some]
 simp only [show ¬ ((8 : Int) = 0) by decide, show ¬ ((8 : Int) = 2) by decide, show ¬ ((8 : Int) = 4) by decide, show ¬ ((8 : Int) = 6) by decide, if_false, if_true]
 unfold trimS
 rw [h2, Option.bind_some, h4, Option.bind_some, if_pos (by omega), h6, Option.map_some, Option.bind_some]
 unfold tabOf
 by_cases hc : cls = []
 ·subst hc; rfl
 ·rw [if_neg hc, if_neg (show ¬ ((cls.length : Int) = 0) by have := List.length_pos_iff.2 hc; omega)]
  simp [risesS]
theorem pieces_of (p : Plan) (w : Int) (rm more : List Int) (hrm : rm.length ≤ 1000) (h1 : p.cls.length ≤ 1000) (h2 : p.rows.length ≤ 1000) (hn : planN p ≤ 11) :
  let b := planRoom p w rm ++ more
  uS b 0 4 = some (planN p : Int) ∧ uS b 4 4 = some (16 + rm.length : Int) ∧ restS b (16 + rm.length : Int) = some (ofS p.cls ++ (rowsL (planN p) p.rows ++ (entsB w p.ents ++ more))) ∧
  uS b 8 4 = some (16 + rm.length + (ofS p.cls).length : Int) ∧ restS b (16 + rm.length + (ofS p.cls).length : Int) = some (rowsL (planN p) p.rows ++ (entsB w p.ents ++ more)) ∧
  uS b 12 4 = some (16 + rm.length + (ofS p.cls).length + (rowsL (planN p) p.rows).length : Int) ∧ restS b (16 + rm.length + (ofS p.cls).length + (rowsL (planN p) p.rows).length : Int) = some (entsB w p.ents ++ more) := by
 intro b
 have hofl : (ofS p.cls).length = 6 + p.cls.length * 2 := by unfold ofS; simp [twos_len]; omega
 have hrl : (rowsL (planN p) p.rows).length ≤ 1000 * 22 := by rw [rowsL_len]; exact Nat.mul_le_mul h2 (by omega)
 have rest : ∀ (pre q : List Int) (i : Int), i = pre.length → restS (pre ++ q) i = some q := fun pre q i hi => by
  subst hi
  unfold restS
  rw [if_pos ⟨by omega, by simp; omega⟩]
  simp
 have hb : b = bytesOf (planN p : Int) 4 ++ (bytesOf (16 + rm.length : Int) 4 ++ (bytesOf (16 + rm.length + (ofS p.cls).length : Int) 4 ++ (bytesOf (16 + rm.length + (ofS p.cls).length + (rowsL (planN p) p.rows).length : Int) 4 ++ (rm ++ (ofS p.cls ++ (rowsL (planN p) p.rows ++ (entsB w p.ents ++ more))))))) := by
  show planRoom p w rm ++ more = _
  unfold planRoom
  simp only [List.append_assoc]
 rw [hb]
 refine ⟨?_, ?_, ?_, ?_, ?_, ?_, ?_⟩
 ·exact uS_at [] _ 0 4 rfl rfl (by omega) (by simp; omega)
 ·exact uS_at (bytesOf (planN p : Int) 4) _ 4 4 (by simp) rfl (by omega) (by simp; omega)
 ·have := rest (bytesOf (planN p : Int) 4 ++ (bytesOf (16 + rm.length : Int) 4 ++ (bytesOf (16 + rm.length + (ofS p.cls).length : Int) 4 ++ (bytesOf (16 + rm.length + (ofS p.cls).length + (rowsL (planN p) p.rows).length : Int) 4 ++ rm)))) (ofS p.cls ++ (rowsL (planN p) p.rows ++ (entsB w p.ents ++ more))) (16 + rm.length) (by simp; omega)
  simpa only [List.append_assoc] using this
 ·have := uS_at (bytesOf (planN p : Int) 4 ++ bytesOf (16 + rm.length : Int) 4) (bytesOf (16 + rm.length + (ofS p.cls).length + (rowsL (planN p) p.rows).length : Int) 4 ++ (rm ++ (ofS p.cls ++ (rowsL (planN p) p.rows ++ (entsB w p.ents ++ more))))) (n := 16 + rm.length + (ofS p.cls).length) (k := 4) 8 4 (by simp) rfl (by omega) (by simp; omega)
  simpa only [List.append_assoc] using this
 ·have := rest (bytesOf (planN p : Int) 4 ++ (bytesOf (16 + rm.length : Int) 4 ++ (bytesOf (16 + rm.length + (ofS p.cls).length : Int) 4 ++ (bytesOf (16 + rm.length + (ofS p.cls).length + (rowsL (planN p) p.rows).length : Int) 4 ++ (rm ++ ofS p.cls))))) (rowsL (planN p) p.rows ++ (entsB w p.ents ++ more)) (16 + rm.length + (ofS p.cls).length) (by simp; omega)
  simpa only [List.append_assoc] using this
 ·have := uS_at (bytesOf (planN p : Int) 4 ++ bytesOf (16 + rm.length : Int) 4 ++ bytesOf (16 + rm.length + (ofS p.cls).length : Int) 4) (rm ++ (ofS p.cls ++ (rowsL (planN p) p.rows ++ (entsB w p.ents ++ more)))) (n := 16 + rm.length + (ofS p.cls).length + (rowsL (planN p) p.rows).length) (k := 4) 12 4 (by simp) rfl (by omega) (by simp; omega)
  simpa only [List.append_assoc] using this
 ·have := rest (bytesOf (planN p : Int) 4 ++ (bytesOf (16 + rm.length : Int) 4 ++ (bytesOf (16 + rm.length + (ofS p.cls).length : Int) 4 ++ (bytesOf (16 + rm.length + (ofS p.cls).length + (rowsL (planN p) p.rows).length : Int) 4 ++ (rm ++ (ofS p.cls ++ rowsL (planN p) p.rows)))))) (entsB w p.ents ++ more) (16 + rm.length + (ofS p.cls).length + (rowsL (planN p) p.rows).length) (by simp; omega)
  simpa only [List.append_assoc] using this
theorem plan_mach (p : Plan) (hp : p.ok) (w : Int) (rm more : List Int) (hrm : rm.length ≤ 1000) (h1 : p.cls.length ≤ 1000) (h2 : p.rows.length ≤ 1000) (g : Int) :
  machS (planRoom p w rm ++ more) g w = (closeA (rowsL (planN p) p.rows ++ (entsB w p.ents ++ more)) (entsB w p.ents ++ more) (planN p) w 2).map fun x => ⟨planN p, tabOf p.cls, x.1, x.2⟩ := by
 have hN := planN_eq p hp.2.2
 obtain ⟨e1, e2, e3, e4, e5, e6, e7⟩ := pieces_of p w rm more hrm h1 h2 hN.2
 have hn4 : 4 ≤ planN p := by unfold planN; omega
 unfold machS
 rw [e1, Option.bind_some, if_pos (by omega), e2, Option.bind_some, e3, Option.bind_some, look_ofS p.cls (fun x hx => by have := hp.1 x hx; omega) (by omega) _ g, Option.bind_some, e4, Option.bind_some, e5, Option.bind_some, e6, Option.bind_some, e7, Option.bind_some]
end Go.Sw
end
section
namespace Go.Sw
open Go.RowKit
end Go.Sw
end
section
namespace Go.Sw
open Go.RowKit
end Go.Sw
end
section
set_option maxRecDepth 100000
set_option linter.unusedVariables false
namespace Go.Sw
noncomputable section
def drive_Run_l1 (k : Nat) (call : Caller) : Env → Heap → Res (AExit × Env) := loopB (C k) call F.drive_Run [1, 1, 1, 0, 0, 0]
def drive_Run_l1k (k : Nat) (call : Caller) : Kont Value := kBlock 0 (kSeq (pieceK (C k) call F.drive_Run [1, 1, 1, 1]) (kDone Prog (resOf Prog F.drive_Run)))
def drive_Run (k : Nat) (call : Caller) (a0 a1 a2 : Value) (h : Heap) : Res Value :=
 (buildR Prog 297 [(0, a0), (1, a1)] h).bind fun v1 h2 =>
 (boxR v1 h2).bind fun v3 h4 =>
 (call F.line_Line_Len [a1] h4).bind fun v5 h6 =>
 (binR Prog .mul 3 (.int .i64 2) v5 h6).bind fun v7 h8 =>
 (binR Prog .add 3 v7 (.int .i64 128) h8).bind fun v9 h10 =>
 (loopN (drive_Run_l1 k call) loopFuel [(2, a2), (8, v3), (9, v9)] h10).bind fun r11 h12 =>
 drive_Run_l1k k call r11.1 r11.2 h12
theorem drive_Run_R (k : Nat) (a0 a1 a2 : Value) (h : Heap) : R (T k) F.drive_Run [a0, a1, a2] h = nrm .no h (drive_Run k (R (T k)) a0 a1 a2 h) :=
 (R_body (t := T k) (T_scott k) (by kernel_rfl) (by kernel_rfl) _ _).trans (by kernel_rfl)
theorem drive_Run_l1_eq (k : Nat) (call : Caller) (a2 a8 a9 : Value) (h : Heap) : drive_Run_l1 k call [(2, a2), (8, a8), (9, a9)] h =
 (nilR a8 h).bind fun v13 h14 =>
 (fieldAddrR Prog 297 v13 4 h14).bind fun v15 h16 =>
 (loadR Prog 3 v15 h16).bind fun v17 h18 =>
 (binR Prog .lss 3 v17 a9 h18).bind fun v19 h20 =>
 condV (some v19) (
 (call F.drive_driver_step [a8, a2] h20).bind fun v21 h22 =>
 condV (some v21) (
 (nilR a8 h22).bind fun v23 h24 =>
 (fieldAddrR Prog 297 v23 4 h24).bind fun v25 h26 =>
 (loadR Prog 3 v25 h26).bind fun v27 h28 =>
 .ok (.ret, [(6, v27), (7, (.int .i64 0))]) h28)
 (
 (nilR a8 h22).bind fun v29 h30 =>
 (fieldAddrR Prog 297 v29 5 h30).bind fun v31 h32 =>
 (loadR Prog 3 v31 h32).bind fun v33 h34 =>
 (binR Prog .gtr 3 v33 (.int .i64 64) h34).bind fun v35 h36 =>
 condV (some v35) (
 .ok ((.exit 0), [(2, a2), (8, a8), (9, a9), (35, v35)]) h36)
 (
 .ok (.normal, [(2, a2), (8, a8), (9, a9)]) h36)))
 (
 .ok ((.exit 0), [(2, a2), (8, a8), (9, a9), (23, v19)]) h20) :=
 (loopB_eq _ _).trans (by kernel_rfl)
theorem drive_Run_l1k_r (k : Nat) (call : Caller) (a6 a7 : Value) (h : Heap) : drive_Run_l1k k call .ret [(6, a6), (7, a7)] h =
 .ok (.tuple #[a6, a7]) h := by kernel_rfl
theorem drive_Run_l1k_x0 (k : Nat) (call : Caller) (a2 a8 a9 a35 : Value) (h : Heap) : drive_Run_l1k k call (.exit 0) [(2, a2), (8, a8), (9, a9), (35, a35)] h =
 (nilR a8 h).bind fun v37 h38 =>
 (fieldAddrR Prog 297 v37 4 h38).bind fun v39 h40 =>
 (loadR Prog 3 v39 h40).bind fun v41 h42 =>
 .ok (.tuple #[v41, (.int .i64 4)]) h42 := by kernel_rfl
theorem drive_Run_l1k_x0_1 (k : Nat) (call : Caller) (a2 a8 a9 a23 : Value) (h : Heap) : drive_Run_l1k k call (.exit 0) [(2, a2), (8, a8), (9, a9), (23, a23)] h =
 (nilR a8 h).bind fun v43 h44 =>
 (fieldAddrR Prog 297 v43 4 h44).bind fun v45 h46 =>
 (loadR Prog 3 v45 h46).bind fun v47 h48 =>
 .ok (.tuple #[v47, (.int .i64 4)]) h48 := by kernel_rfl
def drive_Plain (k : Nat) (call : Caller) (a0 : Value) (h : Heap) : Res Value :=
 (boxR a0 h).bind fun v1 h2 =>
 .ok (.func (.func F.drive_Plain_in1) #[] #[v1]) h2
theorem drive_Plain_R (k : Nat) (a0 : Value) (h : Heap) : R (T k) F.drive_Plain [a0] h = nrm .gc h (drive_Plain k (R (T k)) a0 h) :=
 (R_body (t := T k) (T_scott k) (by kernel_rfl) (by kernel_rfl) _ _).trans (by kernel_rfl)
def drive_driver_step (k : Nat) (call : Caller) (a0 a1 : Value) (h : Heap) : Res Value :=
 (call F.drive_driver_class [a0] h).bind fun v1 h2 =>
 (extractR v1 0 h2).bind fun v3 h4 =>
 (extractR v1 1 h4).bind fun v5 h6 =>
 (nilR a0 h6).bindN fun v7 h8 =>
 (fieldAddrR Prog 297 v7 0 h8).bindN fun v9 h10 =>
 (loadR Prog 180 v9 h10).bindN fun v11 h12 =>
 (nilR a0 h12).bindN fun v13 h14 =>
 (fieldAddrR Prog 297 v13 2 h14).bindN fun v15 h16 =>
 (loadR Prog 3 v15 h16).bindN fun v17 h18 =>
 (call F.state_Machine_Step [v11, v17, v3] h18).bindT (fun p21 h22 => (allocR Prog 31 h18).bindN fun v23 h24 => .panic p21 h22) fun v19 h20 =>
 (extractR v19 0 h20).bindN fun v25 h26 =>
 (extractR v19 1 h26).bindN fun v27 h28 =>
 (allocR Prog 31 h28).bindN fun v29 h30 =>
 (storeR Prog 31 v29 v25 h30).bindN fun _v31 h32 =>
 (nilR a0 h32).bind fun v33 h34 =>
 (fieldAddrR Prog 297 v33 4 h34).bind fun v35 h36 =>
 (loadR Prog 3 v35 h36).bind fun v37 h38 =>
 (binR Prog .add 3 v37 (.int .i64 1) h38).bind fun v39 h40 =>
 (nilR a0 h40).bind fun v41 h42 =>
 (fieldAddrR Prog 297 v41 4 h42).bind fun v43 h44 =>
 (storeR Prog 3 v43 v39 h44).bind fun _v45 h46 =>
 (fieldAddrR Prog 31 v29 0 h46).bind fun v47 h48 =>
 (loadR Prog 3 v47 h48).bind fun v49 h50 =>
 (nilR a0 h50).bind fun v51 h52 =>
 (fieldAddrR Prog 297 v51 2 h52).bind fun v53 h54 =>
 (storeR Prog 3 v53 v49 h54).bind fun _v55 h56 =>
 (nilR a0 h56).bindN fun v57 h58 =>
 (fieldAddrR Prog 297 v57 3 h58).bindN fun v59 h60 =>
 (loadR Prog 3 v59 h60).bindN fun v61 h62 =>
 (loadR Prog 31 v29 h62).bindN fun v63 h64 =>
 (callV call a1 [v61, v63] h64).bindT (fun p67 h68 => .panic p67 h68) fun v65 h66 =>
 (extractR v65 0 h66).bindN fun v69 h70 =>
 (extractR v65 1 h70).bindN fun v71 h72 =>
 (fieldAddrR Prog 31 v29 1 h72).bind fun v73 h74 =>
 (loadR Prog 3 v73 h74).bind fun v75 h76 =>
 (binR Prog .and 3 v75 (.int .i64 16384) h76).bind fun v77 h78 =>
 (binR Prog .neq 3 v77 (.int .i64 0) h78).bind fun v79 h80 =>
 condV (some v79) (
 (builtinV Prog .max [3, 3] [v69, (.int .i64 0)] h80).bind fun v81 h82 =>
 (nilR a0 h82).bind fun v83 h84 =>
 (fieldAddrR Prog 297 v83 3 h84).bind fun v85 h86 =>
 (storeR Prog 3 v85 v81 h86).bind fun _v87 h88 =>
 (nilR a0 h88).bind fun v89 h90 =>
 (fieldAddrR Prog 297 v89 5 h90).bind fun v91 h92 =>
 (loadR Prog 3 v91 h92).bind fun v93 h94 =>
 (binR Prog .add 3 v93 (.int .i64 1) h94).bind fun v95 h96 =>
 (nilR a0 h96).bind fun v97 h98 =>
 (fieldAddrR Prog 297 v97 5 h98).bind fun v99 h100 =>
 (storeR Prog 3 v99 v95 h100).bind fun _v101 h102 =>
 .ok (.bool false) h102)
 (
 (builtinV Prog .max [3, 3] [v71, (.int .i64 0)] h80).bind fun v103 h104 =>
 (nilR a0 h104).bind fun v105 h106 =>
 (fieldAddrR Prog 297 v105 3 h106).bind fun v107 h108 =>
 (storeR Prog 3 v107 v103 h108).bind fun _v109 h110 =>
 (nilR a0 h110).bind fun v111 h112 =>
 (fieldAddrR Prog 297 v111 5 h112).bind fun v113 h114 =>
 (storeR Prog 3 v113 (.int .i64 0) h114).bind fun _v115 h116 =>
 .ok v5 h116)
theorem drive_driver_step_R (k : Nat) (a0 a1 : Value) (h : Heap) : R (T k) F.drive_driver_step [a0, a1] h = nrm .no h (drive_driver_step k (R (T k)) a0 a1 h) :=
 (R_body (t := T k) (T_scott k) (by kernel_rfl) (by kernel_rfl) _ _).trans (by kernel_rfl)
def drive_Plain_in1 (k : Nat) (call : Caller) (a0 a1 a2 : Value) (h : Heap) : Res Value :=
 (boxR a1 h).bind fun v1 h2 =>
 (loadR Prog 197 a2 h2).bind fun v3 h4 =>
 (loadR Prog 31 v1 h4).bind fun v5 h6 =>
 (callV call v3 [a0, v5] h6).bind fun v7 h8 =>
 (binR Prog .add 3 a0 (.int .i64 1) h8).bind fun v9 h10 =>
 .ok (.tuple #[a0, v9]) h10
theorem drive_Plain_in1_R (k : Nat) (a0 a1 a2 : Value) (h : Heap) : R (T k) F.drive_Plain_in1 [a0, a1, a2] h = nrm .no h (drive_Plain_in1 k (R (T k)) a0 a1 a2 h) :=
 (R_body (t := T k) (T_scott k) (by kernel_rfl) (by kernel_rfl) _ _).trans (by kernel_rfl)
def drive_driver_class (k : Nat) (call : Caller) (a0 : Value) (h : Heap) : Res Value :=
 (nilR a0 h).bindN fun v1 h2 =>
 (fieldAddrR Prog 297 v1 1 h2).bindN fun v3 h4 =>
 (loadR Prog 44 v3 h4).bindN fun v5 h6 =>
 (nilR a0 h6).bindN fun v7 h8 =>
 (fieldAddrR Prog 297 v7 3 h8).bindN fun v9 h10 =>
 (loadR Prog 3 v9 h10).bindN fun v11 h12 =>
 (call F.line_Line_At [v5, v11] h12).bindT (fun p15 h16 => (allocR Prog 115 h12).bindN fun v17 h18 => .panic p15 h16) fun v13 h14 =>
 (extractR v13 0 h14).bindN fun v19 h20 =>
 (extractR v13 1 h20).bindN fun v21 h22 =>
 (allocR Prog 115 h22).bindN fun v23 h24 =>
 (storeR Prog 115 v23 v19 h24).bindN fun _v25 h26 =>
 (unR .not v21 h26).bind fun v27 h28 =>
 condV (some v27) (
 .ok (.tuple #[(.int .i64 0), (.bool true)]) h28)
 (
 (nilR a0 h28).bindN fun v29 h30 =>
 (fieldAddrR Prog 297 v29 0 h30).bindN fun v31 h32 =>
 (loadR Prog 180 v31 h32).bindN fun v33 h34 =>
 (fieldAddrR Prog 115 v23 0 h34).bindN fun v35 h36 =>
 (loadR Prog 3 v35 h36).bindN fun v37 h38 =>
 (call F.state_Machine_Class [v33, v37] h38).bindT (fun p41 h42 => .panic p41 h42) fun v39 h40 =>
 .ok (.tuple #[v39, (.bool false)]) h40)
theorem drive_driver_class_R (k : Nat) (a0 : Value) (h : Heap) : R (T k) F.drive_driver_class [a0] h = nrm .gc h (drive_driver_class k (R (T k)) a0 h) :=
 (R_body (t := T k) (T_scott k) (by kernel_rfl) (by kernel_rfl) _ _).trans (by kernel_rfl)
end
end Go.Sw
end
section
namespace Go.Sw
open Go.RowKit
theorem Star.stEnd {H0 H : Heap} {A B : List It} {c : Nat} {cells : List Value} {e : Nat} (h : Star H0 H (A ++ itBlk c ⟨cells, e, false⟩ :: B)) (off : Nat) {v : Value} (hs : storable v = true) (hc : v.cells = #[v]) (ho : off < cells.length) :
  ∃ H', stR 1 (.pointer (some ⟨c, off, none⟩)) v H = .ok undef H' ∧ Star H0 H' (A ++ itBlk c ⟨cells.set off v, e, false⟩ :: B) := by
 obtain ⟨H', h1, h2, _⟩ := h.stCell A.length (c := c) (cells := cells) (e := e) (by simp) off hs hc ho
 exact ⟨H', h1, by simpa using h2⟩
structure Drv where
 st : Int
 pl : Int
 stp : Int
 rest : Int
abbrev drvC (m : Mach) (c : Nat) (d : Drv) : List Value := [machV m, ptrV c, .int .i64 d.st, .int .i64 d.pl, .int .i64 d.stp, .int .i64 d.rest]
def clsS (m : Mach) (l : List Gl) (pl : Int) : Int × Bool := match atG l pl with | some g => (classS m g.id, false) | none => (0, true)
def entS (m : Mach) (l : List Gl) (d : Drv) : En := (stepS m d.st (clsS m l d.pl).1).getD ⟨0, 0, 0, 0⟩
abbrev encE (e : En) : Value := .agg (encEn e).toArray
theorem take_mid {α : Type} (x : α) (B : List α) : ∀ A : List α, (A ++ x :: B).take (A.length + 1) = A ++ [x]
 | [] => rfl
 | a :: A => by simp [take_mid x B A]
theorem and_two14 (n : Nat) : n &&& 2 ^ 14 = if n.testBit 14 then 2 ^ 14 else 0 := by
 apply Nat.eq_of_testBit_eq
 intro i
 rw [Nat.testBit_and, Nat.testBit_two_pow]
 by_cases h : 14 = i
 ·subst h
  cases hb : n.testBit 14 <;> simp <;> decide
 ·cases hb : n.testBit 14
  ·simp [h]
  ·simp only [h, decide_false, Bool.and_false, if_true, Nat.testBit_two_pow]
theorem and14 (P : Program) (t : TypeId) (H : Heap) {a : Int} (h0 : 0 ≤ a) (h1 : a < 65536) : binR P .and t (.int .i64 a) (.int .i64 16384) H = .ok (.int .i64 (if a / 16384 % 2 = 1 then 16384 else 0)) H := by
 have e : (BitVec.ofInt 64 a &&& BitVec.ofInt 64 16384).toNat = (if a / 16384 % 2 = 1 then 16384 else 0) := by
  rw [BitVec.toNat_and, BitVec.toNat_ofInt, BitVec.toNat_ofInt]
  rw [show ((16384 : Int) % ((2 ^ 64 : Nat) : Int)).toNat = 2 ^ 14 from by decide, and_two14, Nat.testBit_eq_decide_div_mod_eq]
  obtain ⟨n, rfl⟩ := Int.eq_ofNat_of_zero_le h0
  rw [show (((n : Int)) % ((2 ^ 64 : Nat) : Int)).toNat = n by omega]
  by_cases h : (n : Int) / 16384 % 2 = 1
  ·rw [if_pos h, decide_eq_true (show n / 2 ^ 14 % 2 = 1 by omega)]; rfl
  ·rw [if_neg h, decide_eq_false (show ¬ n / 2 ^ 14 % 2 = 1 by omega)]; rfl
 have e1 : binV P .and t (.int .i64 a) (.int .i64 16384) = some (.int .i64 (IntKind.i64.wrap (BitVec.ofInt 64 a &&& BitVec.ofInt 64 16384).toNat)) := rfl
 unfold binR
 rw [e1, e]
 by_cases h : a / 16384 % 2 = 1
 ·simp [h]
 ·simp [h]
theorem driverClass_run (k : Nat) (m : Mach) (hm : m.ok) {H0 H : Heap} {L : List It} (h : Star H0 H L) {c q : Nat} {o : Option Nat} {l : List Gl} {d : Drv} (i : Nat) (hi : L[i]? = some (itLine c o l)) (hq : H.get q = some ⟨drvC m c d, 1, false⟩) :
  R (T k) F.drive_driver_class [ptrV q] H = .ok (.tuple #[.int .i64 (clsS m l d.pl).1, .bool (clsS m l d.pl).2]) H := by
 rw [drive_driver_class_R]
 have hat := lineAt_run k h i hi d.pl
 have fl : ∀ (a : Int) b, Flat (.tuple #[.int .i64 a, .bool b]) := fun a b => .tupleL (.cons (.int _ _) (.cons (.bool _) .nil))
 unfold clsS
 have hqn : ¬ q = H.n := by have := Heap.get_lt hq; omega
 cases ha : atG l d.pl with
 | none =>
  rw [ha] at hat
  refine nrm_gc ⟨H.push ⟨[.int .i64 0, .int .i64 0], 1, false⟩, ?_, (Ext.refl H).push _⟩ (fl _ _).alive
  unfold encA at hat
  simp at hat
  simp -implicitDefEqProofs (disch := omega) [drive_driver_class, hq, hat]
 | some g =>
  rw [ha] at hat
  have hc := fun H' => Class_run k m hm g.id H'
  refine nrm_gc ⟨H.push ⟨encG g, 1, false⟩, ?_, (Ext.refl H).push _⟩ (fl _ _).alive
  unfold encA at hat
  simp at hat
  simp -implicitDefEqProofs (disch := omega) [drive_driver_class, hq, hqn, hat, hc]
theorem entS_bound {m : Mach} (hm : m.ok) (l : List Gl) (d : Drv) : let e := entS m l d; 0 ≤ e.next ∧ e.next < 65536 ∧ 0 ≤ e.flags ∧ e.flags < 65536 ∧ 0 ≤ e.a ∧ e.a < 65536 ∧ 0 ≤ e.b ∧ e.b < 65536 := by
 dsimp only
 unfold entS
 cases h : stepS m d.st (clsS m l d.pl).1 with
 | none => simp
 | some x =>
  have hx : x ∈ m.ents := by
   unfold stepS at h
   split at h
   ·obtain ⟨r, _, h⟩ := Option.bind_eq_some_iff.1 h
    obtain ⟨y, _, h⟩ := Option.bind_eq_some_iff.1 h
    exact List.mem_of_getElem? h
   ·cases h
  have := hm.ent x hx
  have := hm.two
  simp only [Option.getD_some]
  omega
theorem getS_pos {ps : List Pt} (hok : ∀ p, p ∈ ps → p.ok) {id x : Int} (h : getS ps id = some x) : 0 ≤ x := by
 unfold getS at h
 obtain ⟨p, hp, h⟩ := Option.bind_eq_some_iff.1 h
 split at h
 ·exact ((hok p (List.mem_of_find?_eq_some hp)).2.2.2.2.2 x (List.mem_of_getElem? h)).1
 ·cases h
theorem classS_bound {m : Mach} (hm : m.ok) (id : Int) : 0 ≤ classS m id ∧ classS m id < m.classes := by
 have := hm.cl
 unfold classS
 split
 ·omega
 ·split
  ·rename_i c hc
   have := getS_pos hm.pts hc
   split <;> omega
  ·omega
theorem clsS_bound {m : Mach} (hm : m.ok) (l : List Gl) (p : Int) : 0 ≤ (clsS m l p).1 ∧ (clsS m l p).1 < m.classes := by
 have := hm.cl
 unfold clsS
 split
 ·exact classS_bound hm _
 ·dsimp only; omega
theorem entS_mem {m : Mach} (hm : m.ok) (l : List Gl) (d : Drv) (h : 0 ≤ d.st ∧ d.st < m.rows.length) : entS m l d ∈ m.ents := by
 have hc := clsS_bound hm l d.pl
 obtain ⟨r, x, e, _, _, _, he, hs⟩ := stepS_some hm (s := d.st) (c := (clsS m l d.pl).1) ⟨h.1, h.2, hc.1, hc.2⟩
 unfold entS
 rw [hs]
 exact List.mem_of_getElem? he
variable {σ : Type}
def ActOk (k : Nat) (m : Mach) (H0 : Heap) (W : σ → List It) (Inv : σ → Prop) (a : Value) (f : σ → Int → En → σ × Int × Int) : Prop :=
 ∀ s i e H X, Inv s → Star H0 H (W s ++ X) → 0 ≤ i → i < 2 ^ 50 → e ∈ m.ents →
  ∃ H', callV (R (T k)) a [.int .i64 i, encE e] H = .ok (.tuple #[.int .i64 (f s i e).2.1, .int .i64 (f s i e).2.2]) H' ∧ Star H0 H' (W (f s i e).1 ++ X) ∧ Inv (f s i e).1 ∧ (f s i e).2.1 ≤ i + 128 ∧ (f s i e).2.2 ≤ i + 128
def stepD (m : Mach) (ln : σ → List Gl) (f : σ → Int → En → σ × Int × Int) (x : σ × Drv) : (σ × Drv) × Bool :=
 if (entS m (ln x.1) x.2).flags / 16384 % 2 = 1 then (((f x.1 x.2.pl (entS m (ln x.1) x.2)).1, ⟨(entS m (ln x.1) x.2).next, max (f x.1 x.2.pl (entS m (ln x.1) x.2)).2.1 0, x.2.stp + 1, x.2.rest + 1⟩), false)
 else (((f x.1 x.2.pl (entS m (ln x.1) x.2)).1, ⟨(entS m (ln x.1) x.2).next, max (f x.1 x.2.pl (entS m (ln x.1) x.2)).2.2 0, x.2.stp + 1, 0⟩), (clsS m (ln x.1) x.2.pl).2)
set_option maxHeartbeats 2000000 in
theorem driverStep_run (k : Nat) (m : Mach) (hm : m.ok) {H0 H : Heap} (W : σ → List It) (Inv : σ → Prop) (ln : σ → List Gl) (c : Nat) (hW : ∀ s, ∃ (i : Nat) (o : Option Nat), (W s)[i]? = some (itLine c o (ln s))) (a : Value) (f : σ → Int → En → σ × Int × Int) (ha : ActOk k m H0 W Inv a f)
  (X : List It) (q : Nat) (s : σ) (d : Drv) (hI : Inv s) (h : Star H0 H (W s ++ X ++ [itBlk q ⟨drvC m c d, 1, false⟩])) (hp : 0 ≤ d.pl ∧ d.pl < 2 ^ 50) (hst : 0 ≤ d.stp ∧ d.stp < 2 ^ 50) (hr : 0 ≤ d.rest ∧ d.rest < 2 ^ 50) (hse : 0 ≤ d.st ∧ d.st < m.rows.length) :
  ∃ H', R (T k) F.drive_driver_step [ptrV q, a] H = .ok (.bool (stepD m ln f (s, d)).2) H' ∧ Star H0 H' (W (stepD m ln f (s, d)).1.1 ++ X ++ [itBlk q ⟨drvC m c (stepD m ln f (s, d)).1.2, 1, false⟩]) ∧ Inv (stepD m ln f (s, d)).1.1 ∧ (stepD m ln f (s, d)).1.2.pl ≤ d.pl + 128 ∧ 0 ≤ (stepD m ln f (s, d)).1.2.st ∧ (stepD m ln f (s, d)).1.2.st < m.rows.length := by
 obtain ⟨i, o, ho⟩ := hW s
 have hq := h.memBlk (c := q) (k := ⟨drvC m c d, 1, false⟩) (by simp)
 have hline : (W s ++ X ++ [itBlk q ⟨drvC m c d, 1, false⟩])[i]? = some (itLine c o (ln s)) := by
  have h0 : i < (W s).length := (List.getElem?_eq_some_iff.1 ho).1
  rw [List.append_assoc, List.getElem?_append_left h0]
  exact ho
 have hcls := driverClass_run k m hm h i hline hq
 have hstep := fun H' => Step_run k m hm d.st (clsS m (ln s) d.pl).1 H'
 have heb := entS_bound hm (ln s) d
 have hmem := entS_mem hm (ln s) d hse
 have hnx := hm.ent _ hmem
 have hee : encEA (stepS m d.st (clsS m (ln s) d.pl).1) = encE (entS m (ln s) d) := rfl
 rw [hee] at hstep
 have hx := ha s d.pl (entS m (ln s) d)
 unfold stepD
 dsimp only
 generalize (stepS m d.st (clsS m (ln s) d.pl).1).isSome = z at hstep
 generalize (clsS m (ln s) d.pl) = cl at hcls hstep
 generalize entS m (ln s) d = e at hstep heb hx hmem hnx ⊢
 dsimp only at heb
 generalize f s d.pl e = r at hx ⊢
 have g := h.push ⟨encEn e, 1, false⟩
 rw [List.append_assoc, List.singleton_append] at g
 have hqn : ¬ q = H.n := by have := Heap.get_lt hq; omega
 obtain ⟨H2, e2, g⟩ := g.stEnd 4 (v := .int .i64 (d.stp + 1)) rfl rfl (by simp)
 simp only [List.set_cons_zero, List.set_cons_succ] at g
 have he2 := g.memBlk (c := H.n) (k := ⟨encEn e, 1, false⟩) (by simp)
 have hq2 := g.memBlk (c := q) (k := ⟨[machV m, ptrV c, .int .i64 d.st, .int .i64 d.pl, .int .i64 (d.stp + 1), .int .i64 d.rest], 1, false⟩) (by simp)
 obtain ⟨H3, e3, g⟩ := g.stEnd 2 (v := .int .i64 e.next) rfl rfl (by simp)
 simp only [List.set_cons_zero, List.set_cons_succ] at g
 have hq3 := g.memBlk (c := q) (k := ⟨[machV m, ptrV c, .int .i64 e.next, .int .i64 d.pl, .int .i64 (d.stp + 1), .int .i64 d.rest], 1, false⟩) (by simp)
 have he3 := g.memBlk (c := H.n) (k := ⟨encEn e, 1, false⟩) (by simp)
 rw [List.append_assoc] at g
 obtain ⟨H4, e4, g4, hI4, hs4, ho4⟩ := hx H3 _ hI g hp.1 hp.2 hmem
 rw [← List.append_assoc] at g4
 have hq4 := g4.memBlk (c := q) (k := ⟨[machV m, ptrV c, .int .i64 e.next, .int .i64 d.pl, .int .i64 (d.stp + 1), .int .i64 d.rest], 1, false⟩) (by simp)
 have he4 := g4.memBlk (c := H.n) (k := ⟨encEn e, 1, false⟩) (by simp)
 have han := fun H => and14 Prog 3 H heb.2.2.1 heb.2.2.2.1
 rw [List.append_assoc] at g4
 by_cases hfl : e.flags / 16384 % 2 = 1
 ·rw [if_pos hfl]
  rw [if_pos hfl] at han
  have hmx : (if 0 > r.2.1 then 0 else r.2.1) = max r.2.1 0 := by split <;> omega
  obtain ⟨H5, e5, g5⟩ := Star.stEnd (A := W r.1 ++ X) (by simpa using g4) 3 (v := .int .i64 (max r.2.1 0)) rfl rfl (by simp)
  simp only [List.set_cons_zero, List.set_cons_succ] at g5
  have hq5 := g5.memBlk (c := q) (k := ⟨[machV m, ptrV c, .int .i64 e.next, .int .i64 (max r.2.1 0), .int .i64 (d.stp + 1), .int .i64 d.rest], 1, false⟩) (by simp)
  obtain ⟨H6, e6, g6⟩ := g5.stEnd 5 (v := .int .i64 (d.rest + 1)) rfl rfl (by simp)
  simp only [List.set_cons_zero, List.set_cons_succ] at g6
  refine ⟨H6, ?_, ?_, hI4, by dsimp only; omega, hnx.1, hnx.2.1⟩
  ·rw [drive_driver_step_R]
   simp -implicitDefEqProofs (disch := omega) [-stR_ptr, drive_driver_step, hcls, hq, hqn, hstep, stR_ptr 4 H.n 0, e2, hq2, he2, e3, hq3, he3, e4, hq4, he4, han, hmx, e5, hq5, e6]
  ·have := g6.take ((W r.1 ++ X).length + 1)
   rw [take_mid] at this
   exact this
 ·rw [if_neg hfl]
  rw [if_neg hfl] at han
  have hmx : (if 0 > r.2.2 then 0 else r.2.2) = max r.2.2 0 := by split <;> omega
  obtain ⟨H5, e5, g5⟩ := Star.stEnd (A := W r.1 ++ X) (by simpa using g4) 3 (v := .int .i64 (max r.2.2 0)) rfl rfl (by simp)
  simp only [List.set_cons_zero, List.set_cons_succ] at g5
  have hq5 := g5.memBlk (c := q) (k := ⟨[machV m, ptrV c, .int .i64 e.next, .int .i64 (max r.2.2 0), .int .i64 (d.stp + 1), .int .i64 d.rest], 1, false⟩) (by simp)
  obtain ⟨H6, e6, g6⟩ := g5.stEnd 5 (v := .int .i64 0) rfl rfl (by simp)
  simp only [List.set_cons_zero, List.set_cons_succ] at g6
  refine ⟨H6, ?_, ?_, hI4, by dsimp only; omega, hnx.1, hnx.2.1⟩
  ·rw [drive_driver_step_R]
   simp -implicitDefEqProofs (disch := omega) [-stR_ptr, drive_driver_step, hcls, hq, hqn, hstep, stR_ptr 4 H.n 0, e2, hq2, he2, e3, hq3, he3, e4, hq4, he4, han, hmx, bne, e5, hq5, e6]
  ·have := g6.take ((W r.1 ++ X).length + 1)
   rw [take_mid] at this
   exact this
end Go.Sw
end
section
namespace Go.Sw
open Go.RowKit
variable {σ : Type}
def runD (m : Mach) (ln : σ → List Gl) (f : σ → Int → En → σ × Int × Int) (most : Int) : Nat → σ × Drv → Int × Int × σ
  | 0, x => (x.2.stp, 4, x.1)
  | n + 1, x => if x.2.stp < most then
      (if (stepD m ln f x).2 then ((stepD m ln f x).1.2.stp, 0, (stepD m ln f x).1.1)
       else if (stepD m ln f x).1.2.rest > 64 then ((stepD m ln f x).1.2.stp, 4, (stepD m ln f x).1.1)
       else runD m ln f most n (stepD m ln f x).1)
    else (x.2.stp, 4, x.1)
theorem stepD_stp (m : Mach) (ln : σ → List Gl) (f : σ → Int → En → σ × Int × Int) (x : σ × Drv) : (stepD m ln f x).1.2.stp = x.2.stp + 1 := by unfold stepD; split <;> rfl
theorem stepD_pl (m : Mach) (ln : σ → List Gl) (f : σ → Int → En → σ × Int × Int) (x : σ × Drv) : 0 ≤ (stepD m ln f x).1.2.pl := by unfold stepD; split <;> (dsimp only; omega)
theorem stepD_rest (m : Mach) (ln : σ → List Gl) (f : σ → Int → En → σ × Int × Int) (x : σ × Drv) (h : 0 ≤ x.2.rest) : 0 ≤ (stepD m ln f x).1.2.rest ∧ (stepD m ln f x).1.2.rest ≤ x.2.rest + 1 := by unfold stepD; split <;> (dsimp only; omega)
set_option maxHeartbeats 1000000 in
theorem driveRun_star (k : Nat) (m : Mach) (hm : m.ok) {H0 H : Heap} (W : σ → List It) (Inv : σ → Prop) (ln : σ → List Gl) (c : Nat) (hW : ∀ s, ∃ (i : Nat) (o : Option Nat), (W s)[i]? = some (itLine c o (ln s))) (a : Value) (f : σ → Int → En → σ × Int × Int) (ha : ActOk k m H0 W Inv a f)
  (X : List It) (s : σ) (hI : Inv s) (h : Star H0 H (W s ++ X)) (hl : (ln s).length < 2 ^ 40) :
  ∃ H', R (T k) F.drive_Run [machV m, ptrV c, a] H = .ok (.tuple #[.int .i64 (runD m ln f (2 * (ln s).length + 128) (2 * (ln s).length + 128) (s, ⟨0, 0, 0, 0⟩)).1, .int .i64 (runD m ln f (2 * (ln s).length + 128) (2 * (ln s).length + 128) (s, ⟨0, 0, 0, 0⟩)).2.1]) H' ∧
   Star H0 H' (W (runD m ln f (2 * (ln s).length + 128) (2 * (ln s).length + 128) (s, ⟨0, 0, 0, 0⟩)).2.2 ++ X) ∧ Inv (runD m ln f (2 * (ln s).length + 128) (2 * (ln s).length + 128) (s, ⟨0, 0, 0, 0⟩)).2.2 := by
 rw [drive_Run_R]
 obtain ⟨N, hN⟩ : ∃ N, N = 2 * (ln s).length + 128 := ⟨_, rfl⟩
 have hNi : (2 * ((ln s).length : Int) + 128) = (N : Int) := by omega
 obtain ⟨x0, hx0⟩ : ∃ x0 : σ × Drv, x0 = (s, ⟨0, 0, 0, 0⟩) := ⟨_, rfl⟩
 rw [← hN, hNi, ← hx0]
 generalize hR0 : runD m ln f (N : Int) N x0 = R0
 have g := h.push ⟨drvC m c ⟨0, 0, 0, 0⟩, 1, false⟩
 obtain ⟨i, o, ho⟩ := hW s
 have hline : (W s ++ X ++ [itBlk H.n ⟨drvC m c ⟨0, 0, 0, 0⟩, 1, false⟩])[i]? = some (itLine c o (ln s)) := by
  have h0 : i < (W s).length := (List.getElem?_eq_some_iff.1 ho).1
  rw [List.append_assoc, List.getElem?_append_left h0]
  exact ho
 have hlen := lineLen_run k g i hline
 obtain ⟨e, eE, H1, hr1, hQ⟩ := loop_up (body := drive_Run_l1 k (R (T k))) N
  (fun j e H' => e = [(2, a), (8, ptrV H.n), (9, .int .i64 N)] ∧ ∃ x : σ × Drv, Star H0 H' (W x.1 ++ X ++ [itBlk H.n ⟨drvC m c x.2, 1, false⟩]) ∧ Inv x.1 ∧ x.2.stp = j ∧ 0 ≤ x.2.pl ∧ x.2.pl ≤ 128 * j ∧ 0 ≤ x.2.rest ∧ x.2.rest ≤ j ∧ (0 ≤ x.2.st ∧ x.2.st < m.rows.length) ∧ runD m ln f N (N - j) x = R0)
  (fun x' e H' => ∃ r : Int × Int × σ, r = R0 ∧ ∃ d : Drv, Star H0 H' (W r.2.2 ++ X ++ [itBlk H.n ⟨drvC m c d, 1, false⟩]) ∧ Inv r.2.2 ∧
   ((x' = .ret ∧ e = [(6, .int .i64 r.1), (7, .int .i64 0)] ∧ r.2.1 = 0) ∨ (x' = .exit 0 ∧ d.stp = r.1 ∧ r.2.1 = 4 ∧ (e = [(2, a), (8, ptrV H.n), (9, .int .i64 N), (35, .bool true)] ∨ e = [(2, a), (8, ptrV H.n), (9, .int .i64 N), (23, .bool false)]))))
  (e0 := [(2, a), (8, ptrV H.n), (9, .int .i64 N)]) (H0 := H.push ⟨drvC m c ⟨0, 0, 0, 0⟩, 1, false⟩)
  ⟨rfl, x0, by rw [hx0]; exact g, by rw [hx0]; exact hI, by rw [hx0]; rfl, by rw [hx0]; exact Int.le_refl _, by rw [hx0]; exact Int.le_refl _, by rw [hx0]; exact Int.le_refl _, by rw [hx0]; exact Int.le_refl _, by rw [hx0]; have := hm.two; dsimp only; omega, by rw [Nat.sub_zero]; exact hR0⟩ (by omega)
  (fun j e H' hj ⟨he, x, g, hI, h1, h2, h3, h4, h5, hse, hrun⟩ => by
   subst he
   obtain ⟨H2, e2, g2, hI2, h6, h7⟩ := driverStep_run k m hm W Inv ln c hW a f ha X H.n x.1 x.2 hI g (by omega) (by omega) (by omega) hse
   have hq := g.memBlk (c := H.n) (k := ⟨drvC m c x.2, 1, false⟩) (by simp)
   have p1 := stepD_stp m ln f x
   have p2 := stepD_pl m ln f x
   have p3 := stepD_rest m ln f x h4
   have hlt : x.2.stp < (N : Int) := by omega
   have hNj : N - j = (N - (j + 1)) + 1 := by omega
   rw [hNj] at hrun
   unfold runD at hrun
   rw [if_pos hlt] at hrun
   have hxx : (x.1, x.2) = x := rfl
   rw [hxx] at e2 g2 hI2 h6 h7
   generalize stepD m ln f x = y at *
   have hq2 := g2.memBlk (c := H.n) (k := ⟨drvC m c y.1.2, 1, false⟩) (by simp)
   cases hy : y.2 with
   | true =>
    rw [hy] at hrun e2
    simp only [if_true] at hrun
    refine .inr ⟨.ret, _, H2, ?_, by simp, _, hrun, y.1.2, g2, hI2, .inl ⟨rfl, rfl, rfl⟩⟩
    rw [drive_Run_l1_eq]
    simp -implicitDefEqProofs (disch := omega) [hq, hlt, e2, hq2]
   | false =>
    rw [hy] at hrun e2
    simp only [Bool.false_eq_true, if_false] at hrun
    by_cases hr : y.1.2.rest > 64
    ·rw [if_pos hr] at hrun
     refine .inr ⟨.exit 0, _, H2, ?_, by simp, _, hrun, y.1.2, g2, hI2, .inr ⟨rfl, rfl, rfl, .inl rfl⟩⟩
     rw [drive_Run_l1_eq]
     simp -implicitDefEqProofs (disch := omega) [hq, hlt, e2, hq2, hr]
    ·rw [if_neg hr] at hrun
     refine .inl ⟨_, H2, ?_, rfl, y.1, g2, hI2, by omega, p2, by omega, p3.1, by omega, h7, hrun⟩
     rw [drive_Run_l1_eq]
     simp -implicitDefEqProofs (disch := omega) [hq, hlt, e2, hq2, hr])
  (fun e H' ⟨he, x, g, hI, h1, h2, h3, h4, h5, hse, hrun⟩ => by
   subst he
   rw [Nat.sub_self] at hrun
   have hq := g.memBlk (c := H.n) (k := ⟨drvC m c x.2, 1, false⟩) (by simp)
   refine ⟨.exit 0, _, H', ?_, by simp, _, hrun, x.2, g, hI, .inr ⟨rfl, rfl, rfl, .inr rfl⟩⟩
   have hnl : ¬ x.2.stp < (N : Int) := by omega
   rw [drive_Run_l1_eq]
   simp -implicitDefEqProofs (disch := omega) [hq, hnl])
 obtain ⟨r, hr, d, g, hIr, hcase⟩ := hQ
 subst hr
 have hq := g.memBlk (c := H.n) (k := ⟨drvC m c d, 1, false⟩) (by simp)
 have gX : Star H0 H1 (W r.2.2 ++ X) := g.drop_last
 refine ⟨H1, ?_, gX, hIr⟩
 rcases hcase with ⟨rfl, rfl, hc⟩ | ⟨rfl, hd, hc, rfl | rfl⟩
 ·rw [hc]
  simp -implicitDefEqProofs (disch := omega) [drive_Run, hlen, hNi, hr1, drive_Run_l1k_r]
 ·rw [hc]
  simp -implicitDefEqProofs (disch := omega) [drive_Run, hlen, hNi, hr1, drive_Run_l1k_x0, hq, hd]
 ·rw [hc]
  simp -implicitDefEqProofs (disch := omega) [drive_Run, hlen, hNi, hr1, drive_Run_l1k_x0_1, hq, hd]
end Go.Sw
end
section
set_option maxRecDepth 100000
set_option linter.unusedVariables false
namespace Go.Sw
noncomputable section
end
end Go.Sw
end
section
namespace Go.Sw
open Go.RowKit
end Go.Sw
end
section
namespace Go.Sw
open Go.RowKit
end Go.Sw
end
section
namespace Go.Sw
theorem wf_u8 {n : Int} (h : (Lit.int .u8 n).wf = true) : 0 ≤ n ∧ n < 256 := by
 simp [Lit.wf, IntKind.min, IntKind.max, IntKind.signed, IntKind.bits] at h
 omega
theorem arg_i {k : IntKind} {v : Value} (h : ArgLay (.one (.int k)) v) : ∃ n, v = .int k n ∧ (Lit.int k n).wf = true := by
 obtain ⟨d, h1⟩ := h.cell
 exact h1.intv
end Go.Sw
end
section
namespace Go.Sw
open Go.RowKit
end Go.Sw
end
section
namespace Go.Sw
open Go.RowKit
theorem planRoom_byt {p : Plan} (hp : p.ok) (w : Int) {rm : List Int} (hrm : Byt rm) : Byt (planRoom p w rm) := by
 have tw : ∀ l, Byt (twos l) := fun l => Byt.flat fun r hr => by obtain ⟨c, _, rfl⟩ := List.mem_map.1 hr; exact bytesOf_byt _ _
 unfold planRoom
 refine (bytesOf_byt _ _).app ((bytesOf_byt _ _).app ((bytesOf_byt _ _).app ((bytesOf_byt _ _).app (hrm.app (Byt.app ?_ (Byt.app ?_ ?_))))))
 ·unfold ofS
  exact (((bytesOf_byt _ _).app (bytesOf_byt _ _)).app (bytesOf_byt _ _)).app (tw _)
 ·exact Byt.flat fun r hr => by obtain ⟨c, _, rfl⟩ := List.mem_map.1 hr; exact tw _
 ·refine Byt.flat fun r hr => ?_
  obtain ⟨e, _, rfl⟩ := List.mem_map.1 hr
  unfold entB
  refine (((bytesOf_byt _ _).app (bytesOf_byt _ _)).app ?_).app ?_
  ·split
   ·exact bytesOf_byt _ _
   ·exact Byt.nil
  ·split
   ·exact bytesOf_byt _ _
   ·exact Byt.nil
theorem planRoom_len {p : Plan} (hp : p.ok) (w : Int) {rm : List Int} (hrm : rm.length ≤ 1000) (h1 : p.cls.length ≤ 1000) (h2 : p.rows.length ≤ 1000) (h3 : p.ents.length ≤ 1000) : (planRoom p w rm).length ≤ 100000 := by
 have hN := planN_eq p hp.2.2
 have hofl : (ofS p.cls).length = 6 + p.cls.length * 2 := by unfold ofS; simp [twos_len]; omega
 have hrl : (rowsL (planN p) p.rows).length ≤ 1000 * 22 := by rw [rowsL_len]; exact Nat.mul_le_mul h2 (by omega)
 have hel := entsB_len w p.ents
 unfold planRoom
 simp
 omega
end Go.Sw
end
section
namespace Go.Sw
open Go.RowKit
variable {σ : Type}
def DoOk (k : Nat) (m : Mach) (H0 : Heap) (W : σ → List It) (Inv : σ → Prop) (a : Value) (g : σ → Int → En → σ) : Prop :=
 ∀ s i e H X, Inv s → Star H0 H (W s ++ X) → 0 ≤ i → i < 2 ^ 50 → e ∈ m.ents →
  ∃ v H', callV (R (T k)) a [.int .i64 i, encE e] H = .ok v H' ∧ Star H0 H' (W (g s i e) ++ X) ∧ Inv (g s i e)
theorem plain_ok (k : Nat) {m : Mach} {H0 : Heap} {W : σ → List It} {Inv : σ → Prop} {a : Value} {g : σ → Int → En → σ} (h : DoOk k m H0 W Inv a g) (p : Nat) :
  ActOk k m H0 (fun s => W s ++ [itBlk p ⟨[a], 1, false⟩]) Inv (.func (.func F.drive_Plain_in1) #[] #[ptrV p]) (fun s i e => (g s i e, i, i + 1)) := by
 intro s i e H X hI st h0 h1 he
 have st2 := st.push ⟨encEn e, 1, false⟩
 have hp := st2.memBlk (c := p) (k := ⟨[a], 1, false⟩) (by simp)
 have hpn : ¬ p = H.n := by have := Heap.get_lt (st.memBlk (c := p) (k := ⟨[a], 1, false⟩) (by simp)); omega
 obtain ⟨v, H', e1, st3, hI2⟩ := h s i e (H.push ⟨encEn e, 1, false⟩) ([itBlk p ⟨[a], 1, false⟩] ++ X ++ [itBlk H.n ⟨encEn e, 1, false⟩]) hI (by simpa [List.append_assoc] using st2) h0 h1 he
 have st4 : Star H0 H' (W (g s i e) ++ [itBlk p ⟨[a], 1, false⟩] ++ X) := by
  have : W (g s i e) ++ ([itBlk p ⟨[a], 1, false⟩] ++ X ++ [itBlk H.n ⟨encEn e, 1, false⟩]) = (W (g s i e) ++ [itBlk p ⟨[a], 1, false⟩] ++ X) ++ [itBlk H.n ⟨encEn e, 1, false⟩] := by simp
  rw [this] at st3
  exact st3.drop_last
 refine ⟨H', ?_, st4, hI2, by dsimp only; omega, by dsimp only; omega⟩
 simp only [callV, List.nil_append, List.cons_append]
 rw [drive_Plain_in1_R, nrm_of]
 simp -implicitDefEqProofs (disch := omega) [drive_Plain_in1, hp, hpn, e1]
end Go.Sw
end
section
namespace Go.Sw
open Go.RowKit Go.Proofs
set_option maxRecDepth 20000 in
theorem catch_short (p : Addr) (b : Bool) (w : World) (hc : (w.alloc (.cells #[] 200)).cell? p = some (.bool b)) (hz : (w.alloc (.cells #[] 200)).frozen? p = false) :
  CallsD Prog 105 #[.pointer (some p)] (.panicking [{ v := .iface 200 (.agg #[]), recovered := false }]) w fun e u' w' =>
   e = .returned (.tuple #[]) ∧ u' = .panicking [{ v := .iface 200 (.agg #[]), recovered := true }] ∧ w' = (w.alloc (.cells #[] 200)).setCell p (.bool false) := by
 refine callsD_of_wpS Try.func105 rfl fun c₀ cs hu => ?_
 apply wpS_seq
 apply wpS_region
 simp [wpOpsS, go_sem, recoverD, hu, Try.ntmps105, Exit.thenS]
 have hta : ∀ w, (Instr.typeAssert (.iface 200 (.agg #[])) 20 200 true).run Prog w = .ok (.tuple #[.agg #[], .bool true]) w := fun w => by kernel_rfl
 refine wpS_of_wp ?_
 go_wp2
 cases c₀
 simp_all [bodyPostS, results, Try.results105]
theorem catch_idle (p : Addr) (w : World) :
  CallsD Prog 105 #[.pointer (some p)] .returning w fun e u' w' => e = .returned (.tuple #[]) ∧ u' = .returning ∧ w' = w := by
 refine callsD_of_wpS Try.func105 rfl fun c₀ cs hu => ?_
 apply wpS_seq
 apply wpS_region
 simp [wpOpsS, go_sem, recoverD, hu, Try.ntmps105, Exit.thenS]
 refine wpS_of_wp ?_
 go_wp2
 cases c₀
 simp_all [bodyPostS, results, Try.results105]
set_option maxRecDepth 20000 in
theorem try_walk (g : FuncId) (first cap : Array Value) (w : World) (R : Ending → World → Prop)
  (hcf : (callFunc g (first ++ cap)).run Prog (w.alloc (.cells #[.bool false] 4)) = .ok (.enter g (first ++ cap)) (w.alloc (.cells #[.bool false] 4)))
  (hcall : Calls Prog g (first ++ cap) (w.alloc (.cells #[.bool false] 4)) fun e w' => match e with
   | .returned _ => w'.heap[w.heap.size]? = some (.cells #[.bool false] 4 (0, 0)) ∧ R (.returned (.bool true)) (w'.setCell ⟨w.heap.size, 0, none⟩ (.bool true))
   | .panicked chain => chain = [{ v := .iface 200 (.agg #[]), recovered := false }] ∧ w'.heap[w.heap.size]? = some (.cells #[.bool false] 4 (0, 0)) ∧ R (.returned (.bool false)) ((w'.alloc (.cells #[] 200)).setCell ⟨w.heap.size, 0, none⟩ (.bool false))
   | .outgrown => False) :
  Calls Prog 35 #[.func (.func g) first cap] w R := by
 have hmf : ∀ (fn : Fn) (first cap : Array Value) (w : World), (Instr.makeFunc fn first cap).run Prog w = .ok (.func fn first cap) w := fun _ _ _ _ => rfl
 go_enter_defers Try.func35, Try.ntmps35
 go_wp2
 rename_i K2 hK2 K1 hK1
 refine hcall.mono fun e w' he => ?_
 cases e with
 | returned v =>
  obtain ⟨h1, h2⟩ := he
  have hc : w'.cell? ⟨w.heap.size, 0, none⟩ = some (.bool false) := by simp [World.cell?, h1]
  have hz : w'.frozen? ⟨w.heap.size, 0, none⟩ = false := by simp [World.frozen?, h1]
  apply hK1
  apply hK2
  go_wp2
  have hc2 : (w'.setCell ⟨w.heap.size, 0, none⟩ (.bool true)).cell? ⟨w.heap.size, 0, none⟩ = some (.bool true) := World.cell?_setCell_same _ _ _ hc
  refine leaves_cons (f := 105) (args := #[.pointer (some ⟨w.heap.size, 0, none⟩)]) (by simp) (by simp [go_sem]) ?_
  refine (catch_idle ⟨w.heap.size, 0, none⟩ _).mono ?_
  rintro e u' w'' ⟨rfl, rfl, rfl⟩
  simp [Leaves, settle, results, Try.results35, go_sem, hc2]
  exact h2
 | panicked chain =>
  obtain ⟨h0, h1, h2⟩ := he
  subst h0
  have hlt : w.heap.size < w'.heap.size := by
   rcases Nat.lt_or_ge w.heap.size w'.heap.size with h | h
   ·exact h
   ·rw [Array.getElem?_eq_none h] at h1; cases h1
  have h3 : (w'.alloc (.cells #[] 200)).heap[w.heap.size]? = some (.cells #[.bool false] 4 (0, 0)) := by
   rw [heap_alloc_lt _ _ _ hlt]; exact h1
  have hc : (w'.alloc (.cells #[] 200)).cell? ⟨w.heap.size, 0, none⟩ = some (.bool false) := by simp only [World.cell?, h3]; rfl
  have hz : (w'.alloc (.cells #[] 200)).frozen? ⟨w.heap.size, 0, none⟩ = false := by simp [World.frozen?, h3]
  have hc2 : ((w'.alloc (.cells #[] 200)).setCell ⟨w.heap.size, 0, none⟩ (.bool false)).cell? ⟨w.heap.size, 0, none⟩ = some (.bool false) := World.cell?_setCell_same _ _ _ hc
  show Leaves _ _ _ _ _ _ _
  refine leaves_cons (f := 105) (args := #[.pointer (some ⟨w.heap.size, 0, none⟩)]) (by simp) (by simp [go_sem]) ?_
  refine (catch_short ⟨w.heap.size, 0, none⟩ false _ hc hz).mono ?_
  rintro e u' w'' ⟨rfl, rfl, rfl⟩
  simp [Leaves, settle, results, Try.results35, go_sem, hc2]
  exact h2
 | outgrown => exact he.elim
theorem try_is : SpIs Prog 35 (tryV 200) := try_of (bt := 4) Try.func35 rfl (by kernel_rfl) try_walk
end Go.Sw
end
section
namespace Go.Sw
open Go.RowKit
structure CTab.ok (t : CTab) : Prop where
 m : t.m.ok
 subs : ∀ x, x ∈ t.subs → (∀ p, p ∈ x.2 → p.ok) ∧ risesS x.2 = true ∧ x.2.length < 2 ^ 31
 has : ∀ e, e ∈ t.m.ents → (e.a = 65535 ∨ e.a < t.subs.length) ∧ (e.b = 65535 ∨ e.b < t.subs.length)
end Go.Sw
end
section
namespace Go.Sw
open Go.RowKit
end Go.Sw
end
