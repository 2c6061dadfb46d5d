/-
  Functions' forms, and what is proved of them, part 6.
-/
import Derived.Test.YtnaodjnimkndbaaSwW2
import Derived.Test.YtnaodjnimkndbaaSwW5
import Derived.Test.YtnaodjnimkndbaaSwCfg
import Derived.Test.YtnaodjnimkndbaaSwW3
set_option linter.unusedSimpArgs false
set_option linter.unusedVariables false
set_option linter.unusedSectionVars false
section
namespace Go.Sw
open Go.RowKit
structure Plan where
 cls : List Int
 rows : List (List Int)
 ents : List En
 wide : Int
abbrev encBR (r : List Int) : List Value := [lv encB r]
def planN (p : Plan) : Nat := 4 + (p.wide % 8).toNat
def twos (l : List Int) : List Int := (l.map fun c => bytesOf c 2).flatten
def ofS (cls : List Int) : List Int := (bytesOf 8 2 ++ bytesOf 0 2 ++ bytesOf cls.length 2) ++ twos cls
def rowL (n : Nat) (r : List Int) : List Int := (List.range n).map fun i => r[i]?.getD 0
def rowsL (n : Nat) (rs : List (List Int)) : List Int := (rs.map fun r => twos (rowL n r)).flatten
def m16 (x : Int) : Int := x % 65536
def entB (w : Int) (e : En) : List Int := bytesOf (m16 e.next) 2 ++ bytesOf (m16 e.flags) 2 ++ (if 0 < w then bytesOf (m16 e.a) 2 else []) ++ (if 1 < w then bytesOf (m16 e.b) 2 else [])
def entsB (w : Int) (es : List En) : List Int := (es.map (entB w)).flatten
def planBytes (p : Plan) (w : Int) (room : Nat) : List Int :=
 (((bytesOf (planN p : Int) 4 ++ bytesOf (16 + room : Int) 4 ++ bytesOf (16 + room + (ofS p.cls).length : Int) 4 ++ bytesOf (16 + room + (ofS p.cls).length + (rowsL (planN p) p.rows).length : Int) 4 ++ List.replicate room 0) ++ ofS p.cls) ++ rowsL (planN p) p.rows) ++ entsB w p.ents
theorem twos_snoc (l : List Int) (x : Int) : twos (l ++ [x]) = twos l ++ bytesOf x 2 := by simp [twos]
theorem twos_len (l : List Int) : (twos l).length = l.length * 2 := flat_len (z := 2) (fun r hr => by obtain ⟨p, _, rfl⟩ := List.mem_map.1 hr; simp) |>.trans (by simp)
theorem rowL_len (n : Nat) (r : List Int) : (rowL n r).length = n := by simp [rowL]
theorem rowsL_snoc (n : Nat) (rs : List (List Int)) (r : List Int) : rowsL n (rs ++ [r]) = rowsL n rs ++ twos (rowL n r) := by simp [rowsL]
theorem rowsL_len (n : Nat) (rs : List (List Int)) : (rowsL n rs).length = rs.length * (n * 2) := flat_len (z := n * 2) (fun r hr => by obtain ⟨p, _, rfl⟩ := List.mem_map.1 hr; rw [twos_len, rowL_len]) |>.trans (by simp)
theorem entB_len (w : Int) (e : En) : (entB w e).length ≤ 8 := by
 unfold entB
 simp only [List.length_append, bytesOf_len]
 split <;> split <;> simp
theorem entsB_snoc (w : Int) (es : List En) (e : En) : entsB w (es ++ [e]) = entsB w es ++ entB w e := by simp [entsB]
theorem entsB_len (w : Int) : ∀ es : List En, (entsB w es).length ≤ es.length * 8
 | [] => by simp [entsB]
 | e :: es => by
  have h1 := entsB_len w es
  have h2 := entB_len w e
  unfold entsB at h1 ⊢
  simp only [List.map_cons, List.flatten_cons, List.length_append, List.length_cons]
  omega
theorem and16 (P : Program) (t : TypeId) (H : Heap) (a : Int) : binR P .and t (.int .i64 a) (.int .i64 65535) H = .ok (.int .i64 (m16 a)) H := by
 have e : (BitVec.ofInt 64 a &&& BitVec.ofInt 64 65535).toNat = (a % 65536).toNat := by
  rw [BitVec.toNat_and, BitVec.toNat_ofInt, BitVec.toNat_ofInt]
  rw [show ((65535 : Int) % ((2 ^ 64 : Nat) : Int)).toNat = 2 ^ 16 - 1 from by decide, Nat.and_two_pow_sub_one_eq_mod]
  omega
 have e1 : binV P .and t (.int .i64 a) (.int .i64 65535) = some (.int .i64 (IntKind.i64.wrap (BitVec.ofInt 64 a &&& BitVec.ofInt 64 65535).toNat)) := rfl
 unfold binR
 rw [e1, e]
 unfold m16
 rw [show (((a % 65536).toNat : Nat) : Int) = a % 65536 by omega, wrap_i64 (by omega) (by omega)]
 rfl
theorem m16_bound (a : Int) : 0 ≤ m16 a ∧ m16 a < 65536 := by unfold m16; omega
theorem write_l3 (k : Nat) {H0 H : Heap} {o9 o12 : Option Nat} {a9 a12 : Value} {l9 l12 : List Int} {B : It} (w room : Value) (n : Nat) (hn : n ≤ 11) (a3 a8 : Value) {vr : Value} (r : List Int) (hr : Byt r) (hv : Sl H0 1 vr encB r) (x47 x48 x49 : Value) (hl : l12.length < 2 ^ 29)
  (g : Star H0 H [itRow o9 1 a9 encB l9, itRow o12 1 a12 encB l12, B]) :
  ∃ s o H' z, loopN (swashlaw07_Write_l3 k (R (T k))) loopFuel [(1, w), (2, room), (3, a3), (7, .int .i64 n), (8, a8), (9, a9), (12, a12), (13, .slice none 0 0), (15, vr), (47, x47), (48, x48), (49, x49), (53, .int .i64 n), (54, .int .i64 0)] H =
   .ok (.exit 4, [(1, w), (2, room), (3, a3), (7, .int .i64 n), (8, a8), (9, a9), (12, s), (13, .slice none 0 0), (15, vr), (47, x47), (48, x48), (49, x49), (53, .int .i64 n), (54, z), (55, .bool false)]) H' ∧
   Star H0 H' [itRow o9 1 a9 encB l9, itRow o 1 s encB (l12 ++ twos (rowL n r)), B] := by
 have hvl := fun H' => hv.len H'
 obtain ⟨x, e', H1, hr1, rfl, z, s, o, rfl, g⟩ := loop_up (body := swashlaw07_Write_l3 k (R (T k))) n
  (fun j e H' => ∃ s o, e = [(1, w), (2, room), (3, a3), (7, .int .i64 n), (8, a8), (9, a9), (12, s), (13, .slice none 0 0), (15, vr), (47, x47), (48, x48), (49, x49), (53, .int .i64 n), (54, .int .i64 j)] ∧ Star H0 H' [itRow o9 1 a9 encB l9, itRow o 1 s encB (l12 ++ twos ((rowL n r).take j)), B])
  (fun x e H' => x = .exit 4 ∧ ∃ z s o, e = [(1, w), (2, room), (3, a3), (7, .int .i64 n), (8, a8), (9, a9), (12, s), (13, .slice none 0 0), (15, vr), (47, x47), (48, x48), (49, x49), (53, .int .i64 n), (54, z), (55, .bool false)] ∧ Star H0 H' [itRow o9 1 a9 encB l9, itRow o 1 s encB (l12 ++ twos (rowL n r)), B])
  (e0 := [(1, w), (2, room), (3, a3), (7, .int .i64 n), (8, a8), (9, a9), (12, a12), (13, .slice none 0 0), (15, vr), (47, x47), (48, x48), (49, x49), (53, .int .i64 n), (54, .int .i64 0)]) (H0 := H) ⟨a12, o12, rfl, by simpa [twos] using g⟩ (by omega)
  (fun j e H' hj ⟨s, o, he, g⟩ => by
   subst he
   have hlt : (j : Int) < n := by omega
   have hq : (rowL n r)[j]? = some (r[j]?.getD 0) := by unfold rowL; rw [List.getElem?_map, List.getElem?_range hj]; rfl
   have hlen : (l12 ++ twos ((rowL n r).take j)).length < 2 ^ 30 := by
    rw [List.length_append, twos_len, List.length_take, rowL_len]
    omega
   have hb : 0 ≤ r[j]?.getD 0 ∧ r[j]?.getD 0 < 256 := by
    cases h : r[j]? with
    | none => simp
    | some y => exact hr y (List.mem_of_getElem? h)
   obtain ⟨s', o', H2, e2, g2⟩ := Put_star k g 1 rfl (r[j]?.getD 0) 2 2 rfl hb.1 (by omega) (by omega) hlen
   simp only [List.set_cons_zero, List.set_cons_succ] at g2
   refine .inl ⟨_, H2, ?_, s', o', rfl, by rw [take_snoc hq, twos_snoc, ← List.append_assoc]; exact g2⟩
   rw [swashlaw07_Write_l3_eq]
   cases h : r[j]? with
   | some y =>
    have hjr : (j : Int) < r.length := by have := (List.getElem?_eq_some_iff.1 h).1; omega
    obtain ⟨pp, i1, i2⟩ := hv.ix1 encB_len j y h _ rfl
    have i2 := i2 H' g.ext
    rw [h] at e2 hb
    simp at e2 hb
    simp -implicitDefEqProofs (disch := omega) [hlt, hjr, hvl, i1, i2, swashlaw07_Write_j1_eq, e2]
   | none =>
    have hjr : ¬ (j : Int) < r.length := by have := List.getElem?_eq_none_iff.1 h; omega
    rw [h] at e2
    simp at e2
    simp -implicitDefEqProofs (disch := omega) [hlt, hjr, hvl, swashlaw07_Write_j2_eq, e2])
  (fun e H' ⟨s, o, he, g⟩ => by
   subst he
   rw [List.take_of_length_le (by rw [rowL_len]; exact Nat.le_refl _)] at g
   refine ⟨.exit 4, _, H', ?_, by simp, rfl, .int .i64 n, s, o, rfl, g⟩
   rw [swashlaw07_Write_l3_eq]
   simp -implicitDefEqProofs)
 exact ⟨s, o, H1, z, hr1, g⟩
def Plan.ok (p : Plan) : Prop := Byt p.cls ∧ (∀ r, r ∈ p.rows → Byt r) ∧ 0 ≤ p.wide ∧ p.wide < 256
set_option maxHeartbeats 1000000 in
theorem write_l4 (k : Nat) {H0 H : Heap} {o9 o12 : Option Nat} {a9 a12 : Value} {l9 l12 : List Int} {B : It} (w : Int) (hw : w = 0 ∨ w = 1 ∨ w = 2) (room : Value) (a7 a8 : Value) (es : List En) (hl : es.length < 2 ^ 20) {sE : Value} (hsE : Sl H0 4 sE encEn es)
  (g : Star H0 H [itRow o9 1 a9 encB l9, itRow o12 1 a12 encB l12, B]) :
  ∃ s o H' z, loopN (swashlaw07_Write_l4 k (R (T k))) loopFuel [(1, .int .i64 w), (2, room), (7, a7), (8, a8), (9, a9), (12, a12), (13, .slice none 0 0), (72, sE), (73, .int .i64 es.length), (74, .int .i64 0)] H =
   .ok (.exit 6, [(1, .int .i64 w), (2, room), (7, a7), (8, a8), (9, a9), (12, a12), (13, s), (72, sE), (73, .int .i64 es.length), (74, z), (75, .bool false)]) H' ∧
   Star H0 H' [itRow o9 1 a9 encB l9, itRow o12 1 a12 encB l12, B, itRow o 1 s encB (entsB w es)] := by
 have g := g.more_row (Ext.refl _) (OwnO.nil encB _ 1) (fun b hb => by cases hb)
 obtain ⟨x, e', H1, hr1, rfl, z, s, o, rfl, g⟩ := loop_up (body := swashlaw07_Write_l4 k (R (T k))) es.length
  (fun j e H' => ∃ s o, e = [(1, .int .i64 w), (2, room), (7, a7), (8, a8), (9, a9), (12, a12), (13, s), (72, sE), (73, .int .i64 es.length), (74, .int .i64 j)] ∧ Star H0 H' [itRow o9 1 a9 encB l9, itRow o12 1 a12 encB l12, B, itRow o 1 s encB (entsB w (es.take j))])
  (fun x e H' => x = .exit 6 ∧ ∃ z s o, e = [(1, .int .i64 w), (2, room), (7, a7), (8, a8), (9, a9), (12, a12), (13, s), (72, sE), (73, .int .i64 es.length), (74, z), (75, .bool false)] ∧ Star H0 H' [itRow o9 1 a9 encB l9, itRow o12 1 a12 encB l12, B, itRow o 1 s encB (entsB w es)])
  (e0 := [(1, .int .i64 w), (2, room), (7, a7), (8, a8), (9, a9), (12, a12), (13, .slice none 0 0), (72, sE), (73, .int .i64 es.length), (74, .int .i64 0)]) (H0 := H) ⟨.slice none 0 0, none, rfl, by simpa [entsB] using g⟩ (by omega)
  (fun j e H' hj ⟨s, o, he, g⟩ => by
   subst he
   have hlt : (j : Int) < es.length := by omega
   obtain ⟨en, hen⟩ : ∃ en, es[j]? = some en := ⟨_, List.getElem?_eq_getElem hj⟩
   obtain ⟨q, i1, i2⟩ := ((hsE.up g.ext).rd (by decide) encEn_len).2 j en hen
   have hlen := entsB_len w (es.take j)
   rw [List.length_take] at hlen
   have g := g.push ⟨encEn en, 1, false⟩
   simp only [List.cons_append, List.nil_append] at g
   have b1 := m16_bound en.next
   have b2 := m16_bound en.flags
   have b3 := m16_bound en.a
   have b4 := m16_bound en.b
   have an := fun H a => and16 Prog 3 H a
   obtain ⟨s1, o1, H1, e1, g1⟩ := Put_star k g 3 rfl (m16 en.next) 2 2 rfl b1.1 (by omega) (by omega) (by omega)
   simp only [List.set_cons_zero, List.set_cons_succ] at g1
   have h1 := g1.get 4 rfl
   obtain ⟨s2, o2, H2, e2, g2⟩ := Put_star k g1 3 rfl (m16 en.flags) 2 2 rfl b2.1 (by omega) (by omega) (by simp; omega)
   simp only [List.set_cons_zero, List.set_cons_succ] at g2
   have h2 := g2.get 4 rfl
   rcases hw with rfl | rfl | rfl
   ·refine .inl ⟨_, H2, ?_, s2, o2, rfl, by rw [take_snoc hen, entsB_snoc]; simpa [entB] using g2.take 4⟩
    rw [swashlaw07_Write_l4_eq]
    simp -implicitDefEqProofs (disch := omega) [hlt, i1, i2, an, e1, h1, e2, h2, swashlaw07_Write_j4_eq, swashlaw07_Write_j6_eq]
   ·obtain ⟨s3, o3, H3, e3, g3⟩ := Put_star k g2 3 rfl (m16 en.a) 2 2 rfl b3.1 (by omega) (by omega) (by simp; omega)
    simp only [List.set_cons_zero, List.set_cons_succ] at g3
    have h3 := g3.get 4 rfl
    refine .inl ⟨_, H3, ?_, s3, o3, rfl, by rw [take_snoc hen, entsB_snoc]; simpa [entB] using g3.take 4⟩
    rw [swashlaw07_Write_l4_eq]
    simp -implicitDefEqProofs (disch := omega) [hlt, i1, i2, an, e1, h1, e2, h2, e3, h3, swashlaw07_Write_j3_eq, swashlaw07_Write_j6_eq]
   ·obtain ⟨s3, o3, H3, e3, g3⟩ := Put_star k g2 3 rfl (m16 en.a) 2 2 rfl b3.1 (by omega) (by omega) (by simp; omega)
    simp only [List.set_cons_zero, List.set_cons_succ] at g3
    have h3 := g3.get 4 rfl
    obtain ⟨s4, o4, H4, e4, g4⟩ := Put_star k g3 3 rfl (m16 en.b) 2 2 rfl b4.1 (by omega) (by omega) (by simp; omega)
    simp only [List.set_cons_zero, List.set_cons_succ] at g4
    refine .inl ⟨_, H4, ?_, s4, o4, rfl, by rw [take_snoc hen, entsB_snoc]; simpa [entB] using g4.take 4⟩
    rw [swashlaw07_Write_l4_eq]
    simp -implicitDefEqProofs (disch := omega) [hlt, i1, i2, an, e1, h1, e2, h2, e3, h3, e4, swashlaw07_Write_j3_eq, swashlaw07_Write_j5_eq])
  (fun e H' ⟨s, o, he, g⟩ => by
   subst he
   rw [List.take_length] at g
   refine ⟨.exit 6, _, H', ?_, by simp, rfl, .int .i64 es.length, s, o, rfl, g⟩
   rw [swashlaw07_Write_l4_eq]
   simp -implicitDefEqProofs)
 exact ⟨s, o, H1, z, hr1, g⟩
theorem planN_eq (p : Plan) (h : 0 ≤ p.wide ∧ p.wide < 256) : 4 + p.wide.tmod 8 = (planN p : Int) ∧ planN p ≤ 11 := by
 unfold planN
 rw [Int.tmod_eq_emod_of_nonneg h.1]
 omega
set_option maxHeartbeats 2000000 in
theorem Write_coreG (k : Nat) (p : Plan) (hp : p.ok) (w : Int) (hw : w = 0 ∨ w = 1 ∨ w = 2) (room : Nat) (hroom : room ≤ 1000) (h1 : p.cls.length ≤ 1000) (h2 : p.rows.length ≤ 1000) (h3 : p.ents.length ≤ 1000) {H : Heap} {vC vR sE : Value} (hC : Sl H 1 vC encB p.cls) {rv : List (List Int × Value)} (hrv : rv.map Prod.fst = p.rows) (hrs : ∀ x, x ∈ rv → Sl H 1 x.2 encB x.1) (hR : Sl H 1 vR encU rv) (hsE : Sl H 4 sE encEn p.ents) :
  ∃ s H', swashlaw07_Write k (R (T k)) (.agg #[vC, vR, sE, .int .u8 p.wide]) (.int .i64 w) (.int .i64 room) H = .ok s H' ∧ Own H H' 1 s encB (planBytes p w room) ∧ Ext H H' := by
 have hrvl : rv.length = p.rows.length := by rw [← hrv]; simp
 have hN := planN_eq p hp.2.2
 obtain ⟨n, hn⟩ : ∃ n, n = planN p := ⟨_, rfl⟩
 rw [← hn] at hN
 have hwd : 0 ≤ p.wide ∧ p.wide < 256 := hp.2.2
 have hrem := fun H => bin_rem Prog 3 H .i64 p.wide 8 (by decide)
 rw [Int.tmod_eq_emod_of_nonneg hwd.1] at hrem hN
 obtain ⟨B, hB⟩ : ∃ B : Blk, B = ⟨[vC, vR, sE, .int .u8 p.wide], 1, false⟩ := ⟨_, rfl⟩
 have g := (Star.nil H).more_row (Ext.refl _) (OwnO.nil encB _ 1) (fun b hb => by cases hb)
 have g := g.more_row (Ext.refl _) (OwnO.nil encB _ 1) (fun b hb => by cases hb)
 have g := g.push B
 simp only [List.cons_append, List.nil_append] at g
 -- the head of the classes
 obtain ⟨s1, o1, H1, e1, g⟩ := Put_star k g 0 rfl 8 2 2 rfl (by omega) (by omega) (by omega) (by simp)
 simp only [List.set_cons_zero, List.set_cons_succ] at g
 have b1 := g.get 2 rfl
 obtain ⟨s2, o2, H2, e2, g⟩ := Put_star k g 0 rfl 0 2 2 rfl (by omega) (by omega) (by omega) (by simp)
 simp only [List.set_cons_zero, List.set_cons_succ] at g
 have b2 := g.get 2 rfl
 obtain ⟨s3, o3, H3, e3, g⟩ := Put_star k g 0 rfl p.cls.length 2 2 rfl (by omega) (by omega) (by omega) (by simp)
 simp only [List.set_cons_zero, List.set_cons_succ, List.nil_append] at g
 have b3 := g.get 2 rfl
 -- the classes
 obtain ⟨x, e', H4, hr4, rfl, z4, s4, o4, rfl, g⟩ := loop_up (body := swashlaw07_Write_l1 k (R (T k))) p.cls.length
  (fun j e H' => ∃ s o, e = [(1, .int .i64 w), (2, .int .i64 room), (3, ptrV H.n), (7, .int .i64 n), (8, .int .i64 (16 + room)), (9, s), (35, vC), (36, .int .i64 p.cls.length), (37, .int .i64 j)] ∧ Star H H' [itRow o 1 s encB ((bytesOf 8 2 ++ bytesOf 0 2 ++ bytesOf p.cls.length 2) ++ twos (p.cls.take j)), itRow none 1 (.slice none 0 0) encB [], itBlk H.n B])
  (fun x e H' => x = .exit 0 ∧ ∃ z s o, e = [(1, .int .i64 w), (2, .int .i64 room), (3, ptrV H.n), (7, .int .i64 n), (8, .int .i64 (16 + room)), (9, s), (35, vC), (36, .int .i64 p.cls.length), (37, z), (38, .bool false)] ∧ Star H H' [itRow o 1 s encB (ofS p.cls), itRow none 1 (.slice none 0 0) encB [], itBlk H.n B])
  (e0 := [(1, .int .i64 w), (2, .int .i64 room), (3, ptrV H.n), (7, .int .i64 n), (8, .int .i64 (16 + room)), (9, s3), (35, vC), (36, .int .i64 p.cls.length), (37, .int .i64 0)]) (H0 := H3) ⟨s3, o3, rfl, by simpa [twos] using g⟩ (by omega)
  (fun j e H' hj ⟨s, o, he, g⟩ => by
   subst he
   have hlt : (j : Int) < p.cls.length := by omega
   obtain ⟨c, hc⟩ : ∃ c, p.cls[j]? = some c := ⟨_, List.getElem?_eq_getElem hj⟩
   obtain ⟨pp, i1, i2⟩ := hC.ix1 encB_len j c hc _ rfl
   have i2 := i2 H' g.ext
   have hcb := hp.1 c (List.mem_of_getElem? hc)
   obtain ⟨s', o', H2, e2, g2⟩ := Put_star k g 0 rfl c 2 2 rfl hcb.1 (by omega) (by omega) (by simp [twos_len]; omega)
   simp only [List.set_cons_zero, List.set_cons_succ] at g2
   refine .inl ⟨_, H2, ?_, s', o', rfl, by rw [take_snoc hc, twos_snoc, ← List.append_assoc]; exact g2⟩
   rw [swashlaw07_Write_l1_eq]
   simp -implicitDefEqProofs (disch := omega) [hlt, i1, i2, e2])
  (fun e H' ⟨s, o, he, g⟩ => by
   subst he
   rw [List.take_length] at g
   refine ⟨.exit 0, _, H', ?_, by simp, rfl, .int .i64 p.cls.length, s, o, rfl, g⟩
   rw [swashlaw07_Write_l1_eq]
   simp -implicitDefEqProofs)
 have b4 := g.get 2 rfl
 have hofl : (ofS p.cls).length = 6 + p.cls.length * 2 := by unfold ofS; simp [twos_len]; omega
 -- the rows
 obtain ⟨x, e', H5, hr5, rfl, z5, s5, o5, rfl, g⟩ := loop_up (body := swashlaw07_Write_l2 k (R (T k))) p.rows.length
  (fun j e H' => ∃ s o, e = [(1, .int .i64 w), (2, .int .i64 room), (3, ptrV H.n), (7, .int .i64 n), (8, .int .i64 (16 + room)), (9, s4), (12, s), (13, .slice none 0 0), (47, vR), (48, .int .i64 p.rows.length), (49, .int .i64 j)] ∧ Star H H' [itRow o4 1 s4 encB (ofS p.cls), itRow o 1 s encB (rowsL n (p.rows.take j)), itBlk H.n B])
  (fun x e H' => x = .exit 2 ∧ ∃ z s o, e = [(1, .int .i64 w), (2, .int .i64 room), (3, ptrV H.n), (7, .int .i64 n), (8, .int .i64 (16 + room)), (9, s4), (12, s), (13, .slice none 0 0), (47, vR), (48, .int .i64 p.rows.length), (49, z), (50, .bool false)] ∧ Star H H' [itRow o4 1 s4 encB (ofS p.cls), itRow o 1 s encB (rowsL n p.rows), itBlk H.n B])
  (e0 := [(1, .int .i64 w), (2, .int .i64 room), (3, ptrV H.n), (7, .int .i64 n), (8, .int .i64 (16 + room)), (9, s4), (12, .slice none 0 0), (13, .slice none 0 0), (47, vR), (48, .int .i64 p.rows.length), (49, .int .i64 0)]) (H0 := H4) ⟨.slice none 0 0, none, rfl, by simpa [rowsL] using g⟩ (by omega)
  (fun j e H' hj ⟨s, o, he, g⟩ => by
   subst he
   have hlt : (j : Int) < p.rows.length := by omega
   obtain ⟨r, hr⟩ : ∃ r, p.rows[j]? = some r := ⟨_, List.getElem?_eq_getElem hj⟩
   obtain ⟨x, hx⟩ : ∃ x, rv[j]? = some x := ⟨_, List.getElem?_eq_getElem (by omega)⟩
   have hxr : x.1 = r := by
    have h0 : (rv.map Prod.fst)[j]? = some x.1 := by rw [List.getElem?_map, hx]; rfl
    rw [hrv, hr] at h0
    exact (Option.some.inj h0).symm
   obtain ⟨pp, i1, i2⟩ := hR.ix1 encU_len j x hx _ rfl
   have i2 := i2 H' g.ext
   have hxs := hrs x (List.mem_of_getElem? hx)
   rw [hxr] at hxs
   have hll : (rowsL n (p.rows.take j)).length < 2 ^ 29 := by
    rw [rowsL_len, List.length_take]
    have : min j p.rows.length * (n * 2) ≤ 1000 * 22 := Nat.mul_le_mul (by omega) (by omega)
    omega
   obtain ⟨s', o', H2, z', e2, g2⟩ := write_l3 k (.int .i64 w) (.int .i64 room) n (by omega) (ptrV H.n) (.int .i64 (16 + room)) r (hp.2.1 r (List.mem_of_getElem? hr)) hxs (vR) (.int .i64 p.rows.length) (.int .i64 j) hll g
   refine .inl ⟨_, H2, ?_, s', o', rfl, by rw [take_snoc hr, rowsL_snoc]; exact g2⟩
   rw [swashlaw07_Write_l2_eq]
   simp -implicitDefEqProofs (disch := omega) [hlt, i1, i2, e2, swashlaw07_Write_l3k_x4])
  (fun e H' ⟨s, o, he, g⟩ => by
   subst he
   rw [List.take_length] at g
   refine ⟨.exit 2, _, H', ?_, by simp, rfl, .int .i64 p.rows.length, s, o, rfl, g⟩
   rw [swashlaw07_Write_l2_eq]
   simp -implicitDefEqProofs)
 have b5 := g.get 2 rfl
 have hrl : (rowsL n p.rows).length ≤ 1000 * 22 := by rw [rowsL_len]; exact Nat.mul_le_mul h2 (by omega)
 -- the entries
 obtain ⟨s6, o6, H6, z6, hr6, g⟩ := write_l4 k w hw (.int .i64 room) (.int .i64 n) (.int .i64 (16 + room)) p.ents (by omega) hsE g
 have hel := entsB_len w p.ents
 have q9 : ∀ H', lnS s4 H' = .ok (.int .i64 (ofS p.cls).length) H' := (g.row 0 rfl).len
 have q12 : ∀ H', lnS s5 H' = .ok (.int .i64 (rowsL n p.rows).length) H' := (g.row 1 rfl).len
 -- all together
 have g := g.more_row (Ext.refl _) (OwnO.nil encB _ 1) (fun b hb => by cases hb)
 simp only [List.cons_append, List.nil_append] at g
 obtain ⟨t1, u1, J1, f1, g⟩ := Put_star k g 4 rfl n 4 4 rfl (by omega) (by omega) (by omega) (by simp)
 simp only [List.set_cons_zero, List.set_cons_succ, List.nil_append] at g
 obtain ⟨t2, u2, J2, f2, g⟩ := Put_star k g 4 rfl (16 + room) 4 4 rfl (by omega) (by omega) (by omega) (by simp)
 simp only [List.set_cons_zero, List.set_cons_succ] at g
 obtain ⟨t3, u3, J3, f3, g⟩ := Put_star k g 4 rfl (16 + room + (ofS p.cls).length) 4 4 rfl (by omega) (by omega) (by omega) (by simp)
 simp only [List.set_cons_zero, List.set_cons_succ] at g
 obtain ⟨t4, u4, J4, f4, g⟩ := Put_star k g 4 rfl (16 + room + (ofS p.cls).length + (rowsL n p.rows).length) 4 4 rfl (by omega) (by omega) (by omega) (by simp)
 simp only [List.set_cons_zero, List.set_cons_succ] at g
 obtain ⟨a4, l4, c4, ht4⟩ := (g.row 4 rfl).shape
 obtain ⟨t5, u5, J5, f5, g⟩ := g.append (bytes := 1) 4 encB_len rfl (b := lv encB (List.replicate room 0)) (l2 := List.replicate room 0) (by rw [lv, List.length_replicate]; rfl) (by have := lv_first encB_len (List.replicate room 0) J4; exact this) (by simp; omega) (by decide)
 simp only [List.set_cons_zero, List.set_cons_succ] at g
 have f5' : azR 1 1 [.int .u8 0] t4 (.int .i64 room) J4 = .ok t5 J5 := by
  rw [ht4] at f5 ⊢
  rw [azR_eq encB_len a4 l4 c4 (0 : Int) _ rfl .i64 room (by omega)]
  exact f5
 obtain ⟨t6, u6, J6, f6, g⟩ := g.appendRow (bytes := 1) 4 0 encB_len rfl rfl (by simp; omega) (by decide)
 simp only [List.set_cons_zero, List.set_cons_succ] at g
 obtain ⟨t7, u7, J7, f7, g⟩ := g.appendRow (bytes := 1) 4 1 encB_len rfl rfl (by simp; omega) (by decide)
 simp only [List.set_cons_zero, List.set_cons_succ] at g
 obtain ⟨t8, u8, J8, f8, g⟩ := g.appendRow (bytes := 1) 4 3 encB_len rfl rfl (by simp; omega) (by decide)
 simp only [List.set_cons_zero, List.set_cons_succ] at g
 have hbytes : planBytes p w room = bytesOf (n : Int) 4 ++ bytesOf (16 + room : Int) 4 ++ bytesOf (16 + room + (ofS p.cls).length : Int) 4 ++ bytesOf (16 + room + (ofS p.cls).length + (rowsL n p.rows).length : Int) 4 ++ List.replicate room 0 ++ ofS p.cls ++ rowsL n p.rows ++ entsB w p.ents := by
  unfold planBytes
  rw [← hn]
 rw [hbytes]
 refine ⟨t8, J8, ?_, g.own 4 rfl, g.ext⟩
 rw [hB] at e1 b1 b2 b3 b4 b5
 have hlnE := fun H' => hsE.len H'
 have hlnC := fun H' => hC.len H'
 have hlnR := fun H' => hR.len H'
 rw [hrvl] at hlnR
 have hvqC : veq vC vC = true := hC.veq fun x _ u hu => by simp at hu; subst hu; simp
 simp -implicitDefEqProofs (disch := omega) [swashlaw07_Write, hrem, hN.1, e1, b1, e2, b2, e3, b3, hr4, swashlaw07_Write_l1k_x0, b4, hr5, swashlaw07_Write_l2k_x2, b5, hr6, swashlaw07_Write_l4k_x6, f1, q9, q12, f2, f3, f4, f5', f6, f7, f8, hlnE, hlnC, hlnR, hvqC]
theorem lvU_rows (l : List (List Int)) : lv encBR l = lv encU (l.map fun s => (s, lv encB s)) := by
 unfold lv
 rw [List.length_map]
 congr 2
 unfold rows
 rw [List.flatMap_map]
 rfl
theorem rv_fst (l : List (List Int)) : (l.map fun s => (s, lv encB s)).map Prod.fst = l := by rw [List.map_map]; simp [Function.comp_def]
structure PlanSl (H : Heap) (p : Plan) (vC vR sE : Value) (rv : List (List Int × Value)) : Prop where
 cls : Sl H 1 vC encB p.cls
 fst : rv.map Prod.fst = p.rows
 each : ∀ x, x ∈ rv → Sl H 1 x.2 encB x.1
 rows : Sl H 1 vR encU rv
 ents : Sl H 4 sE encEn p.ents
theorem PlanSl.up {H H' : Heap} {p : Plan} {vC vR sE : Value} {rv : List (List Int × Value)} (h : PlanSl H p vC vR sE rv) (he : Ext H H') : PlanSl H' p vC vR sE rv := ⟨h.cls.up he, h.fst, fun x hx => (h.each x hx).up he, h.rows.up he, h.ents.up he⟩
theorem PlanSl.lv (H : Heap) (p : Plan) {sE : Value} (h : Sl H 4 sE encEn p.ents) : PlanSl H p (Go.Sw.lv encB p.cls) (Go.Sw.lv encBR p.rows) sE (p.rows.map fun s => (s, Go.Sw.lv encB s)) :=
 ⟨Sl.lv _ 1 _, rv_fst p.rows, fun x hx => by obtain ⟨s, _, rfl⟩ := List.mem_map.1 hx; exact Sl.lv _ 1 _, by rw [lvU_rows]; exact Sl.lv _ 1 _, h⟩
theorem Write_starG (k : Nat) (hW : ownW k = .no) (p : Plan) (hp : p.ok) (w : Int) (hw : w = 0 ∨ w = 1 ∨ w = 2) (room : Nat) (hroom : room ≤ 1000) (h1 : p.cls.length ≤ 1000) (h2 : p.rows.length ≤ 1000) (h3 : p.ents.length ≤ 1000) {H0 H : Heap} {L : List It} (g : Star H0 H L) {vC vR sE : Value} {rv : List (List Int × Value)} (hP : PlanSl H p vC vR sE rv) :
  ∃ s o H', R (T k) F.swashlaw07_Write [.agg #[vC, vR, sE, .int .u8 p.wide], .int .i64 w, .int .i64 room] H = .ok s H' ∧ Star H0 H' (L ++ [itRow o 1 s encB (planBytes p w room)]) ∧ Ext H H' := by
 obtain ⟨s, H', e, ho, hx⟩ := Write_coreG k p hp w hw room hroom h1 h2 h3 hP.cls hP.fst hP.each hP.rows hP.ents
 obtain ⟨o, g⟩ := g.more_own ho hx
 exact ⟨s, o, H', by rw [swashlaw07_Write_R, hW]; exact nrm_of e, g, hx⟩
end Go.Sw
end
section
set_option maxRecDepth 100000
set_option linter.unusedVariables false
namespace Go.Sw
noncomputable section
def swashref05_Rows_l1 (k : Nat) (call : Caller) : Env → Heap → Res (AExit × Env) := loopB (C k) call F.swashref05_Rows [1, 1, 1, 1, 0, 1, 0, 0]
def swashref05_Rows_l1k (k : Nat) (call : Caller) : Kont Value := kBlock 0 (kSeq (pieceK (C k) call F.swashref05_Rows [1, 1, 1, 1, 1]) (kDone Prog (resOf Prog F.swashref05_Rows)))
def swashref05_Rows_j1 (k : Nat) (call : Caller) (a0 a3 a11 a12 a13 a60 : Value) (h : Heap) : Res Value :=
 kSeq (pieceK (C k) call F.swashref05_Rows [1, 1, 1, 1, 1, 1]) (kDone Prog (resOf Prog F.swashref05_Rows)) .normal [(0, a0), (3, a3), (11, a11), (12, a12), (13, a13), (60, a60)] h
def swashref05_Rows_l2 (k : Nat) (call : Caller) : Env → Heap → Res (AExit × Env) := loopB (C k) call F.swashref05_Rows [1, 1, 1, 1, 1, 0, 1, 0, 1, 0, 1, 0, 0]
def swashref05_Rows_l2k (k : Nat) (call : Caller) : Kont Value := kBlock 2 (kSeq (pieceK (C k) call F.swashref05_Rows [1, 1, 1, 1, 1, 0, 1, 0, 1, 1]) (kSeq (pieceK (C k) call F.swashref05_Rows [1, 1, 1, 1, 1, 1]) (kDone Prog (resOf Prog F.swashref05_Rows))))
def swashref05_Rows_j2 (k : Nat) (call : Caller) (a11 a13 : Value) (h : Heap) : Res Value :=
 kSeq (pieceK (C k) call F.swashref05_Rows [1, 1, 1, 1, 1, 1]) (kDone Prog (resOf Prog F.swashref05_Rows)) .normal [(11, a11), (13, a13)] h
def swashref05_Rows_j3 (k : Nat) (call : Caller) (a11 a12 a13 a80 : Value) (h : Heap) : Res Value :=
 kSeq (pieceK (C k) call F.swashref05_Rows [1, 1, 1, 1, 1, 1]) (kDone Prog (resOf Prog F.swashref05_Rows)) .normal [(11, a11), (12, a12), (13, a13), (80, a80)] h
def swashref05_Rows (k : Nat) (call : Caller) (a0 a1 a2 a3 : Value) (h : Heap) : Res Value :=
 (call F.swashref01_U [a0, a1, (.int .i64 2)] h).bind fun v1 h2 =>
 (binR Prog .add 3 a1 (.int .i64 2) h2).bind fun v3 h4 =>
 (call F.swashref01_U [a0, v3, (.int .i64 2)] h4).bind fun v5 h6 =>
 (builtinV Prog .len [65] [a0] h6).bind fun v7 h8 =>
 (call F.swashref01_In [v7, a1, (.int .i64 10)] h8).bind fun v9 h10 =>
 (unR .not v9 h10).bind fun v11 h12 =>
 ((bif wantVal v11 false then Res.ok v1 h12 else Res.ok undef h12)).bind fun v13 h14 =>
 ((bif wantVal v11 false then Res.ok a2 h14 else Res.ok undef h14)).bind fun v15 h16 =>
 ((bif wantVal v11 false then binR Prog .lss 3 v13 v15 h16 else Res.ok undef h16)).bind fun v17 h18 =>
 (condV (some v11) (Res.ok (.bool true) h18) (Res.ok v17 h18)).bind fun v19 h20 =>
 ((bif wantVal v19 false then Res.ok a0 h20 else Res.ok undef h20)).bind fun v21 h22 =>
 ((bif wantVal v19 false then builtinV Prog .len [65] [v21] h22 else Res.ok undef h22)).bind fun v23 h24 =>
 ((bif wantVal v19 false then Res.ok a1 h24 else Res.ok undef h24)).bind fun v25 h26 =>
 ((bif wantVal v19 false then binR Prog .add 3 v25 (.int .i64 10) h26 else Res.ok undef h26)).bind fun v27 h28 =>
 ((bif wantVal v19 false then Res.ok v5 h28 else Res.ok undef h28)).bind fun v29 h30 =>
 ((bif wantVal v19 false then Res.ok v1 h30 else Res.ok undef h30)).bind fun v31 h32 =>
 ((bif wantVal v19 false then call F.swashref01_Rows [v23, v27, v29, v31] h32 else Res.ok undef h32)).bind fun v33 h34 =>
 ((bif wantVal v19 false then unR .not v33 h34 else Res.ok undef h34)).bind fun v35 h36 =>
 (condV (some v19) (Res.ok (.bool true) h36) (Res.ok v35 h36)).bind fun v37 h38 =>
 condV (some v37) (
 .ok (.tuple #[(.slice none 0 0), (.int .i64 0), (.bool false)]) h38)
 (
 (buildSliceR Prog 28 0 [] h38).bind fun v39 h40 =>
 (loopN (swashref05_Rows_l1 k call) loopFuel [(0, a0), (1, a1), (3, a3), (11, v1), (12, v5), (13, v39), (14, (.int .i64 0))] h40).bind fun r41 h42 =>
 swashref05_Rows_l1k k call r41.1 r41.2 h42)
theorem swashref05_Rows_R (k : Nat) (a0 a1 a2 a3 : Value) (h : Heap) : R (T k) F.swashref05_Rows [a0, a1, a2, a3] h = nrm .fz h (swashref05_Rows k (R (T k)) a0 a1 a2 a3 h) :=
 (R_body (t := T k) (T_scott k) (by kernel_rfl) (by kernel_rfl) _ _).trans (by kernel_rfl)
theorem swashref05_Rows_l1_eq (k : Nat) (call : Caller) (a0 a1 a3 a11 a12 a13 a14 : Value) (h : Heap) : swashref05_Rows_l1 k call [(0, a0), (1, a1), (3, a3), (11, a11), (12, a12), (13, a13), (14, a14)] h =
 (binR Prog .lss 3 a14 a12 h).bind fun v43 h44 =>
 condV (some v43) (
 (binR Prog .add 3 a1 (.int .i64 10) h44).bind fun v45 h46 =>
 (binR Prog .mul 3 a14 a11 h46).bind fun v47 h48 =>
 (binR Prog .add 3 v45 v47 h48).bind fun v49 h50 =>
 (buildSliceR Prog 28 1 [(0, v49)] h50).bind fun v51 h52 =>
 (builtinV Prog .append [28, 28] [a13, v51] h52).bind fun v53 h54 =>
 (binR Prog .add 3 a14 (.int .i64 1) h54).bind fun v55 h56 =>
 .ok (.normal, [(0, a0), (1, a1), (3, a3), (11, a11), (12, a12), (13, v53), (14, v55)]) h56)
 (
 .ok ((.exit 0), [(0, a0), (1, a1), (3, a3), (11, a11), (12, a12), (13, a13), (14, a14), (47, v43)]) h44) :=
 (loopB_eq _ _).trans (by kernel_rfl)
theorem swashref05_Rows_l1k_x0 (k : Nat) (call : Caller) (a0 a1 a3 a11 a12 a13 a14 a47 : Value) (h : Heap) : swashref05_Rows_l1k k call (.exit 0) [(0, a0), (1, a1), (3, a3), (11, a11), (12, a12), (13, a13), (14, a14), (47, a47)] h =
 (binR Prog .gtr 3 a12 (.int .i64 0) h).bind fun v57 h58 =>
 condV (some v57) (
 (loopN (swashref05_Rows_l2 k call) loopFuel [(0, a0), (3, a3), (11, a11), (12, a12), (13, a13), (15, (.bool true)), (16, (.int .i64 0))] h58).bind fun r59 h60 =>
 swashref05_Rows_l2k k call r59.1 r59.2 h60)
 (
 swashref05_Rows_j1 k call a0 a3 a11 a12 a13 v57 h58) := by kernel_rfl
theorem swashref05_Rows_j1_eq (k : Nat) (call : Caller) (a0 a3 a11 a12 a13 a60 : Value) (h : Heap) : swashref05_Rows_j1 k call a0 a3 a11 a12 a13 a60 h =
 .ok (.tuple #[a13, a11, (.bool true)]) h := by kernel_rfl
theorem swashref05_Rows_l2_eq (k : Nat) (call : Caller) (a0 a3 a11 a12 a13 a15 a16 : Value) (h : Heap) : swashref05_Rows_l2 k call [(0, a0), (3, a3), (11, a11), (12, a12), (13, a13), (15, a15), (16, a16)] h =
 (binR Prog .lss 3 a16 a3 h).bind fun v61 h62 =>
 condV (some v61) (
 ((bif wantVal a15 true then Res.ok a0 h62 else Res.ok undef h62)).bind fun v63 h64 =>
 ((bif wantVal a15 true then Res.ok a13 h64 else Res.ok undef h64)).bind fun v65 h66 =>
 ((bif wantVal a15 true then Res.ok a12 h66 else Res.ok undef h66)).bind fun v67 h68 =>
 ((bif wantVal a15 true then binR Prog .sub 3 v67 (.int .i64 1) h68 else Res.ok undef h68)).bind fun v69 h70 =>
 ((bif wantVal a15 true then indexAddrR Prog 28 v65 v69 h70 else Res.ok undef h70)).bind fun v71 h72 =>
 ((bif wantVal a15 true then loadR Prog 3 v71 h72 else Res.ok undef h72)).bind fun v73 h74 =>
 ((bif wantVal a15 true then Res.ok a16 h74 else Res.ok undef h74)).bind fun v75 h76 =>
 ((bif wantVal a15 true then binR Prog .mul 3 (.int .i64 2) v75 h76 else Res.ok undef h76)).bind fun v77 h78 =>
 ((bif wantVal a15 true then binR Prog .add 3 v73 v77 h78 else Res.ok undef h78)).bind fun v79 h80 =>
 ((bif wantVal a15 true then call F.swashref01_U [v63, v79, (.int .i64 2)] h80 else Res.ok undef h80)).bind fun v81 h82 =>
 ((bif wantVal a15 true then binR Prog .eql 3 v81 (.int .i64 65535) h82 else Res.ok undef h82)).bind fun v83 h84 =>
 (condV (some a15) (Res.ok v83 h84) (Res.ok (.bool false) h84)).bind fun v85 h86 =>
 (binR Prog .add 3 a16 (.int .i64 1) h86).bind fun v87 h88 =>
 .ok (.normal, [(0, a0), (3, a3), (11, a11), (12, a12), (13, a13), (15, v85), (16, v87)]) h88)
 (
 .ok ((.exit 2), [(0, a0), (3, a3), (11, a11), (12, a12), (13, a13), (15, a15), (16, a16), (63, v61)]) h62) :=
 (loopB_eq _ _).trans (by kernel_rfl)
theorem swashref05_Rows_l2k_x2 (k : Nat) (call : Caller) (a0 a3 a11 a12 a13 a15 a16 a63 : Value) (h : Heap) : swashref05_Rows_l2k k call (.exit 2) [(0, a0), (3, a3), (11, a11), (12, a12), (13, a13), (15, a15), (16, a16), (63, a63)] h =
 condV (some a15) (
 (binR Prog .sub 3 a12 (.int .i64 1) h).bind fun v89 h90 =>
 (sliceR Prog 28 a13 none (some v89) none h90).bind fun v91 h92 =>
 swashref05_Rows_j2 k call a11 v91 h92)
 (
 swashref05_Rows_j3 k call a11 a12 a13 a15 h) := by kernel_rfl
theorem swashref05_Rows_j2_eq (k : Nat) (call : Caller) (a11 a13 : Value) (h : Heap) : swashref05_Rows_j2 k call a11 a13 h =
 .ok (.tuple #[a13, a11, (.bool true)]) h := by kernel_rfl
theorem swashref05_Rows_j3_eq (k : Nat) (call : Caller) (a11 a12 a13 a80 : Value) (h : Heap) : swashref05_Rows_j3 k call a11 a12 a13 a80 h =
 .ok (.tuple #[a13, a11, (.bool true)]) h := by kernel_rfl
end
end Go.Sw
end
section
namespace Go.Sw
open Go.RowKit
def rowsO (b : List Int) (i need : Int) (keys : Nat) : Value := match takeS b i need keys with
 | some rows => .tuple #[lv encI (posS i (gU b i 2) rows.length), .int .i64 (gU b i 2), .bool true]
 | none => .tuple #[lv encI [], .int .i64 0, .bool false]
theorem rowsO_flat (b : List Int) (i need : Int) (keys : Nat) : Flat (rowsO b i need keys) := by
 unfold rowsO
 split
 ·exact .tupleL (.cons (Flat.I _) (.cons (.int _ _) (.cons (.bool _) .nil)))
 ·exact .tupleL (.cons (Flat.I _) (.cons (.int _ _) (.cons (.bool _) .nil)))
theorem inS_piece {b : List Int} {i n : Int} : (pieceS b i n).isSome = inS b.length i n := by
 unfold pieceS inS
 split
 ·rename_i h; rw [decide_eq_true h]; rfl
 ·rename_i h; rw [decide_eq_false h]; rfl
theorem uS_of_in {b : List Int} {i n : Int} (h : inS b.length i n = true) : ∃ x, uS b i n = some x := by
 rw [← inS_piece, Option.isSome_iff_exists] at h
 obtain ⟨r, hr⟩ := h
 exact ⟨num r, by unfold uS; rw [hr]; rfl⟩
theorem posS_take (i z : Int) (n j : Nat) (h : j ≤ n) : (posS i z n).take j = posS i z j := by
 unfold posS
 rw [← List.map_take, List.take_range, Nat.min_eq_left h]
theorem posS_snoc (i z : Int) (n : Nat) : posS i z (n + 1) = posS i z n ++ [i + 10 + z * (n : Nat)] := by simp [posS, List.range_succ]
theorem rows05_run (k : Nat) (b : List Int) (hb : Byt b) (i need : Int) (keys : Nat) (hl : b.length < 2 ^ 31) (hi0 : 0 ≤ i) (hi : i < 65536) (hneed : 0 < need) (hk : 2 * (keys : Int) ≤ need) (H : Heap) :
  R (T k) F.swashref05_Rows [lv encB b, .int .i64 i, .int .i64 need, .int .i64 keys] H = .ok (rowsO b i need keys) H := by
 rw [swashref05_Rows_R]
 have hU := fun j H' => refU_run k (H := H') (Sl.lv H' 1 b) hb j 2 (by omega) (by omega)
 have hIn := fun H' => refIn_run k b.length i 10 (by omega) (by omega) H'
 have hnil : ∃ L, fzV H.n H fzDepth (.tuple #[.slice none 0 0, .int .i64 0, .bool false]) = some (.tuple #[lv encI [], .int .i64 0, .bool false], L) := ⟨_, rfl⟩
 obtain ⟨L0, hnil⟩ := hnil
 have hno : takeS b i need keys = none → swashref05_Rows k (R (T k)) (lv encB b) (.int .i64 i) (.int .i64 need) (.int .i64 keys) H = .ok (.tuple #[.slice none 0 0, .int .i64 0, .bool false]) H → nrm .fz H (swashref05_Rows k (R (T k)) (lv encB b) (.int .i64 i) (.int .i64 need) (.int .i64 keys) H) = .ok (rowsO b i need keys) H := fun h1 h2 => by
  have fl := rowsO_flat b i need keys
  unfold rowsO at fl ⊢
  rw [h1] at fl ⊢
  exact nrm_fz h2 hnil (Ext.refl H) fl.alive
 cases hin : inS b.length i 10 with
 | false =>
  have hp : pieceS b i 10 = none := by
   have := inS_piece (b := b) (i := i) (n := 10)
   rw [hin] at this
   simpa using this
  refine hno (by unfold takeS; rw [hp]; split <;> simp) ?_
  rw [hin] at hIn
  have hg1 : -1 ≤ (uS b i 2).getD (-1) ∧ (uS b i 2).getD (-1) < 65536 := gU_two hb i
  have hg2 : -1 ≤ (uS b (i + 2) 2).getD (-1) ∧ (uS b (i + 2) 2).getD (-1) < 65536 := gU_two hb (i + 2)
  simp -implicitDefEqProofs (disch := omega) [swashref05_Rows, hU, hIn]
 | true =>
  rw [hin] at hIn
  have hin' : 0 ≤ i ∧ 0 ≤ (10 : Int) ∧ i ≤ b.length ∧ 10 ≤ b.length - i := of_decide_eq_true hin
  obtain ⟨z, hz⟩ := uS_of_in (b := b) (i := i) (n := 2) (by unfold inS; exact decide_eq_true (by omega))
  obtain ⟨n, hn⟩ := uS_of_in (b := b) (i := i + 2) (n := 2) (by unfold inS; exact decide_eq_true (by omega))
  have hz2 := uS_two hb hz
  have hn2 := uS_two hb hn
  have hu1 := fun H' => hU i H'
  have hu2 := fun H' => hU (i + 2) H'
  rw [hz] at hu1
  rw [hn] at hu2
  simp only [Option.getD_some] at hu1 hu2
  have hpc : (pieceS b i 10).isSome = true := by rw [inS_piece]; exact hin
  by_cases hnz : need ≤ z
  rotate_left
  ·refine hno (by unfold takeS; rw [hz, hn]; simp [hnz]) ?_
   have : z < need := by omega
   simp -implicitDefEqProofs (disch := omega) [swashref05_Rows, hu1, hu2, hIn, this]
  have hnz' : ¬ z < need := by omega
  have hRows := fun H' => refRows_run k b.length (i + 10) n z (by omega) (by omega) H'
  cases hrb : rowsB b.length (i + 10) n z with
  | false =>
   have hrs : rowsS b (i + 10) n z = none := by
    cases h : rowsS b (i + 10) n z with
    | none => rfl
    | some r =>
     have := (rowsB_iff (by omega)).2 ((rowsS_iff (by omega)).1 h).1
     rw [hrb] at this; cases this
   rw [hrb] at hRows
   refine hno (by unfold takeS; rw [hz, hn]; simp [hrs]) ?_
   simp -implicitDefEqProofs (disch := omega) [swashref05_Rows, hu1, hu2, hIn, hnz', hRows]
  | true =>
   rw [hrb] at hRows
   have hrs := (rowsS_iff (r := (b.drop (i + 10).toNat).take (n * z).toNat) (by omega)).2 ⟨(rowsB_iff (by omega)).1 hrb, rfl⟩
   obtain ⟨r, hr⟩ : ∃ r, r = (b.drop (i + 10).toNat).take (n * z).toNat := ⟨_, rfl⟩
   rw [← hr] at hrs
   have htake : takeS b i need keys = some (endRows r z.toNat n.toNat keys) := by unfold takeS; rw [hz, hn]; simp [hpc, hnz, hrs]
   obtain ⟨n, rfl⟩ := Int.eq_ofNat_of_zero_le hn2.1
   have hzn : (z.toNat : Int) = z := by omega
   -- the rows' places
   obtain ⟨x, e', H1, hr1, rfl, ⟨a, s, rfl, ho⟩, hx⟩ := loop_up (body := swashref05_Rows_l1 k (R (T k))) n
    (fun j e H' => (∃ s, e = [(0, lv encB b), (1, .int .i64 i), (3, .int .i64 keys), (11, .int .i64 z), (12, .int .i64 n), (13, s), (14, .int .i64 j)] ∧ Own H H' 1 s encI (posS i z j)) ∧ Ext H H')
    (fun x e H' => x = .exit 0 ∧ (∃ a s, e = [(0, lv encB b), (1, .int .i64 i), (3, .int .i64 keys), (11, .int .i64 z), (12, .int .i64 n), (13, s), (14, .int .i64 n), (47, a)] ∧ Own H H' 1 s encI (posS i z n)) ∧ Ext H H')
    (e0 := [(0, lv encB b), (1, .int .i64 i), (3, .int .i64 keys), (11, .int .i64 z), (12, .int .i64 n), (13, bareV), (14, .int .i64 0)]) (H0 := H) ⟨⟨_, rfl, Own.bare _ _ _⟩, Ext.refl H⟩ (by omega)
    (fun j e H' hj ⟨⟨s, he, ho⟩, hx⟩ => by
     subst he
     have hlt : (j : Int) < n := by omega
     have hjz : (j : Int) * z ≤ 65536 * 65536 := Int.mul_le_mul (by omega) (by omega) (by omega) (by omega)
     have hjz0 : 0 ≤ (j : Int) * z := Int.mul_nonneg (by omega) (by omega)
     obtain ⟨s2, H2, e2, o2, x2⟩ := ap1_own (bytes := 8) encI_len ho hx (i + 10 + z * (j : Nat)) (by simp; omega) (by decide)
     rw [← posS_snoc] at o2
     rw [Int.mul_comm z] at e2
     refine .inl ⟨_, H2, ?_, ⟨s2, rfl, o2⟩, x2⟩
     rw [swashref05_Rows_l1_eq]
     simp -implicitDefEqProofs (disch := omega) [hlt, e2])
    (fun e H' ⟨⟨s, he, ho⟩, hx⟩ => by
     subst he
     refine ⟨.exit 0, _, H', ?_, by simp, rfl, ⟨.bool false, s, rfl, ho⟩, hx⟩
     rw [swashref05_Rows_l1_eq]
     simp -implicitDefEqProofs)
   have hgu : gU b i 2 = z := gU_some hz
   have fl := rowsO_flat b i need keys
   unfold rowsO at fl ⊢
   rw [htake, hgu] at fl ⊢
   dsimp only at fl ⊢
   by_cases hn0 : n = 0
   ·subst hn0
    obtain ⟨L, hf⟩ := ho.freeze encI_len (encI_still _) 5
    have e2 : (endRows r z.toNat (Int.toNat ((0 : Nat) : Int)) keys).length = 0 := by simp [endRows]
    rw [e2] at fl ⊢
    refine nrm_fz (v := .tuple #[s, .int .i64 z, .bool true]) (H' := H1) ?_ (fz_tuple (l := [s, .int .i64 z, .bool true]) (mapF_cons hf (mapF_cons (L1 := []) rfl (mapF_one (L := []) rfl)))) hx fl.alive
    simp at hr1 hRows
    simp -implicitDefEqProofs (disch := omega) [swashref05_Rows, hu1, hu2, hIn, hnz', hRows, hr1, swashref05_Rows_l1k_x0, swashref05_Rows_j1_eq]
   ·have hgt : 0 < n := by omega
    obtain ⟨z, rfl⟩ := Int.eq_ofNat_of_zero_le hz2.1
    simp only [Int.toNat_natCast] at *
    have hrow := rowsS_row hrs (j := n - 1) (by omega)
    obtain ⟨row, hrowd⟩ : ∃ row, row = (r.drop (z * (n - 1))).take z := ⟨_, rfl⟩
    rw [← hrowd] at hrow
    have hlast := posS_get i z n (n - 1) (by omega)
    obtain ⟨bk, hsk, hbk, hgk, _⟩ := ixS_own ho .i64 (n - 1) (by simp; omega) H1
    rw [posS_len] at hsk
    have hixk : ∀ H'', ixS 1 s (.int .i64 ((n : Int) - 1)) H'' = .ok (.pointer (some ⟨bk, (n - 1) * 1, none⟩)) H'' := fun H'' => by
     rw [hsk, show ((n : Int) - 1) = ((n - 1 : Nat) : Int) by omega]
     have := ixS_slice 1 bk 0 n n .i64 (n - 1) H'' (by omega)
     simpa using this
    have hld := ld1_row encI_len hgk (c := 0) hlast (by decide) rfl
    simp only [Nat.add_zero, Nat.mul_one] at hld hixk
    have hp0 : 0 ≤ i + 10 + (z : Int) * ((n - 1 : Nat) : Int) ∧ i + 10 + (z : Int) * ((n - 1 : Nat) : Int) < 2 ^ 34 := by
     have := Int.mul_nonneg (show (0 : Int) ≤ z by omega) (show (0 : Int) ≤ ((n - 1 : Nat) : Int) by omega)
     have : (z : Int) * ((n - 1 : Nat) : Int) ≤ 65536 * 65536 := Int.mul_le_mul (by omega) (by omega) (by omega) (by omega)
     omega
    generalize i + 10 + (z : Int) * ((n - 1 : Nat) : Int) = p at hrow hld hp0
    obtain ⟨x, e', H2, hr2, rfl, rfl, a2, rfl⟩ := loop_up (body := swashref05_Rows_l2 k (R (T k))) keys
     (fun j e H' => H' = H1 ∧ e = [(0, lv encB b), (3, .int .i64 keys), (11, .int .i64 z), (12, .int .i64 n), (13, s), (15, .bool ((List.range j).all fun q => uS row (2 * q) 2 == some 65535)), (16, .int .i64 j)])
     (fun x e H' => H' = H1 ∧ x = .exit 2 ∧ ∃ a, e = [(0, lv encB b), (3, .int .i64 keys), (11, .int .i64 z), (12, .int .i64 n), (13, s), (15, .bool (noneS row keys)), (16, .int .i64 keys), (63, a)])
     (e0 := [(0, lv encB b), (3, .int .i64 keys), (11, .int .i64 z), (12, .int .i64 n), (13, s), (15, .bool true), (16, .int .i64 0)]) (H0 := H1) ⟨rfl, rfl⟩ (by omega)
     (fun j e H' hj ⟨hH, he⟩ => by
      subst he hH
      have hlt : (j : Int) < keys := by omega
      refine .inl ⟨_, _, ?_, rfl, rfl⟩
      rw [swashref05_Rows_l2_eq, List.range_succ, List.all_append]
      cases hall : (List.range j).all fun q => uS row (2 * q) 2 == some 65535 with
      | false => simp -implicitDefEqProofs (disch := omega) [hlt]
      | true =>
       have hsub := uS_sub hrow (x := 2 * j) (y := 2) (by omega) (by omega) (by omega)
       have hu := hU (p + 2 * j)
       rw [← hsub] at hu
       obtain ⟨y, hy⟩ : ∃ y, uS row (2 * j) 2 = some y := by
        obtain ⟨y, hy⟩ := (row_two hrow (x := 2 * j) (y := 2) (by omega) (by omega) (by omega)).2
        exact ⟨y, by rw [hsub, hy]⟩
       rw [hy] at hu
       simp -implicitDefEqProofs (disch := omega) [hlt]
       rw [hixk]
       simp -implicitDefEqProofs (disch := omega) [hlt, hld, hu, hy])
     (fun e H' ⟨hH, he⟩ => by
      subst he hH
      refine ⟨.exit 2, _, _, ?_, by simp, rfl, rfl, .bool false, rfl⟩
      rw [swashref05_Rows_l2_eq]
      simp -implicitDefEqProofs [noneS])
    obtain ⟨bf, L, hsf, hf⟩ := ho.freeze_take encI_len (encI_still _) 5 (endRows r z n keys).length (by unfold endRows; split <;> simp) (by simp; omega)
    rw [posS_len] at hsf
    have hbf : bk = bf := by rw [hsk] at hsf; simpa using hsf
    subst hbf
    rw [posS_take _ _ _ _ (by unfold endRows; split <;> simp)] at hf
    cases hno : noneS row keys with
    | false =>
     rw [hno] at hr2
     have e2 : (endRows r z n keys).length = n := by unfold endRows; rw [← hrowd, hno]; simp
     rw [e2] at hf fl ⊢
     refine nrm_fz (v := .tuple #[s, .int .i64 z, .bool true]) (H' := H2) ?_ (fz_tuple (l := [s, .int .i64 z, .bool true]) (mapF_cons (by rw [hsk]; exact hf n) (mapF_cons (L1 := []) rfl (mapF_one (L := []) rfl)))) hx fl.alive
     simp -implicitDefEqProofs (disch := omega) [swashref05_Rows, hu1, hu2, hIn, hnz', hRows, hr1, swashref05_Rows_l1k_x0, hgt, hr2, swashref05_Rows_l2k_x2, swashref05_Rows_j3_eq]
    | true =>
     rw [hno] at hr2
     have e2 : (endRows r z n keys).length = n - 1 := by unfold endRows; rw [← hrowd, hno, if_pos ⟨by omega, rfl⟩]; simp
     rw [e2] at hf fl ⊢
     have hsl := slS_own hgk .i64 (n - 1) (by simp)
     rw [posS_len, show (((n - 1 : Nat)) : Int) = (n : Int) - 1 by omega] at hsl
     refine nrm_fz (v := .tuple #[.slice (some ⟨bk, 0, none⟩) (n - 1) n, .int .i64 z, .bool true]) (H' := H2) ?_ (fz_tuple (l := [.slice (some ⟨bk, 0, none⟩) (n - 1) n, .int .i64 z, .bool true]) (mapF_cons (hf n) (mapF_cons (L1 := []) rfl (mapF_one (L := []) rfl)))) hx fl.alive
     subst hsk
     simp -implicitDefEqProofs (disch := omega) [swashref05_Rows, hu1, hu2, hIn, hnz', hRows, hr1, swashref05_Rows_l1k_x0, hgt, hr2, swashref05_Rows_l2k_x2, hsl, swashref05_Rows_j2_eq]
end Go.Sw
end
section
set_option maxRecDepth 100000
set_option linter.unusedVariables false
namespace Go.Sw
noncomputable section
def swashref06_Read_l1 (k : Nat) (call : Caller) : Env → Heap → Res (AExit × Env) := loopB (C k) call F.swashref06_Read [1, 1, 0, 1, 0, 0]
def swashref06_Read_l1k (k : Nat) (call : Caller) : Kont Value := kBlock 0 (kSeq (pieceK (C k) call F.swashref06_Read [1, 1, 1]) (kDone Prog (resOf Prog F.swashref06_Read)))
def swashref06_Read_j1 (k : Nat) (call : Caller) (a0 a6 a8 a9 a10 : Value) (h : Heap) : Res (AExit × Env) :=
 kSeq (pieceK (C k) call F.swashref06_Read [1, 1, 0, 1, 0, 0, 1, 1]) (kRound (ownOf (C k) F.swashref06_Read [1, 1, 0, 1, 0, 0])) .normal [(0, a0), (6, a6), (8, a8), (9, a9), (10, a10)] h
def swashref06_Read_j2 (k : Nat) (call : Caller) (a0 a6 a8 a9 a10 a52 : Value) (h : Heap) : Res (AExit × Env) :=
 kSeq (pieceK (C k) call F.swashref06_Read [1, 1, 0, 1, 0, 0, 1, 1]) (kRound (ownOf (C k) F.swashref06_Read [1, 1, 0, 1, 0, 0])) .normal [(0, a0), (6, a6), (8, a8), (9, a9), (10, a10), (52, a52)] h
def swashref06_Read (k : Nat) (call : Caller) (a0 a1 a2 : Value) (h : Heap) : Res Value :=
 (allocR Prog 88 h).bind fun v1 h2 =>
 (call F.swashref06_parts [a0, a1, a2] h2).bind fun v3 h4 =>
 (extractR v3 0 h4).bind fun v5 h6 =>
 (extractR v3 1 h6).bind fun v7 h8 =>
 (loopN (swashref06_Read_l1 k call) loopFuel [(0, a0), (6, v1), (8, v5), (9, v7), (10, (.int .i64 0))] h8).bind fun r9 h10 =>
 swashref06_Read_l1k k call r9.1 r9.2 h10
theorem swashref06_Read_R (k : Nat) (a0 a1 a2 : Value) (h : Heap) : R (T k) F.swashref06_Read [a0, a1, a2] h = nrm .fz h (swashref06_Read k (R (T k)) a0 a1 a2 h) :=
 (R_body (t := T k) (T_scott k) (by kernel_rfl) (by kernel_rfl) _ _).trans (by kernel_rfl)
theorem swashref06_Read_l1_eq (k : Nat) (call : Caller) (a0 a6 a8 a9 a10 : Value) (h : Heap) : swashref06_Read_l1 k call [(0, a0), (6, a6), (8, a8), (9, a9), (10, a10)] h =
 (builtinV Prog .len [86] [a8] h).bind fun v11 h12 =>
 (binR Prog .lss 3 a10 v11 h12).bind fun v13 h14 =>
 condV (some v13) (
 (indexAddrR Prog 86 a8 a10 h14).bindN fun v15 h16 =>
 (fieldAddrR Prog 244 v15 0 h16).bindN fun v17 h18 =>
 (loadR Prog 3 v17 h18).bindN fun v19 h20 =>
 (indexAddrR Prog 86 a8 a10 h20).bindN fun v21 h22 =>
 (fieldAddrR Prog 244 v21 1 h22).bindN fun v23 h24 =>
 (loadR Prog 3 v23 h24).bindN fun v25 h26 =>
 (binR Prog .gtr 3 v19 v25 h26).bindN fun v27 h28 =>
 ((bif wantVal v27 false then Res.ok a10 h28 else Res.ok undef h28)).bindN fun v29 h30 =>
 ((bif wantVal v27 false then binR Prog .gtr 3 v29 (.int .i64 0) h30 else Res.ok undef h30)).bindN fun v31 h32 =>
 ((bif wantVal v27 false then Res.ok v31 h32 else Res.ok undef h32)).bindN fun v33 h34 =>
 ((bif wantVal v33 true then Res.ok a8 h34 else Res.ok undef h34)).bindN fun v35 h36 =>
 ((bif wantVal v33 true then Res.ok a10 h36 else Res.ok undef h36)).bindN fun v37 h38 =>
 ((bif wantVal v33 true then binR Prog .sub 3 v37 (.int .i64 1) h38 else Res.ok undef h38)).bindN fun v39 h40 =>
 ((bif wantVal v33 true then indexAddrR Prog 86 v35 v39 h40 else Res.ok undef h40)).bindN fun v41 h42 =>
 ((bif wantVal v33 true then fieldAddrR Prog 244 v41 1 h42 else Res.ok undef h42)).bindN fun v43 h44 =>
 ((bif wantVal v33 true then loadR Prog 3 v43 h44 else Res.ok undef h44)).bindN fun v45 h46 =>
 ((bif wantVal v33 true then Res.ok a8 h46 else Res.ok undef h46)).bindN fun v47 h48 =>
 ((bif wantVal v33 true then Res.ok a10 h48 else Res.ok undef h48)).bindN fun v49 h50 =>
 ((bif wantVal v33 true then indexAddrR Prog 86 v47 v49 h50 else Res.ok undef h50)).bindN fun v51 h52 =>
 ((bif wantVal v33 true then fieldAddrR Prog 244 v51 0 h52 else Res.ok undef h52)).bindN fun v53 h54 =>
 ((bif wantVal v33 true then loadR Prog 3 v53 h54 else Res.ok undef h54)).bindN fun v55 h56 =>
 ((bif wantVal v33 true then binR Prog .geq 3 v45 v55 h56 else Res.ok undef h56)).bindN fun v57 h58 =>
 ((bif wantVal v27 false then condV (some v33) (Res.ok v57 h58) (Res.ok (.bool false) h58) else Res.ok undef h58)).bindN fun v59 h60 =>
 (condV (some v27) (Res.ok (.bool true) h60) (Res.ok v59 h60)).bindN fun v61 h62 =>
 condV (some v61) (
 swashref06_Read_j1 k call a0 a6 a8 (.bool false) a10 h62)
 (
 swashref06_Read_j2 k call a0 a6 a8 a9 a10 v61 h62))
 (
 .ok ((.exit 0), [(0, a0), (6, a6), (8, a8), (9, a9), (10, a10), (21, v13)]) h14) :=
 (loopB_eq _ _).trans (by kernel_rfl)
theorem swashref06_Read_j1_eq (k : Nat) (call : Caller) (a0 a6 a8 a9 a10 : Value) (h : Heap) : swashref06_Read_j1 k call a0 a6 a8 a9 a10 h =
 (binR Prog .add 3 a10 (.int .i64 1) h).bind fun v63 h64 =>
 .ok (.normal, [(0, a0), (6, a6), (8, a8), (9, a9), (10, v63)]) h64 := by kernel_rfl
theorem swashref06_Read_j2_eq (k : Nat) (call : Caller) (a0 a6 a8 a9 a10 a52 : Value) (h : Heap) : swashref06_Read_j2 k call a0 a6 a8 a9 a10 a52 h =
 (binR Prog .add 3 a10 (.int .i64 1) h).bind fun v65 h66 =>
 .ok (.normal, [(0, a0), (6, a6), (8, a8), (9, a9), (10, v65)]) h66 := by kernel_rfl
theorem swashref06_Read_l1k_x0 (k : Nat) (call : Caller) (a0 a6 a8 a9 a10 a21 : Value) (h : Heap) : swashref06_Read_l1k k call (.exit 0) [(0, a0), (6, a6), (8, a8), (9, a9), (10, a10), (21, a21)] h =
 (unR .not a9 h).bind fun v67 h68 =>
 condV (some v67) (
 (buildR Prog 88 [] h68).bind fun v69 h70 =>
 (storeR Prog 88 a6 v69 h70).bind fun _v71 h72 =>
 (loadR Prog 88 a6 h72).bind fun v73 h74 =>
 .ok (.tuple #[v73, (.bool false)]) h74)
 (
 (buildR Prog 88 [(0, a0), (1, a8)] h68).bind fun v75 h76 =>
 (storeR Prog 88 a6 v75 h76).bind fun _v77 h78 =>
 (loadR Prog 88 a6 h78).bind fun v79 h80 =>
 .ok (.tuple #[v79, (.bool true)]) h80) := by kernel_rfl
def swashref06_parts_l1 (k : Nat) (call : Caller) : Env → Heap → Res (AExit × Env) := loopB (C k) call F.swashref06_parts [1, 0, 1, 0, 1, 1, 1, 1, 1, 1, 1, 0, 1, 1, 0, 1, 0, 0]
def swashref06_parts_l1k (k : Nat) (call : Caller) : Kont Value := kBlock 1 (kSeq (pieceK (C k) call F.swashref06_parts [1, 0, 1, 0, 1, 1, 1, 1, 1, 1, 1, 0, 1, 1, 1]) (kBlock 0 (kSeq (pieceK (C k) call F.swashref06_parts [1, 1]) (kDone Prog (resOf Prog F.swashref06_parts)))))
def swashref06_parts (k : Nat) (call : Caller) (a0 a1 a2 : Value) (h : Heap) : Res Value :=
 (call F.swashref01_U [a0, (.int .i64 0), (.int .i64 2)] h).bind fun v1 h2 =>
 (binR Prog .eql 3 v1 (.int .i64 0) h2).bind fun v3 h4 =>
 condV (some v3) (
 (binR Prog .sub 3 a1 (.int .i64 1) h4).bind fun v5 h6 =>
 (buildR Prog 244 [(0, (.int .i64 0)), (1, v5), (2, (.int .i64 2)), (3, a2), (4, a2)] h6).bind fun v7 h8 =>
 (buildSliceR Prog 86 1 [(0, v7)] h8).bind fun v9 h10 =>
 (builtinV Prog .len [65] [a0] h10).bind fun v11 h12 =>
 (call F.swashref01_Rows [v11, (.int .i64 2), a1, a2] h12).bind fun v13 h14 =>
 .ok (.tuple #[v9, v13]) h14)
 (
 (binR Prog .eql 3 v1 (.int .i64 2) h4).bind fun v15 h16 =>
 condV (some v15) (
 (call F.swashref06_segments [a0, a2, (.bool false)] h16).bind fun v17 h18 =>
 (extractR v17 0 h18).bind fun v19 h20 =>
 (extractR v17 1 h20).bind fun v21 h22 =>
 .ok (.tuple #[v19, v21]) h22)
 (
 (binR Prog .eql 3 v1 (.int .i64 4) h16).bind fun v23 h24 =>
 condV (some v23) (
 (call F.swashref06_segments [a0, a2, (.bool true)] h24).bind fun v25 h26 =>
 (extractR v25 0 h26).bind fun v27 h28 =>
 (extractR v25 1 h28).bind fun v29 h30 =>
 .ok (.tuple #[v27, v29]) h30)
 (
 (binR Prog .eql 3 v1 (.int .i64 6) h24).bind fun v31 h32 =>
 condV (some v31) (
 (binR Prog .add 3 (.int .i64 2) a2 h32).bind fun v33 h34 =>
 (call F.swashref05_Rows [a0, (.int .i64 2), v33, (.int .i64 1)] h34).bind fun v35 h36 =>
 (extractR v35 0 h36).bind fun v37 h38 =>
 (extractR v35 1 h38).bind fun v39 h40 =>
 (extractR v35 2 h40).bind fun v41 h42 =>
 (buildSliceR Prog 86 0 [] h42).bind fun v43 h44 =>
 (loopN (swashref06_parts_l1 k call) loopFuel [(0, a0), (2, a2), (8, v37), (10, v41), (11, v43), (12, (.int .i64 0))] h44).bind fun r45 h46 =>
 swashref06_parts_l1k k call r45.1 r45.2 h46)
 (
 (binR Prog .eql 3 v1 (.int .i64 8) h32).bind fun v47 h48 =>
 condV (some v47) (
 (call F.swashref06_trimmed [a0, (.int .i64 2), a2] h48).bind fun v49 h50 =>
 (extractR v49 0 h50).bind fun v51 h52 =>
 (extractR v49 1 h52).bind fun v53 h54 =>
 .ok (.tuple #[v51, v53]) h54)
 (
 (binR Prog .eql 3 v1 (.int .i64 10) h48).bind fun v55 h56 =>
 condV (some v55) (
 (call F.swashref01_U [a0, (.int .i64 2), (.int .i64 2)] h56).bind fun v57 h58 =>
 (binR Prog .neq 3 v57 (.int .i64 1) h58).bind fun v59 h60 =>
 ((bif wantVal v59 true then Res.ok v57 h60 else Res.ok undef h60)).bind fun v61 h62 =>
 ((bif wantVal v59 true then binR Prog .neq 3 v61 (.int .i64 2) h62 else Res.ok undef h62)).bind fun v63 h64 =>
 (condV (some v59) (Res.ok v63 h64) (Res.ok (.bool false) h64)).bind fun v65 h66 =>
 ((bif wantVal v65 true then Res.ok v57 h66 else Res.ok undef h66)).bind fun v67 h68 =>
 ((bif wantVal v65 true then binR Prog .neq 3 v67 (.int .i64 4) h68 else Res.ok undef h68)).bind fun v69 h70 =>
 (condV (some v65) (Res.ok v69 h70) (Res.ok (.bool false) h70)).bind fun v71 h72 =>
 condV (some v71) (
 .ok (.tuple #[(.slice none 0 0), (.bool false)]) h72)
 (
 (call F.swashref06_trimmed [a0, (.int .i64 4), v57] h72).bind fun v73 h74 =>
 (extractR v73 0 h74).bind fun v75 h76 =>
 (extractR v73 1 h76).bind fun v77 h78 =>
 .ok (.tuple #[v75, v77]) h78))
 (
 .ok (.tuple #[(.slice none 0 0), (.bool false)]) h56))))))
theorem swashref06_parts_R (k : Nat) (a0 a1 a2 : Value) (h : Heap) : R (T k) F.swashref06_parts [a0, a1, a2] h = nrm .fz h (swashref06_parts k (R (T k)) a0 a1 a2 h) :=
 (R_body (t := T k) (T_scott k) (by kernel_rfl) (by kernel_rfl) _ _).trans (by kernel_rfl)
theorem swashref06_parts_l1_eq (k : Nat) (call : Caller) (a0 a2 a8 a10 a11 a12 : Value) (h : Heap) : swashref06_parts_l1 k call [(0, a0), (2, a2), (8, a8), (10, a10), (11, a11), (12, a12)] h =
 (builtinV Prog .len [28] [a8] h).bind fun v79 h80 =>
 (binR Prog .lss 3 a12 v79 h80).bind fun v81 h82 =>
 condV (some v81) (
 (indexAddrR Prog 28 a8 a12 h82).bind fun v83 h84 =>
 (loadR Prog 3 v83 h84).bind fun v85 h86 =>
 (call F.swashref01_U [a0, v85, (.int .i64 2)] h86).bind fun v87 h88 =>
 (indexAddrR Prog 28 a8 a12 h88).bind fun v89 h90 =>
 (loadR Prog 3 v89 h90).bind fun v91 h92 =>
 (binR Prog .add 3 v91 (.int .i64 2) h92).bind fun v93 h94 =>
 (buildR Prog 244 [(0, v87), (1, v87), (2, v93), (3, a2)] h94).bind fun v95 h96 =>
 (buildSliceR Prog 86 1 [(0, v95)] h96).bind fun v97 h98 =>
 (builtinV Prog .append [86, 86] [a11, v97] h98).bind fun v99 h100 =>
 (binR Prog .add 3 a12 (.int .i64 1) h100).bind fun v101 h102 =>
 .ok (.normal, [(0, a0), (2, a2), (8, a8), (10, a10), (11, v99), (12, v101)]) h102)
 (
 .ok ((.exit 1), [(0, a0), (2, a2), (8, a8), (10, a10), (11, a11), (12, a12), (58, v81)]) h82) :=
 (loopB_eq _ _).trans (by kernel_rfl)
theorem swashref06_parts_l1k_x1 (k : Nat) (call : Caller) (a0 a2 a8 a10 a11 a12 a58 : Value) (h : Heap) : swashref06_parts_l1k k call (.exit 1) [(0, a0), (2, a2), (8, a8), (10, a10), (11, a11), (12, a12), (58, a58)] h =
 .ok (.tuple #[a11, a10]) h := by kernel_rfl
def swashref06_segments_j1 (k : Nat) (call : Caller) (a0 a1 a2 a8 : Value) (h : Heap) : Res Value :=
 kSeq (pieceK (C k) call F.swashref06_segments [1, 1, 1]) (kDone Prog (resOf Prog F.swashref06_segments)) .normal [(0, a0), (1, a1), (2, a2), (8, a8)] h
def swashref06_segments_j2 (k : Nat) (call : Caller) (a0 a1 a2 a8 a17 : Value) (h : Heap) : Res Value :=
 kSeq (pieceK (C k) call F.swashref06_segments [1, 1, 1]) (kDone Prog (resOf Prog F.swashref06_segments)) .normal [(0, a0), (1, a1), (2, a2), (8, a8), (17, a17)] h
def swashref06_segments_l1 (k : Nat) (call : Caller) : Env → Heap → Res (AExit × Env) := loopB (C k) call F.swashref06_segments [1, 1, 1, 1, 1, 0, 1, 0, 0]
def swashref06_segments_l1k (k : Nat) (call : Caller) : Kont Value := kBlock 0 (kSeq (pieceK (C k) call F.swashref06_segments [1, 1, 1, 1, 1, 1]) (kDone Prog (resOf Prog F.swashref06_segments)))
def swashref06_segments_j3 (k : Nat) (call : Caller) (a0 a1 a2 a9 a11 a12 a13 a14 : Value) (h : Heap) : Res (AExit × Env) :=
 kSeq (pieceK (C k) call F.swashref06_segments [1, 1, 1, 1, 1, 0, 1, 0, 0, 1, 0, 0, 1, 1]) (kBlock 1 (kSeq (pieceK (C k) call F.swashref06_segments [1, 1, 1, 1, 1, 0, 1, 0, 0, 1, 1]) (kRound (ownOf (C k) F.swashref06_segments [1, 1, 1, 1, 1, 0, 1, 0, 0])))) .normal [(0, a0), (1, a1), (2, a2), (9, a9), (11, a11), (12, a12), (13, a13), (14, a14)] h
def swashref06_segments_j4 (k : Nat) (call : Caller) (a0 a1 a2 a9 a11 a12 a13 a14 a55 : Value) (h : Heap) : Res (AExit × Env) :=
 kSeq (pieceK (C k) call F.swashref06_segments [1, 1, 1, 1, 1, 0, 1, 0, 0, 1, 0, 0, 1, 1]) (kBlock 1 (kSeq (pieceK (C k) call F.swashref06_segments [1, 1, 1, 1, 1, 0, 1, 0, 0, 1, 1]) (kRound (ownOf (C k) F.swashref06_segments [1, 1, 1, 1, 1, 0, 1, 0, 0])))) .normal [(0, a0), (1, a1), (2, a2), (9, a9), (11, a11), (12, a12), (13, a13), (14, a14), (55, a55)] h
def swashref06_segments (k : Nat) (call : Caller) (a0 a1 a2 : Value) (h : Heap) : Res Value :=
 (binR Prog .add 3 (.int .i64 4) a1 h).bind fun v1 h2 =>
 condV (some a2) (
 swashref06_segments_j1 k call a0 a1 a2 (.int .i64 6) h2)
 (
 swashref06_segments_j2 k call a0 a1 a2 v1 a2 h2)
theorem swashref06_segments_R (k : Nat) (a0 a1 a2 : Value) (h : Heap) : R (T k) F.swashref06_segments [a0, a1, a2] h = nrm .fz h (swashref06_segments k (R (T k)) a0 a1 a2 h) :=
 (R_body (t := T k) (T_scott k) (by kernel_rfl) (by kernel_rfl) _ _).trans (by kernel_rfl)
theorem swashref06_segments_j1_eq (k : Nat) (call : Caller) (a0 a1 a2 a8 : Value) (h : Heap) : swashref06_segments_j1 k call a0 a1 a2 a8 h =
 (call F.swashref05_Rows [a0, (.int .i64 2), a8, (.int .i64 2)] h).bind fun v3 h4 =>
 (extractR v3 0 h4).bind fun v5 h6 =>
 (extractR v3 1 h6).bind fun v7 h8 =>
 (extractR v3 2 h8).bind fun v9 h10 =>
 (buildSliceR Prog 86 0 [] h10).bind fun v11 h12 =>
 (loopN (swashref06_segments_l1 k call) loopFuel [(0, a0), (1, a1), (2, a2), (9, v5), (11, v9), (12, v11), (13, (.int .i64 0))] h12).bind fun r13 h14 =>
 swashref06_segments_l1k k call r13.1 r13.2 h14 := by kernel_rfl
theorem swashref06_segments_j2_eq (k : Nat) (call : Caller) (a0 a1 a2 a8 a17 : Value) (h : Heap) : swashref06_segments_j2 k call a0 a1 a2 a8 a17 h =
 (call F.swashref05_Rows [a0, (.int .i64 2), a8, (.int .i64 2)] h).bind fun v15 h16 =>
 (extractR v15 0 h16).bind fun v17 h18 =>
 (extractR v15 1 h18).bind fun v19 h20 =>
 (extractR v15 2 h20).bind fun v21 h22 =>
 (buildSliceR Prog 86 0 [] h22).bind fun v23 h24 =>
 (loopN (swashref06_segments_l1 k call) loopFuel [(0, a0), (1, a1), (2, a2), (9, v17), (11, v21), (12, v23), (13, (.int .i64 0))] h24).bind fun r25 h26 =>
 swashref06_segments_l1k k call r25.1 r25.2 h26 := by kernel_rfl
theorem swashref06_segments_l1_eq (k : Nat) (call : Caller) (a0 a1 a2 a9 a11 a12 a13 : Value) (h : Heap) : swashref06_segments_l1 k call [(0, a0), (1, a1), (2, a2), (9, a9), (11, a11), (12, a12), (13, a13)] h =
 (builtinV Prog .len [28] [a9] h).bind fun v27 h28 =>
 (binR Prog .lss 3 a13 v27 h28).bind fun v29 h30 =>
 ((bif wantVal v29 true then Res.ok a11 h30 else Res.ok undef h30)).bind fun v31 h32 =>
 (condV (some v29) (Res.ok v31 h32) (Res.ok (.bool false) h32)).bind fun v33 h34 =>
 condV (some v33) (
 (indexAddrR Prog 28 a9 a13 h34).bindN fun v35 h36 =>
 (loadR Prog 3 v35 h36).bindN fun v37 h38 =>
 (binR Prog .add 3 v37 (.int .i64 2) h38).bindN fun v39 h40 =>
 (call F.swashref01_U [a0, v39, (.int .i64 2)] h40).bindT (fun p43 h44 => (indexAddrR Prog 28 a9 a13 h40).bindN fun v45 h46 => (loadR Prog 3 v45 h46).bindN fun v47 h48 => (indexAddrR Prog 28 a9 a13 h48).bindN fun v49 h50 => (loadR Prog 3 v49 h50).bindN fun v51 h52 => (binR Prog .add 3 v51 (.int .i64 4) h52).bindN fun v53 h54 => (allocR Prog 244 h54).bindN fun v55 h56 => chkR ((okVal (loadR Prog 3 v45 h34) v47 && true) && ((okVal (loadR Prog 3 v49 h34) v51 && (okVal (loadR Prog 3 v49 h56) v51 && true)) && true)) (.panic p43 h44)) fun v41 h42 =>
 (indexAddrR Prog 28 a9 a13 h42).bindN fun v57 h58 =>
 (loadR Prog 3 v57 h58).bindN fun v59 h60 =>
 (call F.swashref01_U [a0, v59, (.int .i64 2)] h60).bindT (fun p63 h64 => (indexAddrR Prog 28 a9 a13 h60).bindN fun v65 h66 => (loadR Prog 3 v65 h66).bindN fun v67 h68 => (binR Prog .add 3 v67 (.int .i64 4) h68).bindN fun v69 h70 => (allocR Prog 244 h70).bindN fun v71 h72 => chkR ((okVal (loadR Prog 3 v57 h34) v59 && true) && ((okVal (loadR Prog 3 v65 h34) v67 && (okVal (loadR Prog 3 v65 h42) v67 && (okVal (loadR Prog 3 v65 h72) v67 && true))) && true)) (.panic p63 h64)) fun v61 h62 =>
 (indexAddrR Prog 28 a9 a13 h62).bindN fun v73 h74 =>
 (loadR Prog 3 v73 h74).bindN fun v75 h76 =>
 (binR Prog .add 3 v75 (.int .i64 4) h76).bindN fun v77 h78 =>
 (buildR Prog 244 [(0, v41), (1, v61), (2, v77), (3, a1)] h78).bindN fun v79 h80 =>
 (allocR Prog 244 h80).bindN fun v81 h82 =>
 (storeR Prog 244 v81 v79 h82).bindN fun _v83 h84 =>
 chkR ((okVal (loadR Prog 3 v57 h34) v59 && true) && ((okVal (loadR Prog 3 v73 h34) v75 && (okVal (loadR Prog 3 v73 h42) v75 && (okVal (loadR Prog 3 v73 h82) v75 && true))) && true)) (
 condV (some a2) (
 (indexAddrR Prog 28 a9 a13 h84).bind fun v85 h86 =>
 (loadR Prog 3 v85 h86).bind fun v87 h88 =>
 (binR Prog .add 3 v87 (.int .i64 4) h88).bind fun v89 h90 =>
 (call F.swashref01_U [a0, v89, (.int .i64 2)] h90).bind fun v91 h92 =>
 (fieldAddrR Prog 244 v81 2 h92).bind fun v93 h94 =>
 (storeR Prog 3 v93 v91 h94).bind fun _v95 h96 =>
 (fieldAddrR Prog 244 v81 4 h96).bind fun v97 h98 =>
 (storeR Prog 3 v97 a1 h98).bind fun _v99 h100 =>
 (builtinV Prog .len [65] [a0] h100).bind fun v101 h102 =>
 (fieldAddrR Prog 244 v81 2 h102).bind fun v103 h104 =>
 (loadR Prog 3 v103 h104).bind fun v105 h106 =>
 (fieldAddrR Prog 244 v81 1 h106).bind fun v107 h108 =>
 (loadR Prog 3 v107 h108).bind fun v109 h110 =>
 (fieldAddrR Prog 244 v81 0 h110).bind fun v111 h112 =>
 (loadR Prog 3 v111 h112).bind fun v113 h114 =>
 (binR Prog .sub 3 v109 v113 h114).bind fun v115 h116 =>
 (binR Prog .add 3 v115 (.int .i64 1) h116).bind fun v117 h118 =>
 (call F.swashref01_Rows [v101, v105, v117, a1] h118).bind fun v119 h120 =>
 swashref06_segments_j3 k call a0 a1 a2 a9 v119 a12 a13 v81 h120)
 (
 swashref06_segments_j4 k call a0 a1 a2 a9 a11 a12 a13 v81 a2 h84)))
 (
 .ok ((.exit 0), [(0, a0), (1, a1), (2, a2), (9, a9), (11, a11), (12, a12), (13, a13), (32, v33)]) h34) :=
 (loopB_eq _ _).trans (by kernel_rfl)
theorem swashref06_segments_j3_eq (k : Nat) (call : Caller) (a0 a1 a2 a9 a11 a12 a13 a14 : Value) (h : Heap) : swashref06_segments_j3 k call a0 a1 a2 a9 a11 a12 a13 a14 h =
 (loadR Prog 244 a14 h).bind fun v121 h122 =>
 (buildSliceR Prog 86 1 [(0, v121)] h122).bind fun v123 h124 =>
 (builtinV Prog .append [86, 86] [a12, v123] h124).bind fun v125 h126 =>
 (binR Prog .add 3 a13 (.int .i64 1) h126).bind fun v127 h128 =>
 .ok (.normal, [(0, a0), (1, a1), (2, a2), (9, a9), (11, a11), (12, v125), (13, v127)]) h128 := by kernel_rfl
theorem swashref06_segments_j4_eq (k : Nat) (call : Caller) (a0 a1 a2 a9 a11 a12 a13 a14 a55 : Value) (h : Heap) : swashref06_segments_j4 k call a0 a1 a2 a9 a11 a12 a13 a14 a55 h =
 (loadR Prog 244 a14 h).bind fun v129 h130 =>
 (buildSliceR Prog 86 1 [(0, v129)] h130).bind fun v131 h132 =>
 (builtinV Prog .append [86, 86] [a12, v131] h132).bind fun v133 h134 =>
 (binR Prog .add 3 a13 (.int .i64 1) h134).bind fun v135 h136 =>
 .ok (.normal, [(0, a0), (1, a1), (2, a2), (9, a9), (11, a11), (12, v133), (13, v135)]) h136 := by kernel_rfl
theorem swashref06_segments_l1k_x0 (k : Nat) (call : Caller) (a0 a1 a2 a9 a11 a12 a13 a32 : Value) (h : Heap) : swashref06_segments_l1k k call (.exit 0) [(0, a0), (1, a1), (2, a2), (9, a9), (11, a11), (12, a12), (13, a13), (32, a32)] h =
 .ok (.tuple #[a12, a11]) h := by kernel_rfl
def swashref06_trimmed (k : Nat) (call : Caller) (a0 a1 a2 : Value) (h : Heap) : Res Value :=
 (call F.swashref01_U [a0, a1, (.int .i64 2)] h).bind fun v1 h2 =>
 (binR Prog .add 3 a1 (.int .i64 2) h2).bind fun v3 h4 =>
 (call F.swashref01_U [a0, v3, (.int .i64 2)] h4).bind fun v5 h6 =>
 (binR Prog .lss 3 v1 (.int .i64 0) h6).bind fun v7 h8 =>
 ((bif wantVal v7 false then Res.ok v5 h8 else Res.ok undef h8)).bind fun v9 h10 =>
 ((bif wantVal v7 false then binR Prog .lss 3 v9 (.int .i64 0) h10 else Res.ok undef h10)).bind fun v11 h12 =>
 (condV (some v7) (Res.ok (.bool true) h12) (Res.ok v11 h12)).bind fun v13 h14 =>
 ((bif wantVal v13 false then Res.ok v1 h14 else Res.ok undef h14)).bind fun v15 h16 =>
 ((bif wantVal v13 false then Res.ok v5 h16 else Res.ok undef h16)).bind fun v17 h18 =>
 ((bif wantVal v13 false then binR Prog .add 3 v15 v17 h18 else Res.ok undef h18)).bind fun v19 h20 =>
 ((bif wantVal v13 false then binR Prog .gtr 3 v19 (.int .i64 65536) h20 else Res.ok undef h20)).bind fun v21 h22 =>
 (condV (some v13) (Res.ok (.bool true) h22) (Res.ok v21 h22)).bind fun v23 h24 =>
 ((bif wantVal v23 false then Res.ok a0 h24 else Res.ok undef h24)).bind fun v25 h26 =>
 ((bif wantVal v23 false then builtinV Prog .len [65] [v25] h26 else Res.ok undef h26)).bind fun v27 h28 =>
 ((bif wantVal v23 false then Res.ok a1 h28 else Res.ok undef h28)).bind fun v29 h30 =>
 ((bif wantVal v23 false then binR Prog .add 3 v29 (.int .i64 4) h30 else Res.ok undef h30)).bind fun v31 h32 =>
 ((bif wantVal v23 false then Res.ok v5 h32 else Res.ok undef h32)).bind fun v33 h34 =>
 ((bif wantVal v23 false then Res.ok a2 h34 else Res.ok undef h34)).bind fun v35 h36 =>
 ((bif wantVal v23 false then call F.swashref01_Rows [v27, v31, v33, v35] h36 else Res.ok undef h36)).bind fun v37 h38 =>
 ((bif wantVal v23 false then unR .not v37 h38 else Res.ok undef h38)).bind fun v39 h40 =>
 (condV (some v23) (Res.ok (.bool true) h40) (Res.ok v39 h40)).bind fun v41 h42 =>
 condV (some v41) (
 .ok (.tuple #[(.slice none 0 0), (.bool false)]) h42)
 (
 (binR Prog .eql 3 v5 (.int .i64 0) h42).bind fun v43 h44 =>
 condV (some v43) (
 (buildSliceR Prog 86 0 [] h44).bind fun v45 h46 =>
 .ok (.tuple #[v45, (.bool true)]) h46)
 (
 (binR Prog .add 3 v1 v5 h44).bind fun v47 h48 =>
 (binR Prog .sub 3 v47 (.int .i64 1) h48).bind fun v49 h50 =>
 (binR Prog .add 3 a1 (.int .i64 4) h50).bind fun v51 h52 =>
 (buildR Prog 244 [(0, v1), (1, v49), (2, v51), (3, a2), (4, a2)] h52).bind fun v53 h54 =>
 (buildSliceR Prog 86 1 [(0, v53)] h54).bind fun v55 h56 =>
 .ok (.tuple #[v55, (.bool true)]) h56))
theorem swashref06_trimmed_R (k : Nat) (a0 a1 a2 : Value) (h : Heap) : R (T k) F.swashref06_trimmed [a0, a1, a2] h = nrm .fz h (swashref06_trimmed k (R (T k)) a0 a1 a2 h) :=
 (R_body (t := T k) (T_scott k) (by kernel_rfl) (by kernel_rfl) _ _).trans (by kernel_rfl)
end
end Go.Sw
end
section
namespace Go.Sw
open Go.RowKit
abbrev encRP (r : RP) : List Value := [.int .i64 r.first, .int .i64 r.last, .int .i64 r.pos, .int .i64 r.size, .int .i64 r.step]
theorem encRP_len (r : RP) : (encRP r).length = 5 := rfl
theorem encRP_still (l : List RP) : ∀ p, p ∈ l → ∀ v, v ∈ encRP p → Still v := fun p _ v hv => by
 simp [encRP] at hv
 rcases hv with rfl | rfl | rfl | rfl | rfl <;> trivial
theorem Flat.RPs (l : List RP) : Flat (Go.Sw.lv encRP l) := .lv fun p _ => .cons (.int _ _) (.cons (.int _ _) (.cons (.int _ _) (.cons (.int _ _) (.cons (.int _ _) .nil))))
def PartsAre (o : Option (List RP)) (v : Value) : Prop := ∃ l, v = .tuple #[lv encRP l, .bool o.isSome] ∧ (∀ x, o = some x → l = x) ∧ l.length ≤ 65536
theorem parts_flat (l : List RP) (x : Bool) : Flat (.tuple #[lv encRP l, .bool x]) := .tupleL (.cons (Flat.RPs _) (.cons (.bool _) .nil))
def segE (b : List Int) (z : Int) (each : Bool) (p : Int) : RP := if each then ⟨gU b (p + 2) 2, gU b p 2, gU b (p + 4) 2, z, z⟩ else ⟨gU b (p + 2) 2, gU b p 2, p + 4, z, 0⟩
def segB (b : List Int) (z : Int) (each : Bool) (p : Int) : Bool := if each then rowsB b.length (gU b (p + 4) 2) (gU b p 2 - gU b (p + 2) 2 + 1) z else true
theorem segR_eq (b : List Int) (z : Int) (each : Bool) (p : Int) : segR b z each p = if segB b z each p then some (segE b z each p) else none := by
 unfold segR segB segE
 cases each <;> simp
theorem mapO_take {β : Type} {f : Int → Option β} {l : List Int} {j : Nat} {p : Int} (hp : l[j]? = some p) : mapO f (l.take (j + 1)) = (mapO f (l.take j)).bind fun r => (f p).map fun y => r ++ [y] := by
 have h : ∀ (a : List Int), mapO f (a ++ [p]) = (mapO f a).bind fun r => (f p).map fun y => r ++ [y] := by
  intro a
  induction a with
  | nil => simp [mapO]; cases f p <;> rfl
  | cons x a ih =>
   simp only [List.cons_append, mapO, ih]
   cases f x with
   | none => rfl
   | some y =>
    simp only [Option.bind_some]
    cases mapO f a with
    | none => rfl
    | some r => simp only [Option.bind_some, Option.map_some]; cases f p <;> rfl
 rw [take_snoc hp, h]
theorem mapO_none_take {β : Type} {f : Int → Option β} {l : List Int} {j : Nat} (h : mapO f (l.take j) = none) : mapO f l = none := by
 have : ∀ (a b : List Int), mapO f a = none → mapO f (a ++ b) = none := by
  intro a
  induction a with
  | nil => intro b h; cases h
  | cons x a ih =>
   intro b h
   simp only [List.cons_append, mapO] at h ⊢
   cases hx : f x with
   | none => rfl
   | some y =>
    rw [hx] at h
    simp only [Option.bind_some, Option.map_eq_none_iff] at h ⊢
    exact ih b h
 rw [← List.take_append_drop j l]
 exact this _ _ h
theorem segs06_run (k : Nat) (b : List Int) (hb : Byt b) (z : Int) (hz : z = 2 ∨ z = 4) (each : Bool) (hl : b.length < 2 ^ 31) (H : Heap) :
  ∃ v, R (T k) F.swashref06_segments [lv encB b, .int .i64 z, .bool each] H = .ok v H ∧ PartsAre (refSegS b z each) v := by
 have hU := fun j H' => refU_run k (H := H') (Sl.lv H' 1 b) hb j 2 (by omega) (by omega)
 have hRows := fun i n H' => refRows_run k b.length i n z (by omega) (by omega) H'
 obtain ⟨need, hneed⟩ : ∃ need : Int, need = if each then 6 else 4 + z := ⟨_, rfl⟩
 have hr5 : ∀ H', R (T k) F.swashref05_Rows [lv encB b, .int .i64 2, .int .i64 need, .int .i64 2] H' = .ok (rowsO b 2 need 2) H' := fun H' => rows05_run k b hb 2 need 2 hl (by omega) (by omega) (by subst hneed; split <;> omega) (by subst hneed; split <;> omega) H'
 -- the rows
 obtain ⟨ps, ok, zz, hrow, hps, hok⟩ : ∃ (ps : List Int) (ok : Bool) (zz : Int), rowsO b 2 need 2 = .tuple #[lv encI ps, .int .i64 zz, .bool ok] ∧ (∀ p, p ∈ ps → 0 ≤ p ∧ p < 2 ^ 34) ∧
   ps.length < 65536 ∧ refSegS b z each = (if ok then mapO (segR b z each) ps else none) ∧ (ok = false → ps = []) := by
  unfold rowsO refSegS
  rw [← hneed]
  cases ht : takeS b 2 need 2 with
  | none => exact ⟨[], false, 0, rfl, (fun p h => by cases h), by simp, rfl, fun _ => rfl⟩
  | some rows =>
   obtain ⟨s, n, h1, h2, h3, h4, h5, h6⟩ := takeS_get ht
   have hs := uS_two hb h1
   have hn := uS_two hb h2
   rw [gU_some h1]
   refine ⟨posS 2 s rows.length, true, s, rfl, fun p hp => ?_, by simp; omega, rfl, fun h => by cases h⟩
   obtain ⟨i, hi⟩ := List.getElem?_of_mem hp
   have hlt := (List.getElem?_eq_some_iff.1 hi).1
   simp at hlt
   rw [posS_get _ _ _ _ hlt] at hi
   injection hi with hi
   have := Int.mul_nonneg hs.1 (show (0 : Int) ≤ (i : Nat) by omega)
   have : s * (i : Nat) ≤ 65536 * 65536 := Int.mul_le_mul (by omega) (by omega) (by omega) (by omega)
   omega
 obtain ⟨hplen, href, hoknil⟩ := hok
 rw [href]
 obtain ⟨x, e', H1, hr, rfl, hx, a, s, out, fl, rfl, ho, hq⟩ := loop_up (body := swashref06_segments_l1 k (R (T k))) ps.length
  (fun j e H' => Ext H H' ∧ ∃ s out fl, e = [(0, lv encB b), (1, .int .i64 z), (2, .bool each), (9, lv encI ps), (11, .bool fl), (12, s), (13, .int .i64 j)] ∧ Own H H' 5 s encRP out ∧
   out.length ≤ j ∧ ((ok = true ∧ fl = true ∧ mapO (segR b z each) (ps.take j) = some out) ∨ (fl = false ∧ (ok = false ∨ mapO (segR b z each) ps = none))))
  (fun x e H' => x = .exit 0 ∧ Ext H H' ∧ ∃ a s out fl, e = [(0, lv encB b), (1, .int .i64 z), (2, .bool each), (9, lv encI ps), (11, .bool fl), (12, s), (13, a), (32, .bool false)] ∧ Own H H' 5 s encRP out ∧
   out.length ≤ ps.length ∧ ((ok = true ∧ fl = true ∧ mapO (segR b z each) ps = some out) ∨ (fl = false ∧ (ok = false ∨ mapO (segR b z each) ps = none))))
  (e0 := [(0, lv encB b), (1, .int .i64 z), (2, .bool each), (9, lv encI ps), (11, .bool ok), (12, bareV), (13, .int .i64 0)]) (H0 := H)
  ⟨Ext.refl H, bareV, [], ok, rfl, Own.bare _ _ _, by simp, by cases ok; exact .inr ⟨rfl, .inl rfl⟩; exact .inl ⟨rfl, rfl, rfl⟩⟩ (by omega)
  (fun j e H' hj ⟨hx, s, out, fl, he, ho, hol, hq⟩ => by
   subst he
   have hlt : (j : Int) < ps.length := by omega
   rcases hq with ⟨hok, rfl, hm⟩ | ⟨rfl, hn⟩
   rotate_left
   ·refine .inr ⟨.exit 0, _, H', ?_, by simp, rfl, hx, .int .i64 j, s, out, false, rfl, ho, by omega, .inr ⟨rfl, hn⟩⟩
    rw [swashref06_segments_l1_eq]
    simp -implicitDefEqProofs (disch := omega) [hlt]
   ·obtain ⟨p, hp⟩ : ∃ p, ps[j]? = some p := ⟨_, List.getElem?_eq_getElem hj⟩
    have hpb := hps p (List.mem_of_getElem? hp)
    have i1 := fun H' => ixS_lvN encI_len ps .i64 j p hp H'
    have u0 := fun H' => hU p H'
    have u2 := fun H' => hU (p + 2) H'
    have u4 := fun H' => hU (p + 4) H'
    have g0 := gU_two hb p
    have g2 := gU_two hb (p + 2)
    have g4 := gU_two hb (p + 4)
    obtain ⟨f, hf⟩ : ∃ f, gU b (p + 2) 2 = f := ⟨_, rfl⟩
    obtain ⟨l, hll⟩ : ∃ l, gU b p 2 = l := ⟨_, rfl⟩
    obtain ⟨q, hqq⟩ : ∃ q, gU b (p + 4) 2 = q := ⟨_, rfl⟩
    rw [hf] at g2
    rw [hll] at g0
    rw [hqq] at g4
    have u0 : ∀ H', R (T k) F.swashref01_U [lv encB b, .int .i64 p, .int .i64 2] H' = .ok (.int .i64 l) H' := fun H' => by rw [u0]; unfold gU at hll; rw [hll]
    have u2 : ∀ H', R (T k) F.swashref01_U [lv encB b, .int .i64 (p + 2), .int .i64 2] H' = .ok (.int .i64 f) H' := fun H' => by rw [u2]; unfold gU at hf; rw [hf]
    have u4 : ∀ H', R (T k) F.swashref01_U [lv encB b, .int .i64 (p + 4), .int .i64 2] H' = .ok (.int .i64 q) H' := fun H' => by rw [u4]; unfold gU at hqq; rw [hqq]
    have hE : segE b z each p = if each then ⟨f, l, q, z, z⟩ else ⟨f, l, p + 4, z, 0⟩ := by unfold segE; rw [hf, hll, hqq]
    have hB : segB b z each p = if each then rowsB b.length q (l - f + 1) z else true := by unfold segB; rw [hf, hll, hqq]
    have hx1 : Ext H' (H'.push ⟨encRP (segE b z each p), 1, false⟩) := (Ext.refl H').push _
    obtain ⟨s2, H2, e2, o2, x2⟩ := ap1_own (bytes := 40) encRP_len (ho.up hx1) (hx.trans hx1) (segE b z each p) (by omega) (by decide)
    refine .inl ⟨_, H2, ?_, x2, s2, out ++ [segE b z each p], segB b z each p, rfl, o2, by simp; omega, ?_⟩
    ·rw [swashref06_segments_l1_eq]
     rw [hE] at e2
     rw [hB]
     cases each with
     | false =>
      simp only [Bool.false_eq_true, if_false, hn_push, encRP] at e2 ⊢
      simp -implicitDefEqProofs (disch := omega) [hlt, i1, u0, u2, swashref06_segments_j4_eq, e2]
     | true =>
      simp only [if_true, hn_push, encRP] at e2 ⊢
      simp -implicitDefEqProofs (disch := omega) [hlt, i1, u0, u2, u4, hRows, swashref06_segments_j3_eq, e2]
    ·cases hsb : segB b z each p with
     | true =>
      refine .inl ⟨hok, rfl, ?_⟩
      rw [mapO_take hp, hm, segR_eq, hsb]
      rfl
     | false =>
      refine .inr ⟨rfl, .inr (mapO_none_take (j := j + 1) ?_)⟩
      rw [mapO_take hp, hm, segR_eq, hsb]
      rfl)
  (fun e H' ⟨hx, s, out, fl, he, ho, hol, hq⟩ => by
   subst he
   refine ⟨.exit 0, _, H', ?_, by simp, rfl, hx, .int .i64 ps.length, s, out, fl, rfl, ho, hol, by rw [List.take_length] at hq; exact hq⟩
   rw [swashref06_segments_l1_eq]
   simp -implicitDefEqProofs)
 obtain ⟨L, hf⟩ := ho.freeze encRP_len (encRP_still _) 5
 have hall : swashref06_segments k (R (T k)) (lv encB b) (.int .i64 z) (.bool each) H = .ok (.tuple #[s, .bool fl]) H1 := by
  cases each with
  | false =>
   simp only [Bool.false_eq_true, if_false] at hneed
   subst hneed
   have hr5' := hr5
   rw [hrow] at hr5'
   rcases hz with rfl | rfl <;> simp only [show (4 : Int) + 2 = 6 from rfl, show (4 : Int) + 4 = 8 from rfl] at hr5' <;> simp -implicitDefEqProofs (disch := omega) [swashref06_segments, swashref06_segments_j2_eq, hr5', hr, swashref06_segments_l1k_x0]
  | true =>
   simp only [if_true] at hneed
   subst hneed
   have hr5' := hr5
   rw [hrow] at hr5'
   rcases hz with rfl | rfl <;> simp -implicitDefEqProofs (disch := omega) [swashref06_segments, swashref06_segments_j1_eq, hr5', hr, swashref06_segments_l1k_x0]
 refine ⟨.tuple #[lv encRP out, .bool fl], ?_, ?_⟩
 ·rw [swashref06_segments_R]
  exact nrm_fz hall (fz_tuple (l := [s, .bool fl]) (mapF_cons hf (mapF_one (L := []) rfl))) hx (parts_flat _ _).alive
 ·rcases hq with ⟨hol, ⟨rfl, rfl, hm⟩ | ⟨rfl, hn⟩⟩
  ·exact ⟨out, by simp [hm], fun x h => (by simp [hm] at h; exact h), by omega⟩
  ·have : (if ok = true then mapO (segR b z each) ps else none) = none := by
    rcases hn with rfl | hn
    ·rfl
    ·rw [hn]; split <;> rfl
   rw [this]
   exact ⟨out, rfl, fun x h => (by cases h), by omega⟩
end Go.Sw
end
