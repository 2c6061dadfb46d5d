/-
  Functions' forms, and what is proved of them, part 5.
-/
import Derived.Test.YtnaodjnimkndbaaSwW4
import Derived.Test.YtnaodjnimkndbaaSwW1
import Derived.Test.YtnaodjnimkndbaaSwCfg
import Derived.Test.YtnaodjnimkndbaaSwLib8
import Derived.Tactics
import Derived.Tactics2
import Derived.Defers
import Derived.Recover
import Derived.Laws.Pointers
import Derived.Test.YtnaodjnimkndbaaSwW3
import Derived.Eval
set_option linter.unusedSimpArgs false
set_option linter.unusedVariables false
set_option linter.unusedSectionVars false
section
namespace Go.Sw
open Go.RowKit
structure Plan where
  cls : List Int
  rows : List (List Int)
  ents : List En
  wide : Int
abbrev encBR (r : List Int) : List Value := [lv encB r]
theorem encBR_len (r : List Int) : (encBR r).length = 1 := rfl
abbrev planCells (p : Plan) : List Value := [lv encB p.cls, lv encBR p.rows, lv encEn p.ents, .int .u8 p.wide]
abbrev planV (p : Plan) : Value := .agg (planCells p).toArray
def planN (p : Plan) : Nat := 4 + (p.wide % 8).toNat
def twos (l : List Int) : List Int := (l.map fun c => bytesOf c 2).flatten
def ofS (cls : List Int) : List Int := (bytesOf 8 2 ++ bytesOf 0 2 ++ bytesOf cls.length 2) ++ twos cls
def rowL (n : Nat) (r : List Int) : List Int := (List.range n).map fun i => r[i]?.getD 0
def rowsL (n : Nat) (rs : List (List Int)) : List Int := (rs.map fun r => twos (rowL n r)).flatten
def m16 (x : Int) : Int := x % 65536
def entB (w : Int) (e : En) : List Int := bytesOf (m16 e.next) 2 ++ bytesOf (m16 e.flags) 2 ++ (if 0 < w then bytesOf (m16 e.a) 2 else []) ++ (if 1 < w then bytesOf (m16 e.b) 2 else [])
def entsB (w : Int) (es : List En) : List Int := (es.map (entB w)).flatten
def planBytes (p : Plan) (w : Int) (room : Nat) : List Int :=
  (((bytesOf (planN p : Int) 4 ++ bytesOf (16 + room : Int) 4 ++ bytesOf (16 + room + (ofS p.cls).length : Int) 4 ++ bytesOf (16 + room + (ofS p.cls).length + (rowsL (planN p) p.rows).length : Int) 4 ++ List.replicate room 0) ++ ofS p.cls) ++ rowsL (planN p) p.rows) ++ entsB w p.ents
theorem twos_snoc (l : List Int) (x : Int) : twos (l ++ [x]) = twos l ++ bytesOf x 2 := by simp [twos]
theorem twos_len (l : List Int) : (twos l).length = l.length * 2 := flat_len (z := 2) (fun r hr => by obtain ⟨p, _, rfl⟩ := List.mem_map.1 hr; simp) |>.trans (by simp)
theorem rowL_len (n : Nat) (r : List Int) : (rowL n r).length = n := by simp [rowL]
theorem rowsL_snoc (n : Nat) (rs : List (List Int)) (r : List Int) : rowsL n (rs ++ [r]) = rowsL n rs ++ twos (rowL n r) := by simp [rowsL]
theorem rowsL_len (n : Nat) (rs : List (List Int)) : (rowsL n rs).length = rs.length * (n * 2) := flat_len (z := n * 2) (fun r hr => by obtain ⟨p, _, rfl⟩ := List.mem_map.1 hr; rw [twos_len, rowL_len]) |>.trans (by simp)
theorem entB_len (w : Int) (e : En) : (entB w e).length ≤ 8 := by
  unfold entB
  simp only [List.length_append, bytesOf_len]
  split <;> split <;> simp
theorem entsB_snoc (w : Int) (es : List En) (e : En) : entsB w (es ++ [e]) = entsB w es ++ entB w e := by simp [entsB]
theorem entsB_len (w : Int) : ∀ es : List En, (entsB w es).length ≤ es.length * 8
  | [] => by simp [entsB]
  | e :: es => by
    have h1 := entsB_len w es
    have h2 := entB_len w e
    unfold entsB at h1 ⊢
    simp only [List.map_cons, List.flatten_cons, List.length_append, List.length_cons]
    omega
theorem and16 (P : Program) (t : TypeId) (H : Heap) (a : Int) : binR P .and t (.int .i64 a) (.int .i64 65535) H = .ok (.int .i64 (m16 a)) H := by
  have e : (BitVec.ofInt 64 a &&& BitVec.ofInt 64 65535).toNat = (a % 65536).toNat := by
    rw [BitVec.toNat_and, BitVec.toNat_ofInt, BitVec.toNat_ofInt]
    rw [show ((65535 : Int) % ((2 ^ 64 : Nat) : Int)).toNat = 2 ^ 16 - 1 from by decide, Nat.and_two_pow_sub_one_eq_mod]
    omega
  have e1 : binV P .and t (.int .i64 a) (.int .i64 65535) = some (.int .i64 (IntKind.i64.wrap (BitVec.ofInt 64 a &&& BitVec.ofInt 64 65535).toNat)) := rfl
  unfold binR
  rw [e1, e]
  unfold m16
  rw [show (((a % 65536).toNat : Nat) : Int) = a % 65536 by omega, wrap_i64 (by omega) (by omega)]
  rfl
theorem m16_bound (a : Int) : 0 ≤ m16 a ∧ m16 a < 65536 := by unfold m16; omega
theorem write_l3 (k : Nat) {H0 H : Heap} {o9 o12 : Option Nat} {a9 a12 : Value} {l9 l12 : List Int} {B : It} (w room : Value) (n : Nat) (hn : n ≤ 11) (a3 a8 : Value) (r : List Int) (hr : Byt r) (x47 x48 x49 : Value) (hl : l12.length < 2 ^ 29)
    (g : Star H0 H [itRow o9 1 a9 encB l9, itRow o12 1 a12 encB l12, B]) :
    ∃ s o H' z, loopN (swashlaw07_Write_l3 k (R (T k))) loopFuel [(1, w), (2, room), (3, a3), (7, .int .i64 n), (8, a8), (9, a9), (12, a12), (13, .slice none 0 0), (15, lv encB r), (47, x47), (48, x48), (49, x49), (53, .int .i64 n), (54, .int .i64 0)] H =
      .ok (.exit 4, [(1, w), (2, room), (3, a3), (7, .int .i64 n), (8, a8), (9, a9), (12, s), (13, .slice none 0 0), (15, lv encB r), (47, x47), (48, x48), (49, x49), (53, .int .i64 n), (54, z), (55, .bool false)]) H' ∧
      Star H0 H' [itRow o9 1 a9 encB l9, itRow o 1 s encB (l12 ++ twos (rowL n r)), B] := by
  obtain ⟨x, e', H1, hr1, rfl, z, s, o, rfl, g⟩ := loop_up (body := swashlaw07_Write_l3 k (R (T k))) n
    (fun j e H' => ∃ s o, e = [(1, w), (2, room), (3, a3), (7, .int .i64 n), (8, a8), (9, a9), (12, s), (13, .slice none 0 0), (15, lv encB r), (47, x47), (48, x48), (49, x49), (53, .int .i64 n), (54, .int .i64 j)] ∧ Star H0 H' [itRow o9 1 a9 encB l9, itRow o 1 s encB (l12 ++ twos ((rowL n r).take j)), B])
    (fun x e H' => x = .exit 4 ∧ ∃ z s o, e = [(1, w), (2, room), (3, a3), (7, .int .i64 n), (8, a8), (9, a9), (12, s), (13, .slice none 0 0), (15, lv encB r), (47, x47), (48, x48), (49, x49), (53, .int .i64 n), (54, z), (55, .bool false)] ∧ Star H0 H' [itRow o9 1 a9 encB l9, itRow o 1 s encB (l12 ++ twos (rowL n r)), B])
    (e0 := [(1, w), (2, room), (3, a3), (7, .int .i64 n), (8, a8), (9, a9), (12, a12), (13, .slice none 0 0), (15, lv encB r), (47, x47), (48, x48), (49, x49), (53, .int .i64 n), (54, .int .i64 0)]) (H0 := H) ⟨a12, o12, rfl, by simpa [twos] using g⟩ (by omega)
    (fun j e H' hj ⟨s, o, he, g⟩ => by
      subst he
      have hlt : (j : Int) < n := by omega
      have hq : (rowL n r)[j]? = some (r[j]?.getD 0) := by unfold rowL; rw [List.getElem?_map, List.getElem?_range hj]; rfl
      have hlen : (l12 ++ twos ((rowL n r).take j)).length < 2 ^ 30 := by
        rw [List.length_append, twos_len, List.length_take, rowL_len]
        omega
      have hb : 0 ≤ r[j]?.getD 0 ∧ r[j]?.getD 0 < 256 := by
        cases h : r[j]? with
        | none => simp
        | some y => exact hr y (List.mem_of_getElem? h)
      obtain ⟨s', o', H2, e2, g2⟩ := Put_star k g 1 rfl (r[j]?.getD 0) 2 2 rfl hb.1 (by omega) (by omega) hlen
      simp only [List.set_cons_zero, List.set_cons_succ] at g2
      refine .inl ⟨_, H2, ?_, s', o', rfl, by rw [take_snoc hq, twos_snoc, ← List.append_assoc]; exact g2⟩
      rw [swashlaw07_Write_l3_eq]
      cases h : r[j]? with
      | some y =>
        have hjr : (j : Int) < r.length := by have := (List.getElem?_eq_some_iff.1 h).1; omega
        have i1 := fun H' => ixS_lvN encB_len r .i64 j y h H'
        rw [h] at e2 hb
        simp at e2 hb
        simp -implicitDefEqProofs (disch := omega) [hlt, hjr, i1, swashlaw07_Write_j1_eq, e2]
      | none =>
        have hjr : ¬ (j : Int) < r.length := by have := List.getElem?_eq_none_iff.1 h; omega
        rw [h] at e2
        simp at e2
        simp -implicitDefEqProofs (disch := omega) [hlt, hjr, swashlaw07_Write_j2_eq, e2])
    (fun e H' ⟨s, o, he, g⟩ => by
      subst he
      rw [List.take_of_length_le (by rw [rowL_len]; exact Nat.le_refl _)] at g
      refine ⟨.exit 4, _, H', ?_, by simp, rfl, .int .i64 n, s, o, rfl, g⟩
      rw [swashlaw07_Write_l3_eq]
      simp -implicitDefEqProofs)
  exact ⟨s, o, H1, z, hr1, g⟩
def Plan.ok (p : Plan) : Prop := Byt p.cls ∧ (∀ r, r ∈ p.rows → Byt r) ∧ 0 ≤ p.wide ∧ p.wide < 256
set_option maxHeartbeats 1000000 in
theorem write_l4 (k : Nat) {H0 H : Heap} {o9 o12 : Option Nat} {a9 a12 : Value} {l9 l12 : List Int} {B : It} (w : Int) (hw : w = 0 ∨ w = 1 ∨ w = 2) (room : Value) (a7 a8 : Value) (es : List En) (hl : es.length < 2 ^ 20) {sE : Value} (hsE : Sl H0 4 sE encEn es)
    (g : Star H0 H [itRow o9 1 a9 encB l9, itRow o12 1 a12 encB l12, B]) :
    ∃ s o H' z, loopN (swashlaw07_Write_l4 k (R (T k))) loopFuel [(1, .int .i64 w), (2, room), (7, a7), (8, a8), (9, a9), (12, a12), (13, .slice none 0 0), (72, sE), (73, .int .i64 es.length), (74, .int .i64 0)] H =
      .ok (.exit 6, [(1, .int .i64 w), (2, room), (7, a7), (8, a8), (9, a9), (12, a12), (13, s), (72, sE), (73, .int .i64 es.length), (74, z), (75, .bool false)]) H' ∧
      Star H0 H' [itRow o9 1 a9 encB l9, itRow o12 1 a12 encB l12, B, itRow o 1 s encB (entsB w es)] := by
  have g := g.more_row (Ext.refl _) (OwnO.nil encB _ 1) (fun b hb => by cases hb)
  obtain ⟨x, e', H1, hr1, rfl, z, s, o, rfl, g⟩ := loop_up (body := swashlaw07_Write_l4 k (R (T k))) es.length
    (fun j e H' => ∃ s o, e = [(1, .int .i64 w), (2, room), (7, a7), (8, a8), (9, a9), (12, a12), (13, s), (72, sE), (73, .int .i64 es.length), (74, .int .i64 j)] ∧ Star H0 H' [itRow o9 1 a9 encB l9, itRow o12 1 a12 encB l12, B, itRow o 1 s encB (entsB w (es.take j))])
    (fun x e H' => x = .exit 6 ∧ ∃ z s o, e = [(1, .int .i64 w), (2, room), (7, a7), (8, a8), (9, a9), (12, a12), (13, s), (72, sE), (73, .int .i64 es.length), (74, z), (75, .bool false)] ∧ Star H0 H' [itRow o9 1 a9 encB l9, itRow o12 1 a12 encB l12, B, itRow o 1 s encB (entsB w es)])
    (e0 := [(1, .int .i64 w), (2, room), (7, a7), (8, a8), (9, a9), (12, a12), (13, .slice none 0 0), (72, sE), (73, .int .i64 es.length), (74, .int .i64 0)]) (H0 := H) ⟨.slice none 0 0, none, rfl, by simpa [entsB] using g⟩ (by omega)
    (fun j e H' hj ⟨s, o, he, g⟩ => by
      subst he
      have hlt : (j : Int) < es.length := by omega
      obtain ⟨en, hen⟩ : ∃ en, es[j]? = some en := ⟨_, List.getElem?_eq_getElem hj⟩
      obtain ⟨q, i1, i2⟩ := ((hsE.up g.ext).rd (by decide) encEn_len).2 j en hen
      have hlen := entsB_len w (es.take j)
      rw [List.length_take] at hlen
      have g := g.push ⟨encEn en, 1, false⟩
      simp only [List.cons_append, List.nil_append] at g
      have b1 := m16_bound en.next
      have b2 := m16_bound en.flags
      have b3 := m16_bound en.a
      have b4 := m16_bound en.b
      have an := fun H a => and16 Prog 3 H a
      obtain ⟨s1, o1, H1, e1, g1⟩ := Put_star k g 3 rfl (m16 en.next) 2 2 rfl b1.1 (by omega) (by omega) (by omega)
      simp only [List.set_cons_zero, List.set_cons_succ] at g1
      have h1 := g1.get 4 rfl
      obtain ⟨s2, o2, H2, e2, g2⟩ := Put_star k g1 3 rfl (m16 en.flags) 2 2 rfl b2.1 (by omega) (by omega) (by simp; omega)
      simp only [List.set_cons_zero, List.set_cons_succ] at g2
      have h2 := g2.get 4 rfl
      rcases hw with rfl | rfl | rfl
      · refine .inl ⟨_, H2, ?_, s2, o2, rfl, by rw [take_snoc hen, entsB_snoc]; simpa [entB] using g2.take 4⟩
        rw [swashlaw07_Write_l4_eq]
        simp -implicitDefEqProofs (disch := omega) [hlt, i1, i2, an, e1, h1, e2, h2, swashlaw07_Write_j4_eq, swashlaw07_Write_j6_eq]
      · obtain ⟨s3, o3, H3, e3, g3⟩ := Put_star k g2 3 rfl (m16 en.a) 2 2 rfl b3.1 (by omega) (by omega) (by simp; omega)
        simp only [List.set_cons_zero, List.set_cons_succ] at g3
        have h3 := g3.get 4 rfl
        refine .inl ⟨_, H3, ?_, s3, o3, rfl, by rw [take_snoc hen, entsB_snoc]; simpa [entB] using g3.take 4⟩
        rw [swashlaw07_Write_l4_eq]
        simp -implicitDefEqProofs (disch := omega) [hlt, i1, i2, an, e1, h1, e2, h2, e3, h3, swashlaw07_Write_j3_eq, swashlaw07_Write_j6_eq]
      · obtain ⟨s3, o3, H3, e3, g3⟩ := Put_star k g2 3 rfl (m16 en.a) 2 2 rfl b3.1 (by omega) (by omega) (by simp; omega)
        simp only [List.set_cons_zero, List.set_cons_succ] at g3
        have h3 := g3.get 4 rfl
        obtain ⟨s4, o4, H4, e4, g4⟩ := Put_star k g3 3 rfl (m16 en.b) 2 2 rfl b4.1 (by omega) (by omega) (by simp; omega)
        simp only [List.set_cons_zero, List.set_cons_succ] at g4
        refine .inl ⟨_, H4, ?_, s4, o4, rfl, by rw [take_snoc hen, entsB_snoc]; simpa [entB] using g4.take 4⟩
        rw [swashlaw07_Write_l4_eq]
        simp -implicitDefEqProofs (disch := omega) [hlt, i1, i2, an, e1, h1, e2, h2, e3, h3, e4, swashlaw07_Write_j3_eq, swashlaw07_Write_j5_eq])
    (fun e H' ⟨s, o, he, g⟩ => by
      subst he
      rw [List.take_length] at g
      refine ⟨.exit 6, _, H', ?_, by simp, rfl, .int .i64 es.length, s, o, rfl, g⟩
      rw [swashlaw07_Write_l4_eq]
      simp -implicitDefEqProofs)
  exact ⟨s, o, H1, z, hr1, g⟩
theorem planN_eq (p : Plan) (h : 0 ≤ p.wide ∧ p.wide < 256) : 4 + p.wide.tmod 8 = (planN p : Int) ∧ planN p ≤ 11 := by
  unfold planN
  rw [Int.tmod_eq_emod_of_nonneg h.1]
  omega
set_option maxHeartbeats 2000000 in
theorem Write_any (k : Nat) (p : Plan) (hp : p.ok) (w : Int) (hw : w = 0 ∨ w = 1 ∨ w = 2) (room : Nat) (hroom : room ≤ 1000) (h1 : p.cls.length ≤ 1000) (h2 : p.rows.length ≤ 1000) (h3 : p.ents.length ≤ 1000) {H : Heap} {sE : Value} (hsE : Sl H 4 sE encEn p.ents) :
    R (T k) F.swashlaw07_Write [.agg #[lv encB p.cls, lv encBR p.rows, sE, .int .u8 p.wide], .int .i64 w, .int .i64 room] H = .ok (lv encB (planBytes p w room)) H := by
  rw [swashlaw07_Write_R]
  have hN := planN_eq p hp.2.2
  obtain ⟨n, hn⟩ : ∃ n, n = planN p := ⟨_, rfl⟩
  rw [← hn] at hN
  have hwd : 0 ≤ p.wide ∧ p.wide < 256 := hp.2.2
  have hrem := fun H => bin_rem Prog 3 H .i64 p.wide 8 (by decide)
  rw [Int.tmod_eq_emod_of_nonneg hwd.1] at hrem hN
  obtain ⟨B, hB⟩ : ∃ B : Blk, B = ⟨[lv encB p.cls, lv encBR p.rows, sE, .int .u8 p.wide], 1, false⟩ := ⟨_, rfl⟩
  have g := (Star.nil H).more_row (Ext.refl _) (OwnO.nil encB _ 1) (fun b hb => by cases hb)
  have g := g.more_row (Ext.refl _) (OwnO.nil encB _ 1) (fun b hb => by cases hb)
  have g := g.push B
  simp only [List.cons_append, List.nil_append] at g
  -- the head of the classes
  obtain ⟨s1, o1, H1, e1, g⟩ := Put_star k g 0 rfl 8 2 2 rfl (by omega) (by omega) (by omega) (by simp)
  simp only [List.set_cons_zero, List.set_cons_succ] at g
  have b1 := g.get 2 rfl
  obtain ⟨s2, o2, H2, e2, g⟩ := Put_star k g 0 rfl 0 2 2 rfl (by omega) (by omega) (by omega) (by simp)
  simp only [List.set_cons_zero, List.set_cons_succ] at g
  have b2 := g.get 2 rfl
  obtain ⟨s3, o3, H3, e3, g⟩ := Put_star k g 0 rfl p.cls.length 2 2 rfl (by omega) (by omega) (by omega) (by simp)
  simp only [List.set_cons_zero, List.set_cons_succ, List.nil_append] at g
  have b3 := g.get 2 rfl
  -- the classes
  obtain ⟨x, e', H4, hr4, rfl, z4, s4, o4, rfl, g⟩ := loop_up (body := swashlaw07_Write_l1 k (R (T k))) p.cls.length
    (fun j e H' => ∃ s o, e = [(1, .int .i64 w), (2, .int .i64 room), (3, ptrV H.n), (7, .int .i64 n), (8, .int .i64 (16 + room)), (9, s), (35, lv encB p.cls), (36, .int .i64 p.cls.length), (37, .int .i64 j)] ∧ Star H H' [itRow o 1 s encB ((bytesOf 8 2 ++ bytesOf 0 2 ++ bytesOf p.cls.length 2) ++ twos (p.cls.take j)), itRow none 1 (.slice none 0 0) encB [], itBlk H.n B])
    (fun x e H' => x = .exit 0 ∧ ∃ z s o, e = [(1, .int .i64 w), (2, .int .i64 room), (3, ptrV H.n), (7, .int .i64 n), (8, .int .i64 (16 + room)), (9, s), (35, lv encB p.cls), (36, .int .i64 p.cls.length), (37, z), (38, .bool false)] ∧ Star H H' [itRow o 1 s encB (ofS p.cls), itRow none 1 (.slice none 0 0) encB [], itBlk H.n B])
    (e0 := [(1, .int .i64 w), (2, .int .i64 room), (3, ptrV H.n), (7, .int .i64 n), (8, .int .i64 (16 + room)), (9, s3), (35, lv encB p.cls), (36, .int .i64 p.cls.length), (37, .int .i64 0)]) (H0 := H3) ⟨s3, o3, rfl, by simpa [twos] using g⟩ (by omega)
    (fun j e H' hj ⟨s, o, he, g⟩ => by
      subst he
      have hlt : (j : Int) < p.cls.length := by omega
      obtain ⟨c, hc⟩ : ∃ c, p.cls[j]? = some c := ⟨_, List.getElem?_eq_getElem hj⟩
      have i1 := fun H' => ixS_lvN encB_len p.cls .i64 j c hc H'
      have hcb := hp.1 c (List.mem_of_getElem? hc)
      obtain ⟨s', o', H2, e2, g2⟩ := Put_star k g 0 rfl c 2 2 rfl hcb.1 (by omega) (by omega) (by simp [twos_len]; omega)
      simp only [List.set_cons_zero, List.set_cons_succ] at g2
      refine .inl ⟨_, H2, ?_, s', o', rfl, by rw [take_snoc hc, twos_snoc, ← List.append_assoc]; exact g2⟩
      rw [swashlaw07_Write_l1_eq]
      simp -implicitDefEqProofs (disch := omega) [hlt, i1, e2])
    (fun e H' ⟨s, o, he, g⟩ => by
      subst he
      rw [List.take_length] at g
      refine ⟨.exit 0, _, H', ?_, by simp, rfl, .int .i64 p.cls.length, s, o, rfl, g⟩
      rw [swashlaw07_Write_l1_eq]
      simp -implicitDefEqProofs)
  have b4 := g.get 2 rfl
  have hofl : (ofS p.cls).length = 6 + p.cls.length * 2 := by unfold ofS; simp [twos_len]; omega
  -- the rows
  obtain ⟨x, e', H5, hr5, rfl, z5, s5, o5, rfl, g⟩ := loop_up (body := swashlaw07_Write_l2 k (R (T k))) p.rows.length
    (fun j e H' => ∃ s o, e = [(1, .int .i64 w), (2, .int .i64 room), (3, ptrV H.n), (7, .int .i64 n), (8, .int .i64 (16 + room)), (9, s4), (12, s), (13, .slice none 0 0), (47, lv encBR p.rows), (48, .int .i64 p.rows.length), (49, .int .i64 j)] ∧ Star H H' [itRow o4 1 s4 encB (ofS p.cls), itRow o 1 s encB (rowsL n (p.rows.take j)), itBlk H.n B])
    (fun x e H' => x = .exit 2 ∧ ∃ z s o, e = [(1, .int .i64 w), (2, .int .i64 room), (3, ptrV H.n), (7, .int .i64 n), (8, .int .i64 (16 + room)), (9, s4), (12, s), (13, .slice none 0 0), (47, lv encBR p.rows), (48, .int .i64 p.rows.length), (49, z), (50, .bool false)] ∧ Star H H' [itRow o4 1 s4 encB (ofS p.cls), itRow o 1 s encB (rowsL n p.rows), itBlk H.n B])
    (e0 := [(1, .int .i64 w), (2, .int .i64 room), (3, ptrV H.n), (7, .int .i64 n), (8, .int .i64 (16 + room)), (9, s4), (12, .slice none 0 0), (13, .slice none 0 0), (47, lv encBR p.rows), (48, .int .i64 p.rows.length), (49, .int .i64 0)]) (H0 := H4) ⟨.slice none 0 0, none, rfl, by simpa [rowsL] using g⟩ (by omega)
    (fun j e H' hj ⟨s, o, he, g⟩ => by
      subst he
      have hlt : (j : Int) < p.rows.length := by omega
      obtain ⟨r, hr⟩ : ∃ r, p.rows[j]? = some r := ⟨_, List.getElem?_eq_getElem hj⟩
      have i1 := fun H' => ixS_lvN encBR_len p.rows .i64 j r hr H'
      have hll : (rowsL n (p.rows.take j)).length < 2 ^ 29 := by
        rw [rowsL_len, List.length_take]
        have : min j p.rows.length * (n * 2) ≤ 1000 * 22 := Nat.mul_le_mul (by omega) (by omega)
        omega
      obtain ⟨s', o', H2, z', e2, g2⟩ := write_l3 k (.int .i64 w) (.int .i64 room) n (by omega) (ptrV H.n) (.int .i64 (16 + room)) r (hp.2.1 r (List.mem_of_getElem? hr)) (lv encBR p.rows) (.int .i64 p.rows.length) (.int .i64 j) hll g
      refine .inl ⟨_, H2, ?_, s', o', rfl, by rw [take_snoc hr, rowsL_snoc]; exact g2⟩
      rw [swashlaw07_Write_l2_eq]
      simp -implicitDefEqProofs (disch := omega) [hlt, i1, e2, swashlaw07_Write_l3k_x4])
    (fun e H' ⟨s, o, he, g⟩ => by
      subst he
      rw [List.take_length] at g
      refine ⟨.exit 2, _, H', ?_, by simp, rfl, .int .i64 p.rows.length, s, o, rfl, g⟩
      rw [swashlaw07_Write_l2_eq]
      simp -implicitDefEqProofs)
  have b5 := g.get 2 rfl
  have hrl : (rowsL n p.rows).length ≤ 1000 * 22 := by rw [rowsL_len]; exact Nat.mul_le_mul h2 (by omega)
  -- the entries
  obtain ⟨s6, o6, H6, z6, hr6, g⟩ := write_l4 k w hw (.int .i64 room) (.int .i64 n) (.int .i64 (16 + room)) p.ents (by omega) hsE g
  have hel := entsB_len w p.ents
  have q9 : ∀ H', lnS s4 H' = .ok (.int .i64 (ofS p.cls).length) H' := (g.row 0 rfl).len
  have q12 : ∀ H', lnS s5 H' = .ok (.int .i64 (rowsL n p.rows).length) H' := (g.row 1 rfl).len
  -- all together
  have g := g.more_row (Ext.refl _) (OwnO.nil encB _ 1) (fun b hb => by cases hb)
  simp only [List.cons_append, List.nil_append] at g
  obtain ⟨t1, u1, J1, f1, g⟩ := Put_star k g 4 rfl n 4 4 rfl (by omega) (by omega) (by omega) (by simp)
  simp only [List.set_cons_zero, List.set_cons_succ, List.nil_append] at g
  obtain ⟨t2, u2, J2, f2, g⟩ := Put_star k g 4 rfl (16 + room) 4 4 rfl (by omega) (by omega) (by omega) (by simp)
  simp only [List.set_cons_zero, List.set_cons_succ] at g
  obtain ⟨t3, u3, J3, f3, g⟩ := Put_star k g 4 rfl (16 + room + (ofS p.cls).length) 4 4 rfl (by omega) (by omega) (by omega) (by simp)
  simp only [List.set_cons_zero, List.set_cons_succ] at g
  obtain ⟨t4, u4, J4, f4, g⟩ := Put_star k g 4 rfl (16 + room + (ofS p.cls).length + (rowsL n p.rows).length) 4 4 rfl (by omega) (by omega) (by omega) (by simp)
  simp only [List.set_cons_zero, List.set_cons_succ] at g
  obtain ⟨a4, l4, c4, ht4⟩ := (g.row 4 rfl).shape
  obtain ⟨t5, u5, J5, f5, g⟩ := g.append (bytes := 1) 4 encB_len rfl (b := lv encB (List.replicate room 0)) (l2 := List.replicate room 0) (by rw [lv, List.length_replicate]; rfl) (by have := lv_first encB_len (List.replicate room 0) J4; exact this) (by simp; omega) (by decide)
  simp only [List.set_cons_zero, List.set_cons_succ] at g
  have f5' : azR 1 1 [.int .u8 0] t4 (.int .i64 room) J4 = .ok t5 J5 := by
    rw [ht4] at f5 ⊢
    rw [azR_eq encB_len a4 l4 c4 (0 : Int) _ rfl .i64 room (by omega)]
    exact f5
  obtain ⟨t6, u6, J6, f6, g⟩ := g.appendRow (bytes := 1) 4 0 encB_len rfl rfl (by simp; omega) (by decide)
  simp only [List.set_cons_zero, List.set_cons_succ] at g
  obtain ⟨t7, u7, J7, f7, g⟩ := g.appendRow (bytes := 1) 4 1 encB_len rfl rfl (by simp; omega) (by decide)
  simp only [List.set_cons_zero, List.set_cons_succ] at g
  obtain ⟨t8, u8, J8, f8, g⟩ := g.appendRow (bytes := 1) 4 3 encB_len rfl rfl (by simp; omega) (by decide)
  simp only [List.set_cons_zero, List.set_cons_succ] at g
  obtain ⟨L, hf⟩ := (g.own 4 rfl).freeze encB_len (fun n _ v hv => by simp at hv; subst hv; trivial) 6
  have hbytes : planBytes p w room = bytesOf (n : Int) 4 ++ bytesOf (16 + room : Int) 4 ++ bytesOf (16 + room + (ofS p.cls).length : Int) 4 ++ bytesOf (16 + room + (ofS p.cls).length + (rowsL n p.rows).length : Int) 4 ++ List.replicate room 0 ++ ofS p.cls ++ rowsL n p.rows ++ entsB w p.ents := by
    unfold planBytes
    rw [← hn]
  rw [hbytes]
  refine nrm_fz (v := t8) (H' := J8) ?_ hf g.ext (Flat.B _).alive
  rw [hB] at e1 b1 b2 b3 b4 b5
  have hlnE := fun H' => hsE.len H'
  simp -implicitDefEqProofs (disch := omega) [swashlaw07_Write, hrem, hN.1, e1, b1, e2, b2, e3, b3, hr4, swashlaw07_Write_l1k_x0, b4, hr5, swashlaw07_Write_l2k_x2, b5, hr6, swashlaw07_Write_l4k_x6, f1, q9, q12, f2, f3, f4, f5', f6, f7, f8, hlnE]
theorem Write_run (k : Nat) (p : Plan) (hp : p.ok) (w : Int) (hw : w = 0 ∨ w = 1 ∨ w = 2) (room : Nat) (hroom : room ≤ 1000) (h1 : p.cls.length ≤ 1000) (h2 : p.rows.length ≤ 1000) (h3 : p.ents.length ≤ 1000) (H : Heap) :
    R (T k) F.swashlaw07_Write [planV p, .int .i64 w, .int .i64 room] H = .ok (lv encB (planBytes p w room)) H := Write_any k p hp w hw room hroom h1 h2 h3 (Sl.lv H 4 p.ents)
end Go.Sw
end
section
namespace Go.Sw
open Go.RowKit
theorem twos_get (l : List Int) (pre rest : List Int) (i : Nat) (x : Int) (hx : l[i]? = some x) (hb : 0 ≤ x ∧ x < 65536) (p : Int) (hp : p = pre.length + 2 * i) : uS (pre ++ (twos l ++ rest)) p 2 = some x := by
  obtain ⟨hi, hg⟩ := List.getElem?_eq_some_iff.1 hx
  have e : twos l = twos (l.take i) ++ (bytesOf x 2 ++ twos (l.drop (i + 1))) := by
    have : l = l.take i ++ ([x] ++ l.drop (i + 1)) := by
      rw [← hg, List.singleton_append, ← List.drop_eq_getElem_cons hi, List.take_append_drop]
    conv => lhs; rw [this]
    simp [twos]
  rw [e, ← List.append_assoc]
  have h := uS_at (pre ++ twos (l.take i)) (twos (l.drop (i + 1)) ++ rest) (n := x) (k := 2) p 2 (by rw [List.length_append, twos_len, List.length_take]; omega) rfl hb.1 (by simpa using hb.2)
  simpa [List.append_assoc] using h
theorem twos_flat (n : Nat) : ∀ rs : List (List Int), rowsL n rs = twos (rs.map (rowL n)).flatten
  | [] => rfl
  | r :: rs => by
    have ih := twos_flat n rs
    unfold rowsL at ih ⊢
    rw [List.map_cons, List.flatten_cons, ih]
    simp [twos]
theorem flat_get {n : Nat} : ∀ {rs : List (List Int)} {s i : Nat} {r : List Int}, (∀ r, r ∈ rs → r.length = n) → rs[s]? = some r → i < n → rs.flatten[n * s + i]? = r[i]?
  | [], s, i, r, _, h, _ => by simp at h
  | q :: rs, 0, i, r, hl, h, hi => by
    simp at h
    subst h
    have := hl q (by simp)
    rw [List.flatten_cons, Nat.mul_zero, Nat.zero_add, List.getElem?_append_left (by omega)]
  | q :: rs, s + 1, i, r, hl, h, hi => by
    have h1 := hl q (by simp)
    have := flat_get (s := s) (i := i) (fun r hr => hl r (List.mem_cons_of_mem _ hr)) (by simpa using h) hi
    rw [List.flatten_cons, List.getElem?_append_right (by rw [h1, Nat.mul_succ]; omega), h1, ← this]
    congr 1
    rw [Nat.mul_succ]; omega
theorem restS_all (b : List Int) : restS b 0 = some b := by
  unfold restS
  rw [if_pos ⟨Int.le_refl _, by omega⟩]
  rfl
theorem rowK_plan {n : Nat} (hn : 0 < n) {rs : List (List Int)} (hb : ∀ r, r ∈ rs → Byt r) (x : List Int) {s : Nat} {r : List Int} (hr : rs[s]? = some r) : rowK (rowsL n rs ++ x) n s = some (rowL n r) := by
  have hs := (List.getElem?_eq_some_iff.1 hr).1
  have hlen : (n * 2) * (s + 1) ≤ rs.length * (n * 2) := by rw [Nat.mul_comm]; exact Nat.mul_le_mul_right _ hs
  have hsome : (rowK (rowsL n rs ++ x) n s).isSome = true := by
    rw [rowK_iff (by omega), List.length_append, rowsL_len]
    have h2 : (2 * (n : Int) * ((s : Int) + 1)) = (((n * 2) * (s + 1) : Nat) : Int) := by simp [Int.mul_comm]
    rw [h2]
    omega
  obtain ⟨q, hq⟩ := Option.isSome_iff_exists.1 hsome
  have hat := row_at (restS_all _) (show (0 : Int) < n by omega) hq
  rw [hq, hat]
  congr 1
  rw [Int.toNat_natCast]
  unfold rowL
  apply List.map_congr_left
  intro i hi
  have hi := List.mem_range.1 hi
  have hg : (rs.map (rowL n)).flatten[n * s + i]? = some (r[i]?.getD 0) := by
    rw [flat_get (r := rowL n r) (fun q hq => by obtain ⟨p, _, rfl⟩ := List.mem_map.1 hq; exact rowL_len _ _) (by rw [List.getElem?_map, hr]; rfl) hi]
    unfold rowL
    rw [List.getElem?_map, List.getElem?_range hi]
    rfl
  have hbd : 0 ≤ r[i]?.getD 0 ∧ r[i]?.getD 0 < 256 := by
    cases h : r[i]? with
    | none => simp
    | some y => exact hb r (List.mem_of_getElem? hr) y (List.mem_of_getElem? h)
  rw [twos_flat]
  have := twos_get _ [] x (n * s + i) _ hg ⟨hbd.1, by omega⟩ (0 + ((n : Int) * s + i) * 2) (by simp; omega)
  rw [List.nil_append] at this
  rw [gU_some this]
def planRoom (p : Plan) (w : Int) (rm : List Int) : List Int :=
  bytesOf (planN p : Int) 4 ++ (bytesOf (16 + rm.length : Int) 4 ++ (bytesOf (16 + rm.length + (ofS p.cls).length : Int) 4 ++ (bytesOf (16 + rm.length + (ofS p.cls).length + (rowsL (planN p) p.rows).length : Int) 4 ++ (rm ++ (ofS p.cls ++ (rowsL (planN p) p.rows ++ entsB w p.ents))))))
theorem planBytes_room (p : Plan) (w : Int) (room : Nat) : planBytes p w room = planRoom p w (List.replicate room 0) := by
  unfold planBytes planRoom
  simp [List.append_assoc]
def tabOf (cls : List Int) : Int × List Pt := (8, if cls = [] then [] else [⟨0, (cls.length : Int) - 1, cls⟩])
theorem twos_list (l : List Int) (pre rest : List Int) (hb : ∀ x, x ∈ l → 0 ≤ x ∧ x < 65536) (i : Int) (hi : i = pre.length) : listS (pre ++ (twos l ++ rest)) i l.length 2 = some l := by
  have hs : (listS (pre ++ (twos l ++ rest)) i l.length 2).isSome = true := by
    rw [listS_isSome (by omega), rowsB_iff (by omega)]
    simp [twos_len]
    omega
  obtain ⟨vs, hv⟩ := Option.isSome_iff_exists.1 hs
  rw [hv]
  congr 1
  have hlen : vs.length = l.length := by
    unfold listS at hv
    obtain ⟨r, _, rfl⟩ := Option.map_eq_some_iff.1 hv
    simp
  apply List.ext_getElem?
  intro j
  by_cases hj : j < l.length
  · obtain ⟨x, hx⟩ : ∃ x, l[j]? = some x := ⟨_, List.getElem?_eq_getElem hj⟩
    rw [listS_get (by omega) hv j (by omega), hx]
    exact twos_get l pre rest j x hx (hb x (List.mem_of_getElem? hx)) _ (by omega)
  · rw [List.getElem?_eq_none (by omega), List.getElem?_eq_none (by omega)]
theorem look_ofS (cls : List Int) (hb : ∀ x, x ∈ cls → 0 ≤ x ∧ x < 65536) (hl : cls.length ≤ 65535) (rest : List Int) (g : Int) : lookS (ofS cls ++ rest) g 2 = some (tabOf cls) := by
  have h0 : uS (ofS cls ++ rest) 0 2 = some 8 := by
    have := uS_at [] (bytesOf 0 2 ++ (bytesOf cls.length 2 ++ (twos cls ++ rest))) (n := 8) (k := 2) 0 2 rfl rfl (by omega) (by decide)
    simpa [ofS, List.append_assoc] using this
  have h2 : uS (ofS cls ++ rest) 2 2 = some 0 := by
    have := uS_at (bytesOf 8 2) (bytesOf cls.length 2 ++ (twos cls ++ rest)) (n := 0) (k := 2) 2 2 (by simp) rfl (by omega) (by decide)
    simpa [ofS, List.append_assoc] using this
  have h4 : uS (ofS cls ++ rest) (2 + 2) 2 = some (cls.length : Int) := by
    have := uS_at (bytesOf 8 2 ++ bytesOf 0 2) (twos cls ++ rest) (n := cls.length) (k := 2) (2 + 2) 2 (by simp) rfl (by omega) (by simp; omega)
    simpa [ofS, List.append_assoc] using this
  have h6 : listS (ofS cls ++ rest) (2 + 4) cls.length 2 = some cls := by
    have := twos_list cls (bytesOf 8 2 ++ bytesOf 0 2 ++ bytesOf cls.length 2) rest hb (2 + 4) (by simp)
    simpa [ofS, List.append_assoc] using this
  unfold lookS partsS
  rw [h0, Option.bind_some]
  simp only [show ¬ ((8 : Int) = 0) by decide, show ¬ ((8 : Int) = 2) by decide, show ¬ ((8 : Int) = 4) by decide, show ¬ ((8 : Int) = 6) by decide, if_false, if_true]
  unfold trimS
  rw [h2, Option.bind_some, h4, Option.bind_some, if_pos (by omega), h6, Option.map_some, Option.bind_some]
  unfold tabOf
  by_cases hc : cls = []
  · subst hc; rfl
  · rw [if_neg hc, if_neg (show ¬ ((cls.length : Int) = 0) by have := List.length_pos_iff.2 hc; omega)]
    simp [risesS]
theorem pieces_of (p : Plan) (w : Int) (rm more : List Int) (hrm : rm.length ≤ 1000) (h1 : p.cls.length ≤ 1000) (h2 : p.rows.length ≤ 1000) (hn : planN p ≤ 11) :
    let b := planRoom p w rm ++ more
    uS b 0 4 = some (planN p : Int) ∧ uS b 4 4 = some (16 + rm.length : Int) ∧ restS b (16 + rm.length : Int) = some (ofS p.cls ++ (rowsL (planN p) p.rows ++ (entsB w p.ents ++ more))) ∧
    uS b 8 4 = some (16 + rm.length + (ofS p.cls).length : Int) ∧ restS b (16 + rm.length + (ofS p.cls).length : Int) = some (rowsL (planN p) p.rows ++ (entsB w p.ents ++ more)) ∧
    uS b 12 4 = some (16 + rm.length + (ofS p.cls).length + (rowsL (planN p) p.rows).length : Int) ∧ restS b (16 + rm.length + (ofS p.cls).length + (rowsL (planN p) p.rows).length : Int) = some (entsB w p.ents ++ more) := by
  intro b
  have hofl : (ofS p.cls).length = 6 + p.cls.length * 2 := by unfold ofS; simp [twos_len]; omega
  have hrl : (rowsL (planN p) p.rows).length ≤ 1000 * 22 := by rw [rowsL_len]; exact Nat.mul_le_mul h2 (by omega)
  have rest : ∀ (pre q : List Int) (i : Int), i = pre.length → restS (pre ++ q) i = some q := fun pre q i hi => by
    subst hi
    unfold restS
    rw [if_pos ⟨by omega, by simp; omega⟩]
    simp
  have hb : b = bytesOf (planN p : Int) 4 ++ (bytesOf (16 + rm.length : Int) 4 ++ (bytesOf (16 + rm.length + (ofS p.cls).length : Int) 4 ++ (bytesOf (16 + rm.length + (ofS p.cls).length + (rowsL (planN p) p.rows).length : Int) 4 ++ (rm ++ (ofS p.cls ++ (rowsL (planN p) p.rows ++ (entsB w p.ents ++ more))))))) := by
    show planRoom p w rm ++ more = _
    unfold planRoom
    simp only [List.append_assoc]
  rw [hb]
  refine ⟨?_, ?_, ?_, ?_, ?_, ?_, ?_⟩
  · exact uS_at [] _ 0 4 rfl rfl (by omega) (by simp; omega)
  · exact uS_at (bytesOf (planN p : Int) 4) _ 4 4 (by simp) rfl (by omega) (by simp; omega)
  · have := rest (bytesOf (planN p : Int) 4 ++ (bytesOf (16 + rm.length : Int) 4 ++ (bytesOf (16 + rm.length + (ofS p.cls).length : Int) 4 ++ (bytesOf (16 + rm.length + (ofS p.cls).length + (rowsL (planN p) p.rows).length : Int) 4 ++ rm)))) (ofS p.cls ++ (rowsL (planN p) p.rows ++ (entsB w p.ents ++ more))) (16 + rm.length) (by simp; omega)
    simpa only [List.append_assoc] using this
  · have := uS_at (bytesOf (planN p : Int) 4 ++ bytesOf (16 + rm.length : Int) 4) (bytesOf (16 + rm.length + (ofS p.cls).length + (rowsL (planN p) p.rows).length : Int) 4 ++ (rm ++ (ofS p.cls ++ (rowsL (planN p) p.rows ++ (entsB w p.ents ++ more))))) (n := 16 + rm.length + (ofS p.cls).length) (k := 4) 8 4 (by simp) rfl (by omega) (by simp; omega)
    simpa only [List.append_assoc] using this
  · have := rest (bytesOf (planN p : Int) 4 ++ (bytesOf (16 + rm.length : Int) 4 ++ (bytesOf (16 + rm.length + (ofS p.cls).length : Int) 4 ++ (bytesOf (16 + rm.length + (ofS p.cls).length + (rowsL (planN p) p.rows).length : Int) 4 ++ (rm ++ ofS p.cls))))) (rowsL (planN p) p.rows ++ (entsB w p.ents ++ more)) (16 + rm.length + (ofS p.cls).length) (by simp; omega)
    simpa only [List.append_assoc] using this
  · have := uS_at (bytesOf (planN p : Int) 4 ++ bytesOf (16 + rm.length : Int) 4 ++ bytesOf (16 + rm.length + (ofS p.cls).length : Int) 4) (rm ++ (ofS p.cls ++ (rowsL (planN p) p.rows ++ (entsB w p.ents ++ more)))) (n := 16 + rm.length + (ofS p.cls).length + (rowsL (planN p) p.rows).length) (k := 4) 12 4 (by simp) rfl (by omega) (by simp; omega)
    simpa only [List.append_assoc] using this
  · have := rest (bytesOf (planN p : Int) 4 ++ (bytesOf (16 + rm.length : Int) 4 ++ (bytesOf (16 + rm.length + (ofS p.cls).length : Int) 4 ++ (bytesOf (16 + rm.length + (ofS p.cls).length + (rowsL (planN p) p.rows).length : Int) 4 ++ (rm ++ (ofS p.cls ++ rowsL (planN p) p.rows)))))) (entsB w p.ents ++ more) (16 + rm.length + (ofS p.cls).length + (rowsL (planN p) p.rows).length) (by simp; omega)
    simpa only [List.append_assoc] using this
theorem plan_mach (p : Plan) (hp : p.ok) (w : Int) (rm more : List Int) (hrm : rm.length ≤ 1000) (h1 : p.cls.length ≤ 1000) (h2 : p.rows.length ≤ 1000) (g : Int) :
    machS (planRoom p w rm ++ more) g w = (closeA (rowsL (planN p) p.rows ++ (entsB w p.ents ++ more)) (entsB w p.ents ++ more) (planN p) w 2).map fun x => ⟨planN p, tabOf p.cls, x.1, x.2⟩ := by
  have hN := planN_eq p hp.2.2
  obtain ⟨e1, e2, e3, e4, e5, e6, e7⟩ := pieces_of p w rm more hrm h1 h2 hN.2
  have hn4 : 4 ≤ planN p := by unfold planN; omega
  unfold machS
  rw [e1, Option.bind_some, if_pos (by omega), e2, Option.bind_some, e3, Option.bind_some, look_ofS p.cls (fun x hx => by have := hp.1 x hx; omega) (by omega) _ g, Option.bind_some, e4, Option.bind_some, e5, Option.bind_some, e6, Option.bind_some, e7, Option.bind_some]
theorem needE_mono {ev : List Int} {w : Int} {N M : Nat} (h : N ≤ M) {es fs : List En} (h1 : entsTo ev w N = some es) (h2 : entsTo ev w M = some fs) : needE es ≤ needE fs := by
  have h3 := mapO_prefix h h2
  have h4 : mapO (entK ev w) (List.range N) = some es := h1
  rw [h4] at h3
  injection h3 with h3
  rw [h3]
  have := List.take_append_drop N fs
  conv => rhs; rw [← this]
  unfold needE
  rw [List.map_append, needL_append]
  omega
theorem closeS_few {rv ev : List Int} (hbE : Byt ev) {n w : Int} : ∀ (f s : Nat) x, (∀ (N : Nat) rs es, rowsTo rv n s = some rs → needR rs ≤ (N : Int) → entsTo ev w N = some es → (s : Int) ≤ needE es) → closeS rv ev n w f s = some x → needE x.2 = x.1.length
  | 0, _, _, _, h => by cases h
  | f + 1, s, x, hi, h => by
    simp only [closeS] at h
    obtain ⟨rs, e1, h⟩ := Option.bind_eq_some_iff.1 h
    obtain ⟨es, e2, h⟩ := Option.bind_eq_some_iff.1 h
    have hn := needR_nonneg rs
    have hE := needE_le hbE e2
    split at h
    · rename_i hs
      injection h with h
      subst h
      have := hi (needR rs).toNat rs es e1 (by omega) e2
      have hl : rs.length = s := by have := mapO_len e1; simpa using this
      dsimp only
      omega
    · rename_i hs
      refine closeS_few hbE f _ x (fun N rs' es' h1 h2 h3 => ?_) h
      have h4 := needR_mono (s := s) (t := (needE es).toNat) (by omega) e1 h1
      have := needE_mono (N := (needR rs).toNat) (M := N) (by omega) e2 h3
      omega
end Go.Sw
end
section
namespace Go.Sw
open Go.RowKit
theorem small07_run (k : Nat) (p : Plan) (H : Heap) : R (T k) F.swashlaw07_small [planV p] H = .ok (.bool (decide (p.cls.length ≤ 40 ∧ p.rows.length ≤ 20 ∧ p.ents.length ≤ 40))) H := by
  rw [swashlaw07_small_R]
  refine nrm_gc ⟨_, ?_, (Ext.refl H).push ⟨planCells p, 1, false⟩⟩ (.bool _)
  by_cases h1 : p.cls.length ≤ 40
  · have h1' : (p.cls.length : Int) ≤ 40 := by omega
    by_cases h2 : p.rows.length ≤ 20
    · have h2' : (p.rows.length : Int) ≤ 20 := by omega
      by_cases h3 : p.ents.length ≤ 40
      · have h3' : (p.ents.length : Int) ≤ 40 := by omega
        simp -implicitDefEqProofs [swashlaw07_small, h1, h2, h3, h1', h2', h3']
      · have h3' : ¬ (p.ents.length : Int) ≤ 40 := by omega
        simp -implicitDefEqProofs [swashlaw07_small, h1, h2, h3, h1', h2', h3']
    · have h2' : ¬ (p.rows.length : Int) ≤ 20 := by omega
      simp -implicitDefEqProofs [swashlaw07_small, h1, h2, h1', h2']
  · have h1' : ¬ (p.cls.length : Int) ≤ 40 := by omega
    simp -implicitDefEqProofs [swashlaw07_small, h1, h1']
theorem planRoom_byt {p : Plan} (hp : p.ok) (w : Int) {rm : List Int} (hrm : Byt rm) : Byt (planRoom p w rm) := by
  have tw : ∀ l, Byt (twos l) := fun l => Byt.flat fun r hr => by obtain ⟨c, _, rfl⟩ := List.mem_map.1 hr; exact bytesOf_byt _ _
  unfold planRoom
  refine (bytesOf_byt _ _).app ((bytesOf_byt _ _).app ((bytesOf_byt _ _).app ((bytesOf_byt _ _).app (hrm.app (Byt.app ?_ (Byt.app ?_ ?_))))))
  · unfold ofS
    exact (((bytesOf_byt _ _).app (bytesOf_byt _ _)).app (bytesOf_byt _ _)).app (tw _)
  · exact Byt.flat fun r hr => by obtain ⟨c, _, rfl⟩ := List.mem_map.1 hr; exact tw _
  · refine Byt.flat fun r hr => ?_
    obtain ⟨e, _, rfl⟩ := List.mem_map.1 hr
    unfold entB
    refine (((bytesOf_byt _ _).app (bytesOf_byt _ _)).app ?_).app ?_
    · split
      · exact bytesOf_byt _ _
      · exact Byt.nil
    · split
      · exact bytesOf_byt _ _
      · exact Byt.nil
theorem rep_byt (n : Nat) : Byt (List.replicate n 0) := fun x hx => by
  have := List.eq_of_mem_replicate hx
  omega
theorem planRoom_len {p : Plan} (hp : p.ok) (w : Int) {rm : List Int} (hrm : rm.length ≤ 1000) (h1 : p.cls.length ≤ 1000) (h2 : p.rows.length ≤ 1000) (h3 : p.ents.length ≤ 1000) : (planRoom p w rm).length ≤ 100000 := by
  have hN := planN_eq p hp.2.2
  have hofl : (ofS p.cls).length = 6 + p.cls.length * 2 := by unfold ofS; simp [twos_len]; omega
  have hrl : (rowsL (planN p) p.rows).length ≤ 1000 * 22 := by rw [rowsL_len]; exact Nat.mul_le_mul h2 (by omega)
  have hel := entsB_len w p.ents
  unfold planRoom
  simp
  omega
theorem row_En {r : List Da} {cs : List Value} (h : LayRow [.int .i64, .int .i64, .int .i64, .int .i64] r cs) : ∃ p : En, cs = encEn p ∧ True := by
  obtain ⟨_, v1, _, _, rfl, h1, h⟩ := h.head
  obtain ⟨_, v2, _, _, rfl, h2, h⟩ := h.head
  obtain ⟨_, v3, _, _, rfl, h3, h⟩ := h.head
  obtain ⟨_, v4, _, _, rfl, h4, h⟩ := h.head
  obtain rfl := h.done
  obtain ⟨a, rfl, _⟩ := h1.intv
  obtain ⟨b, rfl, _⟩ := h2.intv
  obtain ⟨c, rfl, _⟩ := h3.intv
  obtain ⟨d, rfl, _⟩ := h4.intv
  exact ⟨⟨a, b, c, d⟩, rfl, trivial⟩
theorem row_BR {r : List Da} {cs : List Value} (h : LayRow [.slice [.int .u8]] r cs) : ∃ b : List Int, cs = encBR b ∧ Byt b := by
  obtain ⟨_, v1, _, _, rfl, h1, h⟩ := h.head
  obtain rfl := h.done
  obtain ⟨b, rfl, hb⟩ := Lay.list (enc := encB) (ok := fun n => 0 ≤ n ∧ n < 256) (fun r cs h => row_B h) h1
  exact ⟨b, rfl, hb⟩
abbrev planSh : ASh := .agg [.slice [.int .u8], .slice [.slice [.int .u8]], .slice [.int .i64, .int .i64, .int .i64, .int .i64], .int .u8]
theorem arg_plan {v : Value} (h : ArgLay planSh v) : ∃ p, v = planV p ∧ p.ok := by
  cases h with
  | agg ss ds vs h =>
    obtain ⟨_, v1, _, _, rfl, h1, h⟩ := h.head
    obtain ⟨_, v2, _, _, rfl, h2, h⟩ := h.head
    obtain ⟨_, v3, _, _, rfl, h3, h⟩ := h.head
    obtain ⟨_, v4, _, _, rfl, h4, h⟩ := h.head
    obtain rfl := h.done
    obtain ⟨a, rfl, wa⟩ := Lay.list (enc := encB) (ok := fun n => 0 ≤ n ∧ n < 256) (fun r cs h => row_B h) h1
    obtain ⟨b, rfl, wb⟩ := Lay.list (enc := encBR) (ok := Byt) (fun r cs h => row_BR h) h2
    obtain ⟨c, rfl, wc⟩ := Lay.list (enc := encEn) (ok := fun _ => True) (fun r cs h => row_En h) h3
    obtain ⟨d, rfl, wd⟩ := h4.intv
    exact ⟨⟨a, b, c, d⟩, rfl, wa, wb, wf_u8 wd⟩
end Go.Sw
end
section
namespace Go.Sw
open Go.RowKit
def mx (l : List Int) : Int := l.foldl max 0
theorem mx_snoc (l : List Int) (x : Int) : mx (l ++ [x]) = max (mx l) x := by simp [mx]
theorem mx_need : ∀ (l : List Int) (a : Int), 0 ≤ a → (∀ x, x ∈ l → 0 ≤ x) → l.foldl (fun m x => max m (x + 1)) (a + 1) = l.foldl max a + 1
  | [], a, _, _ => rfl
  | x :: l, a, ha, h => by
    simp only [List.foldl_cons]
    have hx := h x (by simp)
    rw [show max (a + 1) (x + 1) = max a x + 1 by omega]
    exact mx_need l (max a x) (by omega) fun y hy => h y (by simp [hy])
theorem needL_mx {l : List Int} (hne : l ≠ []) (h : ∀ x, x ∈ l → 0 ≤ x) : needL l = mx l + 1 := by
  cases l with
  | nil => exact absurd rfl hne
  | cons x l =>
    have hx := h x (by simp)
    unfold needL mx
    simp only [List.foldl_cons]
    rw [show max (0 : Int) (x + 1) = max 0 x + 1 by omega]
    exact mx_need l (max 0 x) (by omega) fun y hy => h y (by simp [hy])
def cellP (rows : List (List Int)) (s c : Nat) : Int := ((rows[s]?).bind fun r => r[c]?).getD 0
def cellsP (rows : List (List Int)) (n s : Nat) : List Int := ((List.range s).map fun s => (List.range n).map (cellP rows s)).flatten
theorem cellsP_succ (rows : List (List Int)) (n s : Nat) : cellsP rows n (s + 1) = cellsP rows n s ++ (List.range n).map (cellP rows s) := by
  unfold cellsP
  rw [List.range_succ, List.map_append, List.flatten_append]
  simp
theorem cellP_bound {rows : List (List Int)} (hb : ∀ r, r ∈ rows → Byt r) (s c : Nat) : 0 ≤ cellP rows s c ∧ cellP rows s c < 256 := by
  unfold cellP
  cases h : rows[s]? with
  | none => simp
  | some r =>
    simp only [Option.bind_some]
    cases h2 : r[c]? with
    | none => simp
    | some y => exact hb r (List.mem_of_getElem? h) y (List.mem_of_getElem? h2)
theorem mx_bound {l : List Int} (h : ∀ x, x ∈ l → 0 ≤ x ∧ x < 256) : 0 ≤ mx l ∧ mx l < 256 := by
  have : ∀ (l : List Int) (a : Int), 0 ≤ a → a < 256 → (∀ x, x ∈ l → 0 ≤ x ∧ x < 256) → 0 ≤ l.foldl max a ∧ l.foldl max a < 256 := by
    intro l
    induction l with
    | nil => intro a h0 h1 _; exact ⟨h0, h1⟩
    | cons x l ih => intro a h0 h1 h; have := h x (by simp); exact ih (max a x) (by omega) (by omega) fun y hy => h y (by simp [hy])
  exact this l 0 (by omega) (by omega) h
theorem cellsP_bound {rows : List (List Int)} (hb : ∀ r, r ∈ rows → Byt r) (n s : Nat) : ∀ x, x ∈ cellsP rows n s → 0 ≤ x ∧ x < 256 := fun x hx => by
  obtain ⟨l, hl, hx⟩ := List.mem_flatten.1 hx
  obtain ⟨t, _, rfl⟩ := List.mem_map.1 hl
  obtain ⟨c, _, rfl⟩ := List.mem_map.1 hx
  exact cellP_bound hb t c
theorem plan_few {p : Plan} (hp : p.ok) {w : Int} (hw : 0 ≤ w ∧ w ≤ 2) {rm : List Int} (hrm : rm.length ≤ 1000) (h1 : p.cls.length ≤ 1000) (h2 : p.rows.length ≤ 1000) {g : Int} {m : Mach} (h : machS (planRoom p w rm) g w = some m) :
    needE m.ents = m.rows.length ∧ (m.ents.length : Int) = needR m.rows ∧ m.classes = planN p ∧ (m.rows.length ≤ p.rows.length → m.rows.flatten = cellsP p.rows (planN p) m.rows.length) := by
  have e := plan_mach p hp w rm [] hrm h1 h2 g
  rw [List.append_nil, h] at e
  obtain ⟨x, hx, hm⟩ := Option.map_eq_some_iff.1 e.symm
  have hb := planRoom_byt hp w (rep_byt 0)
  have hbE : Byt (entsB w p.ents ++ []) := by
    rw [List.append_nil]
    refine Byt.flat fun r hr => ?_
    obtain ⟨e, _, rfl⟩ := List.mem_map.1 hr
    unfold entB
    refine (((bytesOf_byt _ _).app (bytesOf_byt _ _)).app ?_).app ?_
    · split
      · exact bytesOf_byt _ _
      · exact Byt.nil
    · split
      · exact bytesOf_byt _ _
      · exact Byt.nil
  have hbR : Byt (rowsL (planN p) p.rows ++ (entsB w p.ents ++ [])) := Byt.app (Byt.flat fun r hr => by
    obtain ⟨c, _, rfl⟩ := List.mem_map.1 hr
    exact Byt.flat fun r hr => by obtain ⟨c, _, rfl⟩ := List.mem_map.1 hr; exact bytesOf_byt _ _) hbE
  have hN := planN_eq p hp.2.2
  have hn4 : 4 ≤ planN p := by unfold planN; omega
  have hf := closeS_few hbE _ _ x (fun N rs es _ _ _ => by unfold needE; omega) hx
  obtain ⟨c1, c2, c3, c4, c5, c6, c7, c8, _⟩ := closeS_ok hbR hbE (by omega) hw _ _ x (by omega) (by omega) hx
  subst hm
  refine ⟨hf, c8, rfl, fun hle => ?_⟩
  dsimp only at hle ⊢
  have : x.1 = (List.range x.1.length).map fun s => (List.range (planN p)).map (cellP p.rows s) := by
    apply List.ext_getElem?
    intro s
    by_cases hs : s < x.1.length
    · obtain ⟨y, g1, g2⟩ := mapO_at c6 hs
      obtain ⟨r, hr⟩ : ∃ r, p.rows[s]? = some r := ⟨_, List.getElem?_eq_getElem (by omega)⟩
      rw [rowK_plan (by omega) hp.2.1 _ hr] at g1
      injection g1 with g1
      rw [g2, List.getElem?_map, List.getElem?_range hs, ← g1]
      simp only [rowL, Option.map_some]
      congr 1
      apply List.map_congr_left
      intro c _
      simp [cellP, hr]
    · rw [List.getElem?_eq_none (by omega), List.getElem?_eq_none (by simp; omega)]
  conv => lhs; rw [this]
  rfl
theorem closed_l2 (k : Nat) {m : Mach} (hm : m.ok) (x2 x8 x9 x43 x44 : Value) (s : Nat) (hs : s < m.rows.length) (H : Heap) :
    ∃ a H', loopN (swashlaw07_StateClosed_l2 k (R (T k))) loopFuel [(2, x2), (6, machV m), (8, x8), (9, x9), (10, .int .i64 s), (43, x43), (44, x44), (48, .int .i64 m.classes), (49, .int .i64 0)] H =
      .ok (.exit 2, [(2, x2), (6, machV m), (8, x8), (9, x9), (10, .int .i64 s), (43, x43), (44, x44), (48, .int .i64 m.classes), (49, a), (50, .bool false)]) H' ∧ Ext H H' := by
  have hcl := hm.cl
  have hel := hm.elen
  have htwo := hm.two
  obtain ⟨c, hc⟩ := Int.eq_ofNat_of_zero_le (show 0 ≤ m.classes by omega)
  obtain ⟨x, e', H1, hr', rfl, ⟨a, rfl⟩, hx⟩ := loop_up (body := swashlaw07_StateClosed_l2 k (R (T k))) c
    (fun j e H' => e = [(2, x2), (6, machV m), (8, x8), (9, x9), (10, .int .i64 s), (43, x43), (44, x44), (48, .int .i64 m.classes), (49, .int .i64 j)] ∧ Ext H H')
    (fun x e H' => x = .exit 2 ∧ (∃ a, e = [(2, x2), (6, machV m), (8, x8), (9, x9), (10, .int .i64 s), (43, x43), (44, x44), (48, .int .i64 m.classes), (49, a), (50, .bool false)]) ∧ Ext H H')
    (e0 := [(2, x2), (6, machV m), (8, x8), (9, x9), (10, .int .i64 s), (43, x43), (44, x44), (48, .int .i64 m.classes), (49, .int .i64 0)]) (H0 := H) ⟨rfl, Ext.refl H⟩ (by omega)
    (fun j e H' hj ⟨he, hx⟩ => by
      subst he
      have hlt : (j : Int) < m.classes := by omega
      obtain ⟨r, x, en, _, _, _, hen, hst⟩ := stepS_some hm (s := s) (c := j) (by omega)
      have h1 := fun H => Step_run k m hm s j H
      rw [hst] at h1
      have hb := hm.ent en (List.mem_of_getElem? hen)
      have c1 : ¬ en.next < 0 := by omega
      have c2 : ¬ en.next ≥ m.rows.length := by omega
      have hstt := fun H => States_run k m H
      unfold encEA at h1
      refine .inl ⟨_, H'.push ⟨encEn en, 1, false⟩, ?_, rfl, hx.push _⟩
      rw [swashlaw07_StateClosed_l2_eq]
      simp -implicitDefEqProofs (disch := omega) [hlt, h1, c1, c2, hstt])
    (fun e H' ⟨he, hx⟩ => by
      subst he
      refine ⟨.exit 2, _, H', ?_, by simp, rfl, ⟨.int .i64 c, rfl⟩, hx⟩
      rw [swashlaw07_StateClosed_l2_eq]
      simp -implicitDefEqProofs [hc])
  exact ⟨a, H1, hr', hx⟩
theorem closed_l5 (k : Nat) {p : Plan} (hp : p.ok) (x6 x9 x89 x90 : Value) (q : Nat) (s n : Nat) (hn : n < 2 ^ 40) (hs : s < 2 ^ 40) (L : List Int) (hL : ∀ x, x ∈ L → 0 ≤ x ∧ x < 256) (H : Heap) (hq : H.get q = some ⟨planCells p, 1, false⟩) :
    ∃ a, loopN (swashlaw07_StateClosed_l5 k (R (T k))) loopFuel [(2, ptrV q), (6, x6), (8, .int .i64 (mx L)), (9, x9), (16, .int .i64 s), (89, x89), (90, x90), (94, .int .i64 n), (95, .int .i64 0)] H =
      .ok (.exit 8, [(2, ptrV q), (6, x6), (8, .int .i64 (mx (L ++ (List.range n).map (cellP p.rows s)))), (9, x9), (16, .int .i64 s), (89, x89), (90, x90), (94, .int .i64 n), (95, a), (96, .bool false)]) H := by
  obtain ⟨x, e', H1, hr', rfl, rfl, a, rfl⟩ := loop_up (body := swashlaw07_StateClosed_l5 k (R (T k))) n
    (fun j e H' => H' = H ∧ e = [(2, ptrV q), (6, x6), (8, .int .i64 (mx (L ++ (List.range j).map (cellP p.rows s)))), (9, x9), (16, .int .i64 s), (89, x89), (90, x90), (94, .int .i64 n), (95, .int .i64 j)])
    (fun x e H' => H' = H ∧ x = .exit 8 ∧ ∃ a, e = [(2, ptrV q), (6, x6), (8, .int .i64 (mx (L ++ (List.range n).map (cellP p.rows s)))), (9, x9), (16, .int .i64 s), (89, x89), (90, x90), (94, .int .i64 n), (95, a), (96, .bool false)])
    (e0 := [(2, ptrV q), (6, x6), (8, .int .i64 (mx L)), (9, x9), (16, .int .i64 s), (89, x89), (90, x90), (94, .int .i64 n), (95, .int .i64 0)]) (H0 := H) ⟨rfl, by simp⟩ (by omega)
    (fun j e H' hj ⟨hH, he⟩ => by
      subst he hH
      have hlt : (j : Int) < n := by omega
      have hsn : mx (L ++ (List.range (j + 1)).map (cellP p.rows s)) = max (mx (L ++ (List.range j).map (cellP p.rows s))) (cellP p.rows s j) := by
        rw [List.range_succ, List.map_append, List.map_singleton, ← List.append_assoc, mx_snoc]
      have hb := mx_bound (l := L ++ (List.range j).map (cellP p.rows s)) fun x hx => by
        rcases List.mem_append.1 hx with h | h
        · exact hL x h
        · obtain ⟨c, _, rfl⟩ := List.mem_map.1 h; exact cellP_bound hp.2.1 s c
      rw [hsn]
      refine .inl ⟨_, _, ?_, rfl, rfl⟩
      rw [swashlaw07_StateClosed_l5_eq]
      generalize mx (L ++ (List.range j).map (cellP p.rows s)) = M at hb ⊢
      cases h : p.rows[s]? with
      | none =>
        have hs' : ¬ (s : Int) < p.rows.length := by have := List.getElem?_eq_none_iff.1 h; omega
        have hc0 : cellP p.rows s j = 0 := by unfold cellP; rw [h]; rfl
        have hm0 : max M 0 = M := by omega
        rw [hc0, hm0]
        simp -implicitDefEqProofs (disch := omega) [hlt, hq, hs', swashlaw07_StateClosed_j2_eq]
      | some r =>
        have hs' : (s : Int) < p.rows.length := by have := (List.getElem?_eq_some_iff.1 h).1; omega
        have i1 := fun H' => ixS_lvN encBR_len p.rows .i64 s r h H'
        cases h2 : r[j]? with
        | none =>
          have hj' : ¬ (j : Int) < r.length := by have := List.getElem?_eq_none_iff.1 h2; omega
          have hc0 : cellP p.rows s j = 0 := by unfold cellP; rw [h, Option.bind_some, h2]; rfl
          have hm0 : max M 0 = M := by omega
          rw [hc0, hm0]
          simp -implicitDefEqProofs (disch := omega) [hlt, hq, hs', i1, hj', swashlaw07_StateClosed_j2_eq]
        | some y =>
          have hj' : (j : Int) < r.length := by have := (List.getElem?_eq_some_iff.1 h2).1; omega
          have i2 := fun H' => ixS_lvN encB_len r .i64 j y h2 H'
          have hyb := hp.2.1 r (List.mem_of_getElem? h) y (List.mem_of_getElem? h2)
          have hc0 : cellP p.rows s j = y := by unfold cellP; rw [h, Option.bind_some, h2]; rfl
          have hmx : (if y > M then y else M) = max M y := by split <;> omega
          rw [hc0, ← hmx]
          simp -implicitDefEqProofs (disch := omega) [hlt, hq, hs', i1, hj', i2, swashlaw07_StateClosed_j1_eq])
    (fun e H' ⟨hH, he⟩ => by
      subst he hH
      refine ⟨.exit 8, _, _, ?_, by simp, rfl, rfl, .int .i64 n, rfl⟩
      rw [swashlaw07_StateClosed_l5_eq]
      simp -implicitDefEqProofs)
  exact ⟨a, hr'⟩
set_option maxHeartbeats 1000000 in
theorem StateClosed_run (p : Plan) (hp : p.ok) (n : Int) (hn : 0 ≤ n ∧ n < 256) : R (T F.swashlaw07_speaks) F.swashlaw07_StateClosed [planV p, .int .u8 n] Heap.empty = .ok (.bool true) Heap.empty := by
  generalize hk : F.swashlaw07_speaks = k
  have hs := speaks07_run k (by subst hk; rfl)
  clear hk
  rw [swashlaw07_StateClosed_R]
  generalize Heap.empty = H
  obtain ⟨B, hB⟩ : ∃ B : Blk, B = ⟨planCells p, 1, false⟩ := ⟨_, rfl⟩
  have hx1 : Ext H (H.push B) := (Ext.refl H).push _
  have hsm := fun H => small07_run k p H
  by_cases c1 : p.cls.length ≤ 40 ∧ p.rows.length ≤ 20 ∧ p.ents.length ≤ 40
  rotate_left
  · refine nrm_gc ⟨_, ?_, hx1⟩ (.bool _)
    rw [decide_eq_false c1] at hsm
    rw [hB]
    simp -implicitDefEqProofs (disch := omega) [swashlaw07_StateClosed, hs, hsm]
  rw [decide_eq_true c1] at hsm
  have hrem := fun H => bin_rem Prog 3 H .i64 n 3 (by decide)
  rw [mod3 hn.1] at hrem
  obtain ⟨w, hw⟩ : ∃ w, w = n % 3 := ⟨_, rfl⟩
  rw [← hw] at hrem
  have hw2 : w = 0 ∨ w = 1 ∨ w = 2 := by omega
  obtain ⟨b, hb⟩ : ∃ b, b = planRoom p w (List.replicate 0 0) := ⟨_, rfl⟩
  have hwr : ∀ H, R (T k) F.swashlaw07_Write [planV p, .int .i64 w, .int .i64 0] H = .ok (lv encB b) H := fun H => by
    have := Write_run k p hp w hw2 0 (by omega) (by omega) (by omega) (by omega) H
    rw [planBytes_room, ← hb] at this
    exact this
  have hbb : Byt b := by rw [hb]; exact planRoom_byt hp w (rep_byt 0)
  have hbl : b.length ≤ 100000 := by rw [hb]; exact planRoom_len hp w (by simp) (by omega) (by omega) (by omega)
  have hrd := fun H' => stateRead_run k (H := H') (Sl.lv H' 1 b) hbb 30 w (by omega)
  unfold machO machN at hrd
  rw [show badM 30 w = false by unfold badM; simp; omega] at hrd
  cases h : machS b 30 w with
  | none =>
    rw [h] at hrd
    simp [machP] at hrd
    refine nrm_gc ⟨_, ?_, hx1⟩ (.bool _)
    rw [hB]
    simp -implicitDefEqProofs (disch := omega) [swashlaw07_StateClosed, hs, hsm, hrem, hwr, hrd]
  | some m =>
    rw [h] at hrd
    simp [machP] at hrd
    have hok := machS_ok hbb (by omega) (by omega) (by omega) h
    have hfew := plan_few hp (w := w) (by omega) (rm := List.replicate 0 0) (by simp) (by omega) (by omega) (by rw [← hb]; exact h)
    obtain ⟨f1, f2, f3, f4⟩ := hfew
    have hcl := hok.cl
    have hel := hok.elen
    have htwo := hok.two
    have hN := planN_eq p hp.2.2
    have hstt := fun H => States_run k m H
    have hclr := fun H => Classes_run k m H
    -- closed
    obtain ⟨x, e', H2, hr2, rfl, ⟨a2, rfl⟩, x2⟩ := loop_up (body := swashlaw07_StateClosed_l1 k (R (T k))) m.rows.length
      (fun j e H' => e = [(2, ptrV H.n), (6, machV m), (8, .int .i64 0), (9, .int .i64 2), (43, .int .i64 m.rows.length), (44, .int .i64 j)] ∧ Ext (H.push B) H')
      (fun x e H' => x = .exit 0 ∧ (∃ a, e = [(2, ptrV H.n), (6, machV m), (8, .int .i64 0), (9, .int .i64 2), (43, .int .i64 m.rows.length), (44, a), (45, .bool false)]) ∧ Ext (H.push B) H')
      (e0 := [(2, ptrV H.n), (6, machV m), (8, .int .i64 0), (9, .int .i64 2), (43, .int .i64 m.rows.length), (44, .int .i64 0)]) (H0 := H.push B) ⟨rfl, Ext.refl _⟩ (by omega)
      (fun j e H' hj ⟨he, hx⟩ => by
        subst he
        have hlt : (j : Int) < m.rows.length := by omega
        obtain ⟨a, H3, e3, x3⟩ := closed_l2 k hok (ptrV H.n) (.int .i64 0) (.int .i64 2) (.int .i64 m.rows.length) (.int .i64 j) j hj H'
        refine .inl ⟨_, H3, ?_, rfl, hx.trans x3⟩
        rw [swashlaw07_StateClosed_l1_eq]
        simp -implicitDefEqProofs (disch := omega) [hlt, hclr, e3, swashlaw07_StateClosed_l2k_x2])
      (fun e H' ⟨he, hx⟩ => by
        subst he
        refine ⟨.exit 0, _, H', ?_, by simp, rfl, ⟨.int .i64 m.rows.length, rfl⟩, hx⟩
        rw [swashlaw07_StateClosed_l1_eq]
        simp -implicitDefEqProofs)
    -- the entries
    obtain ⟨s3, H3, e3, l3, x3⟩ := Entries_any k m hel H2
    have q3 := fun H' => l3.len H'
    obtain ⟨x, e', H4, hr4, rfl, ⟨a4, rfl⟩, x4⟩ := loop_up (body := swashlaw07_StateClosed_l3 k (R (T k))) m.ents.length
      (fun j e H' => e = [(2, ptrV H.n), (6, machV m), (8, .int .i64 0), (9, .int .i64 (needE (m.ents.take j))), (76, s3), (77, .int .i64 m.ents.length), (78, .int .i64 j)] ∧ Ext H3 H')
      (fun x e H' => x = .exit 4 ∧ (∃ a, e = [(2, ptrV H.n), (6, machV m), (8, .int .i64 0), (9, .int .i64 (needE m.ents)), (76, s3), (77, .int .i64 m.ents.length), (78, a), (79, .bool false)]) ∧ Ext H3 H')
      (e0 := [(2, ptrV H.n), (6, machV m), (8, .int .i64 0), (9, .int .i64 2), (76, s3), (77, .int .i64 m.ents.length), (78, .int .i64 0)]) (H0 := H3) ⟨by rw [List.take_zero]; rfl, Ext.refl _⟩ (by omega)
      (fun j e H' hj ⟨he, hx⟩ => by
        subst he
        have hlt : (j : Int) < m.ents.length := by omega
        obtain ⟨en, hen⟩ : ∃ en, m.ents[j]? = some en := ⟨_, List.getElem?_eq_getElem hj⟩
        have hb := hok.ent en (List.mem_of_getElem? hen)
        obtain ⟨q, i1, i2⟩ := ((l3.up hx).rd (by decide) encEn_len).2 j en hen
        have h0 : needE (m.ents.take (j + 1)) = max (needE (m.ents.take j)) (en.next + 1) := by
          rw [take_snoc hen]
          unfold needE
          rw [List.map_append, List.map_singleton, needL_snoc]
          omega
        have hmax : (if en.next + 1 > needE (m.ents.take j) then en.next + 1 else needE (m.ents.take j)) = needE (m.ents.take (j + 1)) := by rw [h0]; split <;> omega
        refine .inl ⟨_, H'.push ⟨encEn en, 1, false⟩, ?_, rfl, hx.push _⟩
        rw [swashlaw07_StateClosed_l3_eq, ← hmax]
        simp -implicitDefEqProofs (disch := omega) [hlt, i1, i2])
      (fun e H' ⟨he, hx⟩ => by
        subst he
        rw [List.take_length]
        refine ⟨.exit 4, _, H', ?_, by simp, rfl, ⟨.int .i64 m.ents.length, rfl⟩, hx⟩
        rw [swashlaw07_StateClosed_l3_eq]
        simp -implicitDefEqProofs)
    -- the greatest number
    have hq : H4.get H.n = some ⟨planCells p, 1, false⟩ := (x2.trans (x3.trans x4)).get (by rw [get_push_eq _ _ _ rfl, hB])
    obtain ⟨x, e', H5, hr5, rfl, rfl, a5, rfl⟩ := loop_up (body := swashlaw07_StateClosed_l4 k (R (T k))) m.rows.length
      (fun j e H' => H' = H4 ∧ e = [(2, ptrV H.n), (6, machV m), (8, .int .i64 (mx (cellsP p.rows (planN p) j))), (9, .int .i64 (needE m.ents)), (89, .int .i64 m.rows.length), (90, .int .i64 j)])
      (fun x e H' => H' = H4 ∧ x = .exit 6 ∧ ∃ a, e = [(2, ptrV H.n), (6, machV m), (8, .int .i64 (mx (cellsP p.rows (planN p) m.rows.length))), (9, .int .i64 (needE m.ents)), (89, .int .i64 m.rows.length), (90, a), (91, .bool false)])
      (e0 := [(2, ptrV H.n), (6, machV m), (8, .int .i64 0), (9, .int .i64 (needE m.ents)), (89, .int .i64 m.rows.length), (90, .int .i64 0)]) (H0 := H4) ⟨rfl, rfl⟩ (by omega)
      (fun j e H' hj ⟨hH, he⟩ => by
        subst he hH
        have hlt : (j : Int) < m.rows.length := by omega
        obtain ⟨a, e5⟩ := closed_l5 k hp (machV m) (.int .i64 (needE m.ents)) (.int .i64 m.rows.length) (.int .i64 j) H.n j (planN p) (by omega) (by omega) (cellsP p.rows (planN p) j) (cellsP_bound hp.2.1 _ _) H' hq
        rw [← cellsP_succ] at e5
        refine .inl ⟨_, _, ?_, rfl, rfl⟩
        rw [swashlaw07_StateClosed_l4_eq]
        simp -implicitDefEqProofs (disch := omega) [hlt, hclr, f3, e5, swashlaw07_StateClosed_l5k_x8])
      (fun e H' ⟨hH, he⟩ => by
        subst he hH
        refine ⟨.exit 6, _, _, ?_, by simp, rfl, rfl, .int .i64 m.rows.length, rfl⟩
        rw [swashlaw07_StateClosed_l4_eq]
        simp -implicitDefEqProofs)
    obtain ⟨s6, H6, e6, l6, x6⟩ := Entries_any k m hel H5
    have q6 := fun H' => l6.len H'
    have hcb := mx_bound (cellsP_bound hp.2.1 (planN p) m.rows.length)
    rw [hB] at hr2
    rw [f1] at hr4 hr5
    by_cases hlt : m.rows.length > p.rows.length
    · have hlt' : (m.rows.length : Int) > p.rows.length := by omega
      refine nrm_gc ⟨_, ?_, hx1.trans (x2.trans (x3.trans x4))⟩ (.bool _)
      simp -implicitDefEqProofs (disch := omega) [swashlaw07_StateClosed, hs, hsm, hrem, hwr, hrd, hstt, hr2, swashlaw07_StateClosed_l1k_x0, e3, q3, hr4, swashlaw07_StateClosed_l3k_x4, hr5, swashlaw07_StateClosed_l4k_x6, f1, hq, hlt', bne]
    · have hlt' : ¬ (m.rows.length : Int) > p.rows.length := by omega
      have hR : needR m.rows = mx (cellsP p.rows (planN p) m.rows.length) + 1 := by
        unfold needR
        rw [f4 (by omega)]
        refine needL_mx ?_ (fun x hx => (cellsP_bound hp.2.1 _ _ x hx).1)
        intro hnil
        have := congrArg List.length (f4 (by omega))
        rw [hnil] at this
        obtain ⟨r, hr⟩ : ∃ r, m.rows[0]? = some r := ⟨_, List.getElem?_eq_getElem (by omega)⟩
        have hrl := (hok.row r (List.mem_of_getElem? hr)).1
        have hrm := List.mem_of_getElem? hr
        have : r ≠ [] := fun h => by rw [h] at hrl; simp at hrl; omega
        obtain ⟨y, hy⟩ := List.exists_mem_of_ne_nil r this
        have hy2 : y ∈ m.rows.flatten := List.mem_flatten.2 ⟨r, hrm, hy⟩
        rw [f4 (by omega), hnil] at hy2
        cases hy2
      have f2' : (m.ents.length : Int) = mx (cellsP p.rows (planN p) m.rows.length) + 1 := by rw [f2, hR]
      have hbe : ((m.ents.length : Int) == mx (cellsP p.rows (planN p) m.rows.length) + 1) = true := by simpa using f2'
      refine nrm_gc ⟨H6, ?_, hx1.trans (x2.trans (x3.trans (x4.trans x6)))⟩ (.bool _)
      simp -implicitDefEqProofs (disch := omega) [swashlaw07_StateClosed, hs, hsm, hrem, hwr, hrd, hstt, hr2, swashlaw07_StateClosed_l1k_x0, e3, q3, hr4, swashlaw07_StateClosed_l3k_x4, hr5, swashlaw07_StateClosed_l4k_x6, f1, hq, hlt', e6, q6, hbe, bne]
theorem StateClosed_args (vs : List Value) (h : ArgsLay [planSh, .one (.int .u8)] vs) : ∃ H', R (T F.swashlaw07_speaks) F.swashlaw07_StateClosed vs Heap.empty = .ok (.bool true) H' := by
  obtain ⟨v1, _, rfl, h1, h⟩ := h.head
  obtain ⟨v2, _, rfl, h2, h⟩ := h.head
  obtain rfl := h.done
  obtain ⟨p, rfl, hp⟩ := arg_plan h1
  obtain ⟨n, rfl, hn⟩ := arg_i h2
  exact ⟨_, StateClosed_run p hp n (wf_u8 hn)⟩
end Go.Sw
end
section
namespace Go.Sw
open Go.RowKit Go.Proofs
set_option maxRecDepth 20000 in
theorem catch_short (p : Addr) (b : Bool) (w : World) (hc : (w.alloc (.cells #[] 233)).cell? p = some (.bool b)) (hz : (w.alloc (.cells #[] 233)).frozen? p = false) :
    CallsD Prog 160 #[.pointer (some p)] (.panicking [{ v := .iface 233 (.agg #[]), recovered := false }]) w fun e u' w' =>
      e = .returned (.tuple #[]) ∧ u' = .panicking [{ v := .iface 233 (.agg #[]), recovered := true }] ∧ w' = (w.alloc (.cells #[] 233)).setCell p (.bool false) := by
  refine callsD_of_wpS Try.func160 rfl fun c₀ cs hu => ?_
  apply wpS_seq
  apply wpS_region
  simp [wpOpsS, go_sem, recoverD, hu, Try.ntmps160, Exit.thenS]
  have hta : ∀ w, (Instr.typeAssert (.iface 233 (.agg #[])) 20 233 true).run Prog w = .ok (.tuple #[.agg #[], .bool true]) w := fun w => by kernel_rfl
  refine wpS_of_wp ?_
  go_wp2
  cases c₀
  simp_all [bodyPostS, results, Try.results160]
theorem catch_idle (p : Addr) (w : World) :
    CallsD Prog 160 #[.pointer (some p)] .returning w fun e u' w' => e = .returned (.tuple #[]) ∧ u' = .returning ∧ w' = w := by
  refine callsD_of_wpS Try.func160 rfl fun c₀ cs hu => ?_
  apply wpS_seq
  apply wpS_region
  simp [wpOpsS, go_sem, recoverD, hu, Try.ntmps160, Exit.thenS]
  refine wpS_of_wp ?_
  go_wp2
  cases c₀
  simp_all [bodyPostS, results, Try.results160]
set_option maxRecDepth 20000 in
theorem try_walk (g : FuncId) (first cap : Array Value) (w : World) (R : Ending → World → Prop)
    (hcf : (callFunc g (first ++ cap)).run Prog (w.alloc (.cells #[.bool false] 4)) = .ok (.enter g (first ++ cap)) (w.alloc (.cells #[.bool false] 4)))
    (hcall : Calls Prog g (first ++ cap) (w.alloc (.cells #[.bool false] 4)) fun e w' => match e with
      | .returned _ => w'.heap[w.heap.size]? = some (.cells #[.bool false] 4 (0, 0)) ∧ R (.returned (.bool true)) (w'.setCell ⟨w.heap.size, 0, none⟩ (.bool true))
      | .panicked chain => chain = [{ v := .iface 233 (.agg #[]), recovered := false }] ∧ w'.heap[w.heap.size]? = some (.cells #[.bool false] 4 (0, 0)) ∧ R (.returned (.bool false)) ((w'.alloc (.cells #[] 233)).setCell ⟨w.heap.size, 0, none⟩ (.bool false))
      | .outgrown => False) :
    Calls Prog 77 #[.func (.func g) first cap] w R := by
  have hmf : ∀ (fn : Fn) (first cap : Array Value) (w : World), (Instr.makeFunc fn first cap).run Prog w = .ok (.func fn first cap) w := fun _ _ _ _ => rfl
  go_enter_defers Try.func77, Try.ntmps77
  go_wp2
  rename_i K2 hK2 K1 hK1
  refine hcall.mono fun e w' he => ?_
  cases e with
  | returned v =>
    obtain ⟨h1, h2⟩ := he
    have hc : w'.cell? ⟨w.heap.size, 0, none⟩ = some (.bool false) := by simp [World.cell?, h1]
    have hz : w'.frozen? ⟨w.heap.size, 0, none⟩ = false := by simp [World.frozen?, h1]
    apply hK1
    apply hK2
    go_wp2
    have hc2 : (w'.setCell ⟨w.heap.size, 0, none⟩ (.bool true)).cell? ⟨w.heap.size, 0, none⟩ = some (.bool true) := World.cell?_setCell_same _ _ _ hc
    refine leaves_cons (f := 160) (args := #[.pointer (some ⟨w.heap.size, 0, none⟩)]) (by simp) (by simp [go_sem]) ?_
    refine (catch_idle ⟨w.heap.size, 0, none⟩ _).mono ?_
    rintro e u' w'' ⟨rfl, rfl, rfl⟩
    simp [Leaves, settle, results, Try.results77, go_sem, hc2]
    exact h2
  | panicked chain =>
    obtain ⟨h0, h1, h2⟩ := he
    subst h0
    have hlt : w.heap.size < w'.heap.size := by
      rcases Nat.lt_or_ge w.heap.size w'.heap.size with h | h
      · exact h
      · rw [Array.getElem?_eq_none h] at h1; cases h1
    have h3 : (w'.alloc (.cells #[] 233)).heap[w.heap.size]? = some (.cells #[.bool false] 4 (0, 0)) := by
      rw [heap_alloc_lt _ _ _ hlt]; exact h1
    have hc : (w'.alloc (.cells #[] 233)).cell? ⟨w.heap.size, 0, none⟩ = some (.bool false) := by simp only [World.cell?, h3]; rfl
    have hz : (w'.alloc (.cells #[] 233)).frozen? ⟨w.heap.size, 0, none⟩ = false := by simp [World.frozen?, h3]
    have hc2 : ((w'.alloc (.cells #[] 233)).setCell ⟨w.heap.size, 0, none⟩ (.bool false)).cell? ⟨w.heap.size, 0, none⟩ = some (.bool false) := World.cell?_setCell_same _ _ _ hc
    show Leaves _ _ _ _ _ _ _
    refine leaves_cons (f := 160) (args := #[.pointer (some ⟨w.heap.size, 0, none⟩)]) (by simp) (by simp [go_sem]) ?_
    refine (catch_short ⟨w.heap.size, 0, none⟩ false _ hc hz).mono ?_
    rintro e u' w'' ⟨rfl, rfl, rfl⟩
    simp [Leaves, settle, results, Try.results77, go_sem, hc2]
    exact h2
  | outgrown => exact he.elim
theorem try_is : SpIs Prog 77 (tryV 233) := try_of (bt := 4) Try.func77 rfl (by kernel_rfl) try_walk
end Go.Sw
end
section
namespace Go.Sw
open Go.RowKit
theorem names_ok : NamesOk Prog := NamesOk.of (by kernel_rfl)
theorem mixed_ok : Prog.follows .mixedOrders = true := Checked.mixed Go.Proofs.Try.checked
theorem laid_ok : laidOutB Prog = true := by kernel_rfl
theorem cloneP_is : SpIs Prog F.slices_Clone_of_api_Place_api_Place fun _ args H => cloneV 3 12 args H :=
  clone_is (c := { P := Prog, kp := kpS, sp := fun _ => none }) names_ok mixed_ok (t := 31) (e := 34) (by kernel_rfl) fun call a H => (slices_Clone_of_api_Place_api_Place_body 0 _ call a H).trans (by
    unfold slices_Clone_of_api_Place_api_Place cloneF
    simp only [be_31_0, ap_31, beR_bare])
theorem cloneG_is : SpIs Prog F.slices_Clone_of_api_Glyph_api_Glyph fun _ args H => cloneV 2 16 args H :=
  clone_is (c := { P := Prog, kp := kpS, sp := fun _ => none }) names_ok mixed_ok (t := 50) (e := 55) (by kernel_rfl) fun call a H => (slices_Clone_of_api_Glyph_api_Glyph_body 0 _ call a H).trans (by
    unfold slices_Clone_of_api_Glyph_api_Glyph cloneF
    simp only [be_50_0, ap_50, beR_bare])
theorem more_is (f : FuncId) (s : Sp) (h : moreS f = some s) : SpIs Prog f s := by
  unfold moreS at h
  cases h1 : Nat.beq f 77 with
  | true => have := Nat.eq_of_beq_eq_true h1; subst this; rw [h1, cond_true] at h; injection h with h; subst h; exact try_is
  | false =>
  rw [h1, cond_false] at h
  cases h2 : Nat.beq f 147 with
  | true => have := Nat.eq_of_beq_eq_true h2; subst this; rw [h2, cond_true] at h; injection h with h; subst h; exact cloneP_is
  | false =>
  rw [h2, cond_false] at h
  cases h3 : Nat.beq f 151 with
  | true => have := Nat.eq_of_beq_eq_true h3; subst this; rw [h3, cond_true] at h; injection h with h; subst h; exact cloneG_is
  | false =>
  rw [h3, cond_false] at h
  cases h4 : Nat.beq f 152 with
  | true => rw [h4, cond_true] at h; injection h with h; subst h; exact SpIs.stuck _ _
  | false => rw [h4, cond_false] at h; cases h
theorem T_prog (k : Nat) : (T k).c.P = Prog := by unfold T C; rfl
theorem told_ok {k m : Nat} (hsp : okTrue (run (baseCfg Prog kpS moreS) m (k % 1000000) [] Heap.empty) = true) : SpOk (T k).c := by
  have h0 : CallOk Prog (run (baseCfg Prog kpS moreS) m) := run_ok (c := baseCfg Prog kpS moreS) names_ok mixed_ok (SpOk.base more_is) m
  have h1 : SpOk (C k) := by
    unfold C
    exact SpOk.of (P := Prog) (kp := kpS) (speaks := speaksT) (more := moreS) (k := k % 1000000) h0 hsp more_is
  exact h1
end Go.Sw
end
