/-
  Functions' forms, and what is proved of them, part 4.
-/
import Derived.Test.YtnaodjnimkndbabSwCfg
import Derived.Test.YtnaodjnimkndbabSwW2
import Derived.Test.YtnaodjnimkndbabSwLib9
import Derived.Test.YtnaodjnimkndbabSwW3
import Derived.Test.YtnaodjnimkndbabSwLib8
import Derived.Tactics
import Derived.Tactics2
import Derived.Defers
import Derived.Recover
import Derived.Laws.Pointers
set_option linter.unusedSimpArgs false
set_option linter.unusedVariables false
set_option linter.unusedSectionVars false
section
set_option maxRecDepth 100000
set_option linter.unusedVariables false
namespace Go.Sw
noncomputable section
def swashref02_Put_l1 (k : Nat) (call : Caller) : Env → Heap → Res (AExit × Env) := loopB (C k) call F.swashref02_Put [1, 0, 1, 0, 0]
def swashref02_Put_l1k (k : Nat) (call : Caller) : Kont Value := kBlock 0 (kSeq (pieceK (C k) call F.swashref02_Put [1, 1]) (kDone Prog (resOf Prog F.swashref02_Put)))
def swashref02_Put_l2 (k : Nat) (call : Caller) : Env → Heap → Res (AExit × Env) := loopB (C k) call F.swashref02_Put [1, 0, 1, 0, 0, 1, 0, 0, 1, 0, 1, 0, 0]
def swashref02_Put_l2k (k : Nat) (call : Caller) : Kont (AExit × Env) := kBlock 2 (kSeq (pieceK (C k) call F.swashref02_Put [1, 0, 1, 0, 0, 1, 0, 0, 1, 1]) (kBlock 1 (kSeq (pieceK (C k) call F.swashref02_Put [1, 0, 1, 0, 0, 1, 1]) (kRound (ownOf (C k) F.swashref02_Put [1, 0, 1, 0, 0])))))
def swashref02_Put (k : Nat) (call : Caller) (a0 a1 a2 : Value) (h : Heap) : Res Value :=
 (binR Prog .sub 3 a2 (.int .i64 1) h).bind fun v1 h2 =>
 (loopN (swashref02_Put_l1 k call) loopFuel [(0, a0), (1, a1), (7, v1)] h2).bind fun r3 h4 =>
 swashref02_Put_l1k k call r3.1 r3.2 h4
theorem swashref02_Put_R (k : Nat) (a0 a1 a2 : Value) (h : Heap) : R (T k) F.swashref02_Put [a0, a1, a2] h = nrm .no h (swashref02_Put k (R (T k)) a0 a1 a2 h) :=
 (R_body (t := T k) (T_scott k) (by kernel_rfl) (by kernel_rfl) _ _).trans (by kernel_rfl)
theorem swashref02_Put_l1_eq (k : Nat) (call : Caller) (a0 a1 a7 : Value) (h : Heap) : swashref02_Put_l1 k call [(0, a0), (1, a1), (7, a7)] h =
 (binR Prog .geq 3 a7 (.int .i64 0) h).bind fun v5 h6 =>
 condV (some v5) (
 (loopN (swashref02_Put_l2 k call) loopFuel [(0, a0), (1, a1), (7, a7), (8, a1), (9, (.int .i64 0))] h6).bind fun r7 h8 =>
 swashref02_Put_l2k k call r7.1 r7.2 h8)
 (
 .ok ((.exit 0), [(0, a0), (1, a1), (7, a7), (13, v5)]) h6) :=
 (loopB_eq _ _).trans (by kernel_rfl)
theorem swashref02_Put_l2_eq (k : Nat) (call : Caller) (a0 a1 a7 a8 a9 : Value) (h : Heap) : swashref02_Put_l2 k call [(0, a0), (1, a1), (7, a7), (8, a8), (9, a9)] h =
 (binR Prog .lss 3 a9 a7 h).bind fun v9 h10 =>
 condV (some v9) (
 (binR Prog .quo 3 a8 (.int .i64 256) h10).bind fun v11 h12 =>
 (binR Prog .add 3 a9 (.int .i64 1) h12).bind fun v13 h14 =>
 .ok (.normal, [(0, a0), (1, a1), (7, a7), (8, v11), (9, v13)]) h14)
 (
 .ok ((.exit 2), [(0, a0), (1, a1), (7, a7), (8, a8), (9, a9), (19, v9)]) h10) :=
 (loopB_eq _ _).trans (by kernel_rfl)
theorem swashref02_Put_l1k_x0 (k : Nat) (call : Caller) (a0 a1 a7 a13 : Value) (h : Heap) : swashref02_Put_l1k k call (.exit 0) [(0, a0), (1, a1), (7, a7), (13, a13)] h =
 .ok a0 h := by kernel_rfl
theorem swashref02_Put_l2k_x2 (k : Nat) (call : Caller) (a0 a1 a7 a8 a9 a19 : Value) (h : Heap) : swashref02_Put_l2k k call (.exit 2) [(0, a0), (1, a1), (7, a7), (8, a8), (9, a9), (19, a19)] h =
 (binR Prog .rem 3 a8 (.int .i64 256) h).bind fun v15 h16 =>
 (convR Prog 3 5 v15 h16).bind fun v17 h18 =>
 (buildSliceR Prog 22 1 [(0, v17)] h18).bind fun v19 h20 =>
 (builtinV Prog .append [22, 22] [a0, v19] h20).bind fun v21 h22 =>
 (binR Prog .sub 3 a7 (.int .i64 1) h22).bind fun v23 h24 =>
 .ok (.normal, [(0, v21), (1, a1), (7, v23)]) h24 := by kernel_rfl
end
end Go.Sw
end
section
namespace Go.Sw
open Go.RowKit
theorem Put_in (k : Nat) (s : Value) (n : Int) (i : Nat) (h0 : 0 ≤ n) (hn : n < 2 ^ 62) (hi : i < 2 ^ 62) (H : Heap) :
  loopN (swashref02_Put_l2 k (R (T k))) loopFuel [(0, s), (1, .int .i64 n), (7, .int .i64 i), (8, .int .i64 n), (9, .int .i64 0)] H = .ok (.exit 2, [(0, s), (1, .int .i64 n), (7, .int .i64 i), (8, .int .i64 (n / 256 ^ i)), (9, .int .i64 i), (19, .bool false)]) H := by
 obtain ⟨x, e', H1, hr, rfl, rfl, rfl⟩ := loop_up (body := swashref02_Put_l2 k (R (T k))) i
  (fun j e H' => H' = H ∧ e = [(0, s), (1, .int .i64 n), (7, .int .i64 i), (8, .int .i64 (n / 256 ^ j)), (9, .int .i64 j)])
  (fun x e H' => H' = H ∧ x = .exit 2 ∧ e = [(0, s), (1, .int .i64 n), (7, .int .i64 i), (8, .int .i64 (n / 256 ^ i)), (9, .int .i64 i), (19, .bool false)])
  (e0 := [(0, s), (1, .int .i64 n), (7, .int .i64 i), (8, .int .i64 n), (9, .int .i64 0)]) (H0 := H) ⟨rfl, by simp⟩ (by omega)
  (fun j e H' hj ⟨hH, he⟩ => by
   subst he hH
   have hlt : (j : Int) < i := by omega
   have q0 : 0 ≤ n / 256 ^ j := Int.ediv_nonneg h0 (Int.pow_nonneg (by decide))
   have q1 : n / 256 ^ j ≤ n := Int.ediv_le_self _ h0
   have hq : (n / 256 ^ j).tdiv 256 = n / 256 ^ (j + 1) := by
    rw [Int.tdiv_eq_ediv_of_nonneg q0, Int.pow_succ, Int.ediv_ediv_of_nonneg (Int.pow_nonneg (by decide))]
   have q := fun H => bin_quo Prog 3 H .i64 (n / 256 ^ j) 256 (by decide)
   rw [hq] at q
   have q2 : 0 ≤ n / 256 ^ (j + 1) := Int.ediv_nonneg h0 (Int.pow_nonneg (by decide))
   have q3 : n / 256 ^ (j + 1) ≤ n := Int.ediv_le_self _ h0
   generalize n / 256 ^ (j + 1) = m at q q2 q3 ⊢
   generalize n / 256 ^ j = m0 at q ⊢
   refine .inl ⟨_, H', ?_, rfl, rfl⟩
   rw [swashref02_Put_l2_eq]
   simp -implicitDefEqProofs (disch := omega) [hlt, q])
  (fun e H' ⟨hH, he⟩ => by
   subst he hH
   refine ⟨.exit 2, _, H', ?_, by simp, rfl, rfl, rfl⟩
   rw [swashref02_Put_l2_eq]
   simp -implicitDefEqProofs (disch := omega))
 exact hr
theorem Put_star (k : Nat) {H0 H : Heap} {L : List It} (h : Star H0 H L) (i : Nat) {o : Option Nat} {s : Value} {b : List Int} (hi : L[i]? = some (itRow o 1 s encB b)) (n zi : Int) (z : Nat) (hzi : zi = z) (h0 : 0 ≤ n) (hn : n < 2 ^ 62) (hz : z ≤ 8) (hl : b.length < 2 ^ 30) :
  ∃ s' o' H', R (T k) F.swashref02_Put [s, .int .i64 n, .int .i64 zi] H = .ok s' H' ∧ Star H0 H' (L.set i (itRow o' 1 s' encB (b ++ bytesOf n z))) := by
 subst hzi
 rw [swashref02_Put_R]
 have hlt : i < L.length := (List.getElem?_eq_some_iff.1 hi).1
 have hself : L.set i (itRow o 1 s encB b) = L := by
  obtain ⟨hlt, hx⟩ := List.getElem?_eq_some_iff.1 hi
  rw [← hx, List.set_getElem_self]
 obtain ⟨x, e', H1, hr, s', o', rfl, ⟨a, c, rfl⟩, ho⟩ := loopDec (body := swashref02_Put_l1 k (R (T k)))
  (fun m e H' => ∃ s o acc, e = [(0, s), (1, .int .i64 n), (7, .int .i64 ((m : Int) - 1))] ∧ Star H0 H' (L.set i (itRow o 1 s encB acc)) ∧ acc ++ bytesOf n m = b ++ bytesOf n z ∧ m ≤ z)
  (fun x e H' => ∃ s' o', x = .exit 0 ∧ (∃ a c, e = [(0, s'), (1, .int .i64 n), (7, a), (13, c)]) ∧ Star H0 H' (L.set i (itRow o' 1 s' encB (b ++ bytesOf n z))))
  (e0 := [(0, s), (1, .int .i64 n), (7, .int .i64 ((z : Int) - 1))]) (H0 := H) z ⟨s, o, b, rfl, by rw [hself]; exact h, rfl, Nat.le_refl _⟩ (by omega)
  (fun m e H' ⟨s, o, acc, he, ho, ha, hmz⟩ => by
   subst he
   cases m with
   | zero =>
    refine .inr ⟨.exit 0, _, H', ?_, by simp, s, o, rfl, ⟨.int .i64 ((0 : Nat) - 1), .bool false, rfl⟩, by simpa [bytesOf] using (by simpa [bytesOf] using ha) ▸ ho⟩
    rw [swashref02_Put_l1_eq]
    simp -implicitDefEqProofs
   | succ m =>
    have hin := Put_in k s n m h0 hn (by omega) H'
    have q0 : 0 ≤ n / 256 ^ m := Int.ediv_nonneg h0 (Int.pow_nonneg (by decide))
    have hacc : acc.length < 2 ^ 31 := by
     have := congrArg List.length ha
     simp [bytesOf_len] at this
     omega
    obtain ⟨s2, o2, H2, e1, o1⟩ := ho.append1 (bytes := 1) i encB_len (List.getElem?_set_self hlt) ((n / 256 ^ m) % 256) hacc (by decide)
    rw [List.set_set] at o1
    have hrem := fun H => bin_rem Prog 3 H .i64 (n / 256 ^ m) 256 (by decide)
    rw [Int.tmod_eq_emod_of_nonneg q0] at hrem
    have hb : 0 ≤ (n / 256 ^ m) % 256 ∧ (n / 256 ^ m) % 256 < 256 := by omega
    refine .inl ⟨m, _, H2, ?_, by omega, s2, o2, acc ++ [(n / 256 ^ m) % 256], rfl, o1, by rw [List.append_assoc]; exact ha, by omega⟩
    rw [swashref02_Put_l1_eq]
    have hge : (m : Int) ≥ 0 := by omega
    rw [show (((m + 1 : Nat) : Int) - 1) = (m : Int) by omega]
    generalize (n / 256 ^ m) % 256 = y at e1 hrem hb
    simp -implicitDefEqProofs (disch := omega) [hge, hin, swashref02_Put_l2k_x2, hrem, e1])
 refine ⟨s', o', H1, ?_, ho⟩
 simp -implicitDefEqProofs (disch := omega) [swashref02_Put, hr, swashref02_Put_l1k_x0, nrm_no]
end Go.Sw
end
section
namespace Go.Sw
open Go.RowKit
end Go.Sw
end
section
set_option maxRecDepth 100000
set_option linter.unusedVariables false
namespace Go.Sw
noncomputable section
end
end Go.Sw
end
section
namespace Go.Sw
open Go.RowKit
structure Plan where
 cls : List Int
 rows : List (List Int)
 ents : List En
 wide : Int
def m16 (x : Int) : Int := x % 65536
theorem m16_bound (a : Int) : 0 ≤ m16 a ∧ m16 a < 65536 := by unfold m16; omega
def Plan.ok (p : Plan) : Prop := Byt p.cls ∧ (∀ r, r ∈ p.rows → Byt r) ∧ 0 ≤ p.wide ∧ p.wide < 256
end Go.Sw
end
section
namespace Go.Sw
open Go.RowKit
end Go.Sw
end
section
namespace Go.Sw
open Go.RowKit
end Go.Sw
end
section
namespace Go.Sw
open Go.RowKit
structure PW where
 l : Int
 r : Int
 v : Int
abbrev encPW (p : PW) : List Value := [.int .u16 p.l, .int .u16 p.r, .int .i16 p.v]
theorem encPW_len (p : PW) : (encPW p).length = 3 := rfl
def PW.ok (p : PW) : Prop := (0 ≤ p.l ∧ p.l < 65536) ∧ (0 ≤ p.r ∧ p.r < 65536) ∧ -32768 ≤ p.v ∧ p.v < 32768
def PW.key (p : PW) : Int := p.l * 65536 + p.r
def prB (p : PW) : List Int := bytesOf p.l 2 ++ bytesOf p.r 2 ++ bytesOf (m16 p.v) 2
def prsB (l : List PW) : List Int := (l.map prB).flatten
def listW (l : List PW) : List Int := bytesOf (l.length : Int) 4 ++ List.replicate 12 0 ++ prsB l
theorem prB_len (p : PW) : (prB p).length = 6 := by simp [prB]
theorem prsB_snoc (l : List PW) (x : PW) : prsB (l ++ [x]) = prsB l ++ prB x := by simp [prsB]
theorem prsB_len (l : List PW) : (prsB l).length = l.length * 6 := flat_len (z := 6) (fun r hr => by obtain ⟨p, _, rfl⟩ := List.mem_map.1 hr; exact prB_len p) |>.trans (by simp)
theorem wrap_m16 (n : Int) : IntKind.u16.wrap n = m16 n := by
 unfold IntKind.wrap m16
 simp [IntKind.signed, IntKind.bits]
set_option maxHeartbeats 1000000 in
theorem pWrite_run (k : Nat) (l : List PW) (hl : ∀ p, p ∈ l → p.ok) (hn : l.length ≤ 1000) (H : Heap) : R (T k) F.swashlaw22_Write [lv encPW l] H = .ok (lv encB (listW l)) H := by
 rw [swashlaw22_Write_R]
 have g := (Star.nil H).more_row (Ext.refl _) (OwnO.nil encB _ 1) (fun b hb => by cases hb)
 simp only [List.nil_append] at g
 obtain ⟨t1, u1, J1, f1, g⟩ := Put_star k g 0 rfl l.length 4 4 rfl (by omega) (by omega) (by omega) (by simp)
 simp only [List.set_cons_zero, List.set_cons_succ, List.nil_append] at g
 obtain ⟨a4, l4, c4, ht4⟩ := (g.row 0 rfl).shape
 obtain ⟨t5, u5, J5, f5, g⟩ := g.append (bytes := 1) 0 encB_len rfl (b := lv encB (List.replicate 12 0)) (l2 := List.replicate 12 0) (by rw [lv, List.length_replicate]; rfl) (by have := lv_first encB_len (List.replicate 12 0) J1; exact this) (by simp) (by decide)
 simp only [List.set_cons_zero, List.set_cons_succ] at g
 have f5' : azR 1 1 [.int .u8 0] t1 (.int .i64 12) J1 = .ok t5 J5 := by
  rw [ht4] at f5 ⊢
  rw [show ((12 : Int)) = ((12 : Nat) : Int) from rfl, azR_eq encB_len a4 l4 c4 (0 : Int) _ rfl .i64 12 (by omega)]
  exact f5
 obtain ⟨x, e', H4, hr4, rfl, z4, s4, o4, rfl, g⟩ := loop_up (body := swashlaw22_Write_l1 k (R (T k))) l.length
  (fun j e H' => ∃ s o, e = [(3, s), (10, lv encPW l), (11, .int .i64 l.length), (12, .int .i64 j)] ∧ Star H H' [itRow o 1 s encB ((bytesOf (l.length : Int) 4 ++ List.replicate 12 0) ++ prsB (l.take j))])
  (fun x e H' => x = .exit 0 ∧ ∃ z s o, e = [(3, s), (10, lv encPW l), (11, .int .i64 l.length), (12, z), (13, .bool false)] ∧ Star H H' [itRow o 1 s encB (listW l)])
  (e0 := [(3, t5), (10, lv encPW l), (11, .int .i64 l.length), (12, .int .i64 0)]) (H0 := J5) ⟨t5, u5, rfl, by simpa [prsB] using g⟩ (by omega)
  (fun j e H' hj ⟨s, o, he, g⟩ => by
   subst he
   have hlt : (j : Int) < l.length := by omega
   obtain ⟨c, hc⟩ : ∃ c, l[j]? = some c := ⟨_, List.getElem?_eq_getElem hj⟩
   obtain ⟨q, i1, i2⟩ := ((Sl.lv H' 3 l).rd (by decide) encPW_len).2 j c hc
   have hcb := hl c (List.mem_of_getElem? hc)
   obtain ⟨hc1, hc2, hc3⟩ := hcb
   have b3 := m16_bound c.v
   have wu := wrap_m16 c.v
   have hlen : (bytesOf (l.length : Int) 4 ++ List.replicate 12 0 ++ prsB (l.take j)).length ≤ 16 + 6000 := by
    simp [prsB_len, List.length_take]
    omega
   have g := g.push ⟨encPW c, 1, false⟩
   simp only [List.cons_append, List.nil_append] at g
   obtain ⟨s1, o1, H1, e1, g1⟩ := Put_star k g 0 rfl c.l 2 2 rfl hc1.1 (by omega) (by omega) (by omega)
   simp only [List.set_cons_zero, List.set_cons_succ] at g1
   have h1 := g1.get 1 rfl
   obtain ⟨s2, o2, H2, e2, g2⟩ := Put_star k g1 0 rfl c.r 2 2 rfl hc2.1 (by omega) (by omega) (by rw [List.length_append]; simp only [bytesOf_len]; omega)
   simp only [List.set_cons_zero, List.set_cons_succ] at g2
   have h2 := g2.get 1 rfl
   obtain ⟨s3, o3, H3, e3, g3⟩ := Put_star k g2 0 rfl (m16 c.v) 2 2 rfl b3.1 (by omega) (by omega) (by rw [List.length_append, List.length_append]; simp only [bytesOf_len]; omega)
   simp only [List.set_cons_zero, List.set_cons_succ] at g3
   refine .inl ⟨_, H3, ?_, s3, o3, rfl, by rw [take_snoc hc, prsB_snoc]; simpa [prB] using g3.take 1⟩
   rw [swashlaw22_Write_l1_eq]
   simp -implicitDefEqProofs (disch := omega) [hlt, i1, i2, e1, h1, wu, e2, h2, e3])
  (fun e H' ⟨s, o, he, g⟩ => by
   subst he
   rw [List.take_length] at g
   refine ⟨.exit 0, _, H', ?_, by simp, rfl, .int .i64 l.length, s, o, rfl, g⟩
   rw [swashlaw22_Write_l1_eq]
   simp -implicitDefEqProofs)
 obtain ⟨L, hf⟩ := (g.own 0 rfl).freeze encB_len (fun n _ v hv => by simp at hv; subst hv; trivial) 6
 refine nrm_fz (v := s4) (H' := H4) ?_ hf g.ext (Flat.B _).alive
 simp -implicitDefEqProofs (disch := omega) [swashlaw22_Write, f1, f5', hr4, swashlaw22_Write_l1k_x0]
theorem prB_byt (p : PW) : Byt (prB p) := ((bytesOf_byt _ _).app (bytesOf_byt _ _)).app (bytesOf_byt _ _)
theorem prsB_byt (l : List PW) : Byt (prsB l) := Byt.flat fun r hr => by obtain ⟨p, _, rfl⟩ := List.mem_map.1 hr; exact prB_byt p
theorem rep0_byt (n : Nat) : Byt (List.replicate n 0) := fun x hx => by rw [List.eq_of_mem_replicate hx]; omega
theorem listW_byt (l : List PW) : Byt (listW l) := ((bytesOf_byt _ _).app (rep0_byt _)).app (prsB_byt l)
theorem listW_len (l : List PW) : (listW l).length = 16 + l.length * 6 := by simp [listW, prsB_len]; omega
theorem num_app (a b : List Int) : num (a ++ b) = num a * 256 ^ b.length + num b := by
 induction a with
 | nil => simp [num]
 | cons x a ih => rw [List.cons_append, num_cons, num_cons, ih, List.length_append, Int.pow_add, Int.add_mul, Int.mul_assoc]; omega
theorem key_num {p : PW} (h : p.ok) : num ((prB p).take 4) = p.key := by
 have : (prB p).take 4 = bytesOf p.l 2 ++ bytesOf p.r 2 := by
  unfold prB
  rw [List.take_append_of_le_length (by simp), List.take_of_length_le (by simp)]
 rw [this, num_app, num_bytesOf h.1.1 (by simpa using h.1.2), num_bytesOf h.2.1.1 (by simpa using h.2.1.2)]
 simp [PW.key]
theorem pList_W (l : List PW) (hl : ∀ p, p ∈ l → p.ok) (hn : l.length ≤ 1000) : pListS (listW l) = if upS (l.map PW.key) then some ⟨l.map PW.key, prsB l, none, none, 0, 2⟩ else none := by
 unfold pListS
 have h1 : uS (listW l) 0 4 = some (l.length : Int) := by
  have := uS_at [] (List.replicate 12 0 ++ prsB l) (n := l.length) (k := 4) 0 4 rfl rfl (by omega) (by omega)
  simpa [listW] using this
 have h2 : (pieceS (listW l) 0 16).isSome = true := by rw [inS_piece]; unfold inS; rw [decide_eq_true_eq, listW_len]; omega
 obtain ⟨c, hc⟩ := Option.isSome_iff_exists.1 h2
 have h3 : rowsS (listW l) 16 l.length 6 = some (prsB l) := by
  rw [rowsS_iff (by omega), listW_len]
  refine ⟨by omega, ?_⟩
  have : (listW l).drop 16 = prsB l := by unfold listW; rw [List.drop_append_of_le_length (by simp), List.drop_of_length_le (by simp)]; rfl
  rw [show ((16 : Int)).toNat = 16 from rfl, this, List.take_of_length_le (by rw [prsB_len]; omega)]
 have h4 : keysS (prsB l) l.length = l.map PW.key := by
  unfold keysS prsB
  rw [show ((l.length : Int)).toNat = (l.map prB).length by simp, cut_flat fun r hr => by obtain ⟨p, _, rfl⟩ := List.mem_map.1 hr; exact prB_len p, List.map_map]
  exact List.map_congr_left fun p hp => key_num (hl p hp)
 rw [h1, Option.bind_some, hc, Option.bind_some, h3, Option.bind_some, h4]
theorem m16_s16 {v : Int} (h : -32768 ≤ v ∧ v < 32768) : s16 (m16 v) = v := by unfold s16 m16; split <;> omega
theorem pval_W (l : List PW) {rows cols step} (i : Nat) (p : PW) (hp : l[i]? = some p) (ok : p.ok) (ks : List Int) : pvalS ⟨ks, prsB l, rows, cols, step, 2⟩ (6 * (i : Int) + 4) = p.v := by
 unfold pvalS
 dsimp only
 rw [if_neg (by omega)]
 have hi := (List.getElem?_eq_some_iff.1 hp).1
 have hcut := flat_cut (z := 6) (rs := l.map prB) (fun r hr => by obtain ⟨p, _, rfl⟩ := List.mem_map.1 hr; exact prB_len p) i (by simpa using hi)
 rw [List.getElem?_map, hp, Option.map_some] at hcut
 injection hcut with hcut
 have hpc : pieceS (prsB l) (6 * (i : Int)) 6 = some (prB p) := by
  rw [pieceS_iff, prsB_len]
  refine ⟨by omega, ?_⟩
  rw [show (6 * (i : Int)).toNat = 6 * i by omega]
  exact hcut
 have hu := uS_sub hpc (x := 4) (y := 2) (by omega) (by omega) (by omega)
 have h16 : uS (prB p) 4 2 = some (m16 p.v) := by
  have := uS_at (bytesOf p.l 2 ++ bytesOf p.r 2) [] (n := m16 p.v) (k := 2) 4 2 (by simp) rfl (m16_bound _).1 (by have := (m16_bound p.v).2; simpa using this)
  simpa [prB] using this
 rw [h16] at hu
 rw [gU_some hu.symm, m16_s16 ok.2.2]
end Go.Sw
end
section
namespace Go.Sw
open Go.RowKit
def keysW (l : List PW) : List Int := l.map PW.key
theorem want_of (l : List PW) (hl : ∀ p, p ∈ l → p.ok) (hup : upS (keysW l) = true) {i : Nat} {p : PW} (hi : l[i]? = some p) : pgetS ⟨keysW l, prsB l, none, none, 0, 2⟩ p.l p.r = p.v := by
 have hp := List.mem_of_getElem? hi
 obtain ⟨o1, o2, _⟩ := hl p hp
 unfold pgetS
 dsimp only
 rw [if_neg (by omega)]
 have hk : (keysW l)[i]? = some (p.l * 65536 + p.r) := by unfold keysW; rw [List.getElem?_map, hi]; rfl
 rw [placeS_at hk hup]
 exact pval_W l i p hi (hl p hp) _
end Go.Sw
end
section
set_option maxRecDepth 100000
set_option linter.unusedVariables false
namespace Go.Sw
noncomputable section
def place_New_l1 (k : Nat) (call : Caller) : Env → Heap → Res (AExit × Env) := loopB (C k) call F.place_New [1, 1, 0, 1, 0, 0]
def place_New_l1k (k : Nat) (call : Caller) : Kont Value := kBlock 0 (kSeq (pieceK (C k) call F.place_New [1, 1, 1]) (kDone Prog (resOf Prog F.place_New)))
def place_New (k : Nat) (call : Caller) (a0 a1 : Value) (h : Heap) : Res Value :=
 (binR Prog .eql 3 a0 (.int .i64 2) h).bind fun v1 h2 =>
 (buildR Prog 210 [(0, v1)] h2).bind fun v3 h4 =>
 (boxR v3 h4).bind fun v5 h6 =>
 (builtinV Prog .len [27] [a1] h6).bind fun v7 h8 =>
 (loopN (place_New_l1 k call) loopFuel [(5, v5), (12, a1), (13, v7), (14, (.int .i64 0))] h8).bind fun r9 h10 =>
 place_New_l1k k call r9.1 r9.2 h10
theorem place_New_R (k : Nat) (a0 a1 : Value) (h : Heap) : R (T k) F.place_New [a0, a1] h = nrm .no h (place_New k (R (T k)) a0 a1 h) :=
 (R_body (t := T k) (T_scott k) (by kernel_rfl) (by kernel_rfl) _ _).trans (by kernel_rfl)
theorem place_New_l1_eq (k : Nat) (call : Caller) (a5 a12 a13 a14 : Value) (h : Heap) : place_New_l1 k call [(5, a5), (12, a12), (13, a13), (14, a14)] h =
 (binR Prog .lss 3 a14 a13 h).bind fun v11 h12 =>
 condV (some v11) (
 (indexAddrR Prog 27 a12 a14 h12).bind fun v13 h14 =>
 (loadR Prog 3 v13 h14).bind fun v15 h16 =>
 (nilR a5 h16).bindN fun v17 h18 =>
 (fieldAddrR Prog 210 v17 1 h18).bindN fun v19 h20 =>
 (loadR Prog 70 v19 h20).bindN fun v21 h22 =>
 (call F.place_Clamp [v15] h22).bindT (fun p25 h26 => .panic p25 h26) fun v23 h24 =>
 (buildR Prog 91 [(0, v23)] h24).bindN fun v27 h28 =>
 (buildSliceR Prog 70 1 [(0, v27)] h28).bindN fun v29 h30 =>
 (builtinV Prog .append [70, 70] [v21, v29] h30).bindN fun v31 h32 =>
 (nilR a5 h32).bindN fun v33 h34 =>
 (fieldAddrR Prog 210 v33 1 h34).bindN fun v35 h36 =>
 (storeR Prog 70 v35 v31 h36).bindN fun _v37 h38 =>
 chkR ((okVal (loadR Prog 70 v19 h24) v21 && (okVal (loadR Prog 70 v19 h30) v21 && true)) && true) (
 (binR Prog .add 3 a14 (.int .i64 1) h38).bind fun v39 h40 =>
 .ok (.normal, [(5, a5), (12, a12), (13, a13), (14, v39)]) h40))
 (
 .ok ((.exit 0), [(5, a5), (12, a12), (13, a13), (14, a14), (15, v11)]) h12) :=
 (loopB_eq _ _).trans (by kernel_rfl)
theorem place_New_l1k_x0 (k : Nat) (call : Caller) (a5 a12 a13 a14 a15 : Value) (h : Heap) : place_New_l1k k call (.exit 0) [(5, a5), (12, a12), (13, a13), (14, a14), (15, a15)] h =
 .ok a5 h := by kernel_rfl
def place_Places_All (k : Nat) (call : Caller) (a0 : Value) (h : Heap) : Res Value :=
 (nilR a0 h).bind fun v1 h2 =>
 (fieldAddrR Prog 210 v1 1 h2).bind fun v3 h4 =>
 (loadR Prog 70 v3 h4).bind fun v5 h6 =>
 (call F.slices_Clone_of_api_Place_api_Place [v5] h6).bind fun v7 h8 =>
 .ok v7 h8
theorem place_Places_All_R (k : Nat) (a0 : Value) (h : Heap) : R (T k) F.place_Places_All [a0] h = nrm (own k) h (place_Places_All k (R (T k)) a0 h) :=
 (R_body (t := T k) (T_scott k) (by kernel_rfl) (by kernel_rfl) _ _).trans (by kernel_rfl)
def place_Places_Len (k : Nat) (call : Caller) (a0 : Value) (h : Heap) : Res Value :=
 (nilR a0 h).bind fun v1 h2 =>
 (fieldAddrR Prog 210 v1 1 h2).bind fun v3 h4 =>
 (loadR Prog 70 v3 h4).bind fun v5 h6 =>
 (builtinV Prog .len [70] [v5] h6).bind fun v7 h8 =>
 .ok v7 h8
theorem place_Places_Len_R (k : Nat) (a0 : Value) (h : Heap) : R (T k) F.place_Places_Len [a0] h = nrm .gc h (place_Places_Len k (R (T k)) a0 h) :=
 (R_body (t := T k) (T_scott k) (by kernel_rfl) (by kernel_rfl) _ _).trans (by kernel_rfl)
def place_Places_Along (k : Nat) (call : Caller) (a0 a1 a2 : Value) (h : Heap) : Res Value :=
 (call F.place_Places_at [a0, a1] h).bind fun v1 h2 =>
 (nilR v1 h2).bind fun v3 h4 =>
 (fieldAddrR Prog 91 v3 0 h4).bind fun v5 h6 =>
 (loadR Prog 21 v5 h6).bind fun v7 h8 =>
 (call F.place_Add [v7, a2] h8).bind fun v9 h10 =>
 (nilR v1 h10).bind fun v11 h12 =>
 (fieldAddrR Prog 91 v11 0 h12).bind fun v13 h14 =>
 (storeR Prog 21 v13 v9 h14).bind fun _v15 h16 =>
 .ok (.tuple #[]) h16
theorem place_Places_Along_R (k : Nat) (a0 a1 a2 : Value) (h : Heap) : R (T k) F.place_Places_Along [a0, a1, a2] h = nrm .no h (place_Places_Along k (R (T k)) a0 a1 a2 h) :=
 (R_body (t := T k) (T_scott k) (by kernel_rfl) (by kernel_rfl) _ _).trans (by kernel_rfl)
def place_Clamp (k : Nat) (call : Caller) (a0 : Value) (h : Heap) : Res Value :=
 (builtinV Prog .max [3, 3] [a0, (.int .i64 (-2147483648))] h).bind fun v1 h2 =>
 (builtinV Prog .min [3, 3] [v1, (.int .i64 2147483647)] h2).bind fun v3 h4 =>
 (convR Prog 3 21 v3 h4).bind fun v5 h6 =>
 .ok v5 h6
theorem place_Clamp_R (k : Nat) (a0 : Value) (h : Heap) : R (T k) F.place_Clamp [a0] h = nrm .gc h (place_Clamp k (R (T k)) a0 h) :=
 (R_body (t := T k) (T_scott k) (by kernel_rfl) (by kernel_rfl) _ _).trans (by kernel_rfl)
def place_Places_at (k : Nat) (call : Caller) (a0 a1 : Value) (h : Heap) : Res Value :=
 (binR Prog .lss 3 a1 (.int .i64 0) h).bind fun v1 h2 =>
 ((bif wantVal v1 false then Res.ok a1 h2 else Res.ok undef h2)).bind fun v3 h4 =>
 ((bif wantVal v1 false then Res.ok a0 h4 else Res.ok undef h4)).bind fun v5 h6 =>
 ((bif wantVal v1 false then nilR v5 h6 else Res.ok undef h6)).bind fun v7 h8 =>
 ((bif wantVal v1 false then fieldAddrR Prog 210 v7 1 h8 else Res.ok undef h8)).bind fun v9 h10 =>
 ((bif wantVal v1 false then loadR Prog 70 v9 h10 else Res.ok undef h10)).bind fun v11 h12 =>
 ((bif wantVal v1 false then builtinV Prog .len [70] [v11] h12 else Res.ok undef h12)).bind fun v13 h14 =>
 ((bif wantVal v1 false then binR Prog .geq 3 v3 v13 h14 else Res.ok undef h14)).bind fun v15 h16 =>
 (condV (some v1) (Res.ok (.bool true) h16) (Res.ok v15 h16)).bind fun v17 h18 =>
 condV (some v17) (
 (allocR Prog 91 h18).bind fun v19 h20 =>
 .ok v19 h20)
 (
 (nilR a0 h18).bind fun v21 h22 =>
 (fieldAddrR Prog 210 v21 1 h22).bind fun v23 h24 =>
 (loadR Prog 70 v23 h24).bind fun v25 h26 =>
 (indexAddrR Prog 70 v25 a1 h26).bind fun v27 h28 =>
 .ok v27 h28)
theorem place_Places_at_R (k : Nat) (a0 a1 : Value) (h : Heap) : R (T k) F.place_Places_at [a0, a1] h = nrm .no h (place_Places_at k (R (T k)) a0 a1 h) :=
 (R_body (t := T k) (T_scott k) (by kernel_rfl) (by kernel_rfl) _ _).trans (by kernel_rfl)
def place_Add (k : Nat) (call : Caller) (a0 a1 : Value) (h : Heap) : Res Value :=
 (convR Prog 21 3 a0 h).bind fun v1 h2 =>
 (call F.place_Clamp [a1] h2).bind fun v3 h4 =>
 (convR Prog 21 3 v3 h4).bind fun v5 h6 =>
 (binR Prog .add 3 v1 v5 h6).bind fun v7 h8 =>
 (call F.place_Clamp [v7] h8).bind fun v9 h10 =>
 .ok v9 h10
theorem place_Add_R (k : Nat) (a0 a1 : Value) (h : Heap) : R (T k) F.place_Add [a0, a1] h = nrm .gc h (place_Add k (R (T k)) a0 a1 h) :=
 (R_body (t := T k) (T_scott k) (by kernel_rfl) (by kernel_rfl) _ _).trans (by kernel_rfl)
end
end Go.Sw
end
section
set_option maxRecDepth 100000
set_option linter.unusedVariables false
namespace Go.Sw
noncomputable section
end
end Go.Sw
end
section
namespace Go.Sw
def clampI (n : Int) : Int := if n > 2147483647 then 2147483647 else if n < -2147483648 then -2147483648 else n
theorem clampI_lo (n : Int) : -2147483648 ≤ clampI n := by unfold clampI; omega
theorem clampI_hi (n : Int) : clampI n ≤ 2147483647 := by unfold clampI; omega
@[simp] theorem Clamp_run (k : Nat) (x : Int) (H : Heap) : R (T k) F.place_Clamp [.int .i64 x] H = .ok (.int .i32 (clampI x)) H := by
 rw [place_Clamp_R]
 refine nrm_gc (Pure.of ?_) (.int _ _)
 simp only [place_Clamp, max_int, min_int, Res.bind_ok, cv_3_21, cvK_int]
 congr 2
 unfold clampI
 rw [wrap_i32] <;> omega
def addI (a n : Int) : Int := clampI (a + clampI n)
theorem addI_lo (a n : Int) : -2147483648 ≤ addI a n := clampI_lo _
theorem addI_hi (a n : Int) : addI a n ≤ 2147483647 := clampI_hi _
theorem Add_run (k : Nat) (a x : Int) (h1 : -2147483648 ≤ a) (h2 : a ≤ 2147483647) (H : Heap) : R (T k) F.place_Add [.int .i32 a, .int .i64 x] H = .ok (.int .i32 (addI a x)) H := by
 have := clampI_lo x
 have := clampI_hi x
 rw [place_Add_R]
 refine nrm_gc (Pure.of ?_) (.int _ _)
 simp (disch := omega) [place_Add, addI]
structure Pl where
 adv : Int
 x : Int
 y : Int
 deriving DecidableEq
def Pl.ok (p : Pl) : Prop := (-2147483648 ≤ p.adv ∧ p.adv ≤ 2147483647) ∧ (-2147483648 ≤ p.x ∧ p.x ≤ 2147483647) ∧ (-2147483648 ≤ p.y ∧ p.y ≤ 2147483647)
abbrev encP (p : Pl) : List Value := [.int .i32 p.adv, .int .i32 p.x, .int .i32 p.y]
theorem encP_len (p : Pl) : (encP p).length = 3 := rfl
theorem encP_still (l : List Pl) : ∀ p, p ∈ l → ∀ v, v ∈ encP p → Still v := by
 intro p _ v hv
 simp [encP] at hv
 rcases hv with rfl | rfl | rfl <;> trivial
theorem encP_flat (l : List Pl) : ∀ p, p ∈ l → Flats (encP p) := fun p _ => .cons (.int _ _) (.cons (.int _ _) (.cons (.int _ _) .nil))
end Go.Sw
end
section
namespace Go.Sw
def newPl (l : List Int) : List Pl := l.map fun n => ⟨clampI n, 0, 0⟩
def updPl (l : List Pl) (i : Int) (f : Pl → Pl) : List Pl := if 0 ≤ i then l.modify i.toNat f else l
end Go.Sw
end
section
namespace Go.Sw
def PlAt (H : Heap) (p : Nat) (o : Option Nat) (down : Bool) (l : List Pl) : Prop :=
 (∀ b, o = some b → b ≠ p) ∧ ∃ s, H.get p = some ⟨[.bool down, s], 1, false⟩ ∧ OwnO H o 3 s encP l
theorem PlAt.up {H H' : Heap} {p : Nat} {o : Option Nat} {down : Bool} {l : List Pl} (h : PlAt H p o down l) (hp : H'.get p = H.get p) (ho : ∀ b, o = some b → H'.get b = H.get b) : PlAt H' p o down l := by
 obtain ⟨h1, s, h2, h3⟩ := h
 exact ⟨h1, s, by rw [hp]; exact h2, h3.up ho⟩
theorem PlAt.lt {H : Heap} {p : Nat} {o : Option Nat} {down : Bool} {l : List Pl} (h : PlAt H p o down l) : p < H.n := by
 obtain ⟨_, s, h2, _⟩ := h
 exact Heap.get_lt h2
theorem PlAt.lto {H : Heap} {p : Nat} {o : Option Nat} {down : Bool} {l : List Pl} (h : PlAt H p o down l) : ∀ b, o = some b → b < H.n := by
 obtain ⟨_, s, _, h3⟩ := h
 intro b hb
 rcases h3 with ⟨h4, _⟩ | ⟨c, h4, _, h5⟩
 ·rw [h4] at hb; cases hb
 ·rw [h4] at hb; injection hb with hb; subst hb; exact Heap.get_lt h5
theorem PlAt.ext {H H' : Heap} {p : Nat} {o : Option Nat} {down : Bool} {l : List Pl} (h : PlAt H p o down l) (hx : Ext H H') : PlAt H' p o down l :=
 h.up (hx.2 p h.lt (by simp)) fun b hb => hx.2 b (h.lto b hb) (by simp)
def fpP (p : Nat) (o : Option Nat) : List Nat := p :: o.toList
theorem Len_run (k : Nat) {H : Heap} {p : Nat} {o : Option Nat} {down : Bool} {l : List Pl} (h : PlAt H p o down l) : R (T k) F.place_Places_Len [.pointer (some ⟨p, 0, none⟩)] H = .ok (.int .i64 l.length) H := by
 obtain ⟨_, s, h2, h3⟩ := h
 rw [place_Places_Len_R]
 refine nrm_gc (Pure.of ?_) (.int _ _)
 simp -implicitDefEqProofs [place_Places_Len, h2, h3.len]
theorem plAt_run (k : Nat) {H : Heap} {p : Nat} {o : Option Nat} {down : Bool} {l : List Pl} (h : PlAt H p o down l) (hok : ∀ q, q ∈ l → q.ok) (i : Int) :
  ∃ H1 b j l' q e, R (T k) F.place_Places_at [.pointer (some ⟨p, 0, none⟩), .int .i64 i] H = .ok (.pointer (some ⟨b, j * 3, none⟩)) H1 ∧ b ≠ p ∧ H1.get b = some ⟨rows encP l', e, false⟩ ∧ l'[j]? = some q ∧ q.ok ∧ H1.get p = H.get p ∧
   ∀ (H2 : Heap) (f : Pl → Pl), H2.get b = some ⟨rows encP (l'.set j (f q)), e, false⟩ → (∀ c, c ≠ b → H2.get c = H1.get c) → H2.n = H1.n → PlAt H2 p o down (updPl l i f) ∧ Keeps (fpP p o) H H2 := by
 have hh := h
 have hlt := h.lt
 have hlto := h.lto
 obtain ⟨hne, s, h2, h3⟩ := h
 rw [place_Places_at_R]
 by_cases hi : 0 ≤ i ∧ i < l.length
 ·obtain ⟨n, rfl⟩ : ∃ n : Nat, i = n := ⟨i.toNat, by omega⟩
  have hn : n < l.length := by omega
  obtain ⟨q, hq⟩ : ∃ q, l[n]? = some q := ⟨l[n], List.getElem?_eq_getElem hn⟩
  obtain ⟨b, rfl, rfl, hb, hix⟩ := h3.ix .i64 n hn
  have h0 : ¬ (n : Int) < 0 := by omega
  have h1 : ¬ (l.length : Int) ≤ n := by omega
  refine ⟨H, b, n, l, q, 3, by simp -implicitDefEqProofs [place_Places_at, h2, h0, h1, hix], hne b rfl, hb, hq, hok q (List.mem_of_getElem? hq), rfl, fun H2 f g1 g2 g3 => ⟨⟨hne, _, by rw [g2 p (fun e => hne b rfl e.symm)]; exact h2, ?_⟩, by rw [g3]; exact Nat.le_refl _, fun c hc hs => g2 c fun e => hs (by simp [fpP, e])⟩⟩
  have : updPl l n f = l.set n (f q) := by
   unfold updPl
   rw [if_pos (by omega), Int.toNat_natCast, modify_set _ l n q hq]
  rw [this]
  exact .inr ⟨b, rfl, by simp, g1⟩
 ·refine ⟨H.push ⟨[.int .i32 0, .int .i32 0, .int .i32 0], 1, false⟩, H.n, 0, [⟨0, 0, 0⟩], ⟨0, 0, 0⟩, 1, ?_, by omega, by rw [Heap.get_push, if_pos rfl]; rfl, rfl, by unfold Pl.ok; simp, get_push_lt _ _ _ hlt, fun H2 f g1 g2 g3 => ?_⟩
  ·by_cases h0 : i < 0
   ·simp -implicitDefEqProofs [place_Places_at, h0]
   ·have h1 : (l.length : Int) ≤ i := by omega
    simp -implicitDefEqProofs [place_Places_at, h0, h2, h3.len, h1]
  ·have : updPl l i f = l := by
    unfold updPl
    split
    ·exact modify_none _ _ _ (by omega)
    ·rfl
   rw [this]
   have hx : Ext H H2 := ⟨by rw [g3]; simp, fun c hc hs => by rw [g2 c (by omega)]; exact get_push_lt _ _ _ hc⟩
   exact ⟨hh.ext hx, hx.1, fun c hc _ => hx.2 c hc (by simp)⟩
theorem Along_run (k : Nat) {H : Heap} {p : Nat} {o : Option Nat} {down : Bool} {l : List Pl} (h : PlAt H p o down l) (hok : ∀ q, q ∈ l → q.ok) (i n : Int) :
  ∃ H2, R (T k) F.place_Places_Along [.pointer (some ⟨p, 0, none⟩), .int .i64 i, .int .i64 n] H = .ok (.tuple #[]) H2 ∧ PlAt H2 p o down (updPl l i fun q => ⟨addI q.adv n, q.x, q.y⟩) ∧ Keeps (fpP p o) H H2 := by
 obtain ⟨H1, b, j, l', q, e, a1, _, a2, a3, a4, _, a5⟩ := plAt_run k h hok i
 have r1 := ld1_row encP_len a2 (c := 0) a3 (by decide) rfl
 obtain ⟨H2, s1, g1, k1, n1⟩ := st_row encP_len a2 (c := 0) (n := 1) ⟨addI q.adv n, q.x, q.y⟩ (v := .int .i32 (addI q.adv n)) a3 rfl rfl (by decide) rfl
 obtain ⟨b1, b2⟩ := a5 H2 (fun q => ⟨addI q.adv n, q.x, q.y⟩) g1 k1 n1
 refine ⟨H2, ?_, b1, b2⟩
 simp only [Nat.add_zero] at r1 s1
 rw [place_Places_Along_R]
 simp -implicitDefEqProofs [-ld1_ptr, -stR_ptr, place_Places_Along, a1, r1, s1, Add_run _ _ _ a4.1.1 a4.1.2]
end Go.Sw
end
section
namespace Go.Sw
theorem cloneP_R (k : Nat) (a : Value) (H : Heap) : R (T k) F.slices_Clone_of_api_Place_api_Place [a] H = nrm .no H (cloneV 3 12 [a] H) :=
 R_sp (t := T k) (T_scott k) (s := fun _ args H => cloneV 3 12 args H) (by kernel_rfl) _ _
theorem All_run (k : Nat) (hk : k < 1000000) {H : Heap} {p : Nat} {o : Option Nat} {down : Bool} {l : List Pl} (h : PlAt H p o down l) (hl : l.length ≤ 2 ^ 20) : R (T k) F.place_Places_All [.pointer (some ⟨p, 0, none⟩)] H = .ok (lv encP l) H := by
 obtain ⟨_, s, h2, h3⟩ := h
 obtain ⟨s', H', e1, o1, x1⟩ := clone_own (bytes := 12) encP_len h3 (by omega) (by decide)
 have ho : own k = .fz := by unfold own; rw [show Nat.blt k 1000000 = true from Nat.ble_eq_true_of_le hk]; rfl
 rw [place_Places_All_R, ho]
 obtain ⟨L, hf⟩ := o1.freeze encP_len (encP_still _) 6
 refine nrm_fz (v := s') (H' := H') ?_ hf x1 (Flat.alive (Flat.lv (encP_flat _)))
 simp -implicitDefEqProofs [place_Places_All, h2, cloneP_R, e1]
theorem New_runG (k : Nat) (dir : Int) (l : List Int) (hl : l.length ≤ 2 ^ 20) (H : Heap) {av : Value} (hv : Sl H 1 av encI l) :
  ∃ H' o, R (T k) F.place_New [.int .i64 dir, av] H = .ok (.pointer (some ⟨H.n, 0, none⟩)) H' ∧ PlAt H' H.n o (dir == 2) (newPl l) ∧ (∀ b, o = some b → H.n < b) ∧ Ext H H' := by
 rw [place_New_R]
 obtain ⟨x, e', H1, hr, v, rfl, rfl, o, ho, hf, hx⟩ := loop_up (body := place_New_l1 k (R (T k))) l.length
  (fun i e H' => e = [(5, .pointer (some ⟨H.n, 0, none⟩)), (12, av), (13, .int .i64 l.length), (14, .int .i64 i)] ∧ ∃ o, PlAt H' H.n o (dir == 2) (newPl (l.take i)) ∧ (∀ b, o = some b → H.n < b) ∧ Ext H H')
  (fun x e H' => ∃ v, x = .exit 0 ∧ e = [(5, .pointer (some ⟨H.n, 0, none⟩)), (12, av), (13, .int .i64 l.length), (14, .int .i64 l.length), (15, v)] ∧ ∃ o, PlAt H' H.n o (dir == 2) (newPl l) ∧ (∀ b, o = some b → H.n < b) ∧ Ext H H')
  (e0 := [(5, .pointer (some ⟨H.n, 0, none⟩)), (12, av), (13, .int .i64 l.length), (14, .int .i64 0)]) (H0 := H.push ⟨[.bool (dir == 2), .slice none 0 0], 1, false⟩)
  ⟨rfl, none, ⟨(fun b hb => by cases hb), .slice none 0 0, by rw [Heap.get_push, if_pos rfl], .inl ⟨rfl, rfl, .inl rfl⟩⟩, (fun b hb => by cases hb), (Ext.refl H).push _⟩ (by omega)
  (fun i e H' hi ⟨he, o, ⟨hne, s, h2, h3⟩, hof, hx⟩ => by
   subst he
   obtain ⟨n, hg⟩ : ∃ n, l[i]? = some n := ⟨l[i], List.getElem?_eq_getElem hi⟩
   have hlt : (i : Int) < l.length := by omega
   have hpn : H.n < H'.n := Heap.get_lt h2
   have hlto : ∀ b, o = some b → b < H'.n := fun b hb => by
    rcases h3 with ⟨h4, _⟩ | ⟨c, h4, _, h5⟩
    ·rw [h4] at hb; cases hb
    ·rw [h4] at hb; injection hb with hb; subst hb; exact Heap.get_lt h5
   have hlen : (newPl (l.take i)).length < 2 ^ 31 := by simp [newPl]; omega
   obtain ⟨s', H2, e1, o1, n1, k1⟩ := ap1_ownO (bytes := 12) encP_len h3 hlto ⟨clampI n, 0, 0⟩ hlen (by decide)
   have k2 := k1 H.n hpn fun e => hne H.n e rfl
   rw [h2] at k2
   have hne2 : ¬ H.n = H'.n := by omega
   obtain ⟨pt, hix, hld⟩ := hv.ix1 encI_len i n hg _ rfl
   have hld := hld H' hx
   refine .inl ⟨_, H2.set H.n (some ⟨[.bool (dir == 2), s'], 1, false⟩), ?_, rfl, some (H'.n + 1), ⟨fun b hb => by injection hb; omega, s', by rw [Heap.get_set k2, if_pos rfl], ?_⟩, fun b hb => by injection hb; omega, ?_⟩
   ·rw [place_New_l1_eq]
    simp -implicitDefEqProofs (disch := omega) [hlt, hix, hld, h2, e1, k2, hne2, h3.veq, o1.storable, o1.cells]
   ·have := o1.up (H' := H2.set H.n (some ⟨[.bool (dir == 2), s'], 1, false⟩)) fun b hb => by
     injection hb with hb
     exact get_set_ne _ _ _ _ (by omega)
    have e : newPl (l.take (i + 1)) = newPl (l.take i) ++ [⟨clampI n, 0, 0⟩] := by
     rw [List.take_add_one, hg]; simp [newPl]
    rw [e]
    exact this
   ·refine ⟨by rw [Heap.n_set, n1]; have := hx.n; omega, fun c hc hs => ?_⟩
    rw [get_set_ne _ _ _ _ (by omega), k1 c (by omega) (fun e => by have := hof c e; omega)]
    exact hx.2 c hc hs)
  (fun e H' ⟨he, o, ho, hof, hx⟩ => by
   subst he
   rw [place_New_l1_eq]
   exact ⟨.exit 0, _, H', by simp -implicitDefEqProofs <;> rfl, by simp, _, rfl, rfl, o, by simpa using ho, hof, hx⟩)
 have hln := fun H' => hv.len H'
 refine ⟨H1, o, ?_, ho, hf, hx⟩
 simp -implicitDefEqProofs [place_New, hln, hr, place_New_l1k_x0]
end Go.Sw
end
section
namespace Go.Sw
open Go.RowKit
end Go.Sw
end
section
namespace Go.Sw
open Go.RowKit
theorem newPl_ok (l : List Int) : ∀ q, q ∈ newPl l → q.ok := by
 intro q hq
 obtain ⟨n, _, rfl⟩ := List.mem_map.1 hq
 have := clampI_lo n
 have := clampI_hi n
 unfold Pl.ok
 dsimp only
 omega
@[simp] theorem newPl_len (l : List Int) : (newPl l).length = l.length := by simp [newPl]
theorem addI_ok (a n : Int) : -2147483648 ≤ addI a n ∧ addI a n ≤ 2147483647 := ⟨addI_lo _ _, addI_hi _ _⟩
theorem updPl_ok {l : List Pl} (h : ∀ q, q ∈ l → q.ok) (i : Int) {f : Pl → Pl} (hf : ∀ q, q.ok → (f q).ok) : ∀ q, q ∈ updPl l i f → q.ok := by
 unfold updPl
 split
 ·intro q hq
  obtain ⟨j, hj⟩ := List.getElem?_of_mem hq
  rw [List.getElem?_modify] at hj
  cases hg : l[j]? with
  | none => rw [hg] at hj; simp at hj
  | some x =>
   have hx := h x (List.mem_of_getElem? hg)
   rw [hg] at hj
   simp at hj
   subst hj
   split
   ·exact hf x hx
   ·exact hx
 ·exact h
end Go.Sw
end
section
namespace Go.Sw
open Go.RowKit
def itPl (p : Nat) (o : Option Nat) (down : Bool) (l : List Pl) : It :=
 ⟨fpP p o, fun H => PlAt H p o down l, fun _ _ h hk => h.up (hk p (by simp [fpP])) fun b hb => hk b (by simp [fpP, hb])⟩
theorem Star.pl {H0 H : Heap} {L : List It} (h : Star H0 H L) (i : Nat) {p : Nat} {o : Option Nat} {down : Bool} {l : List Pl} (hi : L[i]? = some (itPl p o down l)) : PlAt H p o down l := h.at i hi
theorem Star.plStep {H0 H H2 : Heap} {L : List It} (h : Star H0 H L) (i : Nat) {p : Nat} {o : Option Nat} {down : Bool} {l l2 : List Pl} (hi : L[i]? = some (itPl p o down l)) (hp : PlAt H2 p o down l2) (hk : Keeps (fpP p o) H H2) : Star H0 H2 (L.set i (itPl p o down l2)) :=
 h.step i hi hk.1 (fun c hc hs => hk.2 c hc hs) _ hp fun b hb => .inl hb
theorem along_star (k : Nat) {H0 H : Heap} {L : List It} (h : Star H0 H L) (i : Nat) {p : Nat} {o : Option Nat} {down : Bool} {l : List Pl} (hi : L[i]? = some (itPl p o down l)) (hok : ∀ q, q ∈ l → q.ok) (j n : Int) :
  ∃ H2, R (T k) F.place_Places_Along [ptrV p, .int .i64 j, .int .i64 n] H = .ok (.tuple #[]) H2 ∧ Star H0 H2 (L.set i (itPl p o down (updPl l j fun q => ⟨addI q.adv n, q.x, q.y⟩))) := by
 obtain ⟨H2, e, h1, h2⟩ := Along_run k (h.pl i hi) hok j n
 exact ⟨H2, e, h.plStep i hi h1 h2⟩
theorem placeNew_starG (k : Nat) {H0 H : Heap} {L : List It} (h : Star H0 H L) (dir : Int) (l : List Int) (hl : l.length ≤ 2 ^ 20) {av : Value} (hv : Sl H 1 av encI l) :
  ∃ o H', R (T k) F.place_New [.int .i64 dir, av] H = .ok (ptrV H.n) H' ∧ Star H0 H' (L ++ [itPl H.n o (dir == 2) (newPl l)]) := by
 obtain ⟨H', o, e, h1, h2, h3⟩ := New_runG k dir l hl H hv
 refine ⟨o, H', e, h.more h3 _ h1 fun b hb => ?_⟩
 have hlt := h1.lt
 rcases List.mem_cons.1 hb with rfl | hb
 ·omega
 ·have := h2 b (Option.mem_toList.1 hb)
  have := h1.lto b (Option.mem_toList.1 hb)
  omega
theorem placeAll_run (k : Nat) (hk : k < 1000000) {H0 H : Heap} {L : List It} (h : Star H0 H L) (i : Nat) {p : Nat} {o : Option Nat} {down : Bool} {l : List Pl} (hi : L[i]? = some (itPl p o down l)) (hl : l.length ≤ 2 ^ 20) : R (T k) F.place_Places_All [ptrV p] H = .ok (lv encP l) H := All_run k hk (h.pl i hi) hl
end Go.Sw
end
section
namespace Go.Sw
open Go.RowKit
theorem pWrite_runG (k : Nat) (l : List PW) (hl : ∀ p, p ∈ l → p.ok) (hn : l.length ≤ 1000) {H : Heap} {v : Value} (hv : Sl H 3 v encPW l) : R (T k) F.swashlaw22_Write [v] H = .ok (lv encB (listW l)) H := by
 rw [swashlaw22_Write_R]
 have g := (Star.nil H).more_row (Ext.refl _) (OwnO.nil encB _ 1) (fun b hb => by cases hb)
 simp only [List.nil_append] at g
 obtain ⟨t1, u1, J1, f1, g⟩ := Put_star k g 0 rfl l.length 4 4 rfl (by omega) (by omega) (by omega) (by simp)
 simp only [List.set_cons_zero, List.set_cons_succ, List.nil_append] at g
 obtain ⟨a4, l4, c4, ht4⟩ := (g.row 0 rfl).shape
 obtain ⟨t5, u5, J5, f5, g⟩ := g.append (bytes := 1) 0 encB_len rfl (b := lv encB (List.replicate 12 0)) (l2 := List.replicate 12 0) (by rw [lv, List.length_replicate]; rfl) (by have := lv_first encB_len (List.replicate 12 0) J1; exact this) (by simp) (by decide)
 simp only [List.set_cons_zero, List.set_cons_succ] at g
 have f5' : azR 1 1 [.int .u8 0] t1 (.int .i64 12) J1 = .ok t5 J5 := by
  rw [ht4] at f5 ⊢
  rw [show ((12 : Int)) = ((12 : Nat) : Int) from rfl, azR_eq encB_len a4 l4 c4 (0 : Int) _ rfl .i64 12 (by omega)]
  exact f5
 obtain ⟨x, e', H4, hr4, rfl, z4, s4, o4, rfl, g⟩ := loop_up (body := swashlaw22_Write_l1 k (R (T k))) l.length
  (fun j e H' => ∃ s o, e = [(3, s), (10, v), (11, .int .i64 l.length), (12, .int .i64 j)] ∧ Star H H' [itRow o 1 s encB ((bytesOf (l.length : Int) 4 ++ List.replicate 12 0) ++ prsB (l.take j))])
  (fun x e H' => x = .exit 0 ∧ ∃ z s o, e = [(3, s), (10, v), (11, .int .i64 l.length), (12, z), (13, .bool false)] ∧ Star H H' [itRow o 1 s encB (listW l)])
  (e0 := [(3, t5), (10, v), (11, .int .i64 l.length), (12, .int .i64 0)]) (H0 := J5) ⟨t5, u5, rfl, by simpa [prsB] using g⟩ (by omega)
  (fun j e H' hj ⟨s, o, he, g⟩ => by
   subst he
   have hlt : (j : Int) < l.length := by omega
   obtain ⟨c, hc⟩ : ∃ c, l[j]? = some c := ⟨_, List.getElem?_eq_getElem hj⟩
   obtain ⟨q, i1, i2⟩ := ((hv.up g.ext).rd (by decide) encPW_len).2 j c hc
   have hcb := hl c (List.mem_of_getElem? hc)
   obtain ⟨hc1, hc2, hc3⟩ := hcb
   have b3 := m16_bound c.v
   have wu := wrap_m16 c.v
   have hlen : (bytesOf (l.length : Int) 4 ++ List.replicate 12 0 ++ prsB (l.take j)).length ≤ 16 + 6000 := by
    simp [prsB_len, List.length_take]
    omega
   have g := g.push ⟨encPW c, 1, false⟩
   simp only [List.cons_append, List.nil_append] at g
   obtain ⟨s1, o1, H1, e1, g1⟩ := Put_star k g 0 rfl c.l 2 2 rfl hc1.1 (by omega) (by omega) (by omega)
   simp only [List.set_cons_zero, List.set_cons_succ] at g1
   have h1 := g1.get 1 rfl
   obtain ⟨s2, o2, H2, e2, g2⟩ := Put_star k g1 0 rfl c.r 2 2 rfl hc2.1 (by omega) (by omega) (by rw [List.length_append]; simp only [bytesOf_len]; omega)
   simp only [List.set_cons_zero, List.set_cons_succ] at g2
   have h2 := g2.get 1 rfl
   obtain ⟨s3, o3, H3, e3, g3⟩ := Put_star k g2 0 rfl (m16 c.v) 2 2 rfl b3.1 (by omega) (by omega) (by rw [List.length_append, List.length_append]; simp only [bytesOf_len]; omega)
   simp only [List.set_cons_zero, List.set_cons_succ] at g3
   refine .inl ⟨_, H3, ?_, s3, o3, rfl, by rw [take_snoc hc, prsB_snoc]; simpa [prB] using g3.take 1⟩
   rw [swashlaw22_Write_l1_eq]
   simp -implicitDefEqProofs (disch := omega) [hlt, i1, i2, e1, h1, wu, e2, h2, e3])
  (fun e H' ⟨s, o, he, g⟩ => by
   subst he
   rw [List.take_length] at g
   refine ⟨.exit 0, _, H', ?_, by simp, rfl, .int .i64 l.length, s, o, rfl, g⟩
   rw [swashlaw22_Write_l1_eq]
   simp -implicitDefEqProofs)
 obtain ⟨L, hf⟩ := (g.own 0 rfl).freeze encB_len (fun n _ v hv => by simp at hv; subst hv; trivial) 6
 refine nrm_fz (v := s4) (H' := H4) ?_ hf g.ext (Flat.B _).alive
 have hlv := fun H' => hv.len H'
 simp -implicitDefEqProofs (disch := omega) [swashlaw22_Write, hlv, f1, f5', hr4, swashlaw22_Write_l1k_x0]
def sumA (l : List Pl) : Int := (l.map Pl.adv).sum
theorem sum_modify : ∀ (l : List Pl) (i : Nat) (q : Pl) (_ : l[i]? = some q) (f : Pl → Pl), sumA (l.modify i f) = sumA l - q.adv + (f q).adv
 | [], i, q, h, f => by simp at h
 | a :: l, 0, q, h, f => by
  have h : a = q := by simpa using h
  subst h
  simp [sumA]
  omega
 | a :: l, i + 1, q, h, f => by
  have h : l[i]? = some q := by simpa using h
  have := sum_modify l i q h f
  unfold sumA at this ⊢
  simp [this]
  omega
theorem sumA_upd (l : List Pl) (i : Nat) (q : Pl) (h : l[i]? = some q) (f : Pl → Pl) : sumA (updPl l (i : Int) f) = sumA l - q.adv + (f q).adv := by
 unfold updPl
 rw [if_pos (by omega), Int.toNat_natCast]
 exact sum_modify l i q h f
theorem s16_bound {b : List Int} (hb : Byt b) (i : Int) : -65536 ≤ s16 (gU b i 2) ∧ s16 (gU b i 2) < 65536 := by
 have := gU_two hb i
 unfold s16
 split <;> omega
theorem pget_lim (l : List PW) (x y : Int) : -65536 ≤ pgetS ⟨keysW l, prsB l, none, none, 0, 2⟩ x y ∧ pgetS ⟨keysW l, prsB l, none, none, 0, 2⟩ x y < 65536 := by
 unfold pgetS
 dsimp only
 split
 ·omega
 ·split
  ·unfold pvalS
   rw [if_neg (show ¬ (2 : Int) = 4 by decide)]
   exact s16_bound (prsB_byt l) _
  ·omega
end Go.Sw
end
section
namespace Go.Sw
open Go.RowKit
theorem row_PW {r : List Da} {cs : List Value} (h : LayRow [.int .u16, .int .u16, .int .i16] r cs) : ∃ p : PW, cs = encPW p ∧ p.ok := by
 obtain ⟨_, v1, _, _, rfl, h1, h⟩ := h.head
 obtain ⟨_, v2, _, _, rfl, h2, h⟩ := h.head
 obtain ⟨_, v3, _, _, rfl, h3, h⟩ := h.head
 obtain rfl := h.done
 obtain ⟨a, rfl, ha⟩ := h1.intv
 obtain ⟨b, rfl, hb⟩ := h2.intv
 obtain ⟨c, rfl, hc⟩ := h3.intv
 refine ⟨⟨a, b, c⟩, rfl, wf_u16 ha, wf_u16 hb, ?_⟩
 simp [Lit.wf, IntKind.min, IntKind.max, IntKind.signed, IntKind.bits] at hc
 dsimp only
 omega
end Go.Sw
end
section
namespace Go.Sw
open Go.RowKit
end Go.Sw
end
section
namespace Go.Sw
open Go.RowKit
structure CTab where
 m : Mach
 subs : List (Int × List Pt)
end Go.Sw
end
section
namespace Go.Sw
open Go.RowKit
end Go.Sw
end
section
namespace Go.Sw
open Go.RowKit
end Go.Sw
end
section
set_option maxRecDepth 100000
set_option linter.unusedVariables false
namespace Go.Sw
noncomputable section
end
end Go.Sw
end
section
namespace Go.Sw
open Go.RowKit
variable {σ : Type}
end Go.Sw
end
section
namespace Go.Sw
open Go.RowKit
variable {σ : Type}
end Go.Sw
end
section
set_option maxRecDepth 100000
set_option linter.unusedVariables false
namespace Go.Sw
noncomputable section
end
end Go.Sw
end
section
namespace Go.Sw
open Go.RowKit
end Go.Sw
end
section
namespace Go.Sw
open Go.RowKit
end Go.Sw
end
section
namespace Go.Sw
open Go.RowKit
end Go.Sw
end
section
namespace Go.Sw
open Go.RowKit
end Go.Sw
end
section
namespace Go.Sw
open Go.RowKit
variable {σ : Type}
end Go.Sw
end
section
namespace Go.Sw
open Go.RowKit Go.Proofs
set_option maxRecDepth 20000 in
theorem catch_short (p : Addr) (b : Bool) (w : World) (hc : (w.alloc (.cells #[] 200)).cell? p = some (.bool b)) (hz : (w.alloc (.cells #[] 200)).frozen? p = false) :
  CallsD Prog 105 #[.pointer (some p)] (.panicking [{ v := .iface 200 (.agg #[]), recovered := false }]) w fun e u' w' =>
   e = .returned (.tuple #[]) ∧ u' = .panicking [{ v := .iface 200 (.agg #[]), recovered := true }] ∧ w' = (w.alloc (.cells #[] 200)).setCell p (.bool false) := by
 refine callsD_of_wpS Try.func105 rfl fun c₀ cs hu => ?_
 apply wpS_seq
 apply wpS_region
 simp [wpOpsS, go_sem, recoverD, hu, Try.ntmps105, Exit.thenS]
 have hta : ∀ w, (Instr.typeAssert (.iface 200 (.agg #[])) 20 200 true).run Prog w = .ok (.tuple #[.agg #[], .bool true]) w := fun w => by kernel_rfl
 refine wpS_of_wp ?_
 go_wp2
 cases c₀
 simp_all [bodyPostS, results, Try.results105]
theorem catch_idle (p : Addr) (w : World) :
  CallsD Prog 105 #[.pointer (some p)] .returning w fun e u' w' => e = .returned (.tuple #[]) ∧ u' = .returning ∧ w' = w := by
 refine callsD_of_wpS Try.func105 rfl fun c₀ cs hu => ?_
 apply wpS_seq
 apply wpS_region
 simp [wpOpsS, go_sem, recoverD, hu, Try.ntmps105, Exit.thenS]
 refine wpS_of_wp ?_
 go_wp2
 cases c₀
 simp_all [bodyPostS, results, Try.results105]
set_option maxRecDepth 20000 in
theorem try_walk (g : FuncId) (first cap : Array Value) (w : World) (R : Ending → World → Prop)
  (hcf : (callFunc g (first ++ cap)).run Prog (w.alloc (.cells #[.bool false] 4)) = .ok (.enter g (first ++ cap)) (w.alloc (.cells #[.bool false] 4)))
  (hcall : Calls Prog g (first ++ cap) (w.alloc (.cells #[.bool false] 4)) fun e w' => match e with
   | .returned _ => w'.heap[w.heap.size]? = some (.cells #[.bool false] 4 (0, 0)) ∧ R (.returned (.bool true)) (w'.setCell ⟨w.heap.size, 0, none⟩ (.bool true))
   | .panicked chain => chain = [{ v := .iface 200 (.agg #[]), recovered := false }] ∧ w'.heap[w.heap.size]? = some (.cells #[.bool false] 4 (0, 0)) ∧ R (.returned (.bool false)) ((w'.alloc (.cells #[] 200)).setCell ⟨w.heap.size, 0, none⟩ (.bool false))
   | .outgrown => False) :
  Calls Prog 35 #[.func (.func g) first cap] w R := by
 have hmf : ∀ (fn : Fn) (first cap : Array Value) (w : World), (Instr.makeFunc fn first cap).run Prog w = .ok (.func fn first cap) w := fun _ _ _ _ => rfl
 go_enter_defers Try.func35, Try.ntmps35
 go_wp2
 rename_i K2 hK2 K1 hK1
 refine hcall.mono fun e w' he => ?_
 cases e with
 | returned v =>
  obtain ⟨h1, h2⟩ := he
  have hc : w'.cell? ⟨w.heap.size, 0, none⟩ = some (.bool false) := by simp [World.cell?, h1]
  have hz : w'.frozen? ⟨w.heap.size, 0, none⟩ = false := by simp [World.frozen?, h1]
  apply hK1
  apply hK2
  go_wp2
  have hc2 : (w'.setCell ⟨w.heap.size, 0, none⟩ (.bool true)).cell? ⟨w.heap.size, 0, none⟩ = some (.bool true) := World.cell?_setCell_same _ _ _ hc
  refine leaves_cons (f := 105) (args := #[.pointer (some ⟨w.heap.size, 0, none⟩)]) (by simp) (by simp [go_sem]) ?_
  refine (catch_idle ⟨w.heap.size, 0, none⟩ _).mono ?_
  rintro e u' w'' ⟨rfl, rfl, rfl⟩
  simp [Leaves, settle, results, Try.results35, go_sem, hc2]
  exact h2
 | panicked chain =>
  obtain ⟨h0, h1, h2⟩ := he
  subst h0
  have hlt : w.heap.size < w'.heap.size := by
   rcases Nat.lt_or_ge w.heap.size w'.heap.size with h | h
   ·exact h
   ·rw [Array.getElem?_eq_none h] at h1; cases h1
  have h3 : (w'.alloc (.cells #[] 200)).heap[w.heap.size]? = some (.cells #[.bool false] 4 (0, 0)) := by
   rw [heap_alloc_lt _ _ _ hlt]; exact h1
  have hc : (w'.alloc (.cells #[] 200)).cell? ⟨w.heap.size, 0, none⟩ = some (.bool false) := by simp only [World.cell?, h3]; rfl
  have hz : (w'.alloc (.cells #[] 200)).frozen? ⟨w.heap.size, 0, none⟩ = false := by simp [World.frozen?, h3]
  have hc2 : ((w'.alloc (.cells #[] 200)).setCell ⟨w.heap.size, 0, none⟩ (.bool false)).cell? ⟨w.heap.size, 0, none⟩ = some (.bool false) := World.cell?_setCell_same _ _ _ hc
  show Leaves _ _ _ _ _ _ _
  refine leaves_cons (f := 105) (args := #[.pointer (some ⟨w.heap.size, 0, none⟩)]) (by simp) (by simp [go_sem]) ?_
  refine (catch_short ⟨w.heap.size, 0, none⟩ false _ hc hz).mono ?_
  rintro e u' w'' ⟨rfl, rfl, rfl⟩
  simp [Leaves, settle, results, Try.results35, go_sem, hc2]
  exact h2
 | outgrown => exact he.elim
theorem try_is : SpIs Prog 35 (tryV 200) := try_of (bt := 4) Try.func35 rfl (by kernel_rfl) try_walk
end Go.Sw
end
section
namespace Go.Sw
open Go.RowKit
structure CTab.ok (t : CTab) : Prop where
 m : t.m.ok
 subs : ∀ x, x ∈ t.subs → (∀ p, p ∈ x.2 → p.ok) ∧ risesS x.2 = true ∧ x.2.length < 2 ^ 31
 has : ∀ e, e ∈ t.m.ents → (e.a = 65535 ∨ e.a < t.subs.length) ∧ (e.b = 65535 ∨ e.b < t.subs.length)
end Go.Sw
end
section
namespace Go.Sw
open Go.RowKit
end Go.Sw
end
section
namespace Go.Sw
open Go.RowKit
variable {σ : Type}
end Go.Sw
end
section
namespace Go.Sw
open Go.RowKit
end Go.Sw
end
section
namespace Go.Sw
open Go.RowKit
abbrev encU2 (n : Int) : List Value := [.int .u16 n]
theorem encU2_len (n : Int) : (encU2 n).length = 1 := rfl
end Go.Sw
end
section
set_option maxRecDepth 100000
set_option linter.unusedVariables false
namespace Go.Sw
noncomputable section
def swashtop_WholeTotals_l1 (k : Nat) (call : Caller) : Env → Heap → Res (AExit × Env) := loopB (C k) call F.swashtop_WholeTotals [1, 1, 1, 1, 1, 1, 1, 0, 1, 0, 0]
def swashtop_WholeTotals_l1k (k : Nat) (call : Caller) : Kont Value := kBlock 0 (kSeq (pieceK (C k) call F.swashtop_WholeTotals [1, 1, 1, 1, 1, 1, 1, 1]) (kDone Prog (resOf Prog F.swashtop_WholeTotals)))
def swashtop_WholeTotals_j1 (k : Nat) (call : Caller) (a1 a2 a7 a9 a10 a12 a60 a61 : Value) (h : Heap) : Res (AExit × Env) :=
 kSeq (pieceK (C k) call F.swashtop_WholeTotals [1, 1, 1, 1, 1, 1, 1, 0, 1, 0, 0, 1, 1, 0, 0, 1, 1, 1]) (kBlock 1 (kSeq (pieceK (C k) call F.swashtop_WholeTotals [1, 1, 1, 1, 1, 1, 1, 0, 1, 0, 0, 1, 1, 1]) (kRound (ownOf (C k) F.swashtop_WholeTotals [1, 1, 1, 1, 1, 1, 1, 0, 1, 0, 0])))) .normal [(1, a1), (2, a2), (7, a7), (9, a9), (10, a10), (12, a12), (60, a60), (61, a61)] h
def swashtop_WholeTotals_j2 (k : Nat) (call : Caller) (a1 a2 a7 a9 a10 a11 a12 a60 a61 a67 : Value) (h : Heap) : Res (AExit × Env) :=
 kSeq (pieceK (C k) call F.swashtop_WholeTotals [1, 1, 1, 1, 1, 1, 1, 0, 1, 0, 0, 1, 1, 0, 0, 1, 1, 1]) (kBlock 1 (kSeq (pieceK (C k) call F.swashtop_WholeTotals [1, 1, 1, 1, 1, 1, 1, 0, 1, 0, 0, 1, 1, 1]) (kRound (ownOf (C k) F.swashtop_WholeTotals [1, 1, 1, 1, 1, 1, 1, 0, 1, 0, 0])))) .normal [(1, a1), (2, a2), (7, a7), (9, a9), (10, a10), (11, a11), (12, a12), (60, a60), (61, a61), (67, a67)] h
def swashtop_WholeTotals_l2 (k : Nat) (call : Caller) : Env → Heap → Res (AExit × Env) := loopB (C k) call F.swashtop_WholeTotals [1, 1, 1, 1, 1, 1, 1, 1, 1, 0, 1, 0, 0]
def swashtop_WholeTotals_l2k (k : Nat) (call : Caller) : Kont Value := kBlock 2 (kSeq (pieceK (C k) call F.swashtop_WholeTotals [1, 1, 1, 1, 1, 1, 1, 1, 1, 1]) (kDone Prog (resOf Prog F.swashtop_WholeTotals)))
def swashtop_WholeTotals_l3 (k : Nat) (call : Caller) : Env → Heap → Res (AExit × Env) := loopB (C k) call F.swashtop_WholeTotals [1, 1, 1, 1, 1, 1, 1, 1, 1, 1, 1, 0, 1, 0, 0]
def swashtop_WholeTotals_l3k (k : Nat) (call : Caller) : Kont Value := kBlock 4 (kSeq (pieceK (C k) call F.swashtop_WholeTotals [1, 1, 1, 1, 1, 1, 1, 1, 1, 1, 1, 1]) (kDone Prog (resOf Prog F.swashtop_WholeTotals)))
def swashtop_WholeTotals (k : Nat) (call : Caller) (a0 a1 a2 : Value) (h : Heap) : Res Value :=
 (buildR Prog 156 [(0, (.int .u16 1)), (1, (.int .u16 2)), (2, (.int .i16 3))] h).bind fun v1 h2 =>
 (buildSliceR Prog 149 1 [(0, v1)] h2).bind fun v3 h4 =>
 (call F.swashlaw22_Write [v3] h4).bind fun v5 h6 =>
 (call F.pair_Read [(.int .i64 0), v5, (.int .i64 9)] h6).bind fun v7 h8 =>
 (extractR v7 0 h8).bind fun v9 h10 =>
 (extractR v7 1 h10).bind fun v11 h12 =>
 (binR Prog .neq 34 v11 (.int .i64 0) h12).bind fun v13 h14 =>
 ((bif wantVal v13 false then Res.ok v9 h14 else Res.ok undef h14)).bind fun v15 h16 =>
 ((bif wantVal v13 false then binR Prog .eql 150 v15 (.pointer none) h16 else Res.ok undef h16)).bind fun v17 h18 =>
 (condV (some v13) (Res.ok (.bool true) h18) (Res.ok v17 h18)).bind fun v19 h20 =>
 ((bif wantVal v19 false then Res.ok v9 h20 else Res.ok undef h20)).bind fun v21 h22 =>
 ((bif wantVal v19 false then call F.pair_Table_Get [v21, (.int .i64 1), (.int .i64 2)] h22 else Res.ok undef h22)).bind fun v23 h24 =>
 ((bif wantVal v19 false then binR Prog .neq 3 v23 (.int .i64 3) h24 else Res.ok undef h24)).bind fun v25 h26 =>
 (condV (some v19) (Res.ok (.bool true) h26) (Res.ok v25 h26)).bind fun v27 h28 =>
 condV (some v27) (
 .ok (.bool false) h28)
 (
 (builtinV Prog .len [149] [a0] h28).bind fun v29 h30 =>
 (binR Prog .gtr 3 v29 (.int .i64 60) h30).bind fun v31 h32 =>
 ((bif wantVal v31 false then Res.ok a1 h32 else Res.ok undef h32)).bind fun v33 h34 =>
 ((bif wantVal v31 false then builtinV Prog .len [22] [v33] h34 else Res.ok undef h34)).bind fun v35 h36 =>
 ((bif wantVal v31 false then binR Prog .gtr 3 v35 (.int .i64 60) h36 else Res.ok undef h36)).bind fun v37 h38 =>
 (condV (some v31) (Res.ok (.bool true) h38) (Res.ok v37 h38)).bind fun v39 h40 =>
 condV (some v39) (
 .ok (.bool true) h40)
 (
 (call F.swashlaw22_Write [a0] h40).bind fun v41 h42 =>
 (call F.pair_Read [(.int .i64 0), v41, (.int .i64 300)] h42).bind fun v43 h44 =>
 (extractR v43 0 h44).bind fun v45 h46 =>
 (extractR v43 1 h46).bind fun v47 h48 =>
 (binR Prog .neq 34 v47 (.int .i64 0) h48).bind fun v49 h50 =>
 ((bif wantVal v49 false then Res.ok v45 h50 else Res.ok undef h50)).bind fun v51 h52 =>
 ((bif wantVal v49 false then binR Prog .eql 150 v51 (.pointer none) h52 else Res.ok undef h52)).bind fun v53 h54 =>
 (condV (some v49) (Res.ok (.bool true) h54) (Res.ok v53 h54)).bind fun v55 h56 =>
 condV (some v55) (
 (binR Prog .eql 34 v47 (.int .i64 2) h56).bind fun v57 h58 =>
 .ok v57 h58)
 (
 (builtinV Prog .len [22] [a1] h56).bind fun v59 h60 =>
 (loopN (swashtop_WholeTotals_l1 k call) loopFuel [(1, a1), (2, a2), (7, v45), (9, (.slice none 0 0)), (10, (.int .i64 0)), (60, v59), (61, (.int .i64 0))] h60).bind fun r61 h62 =>
 swashtop_WholeTotals_l1k k call r61.1 r61.2 h62)))
theorem swashtop_WholeTotals_R (k : Nat) (a0 a1 a2 : Value) (h : Heap) : R (T k) F.swashtop_WholeTotals [a0, a1, a2] h = nrm .gc h (swashtop_WholeTotals k (R (T k)) a0 a1 a2 h) :=
 (R_body (t := T k) (T_scott k) (by kernel_rfl) (by kernel_rfl) _ _).trans (by kernel_rfl)
theorem swashtop_WholeTotals_l1_eq (k : Nat) (call : Caller) (a1 a2 a7 a9 a10 a60 a61 : Value) (h : Heap) : swashtop_WholeTotals_l1 k call [(1, a1), (2, a2), (7, a7), (9, a9), (10, a10), (60, a60), (61, a61)] h =
 (binR Prog .lss 3 a61 a60 h).bind fun v63 h64 =>
 condV (some v63) (
 (builtinV Prog .len [109] [a2] h64).bind fun v65 h66 =>
 (binR Prog .lss 3 a61 v65 h66).bind fun v67 h68 =>
 condV (some v67) (
 (indexAddrR Prog 109 a2 a61 h68).bind fun v69 h70 =>
 (loadR Prog 154 v69 h70).bind fun v71 h72 =>
 (convR Prog 154 3 v71 h72).bind fun v73 h74 =>
 swashtop_WholeTotals_j1 k call a1 a2 a7 a9 a10 v73 a60 a61 h74)
 (
 swashtop_WholeTotals_j2 k call a1 a2 a7 a9 a10 a61 (.int .i64 0) a60 a61 v67 h68))
 (
 .ok ((.exit 0), [(1, a1), (2, a2), (7, a7), (9, a9), (10, a10), (60, a60), (61, a61), (62, v63)]) h64) :=
 (loopB_eq _ _).trans (by kernel_rfl)
theorem swashtop_WholeTotals_j1_eq (k : Nat) (call : Caller) (a1 a2 a7 a9 a10 a12 a60 a61 : Value) (h : Heap) : swashtop_WholeTotals_j1 k call a1 a2 a7 a9 a10 a12 a60 a61 h =
 (buildSliceR Prog 27 1 [(0, a12)] h).bind fun v75 h76 =>
 (builtinV Prog .append [27, 27] [a9, v75] h76).bind fun v77 h78 =>
 (binR Prog .add 3 a10 a12 h78).bind fun v79 h80 =>
 (binR Prog .add 3 a61 (.int .i64 1) h80).bind fun v81 h82 =>
 .ok (.normal, [(1, a1), (2, a2), (7, a7), (9, v77), (10, v79), (60, a60), (61, v81)]) h82 := by kernel_rfl
theorem swashtop_WholeTotals_j2_eq (k : Nat) (call : Caller) (a1 a2 a7 a9 a10 a11 a12 a60 a61 a67 : Value) (h : Heap) : swashtop_WholeTotals_j2 k call a1 a2 a7 a9 a10 a11 a12 a60 a61 a67 h =
 (buildSliceR Prog 27 1 [(0, a12)] h).bind fun v83 h84 =>
 (builtinV Prog .append [27, 27] [a9, v83] h84).bind fun v85 h86 =>
 (binR Prog .add 3 a10 a12 h86).bind fun v87 h88 =>
 (binR Prog .add 3 a61 (.int .i64 1) h88).bind fun v89 h90 =>
 .ok (.normal, [(1, a1), (2, a2), (7, a7), (9, v85), (10, v87), (60, a60), (61, v89)]) h90 := by kernel_rfl
theorem swashtop_WholeTotals_l1k_x0 (k : Nat) (call : Caller) (a1 a2 a7 a9 a10 a60 a61 a62 : Value) (h : Heap) : swashtop_WholeTotals_l1k k call (.exit 0) [(1, a1), (2, a2), (7, a7), (9, a9), (10, a10), (60, a60), (61, a61), (62, a62)] h =
 (call F.place_New [(.int .i64 0), a9] h).bind fun v91 h92 =>
 (loopN (swashtop_WholeTotals_l2 k call) loopFuel [(1, a1), (7, a7), (10, a10), (13, v91), (14, (.int .i64 1))] h92).bind fun r93 h94 =>
 swashtop_WholeTotals_l2k k call r93.1 r93.2 h94 := by kernel_rfl
theorem swashtop_WholeTotals_l2_eq (k : Nat) (call : Caller) (a1 a7 a10 a13 a14 : Value) (h : Heap) : swashtop_WholeTotals_l2 k call [(1, a1), (7, a7), (10, a10), (13, a13), (14, a14)] h =
 (builtinV Prog .len [22] [a1] h).bind fun v95 h96 =>
 (binR Prog .lss 3 a14 v95 h96).bind fun v97 h98 =>
 condV (some v97) (
 (binR Prog .sub 3 a14 (.int .i64 1) h98).bindN fun v99 h100 =>
 (indexAddrR Prog 22 a1 v99 h100).bindN fun v101 h102 =>
 (loadR Prog 5 v101 h102).bindN fun v103 h104 =>
 (convR Prog 5 3 v103 h104).bindN fun v105 h106 =>
 (indexAddrR Prog 22 a1 a14 h106).bindN fun v107 h108 =>
 (loadR Prog 5 v107 h108).bindN fun v109 h110 =>
 (convR Prog 5 3 v109 h110).bindN fun v111 h112 =>
 (call F.pair_Table_Get [a7, v105, v111] h112).bindT (fun p115 h116 => .panic p115 h116) fun v113 h114 =>
 (binR Prog .sub 3 a14 (.int .i64 1) h114).bind fun v117 h118 =>
 (call F.place_Places_Along [a13, v117, v113] h118).bind fun v119 h120 =>
 (binR Prog .add 3 a10 v113 h120).bind fun v121 h122 =>
 (binR Prog .add 3 a14 (.int .i64 1) h122).bind fun v123 h124 =>
 .ok (.normal, [(1, a1), (7, a7), (10, v121), (13, a13), (14, v123)]) h124)
 (
 .ok ((.exit 2), [(1, a1), (7, a7), (10, a10), (13, a13), (14, a14), (86, v97)]) h98) :=
 (loopB_eq _ _).trans (by kernel_rfl)
theorem swashtop_WholeTotals_l2k_x2 (k : Nat) (call : Caller) (a1 a7 a10 a13 a14 a86 : Value) (h : Heap) : swashtop_WholeTotals_l2k k call (.exit 2) [(1, a1), (7, a7), (10, a10), (13, a13), (14, a14), (86, a86)] h =
 (call F.place_Places_All [a13] h).bind fun v125 h126 =>
 (builtinV Prog .len [70] [v125] h126).bind fun v127 h128 =>
 (loopN (swashtop_WholeTotals_l3 k call) loopFuel [(1, a1), (10, a10), (13, a13), (16, (.int .i64 0)), (111, v125), (112, v127), (113, (.int .i64 0))] h128).bind fun r129 h130 =>
 swashtop_WholeTotals_l3k k call r129.1 r129.2 h130 := by kernel_rfl
theorem swashtop_WholeTotals_l3_eq (k : Nat) (call : Caller) (a1 a10 a13 a16 a111 a112 a113 : Value) (h : Heap) : swashtop_WholeTotals_l3 k call [(1, a1), (10, a10), (13, a13), (16, a16), (111, a111), (112, a112), (113, a113)] h =
 (binR Prog .lss 3 a113 a112 h).bind fun v131 h132 =>
 condV (some v131) (
 (indexAddrR Prog 70 a111 a113 h132).bind fun v133 h134 =>
 (loadR Prog 91 v133 h134).bind fun v135 h136 =>
 (allocR Prog 91 h136).bind fun v137 h138 =>
 (storeR Prog 91 v137 v135 h138).bind fun _v139 h140 =>
 (fieldAddrR Prog 91 v137 1 h140).bind fun v141 h142 =>
 (loadR Prog 21 v141 h142).bind fun v143 h144 =>
 (binR Prog .neq 21 v143 (.int .i32 0) h144).bind fun v145 h146 =>
 ((bif wantVal v145 false then fieldAddrR Prog 91 v137 2 h146 else Res.ok undef h146)).bind fun v147 h148 =>
 ((bif wantVal v145 false then loadR Prog 21 v147 h148 else Res.ok undef h148)).bind fun v149 h150 =>
 ((bif wantVal v145 false then binR Prog .neq 21 v149 (.int .i32 0) h150 else Res.ok undef h150)).bind fun v151 h152 =>
 (condV (some v145) (Res.ok (.bool true) h152) (Res.ok v151 h152)).bind fun v153 h154 =>
 condV (some v153) (
 .ok (.ret, [(6, (.bool false))]) h154)
 (
 (fieldAddrR Prog 91 v137 0 h154).bind fun v155 h156 =>
 (loadR Prog 21 v155 h156).bind fun v157 h158 =>
 (convR Prog 21 3 v157 h158).bind fun v159 h160 =>
 (binR Prog .add 3 a16 v159 h160).bind fun v161 h162 =>
 (binR Prog .add 3 a113 (.int .i64 1) h162).bind fun v163 h164 =>
 .ok (.normal, [(1, a1), (10, a10), (13, a13), (16, v161), (111, a111), (112, a112), (113, v163)]) h164))
 (
 .ok ((.exit 4), [(1, a1), (10, a10), (13, a13), (16, a16), (111, a111), (112, a112), (113, a113), (114, v131)]) h132) :=
 (loopB_eq _ _).trans (by kernel_rfl)
theorem swashtop_WholeTotals_l3k_x4 (k : Nat) (call : Caller) (a1 a10 a13 a16 a111 a112 a113 a114 : Value) (h : Heap) : swashtop_WholeTotals_l3k k call (.exit 4) [(1, a1), (10, a10), (13, a13), (16, a16), (111, a111), (112, a112), (113, a113), (114, a114)] h =
 (binR Prog .eql 3 a16 a10 h).bind fun v165 h166 =>
 ((bif wantVal v165 true then Res.ok a13 h166 else Res.ok undef h166)).bind fun v167 h168 =>
 ((bif wantVal v165 true then call F.place_Places_Len [v167] h168 else Res.ok undef h168)).bind fun v169 h170 =>
 ((bif wantVal v165 true then Res.ok a1 h170 else Res.ok undef h170)).bind fun v171 h172 =>
 ((bif wantVal v165 true then builtinV Prog .len [22] [v171] h172 else Res.ok undef h172)).bind fun v173 h174 =>
 ((bif wantVal v165 true then binR Prog .eql 3 v169 v173 h174 else Res.ok undef h174)).bind fun v175 h176 =>
 (condV (some v165) (Res.ok v175 h176) (Res.ok (.bool false) h176)).bind fun v177 h178 =>
 .ok v177 h178 := by kernel_rfl
end
end Go.Sw
end
