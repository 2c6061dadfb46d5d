/-
  Functions' forms, and what is proved of them, part 3.
-/
import Derived.Test.YtanfippcmdialaaSwCfg
import Derived.Test.YtanfippcmdialaaSwW2
import Derived.Test.YtanfippcmdialaaSwLib9
import Derived.Test.YtanfippcmdialaaSwW1
import Derived.Test.YtanfippcmdialaaSwLib8
import Derived.Test.YtanfippcmdialaaSwLib10
set_option linter.unusedSimpArgs false
set_option linter.unusedVariables false
set_option linter.unusedSectionVars false
section
set_option maxRecDepth 100000
set_option linter.unusedVariables false
namespace Go.Sw
noncomputable section
def swashref02_Put_l1 (k : Nat) (call : Caller) : Env → Heap → Res (AExit × Env) := loopB (C k) call F.swashref02_Put [1, 0, 1, 0, 0]
def swashref02_Put_l1k (k : Nat) (call : Caller) : Kont Value := kBlock 0 (kSeq (pieceK (C k) call F.swashref02_Put [1, 1]) (kDone Prog (resOf Prog F.swashref02_Put)))
def swashref02_Put_l2 (k : Nat) (call : Caller) : Env → Heap → Res (AExit × Env) := loopB (C k) call F.swashref02_Put [1, 0, 1, 0, 0, 1, 0, 0, 1, 0, 1, 0, 0]
def swashref02_Put_l2k (k : Nat) (call : Caller) : Kont (AExit × Env) := kBlock 2 (kSeq (pieceK (C k) call F.swashref02_Put [1, 0, 1, 0, 0, 1, 0, 0, 1, 1]) (kBlock 1 (kSeq (pieceK (C k) call F.swashref02_Put [1, 0, 1, 0, 0, 1, 1]) (kRound (ownOf (C k) F.swashref02_Put [1, 0, 1, 0, 0])))))
def swashref02_Put (k : Nat) (call : Caller) (a0 a1 a2 : Value) (h : Heap) : Res Value :=
 (binR Prog .sub 3 a2 (.int .i64 1) h).bind fun v1 h2 =>
 (loopN (swashref02_Put_l1 k call) loopFuel [(0, a0), (1, a1), (7, v1)] h2).bind fun r3 h4 =>
 swashref02_Put_l1k k call r3.1 r3.2 h4
theorem swashref02_Put_R (k : Nat) (a0 a1 a2 : Value) (h : Heap) : R (T k) F.swashref02_Put [a0, a1, a2] h = nrm .no h (swashref02_Put k (R (T k)) a0 a1 a2 h) :=
 (R_body (t := T k) (T_scott k) (by kernel_rfl) (by kernel_rfl) _ _).trans (by kernel_rfl)
theorem swashref02_Put_l1_eq (k : Nat) (call : Caller) (a0 a1 a7 : Value) (h : Heap) : swashref02_Put_l1 k call [(0, a0), (1, a1), (7, a7)] h =
 (binR Prog .geq 3 a7 (.int .i64 0) h).bind fun v5 h6 =>
 condV (some v5) (
 (loopN (swashref02_Put_l2 k call) loopFuel [(0, a0), (1, a1), (7, a7), (8, a1), (9, (.int .i64 0))] h6).bind fun r7 h8 =>
 swashref02_Put_l2k k call r7.1 r7.2 h8)
 (
 .ok ((.exit 0), [(0, a0), (1, a1), (7, a7), (13, v5)]) h6) :=
 (loopB_eq _ _).trans (by kernel_rfl)
theorem swashref02_Put_l2_eq (k : Nat) (call : Caller) (a0 a1 a7 a8 a9 : Value) (h : Heap) : swashref02_Put_l2 k call [(0, a0), (1, a1), (7, a7), (8, a8), (9, a9)] h =
 (binR Prog .lss 3 a9 a7 h).bind fun v9 h10 =>
 condV (some v9) (
 (binR Prog .quo 3 a8 (.int .i64 256) h10).bind fun v11 h12 =>
 (binR Prog .add 3 a9 (.int .i64 1) h12).bind fun v13 h14 =>
 .ok (.normal, [(0, a0), (1, a1), (7, a7), (8, v11), (9, v13)]) h14)
 (
 .ok ((.exit 2), [(0, a0), (1, a1), (7, a7), (8, a8), (9, a9), (19, v9)]) h10) :=
 (loopB_eq _ _).trans (by kernel_rfl)
theorem swashref02_Put_l1k_x0 (k : Nat) (call : Caller) (a0 a1 a7 a13 : Value) (h : Heap) : swashref02_Put_l1k k call (.exit 0) [(0, a0), (1, a1), (7, a7), (13, a13)] h =
 .ok a0 h := by kernel_rfl
theorem swashref02_Put_l2k_x2 (k : Nat) (call : Caller) (a0 a1 a7 a8 a9 a19 : Value) (h : Heap) : swashref02_Put_l2k k call (.exit 2) [(0, a0), (1, a1), (7, a7), (8, a8), (9, a9), (19, a19)] h =
 (binR Prog .rem 3 a8 (.int .i64 256) h).bind fun v15 h16 =>
 (convR Prog 3 5 v15 h16).bind fun v17 h18 =>
 (buildSliceR Prog 31 1 [(0, v17)] h18).bind fun v19 h20 =>
 (builtinV Prog .append [31, 31] [a0, v19] h20).bind fun v21 h22 =>
 (binR Prog .sub 3 a7 (.int .i64 1) h22).bind fun v23 h24 =>
 .ok (.normal, [(0, v21), (1, a1), (7, v23)]) h24 := by kernel_rfl
end
end Go.Sw
end
section
namespace Go.Sw
open Go.RowKit
theorem Put_in (k : Nat) (s : Value) (n : Int) (i : Nat) (h0 : 0 ≤ n) (hn : n < 2 ^ 62) (hi : i < 2 ^ 62) (H : Heap) :
  loopN (swashref02_Put_l2 k (R (T k))) loopFuel [(0, s), (1, .int .i64 n), (7, .int .i64 i), (8, .int .i64 n), (9, .int .i64 0)] H = .ok (.exit 2, [(0, s), (1, .int .i64 n), (7, .int .i64 i), (8, .int .i64 (n / 256 ^ i)), (9, .int .i64 i), (19, .bool false)]) H := by
 obtain ⟨x, e', H1, hr, rfl, rfl, rfl⟩ := loop_up (body := swashref02_Put_l2 k (R (T k))) i
  (fun j e H' => H' = H ∧ e = [(0, s), (1, .int .i64 n), (7, .int .i64 i), (8, .int .i64 (n / 256 ^ j)), (9, .int .i64 j)])
  (fun x e H' => H' = H ∧ x = .exit 2 ∧ e = [(0, s), (1, .int .i64 n), (7, .int .i64 i), (8, .int .i64 (n / 256 ^ i)), (9, .int .i64 i), (19, .bool false)])
  (e0 := [(0, s), (1, .int .i64 n), (7, .int .i64 i), (8, .int .i64 n), (9, .int .i64 0)]) (H0 := H) ⟨rfl, by simp⟩ (by omega)
  (fun j e H' hj ⟨hH, he⟩ => by
   subst he hH;have hlt : (j : Int) < i := by omega
   have q0 : 0 ≤ n / 256 ^ j := Int.ediv_nonneg h0 (Int.pow_nonneg (by decide));have q1 : n / 256 ^ j ≤ n := Int.ediv_le_self _ h0;have hq : (n / 256 ^ j).tdiv 256 = n / 256 ^ (j + 1) := by
    rw [Int.tdiv_eq_ediv_of_nonneg q0, Int.pow_succ, Int.ediv_ediv_of_nonneg (Int.pow_nonneg (by decide))]
   have q := fun H => bin_quo Prog 3 H .i64 (n / 256 ^ j) 256 (by decide);rw [hq] at q;have q2 : 0 ≤ n / 256 ^ (j + 1) := Int.ediv_nonneg h0 (Int.pow_nonneg (by decide));have q3 : n / 256 ^ (j + 1) ≤ n := Int.ediv_le_self _ h0;generalize n / 256 ^ (j + 1) = m at q q2 q3 ⊢;generalize n / 256 ^ j = m0 at q ⊢;refine .inl ⟨_, H', ?_, rfl, rfl⟩;rw [swashref02_Put_l2_eq];simp -implicitDefEqProofs (disch := omega) [hlt, q])
  (fun e H' ⟨hH, he⟩ => by
   subst he hH;refine ⟨.exit 2, _, H', ?_, by simp, rfl, rfl, rfl⟩;rw [swashref02_Put_l2_eq];simp -implicitDefEqProofs (disch := omega))
 exact hr
theorem Put_star (k : Nat) {H0 H : Heap} {L : List It} (h : Star H0 H L) (i : Nat) {o : Option Nat} {s : Value} {b : List Int} (hi : L[i]? = some (itRow o 1 s encB b)) (n zi : Int) (z : Nat) (hzi : zi = z) (h0 : 0 ≤ n) (hn : n < 2 ^ 62) (hz : z ≤ 8) (hl : b.length < 2 ^ 30) :
  ∃ s' o' H', R (T k) F.swashref02_Put [s, .int .i64 n, .int .i64 zi] H = .ok s' H' ∧ Star H0 H' (L.set i (itRow o' 1 s' encB (b ++ bytesOf n z))) := by
 subst hzi;rw [swashref02_Put_R];have hlt : i < L.length := (List.getElem?_eq_some_iff.1 hi).1;have hself : L.set i (itRow o 1 s encB b) = L := by
  obtain ⟨hlt, hx⟩ := List.getElem?_eq_some_iff.1 hi;rw [← hx, List.set_getElem_self]
 obtain ⟨x, e', H1, hr, s', o', rfl, ⟨a, c, rfl⟩, ho⟩ := loopDec (body := swashref02_Put_l1 k (R (T k)))
  (fun m e H' => ∃ s o acc, e = [(0, s), (1, .int .i64 n), (7, .int .i64 ((m : Int) - 1))] ∧ Star H0 H' (L.set i (itRow o 1 s encB acc)) ∧ acc ++ bytesOf n m = b ++ bytesOf n z ∧ m ≤ z)
  (fun x e H' => ∃ s' o', x = .exit 0 ∧ (∃ a c, e = [(0, s'), (1, .int .i64 n), (7, a), (13, c)]) ∧ Star H0 H' (L.set i (itRow o' 1 s' encB (b ++ bytesOf n z))))
  (e0 := [(0, s), (1, .int .i64 n), (7, .int .i64 ((z : Int) - 1))]) (H0 := H) z ⟨s, o, b, rfl, by rw [hself]; exact h, rfl, Nat.le_refl _⟩ (by omega)
  (fun m e H' ⟨s, o, acc, he, ho, ha, hmz⟩ => by
   subst he;cases m with
   | zero =>
    refine .inr ⟨.exit 0, _, H', ?_, by simp, s, o, rfl, ⟨.int .i64 ((0 : Nat) - 1), .bool false, rfl⟩, by simpa [bytesOf] using (by simpa [bytesOf] using ha) ▸ ho⟩;rw [swashref02_Put_l1_eq];simp -implicitDefEqProofs
   | succ m =>
    have hin := Put_in k s n m h0 hn (by omega) H';have q0 : 0 ≤ n / 256 ^ m := Int.ediv_nonneg h0 (Int.pow_nonneg (by decide));have hacc : acc.length < 2 ^ 31 := by
     have := congrArg List.length ha;simp [bytesOf_len] at this;omega
    obtain ⟨s2, o2, H2, e1, o1⟩ := ho.append1 (bytes := 1) i encB_len (List.getElem?_set_self hlt) ((n / 256 ^ m) % 256) hacc (by decide);rw [List.set_set] at o1;have hrem := fun H => bin_rem Prog 3 H .i64 (n / 256 ^ m) 256 (by decide);rw [Int.tmod_eq_emod_of_nonneg q0] at hrem;have hb : 0 ≤ (n / 256 ^ m) % 256 ∧ (n / 256 ^ m) % 256 < 256 := by omega
    refine .inl ⟨m, _, H2, ?_, by omega, s2, o2, acc ++ [(n / 256 ^ m) % 256], rfl, o1, by rw [List.append_assoc]; exact ha, by omega⟩;rw [swashref02_Put_l1_eq];have hge : (m : Int) ≥ 0 := by omega
    rw [show (((m + 1 : Nat) : Int) - 1) = (m : Int) by omega];generalize (n / 256 ^ m) % 256 = y at e1 hrem hb;simp -implicitDefEqProofs (disch := omega) [hge, hin, swashref02_Put_l2k_x2, hrem, e1])
 refine ⟨s', o', H1, ?_, ho⟩;simp -implicitDefEqProofs (disch := omega) [swashref02_Put, hr, swashref02_Put_l1k_x0, nrm_no]
end Go.Sw
end
section
namespace Go.Sw
open Go.RowKit
structure En where
 next : Int
 flags : Int
 a : Int
 b : Int
def needL (l : List Int) : Int := l.foldl (fun m x => max m (x + 1)) 0
def rowK (rv : List Int) (n : Int) (k : Nat) : Option (List Int) := listS rv (2 * n * k) n 2
def entOf (w : Int) (r : List Int) : En := ⟨gU r 0 2, gU r 2 2, if 0 < w then gU r 4 2 else 0, if 1 < w then gU r 6 2 else 0⟩
def entK (ev : List Int) (w : Int) (k : Nat) : Option En := (pieceS ev ((4 + 2 * w) * k) (4 + 2 * w)).map (entOf w)
def rowsTo (rv : List Int) (n : Int) (m : Nat) : Option (List (List Int)) := mapO (rowK rv n) (List.range m)
def entsTo (ev : List Int) (w : Int) (m : Nat) : Option (List En) := mapO (entK ev w) (List.range m)
def needR (rs : List (List Int)) : Int := needL rs.flatten
def needE (es : List En) : Int := max 2 (needL (es.map En.next))
def closeS (rv ev : List Int) (n w : Int) : Nat → Nat → Option (List (List Int) × List En)
 | 0, _ => none
 | f + 1, s => (rowsTo rv n s).bind fun rs => (entsTo ev w (needR rs).toNat).bind fun es => if (needE es).toNat ≤ s then some (rs, es) else closeS rv ev n w f (needE es).toNat
def closeA (rv ev : List Int) (n w : Int) (s : Nat) : Option (List (List Int) × List En) := closeS rv ev n w (65538 - s) s
structure Mach where
 classes : Int
 tab : Int × List Pt
 rows : List (List Int)
 ents : List En
def machS (b : List Int) (g w : Int) : Option Mach :=
 (uS b 0 4).bind fun n => if 4 ≤ n ∧ n ≤ 65535 then
  (uS b 4 4).bind fun i => (restS b i).bind fun tb => (lookS tb g 2).bind fun tab =>
  (uS b 8 4).bind fun j => (restS b j).bind fun rv => (uS b 12 4).bind fun k => (restS b k).bind fun ev =>
  (closeA rv ev n w 2).map fun x => ⟨n, tab, x.1, x.2⟩
 else none
structure Mach.ok (m : Mach) : Prop where
 cl : 4 ≤ m.classes ∧ m.classes ≤ 65535
 pts : ∀ p, p ∈ m.tab.2 → p.ok
 rise : risesS m.tab.2 = true
 plen : m.tab.2.length < 2 ^ 31
 two : 2 ≤ m.rows.length ∧ m.rows.length ≤ 65536
 row : ∀ r, r ∈ m.rows → (r.length : Int) = m.classes ∧ ∀ x, x ∈ r → 0 ≤ x ∧ x < m.ents.length
 ent : ∀ e, e ∈ m.ents → 0 ≤ e.next ∧ e.next < m.rows.length ∧ 0 ≤ e.flags ∧ e.flags < 65536 ∧ 0 ≤ e.a ∧ e.a < 65536 ∧ 0 ≤ e.b ∧ e.b < 65536
 elen : m.ents.length ≤ 65536
theorem Byt.rest {b r : List Int} (hb : Byt b) {i : Int} (h : restS b i = some r) : Byt r := by
 unfold restS at h;split at h
 ·injection h with h;subst h;exact fun x hx => hb x (List.mem_of_mem_drop hx)
 ·cases h
end Go.Sw
end
section
namespace Go.Sw
open Go.RowKit
section
variable {α : Type} {enc : α → List Value}
theorem Star.stRow {H0 H : Heap} {L : List It} (h : Star H0 H L) (i : Nat) {b m : Nat} {s : Value} {l : List α} (hi : L[i]? = some (itRow (some b) m s enc l)) (he : ∀ x, (enc x).length = m) {j c n : Nat} {x : α} (y : α) {v : Value} (hx : l[j]? = some x)
  (hn : v.cells.size = n) (hs : storable v = true) (hc : c + n ≤ m) (hy : enc y = splice (enc x) c v.cells.toList) :
  ∃ H', stR n (.pointer (some ⟨b, j * m + c, none⟩)) v H = .ok undef H' ∧ Star H0 H' (L.set i (itRow (some b) m s enc (l.set j y))) ∧ H'.n = H.n := by
 rcases h.row i hi with ⟨h0, _⟩ | ⟨b', h0, h1, h2⟩
 ·cases h0
 ·injection h0 with h0;subst h0;obtain ⟨H', e1, e2, e3, e4⟩ := st_row he h2 y hx hn hs hc hy;exact ⟨H', e1, h.step i hi (by omega) (fun d _ hd => e3 d fun e => hd (show d ∈ [b] from List.mem_singleton.2 e)) _ (.inr ⟨b, rfl, by rw [List.length_set]; exact h1, e2⟩) fun b hb => .inl hb, e4⟩
theorem Star.ix {H0 H : Heap} {L : List It} (h : Star H0 H L) (i : Nat) {o : Option Nat} {m : Nat} {s : Value} {l : List α} (hi : L[i]? = some (itRow o m s enc l)) (k : IntKind) (j : Nat) (hj : j < l.length) :
  ∃ b, o = some b ∧ H.get b = some ⟨rows enc l, m, false⟩ ∧ ∀ H', ixS m s (.int k j) H' = .ok (.pointer (some ⟨b, j * m, none⟩)) H' := by
 obtain ⟨b, h1, _, h3, h4⟩ := (h.row i hi).ix k j hj;exact ⟨b, h1, h3, h4⟩
end
section
variable {α : Type} {enc : α → List Value}
theorem Sl.lenL {H : Heap} {m : Nat} {v : Value} {l : List α} (h : Sl H m v enc l) : Go.Sw.lenL v = some l.length := by
 rcases h with rfl | ⟨rfl, rfl | rfl | rfl⟩ | ⟨b, off, cap, k, rfl, _⟩ <;> rfl
theorem Sl.first {H : Heap} {m : Nat} {v : Value} {l : List α} (he : ∀ x, (enc x).length = m) (h : Sl H m v enc l) : firstV m l.length v H = some (rows enc l) := by
 rcases h with rfl | ⟨rfl, rfl | rfl | rfl⟩ | ⟨b, off, cap, k, rfl, hc, hk, hr⟩
 ·exact lv_first he l H
 ·rfl
 ·rfl
 ·rfl
 ·unfold firstV;dsimp only;have hl := rows_length he l;split
  ·rename_i h0;rw [List.length_eq_zero_iff.1 (hl.trans h0)]
  ·rename_i h0;rw [cellsAt_eq, hk, Option.bind_some, hr, if_pos];have := congrArg List.length hr;rw [hl] at this;simp at this;omega
theorem Sl.rd {H : Heap} {m : Nat} (hm : 0 < m) {v : Value} {l : List α} (he : ∀ x, (enc x).length = m) (h : Sl H m v enc l) : Rd H m v enc l := by
 have hlen := h.len;rcases h with rfl | ⟨rfl, _⟩ | ⟨b, off, cap, k, rfl, hc, hk, hr⟩
 ·exact Rd.lv he H l
 ·exact ⟨hlen, fun i x hx => by simp at hx⟩
 ·refine ⟨hlen, fun i x hx => ?_⟩;have hi := (List.getElem?_eq_some_iff.1 hx).1;refine ⟨.pointer (some ⟨b, off + i * m, none⟩), fun k H' => ixS_slice m b off l.length cap k i H' hi, ?_⟩;have hl := rows_length he l;have hle : i * m + m ≤ l.length * m := by rw [← Nat.succ_mul]; exact Nat.mul_le_mul_right _ hi
  have hkl := congrArg List.length hr;rw [hl] at hkl;have hpos : 0 < l.length * m := Nat.mul_pos (by omega) hm;rw [List.length_take, List.length_drop] at hkl;have hfit : off + i * m + m ≤ k.cells.length := by omega
  simp only [ldA_ptr, hk, Option.bind_some];rw [if_pos hfit];have := rows_at he l i x hx;rw [← hr, List.drop_take, List.take_take, List.drop_drop] at this;rw [show min m (l.length * m - i * m) = m by omega] at this;rw [this];rfl
theorem Star.more_own {H0 H H' : Heap} {L : List It} (h : Star H0 H L) {m : Nat} {s : Value} {l : List α} (ho : Own H H' m s enc l) (he : Ext H H') : ∃ o, Star H0 H' (L ++ [itRow o m s enc l]) := by
 obtain ⟨o, h1, h2⟩ := ho.toO;exact ⟨o, h.more_row he h1 fun b hb => ⟨h2 b hb, h1.lt b hb⟩⟩
end
theorem take_snoc {α : Type} {l : List α} {j : Nat} {p : α} (h : l[j]? = some p) : l.take (j + 1) = l.take j ++ [p] := by
 rw [List.take_add_one, h]; rfl
theorem nrm_of {H H' : Heap} {r : Res Value} {v : Value} (h : r = .ok v H') : nrm .no H r = .ok v H' := by rw [h]; rfl
theorem fz_box {n0 : Nat} {H : Heap} {d c e : Nat} {cells r : List Value} {L : List Nat} (hn : n0 ≤ c) (hc : H.get c = some ⟨cells, e, false⟩) (h : mapF (fzV n0 H d) cells = some (r, L)) : fzV n0 H (d + 1) (.pointer (some ⟨c, 0, none⟩)) = some (boxV r.toArray, c :: L) := by
 have h1 : Nat.blt c n0 = false := by
  cases hb : Nat.blt c n0 with
  | false => rfl
  | true => exact absurd (Nat.le_of_ble_eq_true hb) (by omega)
 simp only [fzV, h1, cond_false, hc, List.drop_zero, h];rfl
theorem mapF_one {f : Value → Option (Value × List Nat)} {v u : Value} {L : List Nat} (h : f v = some (u, L)) : mapF f [v] = some ([u], L) := by
 have := mapF_cons (f := f) h mapF_nil;simpa using this
end Go.Sw
end
section
set_option maxRecDepth 100000
set_option linter.unusedVariables false
namespace Go.Sw
noncomputable section
end
end Go.Sw
end
section
set_option maxRecDepth 100000
set_option linter.unusedVariables false
namespace Go.Sw
noncomputable section
def slices_Clone_of_api_Glyph_api_Glyph (k : Nat) (call : Caller) (a0 : Value) (h : Heap) : Res Value :=
 (binR Prog .eql 22 a0 (.slice none 0 0) h).bind fun v1 h2 =>
 condV (some v1) (
 .ok (.slice none 0 0) h2)
 (
 (buildSliceR Prog 22 0 [] h2).bind fun v3 h4 =>
 (builtinV Prog .append [22, 22] [v3, a0] h4).bind fun v5 h6 =>
 .ok v5 h6)
theorem slices_Clone_of_api_Glyph_api_Glyph_body (k : Nat) (sp : FuncId → Option Sp) (call : Caller) (a0 : Value) (h : Heap) : bodyK { P := Prog, kp := kpS, sp := sp } call F.slices_Clone_of_api_Glyph_api_Glyph [a0] h = slices_Clone_of_api_Glyph_api_Glyph k call a0 h := by kernel_rfl
def slices_Clone_of_api_Place_api_Place (k : Nat) (call : Caller) (a0 : Value) (h : Heap) : Res Value :=
 (binR Prog .eql 98 a0 (.slice none 0 0) h).bind fun v1 h2 =>
 condV (some v1) (
 .ok (.slice none 0 0) h2)
 (
 (buildSliceR Prog 98 0 [] h2).bind fun v3 h4 =>
 (builtinV Prog .append [98, 98] [v3, a0] h4).bind fun v5 h6 =>
 .ok v5 h6)
theorem slices_Clone_of_api_Place_api_Place_body (k : Nat) (sp : FuncId → Option Sp) (call : Caller) (a0 : Value) (h : Heap) : bodyK { P := Prog, kp := kpS, sp := sp } call F.slices_Clone_of_api_Place_api_Place [a0] h = slices_Clone_of_api_Place_api_Place k call a0 h := by kernel_rfl
def slices_Clone_of_sfnt_Part_sfnt_Part (k : Nat) (call : Caller) (a0 : Value) (h : Heap) : Res Value :=
 (binR Prog .eql 142 a0 (.slice none 0 0) h).bind fun v1 h2 =>
 condV (some v1) (
 .ok (.slice none 0 0) h2)
 (
 (buildSliceR Prog 142 0 [] h2).bind fun v3 h4 =>
 (builtinV Prog .append [142, 142] [v3, a0] h4).bind fun v5 h6 =>
 .ok v5 h6)
theorem slices_Clone_of_sfnt_Part_sfnt_Part_body (k : Nat) (sp : FuncId → Option Sp) (call : Caller) (a0 : Value) (h : Heap) : bodyK { P := Prog, kp := kpS, sp := sp } call F.slices_Clone_of_sfnt_Part_sfnt_Part [a0] h = slices_Clone_of_sfnt_Part_sfnt_Part k call a0 h := by kernel_rfl
end
end Go.Sw
end
section
set_option maxRecDepth 100000
set_option linter.unusedVariables false
namespace Go.Sw
noncomputable section
end
end Go.Sw
end
section
namespace Go.Sw
open Go.RowKit
abbrev ptrV (c : Nat) : Value := .pointer (some ⟨c, 0, none⟩)
end Go.Sw
end
section
set_option maxRecDepth 100000
set_option linter.unusedVariables false
namespace Go.Sw
noncomputable section
end
end Go.Sw
end
section
namespace Go.Sw
open Go.RowKit
abbrev encEn (e : En) : List Value := [.int .i64 e.next, .int .i64 e.flags, .int .i64 e.a, .int .i64 e.b]
abbrev encRow (r : List Int) : List Value := [lv encI r]
end Go.Sw
end
section
namespace Go.Sw
open Go.RowKit
section
variable (k : Nat) {H0 : Heap} {X : List It} {c r : Nat} {n : Int} {tab vR vE : Value} {rv ev : List Int} {w : Int}
 (hn : 0 ≤ n ∧ n ≤ 65535) (hw : w = 0 ∨ w = 1 ∨ w = 2) (hvR : Sl H0 1 vR encB rv) (hvE : Sl H0 1 vE encB ev) (hbR : Byt rv) (hbE : Byt ev) (hlR : rv.length < 2 ^ 31) (hlE : ev.length < 2 ^ 31)
 (hX : itBlk r ⟨[ptrV c, vR, vE, .int .i64 w], 1, false⟩ ∈ X)
include hn hvR hvE hbR hlR hX
end
section
variable (k : Nat) {H0 : Heap} {X : List It} {c r : Nat} {n : Int} {tab vR vE : Value} {rv ev : List Int} {w : Int}
 (hn : 0 ≤ n ∧ n ≤ 65535) (hw : w = 0 ∨ w = 1 ∨ w = 2) (hvR : Sl H0 1 vR encB rv) (hvE : Sl H0 1 vE encB ev) (hbR : Byt rv) (hbE : Byt ev) (hlR : rv.length < 2 ^ 31) (hlE : ev.length < 2 ^ 31)
 (hX : itBlk r ⟨[ptrV c, vR, vE, .int .i64 w], 1, false⟩ ∈ X)
include hw hvR hvE hbE hlE hX
end
section
variable (k : Nat) {H0 : Heap} {X : List It} {c r : Nat} {n : Int} {tab vR vE : Value} {rv ev : List Int} {w : Int}
 (hn : 0 ≤ n ∧ n ≤ 65535) (hw : w = 0 ∨ w = 1 ∨ w = 2) (hvR : Sl H0 1 vR encB rv) (hvE : Sl H0 1 vE encB ev) (hbR : Byt rv) (hbE : Byt ev) (hlR : rv.length < 2 ^ 31) (hlE : ev.length < 2 ^ 31)
 (hX : itBlk r ⟨[ptrV c, vR, vE, .int .i64 w], 1, false⟩ ∈ X)
include hn hw hvR hvE hbR hbE hlR hlE hX
end
end Go.Sw
end
section
namespace Go.Sw
open Go.RowKit
abbrev machV (m : Mach) : Value := boxV #[.int .i64 m.classes, tabV m.tab, lv encRow m.rows, lv encEn m.ents]
theorem restS_len {b r : List Int} {i : Int} (h : restS b i = some r) : r.length ≤ b.length := by
 unfold restS at h;split at h
 ·injection h with h;subst h;simp
 ·cases h
end Go.Sw
end
section
namespace Go.Sw
open Go.RowKit
end Go.Sw
end
section
set_option maxRecDepth 100000
set_option linter.unusedVariables false
namespace Go.Sw
noncomputable section
end
end Go.Sw
end
section
namespace Go.Sw
open Go.RowKit
structure Plan where
 cls : List Int
 rows : List (List Int)
 ents : List En
 wide : Int
def twos (l : List Int) : List Int := (l.map fun c => bytesOf c 2).flatten
def ofS (cls : List Int) : List Int := (bytesOf 8 2 ++ bytesOf 0 2 ++ bytesOf cls.length 2) ++ twos cls
def m16 (x : Int) : Int := x % 65536
theorem twos_len (l : List Int) : (twos l).length = l.length * 2 := flat_len (z := 2) (fun r hr => by obtain ⟨p, _, rfl⟩ := List.mem_map.1 hr; simp) |>.trans (by simp)
def Plan.ok (p : Plan) : Prop := Byt p.cls ∧ (∀ r, r ∈ p.rows → Byt r) ∧ 0 ≤ p.wide ∧ p.wide < 256
end Go.Sw
end
section
namespace Go.Sw
open Go.RowKit
end Go.Sw
end
section
namespace Go.Sw
open Go.RowKit
theorem subV_lv (b : List Int) (a n : Nat) (h : a + n ≤ b.length) : subV 1 (lv encB b) a n = lv encB ((b.drop a).take n) := by
 have h2 := ((Sl.lv Heap.empty 1 b).sub encB_len .i64 .i64 .i64 a n h).1 Heap.empty (Ext.refl _);rw [slS_lv encB_len b _ _ _ a (a + n) (a + n) (by simp [boundOf]) (by unfold boundOf; dsimp only; rw [if_pos (by omega), Int.toNat_natCast]) (by unfold boundOf; dsimp only; rw [if_pos (by omega), Int.toNat_natCast]) (fun _ => rfl) (by omega) (Nat.le_refl _) h] at h2;injection h2 with h2;rw [← h2, List.drop_take, show a + n - a = n by omega]
theorem piece_lv {b r : List Int} {i n : Int} (h : pieceS b i n = some r) : subV 1 (lv encB b) i.toNat n.toNat = lv encB r := by
 obtain ⟨h1, rfl⟩ := pieceS_iff.1 h;exact subV_lv b _ _ (by omega)
theorem orF_congr {α : Type} {o : Option α} {f g : α → Value} (h : ∀ a, o = some a → f a = g a) (H : Heap) : orF o f H = orF o g H := by
 cases o with
 | none => rfl
 | some a => show Res.ok (f a) H = Res.ok (g a) H; rw [h a rfl]
abbrev vwB (b : List Int) : Value := .agg #[lv encB b]
theorem Rest_lv (k : Nat) (b : List Int) (i : Int) (hl : b.length < 2 ^ 62) (hi : i ≤ 9223372036854775807) (H : Heap) : R (T k) F.view_View_Rest [vwB b, .int .i64 i] H = orF (restS b i) vwB H :=
 (Rest_run k (Sl.lv H 1 b) i hl hi).trans (orF_congr (fun r hr => by rw [piece_lv (by rw [behind_piece b i hl hi]; exact hr)]) H)
theorem Rows_lv (k : Nat) (b : List Int) (i n s : Int) (hl : b.length < 2 ^ 62) (H : Heap) : R (T k) F.view_View_Rows [vwB b, .int .i64 i, .int .i64 n, .int .i64 s] H = orF (rowsS b i n s) vwB H :=
 (Rows_run k (Sl.lv H 1 b) i n s hl).trans (orF_congr (fun r hr => by rw [piece_lv (rowsS_piece hr)]) H)
theorem Of_lv (k : Nat) (b : List Int) (H : Heap) : R (T k) F.view_Of [lv encB b] H = .ok (vwB b) H := Of_run k (Sl.lv H 1 b)
theorem Bytes_run (k : Nat) {H : Heap} {v : Value} {b : List Int} (hv : Sl H 1 v encB b) (hl : b.length ≤ 2 ^ 30) : R (T k) F.view_View_Bytes [.agg #[v]] H = .ok (lv encB b) H := by
 rw [view_View_Bytes_R];have g := (Star.nil H).push ⟨[v], 1, false⟩;have g := g.more_row (Ext.refl _) (OwnO.bare encB _ 1) (fun b hb => by cases hb);obtain ⟨s, o, H1, e1, g⟩ := g.append (bytes := 1) 1 encB_len rfl (b := v) (l2 := b) (lenL_lenV hv.lenL) ((hv.up g.ext).first encB_len) (by simp; omega) (by decide);simp only [List.nil_append, List.cons_append, List.set_cons_zero, List.set_cons_succ] at g;obtain ⟨L, hf⟩ := (g.own 1 rfl).freeze encB_len (fun n _ v hv => by simp at hv; subst hv; trivial) 6;refine nrm_fz (v := s) (H' := H1) ?_ hf g.ext (Flat.B b).alive;simp -implicitDefEqProofs [view_View_Bytes, e1]
end Go.Sw
end
section
set_option maxRecDepth 100000
set_option linter.unusedVariables false
namespace Go.Sw
noncomputable section
def ankr_Read (k : Nat) (call : Caller) (a0 a1 : Value) (h : Heap) : Res Value :=
 (boxR a1 h).bind fun v1 h2 =>
 (allocR Prog 64 h2).bind fun v3 h4 =>
 (loadR Prog 3 v1 h4).bind fun v5 h6 =>
 (binR Prog .lss 3 v5 (.int .i64 1) h6).bind fun v7 h8 =>
 ((bif wantVal v7 false then loadR Prog 3 v1 h8 else Res.ok undef h8)).bind fun v9 h10 =>
 ((bif wantVal v7 false then binR Prog .gtr 3 v9 (.int .i64 65535) h10 else Res.ok undef h10)).bind fun v11 h12 =>
 (condV (some v7) (Res.ok (.bool true) h12) (Res.ok v11 h12)).bind fun v13 h14 =>
 condV (some v13) (
 (storeR Prog 64 v3 (.pointer none) h14).bind fun _v15 h16 =>
 (loadR Prog 64 v3 h16).bind fun v17 h18 =>
 .ok (.tuple #[v17, (.int .i64 1)]) h18)
 (
 (call F.view_Of [a0] h14).bind fun v19 h20 =>
 (call F.view_View_Bytes [v19] h20).bind fun v21 h22 =>
 (call F.view_Of [v21] h22).bind fun v23 h24 =>
 (allocR Prog 75 h24).bind fun v25 h26 =>
 (storeR Prog 75 v25 v23 h26).bind fun _v27 h28 =>
 (call F.view_Try [(.func (.func F.ankr_Read_in1) #[] #[v25, v1, v3])] h28).bind fun v29 h30 =>
 (unR .not v29 h30).bind fun v31 h32 =>
 condV (some v31) (
 (storeR Prog 64 v3 (.pointer none) h32).bind fun _v33 h34 =>
 (loadR Prog 64 v3 h34).bind fun v35 h36 =>
 .ok (.tuple #[v35, (.int .i64 2)]) h36)
 (
 (loadR Prog 64 v3 h32).bind fun v37 h38 =>
 (storeR Prog 64 v3 v37 h38).bind fun _v39 h40 =>
 (loadR Prog 64 v3 h40).bind fun v41 h42 =>
 .ok (.tuple #[v41, (.int .i64 0)]) h42))
theorem ankr_Read_R (k : Nat) (a0 a1 : Value) (h : Heap) : R (T k) F.ankr_Read [a0, a1] h = nrm .fz h (ankr_Read k (R (T k)) a0 a1 h) :=
 (R_body (t := T k) (T_scott k) (by kernel_rfl) (by kernel_rfl) _ _).trans (by kernel_rfl)
def ankr_Table_Count (k : Nat) (call : Caller) (a0 a1 : Value) (h : Heap) : Res Value :=
 (nilR a0 h).bind fun v1 h2 =>
 (fieldAddrR Prog 77 v1 0 h2).bind fun v3 h4 =>
 (loadR Prog 32 v3 h4).bind fun v5 h6 =>
 (binR Prog .eql 32 v5 (.pointer none) h6).bind fun v7 h8 =>
 condV (some v7) (
 .ok (.int .i64 0) h8)
 (
 (nilR a0 h8).bind fun v9 h10 =>
 (fieldAddrR Prog 77 v9 0 h10).bind fun v11 h12 =>
 (loadR Prog 32 v11 h12).bind fun v13 h14 =>
 (call F.lookup_Table_Get [v13, a1] h14).bind fun v15 h16 =>
 (extractR v15 0 h16).bind fun v17 h18 =>
 (extractR v15 1 h18).bind fun v19 h20 =>
 (unR .not v19 h20).bind fun v21 h22 =>
 condV (some v21) (
 .ok (.int .i64 0) h22)
 (
 (nilR a0 h22).bind fun v23 h24 =>
 (fieldAddrR Prog 77 v23 1 h24).bind fun v25 h26 =>
 (loadR Prog 75 v25 h26).bind fun v27 h28 =>
 (call F.view_View_U32 [v27, v17] h28).bind fun v29 h30 =>
 .ok v29 h30))
theorem ankr_Table_Count_R (k : Nat) (a0 a1 : Value) (h : Heap) : R (T k) F.ankr_Table_Count [a0, a1] h = nrm .gc h (ankr_Table_Count k (R (T k)) a0 a1 h) :=
 (R_body (t := T k) (T_scott k) (by kernel_rfl) (by kernel_rfl) _ _).trans (by kernel_rfl)
def ankr_Table_Get (k : Nat) (call : Caller) (a0 a1 a2 : Value) (h : Heap) : Res Value :=
 (allocR Prog 71 h).bind fun v1 h2 =>
 (binR Prog .lss 3 a2 (.int .i64 0) h2).bind fun v3 h4 =>
 ((bif wantVal v3 false then Res.ok a2 h4 else Res.ok undef h4)).bind fun v5 h6 =>
 ((bif wantVal v3 false then Res.ok a0 h6 else Res.ok undef h6)).bind fun v7 h8 =>
 ((bif wantVal v3 false then Res.ok a1 h8 else Res.ok undef h8)).bind fun v9 h10 =>
 ((bif wantVal v3 false then call F.ankr_Table_Count [v7, v9] h10 else Res.ok undef h10)).bind fun v11 h12 =>
 ((bif wantVal v3 false then binR Prog .geq 3 v5 v11 h12 else Res.ok undef h12)).bind fun v13 h14 =>
 (condV (some v3) (Res.ok (.bool true) h14) (Res.ok v13 h14)).bind fun v15 h16 =>
 condV (some v15) (
 (buildR Prog 71 [] h16).bind fun v17 h18 =>
 (storeR Prog 71 v1 v17 h18).bind fun _v19 h20 =>
 (loadR Prog 71 v1 h20).bind fun v21 h22 =>
 .ok (.tuple #[v21, (.bool false)]) h22)
 (
 (nilR a0 h16).bind fun v23 h24 =>
 (fieldAddrR Prog 77 v23 0 h24).bind fun v25 h26 =>
 (loadR Prog 32 v25 h26).bind fun v27 h28 =>
 (call F.lookup_Table_Get [v27, a1] h28).bind fun v29 h30 =>
 (extractR v29 0 h30).bind fun v31 h32 =>
 (extractR v29 1 h32).bind fun v33 h34 =>
 (nilR a0 h34).bindN fun v35 h36 =>
 (fieldAddrR Prog 77 v35 1 h36).bindN fun v37 h38 =>
 (loadR Prog 75 v37 h38).bindN fun v39 h40 =>
 (binR Prog .add 3 v31 (.int .i64 4) h40).bindN fun v41 h42 =>
 (binR Prog .mul 3 (.int .i64 4) a2 h42).bindN fun v43 h44 =>
 (binR Prog .add 3 v41 v43 h44).bindN fun v45 h46 =>
 (call F.view_View_I16 [v39, v45] h46).bindT (fun p49 h50 => (nilR a0 h46).bindN fun v51 h52 => (fieldAddrR Prog 77 v51 1 h52).bindN fun v53 h54 => (loadR Prog 75 v53 h54).bindN fun v55 h56 => (binR Prog .add 3 v31 (.int .i64 6) h56).bindN fun v57 h58 => (binR Prog .mul 3 (.int .i64 4) a2 h58).bindN fun v59 h60 => (binR Prog .add 3 v57 v59 h60).bindN fun v61 h62 => chkR ((okVal (loadR Prog 75 v53 h34) v55 && true) && true) (.panic p49 h50)) fun v47 h48 =>
 (nilR a0 h48).bindN fun v63 h64 =>
 (fieldAddrR Prog 77 v63 1 h64).bindN fun v65 h66 =>
 (loadR Prog 75 v65 h66).bindN fun v67 h68 =>
 (binR Prog .add 3 v31 (.int .i64 6) h68).bindN fun v69 h70 =>
 (binR Prog .mul 3 (.int .i64 4) a2 h70).bindN fun v71 h72 =>
 (binR Prog .add 3 v69 v71 h72).bindN fun v73 h74 =>
 (call F.view_View_I16 [v67, v73] h74).bindT (fun p77 h78 => chkR ((okVal (loadR Prog 75 v65 h34) v67 && true) && true) (.panic p77 h78)) fun v75 h76 =>
 (buildR Prog 71 [(0, v47), (1, v75)] h76).bindN fun v79 h80 =>
 (storeR Prog 71 v1 v79 h80).bindN fun _v81 h82 =>
 chkR ((okVal (loadR Prog 75 v65 h34) v67 && true) && true) (
 (loadR Prog 71 v1 h82).bind fun v83 h84 =>
 .ok (.tuple #[v83, (.bool true)]) h84))
theorem ankr_Table_Get_R (k : Nat) (a0 a1 a2 : Value) (h : Heap) : R (T k) F.ankr_Table_Get [a0, a1, a2] h = nrm .gc h (ankr_Table_Get k (R (T k)) a0 a1 a2 h) :=
 (R_body (t := T k) (T_scott k) (by kernel_rfl) (by kernel_rfl) _ _).trans (by kernel_rfl)
def ankr_Take_g1 (k : Nat) (call : Caller) : Env → Heap → Res AExit := rangeB CI call F.ankr_Take [1, 1, 1, 1, 0, 1, 0, 0] [1, 1, 1, 1, 0, 1, 0, 1]
def ankr_Take_g1k (k : Nat) (call : Caller) : Kont Value := kBlock 0 (kSeq (pieceK CI call F.ankr_Take [1, 1, 1, 1, 1]) (kDone Prog (resOf Prog F.ankr_Take)))
def ankr_Take (k : Nat) (call : Caller) (a0 a1 : Value) (h : Heap) : Res Value :=
 (boxR a0 h).bind fun v1 h2 =>
 (loadR Prog 75 v1 h2).bind fun v3 h4 =>
 (call F.view_View_U16 [v3, (.int .i64 0)] h4).bind fun v5 h6 =>
 (binR Prog .eql 3 v5 (.int .i64 0) h6).bind fun v7 h8 =>
 (call F.view_Need [v7] h8).bind fun v9 h10 =>
 (loadR Prog 75 v1 h10).bindN fun v11 h12 =>
 (loadR Prog 75 v1 h12).bindN fun v13 h14 =>
 (call F.view_View_U32 [v13, (.int .i64 4)] h14).bindT (fun p17 h18 => (loadR Prog 75 v1 h14).bindN fun v19 h20 => (loadR Prog 75 v1 h20).bindN fun v21 h22 => (allocR Prog 64 h22).bindN fun v23 h24 => chkR ((okVal (loadR Prog 75 v1 h10) v19 && true) && ((okVal (loadR Prog 75 v1 h10) v21 && true) && true)) (.panic p17 h18)) fun v15 h16 =>
 (call F.view_View_Rest [v11, v15] h16).bindT (fun p27 h28 => (loadR Prog 75 v1 h16).bindN fun v29 h30 => (loadR Prog 75 v1 h30).bindN fun v31 h32 => (allocR Prog 64 h32).bindN fun v33 h34 => chkR ((okVal (loadR Prog 75 v1 h16) v11 && true) && ((okVal (loadR Prog 75 v1 h10) v29 && (okVal (loadR Prog 75 v1 h16) v29 && true)) && ((okVal (loadR Prog 75 v1 h10) v31 && (okVal (loadR Prog 75 v1 h16) v31 && true)) && true))) (.panic p27 h28)) fun v25 h26 =>
 (call F.lookup_Take [v25, a1, (.int .i64 2)] h26).bindT (fun p37 h38 => (loadR Prog 75 v1 h26).bindN fun v39 h40 => (loadR Prog 75 v1 h40).bindN fun v41 h42 => (allocR Prog 64 h42).bindN fun v43 h44 => chkR ((okVal (loadR Prog 75 v1 h16) v11 && true) && ((okVal (loadR Prog 75 v1 h10) v39 && (okVal (loadR Prog 75 v1 h16) v39 && (okVal (loadR Prog 75 v1 h26) v39 && true))) && ((okVal (loadR Prog 75 v1 h10) v41 && (okVal (loadR Prog 75 v1 h16) v41 && (okVal (loadR Prog 75 v1 h26) v41 && true))) && true))) (.panic p37 h38)) fun v35 h36 =>
 (loadR Prog 75 v1 h36).bindN fun v45 h46 =>
 (loadR Prog 75 v1 h46).bindN fun v47 h48 =>
 (call F.view_View_U32 [v47, (.int .i64 8)] h48).bindT (fun p51 h52 => (allocR Prog 64 h48).bindN fun v53 h54 => chkR ((okVal (loadR Prog 75 v1 h16) v11 && true) && ((okVal (loadR Prog 75 v1 h10) v45 && (okVal (loadR Prog 75 v1 h16) v45 && (okVal (loadR Prog 75 v1 h26) v45 && true))) && ((okVal (loadR Prog 75 v1 h10) v47 && (okVal (loadR Prog 75 v1 h16) v47 && (okVal (loadR Prog 75 v1 h26) v47 && true))) && true))) (.panic p51 h52)) fun v49 h50 =>
 (call F.view_View_Rest [v45, v49] h50).bindT (fun p57 h58 => (allocR Prog 64 h50).bindN fun v59 h60 => chkR ((okVal (loadR Prog 75 v1 h16) v11 && true) && ((okVal (loadR Prog 75 v1 h10) v45 && (okVal (loadR Prog 75 v1 h16) v45 && (okVal (loadR Prog 75 v1 h26) v45 && (okVal (loadR Prog 75 v1 h50) v45 && true)))) && ((okVal (loadR Prog 75 v1 h10) v47 && (okVal (loadR Prog 75 v1 h16) v47 && (okVal (loadR Prog 75 v1 h26) v47 && true))) && true))) (.panic p57 h58)) fun v55 h56 =>
 (buildR Prog 77 [(0, v35), (1, v55)] h56).bindN fun v61 h62 =>
 (boxR v61 h62).bindN fun v63 h64 =>
 (allocR Prog 64 h64).bindN fun v65 h66 =>
 (storeR Prog 64 v65 v63 h66).bindN fun _v67 h68 =>
 chkR ((okVal (loadR Prog 75 v1 h16) v11 && true) && ((okVal (loadR Prog 75 v1 h10) v45 && (okVal (loadR Prog 75 v1 h16) v45 && (okVal (loadR Prog 75 v1 h26) v45 && (okVal (loadR Prog 75 v1 h50) v45 && true)))) && ((okVal (loadR Prog 75 v1 h10) v47 && (okVal (loadR Prog 75 v1 h16) v47 && (okVal (loadR Prog 75 v1 h26) v47 && true))) && true))) (
 ((.stuck : Res Value)).bind fun v69 h70 =>
 (allocR Prog 193 h70).bind fun v71 h72 =>
 (storeR Prog 193 v71 v69 h72).bind fun _v73 h74 =>
 (loadR Prog 64 v65 h74).bind fun v75 h76 =>
 (nilR v75 h76).bind fun v77 h78 =>
 (fieldAddrR Prog 77 v77 0 h78).bind fun v79 h80 =>
 (loadR Prog 32 v79 h80).bind fun v81 h82 =>
 (call F.lookup_Table_All [v81] h82).bind fun v83 h84 =>
 ((opt (itS v83 h84) h84).bind fun l85 h86 => rangeN (ankr_Take_g1 k call) [33, 34] [(4, (.pointer none)), (5, v65), (6, v71)] l85 h86).bind fun r87 h88 =>
 ankr_Take_g1k k call r87.1 r87.2 h88)
theorem ankr_Take_p2 {β : Type} (k : Nat) (call : Caller) (a0 a1 : Value) (h : Heap) (K : Kont β) : pieceK CI call F.ankr_Take [0] [(0, a0), (1, a1)] h K =
 (  (boxR a0 h).bind fun v1 h2 =>
 K .normal [(1, a1), (2, v1), (4, (.pointer none))] h2) := by kernel_rfl
theorem ankr_Take_p4 {β : Type} (k : Nat) (call : Caller) (a1 v1 : Value) (h2 : Heap) (K : Kont β) : pieceK CI call F.ankr_Take [1, 0] [(1, a1), (2, v1), (4, (.pointer none))] h2 K =
 (  (loadR Prog 75 v1 h2).bind fun v3 h4 =>
 (call F.view_View_U16 [v3, (.int .i64 0)] h4).bind fun v5 h6 =>
 (binR Prog .eql 3 v5 (.int .i64 0) h6).bind fun v7 h8 =>
 (call F.view_Need [v7] h8).bind fun v9 h10 =>
 K .normal [(1, a1), (2, v1), (4, (.pointer none))] h10) := by kernel_rfl
theorem ankr_Take_p6 {β : Type} (k : Nat) (call : Caller) (a1 v1 : Value) (h10 : Heap) (K : Kont β) : pieceK CI call F.ankr_Take [1, 1, 0] [(1, a1), (2, v1), (4, (.pointer none))] h10 K =
 (  (loadR Prog 75 v1 h10).bindN fun v11 h12 =>
 (loadR Prog 75 v1 h12).bindN fun v13 h14 =>
 (call F.view_View_U32 [v13, (.int .i64 4)] h14).bindT (fun p17 h18 => (loadR Prog 75 v1 h14).bindN fun v19 h20 => (loadR Prog 75 v1 h20).bindN fun v21 h22 => (allocR Prog 64 h22).bindN fun v23 h24 => chkR ((okVal (loadR Prog 75 v1 h10) v19 && true) && ((okVal (loadR Prog 75 v1 h10) v21 && true) && true)) (.panic p17 h18)) fun v15 h16 =>
 (call F.view_View_Rest [v11, v15] h16).bindT (fun p27 h28 => (loadR Prog 75 v1 h16).bindN fun v29 h30 => (loadR Prog 75 v1 h30).bindN fun v31 h32 => (allocR Prog 64 h32).bindN fun v33 h34 => chkR ((okVal (loadR Prog 75 v1 h16) v11 && true) && ((okVal (loadR Prog 75 v1 h10) v29 && (okVal (loadR Prog 75 v1 h16) v29 && true)) && ((okVal (loadR Prog 75 v1 h10) v31 && (okVal (loadR Prog 75 v1 h16) v31 && true)) && true))) (.panic p27 h28)) fun v25 h26 =>
 (call F.lookup_Take [v25, a1, (.int .i64 2)] h26).bindT (fun p37 h38 => (loadR Prog 75 v1 h26).bindN fun v39 h40 => (loadR Prog 75 v1 h40).bindN fun v41 h42 => (allocR Prog 64 h42).bindN fun v43 h44 => chkR ((okVal (loadR Prog 75 v1 h16) v11 && true) && ((okVal (loadR Prog 75 v1 h10) v39 && (okVal (loadR Prog 75 v1 h16) v39 && (okVal (loadR Prog 75 v1 h26) v39 && true))) && ((okVal (loadR Prog 75 v1 h10) v41 && (okVal (loadR Prog 75 v1 h16) v41 && (okVal (loadR Prog 75 v1 h26) v41 && true))) && true))) (.panic p37 h38)) fun v35 h36 =>
 (loadR Prog 75 v1 h36).bindN fun v45 h46 =>
 (loadR Prog 75 v1 h46).bindN fun v47 h48 =>
 (call F.view_View_U32 [v47, (.int .i64 8)] h48).bindT (fun p51 h52 => (allocR Prog 64 h48).bindN fun v53 h54 => chkR ((okVal (loadR Prog 75 v1 h16) v11 && true) && ((okVal (loadR Prog 75 v1 h10) v45 && (okVal (loadR Prog 75 v1 h16) v45 && (okVal (loadR Prog 75 v1 h26) v45 && true))) && ((okVal (loadR Prog 75 v1 h10) v47 && (okVal (loadR Prog 75 v1 h16) v47 && (okVal (loadR Prog 75 v1 h26) v47 && true))) && true))) (.panic p51 h52)) fun v49 h50 =>
 (call F.view_View_Rest [v45, v49] h50).bindT (fun p57 h58 => (allocR Prog 64 h50).bindN fun v59 h60 => chkR ((okVal (loadR Prog 75 v1 h16) v11 && true) && ((okVal (loadR Prog 75 v1 h10) v45 && (okVal (loadR Prog 75 v1 h16) v45 && (okVal (loadR Prog 75 v1 h26) v45 && (okVal (loadR Prog 75 v1 h50) v45 && true)))) && ((okVal (loadR Prog 75 v1 h10) v47 && (okVal (loadR Prog 75 v1 h16) v47 && (okVal (loadR Prog 75 v1 h26) v47 && true))) && true))) (.panic p57 h58)) fun v55 h56 =>
 (buildR Prog 77 [(0, v35), (1, v55)] h56).bindN fun v61 h62 =>
 (boxR v61 h62).bindN fun v63 h64 =>
 (allocR Prog 64 h64).bindN fun v65 h66 =>
 (storeR Prog 64 v65 v63 h66).bindN fun _v67 h68 =>
 chkR ((okVal (loadR Prog 75 v1 h16) v11 && true) && ((okVal (loadR Prog 75 v1 h10) v45 && (okVal (loadR Prog 75 v1 h16) v45 && (okVal (loadR Prog 75 v1 h26) v45 && (okVal (loadR Prog 75 v1 h50) v45 && true)))) && ((okVal (loadR Prog 75 v1 h10) v47 && (okVal (loadR Prog 75 v1 h16) v47 && (okVal (loadR Prog 75 v1 h26) v47 && true))) && true))) (
 K .normal [(4, (.pointer none)), (5, v65)] h68)) := by kernel_rfl
theorem ankr_Take_p11 {β : Type} (k : Nat) (call : Caller) (v65 v71 : Value) (h74 : Heap) (K : Kont β) : pieceK CI call F.ankr_Take [1, 1, 1, 1, 0, 0] [(4, (.pointer none)), (5, v65), (6, v71)] h74 K =
 (  (loadR Prog 64 v65 h74).bind fun v75 h76 =>
 (nilR v75 h76).bind fun v77 h78 =>
 (fieldAddrR Prog 77 v77 0 h78).bind fun v79 h80 =>
 (loadR Prog 32 v79 h80).bind fun v81 h82 =>
 (call F.lookup_Table_All [v81] h82).bind fun v83 h84 =>
 K .normal [(4, (.pointer none)), (5, v65), (6, v71), (32, v83)] h84) := by kernel_rfl
theorem ankr_Take_p13 {β : Type} (k : Nat) (call : Caller) (a4 a5 a6 a33 a34 : Value) (h : Heap) (K : Kont β) : pieceK CI call F.ankr_Take [1, 1, 1, 1, 0, 1, 0, 0] [(4, a4), (5, a5), (6, a6), (33, a33), (34, a34)] h K =
 (  K .normal [(5, a5), (6, a6), (8, a34)] h) := by kernel_rfl
theorem ankr_Take_p18 {β : Type} (k : Nat) (call : Caller) (e : Env) (h : Heap) (K : Kont β) : pieceK CI call F.ankr_Take [1, 1, 1, 1, 0, 1, 0, 1, 0, 0, 1] e h K = pieceK CI call F.ankr_Take [1, 1, 1, 1, 0, 1, 0, 1, 0, 0, 1, 0] e h (kSeq (pieceK CI call F.ankr_Take [1, 1, 1, 1, 0, 1, 0, 1, 0, 0, 1, 1]) K) := by kernel_rfl
theorem ankr_Take_p19 {β : Type} (k : Nat) (call : Caller) (a5 a6 a34 v95 : Value) (h100 : Heap) (K : Kont β) : pieceK CI call F.ankr_Take [1, 1, 1, 1, 0, 1, 0, 1, 0, 0, 1, 0] [(5, a5), (6, a6), (8, a34), (10, v95)] h100 K =
 (  K .normal [(5, a5), (6, a6), (8, a34), (41, v95)] h100) := by kernel_rfl
theorem ankr_Take_p20 {β : Type} (k : Nat) (call : Caller) (a5 a6 a34 v95 : Value) (h100 : Heap) (K : Kont β) : pieceK CI call F.ankr_Take [1, 1, 1, 1, 0, 1, 0, 1, 0, 0, 1, 1] [(5, a5), (6, a6), (8, a34), (41, v95)] h100 K =
 (condV (some v95) (pieceK CI call F.ankr_Take [1, 1, 1, 1, 0, 1, 0, 1, 0, 0, 1, 1, 0] [(5, a5), (6, a6), (8, a34), (41, v95)] h100 K) (pieceK CI call F.ankr_Take [1, 1, 1, 1, 0, 1, 0, 1, 0, 0, 1, 1, 1] [(5, a5), (6, a6), (8, a34), (41, v95)] h100 K)) := by kernel_rfl
theorem ankr_Take_p21 {β : Type} (k : Nat) (call : Caller) (e : Env) (h : Heap) (K : Kont β) : pieceK CI call F.ankr_Take [1, 1, 1, 1, 0, 1, 0, 1, 0, 0, 1, 1, 0] e h K = K (.exit 1) e h := by kernel_rfl
theorem ankr_Take_p22 {β : Type} (k : Nat) (call : Caller) (e : Env) (h : Heap) (K : Kont β) : pieceK CI call F.ankr_Take [1, 1, 1, 1, 0, 1, 0, 1, 0, 0, 1, 1, 1] e h K = K .normal e h := by kernel_rfl
theorem ankr_Take_p25 {β : Type} (k : Nat) (call : Caller) (a5 a34 : Value) (h106 : Heap) (K : Kont β) : pieceK CI call F.ankr_Take [1, 1, 1, 1, 0, 1, 0, 1, 0, 1, 1] [(5, a5), (8, a34)] h106 K =
 (    (loadR Prog 64 a5 h106).bindN fun v107 h108 =>
 (nilR v107 h108).bindN fun v109 h110 =>
 (fieldAddrR Prog 77 v109 1 h110).bindN fun v111 h112 =>
 (loadR Prog 75 v111 h112).bindN fun v113 h114 =>
 (binR Prog .add 3 a34 (.int .i64 4) h114).bindN fun v115 h116 =>
 (loadR Prog 64 a5 h116).bindN fun v117 h118 =>
 (nilR v117 h118).bindN fun v119 h120 =>
 (fieldAddrR Prog 77 v119 1 h120).bindN fun v121 h122 =>
 (loadR Prog 75 v121 h122).bindN fun v123 h124 =>
 (call F.view_View_U32 [v123, a34] h124).bindT (fun p127 h128 => .panic p127 h128) fun v125 h126 =>
 (call F.view_View_Rows [v113, v115, v125, (.int .i64 4)] h126).bindT (fun p131 h132 => chkR ((okVal (loadR Prog 64 a5 h126) v107 && true) && ((okVal (loadR Prog 75 v111 h126) v113 && true) && true)) (.panic p131 h132)) fun v129 h130 =>
 chkR ((okVal (loadR Prog 64 a5 h126) v107 && true) && ((okVal (loadR Prog 75 v111 h126) v113 && true) && true)) (
 K .normal [] h130)) := by kernel_rfl
theorem ankr_Take_p26 {β : Type} (k : Nat) (call : Caller) (e : Env) (h : Heap) (K : Kont β) : pieceK CI call F.ankr_Take [1, 1, 1, 1, 1] e h K = pieceK CI call F.ankr_Take [1, 1, 1, 1, 1, 0] e h (kSeq (pieceK CI call F.ankr_Take [1, 1, 1, 1, 1, 1]) K) := by kernel_rfl
theorem ankr_Take_p27 {β : Type} (k : Nat) (call : Caller) (a4 a5 a6 : Value) (h : Heap) (K : Kont β) : pieceK CI call F.ankr_Take [1, 1, 1, 1, 1, 0] [(4, a4), (5, a5), (6, a6)] h K =
 (  (loadR Prog 64 a5 h).bind fun v133 h134 =>
 K .normal [(4, v133)] h134) := by kernel_rfl
theorem ankr_Take_p28 {β : Type} (k : Nat) (call : Caller) (e : Env) (h : Heap) (K : Kont β) : pieceK CI call F.ankr_Take [1, 1, 1, 1, 1, 1] e h K = K .ret e h := by kernel_rfl
theorem ankr_Take_p29 (v133 : Value) (h134 : Heap) : kDone Prog (resOf Prog F.ankr_Take) .ret [(4, v133)] h134 =
 (  .ok v133 h134) := by kernel_rfl
def ankr_Read_in1 (k : Nat) (call : Caller) (a0 a1 a2 : Value) (h : Heap) : Res Value :=
 (loadR Prog 75 a0 h).bind fun v1 h2 =>
 (loadR Prog 3 a1 h2).bind fun v3 h4 =>
 (call F.ankr_Take [v1, v3] h4).bind fun v5 h6 =>
 (storeR Prog 64 a2 v5 h6).bind fun _v7 h8 =>
 .ok (.tuple #[]) h8
theorem ankr_Read_in1_R (k : Nat) (a0 a1 a2 : Value) (h : Heap) : R (T k) F.ankr_Read_in1 [a0, a1, a2] h = nrm .no h (ankr_Read_in1 k (R (T k)) a0 a1 a2 h) :=
 (R_body (t := T k) (T_scott k) (by kernel_rfl) (by kernel_rfl) _ _).trans (by kernel_rfl)
end
end Go.Sw
end
section
namespace Go.Sw
open Go.RowKit
structure ATab where
 of : Int × List Pt
 data : List Int
abbrev ankC (t : ATab) : List Value := [tabV t.of, lv encB t.data]
abbrev ankV (t : ATab) : Value := boxV (ankC t).toArray
structure ATab.ok (t : ATab) : Prop where
 pts : ∀ p, p ∈ t.of.2 → p.ok
 rise : risesS t.of.2 = true
 plen : t.of.2.length < 2 ^ 31
 byt : Byt t.data
 len : t.data.length < 2 ^ 31
 has : ∀ id at_, getS t.of.2 id = some at_ → 0 ≤ at_ ∧ ∃ n, uS t.data at_ 4 = some n ∧ at_ + 4 + 4 * n ≤ t.data.length
def cntA (t : ATab) (id : Int) : Int := match getS t.of.2 id with
 | some at_ => gU t.data at_ 4
 | none => 0
def getA (t : ATab) (id i : Int) : Option (Int × Int) := match getS t.of.2 id with
 | some at_ => if 0 ≤ i ∧ i < gU t.data at_ 4 then some (s16 (gU t.data (at_ + 4 + 4 * i) 2), s16 (gU t.data (at_ + 6 + 4 * i) 2)) else none
 | none => none
theorem ankrCount_run (k : Nat) (t : ATab) (ht : t.ok) (id : Int) (H : Heap) : R (T k) F.ankr_Table_Count [ankV t, .int .i64 id] H = .ok (.int .i64 (cntA t id)) H := by
 rw [ankr_Table_Count_R];refine nrm_gc ⟨H, ?_, Ext.refl H⟩ (.int _ _);have hg := fun H' => Get_run k t.of ht.pts ht.rise id ht.plen H';unfold cntA;cases h : getS t.of.2 id with
 | none =>
  rw [h] at hg;simp only [Option.getD_none, Option.isSome_none] at hg;simp -implicitDefEqProofs (disch := omega) [ankr_Table_Count, hg]
 | some at_ =>
  obtain ⟨h0, n, hn, hfit⟩ := ht.has id at_ h;rw [h] at hg;simp only [Option.getD_some, Option.isSome_some] at hg;have hU := fun H' => U32_run k (Sl.lv H' 1 t.data) ht.byt at_ (by have := ht.len; omega);rw [hn] at hU;dsimp only;rw [gU_some hn];simp -implicitDefEqProofs (disch := omega) [ankr_Table_Count, hg, hU, orF]
theorem ankrGet_run (k : Nat) (t : ATab) (ht : t.ok) (id i : Int) (H : Heap) : R (T k) F.ankr_Table_Get [ankV t, .int .i64 id, .int .i64 i] H = .ok (.tuple #[.agg #[.int .i64 ((getA t id i).getD (0, 0)).1, .int .i64 ((getA t id i).getD (0, 0)).2], .bool (getA t id i).isSome]) H := by
 rw [ankr_Table_Get_R];have hx := fun (p : Int × Int) => (Ext.refl H).push ⟨[.int .i64 p.1, .int .i64 p.2], 1, false⟩;have fl : ∀ x y b, Flat (.tuple #[.agg #[.int .i64 x, .int .i64 y], .bool b]) := fun x y b => Flat.tupleL (l := [.agg #[.int .i64 x, .int .i64 y], .bool b]) (.cons (Flat.aggL (l := [.int .i64 x, .int .i64 y]) (.cons (.int _ _) (.cons (.int _ _) .nil))) (.cons (.bool _) .nil));have hc := fun H' => ankrCount_run k t ht id H';by_cases h0 : i < 0
 ·have hN : getA t id i = none := by
   unfold getA;split
   ·rw [if_neg (by omega)]
   ·rfl
  rw [hN];refine nrm_gc ⟨_, ?_, hx (0, 0)⟩ (fl _ _ _).alive;simp -implicitDefEqProofs (disch := omega) [ankr_Table_Get, h0]
 by_cases h1 : cntA t id ≤ i
 ·have hN : getA t id i = none := by
   unfold getA;unfold cntA at h1;split
   ·rename_i at_ e;rw [e] at h1;dsimp only at h1;rw [if_neg (by omega)]
   ·rfl
  rw [hN];refine nrm_gc ⟨_, ?_, hx (0, 0)⟩ (fl _ _ _).alive;simp -implicitDefEqProofs (disch := omega) [ankr_Table_Get, h0, h1, hc]
 have hg := fun H' => Get_run k t.of ht.pts ht.rise id ht.plen H';unfold getA;unfold cntA at h1 hc;cases h : getS t.of.2 id with
 | none => rw [h] at h1; dsimp only at h1; omega
 | some at_ =>
  obtain ⟨a0, n, hn, hfit⟩ := ht.has id at_ h;rw [h] at hg h1 hc;dsimp only at h1 hc ⊢;have hnb := uS_four ht.byt hn;rw [gU_some hn] at h1 hc ⊢;rw [if_pos (by omega)];simp only [Option.getD_some, Option.isSome_some] at hg ⊢;have hU : ∀ j : Int, 0 ≤ j → j + 2 ≤ (t.data.length : Int) → uS t.data j 2 = some (gU t.data j 2) := fun j b0 b1 => by
   have : ∃ x, uS t.data j 2 = some x := by
    unfold uS pieceS;rw [if_pos ⟨by omega, by omega, by omega, by omega⟩];exact ⟨_, rfl⟩
   obtain ⟨x, hx⟩ := this;rw [hx, gU_some hx]
  have hl := ht.len;have r1 := fun H' j => I16_run k (Sl.lv H' 1 t.data) ht.byt j (by omega);have q1 : ∀ H', R (T k) F.view_View_I16 [.agg #[lv encB t.data], .int .i64 (at_ + 4 + 4 * i)] H' = .ok (.int .i64 (s16 (gU t.data (at_ + 4 + 4 * i) 2))) H' := fun H' => by rw [r1, hU _ (by omega) (by omega)]; rfl
  have q2 : ∀ H', R (T k) F.view_View_I16 [.agg #[lv encB t.data], .int .i64 (at_ + 6 + 4 * i)] H' = .ok (.int .i64 (s16 (gU t.data (at_ + 6 + 4 * i) 2))) H' := fun H' => by rw [r1, hU _ (by omega) (by omega)]; rfl
  have w1 : IntKind.i64.wrap (4 * i) = 4 * i := wrap_i64 (by omega) (by omega);have w2 : IntKind.i64.wrap (at_ + 4) = at_ + 4 := wrap_i64 (by omega) (by omega);have w3 : IntKind.i64.wrap (at_ + 6) = at_ + 6 := wrap_i64 (by omega) (by omega);have w4 : IntKind.i64.wrap (at_ + 4 + 4 * i) = at_ + 4 + 4 * i := wrap_i64 (by omega) (by omega);have w5 : IntKind.i64.wrap (at_ + 6 + 4 * i) = at_ + 6 + 4 * i := wrap_i64 (by omega) (by omega);have vw : veq (vwB t.data) (vwB t.data) = true := veq_agg (l := [lv encB t.data]) fun u hu => by simp at hu; subst hu; exact veq_B t.data
  refine nrm_gc ⟨_, ?_, hx (s16 (gU t.data (at_ + 4 + 4 * i) 2), s16 (gU t.data (at_ + 6 + 4 * i) 2))⟩ (fl _ _ _).alive;simp -implicitDefEqProofs (disch := omega) [ankr_Table_Get, h0, h1, hc, hg, q1, q2, w1, w2, w3, w4, w5, vw]
end Go.Sw
end
section
namespace Go.Sw
abbrev tyM : Nat := 193
abbrev tyS : Nat := 189
theorem alM (h : Heap) : allocR Prog tyM h = newP [.map none] h := al_eq (z := .map none) (by kernel_rfl) h
theorem alU (h : Heap) : allocR Prog tyS h = newP [] h := al_eq (z := .agg #[]) (by kernel_rfl) h
theorem ldM (a : Value) (h : Heap) : loadR Prog tyM a h = ld1 a h := ld1_eq (by kernel_rfl) a h
theorem stM (a v : Value) (h : Heap) : storeR Prog tyM a v h = stR 1 a v h := st_eq (by kernel_rfl) a v h
theorem stU (a v : Value) (h : Heap) : storeR Prog tyS a v h = stR 0 a v h := st_eq (by kernel_rfl) a v h
end Go.Sw
end
section
namespace Go.Sw
open Go.RowKit
def ptL (p : Pt) : List (List Int) := (List.range (p.last - p.first + 1).toNat).map fun j => [p.first + (j : Nat), (p.num (p.first + (j : Nat))).getD 0]
theorem mapM_all {α β : Type} {f : α → Option β} {g : α → β} : ∀ {l : List α}, (∀ y, y ∈ l → f y = some (g y)) → l.mapM f = some (l.map g)
 | [], _ => rfl
 | y :: l, h => by rw [List.mapM_cons, h y (by simp), mapM_all (fun z hz => h z (by simp [hz]))]; rfl
theorem rowsI_get (l : List Int) (i : Nat) : (rows encI l)[i]? = (l[i]?).map (Value.int .i64) := by
 unfold rows
 induction l generalizing i with
 | nil => rfl
 | cons x l ih =>
  cases i with
  | zero => rfl
  | succ i => simpa using ih i
theorem partE_pt (p : Pt) (h : p.ok) : partE p.first p.last (rows encI p.vals) = some (ptL p) := by
 obtain ⟨h1, h2, h3, h4, h5, h6⟩ := h;have hl : 0 < p.vals.length := List.length_pos_iff.2 h4;have hlen : (rows encI p.vals).length = p.vals.length := by simpa using rows_length encI_len p.vals
 unfold partE;rw [if_pos ⟨h1, by omega, by rw [hlen]; omega⟩];refine mapM_all fun j hj => ?_;have hj := List.mem_range.1 hj;obtain ⟨x, hx⟩ : ∃ x, p.vals[min j (p.vals.length - 1)]? = some x := ⟨_, List.getElem?_eq_getElem (by omega)⟩
 rw [rowsI_get, hlen, hx];have : p.num (p.first + (j : Nat)) = some x := by
  unfold Pt.num;rw [show (min (p.first + (j : Int) - p.first) ((p.vals.length : Int) - 1)).toNat = min j (p.vals.length - 1) by omega];exact hx
 simp [this]
theorem partsE_pts : ∀ (ps : List Pt), (∀ p, p ∈ ps → p.ok) → partsE ps.length (rows encPt ps) = some (ps.flatMap ptL)
 | [], _ => rfl
 | p :: ps, h => by
  have h1 := partE_pt p (h p (by simp));have h2 := partsE_pts ps fun q hq => h q (by simp [hq]);have hlen : (rows encI p.vals).length = p.vals.length := by simpa using rows_length encI_len p.vals
  rw [rows_cons, List.length_cons];show partsE (ps.length + 1) (.int .i64 p.first :: .int .i64 p.last :: lv encI p.vals :: rows encPt ps) = _;unfold lv listV;simp [partsE, h1, h2, hlen]
theorem itS_tab (x : Int × List Pt) (hok : ∀ p, p ∈ x.2 → p.ok) (hl : x.2.length < 2 ^ 31) (n : Nat) (H : Heap) (hH : H.get n = some ⟨[tabV x], 1, false⟩) :
  itS (.func (.func F.lookup_Table_All_in1) #[] #[.pointer (some ⟨n, 0, none⟩)]) H = some (x.2.flatMap ptL) := by
 have h1 := partsE_pts x.2 hok;unfold itS itAll;unfold tabV boxV lv listV at hH;simp only [hH];simp only [Nat.beq_refl, Bool.and_true, cond_true, Array.size_empty];rw [if_pos (show x.2.length < 1152921504606846976 by omega)];exact h1
theorem lookAll_run (k : Nat) (x : Int × List Pt) (H : Heap) : R (T k) F.lookup_Table_All [tabV x] H = .ok (.func (.func F.lookup_Table_All_in1) #[] #[.pointer (some ⟨H.n, 0, none⟩)]) (H.push ⟨[tabV x], 1, false⟩) := by
 rw [lookup_Table_All_R];simp [lookup_Table_All]
end Go.Sw
end
section
namespace Go.Sw
open Go.RowKit
abbrev KontM (β : Type) := AExit → Env → Heap → Gs → Res β
section
variable {β : Type} {c : Cfg} {call : Caller} {f : FuncId} {p : List Nat} {e : Env} {H : Heap} {gs : Gs}
noncomputable def pieceM (c : Cfg) (call : Caller) (f : FuncId) (p : List Nat) (e : Env) (H : Heap) (gs : Gs) (K : KontM β) : Res β :=
 (execM c call (runDraw c call (ntOf c.P f)) (ntOf c.P f) (c.kp f) (partOf c.P f p) e H gs).bind fun r H' => K r.1.1 r.1.2 H' r.2
noncomputable def pieceF (c : Cfg) (call : Caller) (f : FuncId) (p : List Nat) (e : Env) (H : Heap) (gs : Gs) (K : Kont β) : Res β :=
 (execF c call (runDraw c call (ntOf c.P f)) (ntOf c.P f) (c.kp f) (partOf c.P f p) e H gs).bind fun r H' => K r.1 r.2 H'
def kSeqM (F : Env → Heap → Gs → KontM β → Res β) (K : KontM β) : KontM β := fun x e H gs =>
 match x with
 | .normal => F e H gs K
 | x => K x e H gs
def kSeqF (F : Env → Heap → Gs → Kont β → Res β) (K : Kont β) : KontM β := fun x e H gs =>
 match x with
 | .normal => F e H gs K
 | x => K x e H
theorem pieceM_plain (h : noMap (partOf c.P f p) = true) (K : KontM β) : pieceM c call f p e H gs K = pieceK c call f p e H fun x e H => K x e H gs := by
 unfold pieceM pieceK;rw [execM_plain _ h, execK_eq, Res.bind_assoc];rfl
theorem pieceM_seq {a b : List Nat} (h : partOf c.P f p = .seq (partOf c.P f a) (partOf c.P f b)) (K : KontM β) : pieceM c call f p e H gs K = pieceM c call f a e H gs (kSeqM (pieceM c call f b) K) := by
 unfold pieceM;rw [h];simp only [execM, Res.bind_assoc];congr 1;funext r H';obtain ⟨⟨x, e'⟩, gs'⟩ := r;cases x <;> rfl
theorem pieceM_block {a : List Nat} {i : Nat} (h : partOf c.P f p = .block i (partOf c.P f a)) (K : KontM β) : pieceM c call f p e H gs K = pieceM c call f a e H gs fun x e H gs => match x with
  | .exit j => if j == i then K .normal e H gs else K (.exit j) e H gs
  | x => K x e H gs := by
 unfold pieceM;rw [h];simp only [execM, Res.bind_assoc];congr 1;funext r H';obtain ⟨⟨x, e'⟩, gs'⟩ := r;cases x with
 | normal => rfl
 | ret => rfl
 | exit j =>
  show (Res.ok (blockK i (.exit j, e'), gs') H').bind _ = _;unfold blockK;dsimp only;split <;> rfl
theorem pieceF_plain {a b : List Nat} (h : partOf c.P f p = .seq (partOf c.P f a) (partOf c.P f b)) (hp : plainCode (partOf c.P f a) = true) (K : Kont β) : pieceF c call f p e H gs K = pieceM c call f a e H gs (kSeqF (pieceF c call f b) K) := by
 unfold pieceF pieceM;rw [h];simp only [execF, hp, cond_true, Res.bind_assoc];congr 1;funext r H';obtain ⟨⟨x, e'⟩, gs'⟩ := r;cases x <;> rfl
theorem pieceF_range {a b : List Nat} (h : partOf c.P f p = .seq (partOf c.P f a) (partOf c.P f b)) (hp : plainCode (partOf c.P f a) = false) (K : Kont β) : pieceF c call f p e H gs K = pieceF c call f a e H gs (kSeq (pieceK c call f b) K) := by
 unfold pieceF;rw [h];simp only [execF, hp, cond_false, Res.bind_assoc];congr 1;funext r H';obtain ⟨x, e'⟩ := r;cases x with
 | normal => exact (execK_eq _ _ _ _).symm
 | exit i => rfl
 | ret => rfl
theorem pieceF_block {a : List Nat} {i : Nat} (h : partOf c.P f p = .block i (partOf c.P f a)) (K : Kont β) : pieceF c call f p e H gs K = pieceF c call f a e H gs (kBlock i K) := by
 unfold pieceF;rw [h];simp only [execF, Res.bind_assoc];congr 1;funext r H';obtain ⟨x, e'⟩ := r;cases x with
 | normal => rfl
 | ret => rfl
 | exit j =>
  show (Res.ok (blockK i (.exit j, e')) H').bind _ = _;unfold blockK kBlock;dsimp only;cases j == i <;> rfl
theorem pieceM_of {r : Res ((AExit × Env) × Gs)} (h : execM c call (runDraw c call (ntOf c.P f)) (ntOf c.P f) (c.kp f) (partOf c.P f p) e H gs = r) (K : KontM β) : pieceM c call f p e H gs K = r.bind fun r H' => K r.1.1 r.1.2 H' r.2 := by
 unfold pieceM;rw [h]
theorem execM_piece (c : Cfg) (call : Caller) (f : FuncId) (p : List Nat) (e : Env) (H : Heap) (gs : Gs) : execM c call (runDraw c call (ntOf c.P f)) (ntOf c.P f) (c.kp f) (partOf c.P f p) e H gs = pieceM c call f p e H gs fun x e H gs => .ok ((x, e), gs) H := by
 unfold pieceM;cases execM c call (runDraw c call (ntOf c.P f)) (ntOf c.P f) (c.kp f) (partOf c.P f p) e H gs <;> rfl
theorem roundM_first {a b : List Nat} {e e' : Env} (h : ∀ K : KontM ((AExit × Env) × Gs), pieceM c call f a e H gs K = K .normal e' H gs) : roundM c call (runDraw c call (ntOf c.P f)) (ntOf c.P f) (c.kp f) (partOf c.P f a) (partOf c.P f b) e H gs = pieceM c call f b e' H gs fun x _ H gs => .ok (x, gs) H := by
 unfold roundM;rw [execM_piece, h];rfl
theorem bodyF_is (c : Cfg) (call : Caller) (f : FuncId) (args : List Value) (H : Heap) (hl : Nat.ble args.length (ntOf c.P f) = true) : bodyF c call f args H = pieceF c call f [] (Env.of 0 args) H none (kDone c.P (resOf c.P f)) := by
 unfold bodyF pieceF;have hk : (fun (r : AExit × Env) H' => kDone c.P (resOf c.P f) r.1 r.2 H') = fun r H' => doneK c.P (resOf c.P f) r H' := by
  funext r H';exact kDone_eq _ _ _ _ _
 rw [hk];cases hf : c.P.funcs[f]? with
 | none =>
  have : partOf c.P f [] = .skip := by unfold partOf; rw [hf]
  rw [this]; rfl
 | some fn =>
  dsimp only;cases hb : fn.body with
  | none =>
   have : partOf c.P f [] = .skip := by unfold partOf; rw [hf]; dsimp only; rw [hb]
   rw [this]; rfl
  | some code =>
   have h1 : partOf c.P f [] = code := by unfold partOf; rw [hf]; dsimp only; rw [hb]; cases code <;> rfl
   have h2 : ntOf c.P f = fn.ntmps := by unfold ntOf; rw [hf]
   have h3 : resOf c.P f = fn.results.toList := by unfold resOf; rw [hf]
   rw [h1, h2, h3];rw [h2] at hl;dsimp only;rw [hl];rfl
end
def mapMk (H : Heap) (gs : Gs) : Res (Value × Gs) := match gs with | none => .ok (.map (some H.n), some (H.n, [])) (deadH H) | some _ => .stuck
def mapLk (m n : Value) (H : Heap) (gs : Gs) : Res (Value × Gs) := match some m, some n, gs with
 | some (.map (some b)), some (.int .i64 n), some (b', ks) => bif Nat.beq b b' && true then .ok (.tuple #[.agg #[], .bool (decide (n ∈ ks))], some (b', ks)) H else .stuck
 | _, _, _ => .stuck
def mapUp (m n v : Value) (H : Heap) (gs : Gs) : Res (Value × Gs) := match some m, some n, some v, gs with
 | some (.map (some b)), some (.int .i64 n), some (.agg xs), some (b', ks) => bif Nat.beq b b' && true && Nat.beq xs.size 0 && !(decide (n ∈ ks)) then .ok (undef, some (b', n :: ks)) H else .stuck
 | _, _, _, _ => .stuck
def plM (r : Res Value) (gs : Gs) : Res (Value × Gs) := r.bind fun v H => .ok (v, gs) H
def endM (ks : List Nat) (r : Res (Env × Gs)) : Res ((AExit × Env) × Gs) := r.bind fun q H' => .ok ((.normal, Env.keep ks q.1), q.2) H'
theorem take_m3K (call : Caller) (draw : Draw) (a4 a5 : Value) (H : Heap) (gs : Gs) : execM CI call draw (ntOf Prog F.ankr_Take) (kpS F.ankr_Take) (partOf Prog F.ankr_Take [1, 1, 1, 0]) [(4, a4), (5, a5)] H gs =
  endM [4, 5, 6] ((mapMk H gs).bind fun q h1 => (plM (allocR Prog tyM h1) q.2).bind fun r h2 => (plM (storeR Prog tyM r.1 q.1 h2) r.2).bind fun s h3 => .ok ([(4, a4), (5, a5), (6, r.1), (27, q.1)], s.2) h3) := by kernel_rfl
theorem take_m3 (call : Caller) (draw : Draw) (a4 a5 : Value) (H : Heap) (gs : Gs) : execM CI call draw (ntOf Prog F.ankr_Take) (kpS F.ankr_Take) (partOf Prog F.ankr_Take [1, 1, 1, 0]) [(4, a4), (5, a5)] H gs =
  endM [4, 5, 6] ((mapMk H gs).bind fun q h1 => (plM (newP [.map none] h1) q.2).bind fun r h2 => (plM (stR 1 r.1 q.1 h2) r.2).bind fun s h3 => .ok ([(4, a4), (5, a5), (6, r.1), (27, q.1)], s.2) h3) := by
 have h := take_m3K call draw a4 a5 H gs;simp only [alM, alU, ldM, stM, stU] at h;exact h
theorem take_m6K (call : Caller) (draw : Draw) (a5 a6 a8 : Value) (H : Heap) (gs : Gs) : execM CI call draw (ntOf Prog F.ankr_Take) (kpS F.ankr_Take) (partOf Prog F.ankr_Take [1, 1, 1, 1, 0, 1, 0, 1, 0, 0, 0]) [(5, a5), (6, a6), (8, a8)] H gs =
  endM [5, 6, 8, 10] ((plM (loadR Prog tyM a6 H) gs).bind fun m h1 => (mapLk m.1 a8 h1 m.2).bind fun q h2 => (plM (extractR q.1 0 h2) q.2).bind fun x h3 => (plM (extractR q.1 1 h3) x.2).bind fun y h4 => (plM (allocR Prog tyS h4) y.2).bind fun r h5 => (plM (storeR Prog tyS r.1 x.1 h5) r.2).bind fun s h6 =>
   .ok ([(5, a5), (6, a6), (8, a8), (9, r.1), (10, y.1), (35, q.1), (36, m.1), (37, a8), (38, q.1), (39, x.1), (40, y.1)], s.2) h6) := by kernel_rfl
theorem take_m6 (call : Caller) (draw : Draw) (a5 a6 a8 : Value) (H : Heap) (gs : Gs) : execM CI call draw (ntOf Prog F.ankr_Take) (kpS F.ankr_Take) (partOf Prog F.ankr_Take [1, 1, 1, 1, 0, 1, 0, 1, 0, 0, 0]) [(5, a5), (6, a6), (8, a8)] H gs =
  endM [5, 6, 8, 10] ((plM (ld1 a6 H) gs).bind fun m h1 => (mapLk m.1 a8 h1 m.2).bind fun q h2 => (plM (extractR q.1 0 h2) q.2).bind fun x h3 => (plM (extractR q.1 1 h3) x.2).bind fun y h4 => (plM (newP [] h4) y.2).bind fun r h5 => (plM (stR 0 r.1 x.1 h5) r.2).bind fun s h6 =>
   .ok ([(5, a5), (6, a6), (8, a8), (9, r.1), (10, y.1), (35, q.1), (36, m.1), (37, a8), (38, q.1), (39, x.1), (40, y.1)], s.2) h6) := by
 have h := take_m6K call draw a5 a6 a8 H gs;simp only [alM, alU, ldM, stM, stU] at h;exact h
theorem take_m8K (call : Caller) (draw : Draw) (a5 a6 a8 a41 : Value) (H : Heap) (gs : Gs) : execM CI call draw (ntOf Prog F.ankr_Take) (kpS F.ankr_Take) (partOf Prog F.ankr_Take [1, 1, 1, 1, 0, 1, 0, 1, 0, 1, 0]) [(5, a5), (6, a6), (8, a8), (41, a41)] H gs =
  endM [5, 8] ((plM (loadR Prog tyM a6 H) gs).bind fun m h1 => (mapUp m.1 a8 (.agg #[]) h1 m.2).bind fun q h2 => .ok ([(5, a5), (6, a6), (8, a8), (41, a41), (42, m.1), (43, a8), (44, .agg #[])], q.2) h2) := by kernel_rfl
theorem take_m8 (call : Caller) (draw : Draw) (a5 a6 a8 a41 : Value) (H : Heap) (gs : Gs) : execM CI call draw (ntOf Prog F.ankr_Take) (kpS F.ankr_Take) (partOf Prog F.ankr_Take [1, 1, 1, 1, 0, 1, 0, 1, 0, 1, 0]) [(5, a5), (6, a6), (8, a8), (41, a41)] H gs =
  endM [5, 8] ((plM (ld1 a6 H) gs).bind fun m h1 => (mapUp m.1 a8 (.agg #[]) h1 m.2).bind fun q h2 => .ok ([(5, a5), (6, a6), (8, a8), (41, a41), (42, m.1), (43, a8), (44, .agg #[])], q.2) h2) := by
 have h := take_m8K call draw a5 a6 a8 a41 H gs;simp only [alM, alU, ldM, stM, stU] at h;exact h
end Go.Sw
end
section
namespace Go.Sw
open Go.RowKit
section
variable {β : Type} {call : Caller} {e : Env} {H : Heap} {gs : Gs}
theorem take_body (call : Caller) (a0 a1 : Value) (H : Heap) : bodyF CI call F.ankr_Take [a0, a1] H = pieceF CI call F.ankr_Take [] [(0, a0), (1, a1)] H none (kDone Prog (resOf Prog F.ankr_Take)) := bodyF_is CI call F.ankr_Take [a0, a1] H (by kernel_rfl)
theorem tF0 (K : Kont β) : pieceF CI call F.ankr_Take [] e H gs K = pieceM CI call F.ankr_Take [0] e H gs (kSeqF (pieceF CI call F.ankr_Take [1]) K) := pieceF_plain (by kernel_rfl) (by kernel_rfl) K
theorem tF1 (K : Kont β) : pieceF CI call F.ankr_Take [1] e H gs K = pieceM CI call F.ankr_Take [1, 0] e H gs (kSeqF (pieceF CI call F.ankr_Take [1, 1]) K) := pieceF_plain (by kernel_rfl) (by kernel_rfl) K
theorem tF2 (K : Kont β) : pieceF CI call F.ankr_Take [1, 1] e H gs K = pieceM CI call F.ankr_Take [1, 1, 0] e H gs (kSeqF (pieceF CI call F.ankr_Take [1, 1, 1]) K) := pieceF_plain (by kernel_rfl) (by kernel_rfl) K
theorem tF3 (K : Kont β) : pieceF CI call F.ankr_Take [1, 1, 1] e H gs K = pieceM CI call F.ankr_Take [1, 1, 1, 0] e H gs (kSeqF (pieceF CI call F.ankr_Take [1, 1, 1, 1]) K) := pieceF_plain (by kernel_rfl) (by kernel_rfl) K
theorem tF4 (K : Kont β) : pieceF CI call F.ankr_Take [1, 1, 1, 1] e H gs K = pieceF CI call F.ankr_Take [1, 1, 1, 1, 0] e H gs (kSeq (pieceK CI call F.ankr_Take [1, 1, 1, 1, 1]) K) := pieceF_range (by kernel_rfl) (by kernel_rfl) K
theorem tF5 (K : Kont β) : pieceF CI call F.ankr_Take [1, 1, 1, 1, 0] e H gs K = pieceM CI call F.ankr_Take [1, 1, 1, 1, 0, 0] e H gs (kSeqF (pieceF CI call F.ankr_Take [1, 1, 1, 1, 0, 1]) K) := pieceF_plain (by kernel_rfl) (by kernel_rfl) K
theorem tF6 (K : Kont β) : pieceF CI call F.ankr_Take [1, 1, 1, 1, 0, 1] e H gs K = pieceF CI call F.ankr_Take [1, 1, 1, 1, 0, 1, 0] e H gs (kBlock 0 K) := pieceF_block (by kernel_rfl) K
noncomputable abbrev takeRound (call : Caller) : Env → Heap → Gs → Res (AExit × Gs) := roundM CI call (runDraw CI call (ntOf Prog F.ankr_Take)) (ntOf Prog F.ankr_Take) (kpS F.ankr_Take) (partOf Prog F.ankr_Take [1, 1, 1, 1, 0, 1, 0, 0]) (partOf Prog F.ankr_Take [1, 1, 1, 1, 0, 1, 0, 1])
theorem tF7 (a4 a5 a6 a32 : Value) (K : Kont β) : pieceF CI call F.ankr_Take [1, 1, 1, 1, 0, 1, 0] [(4, a4), (5, a5), (6, a6), (32, a32)] H gs K =
  ((opt (itS a32 H) H).bind fun l H => rangeM (takeRound call) [33, 34] [(4, a4), (5, a5), (6, a6)] l H gs).bind fun r H' => K r.1 r.2 H' := by kernel_rfl
theorem tM0 (K : KontM β) : pieceM CI call F.ankr_Take [0] e H gs K = pieceK CI call F.ankr_Take [0] e H fun x e H => K x e H gs := pieceM_plain (by kernel_rfl) K
theorem tM1 (K : KontM β) : pieceM CI call F.ankr_Take [1, 0] e H gs K = pieceK CI call F.ankr_Take [1, 0] e H fun x e H => K x e H gs := pieceM_plain (by kernel_rfl) K
theorem tM2 (K : KontM β) : pieceM CI call F.ankr_Take [1, 1, 0] e H gs K = pieceK CI call F.ankr_Take [1, 1, 0] e H fun x e H => K x e H gs := pieceM_plain (by kernel_rfl) K
theorem tM4 (K : KontM β) : pieceM CI call F.ankr_Take [1, 1, 1, 1, 0, 0] e H gs K = pieceK CI call F.ankr_Take [1, 1, 1, 1, 0, 0] e H fun x e H => K x e H gs := pieceM_plain (by kernel_rfl) K
theorem tM5 (K : KontM β) : pieceM CI call F.ankr_Take [1, 1, 1, 1, 0, 1, 0, 0] e H gs K = pieceK CI call F.ankr_Take [1, 1, 1, 1, 0, 1, 0, 0] e H fun x e H => K x e H gs := pieceM_plain (by kernel_rfl) K
theorem tM7 (K : KontM β) : pieceM CI call F.ankr_Take [1, 1, 1, 1, 0, 1, 0, 1, 0, 0, 1] e H gs K = pieceK CI call F.ankr_Take [1, 1, 1, 1, 0, 1, 0, 1, 0, 0, 1] e H fun x e H => K x e H gs := pieceM_plain (by kernel_rfl) K
theorem tM9 (K : KontM β) : pieceM CI call F.ankr_Take [1, 1, 1, 1, 0, 1, 0, 1, 0, 1, 1] e H gs K = pieceK CI call F.ankr_Take [1, 1, 1, 1, 0, 1, 0, 1, 0, 1, 1] e H fun x e H => K x e H gs := pieceM_plain (by kernel_rfl) K
theorem tS0 (K : KontM β) : pieceM CI call F.ankr_Take [1, 1, 1, 1, 0, 1, 0, 1] e H gs K = pieceM CI call F.ankr_Take [1, 1, 1, 1, 0, 1, 0, 1, 0] e H gs fun x e H gs => match x with
  | .exit j => if j == 1 then K .normal e H gs else K (.exit j) e H gs
  | x => K x e H gs := pieceM_block (by kernel_rfl) K
theorem tS1 (K : KontM β) : pieceM CI call F.ankr_Take [1, 1, 1, 1, 0, 1, 0, 1, 0] e H gs K = pieceM CI call F.ankr_Take [1, 1, 1, 1, 0, 1, 0, 1, 0, 0] e H gs (kSeqM (pieceM CI call F.ankr_Take [1, 1, 1, 1, 0, 1, 0, 1, 0, 1]) K) := pieceM_seq (by kernel_rfl) K
theorem tS2 (K : KontM β) : pieceM CI call F.ankr_Take [1, 1, 1, 1, 0, 1, 0, 1, 0, 0] e H gs K = pieceM CI call F.ankr_Take [1, 1, 1, 1, 0, 1, 0, 1, 0, 0, 0] e H gs (kSeqM (pieceM CI call F.ankr_Take [1, 1, 1, 1, 0, 1, 0, 1, 0, 0, 1]) K) := pieceM_seq (by kernel_rfl) K
theorem tS3 (K : KontM β) : pieceM CI call F.ankr_Take [1, 1, 1, 1, 0, 1, 0, 1, 0, 1] e H gs K = pieceM CI call F.ankr_Take [1, 1, 1, 1, 0, 1, 0, 1, 0, 1, 0] e H gs (kSeqM (pieceM CI call F.ankr_Take [1, 1, 1, 1, 0, 1, 0, 1, 0, 1, 1]) K) := pieceM_seq (by kernel_rfl) K
theorem pM3 (a4 a5 : Value) (K : KontM β) : pieceM CI call F.ankr_Take [1, 1, 1, 0] [(4, a4), (5, a5)] H gs K = (endM [4, 5, 6] ((mapMk H gs).bind fun q h1 => (plM (newP [.map none] h1) q.2).bind fun r h2 => (plM (stR 1 r.1 q.1 h2) r.2).bind fun s h3 => .ok ([(4, a4), (5, a5), (6, r.1), (27, q.1)], s.2) h3)).bind fun r H' => K r.1.1 r.1.2 H' r.2 :=
 pieceM_of (take_m3 call _ a4 a5 H gs) K
theorem pM6 (a5 a6 a8 : Value) (K : KontM β) : pieceM CI call F.ankr_Take [1, 1, 1, 1, 0, 1, 0, 1, 0, 0, 0] [(5, a5), (6, a6), (8, a8)] H gs K = (endM [5, 6, 8, 10] ((plM (ld1 a6 H) gs).bind fun m h1 => (mapLk m.1 a8 h1 m.2).bind fun q h2 => (plM (extractR q.1 0 h2) q.2).bind fun x h3 => (plM (extractR q.1 1 h3) x.2).bind fun y h4 => (plM (newP [] h4) y.2).bind fun r h5 => (plM (stR 0 r.1 x.1 h5) r.2).bind fun s h6 =>
   .ok ([(5, a5), (6, a6), (8, a8), (9, r.1), (10, y.1), (35, q.1), (36, m.1), (37, a8), (38, q.1), (39, x.1), (40, y.1)], s.2) h6)).bind fun r H' => K r.1.1 r.1.2 H' r.2 :=
 pieceM_of (take_m6 call _ a5 a6 a8 H gs) K
theorem pM8 (a5 a6 a8 a41 : Value) (K : KontM β) : pieceM CI call F.ankr_Take [1, 1, 1, 1, 0, 1, 0, 1, 0, 1, 0] [(5, a5), (6, a6), (8, a8), (41, a41)] H gs K = (endM [5, 8] ((plM (ld1 a6 H) gs).bind fun m h1 => (mapUp m.1 a8 (.agg #[]) h1 m.2).bind fun q h2 => .ok ([(5, a5), (6, a6), (8, a8), (41, a41), (42, m.1), (43, a8), (44, .agg #[])], q.2) h2)).bind fun r H' => K r.1.1 r.1.2 H' r.2 :=
 pieceM_of (take_m8 call _ a5 a6 a8 a41 H gs) K
end
theorem take_round (k : Nat) (call : Caller) (a4 a5 a6 id at_ : Value) (H : Heap) (gs : Gs) : takeRound call [(4, a4), (5, a5), (6, a6), (33, id), (34, at_)] H gs =
  pieceM CI call F.ankr_Take [1, 1, 1, 1, 0, 1, 0, 1] [(5, a5), (6, a6), (8, at_)] H gs fun x _ H gs => .ok (x, gs) H :=
 roundM_first fun K => by rw [tM5, ankr_Take_p13 k]
theorem round_old (k : Nat) (a4 a5 id : Value) (pM G : Nat) (n : Int) (ks : List Int) (hn : n ∈ ks) (H : Heap) (hM : H.get pM = some ⟨[.map (some G)], 1, false⟩) :
  takeRound (R (T k)) [(4, a4), (5, a5), (6, ptrV pM), (33, id), (34, .int .i64 n)] H (some (G, ks)) = .ok (.normal, some (G, ks)) (H.push ⟨[], 1, false⟩) := by
 rw [take_round k, tS0, tS1, tS2, pM6];have hl : ld1 (ptrV pM) H = .ok (.map (some G)) H := by simp [hM]
 simp only [hl, plM, Res.bind_ok, mapLk, Nat.beq_refl, Bool.and_true, cond_true, decide_eq_true hn];have e0 : ∀ h : Heap, extractR (.tuple #[.agg #[], .bool true]) 0 h = .ok (.agg #[]) h := fun _ => rfl;have e1 : ∀ h : Heap, extractR (.tuple #[.agg #[], .bool true]) 1 h = .ok (.bool true) h := fun _ => rfl;have e2 : newP [] H = .ok (ptrV H.n) (H.push ⟨[], 1, false⟩) := rfl;have e3 : stR 0 (ptrV H.n) (.agg #[]) (H.push ⟨[], 1, false⟩) = .ok undef (H.push ⟨[], 1, false⟩) := by simp
 simp only [e0, e1, e2, e3, Res.bind_ok, endM];show (kSeqM _ _) .normal [(5, a5), (6, ptrV pM), (8, .int .i64 n), (10, .bool true)] _ _ = _;unfold kSeqM;dsimp only;rw [tM7, ankr_Take_p18 k, ankr_Take_p19 k];unfold kSeq;dsimp only;rw [ankr_Take_p20 k, ankr_Take_p21 k];rfl
theorem round_new (k : Nat) (a4 id : Value) (pM pT pB G : Nat) (n : Int) (hn0 : 0 ≤ n ∧ n < 4294967296) (ks : List Int) (hn : n ∉ ks) (tab : Int × List Pt) (d : List Int) (hd : Byt d) (hl : d.length < 2 ^ 31) (H : Heap) (hM : H.get pM = some ⟨[.map (some G)], 1, false⟩) (hT : H.get pT = some ⟨[ptrV pB], 1, false⟩) (hB : H.get pB = some ⟨[tabV tab, lv encB d], 1, false⟩) :
  takeRound (R (T k)) [(4, a4), (5, ptrV pT), (6, ptrV pM), (33, id), (34, .int .i64 n)] H (some (G, ks)) = match (uS d n 4).bind fun m => rowsS d (n + 4) m 4 with
   | some _ => .ok (.normal, some (G, n :: ks)) (H.push ⟨[], 1, false⟩)
   | none => .panic failV (H.push ⟨[], 1, false⟩) := by
 rw [take_round k, tS0, tS1, tS2, pM6];have hl1 : ld1 (ptrV pM) H = .ok (.map (some G)) H := by simp [hM]
 have hM' : (H.push ⟨[], 1, false⟩).get pM = some ⟨[.map (some G)], 1, false⟩ := ((Ext.refl H).push _).get hM;have hT' : (H.push ⟨[], 1, false⟩).get pT = some ⟨[ptrV pB], 1, false⟩ := ((Ext.refl H).push _).get hT;have hB' : (H.push ⟨[], 1, false⟩).get pB = some ⟨[tabV tab, lv encB d], 1, false⟩ := ((Ext.refl H).push _).get hB;have hl2 : ld1 (ptrV pM) (H.push ⟨[], 1, false⟩) = .ok (.map (some G)) (H.push ⟨[], 1, false⟩) := by simp [hM']
 simp only [hl1, plM, Res.bind_ok, mapLk, Nat.beq_refl, Bool.and_true, cond_true, decide_eq_false hn];have e0 : ∀ h : Heap, extractR (.tuple #[.agg #[], .bool false]) 0 h = .ok (.agg #[]) h := fun _ => rfl;have e1 : ∀ h : Heap, extractR (.tuple #[.agg #[], .bool false]) 1 h = .ok (.bool false) h := fun _ => rfl;have e2 : newP [] H = .ok (ptrV H.n) (H.push ⟨[], 1, false⟩) := rfl;have e3 : stR 0 (ptrV H.n) (.agg #[]) (H.push ⟨[], 1, false⟩) = .ok undef (H.push ⟨[], 1, false⟩) := by simp
 simp only [e0, e1, e2, e3, Res.bind_ok, endM];show (kSeqM _ _) .normal [(5, ptrV pT), (6, ptrV pM), (8, .int .i64 n), (10, .bool false)] _ _ = _;unfold kSeqM;dsimp only;rw [tM7, ankr_Take_p18 k, ankr_Take_p19 k];unfold kSeq;dsimp only;rw [ankr_Take_p20 k, ankr_Take_p22 k];have cf : ∀ x y : Res (AExit × Gs), condV (some (.bool false)) x y = y := fun _ _ => rfl;rw [cf];dsimp only;rw [tS3, pM8];simp only [hl2, plM, Res.bind_ok, mapUp, Nat.beq_refl, Bool.and_true, cond_true, decide_eq_false hn, Bool.not_false, endM, Array.size_empty];show (kSeqM _ _) .normal [(5, ptrV pT), (8, .int .i64 n)] _ _ = _;unfold kSeqM;dsimp only;rw [tM9, ankr_Take_p25 k];have hU := fun H' => U32_run k (Sl.lv H' 1 d) hd n (by omega);have hR := fun m H' => Rows_lv k d (n + 4) m 4 (by omega) H';have w1 : IntKind.i64.wrap (n + 4) = n + 4 := wrap_i64 (by omega) (by omega);have vb : veq (vwB d) (vwB d) = true := veq_agg (l := [lv encB d]) fun u hu => by simp at hu; subst hu; exact veq_B d
 cases h : uS d n 4 with
 | none =>
  rw [h] at hU;simp -implicitDefEqProofs (disch := omega) [hT', hB', w1, hU, orF]
 | some m =>
  rw [h] at hU;have hR := hR m;cases h2 : rowsS d (n + 4) m 4 with
  | none =>
   rw [h2] at hR;simp -implicitDefEqProofs (disch := omega) [hT', hB', w1, hU, hR, orF, vb, h2]
  | some r =>
   rw [h2] at hR;simp -implicitDefEqProofs (disch := omega) [hT', hB', w1, hU, hR, orF, vb, h2]
end Go.Sw
end
