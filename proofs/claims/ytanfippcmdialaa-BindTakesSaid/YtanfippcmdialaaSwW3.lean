/-
  Functions' forms, and what is proved of them, part 3.
-/
import Derived.Test.YtanfippcmdialaaSwW2
import Derived.Test.YtanfippcmdialaaSwLib9
import Derived.Test.YtanfippcmdialaaSwCfg
import Derived.Test.YtanfippcmdialaaSwLib8
set_option linter.unusedSimpArgs false
set_option linter.unusedVariables false
set_option linter.unusedSectionVars false
section
namespace Go.Sw
open Go.RowKit
theorem tryV_np {short : TypeId} {call : Caller} {args : List Value} {H : Heap} {v : Value} {H' : Heap} : tryV short call args H ≠ .panic v H' := by
 unfold tryV;split
 ·rename_i g f c;cases call g (f.toList ++ c.toList) H with
  | stuck => simp [Res.bindP]
  | ok a H => simp [Res.bindP]
  | panic a H =>
   simp only [Res.bindP];split
   ·rename_i t xs;cases Nat.beq t short && Nat.beq xs.size 0 <;> simp
   ·simp
 ·simp
theorem Try_R (k : Nat) (f : Value) (H : Heap) : R (T k) F.view_Try [f] H = tryV shortT (R (T k)) [f] H :=
 ((R_sp (t := T k) (T_scott k) (s := tryV shortT) (by kernel_rfl) [f] H).trans (by
  show nrm Mode.no H _ = _;cases h : tryV shortT (R (T k)) [f] H with
  | ok a H => rfl
  | stuck => rfl
  | panic a H => exact absurd h tryV_np))
theorem Try_ok (k : Nat) (g : FuncId) (cap : Array Value) {H H' : Heap} {v : Value} (h : R (T k) g cap.toList H = .ok v H') : R (T k) F.view_Try [.func (.func g) #[] cap] H = .ok (.bool true) H' := by
 rw [Try_R];unfold tryV;simp [h, Res.bindP]
theorem Try_no (k : Nat) (g : FuncId) (cap : Array Value) {H H' : Heap} (h : R (T k) g cap.toList H = .panic failV H') : R (T k) F.view_Try [.func (.func g) #[] cap] H = .ok (.bool false) H' := by
 rw [Try_R];unfold tryV;simp [h, Res.bindP]
end Go.Sw
end
section
namespace Go.Sw
open Go.RowKit
theorem at_run (k : Nat) (p : Pt) (hp : p.ok) (id : Int) (hf : p.first ≤ id) (hi : id ≤ p.last) (H : Heap) : R (T k) F.lookup_part_at [.agg #[.int .i64 p.first, .int .i64 p.last, lv encI p.vals], .int .i64 id] H = .ok (.int .i64 ((p.num id).getD 0)) H := by
 rw [lookup_part_at_R];obtain ⟨x, hx, _⟩ := Pt.num_some hp hf;obtain ⟨h1, h2, h3, h4, h5, h6⟩ := hp;have hl : 0 < p.vals.length := List.length_pos_iff.2 h4;refine nrm_gc ⟨_, ?_, (Ext.refl H).push ⟨[.int .i64 p.first, .int .i64 p.last, lv encI p.vals], 1, false⟩⟩ (.int _ _);unfold Pt.num at hx ⊢;obtain ⟨m, hm⟩ : ∃ m : Int, m = (if (p.vals.length : Int) - 1 < id - p.first then (p.vals.length : Int) - 1 else id - p.first) := ⟨_, rfl⟩
 have hm2 : min (id - p.first) ((p.vals.length : Int) - 1) = m := by rw [hm]; split <;> omega
 rw [hm2] at hx ⊢;have hm0 : 0 ≤ m := by rw [hm]; split <;> omega
 have hix := fun H' => ixS_lv encI_len p.vals .i64 m x hm0 hx H';simp only [hx, Option.getD_some];simp -implicitDefEqProofs (disch := omega) [lookup_part_at, ← hm, hix]
theorem Get_in1_run (k : Nat) {H : Heap} (x : Int × List Pt) (id : Int) (p1 p2 : Nat) (h1 : H.get p1 = some ⟨[tabV x], 1, false⟩) (h2 : H.get p2 = some ⟨[.int .i64 id], 1, false⟩) (j : Nat) (p : Pt) (hj : x.2[j]? = some p) :
  R (T k) F.lookup_Table_Get_in1 [.int .i64 j, .pointer (some ⟨p1, 0, none⟩), .pointer (some ⟨p2, 0, none⟩)] H = .ok (.bool (decide (id ≤ p.last))) H := by
 rw [lookup_Table_Get_in1_R];refine nrm_gc (Pure.of ?_) (.bool _);have i1 := fun H' => ixS_lvN encPt_len x.2 .i64 j p hj H';simp -implicitDefEqProofs (disch := omega) [lookup_Table_Get_in1, h1, h2, i1]
theorem Get_run (k : Nat) (x : Int × List Pt) (hok : ∀ p, p ∈ x.2 → p.ok) (hr : risesS x.2 = true) (id : Int) (hl : x.2.length < 2 ^ 31) (H : Heap) :
  R (T k) F.lookup_Table_Get [tabV x, .int .i64 id] H = .ok (.tuple #[.int .i64 ((getS x.2 id).getD 0), .bool (getS x.2 id).isSome]) H := by
 rw [lookup_Table_Get_R];obtain ⟨fmt, ps⟩ := x;dsimp only at hok hr hl ⊢;have hx : Ext H ((H.push ⟨[tabV (fmt, ps)], 1, false⟩).push ⟨[.int .i64 id], 1, false⟩) := ((Ext.refl H).push _).push _;have hmono : ∀ i j : Nat, i ≤ j → j < ps.length → (ps[i]?).elim false (fun p => decide (id ≤ p.last)) = true → (ps[j]?).elim false (fun p => decide (id ≤ p.last)) = true := by
  intro i j hij hj hi;by_cases he : i = j
  ·subst he; exact hi
  ·obtain ⟨p, hp⟩ : ∃ p, ps[i]? = some p := ⟨_, List.getElem?_eq_getElem (by omega)⟩
   obtain ⟨q, hq⟩ : ∃ q, ps[j]? = some q := ⟨_, List.getElem?_eq_getElem hj⟩
   have h1 := risesS_get hr hok i j p q (by omega) hp hq;have h2 := (hok q (List.mem_of_getElem? hq)).2.1;rw [hp] at hi;rw [hq];simp at hi ⊢;omega
 obtain ⟨i, hfi⟩ := isFirst_ex ps.length (fun j => (ps[j]?).elim false fun p => decide (id ≤ p.last)) hmono
 have hfirst := First_run k ps.length (.func (.func F.lookup_Table_Get_in1) #[] #[.pointer (some ⟨H.n, 0, none⟩), .pointer (some ⟨H.n + 1, 0, none⟩)]) (fun j => (ps[j]?).elim false fun p => decide (id ≤ p.last)) ((H.push ⟨[tabV (fmt, ps)], 1, false⟩).push ⟨[.int .i64 id], 1, false⟩) (by omega)
  (fun j hj => by
   obtain ⟨p, hp⟩ : ∃ p, ps[j]? = some p := ⟨_, List.getElem?_eq_getElem hj⟩
   have := Get_in1_run k (H := (H.push ⟨[tabV (fmt, ps)], 1, false⟩).push ⟨[.int .i64 id], 1, false⟩) (fmt, ps) id H.n (H.n + 1) (by simp) (by simp) j p hp;simp only [callV, List.nil_append, List.cons_append];rw [hp];simpa using this)
  hmono i hfi
 rw [getS_first id i hfi];have hle := hfi.1;by_cases hil : i < ps.length
 ·obtain ⟨p, hp⟩ : ∃ p, ps[i]? = some p := ⟨_, List.getElem?_eq_getElem hil⟩
  have hpok := hok p (List.mem_of_getElem? hp);have hne : ((i : Int) == (ps.length : Int)) = false := by simp; omega
  have i1 := fun H' => ixS_lvN encPt_len ps .i64 i p hp H';have hlast : id ≤ p.last := by
   have := hfi.2.2 i (Nat.le_refl _) hil;simp only [hp] at this;simpa using this
  rw [hp];by_cases hf : p.first ≤ id
  ·have hgt : ¬ p.first > id := by omega
   obtain ⟨y, hy, _⟩ := Pt.num_some hpok hf;have hat := at_run k p hpok id hf hlast ((H.push ⟨[tabV (fmt, ps)], 1, false⟩).push ⟨[.int .i64 id], 1, false⟩);refine nrm_gc ⟨_, ?_, hx⟩ (Flat.tupleL (l := [_, _]) (.cons (.int _ _) (.cons (.bool _) .nil))).alive;simp only [Option.bind_some, if_pos hf];rw [hy] at hat ⊢;simp -implicitDefEqProofs (disch := omega) [lookup_Table_Get, hfirst, hne, i1, hgt, hat]
  ·have hgt : p.first > id := by omega
   refine nrm_gc ⟨_, ?_, hx⟩ (Flat.tupleL (l := [_, _]) (.cons (.int _ _) (.cons (.bool _) .nil))).alive;simp only [Option.bind_some, if_neg hf];simp -implicitDefEqProofs (disch := omega) [lookup_Table_Get, hfirst, hne, i1, hgt]
 ·have e : i = ps.length := by omega
  subst e;refine nrm_gc ⟨_, ?_, hx⟩ (Flat.tupleL (l := [_, _]) (.cons (.int _ _) (.cons (.bool _) .nil))).alive;simp -implicitDefEqProofs (disch := omega) [lookup_Table_Get, hfirst]
end Go.Sw
end
section
namespace Go.Sw
open Go.RowKit
section
variable {α : Type} {enc : α → List Value}
end
section
variable {α : Type} {enc : α → List Value}
theorem Sl.lenL {H : Heap} {m : Nat} {v : Value} {l : List α} (h : Sl H m v enc l) : Go.Sw.lenL v = some l.length := by
 rcases h with rfl | ⟨rfl, rfl | rfl | rfl⟩ | ⟨b, off, cap, k, rfl, _⟩ <;> rfl
theorem Sl.first {H : Heap} {m : Nat} {v : Value} {l : List α} (he : ∀ x, (enc x).length = m) (h : Sl H m v enc l) : firstV m l.length v H = some (rows enc l) := by
 rcases h with rfl | ⟨rfl, rfl | rfl | rfl⟩ | ⟨b, off, cap, k, rfl, hc, hk, hr⟩
 ·exact lv_first he l H
 ·rfl
 ·rfl
 ·rfl
 ·unfold firstV;dsimp only;have hl := rows_length he l;split
  ·rename_i h0;rw [List.length_eq_zero_iff.1 (hl.trans h0)]
  ·rename_i h0;rw [cellsAt_eq, hk, Option.bind_some, hr, if_pos];have := congrArg List.length hr;rw [hl] at this;simp at this;omega
theorem Star.more_own {H0 H H' : Heap} {L : List It} (h : Star H0 H L) {m : Nat} {s : Value} {l : List α} (ho : Own H H' m s enc l) (he : Ext H H') : ∃ o, Star H0 H' (L ++ [itRow o m s enc l]) := by
 obtain ⟨o, h1, h2⟩ := ho.toO;exact ⟨o, h.more_row he h1 fun b hb => ⟨h2 b hb, h1.lt b hb⟩⟩
end
theorem at2_0 (L : List It) (a b : It) : (L ++ [a, b])[L.length]? = some a := by simp
theorem at2_1 (L : List It) (a b : It) : (L ++ [a, b])[L.length + 1]? = some b := by rw [List.getElem?_append_right (by omega)]; simp
theorem set2_0 (L : List It) (a b x : It) : (L ++ [a, b]).set L.length x = L ++ [x, b] := by rw [List.set_append_right _ _ (by omega)]; simp
theorem set2_1 (L : List It) (a b x : It) : (L ++ [a, b]).set (L.length + 1) x = L ++ [a, x] := by rw [List.set_append_right _ _ (by omega)]; simp
theorem take_snoc {α : Type} {l : List α} {j : Nat} {p : α} (h : l[j]? = some p) : l.take (j + 1) = l.take j ++ [p] := by
 rw [List.take_add_one, h]; rfl
theorem nrm_of {H H' : Heap} {r : Res Value} {v : Value} (h : r = .ok v H') : nrm .no H r = .ok v H' := by rw [h]; rfl
theorem Star.join2 {α : Type} {enc : α → List Value} {H0 H : Heap} {L : List It} {o : Option Nat} {m c : Nat} {s : Value} {l : List α} (pre : List Value) (h : Star H0 H (L ++ [itRow o m s enc l, itBlk c ⟨pre ++ [s], 1, false⟩])) : Star H0 H (L ++ [itBox c pre o m enc l]) := by
 have g := h.join L.length (L.length + 1) (L.length + 1) (by omega) (by omega) (at2_0 _ _ _) (at2_1 _ _ _);rw [show L ++ [itRow o m s enc l, itBlk c ⟨pre ++ [s], 1, false⟩] = (L ++ [itRow o m s enc l]) ++ [itBlk c ⟨pre ++ [s], 1, false⟩] by simp, List.take_left' (by simp), set_at_end] at g;exact g
theorem fz_box {n0 : Nat} {H : Heap} {d c e : Nat} {cells r : List Value} {L : List Nat} (hn : n0 ≤ c) (hc : H.get c = some ⟨cells, e, false⟩) (h : mapF (fzV n0 H d) cells = some (r, L)) : fzV n0 H (d + 1) (.pointer (some ⟨c, 0, none⟩)) = some (boxV r.toArray, c :: L) := by
 have h1 : Nat.blt c n0 = false := by
  cases hb : Nat.blt c n0 with
  | false => rfl
  | true => exact absurd (Nat.le_of_ble_eq_true hb) (by omega)
 simp only [fzV, h1, cond_false, hc, List.drop_zero, h];rfl
theorem mapF_one {f : Value → Option (Value × List Nat)} {v u : Value} {L : List Nat} (h : f v = some (u, L)) : mapF f [v] = some ([u], L) := by
 have := mapF_cons (f := f) h mapF_nil;simpa using this
end Go.Sw
end
section
set_option maxRecDepth 100000
set_option linter.unusedVariables false
namespace Go.Sw
noncomputable section
def line_New_l1 (k : Nat) (call : Caller) : Env → Heap → Res (AExit × Env) := loopB (C k) call F.line_New [1, 1, 0, 1, 0, 0]
def line_New_l1k (k : Nat) (call : Caller) : Kont Value := kBlock 0 (kSeq (pieceK (C k) call F.line_New [1, 1, 1]) (kDone Prog (resOf Prog F.line_New)))
def line_New (k : Nat) (call : Caller) (a0 : Value) (h : Heap) : Res Value :=
 (buildR Prog 164 [] h).bind fun v1 h2 =>
 (boxR v1 h2).bind fun v3 h4 =>
 (builtinV Prog .len [23] [a0] h4).bind fun v5 h6 =>
 (loopN (line_New_l1 k call) loopFuel [(3, v3), (8, a0), (9, v5), (10, (.int .i64 0))] h6).bind fun r7 h8 =>
 line_New_l1k k call r7.1 r7.2 h8
theorem line_New_R (k : Nat) (a0 : Value) (h : Heap) : R (T k) F.line_New [a0] h = nrm .no h (line_New k (R (T k)) a0 h) :=
 (R_body (t := T k) (T_scott k) (by kernel_rfl) (by kernel_rfl) _ _).trans (by kernel_rfl)
theorem line_New_l1_eq (k : Nat) (call : Caller) (a3 a8 a9 a10 : Value) (h : Heap) : line_New_l1 k call [(3, a3), (8, a8), (9, a9), (10, a10)] h =
 (binR Prog .lss 3 a10 a9 h).bind fun v9 h10 =>
 condV (some v9) (
 (indexAddrR Prog 23 a8 a10 h10).bind fun v11 h12 =>
 (loadR Prog 3 v11 h12).bind fun v13 h14 =>
 (nilR a3 h14).bind fun v15 h16 =>
 (fieldAddrR Prog 164 v15 0 h16).bind fun v17 h18 =>
 (loadR Prog 22 v17 h18).bind fun v19 h20 =>
 (buildR Prog 57 [(0, v13), (1, a10)] h20).bind fun v21 h22 =>
 (buildSliceR Prog 22 1 [(0, v21)] h22).bind fun v23 h24 =>
 (builtinV Prog .append [22, 22] [v19, v23] h24).bind fun v25 h26 =>
 (nilR a3 h26).bind fun v27 h28 =>
 (fieldAddrR Prog 164 v27 0 h28).bind fun v29 h30 =>
 (storeR Prog 22 v29 v25 h30).bind fun _v31 h32 =>
 (binR Prog .add 3 a10 (.int .i64 1) h32).bind fun v33 h34 =>
 .ok (.normal, [(3, a3), (8, a8), (9, a9), (10, v33)]) h34)
 (
 .ok ((.exit 0), [(3, a3), (8, a8), (9, a9), (10, a10), (11, v9)]) h10) :=
 (loopB_eq _ _).trans (by kernel_rfl)
theorem line_New_l1k_x0 (k : Nat) (call : Caller) (a3 a8 a9 a10 a11 : Value) (h : Heap) : line_New_l1k k call (.exit 0) [(3, a3), (8, a8), (9, a9), (10, a10), (11, a11)] h =
 .ok a3 h := by kernel_rfl
def line_Line_Len (k : Nat) (call : Caller) (a0 : Value) (h : Heap) : Res Value :=
 (nilR a0 h).bind fun v1 h2 =>
 (fieldAddrR Prog 164 v1 0 h2).bind fun v3 h4 =>
 (loadR Prog 22 v3 h4).bind fun v5 h6 =>
 (builtinV Prog .len [22] [v5] h6).bind fun v7 h8 =>
 .ok v7 h8
theorem line_Line_Len_R (k : Nat) (a0 : Value) (h : Heap) : R (T k) F.line_Line_Len [a0] h = nrm .gc h (line_Line_Len k (R (T k)) a0 h) :=
 (R_body (t := T k) (T_scott k) (by kernel_rfl) (by kernel_rfl) _ _).trans (by kernel_rfl)
def line_Line_At (k : Nat) (call : Caller) (a0 a1 : Value) (h : Heap) : Res Value :=
 (allocR Prog 57 h).bind fun v1 h2 =>
 (call F.line_Line_in [a0, a1] h2).bind fun v3 h4 =>
 (unR .not v3 h4).bind fun v5 h6 =>
 condV (some v5) (
 (buildR Prog 57 [] h6).bind fun v7 h8 =>
 (storeR Prog 57 v1 v7 h8).bind fun _v9 h10 =>
 (loadR Prog 57 v1 h10).bind fun v11 h12 =>
 .ok (.tuple #[v11, (.bool false)]) h12)
 (
 (nilR a0 h6).bind fun v13 h14 =>
 (fieldAddrR Prog 164 v13 0 h14).bind fun v15 h16 =>
 (loadR Prog 22 v15 h16).bind fun v17 h18 =>
 (indexAddrR Prog 22 v17 a1 h18).bind fun v19 h20 =>
 (loadR Prog 57 v19 h20).bind fun v21 h22 =>
 (storeR Prog 57 v1 v21 h22).bind fun _v23 h24 =>
 (loadR Prog 57 v1 h24).bind fun v25 h26 =>
 .ok (.tuple #[v25, (.bool true)]) h26)
theorem line_Line_At_R (k : Nat) (a0 a1 : Value) (h : Heap) : R (T k) F.line_Line_At [a0, a1] h = nrm .gc h (line_Line_At k (R (T k)) a0 a1 h) :=
 (R_body (t := T k) (T_scott k) (by kernel_rfl) (by kernel_rfl) _ _).trans (by kernel_rfl)
def line_Line_in (k : Nat) (call : Caller) (a0 a1 : Value) (h : Heap) : Res Value :=
 (binR Prog .geq 3 a1 (.int .i64 0) h).bind fun v1 h2 =>
 ((bif wantVal v1 true then Res.ok a1 h2 else Res.ok undef h2)).bind fun v3 h4 =>
 ((bif wantVal v1 true then Res.ok a0 h4 else Res.ok undef h4)).bind fun v5 h6 =>
 ((bif wantVal v1 true then nilR v5 h6 else Res.ok undef h6)).bind fun v7 h8 =>
 ((bif wantVal v1 true then fieldAddrR Prog 164 v7 0 h8 else Res.ok undef h8)).bind fun v9 h10 =>
 ((bif wantVal v1 true then loadR Prog 22 v9 h10 else Res.ok undef h10)).bind fun v11 h12 =>
 ((bif wantVal v1 true then builtinV Prog .len [22] [v11] h12 else Res.ok undef h12)).bind fun v13 h14 =>
 ((bif wantVal v1 true then binR Prog .lss 3 v3 v13 h14 else Res.ok undef h14)).bind fun v15 h16 =>
 (condV (some v1) (Res.ok v15 h16) (Res.ok (.bool false) h16)).bind fun v17 h18 =>
 .ok v17 h18
theorem line_Line_in_R (k : Nat) (a0 a1 : Value) (h : Heap) : R (T k) F.line_Line_in [a0, a1] h = nrm .gc h (line_Line_in k (R (T k)) a0 a1 h) :=
 (R_body (t := T k) (T_scott k) (by kernel_rfl) (by kernel_rfl) _ _).trans (by kernel_rfl)
end
end Go.Sw
end
section
set_option maxRecDepth 100000
set_option linter.unusedVariables false
namespace Go.Sw
noncomputable section
def slices_Clone_of_api_Glyph_api_Glyph (k : Nat) (call : Caller) (a0 : Value) (h : Heap) : Res Value :=
 (binR Prog .eql 22 a0 (.slice none 0 0) h).bind fun v1 h2 =>
 condV (some v1) (
 .ok (.slice none 0 0) h2)
 (
 (buildSliceR Prog 22 0 [] h2).bind fun v3 h4 =>
 (builtinV Prog .append [22, 22] [v3, a0] h4).bind fun v5 h6 =>
 .ok v5 h6)
theorem slices_Clone_of_api_Glyph_api_Glyph_body (k : Nat) (sp : FuncId → Option Sp) (call : Caller) (a0 : Value) (h : Heap) : bodyK { P := Prog, kp := kpS, sp := sp } call F.slices_Clone_of_api_Glyph_api_Glyph [a0] h = slices_Clone_of_api_Glyph_api_Glyph k call a0 h := by kernel_rfl
def slices_Clone_of_api_Place_api_Place (k : Nat) (call : Caller) (a0 : Value) (h : Heap) : Res Value :=
 (binR Prog .eql 98 a0 (.slice none 0 0) h).bind fun v1 h2 =>
 condV (some v1) (
 .ok (.slice none 0 0) h2)
 (
 (buildSliceR Prog 98 0 [] h2).bind fun v3 h4 =>
 (builtinV Prog .append [98, 98] [v3, a0] h4).bind fun v5 h6 =>
 .ok v5 h6)
theorem slices_Clone_of_api_Place_api_Place_body (k : Nat) (sp : FuncId → Option Sp) (call : Caller) (a0 : Value) (h : Heap) : bodyK { P := Prog, kp := kpS, sp := sp } call F.slices_Clone_of_api_Place_api_Place [a0] h = slices_Clone_of_api_Place_api_Place k call a0 h := by kernel_rfl
def slices_Clone_of_sfnt_Part_sfnt_Part (k : Nat) (call : Caller) (a0 : Value) (h : Heap) : Res Value :=
 (binR Prog .eql 142 a0 (.slice none 0 0) h).bind fun v1 h2 =>
 condV (some v1) (
 .ok (.slice none 0 0) h2)
 (
 (buildSliceR Prog 142 0 [] h2).bind fun v3 h4 =>
 (builtinV Prog .append [142, 142] [v3, a0] h4).bind fun v5 h6 =>
 .ok v5 h6)
theorem slices_Clone_of_sfnt_Part_sfnt_Part_body (k : Nat) (sp : FuncId → Option Sp) (call : Caller) (a0 : Value) (h : Heap) : bodyK { P := Prog, kp := kpS, sp := sp } call F.slices_Clone_of_sfnt_Part_sfnt_Part [a0] h = slices_Clone_of_sfnt_Part_sfnt_Part k call a0 h := by kernel_rfl
end
end Go.Sw
end
section
set_option maxRecDepth 100000
set_option linter.unusedVariables false
namespace Go.Sw
noncomputable section
end
end Go.Sw
end
section
namespace Go.Sw
open Go.RowKit
structure Gl where
 id : Int
 cl : Int
deriving DecidableEq
abbrev encG (g : Gl) : List Value := [.int .i64 g.id, .int .i64 g.cl]
theorem encG_len (g : Gl) : (encG g).length = 2 := rfl
abbrev itLine (c : Nat) (o : Option Nat) (l : List Gl) : It := itBox c [] o 2 encG l
abbrev ptrV (c : Nat) : Value := .pointer (some ⟨c, 0, none⟩)
theorem lineLen_run (k : Nat) {H0 H : Heap} {L : List It} (h : Star H0 H L) (i : Nat) {c : Nat} {o : Option Nat} {l : List Gl} (hi : L[i]? = some (itLine c o l)) : R (T k) F.line_Line_Len [ptrV c] H = .ok (.int .i64 l.length) H := by
 obtain ⟨_, s, h1, h2⟩ := h.box i hi;rw [line_Line_Len_R];refine nrm_gc ⟨H, ?_, Ext.refl H⟩ (.int _ _);simp at h1;simp -implicitDefEqProofs [line_Line_Len, h1, h2.len]
theorem lineIn_run (k : Nat) {H0 H : Heap} {L : List It} (h : Star H0 H L) (i : Nat) {c : Nat} {o : Option Nat} {l : List Gl} (hi : L[i]? = some (itLine c o l)) {H' : Heap} (hx : Ext H H') (j : Int) :
  R (T k) F.line_Line_in [ptrV c, .int .i64 j] H' = .ok (.bool (decide (0 ≤ j ∧ j < l.length))) H' := by
 obtain ⟨_, s, h1, h2⟩ := h.box i hi;simp at h1;have h1 := hx.get h1;rw [line_Line_in_R];refine nrm_gc ⟨H', ?_, Ext.refl H'⟩ (.bool _);by_cases hj : j ≥ 0
 ·simp -implicitDefEqProofs [line_Line_in, h1, h2.len, hj]
 ·simp -implicitDefEqProofs [line_Line_in, hj]
def atG (l : List Gl) (j : Int) : Option Gl := if 0 ≤ j ∧ j < l.length then l[j.toNat]? else none
def encA (o : Option Gl) : Value := .agg (encG (o.getD ⟨0, 0⟩)).toArray
theorem lineAt_run (k : Nat) {H0 H : Heap} {L : List It} (h : Star H0 H L) (i : Nat) {c : Nat} {o : Option Nat} {l : List Gl} (hi : L[i]? = some (itLine c o l)) (j : Int) :
  R (T k) F.line_Line_At [ptrV c, .int .i64 j] H = .ok (.tuple #[encA (atG l j), .bool (atG l j).isSome]) H := by
 obtain ⟨_, s, h1, h2⟩ := h.box i hi;simp at h1;have hx : Ext H (H.push ⟨[.int .i64 0, .int .i64 0], 1, false⟩) := (Ext.refl H).push _;have hin := lineIn_run k h i hi hx j;have hcn : ¬ c = H.n := by have := Heap.get_lt h1; omega
 rw [line_Line_At_R];have hfl : ∀ o, Flat (.tuple #[encA o, .bool o.isSome]) := fun o => .tupleL (.cons (.aggL (.cons (.int _ _) (.cons (.int _ _) .nil))) (.cons (.bool _) .nil));unfold atG;by_cases hj : 0 ≤ j ∧ j < l.length
 ·obtain ⟨n, rfl⟩ := Int.eq_ofNat_of_zero_le hj.1;obtain ⟨g, hg⟩ : ∃ g, l[n]? = some g := ⟨_, List.getElem?_eq_getElem (by omega)⟩
  obtain ⟨b, rfl, hs, hb, i1⟩ := h2.ix .i64 n (by omega);have hbn : ¬ b = H.n := by have := Heap.get_lt hb; omega
  have hld := fun (H' : Heap) (hH : H'.get b = some ⟨rows encG l, 2, false⟩) => ldA_row encG_len hH hg;rw [if_pos hj, Int.toNat_natCast, hg];refine nrm_gc ⟨H.push ⟨encG g, 1, false⟩, ?_, (Ext.refl H).push _⟩ (hfl (some g)).alive;have e2 : ldA 2 (.pointer (some ⟨H.n, 0, none⟩)) (H.push ⟨encG g, 1, false⟩) = .ok (.agg (encG g).toArray) (H.push ⟨encG g, 1, false⟩) := by simp
  rw [decide_eq_true hj] at hin;have e1 := hld (H.push ⟨[.int .i64 0, .int .i64 0], 1, false⟩) (by rw [get_push_ne _ _ _ hbn]; exact hb);simp -implicitDefEqProofs [-ldA_ptr, line_Line_At, hin, h1, hcn, i1, e1, e2];rfl
 ·rw [if_neg hj];refine nrm_gc ⟨_, ?_, hx⟩ (hfl none).alive;rw [decide_eq_false hj] at hin;simp -implicitDefEqProofs [line_Line_At, hin];rfl
def newG (ids : List Int) : List Gl := ids.zipIdx.map fun x => ⟨x.1, (x.2 : Nat)⟩
@[simp] theorem newG_len (ids : List Int) : (newG ids).length = ids.length := by simp [newG]
theorem newG_snoc (ids : List Int) (x : Int) : newG (ids ++ [x]) = newG ids ++ [⟨x, (ids.length : Nat)⟩] := by simp [newG, List.zipIdx_append]
theorem lineNew_star (k : Nat) {H0 H : Heap} {L : List It} (h : Star H0 H L) (ids : List Int) (hl : ids.length < 2 ^ 31) :
  ∃ c o H', R (T k) F.line_New [lv encI ids] H = .ok (ptrV c) H' ∧ Star H0 H' (L ++ [itLine c o (newG ids)]) := by
 have g := (h.more_row (Ext.refl _) (OwnO.nil encG _ 2) (fun b hb => by cases hb)).push ⟨[.slice none 0 0], 1, false⟩;rw [List.append_assoc] at g
 obtain ⟨x, e', H1, hr, rfl, ⟨a, rfl⟩, s, o, g⟩ := loop_up (body := line_New_l1 k (R (T k))) ids.length
  (fun j e H' => e = [(3, ptrV H.n), (8, lv encI ids), (9, .int .i64 ids.length), (10, .int .i64 j)] ∧ ∃ s o, Star H0 H' (L ++ [itRow o 2 s encG (newG (ids.take j)), itBlk H.n ⟨[s], 1, false⟩]))
  (fun x e H' => x = .exit 0 ∧ (∃ a, e = [(3, ptrV H.n), (8, lv encI ids), (9, .int .i64 ids.length), (10, .int .i64 ids.length), (11, a)]) ∧ ∃ s o, Star H0 H' (L ++ [itRow o 2 s encG (newG ids), itBlk H.n ⟨[s], 1, false⟩]))
  (e0 := [(3, ptrV H.n), (8, lv encI ids), (9, .int .i64 ids.length), (10, .int .i64 0)]) (H0 := H.push ⟨[.slice none 0 0], 1, false⟩) ⟨rfl, _, _, g⟩ (by omega)
  (fun j e H' hj ⟨he, s, o, g⟩ => by
   subst he;have hlt : (j : Int) < ids.length := by omega
   obtain ⟨x, hx⟩ : ∃ x, ids[j]? = some x := ⟨_, List.getElem?_eq_getElem hj⟩
   have i1 := fun H' => ixS_lvN encI_len ids .i64 j x hx H';have hc := g.get (L.length + 1) (at2_1 _ _ _);have hcn : ¬ H.n = H'.n := by have := Heap.get_lt hc; omega
   obtain ⟨s', o', H2, e1, g⟩ := g.append1 (bytes := 16) L.length encG_len (at2_0 _ _ _) (⟨x, (j : Nat)⟩ : Gl) (by simp; omega) (by decide);rw [set2_0] at g;have hc2 := g.get (L.length + 1) (at2_1 _ _ _);have st := (g.row L.length (at2_0 _ _ _)).storable;have ce := (g.row L.length (at2_0 _ _ _)).cells;have g := g.setBlk (L.length + 1) (at2_1 _ _ _) ⟨[s'], 1, false⟩;rw [set2_1] at g;refine .inl ⟨_, _, ?_, rfl, s', o', by rw [take_snoc hx, newG_snoc, List.length_take, Nat.min_eq_left (by omega)]; exact g⟩;rw [line_New_l1_eq];have e1 : apR 2 16 s (.slice (some ⟨H'.n, 0, none⟩) 1 1) (H'.push ⟨[.int .i64 x, .int .i64 (j : Nat)], 2, false⟩) = .ok s' H2 := e1;simp -implicitDefEqProofs (disch := omega) [hlt, i1, hc, hcn, e1, hc2, st, ce])
  (fun e H' ⟨he, s, o, g⟩ => by
   subst he;refine ⟨.exit 0, _, H', ?_, by simp, rfl, ⟨.bool false, rfl⟩, s, o, by simpa using g⟩;rw [line_New_l1_eq];simp -implicitDefEqProofs)
 have g := Star.join2 [] g;refine ⟨H.n, o, H1, ?_, g⟩;rw [line_New_R];refine nrm_of ?_;simp -implicitDefEqProofs [line_New, hr, line_New_l1k_x0]
end Go.Sw
end
section
set_option maxRecDepth 100000
set_option linter.unusedVariables false
namespace Go.Sw
noncomputable section
def state_Take_l1 (k : Nat) (call : Caller) : Env → Heap → Res (AExit × Env) := loopB (C k) call F.state_Take [1, 1, 1, 1, 1, 1, 0, 0, 0]
def state_Take_l1k (k : Nat) (call : Caller) : Kont Value := kBlock 0 (kSeq (pieceK (C k) call F.state_Take [1, 1, 1, 1, 1, 1, 1]) (kDone Prog (resOf Prog F.state_Take)))
def state_Take_l2 (k : Nat) (call : Caller) : Env → Heap → Res (AExit × Env) := loopB (C k) call F.state_Take [1, 1, 1, 1, 1, 1, 0, 0, 0, 1, 0, 0, 0, 0]
def state_Take_l2k (k : Nat) (call : Caller) : Kont (AExit × Env) := kBlock 2 (kSeq (pieceK (C k) call F.state_Take [1, 1, 1, 1, 1, 1, 0, 0, 0, 1, 0, 1]) (kBlock 1 (kRound (ownOf (C k) F.state_Take [1, 1, 1, 1, 1, 1, 0, 0, 0]))))
def state_Take_l3 (k : Nat) (call : Caller) : Env → Heap → Res (AExit × Env) := loopB (C k) call F.state_Take [1, 1, 1, 1, 1, 1, 0, 0, 0, 1, 0, 1, 0, 0]
def state_Take_l3k (k : Nat) (call : Caller) : Kont (AExit × Env) := kBlock 4 (kBlock 1 (kRound (ownOf (C k) F.state_Take [1, 1, 1, 1, 1, 1, 0, 0, 0])))
def state_Take (k : Nat) (call : Caller) (a0 a1 a2 : Value) (h : Heap) : Res Value :=
 (boxR a0 h).bind fun v1 h2 =>
 (loadR Prog 75 v1 h2).bind fun v3 h4 =>
 (call F.view_View_U32 [v3, (.int .i64 0)] h4).bind fun v5 h6 =>
 (binR Prog .geq 3 v5 (.int .i64 4) h6).bind fun v7 h8 =>
 ((bif wantVal v7 true then Res.ok v5 h8 else Res.ok undef h8)).bind fun v9 h10 =>
 ((bif wantVal v7 true then binR Prog .leq 3 v9 (.int .i64 65535) h10 else Res.ok undef h10)).bind fun v11 h12 =>
 (condV (some v7) (Res.ok v11 h12) (Res.ok (.bool false) h12)).bind fun v13 h14 =>
 (call F.view_Need [v13] h14).bind fun v15 h16 =>
 (loadR Prog 75 v1 h16).bindN fun v17 h18 =>
 (loadR Prog 75 v1 h18).bindN fun v19 h20 =>
 (call F.view_View_U32 [v19, (.int .i64 4)] h20).bindT (fun p23 h24 => .panic p23 h24) fun v21 h22 =>
 (call F.view_View_Rest [v17, v21] h22).bindT (fun p27 h28 => chkR ((okVal (loadR Prog 75 v1 h22) v17 && true) && true) (.panic p27 h28)) fun v25 h26 =>
 (call F.lookup_Take [v25, a1, (.int .i64 2)] h26).bindT (fun p31 h32 => chkR ((okVal (loadR Prog 75 v1 h22) v17 && true) && true) (.panic p31 h32)) fun v29 h30 =>
 (buildR Prog 276 [(0, v5), (1, v29)] h30).bindN fun v33 h34 =>
 (boxR v33 h34).bindN fun v35 h36 =>
 chkR ((okVal (loadR Prog 75 v1 h22) v17 && true) && true) (
 (loadR Prog 75 v1 h36).bindN fun v37 h38 =>
 (loadR Prog 75 v1 h38).bindN fun v39 h40 =>
 (call F.view_View_U32 [v39, (.int .i64 8)] h40).bindT (fun p43 h44 => (loadR Prog 75 v1 h40).bindN fun v45 h46 => (loadR Prog 75 v1 h46).bindN fun v47 h48 => (allocR Prog 278 h48).bindN fun v49 h50 => chkR ((okVal (loadR Prog 75 v1 h36) v45 && true) && ((okVal (loadR Prog 75 v1 h36) v47 && true) && true)) (.panic p43 h44)) fun v41 h42 =>
 (call F.view_View_Rest [v37, v41] h42).bindT (fun p53 h54 => (loadR Prog 75 v1 h42).bindN fun v55 h56 => (loadR Prog 75 v1 h56).bindN fun v57 h58 => (allocR Prog 278 h58).bindN fun v59 h60 => chkR ((okVal (loadR Prog 75 v1 h42) v37 && true) && ((okVal (loadR Prog 75 v1 h36) v55 && (okVal (loadR Prog 75 v1 h42) v55 && true)) && ((okVal (loadR Prog 75 v1 h36) v57 && (okVal (loadR Prog 75 v1 h42) v57 && true)) && true))) (.panic p53 h54)) fun v51 h52 =>
 (loadR Prog 75 v1 h52).bindN fun v61 h62 =>
 (loadR Prog 75 v1 h62).bindN fun v63 h64 =>
 (call F.view_View_U32 [v63, (.int .i64 12)] h64).bindT (fun p67 h68 => (allocR Prog 278 h64).bindN fun v69 h70 => chkR ((okVal (loadR Prog 75 v1 h42) v37 && true) && ((okVal (loadR Prog 75 v1 h36) v61 && (okVal (loadR Prog 75 v1 h42) v61 && true)) && ((okVal (loadR Prog 75 v1 h36) v63 && (okVal (loadR Prog 75 v1 h42) v63 && true)) && true))) (.panic p67 h68)) fun v65 h66 =>
 (call F.view_View_Rest [v61, v65] h66).bindT (fun p73 h74 => (allocR Prog 278 h66).bindN fun v75 h76 => chkR ((okVal (loadR Prog 75 v1 h42) v37 && true) && ((okVal (loadR Prog 75 v1 h36) v61 && (okVal (loadR Prog 75 v1 h42) v61 && (okVal (loadR Prog 75 v1 h66) v61 && true))) && ((okVal (loadR Prog 75 v1 h36) v63 && (okVal (loadR Prog 75 v1 h42) v63 && true)) && true))) (.panic p73 h74)) fun v71 h72 =>
 (buildR Prog 278 [(0, v35), (1, v51), (2, v71), (3, a2)] h72).bindN fun v77 h78 =>
 (allocR Prog 278 h78).bindN fun v79 h80 =>
 (storeR Prog 278 v79 v77 h80).bindN fun _v81 h82 =>
 chkR ((okVal (loadR Prog 75 v1 h42) v37 && true) && ((okVal (loadR Prog 75 v1 h36) v61 && (okVal (loadR Prog 75 v1 h42) v61 && (okVal (loadR Prog 75 v1 h66) v61 && true))) && ((okVal (loadR Prog 75 v1 h36) v63 && (okVal (loadR Prog 75 v1 h42) v63 && true)) && true))) (
 (loopN (state_Take_l1 k call) loopFuel [(8, v35), (9, v79), (10, (.int .i64 2)), (11, (.int .i64 0))] h82).bind fun r83 h84 =>
 state_Take_l1k k call r83.1 r83.2 h84))
theorem state_Take_R (k : Nat) (a0 a1 a2 : Value) (h : Heap) : R (T k) F.state_Take [a0, a1, a2] h = nrm .fz h (state_Take k (R (T k)) a0 a1 a2 h) :=
 (R_body (t := T k) (T_scott k) (by kernel_rfl) (by kernel_rfl) _ _).trans (by kernel_rfl)
theorem state_Take_l1_eq (k : Nat) (call : Caller) (a8 a9 a10 a11 : Value) (h : Heap) : state_Take_l1 k call [(8, a8), (9, a9), (10, a10), (11, a11)] h =
 (nilR a8 h).bind fun v85 h86 =>
 (fieldAddrR Prog 276 v85 2 h86).bind fun v87 h88 =>
 (loadR Prog 274 v87 h88).bind fun v89 h90 =>
 (builtinV Prog .len [274] [v89] h90).bind fun v91 h92 =>
 (binR Prog .lss 3 v91 a10 h92).bind fun v93 h94 =>
 ((bif wantVal v93 false then Res.ok a8 h94 else Res.ok undef h94)).bind fun v95 h96 =>
 ((bif wantVal v93 false then nilR v95 h96 else Res.ok undef h96)).bind fun v97 h98 =>
 ((bif wantVal v93 false then fieldAddrR Prog 276 v97 3 h98 else Res.ok undef h98)).bind fun v99 h100 =>
 ((bif wantVal v93 false then loadR Prog 102 v99 h100 else Res.ok undef h100)).bind fun v101 h102 =>
 ((bif wantVal v93 false then builtinV Prog .len [102] [v101] h102 else Res.ok undef h102)).bind fun v103 h104 =>
 ((bif wantVal v93 false then Res.ok a11 h104 else Res.ok undef h104)).bind fun v105 h106 =>
 ((bif wantVal v93 false then binR Prog .lss 3 v103 v105 h106 else Res.ok undef h106)).bind fun v107 h108 =>
 (condV (some v93) (Res.ok (.bool true) h108) (Res.ok v107 h108)).bind fun v109 h110 =>
 condV (some v109) (
 (loopN (state_Take_l2 k call) loopFuel [(8, a8), (9, a9), (10, a10), (11, a11)] h110).bind fun r111 h112 =>
 state_Take_l2k k call r111.1 r111.2 h112)
 (
 .ok ((.exit 0), [(8, a8), (9, a9), (10, a10), (11, a11), (56, v109)]) h110) :=
 (loopB_eq _ _).trans (by kernel_rfl)
theorem state_Take_l2_eq (k : Nat) (call : Caller) (a8 a9 a10 a11 : Value) (h : Heap) : state_Take_l2 k call [(8, a8), (9, a9), (10, a10), (11, a11)] h =
 (nilR a8 h).bind fun v113 h114 =>
 (fieldAddrR Prog 276 v113 2 h114).bind fun v115 h116 =>
 (loadR Prog 274 v115 h116).bind fun v117 h118 =>
 (builtinV Prog .len [274] [v117] h118).bind fun v119 h120 =>
 (binR Prog .lss 3 v119 a10 h120).bind fun v121 h122 =>
 condV (some v121) (
 (loadR Prog 278 a9 h122).bind fun v123 h124 =>
 (call F.state_reader_row [v123] h124).bind fun v125 h126 =>
 (builtinV Prog .max [3, 3] [a11, v125] h126).bind fun v127 h128 =>
 .ok (.normal, [(8, a8), (9, a9), (10, a10), (11, v127)]) h128)
 (
 .ok ((.exit 2), [(8, a8), (9, a9), (10, a10), (11, a11), (63, v121)]) h122) :=
 (loopB_eq _ _).trans (by kernel_rfl)
theorem state_Take_l1k_x0 (k : Nat) (call : Caller) (a8 a9 a10 a11 a56 : Value) (h : Heap) : state_Take_l1k k call (.exit 0) [(8, a8), (9, a9), (10, a10), (11, a11), (56, a56)] h =
 .ok a8 h := by kernel_rfl
theorem state_Take_l2k_x2 (k : Nat) (call : Caller) (a8 a9 a10 a11 a63 : Value) (h : Heap) : state_Take_l2k k call (.exit 2) [(8, a8), (9, a9), (10, a10), (11, a11), (63, a63)] h =
 (loopN (state_Take_l3 k call) loopFuel [(8, a8), (9, a9), (10, a10), (11, a11)] h).bind fun r129 h130 =>
 state_Take_l3k k call r129.1 r129.2 h130 := by kernel_rfl
theorem state_Take_l3_eq (k : Nat) (call : Caller) (a8 a9 a10 a11 : Value) (h : Heap) : state_Take_l3 k call [(8, a8), (9, a9), (10, a10), (11, a11)] h =
 (nilR a8 h).bind fun v131 h132 =>
 (fieldAddrR Prog 276 v131 3 h132).bind fun v133 h134 =>
 (loadR Prog 102 v133 h134).bind fun v135 h136 =>
 (builtinV Prog .len [102] [v135] h136).bind fun v137 h138 =>
 (binR Prog .lss 3 v137 a11 h138).bind fun v139 h140 =>
 condV (some v139) (
 (loadR Prog 278 a9 h140).bind fun v141 h142 =>
 (call F.state_reader_entry [v141] h142).bind fun v143 h144 =>
 (builtinV Prog .max [3, 3] [a10, v143] h144).bind fun v145 h146 =>
 .ok (.normal, [(8, a8), (9, a9), (10, v145), (11, a11)]) h146)
 (
 .ok ((.exit 4), [(8, a8), (9, a9), (10, a10), (11, a11), (74, v139)]) h140) :=
 (loopB_eq _ _).trans (by kernel_rfl)
theorem state_Take_l3k_x4 (k : Nat) (call : Caller) (a8 a9 a10 a11 a74 : Value) (h : Heap) : state_Take_l3k k call (.exit 4) [(8, a8), (9, a9), (10, a10), (11, a11), (74, a74)] h =
 .ok (.normal, [(8, a8), (9, a9), (10, a10), (11, a11)]) h := by kernel_rfl
def state_Machine_Entries (k : Nat) (call : Caller) (a0 : Value) (h : Heap) : Res Value :=
 (buildSliceR Prog 102 0 [] h).bind fun v1 h2 =>
 (nilR a0 h2).bind fun v3 h4 =>
 (fieldAddrR Prog 276 v3 3 h4).bind fun v5 h6 =>
 (loadR Prog 102 v5 h6).bind fun v7 h8 =>
 (builtinV Prog .append [102, 102] [v1, v7] h8).bind fun v9 h10 =>
 .ok v9 h10
theorem state_Machine_Entries_R (k : Nat) (a0 : Value) (h : Heap) : R (T k) F.state_Machine_Entries [a0] h = nrm (own k) h (state_Machine_Entries k (R (T k)) a0 h) :=
 (R_body (t := T k) (T_scott k) (by kernel_rfl) (by kernel_rfl) _ _).trans (by kernel_rfl)
def state_reader_row_l1 (k : Nat) (call : Caller) : Env → Heap → Res (AExit × Env) := loopB (C k) call F.state_reader_row [1, 1, 1, 1, 1, 0, 1, 0, 0]
def state_reader_row_l1k (k : Nat) (call : Caller) : Kont Value := kBlock 0 (kSeq (pieceK (C k) call F.state_reader_row [1, 1, 1, 1, 1, 1]) (kDone Prog (resOf Prog F.state_reader_row)))
def state_reader_row (k : Nat) (call : Caller) (a0 : Value) (h : Heap) : Res Value :=
 (boxR a0 h).bind fun v1 h2 =>
 (fieldAddrR Prog 278 v1 0 h2).bind fun v3 h4 =>
 (loadR Prog 196 v3 h4).bind fun v5 h6 =>
 (nilR v5 h6).bind fun v7 h8 =>
 (fieldAddrR Prog 276 v7 0 h8).bind fun v9 h10 =>
 (loadR Prog 3 v9 h10).bind fun v11 h12 =>
 (fieldAddrR Prog 278 v1 1 h12).bindN fun v13 h14 =>
 (loadR Prog 75 v13 h14).bindN fun v15 h16 =>
 (binR Prog .mul 3 (.int .i64 2) v11 h16).bindN fun v17 h18 =>
 (fieldAddrR Prog 278 v1 0 h18).bindN fun v19 h20 =>
 (loadR Prog 196 v19 h20).bindN fun v21 h22 =>
 (nilR v21 h22).bindN fun v23 h24 =>
 (fieldAddrR Prog 276 v23 2 h24).bindN fun v25 h26 =>
 (loadR Prog 274 v25 h26).bindN fun v27 h28 =>
 (builtinV Prog .len [274] [v27] h28).bindN fun v29 h30 =>
 (binR Prog .mul 3 v17 v29 h30).bindN fun v31 h32 =>
 (call F.view_View_Rows [v15, v31, v11, (.int .i64 2)] h32).bindT (fun p35 h36 => (allocR Prog 75 h32).bindN fun v37 h38 => .panic p35 h36) fun v33 h34 =>
 (allocR Prog 75 h34).bindN fun v39 h40 =>
 (storeR Prog 75 v39 v33 h40).bindN fun _v41 h42 =>
 (makeSliceV Prog 23 v11 v11 h42).bind fun v43 h44 =>
 (builtinV Prog .len [23] [v43] h44).bind fun v45 h46 =>
 (loopN (state_reader_row_l1 k call) loopFuel [(1, v1), (4, v39), (5, v43), (6, (.int .i64 0)), (29, v45), (30, (.int .i64 0))] h46).bind fun r47 h48 =>
 state_reader_row_l1k k call r47.1 r47.2 h48
theorem state_reader_row_R (k : Nat) (a0 : Value) (h : Heap) : R (T k) F.state_reader_row [a0] h = nrm .no h (state_reader_row k (R (T k)) a0 h) :=
 (R_body (t := T k) (T_scott k) (by kernel_rfl) (by kernel_rfl) _ _).trans (by kernel_rfl)
theorem state_reader_row_l1_eq (k : Nat) (call : Caller) (a1 a4 a5 a6 a29 a30 : Value) (h : Heap) : state_reader_row_l1 k call [(1, a1), (4, a4), (5, a5), (6, a6), (29, a29), (30, a30)] h =
 (binR Prog .lss 3 a30 a29 h).bind fun v49 h50 =>
 condV (some v49) (
 (loadR Prog 75 a4 h50).bind fun v51 h52 =>
 (binR Prog .mul 3 (.int .i64 2) a30 h52).bind fun v53 h54 =>
 (call F.view_View_U16 [v51, v53] h54).bind fun v55 h56 =>
 (indexAddrR Prog 23 a5 a30 h56).bind fun v57 h58 =>
 (storeR Prog 3 v57 v55 h58).bind fun _v59 h60 =>
 (indexAddrR Prog 23 a5 a30 h60).bind fun v61 h62 =>
 (loadR Prog 3 v61 h62).bind fun v63 h64 =>
 (binR Prog .add 3 v63 (.int .i64 1) h64).bind fun v65 h66 =>
 (builtinV Prog .max [3, 3] [a6, v65] h66).bind fun v67 h68 =>
 (binR Prog .add 3 a30 (.int .i64 1) h68).bind fun v69 h70 =>
 .ok (.normal, [(1, a1), (4, a4), (5, a5), (6, v67), (29, a29), (30, v69)]) h70)
 (
 .ok ((.exit 0), [(1, a1), (4, a4), (5, a5), (6, a6), (29, a29), (30, a30), (31, v49)]) h50) :=
 (loopB_eq _ _).trans (by kernel_rfl)
theorem state_reader_row_l1k_x0 (k : Nat) (call : Caller) (a1 a4 a5 a6 a29 a30 a31 : Value) (h : Heap) : state_reader_row_l1k k call (.exit 0) [(1, a1), (4, a4), (5, a5), (6, a6), (29, a29), (30, a30), (31, a31)] h =
 (fieldAddrR Prog 278 a1 0 h).bindN fun v71 h72 =>
 (loadR Prog 196 v71 h72).bindN fun v73 h74 =>
 (fieldAddrR Prog 278 a1 0 h74).bindN fun v75 h76 =>
 (loadR Prog 196 v75 h76).bindN fun v77 h78 =>
 (nilR v77 h78).bindN fun v79 h80 =>
 (fieldAddrR Prog 276 v79 2 h80).bindN fun v81 h82 =>
 (loadR Prog 274 v81 h82).bindN fun v83 h84 =>
 (buildSliceR Prog 274 1 [(0, a5)] h84).bindN fun v85 h86 =>
 (builtinV Prog .append [274, 274] [v83, v85] h86).bindN fun v87 h88 =>
 (nilR v73 h88).bindN fun v89 h90 =>
 (fieldAddrR Prog 276 v89 2 h90).bindN fun v91 h92 =>
 (storeR Prog 274 v91 v87 h92).bindN fun _v93 h94 =>
 chkR ((okVal (loadR Prog 196 v71 h86) v73 && (okVal (loadR Prog 196 v71 h88) v73 && true)) && ((okVal (loadR Prog 196 v75 h86) v77 && true) && ((okVal (loadR Prog 274 v81 h86) v83 && true) && true))) (
 .ok a6 h94) := by kernel_rfl
def state_reader_entry_j1 (k : Nat) (call : Caller) (a1 a4 a5 : Value) (h : Heap) : Res Value :=
 kSeq (pieceK (C k) call F.state_reader_entry [1, 1, 1, 1, 1]) (kDone Prog (resOf Prog F.state_reader_entry)) .normal [(1, a1), (4, a4), (5, a5)] h
def state_reader_entry_j2 (k : Nat) (call : Caller) (a1 a4 a5 a29 : Value) (h : Heap) : Res Value :=
 kSeq (pieceK (C k) call F.state_reader_entry [1, 1, 1, 1, 1]) (kDone Prog (resOf Prog F.state_reader_entry)) .normal [(1, a1), (4, a4), (5, a5), (29, a29)] h
def state_reader_entry_j3 (k : Nat) (call : Caller) (a1 a5 : Value) (h : Heap) : Res Value :=
 kSeq (pieceK (C k) call F.state_reader_entry [1, 1, 1, 1, 1, 1]) (kDone Prog (resOf Prog F.state_reader_entry)) .normal [(1, a1), (5, a5)] h
def state_reader_entry_j4 (k : Nat) (call : Caller) (a1 a4 a5 a35 : Value) (h : Heap) : Res Value :=
 kSeq (pieceK (C k) call F.state_reader_entry [1, 1, 1, 1, 1, 1]) (kDone Prog (resOf Prog F.state_reader_entry)) .normal [(1, a1), (4, a4), (5, a5), (35, a35)] h
def state_reader_entry (k : Nat) (call : Caller) (a0 : Value) (h : Heap) : Res Value :=
 (boxR a0 h).bind fun v1 h2 =>
 (fieldAddrR Prog 278 v1 3 h2).bind fun v3 h4 =>
 (loadR Prog 3 v3 h4).bind fun v5 h6 =>
 (binR Prog .mul 3 (.int .i64 2) v5 h6).bind fun v7 h8 =>
 (binR Prog .add 3 (.int .i64 4) v7 h8).bind fun v9 h10 =>
 (fieldAddrR Prog 278 v1 2 h10).bindN fun v11 h12 =>
 (loadR Prog 75 v11 h12).bindN fun v13 h14 =>
 (fieldAddrR Prog 278 v1 0 h14).bindN fun v15 h16 =>
 (loadR Prog 196 v15 h16).bindN fun v17 h18 =>
 (nilR v17 h18).bindN fun v19 h20 =>
 (fieldAddrR Prog 276 v19 3 h20).bindN fun v21 h22 =>
 (loadR Prog 102 v21 h22).bindN fun v23 h24 =>
 (builtinV Prog .len [102] [v23] h24).bindN fun v25 h26 =>
 (binR Prog .mul 3 v9 v25 h26).bindN fun v27 h28 =>
 (call F.view_View_Cut [v13, v27, v9] h28).bindT (fun p31 h32 => (allocR Prog 75 h28).bindN fun v33 h34 => .panic p31 h32) fun v29 h30 =>
 (allocR Prog 75 h30).bindN fun v35 h36 =>
 (storeR Prog 75 v35 v29 h36).bindN fun _v37 h38 =>
 (loadR Prog 75 v35 h38).bindN fun v39 h40 =>
 (call F.view_View_U16 [v39, (.int .i64 0)] h40).bindT (fun p43 h44 => (loadR Prog 75 v35 h40).bindN fun v45 h46 => (allocR Prog 130 h46).bindN fun v47 h48 => chkR ((okVal (loadR Prog 75 v35 h38) v45 && true) && true) (.panic p43 h44)) fun v41 h42 =>
 (loadR Prog 75 v35 h42).bindN fun v49 h50 =>
 (call F.view_View_U16 [v49, (.int .i64 2)] h50).bindT (fun p53 h54 => (allocR Prog 130 h50).bindN fun v55 h56 => chkR ((okVal (loadR Prog 75 v35 h38) v49 && true) && true) (.panic p53 h54)) fun v51 h52 =>
 (buildR Prog 130 [(0, v41), (1, v51)] h52).bindN fun v57 h58 =>
 (allocR Prog 130 h58).bindN fun v59 h60 =>
 (storeR Prog 130 v59 v57 h60).bindN fun _v61 h62 =>
 chkR ((okVal (loadR Prog 75 v35 h38) v49 && true) && true) (
 (fieldAddrR Prog 278 v1 3 h62).bind fun v63 h64 =>
 (loadR Prog 3 v63 h64).bind fun v65 h66 =>
 (binR Prog .gtr 3 v65 (.int .i64 0) h66).bind fun v67 h68 =>
 condV (some v67) (
 (loadR Prog 75 v35 h68).bind fun v69 h70 =>
 (call F.view_View_U16 [v69, (.int .i64 4)] h70).bind fun v71 h72 =>
 (fieldAddrR Prog 130 v59 2 h72).bind fun v73 h74 =>
 (storeR Prog 3 v73 v71 h74).bind fun _v75 h76 =>
 state_reader_entry_j1 k call v1 v35 v59 h76)
 (
 state_reader_entry_j2 k call v1 v35 v59 v67 h68))
theorem state_reader_entry_R (k : Nat) (a0 : Value) (h : Heap) : R (T k) F.state_reader_entry [a0] h = nrm .no h (state_reader_entry k (R (T k)) a0 h) :=
 (R_body (t := T k) (T_scott k) (by kernel_rfl) (by kernel_rfl) _ _).trans (by kernel_rfl)
theorem state_reader_entry_j1_eq (k : Nat) (call : Caller) (a1 a4 a5 : Value) (h : Heap) : state_reader_entry_j1 k call a1 a4 a5 h =
 (fieldAddrR Prog 278 a1 3 h).bind fun v77 h78 =>
 (loadR Prog 3 v77 h78).bind fun v79 h80 =>
 (binR Prog .gtr 3 v79 (.int .i64 1) h80).bind fun v81 h82 =>
 condV (some v81) (
 (loadR Prog 75 a4 h82).bind fun v83 h84 =>
 (call F.view_View_U16 [v83, (.int .i64 6)] h84).bind fun v85 h86 =>
 (fieldAddrR Prog 130 a5 3 h86).bind fun v87 h88 =>
 (storeR Prog 3 v87 v85 h88).bind fun _v89 h90 =>
 state_reader_entry_j3 k call a1 a5 h90)
 (
 state_reader_entry_j4 k call a1 a4 a5 v81 h82) := by kernel_rfl
theorem state_reader_entry_j2_eq (k : Nat) (call : Caller) (a1 a4 a5 a29 : Value) (h : Heap) : state_reader_entry_j2 k call a1 a4 a5 a29 h =
 (fieldAddrR Prog 278 a1 3 h).bind fun v91 h92 =>
 (loadR Prog 3 v91 h92).bind fun v93 h94 =>
 (binR Prog .gtr 3 v93 (.int .i64 1) h94).bind fun v95 h96 =>
 condV (some v95) (
 (loadR Prog 75 a4 h96).bind fun v97 h98 =>
 (call F.view_View_U16 [v97, (.int .i64 6)] h98).bind fun v99 h100 =>
 (fieldAddrR Prog 130 a5 3 h100).bind fun v101 h102 =>
 (storeR Prog 3 v101 v99 h102).bind fun _v103 h104 =>
 state_reader_entry_j3 k call a1 a5 h104)
 (
 state_reader_entry_j4 k call a1 a4 a5 v95 h96) := by kernel_rfl
theorem state_reader_entry_j3_eq (k : Nat) (call : Caller) (a1 a5 : Value) (h : Heap) : state_reader_entry_j3 k call a1 a5 h =
 (fieldAddrR Prog 278 a1 0 h).bindN fun v105 h106 =>
 (loadR Prog 196 v105 h106).bindN fun v107 h108 =>
 (fieldAddrR Prog 278 a1 0 h108).bindN fun v109 h110 =>
 (loadR Prog 196 v109 h110).bindN fun v111 h112 =>
 (nilR v111 h112).bindN fun v113 h114 =>
 (fieldAddrR Prog 276 v113 3 h114).bindN fun v115 h116 =>
 (loadR Prog 102 v115 h116).bindN fun v117 h118 =>
 (loadR Prog 130 a5 h118).bindN fun v119 h120 =>
 (buildSliceR Prog 102 1 [(0, v119)] h120).bindN fun v121 h122 =>
 (builtinV Prog .append [102, 102] [v117, v121] h122).bindN fun v123 h124 =>
 (nilR v107 h124).bindN fun v125 h126 =>
 (fieldAddrR Prog 276 v125 3 h126).bindN fun v127 h128 =>
 (storeR Prog 102 v127 v123 h128).bindN fun _v129 h130 =>
 chkR ((okVal (loadR Prog 196 v105 h122) v107 && (okVal (loadR Prog 196 v105 h124) v107 && true)) && ((okVal (loadR Prog 196 v109 h122) v111 && true) && ((okVal (loadR Prog 102 v115 h122) v117 && true) && true))) (
 (fieldAddrR Prog 130 a5 0 h130).bind fun v131 h132 =>
 (loadR Prog 3 v131 h132).bind fun v133 h134 =>
 (binR Prog .add 3 v133 (.int .i64 1) h134).bind fun v135 h136 =>
 .ok v135 h136) := by kernel_rfl
theorem state_reader_entry_j4_eq (k : Nat) (call : Caller) (a1 a4 a5 a35 : Value) (h : Heap) : state_reader_entry_j4 k call a1 a4 a5 a35 h =
 (fieldAddrR Prog 278 a1 0 h).bindN fun v137 h138 =>
 (loadR Prog 196 v137 h138).bindN fun v139 h140 =>
 (fieldAddrR Prog 278 a1 0 h140).bindN fun v141 h142 =>
 (loadR Prog 196 v141 h142).bindN fun v143 h144 =>
 (nilR v143 h144).bindN fun v145 h146 =>
 (fieldAddrR Prog 276 v145 3 h146).bindN fun v147 h148 =>
 (loadR Prog 102 v147 h148).bindN fun v149 h150 =>
 (loadR Prog 130 a5 h150).bindN fun v151 h152 =>
 (buildSliceR Prog 102 1 [(0, v151)] h152).bindN fun v153 h154 =>
 (builtinV Prog .append [102, 102] [v149, v153] h154).bindN fun v155 h156 =>
 (nilR v139 h156).bindN fun v157 h158 =>
 (fieldAddrR Prog 276 v157 3 h158).bindN fun v159 h160 =>
 (storeR Prog 102 v159 v155 h160).bindN fun _v161 h162 =>
 chkR ((okVal (loadR Prog 196 v137 h154) v139 && (okVal (loadR Prog 196 v137 h156) v139 && true)) && ((okVal (loadR Prog 196 v141 h154) v143 && true) && ((okVal (loadR Prog 102 v147 h154) v149 && true) && true))) (
 (fieldAddrR Prog 130 a5 0 h162).bind fun v163 h164 =>
 (loadR Prog 3 v163 h164).bind fun v165 h166 =>
 (binR Prog .add 3 v165 (.int .i64 1) h166).bind fun v167 h168 =>
 .ok v167 h168) := by kernel_rfl
def state_Machine_Step (k : Nat) (call : Caller) (a0 a1 a2 : Value) (h : Heap) : Res Value :=
 (allocR Prog 130 h).bind fun v1 h2 =>
 (binR Prog .lss 3 a1 (.int .i64 0) h2).bind fun v3 h4 =>
 ((bif wantVal v3 false then Res.ok a1 h4 else Res.ok undef h4)).bind fun v5 h6 =>
 ((bif wantVal v3 false then Res.ok a0 h6 else Res.ok undef h6)).bind fun v7 h8 =>
 ((bif wantVal v3 false then nilR v7 h8 else Res.ok undef h8)).bind fun v9 h10 =>
 ((bif wantVal v3 false then fieldAddrR Prog 276 v9 2 h10 else Res.ok undef h10)).bind fun v11 h12 =>
 ((bif wantVal v3 false then loadR Prog 274 v11 h12 else Res.ok undef h12)).bind fun v13 h14 =>
 ((bif wantVal v3 false then builtinV Prog .len [274] [v13] h14 else Res.ok undef h14)).bind fun v15 h16 =>
 ((bif wantVal v3 false then binR Prog .geq 3 v5 v15 h16 else Res.ok undef h16)).bind fun v17 h18 =>
 (condV (some v3) (Res.ok (.bool true) h18) (Res.ok v17 h18)).bind fun v19 h20 =>
 ((bif wantVal v19 false then Res.ok a2 h20 else Res.ok undef h20)).bind fun v21 h22 =>
 ((bif wantVal v19 false then binR Prog .lss 3 v21 (.int .i64 0) h22 else Res.ok undef h22)).bind fun v23 h24 =>
 (condV (some v19) (Res.ok (.bool true) h24) (Res.ok v23 h24)).bind fun v25 h26 =>
 ((bif wantVal v25 false then Res.ok a2 h26 else Res.ok undef h26)).bind fun v27 h28 =>
 ((bif wantVal v25 false then Res.ok a0 h28 else Res.ok undef h28)).bind fun v29 h30 =>
 ((bif wantVal v25 false then nilR v29 h30 else Res.ok undef h30)).bind fun v31 h32 =>
 ((bif wantVal v25 false then fieldAddrR Prog 276 v31 0 h32 else Res.ok undef h32)).bind fun v33 h34 =>
 ((bif wantVal v25 false then loadR Prog 3 v33 h34 else Res.ok undef h34)).bind fun v35 h36 =>
 ((bif wantVal v25 false then binR Prog .geq 3 v27 v35 h36 else Res.ok undef h36)).bind fun v37 h38 =>
 (condV (some v25) (Res.ok (.bool true) h38) (Res.ok v37 h38)).bind fun v39 h40 =>
 condV (some v39) (
 (buildR Prog 130 [] h40).bind fun v41 h42 =>
 (storeR Prog 130 v1 v41 h42).bind fun _v43 h44 =>
 (loadR Prog 130 v1 h44).bind fun v45 h46 =>
 .ok (.tuple #[v45, (.bool false)]) h46)
 (
 (nilR a0 h40).bindN fun v47 h48 =>
 (fieldAddrR Prog 276 v47 3 h48).bindN fun v49 h50 =>
 (loadR Prog 102 v49 h50).bindN fun v51 h52 =>
 (nilR a0 h52).bindN fun v53 h54 =>
 (fieldAddrR Prog 276 v53 2 h54).bindN fun v55 h56 =>
 (loadR Prog 274 v55 h56).bindN fun v57 h58 =>
 (indexAddrR Prog 274 v57 a1 h58).bindN fun v59 h60 =>
 (loadR Prog 23 v59 h60).bindN fun v61 h62 =>
 (indexAddrR Prog 23 v61 a2 h62).bindN fun v63 h64 =>
 (loadR Prog 3 v63 h64).bindN fun v65 h66 =>
 (indexAddrR Prog 102 v51 v65 h66).bindN fun v67 h68 =>
 (loadR Prog 130 v67 h68).bindN fun v69 h70 =>
 (storeR Prog 130 v1 v69 h70).bindN fun _v71 h72 =>
 (loadR Prog 130 v1 h72).bind fun v73 h74 =>
 .ok (.tuple #[v73, (.bool true)]) h74)
theorem state_Machine_Step_R (k : Nat) (a0 a1 a2 : Value) (h : Heap) : R (T k) F.state_Machine_Step [a0, a1, a2] h = nrm .gc h (state_Machine_Step k (R (T k)) a0 a1 a2 h) :=
 (R_body (t := T k) (T_scott k) (by kernel_rfl) (by kernel_rfl) _ _).trans (by kernel_rfl)
def state_Machine_Class (k : Nat) (call : Caller) (a0 a1 : Value) (h : Heap) : Res Value :=
 (binR Prog .eql 3 a1 (.int .i64 65535) h).bind fun v1 h2 =>
 condV (some v1) (
 .ok (.int .i64 2) h2)
 (
 (nilR a0 h2).bind fun v3 h4 =>
 (fieldAddrR Prog 276 v3 1 h4).bind fun v5 h6 =>
 (loadR Prog 32 v5 h6).bind fun v7 h8 =>
 (call F.lookup_Table_Get [v7, a1] h8).bind fun v9 h10 =>
 (extractR v9 0 h10).bind fun v11 h12 =>
 (extractR v9 1 h12).bind fun v13 h14 =>
 ((bif wantVal v13 true then Res.ok v11 h14 else Res.ok undef h14)).bind fun v15 h16 =>
 ((bif wantVal v13 true then Res.ok a0 h16 else Res.ok undef h16)).bind fun v17 h18 =>
 ((bif wantVal v13 true then nilR v17 h18 else Res.ok undef h18)).bind fun v19 h20 =>
 ((bif wantVal v13 true then fieldAddrR Prog 276 v19 0 h20 else Res.ok undef h20)).bind fun v21 h22 =>
 ((bif wantVal v13 true then loadR Prog 3 v21 h22 else Res.ok undef h22)).bind fun v23 h24 =>
 ((bif wantVal v13 true then binR Prog .lss 3 v15 v23 h24 else Res.ok undef h24)).bind fun v25 h26 =>
 (condV (some v13) (Res.ok v25 h26) (Res.ok (.bool false) h26)).bind fun v27 h28 =>
 condV (some v27) (
 .ok v11 h28)
 (
 .ok (.int .i64 1) h28))
theorem state_Machine_Class_R (k : Nat) (a0 a1 : Value) (h : Heap) : R (T k) F.state_Machine_Class [a0, a1] h = nrm .gc h (state_Machine_Class k (R (T k)) a0 a1 h) :=
 (R_body (t := T k) (T_scott k) (by kernel_rfl) (by kernel_rfl) _ _).trans (by kernel_rfl)
end
end Go.Sw
end
section
namespace Go.Sw
open Go.RowKit
theorem Star.memP {H0 H : Heap} {L : List It} (h : Star H0 H L) {x : It} (hx : x ∈ L) : x.P H := by
 obtain ⟨i, hi⟩ := List.getElem?_of_mem hx;exact h.at i hi
theorem Star.memBlk {H0 H : Heap} {L : List It} (h : Star H0 H L) {c : Nat} {k : Blk} (hx : itBlk c k ∈ L) : H.get c = some k := h.memP hx
theorem Star.memOwn {α : Type} {enc : α → List Value} {H0 H : Heap} {L : List It} (h : Star H0 H L) {o : Option Nat} {m : Nat} {s : Value} {l : List α} (hx : itRow o m s enc l ∈ L) : Own H0 H m s enc l := by
 obtain ⟨i, hi⟩ := List.getElem?_of_mem hx;exact h.own i hi
theorem Star.stCell {H0 H : Heap} {L : List It} (h : Star H0 H L) (i : Nat) {c : Nat} {cells : List Value} {e : Nat} (hi : L[i]? = some (itBlk c ⟨cells, e, false⟩)) (off : Nat) {v : Value} (hs : storable v = true) (hc : v.cells = #[v]) (ho : off < cells.length) :
  ∃ H', stR 1 (.pointer (some ⟨c, off, none⟩)) v H = .ok undef H' ∧ Star H0 H' (L.set i (itBlk c ⟨cells.set off v, e, false⟩)) ∧ H'.n = H.n := by
 have hg := h.get i hi;have hsp : splice cells off [v] = cells.set off v := by
  unfold splice;rw [List.set_eq_take_append_cons_drop, if_pos ho];rfl
 refine ⟨H.set c (some ⟨cells.set off v, e, false⟩), ?_, h.step i hi (by simp) (fun d _ hd => ?_) _ ?_ fun b hb => .inl hb, by simp⟩
 ·simp [hs, hc, hg, hsp];rw [if_pos (show off + 1 ≤ cells.length by omega)];rfl
 ·rw [get_set_ne];exact fun e => hd (show d ∈ [c] by simp [e])
 ·exact get_set_eq _ _ _ (by rw [hg]; rfl)
theorem loop_decP {body : Env → Heap → Res (AExit × Env)} (Inv : Nat → Env → Heap → Prop) (Q : AExit → Env → Heap → Prop) (Qp : Value → Heap → Prop)
  (step : ∀ m e H, Inv m e H → (∃ m' e' H', body e H = .ok (.normal, e') H' ∧ m' < m ∧ Inv m' e' H') ∨ (∃ x e' H', body e H = .ok (x, e') H' ∧ x ≠ .normal ∧ Q x e' H') ∨ (∃ v H', body e H = .panic v H' ∧ Qp v H')) :
  ∀ (fuel m : Nat) (e : Env) (H : Heap), m < fuel → Inv m e H → (∃ x e' H', loopN body fuel e H = .ok (x, e') H' ∧ Q x e' H') ∨ (∃ v H', loopN body fuel e H = .panic v H' ∧ Qp v H')
 | 0, m, e, H, hm, _ => by omega
 | fuel + 1, m, e, H, hm, hi => by
  rcases step m e H hi with ⟨m', e', H', h1, h2, h3⟩ | ⟨x, e', H', h1, h2, h3⟩ | ⟨v, H', h1, h2⟩
  ·simp only [loopN, h1, Res.bind];exact loop_decP Inv Q Qp step fuel m' e' H' (by omega) h3
  ·refine .inl ⟨x, e', H', ?_, h3⟩;cases x with
   | normal => exact absurd rfl h2
   | exit j => simp only [loopN, h1, Res.bind]
   | ret => simp only [loopN, h1, Res.bind]
  ·exact .inr ⟨v, H', by simp only [loopN, h1, Res.bind], h2⟩
theorem loopDecP {body : Env → Heap → Res (AExit × Env)} (Inv : Nat → Env → Heap → Prop) (Q : AExit → Env → Heap → Prop) (Qp : Value → Heap → Prop) {e0 : Env} {H0 : Heap} (m : Nat) (h0 : Inv m e0 H0) (hm : m < 2 ^ 64)
  (step : ∀ m e H, Inv m e H → (∃ m' e' H', body e H = .ok (.normal, e') H' ∧ m' < m ∧ Inv m' e' H') ∨ (∃ x e' H', body e H = .ok (x, e') H' ∧ x ≠ .normal ∧ Q x e' H') ∨ (∃ v H', body e H = .panic v H' ∧ Qp v H')) :
  (∃ x e' H', loopN body loopFuel e0 H0 = .ok (x, e') H' ∧ Q x e' H') ∨ (∃ v H', loopN body loopFuel e0 H0 = .panic v H' ∧ Qp v H') := loop_decP Inv Q Qp step loopFuel m e0 H0 (fuel_big hm) h0
abbrev encEn (e : En) : List Value := [.int .i64 e.next, .int .i64 e.flags, .int .i64 e.a, .int .i64 e.b]
theorem encEn_len (e : En) : (encEn e).length = 4 := rfl
theorem encEn_still (l : List En) : ∀ p, p ∈ l → ∀ v, v ∈ encEn p → Still v := fun p _ v hv => by
 simp [encEn] at hv;rcases hv with rfl | rfl | rfl | rfl <;> trivial
theorem Flat.ofEn (e : En) : Flat (.agg (encEn e).toArray) := .aggL (.cons (.int _ _) (.cons (.int _ _) (.cons (.int _ _) (.cons (.int _ _) .nil))))
theorem Flat.Ens (l : List En) : Flat (Go.Sw.lv encEn l) := .lv fun p _ => .cons (.int _ _) (.cons (.int _ _) (.cons (.int _ _) (.cons (.int _ _) .nil)))
abbrev encU (x : List Int × Value) : List Value := [x.2]
theorem encU_len (x : List Int × Value) : (encU x).length = 1 := rfl
abbrev encRow (r : List Int) : List Value := [lv encI r]
theorem encRow_len (r : List Int) : (encRow r).length = 1 := rfl
def MS (H0 H : Heap) (X : List It) (c : Nat) (n : Int) (tab : Value) (rs : List (List Int)) (es : List En) : Prop :=
 ∃ (l : List (List Int × Value)) (s1 : Value) (o1 : Option Nat) (s2 : Value) (o2 : Option Nat) (bs : List It), l.map Prod.fst = rs ∧
  Star H0 H (itBlk c ⟨[.int .i64 n, tab, s1, s2], 1, false⟩ :: itRow o1 1 s1 encU l :: itRow o2 4 s2 encEn es :: (X ++ bs)) ∧ ∀ x, x ∈ l → ∃ o, itRow o 1 x.2 encI x.1 ∈ bs
theorem MS.rest {H0 H H' : Heap} {X : List It} {c : Nat} {n : Int} {tab : Value} {rs : List (List Int)} {es : List En} (h : MS H0 H X c n tab rs es) (he : Ext H H') : MS H0 H' X c n tab rs es := by
 obtain ⟨l, s1, o1, s2, o2, bs, h1, h2, h3⟩ := h;exact ⟨l, s1, o1, s2, o2, bs, h1, h2.rest he, h3⟩
theorem MS.ext {H0 H : Heap} {X : List It} {c : Nat} {n : Int} {tab : Value} {rs : List (List Int)} {es : List En} (h : MS H0 H X c n tab rs es) : Ext H0 H := by
 obtain ⟨l, s1, o1, s2, o2, bs, h1, h2, h3⟩ := h;exact h2.ext
theorem MS.here {H0 H : Heap} {X : List It} {c : Nat} {n : Int} {tab : Value} {rs : List (List Int)} {es : List En} (h : MS H0 H X c n tab rs es) :
  ∃ s1 s2, H.get c = some ⟨[.int .i64 n, tab, s1, s2], 1, false⟩ ∧ (∀ H', lnS s1 H' = .ok (.int .i64 rs.length) H') ∧ ∀ H', lnS s2 H' = .ok (.int .i64 es.length) H' := by
 obtain ⟨l, s1, o1, s2, o2, bs, h1, h2, h3⟩ := h;refine ⟨s1, s2, h2.get 0 rfl, fun H' => ?_, (h2.row 2 rfl).len⟩;rw [(h2.row 1 rfl).len, ← h1, List.length_map]
theorem MS.memX {H0 H : Heap} {X : List It} {c : Nat} {n : Int} {tab : Value} {rs : List (List Int)} {es : List En} (h : MS H0 H X c n tab rs es) {b : Nat} {k : Blk} (hb : itBlk b k ∈ X) : H.get b = some k := by
 obtain ⟨l, s1, o1, s2, o2, bs, h1, h2, h3⟩ := h;exact h2.memBlk (by simp [hb])
theorem row_take {rv : List Int} {n : Int} {k : Nat} {r : List Int} (h : rowsS rv (2 * n * k) n 2 = some r) (hn : 0 ≤ n) : r.length = n.toNat * 2 ∧ rowK rv n k = some ((cutRows r 2 n.toNat).map num) := by
 refine ⟨?_, by unfold rowK listS; rw [h]; rfl⟩;have := pieceS_len (rowsS_piece h);omega
theorem row_run (k : Nat) {H0 H : Heap} {X : List It} {c : Nat} {n : Int} {tab : Value} {rs : List (List Int)} {es : List En} (h : MS H0 H X c n tab rs es) (hn : 0 ≤ n ∧ n ≤ 65535) (hrl : rs.length < 65536) {vR vE : Value} {rv : List Int} (w : Int) (hv : Sl H 1 vR encB rv) (hE : Go.Sw.veq vE vE = true) (hb : Byt rv) (hl : rv.length < 2 ^ 31) :
  match rowK rv n rs.length with
  | some r => ∃ H', R (T k) F.state_reader_row [.agg #[ptrV c, vR, vE, .int .i64 w]] H = .ok (.int .i64 (needL r)) H' ∧ MS H0 H' X c n tab (rs ++ [r]) es
  | none => R (T k) F.state_reader_row [.agg #[ptrV c, vR, vE, .int .i64 w]] H = .panic failV H := by
 obtain ⟨l, s1, o1, s2, o2, bs, h1, g, h3⟩ := h;have hM := g.get 0 rfl;have hlen1 := (g.row 1 rfl).len;have hll : l.length = rs.length := by rw [← h1, List.length_map]
 rw [hll] at hlen1;have hcn : ¬ c = H.n := by have := Heap.get_lt hM; omega
 have hx1 : Ext H (H.push ⟨[ptrV c, vR, vE, .int .i64 w], 1, false⟩) := (Ext.refl H).push _;have hm0 : 0 ≤ 2 * n * (rs.length : Int) := Int.mul_nonneg (by omega) (by omega);have hm1 : 2 * n * (rs.length : Int) ≤ 131070 * 65536 := Int.mul_le_mul (by omega) (by omega) (by omega) (by omega);have hRows := Rows_run k (hv.up hx1) (2 * n * rs.length) n 2 (by omega);rw [state_reader_row_R];cases hr : rowsS rv (2 * n * rs.length) n 2 with
 | none =>
  have : rowK rv n rs.length = none := by unfold rowK listS; rw [hr]; rfl
  rw [this];rw [hr] at hRows;refine nrm_throw ⟨_, ?_, hx1⟩ Flat.fail.alive;simp -implicitDefEqProofs (disch := omega) [state_reader_row, hcn, hM, hlen1, hRows]
 | some r =>
  obtain ⟨hrlen, hK⟩ := row_take hr hn.1;rw [hK];dsimp only;rw [hr] at hRows;have hs := pieceS_sl (hv.up hx1) (rowsS_piece hr);have hrb := (hb.piece (rowsS_piece hr)).1;obtain ⟨n, rfl⟩ := Int.eq_ofNat_of_zero_le hn.1;simp only [Int.toNat_natCast] at hrlen ⊢;generalize subV 1 vR (2 * (n : Int) * rs.length).toNat ((n : Int) * 2).toNat = q at hs hRows;obtain ⟨B1, hB1⟩ : ∃ B1 : Blk, B1 = ⟨[ptrV c, vR, vE, .int .i64 w], 1, false⟩ := ⟨_, rfl⟩
  obtain ⟨B2, hB2⟩ : ∃ B2 : Blk, B2 = ⟨[q], 1, false⟩ := ⟨_, rfl⟩
  rw [← hB1] at hs;have g := (g.push B1).push B2;have hx2 : Ext (H.push B1) ((H.push B1).push B2) := (Ext.refl _).push _;obtain ⟨vals, hvals⟩ : ∃ vals, vals = (cutRows r 2 n).map num := ⟨_, rfl⟩
  rw [← hvals];have hvl : vals.length = n := by rw [hvals]; simp
  obtain ⟨x, e', H1, hr', rfl, rfl, ho, hx⟩ := loop_up (body := state_reader_row_l1 k (R (T k))) n
   (fun j e H' => e = [(1, ptrV H.n), (4, ptrV (H.n + 1)), (5, .slice (some ⟨H.n + 2, 0, none⟩) n n), (6, .int .i64 (needL (vals.take j))), (29, .int .i64 n), (30, .int .i64 j)] ∧
    Own ((H.push B1).push B2) H' 1 (.slice (some ⟨H.n + 2, 0, none⟩) n n) encI (vals.take j ++ List.replicate (n - j) 0) ∧ Ext ((H.push B1).push B2) H')
   (fun x e H' => x = .exit 0 ∧ e = [(1, ptrV H.n), (4, ptrV (H.n + 1)), (5, .slice (some ⟨H.n + 2, 0, none⟩) n n), (6, .int .i64 (needL vals)), (29, .int .i64 n), (30, .int .i64 n), (31, .bool false)] ∧
    Own ((H.push B1).push B2) H' 1 (.slice (some ⟨H.n + 2, 0, none⟩) n n) encI vals ∧ Ext ((H.push B1).push B2) H')
   (e0 := [(1, ptrV H.n), (4, ptrV (H.n + 1)), (5, .slice (some ⟨H.n + 2, 0, none⟩) n n), (6, .int .i64 0), (29, .int .i64 n), (30, .int .i64 0)]) (H0 := ((H.push B1).push B2).push ⟨repeatCells [Value.int .i64 0] n, 1, false⟩)
   ⟨rfl, .inr ⟨H.n + 2, by simp, by simp, by rw [get_push_eq _ _ _ (by simp), repeat_I]; simp⟩, (Ext.refl _).push _⟩ (by omega)
   (fun j e H' hj ⟨he, ho, hx⟩ => by
    subst he;have hlt : (j : Int) < n := by omega
    have hg2 : H'.get (H.n + 1) = some ⟨[q], 1, false⟩ := hx.get (by rw [get_push_eq _ _ _ (by simp), hB2]);have hu := U16_run k ((hs.up hx2).up hx) hrb (2 * (j : Int)) (by omega);have hcut : uS r (2 * (j : Int)) 2 = some (num ((r.drop (2 * j)).take 2)) := uS_cut (z := 2) hrlen hj;have hy : vals[j]? = some (num ((r.drop (2 * j)).take 2)) := by rw [hvals, List.getElem?_map, cutRows_get _ _ _ _ hj]; rfl
    rw [hcut, orF_some] at hu;have hyb := uS_two hrb hcut;obtain ⟨b, H2, e1, h1, h2, h3, h4, h5, h6⟩ := ho.set encI_len j 0 1 0 (num ((r.drop (2 * j)).take 2)) (.int .i64 (num ((r.drop (2 * j)).take 2))) (fill_get _ _ hvl hj) rfl rfl (by decide) rfl;rw [fill_step _ _ hvl hj _ hy] at h4;have hnl : needL (vals.take (j + 1)) = max (needL (vals.take j)) (num ((r.drop (2 * j)).take 2) + 1) := by rw [take_snoc hy, needL_snoc]
    rw [hnl];have hn0 := needL_nonneg (vals.take j);generalize num ((r.drop (2 * j)).take 2) = y at *;generalize needL (vals.take j) = m at *;simp at e1;obtain ⟨rfl, _⟩ := e1;have hx' : Ext ((H.push B1).push B2) H2 := ⟨by rw [h6]; exact hx.n, fun d hd hs => by rw [h5 d (by intro e; rw [e] at hd; simp at hd)]; exact hx.2 d hd hs⟩
    have hgv : H2.get (H.n + 2) = some ⟨rows encI (vals.take (j + 1) ++ List.replicate (n - (j + 1)) 0), 1, false⟩ := by
     rcases h4 with ⟨h, _⟩ | ⟨b', h, _, h'⟩
     ·have := congrArg List.length h; simp only [List.length_append, List.length_replicate, List.length_take, hvl, List.length_nil] at this; omega
     ·simp at h; obtain ⟨rfl, _⟩ := h; exact h'
    have hld := ld1_row encI_len hgv (i := j) (c := 0) (x := y) (by rw [List.getElem?_append_left (by simp; omega), List.getElem?_take, if_pos (by omega), hy]) (by decide) rfl;simp only [Nat.add_zero, Nat.mul_one] at h3 hld;have hmax : (if y + 1 > m then y + 1 else m) = max m (y + 1) := by split <;> omega
    refine .inl ⟨_, H2, ?_, rfl, h4, hx'⟩;rw [state_reader_row_l1_eq, ← hmax];simp -implicitDefEqProofs (disch := omega) [-stR_ptr, -ld1_ptr, hlt, ld1_ptr H.n.succ 0, hg2, hu, ixS_slice, h3, hld]
    )
   (fun e H' ⟨he, ho, hx⟩ => by
    subst he;refine ⟨.exit 0, _, H', ?_, by simp, rfl, rfl, ?_, hx⟩
    ·rw [state_reader_row_l1_eq, List.take_of_length_le (by omega)];simp -implicitDefEqProofs
    ·rw [List.take_of_length_le (by omega)] at ho;simpa using ho)
  obtain ⟨o3, g⟩ := g.more_own ho hx;obtain ⟨sl, hsl⟩ : ∃ sl : Value, sl = .slice (some ⟨H.n + 2, 0, none⟩) n n := ⟨_, rfl⟩
  rw [← hsl] at g ho hr';obtain ⟨bs', hbs⟩ : ∃ bs', bs' = bs ++ [itBlk H.n B1, itBlk (H.n + 1) B2, itRow o3 1 sl encI vals] := ⟨_, rfl⟩
  have g : Star H0 H1 (itBlk c ⟨[.int .i64 n, tab, s1, s2], 1, false⟩ :: itRow o1 1 s1 encU l :: itRow o2 4 s2 encEn es :: (X ++ bs')) := by
   rw [hbs];simpa using g
  have hM1 := g.get 0 rfl;have hB1g : H1.get H.n = some B1 := g.memBlk (by simp [hbs]);have hn1 : ¬ H.n = H1.n := by have := Heap.get_lt hB1g; omega
  have hc1 : ¬ c = H1.n := by have := Heap.get_lt hM1; omega
  have hvq := (g.row 1 rfl).veq;obtain ⟨s1', o1', H2, e2, g⟩ := g.append1 (bytes := 24) 1 encU_len rfl (vals, sl) (by rw [hll]; omega) (by decide);simp only [List.set_cons_zero, List.set_cons_succ] at g;have hB1g2 : H2.get H.n = some B1 := g.memBlk (by simp [hbs]);obtain ⟨H3, e3, g, _⟩ := g.stCell 0 rfl 2 (g.row 1 rfl).storable (g.row 1 rfl).cells (by simp);simp only [List.set_cons_zero, List.set_cons_succ] at g;refine ⟨H3, nrm_of ?_, l ++ [(vals, sl)], s1', o1', s2, o2, bs', by simp [h1], g, fun x hx => ?_⟩
  ·have hsls : storable sl = true := by rw [hsl]; rfl
   have hslc : sl.cells = #[sl] := by rw [hsl]; rfl
   have hsln : ∀ H', lnS sl H' = .ok (.int .i64 n) H' := fun H' => by rw [hsl]; rfl
   rw [hB1] at hB1g hB1g2 hr';rw [hB2] at hr';simp only [encU] at e2;simp -implicitDefEqProofs (disch := omega) [-stR_ptr, state_reader_row, hcn, hM, hlen1, hRows, mkR_nat, stR_ptr 1 (H.n + 1) 0, ← hsl, hr', state_reader_row_l1k_x0, hB1g, hB1g2, hn1, hc1, hM1, hvq, hE, hsls, hslc, hsln, e2, e3]
  ·rcases List.mem_append.1 hx with hx | hx
   ·obtain ⟨o, ho⟩ := h3 x hx;exact ⟨o, by rw [hbs]; simp [ho]⟩
   ·simp at hx;subst hx;exact ⟨o3, by rw [hbs]; simp⟩
end Go.Sw
end
