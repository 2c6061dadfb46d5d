/-
  Functions' forms, and what is proved of them, part 1.
-/
import Derived.Test.YtanfippcmdialaaSwCfg
import Derived.Test.YtanfippcmdialaaSwLib8
import Derived.Test.YtanfippcmdialaaSwLib9
set_option linter.unusedSimpArgs false
set_option linter.unusedVariables false
set_option linter.unusedSectionVars false
section
set_option maxRecDepth 100000
set_option linter.unusedVariables false
namespace Go.Sw
noncomputable section
def view_Need (k : Nat) (call : Caller) (a0 : Value) (h : Heap) : Res Value :=
 (unR .not a0 h).bind fun v1 h2 =>
 condV (some v1) (
 (call F.view_Fail [] h2).bind fun v3 h4 =>
 .ok (.tuple #[]) h4)
 (
 .ok (.tuple #[]) h2)
theorem view_Need_R (k : Nat) (a0 : Value) (h : Heap) : R (T k) F.view_Need [a0] h = nrm .gc h (view_Need k (R (T k)) a0 h) :=
 (R_body (t := T k) (T_scott k) (by kernel_rfl) (by kernel_rfl) _ _).trans (by kernel_rfl)
def view_Fail (k : Nat) (call : Caller) (h : Heap) : Res Value :=
 (buildR Prog 190 [] h).bind fun v1 h2 =>
 (ifaceR Prog 190 v1 h2).bind fun v3 h4 =>
 (panicR v3 h4).bind fun _v5 h6 =>
 .ok (.tuple #[]) h6
theorem view_Fail_R (k : Nat) (h : Heap) : R (T k) F.view_Fail [] h = nrm .gc h (view_Fail k (R (T k)) h) :=
 (R_body (t := T k) (T_scott k) (by kernel_rfl) (by kernel_rfl) _ _).trans (by kernel_rfl)
end
end Go.Sw
end
section
namespace Go.Sw
open Go.RowKit
abbrev encB (n : Int) : List Value := [.int .u8 n]
def Byt (b : List Int) : Prop := ∀ n, n ∈ b → 0 ≤ n ∧ n < 256
abbrev failV : Value := .iface shortT (.agg #[])
def orF {α : Type} (o : Option α) (f : α → Value) (H : Heap) : Res Value := match o with
 | some a => .ok (f a) H
 | none => .panic failV H
@[simp] theorem orF_some {α : Type} (a : α) (f : α → Value) (H : Heap) : orF (some a) f H = .ok (f a) H := rfl
@[simp] theorem orF_none {α : Type} (f : α → Value) (H : Heap) : orF (none : Option α) f H = .panic failV H := rfl
def pieceS (b : List Int) (i n : Int) : Option (List Int) := if 0 ≤ i ∧ 0 ≤ n ∧ i ≤ b.length ∧ n ≤ b.length - i then some ((b.drop i.toNat).take n.toNat) else none
def num (l : List Int) : Int := l.foldl (fun x y => 256 * x + y) 0
def uS (b : List Int) (i n : Int) : Option Int := (pieceS b i n).map num
theorem Byt.piece {b : List Int} (h : Byt b) {i n : Int} {l : List Int} (hl : pieceS b i n = some l) : Byt l ∧ (l.length : Int) = n := by
 unfold pieceS at hl;split at hl
 ·rename_i hc;injection hl with hl; subst hl;refine ⟨fun x hx => h x (List.mem_of_mem_drop (List.mem_of_mem_take hx)), ?_⟩;simp;omega
 ·cases hl
theorem Flat.fail : Flat failV := .iface _ _ (.aggL .nil)
theorem Flat.unit : Flat (.tuple #[]) := .tupleL .nil
@[simp] theorem Fail_run (k : Nat) (H : Heap) : R (T k) F.view_Fail [] H = .panic failV H := by
 rw [view_Fail_R];refine nrm_throw ⟨H, ?_, Ext.refl H⟩ Flat.fail.alive;simp -implicitDefEqProofs [view_Fail]
theorem Need_true (k : Nat) (H : Heap) : R (T k) F.view_Need [.bool true] H = .ok (.tuple #[]) H := by
 rw [view_Need_R];refine nrm_gc (Pure.of ?_) Flat.unit.alive;simp -implicitDefEqProofs [view_Need]
theorem Need_false (k : Nat) (H : Heap) : R (T k) F.view_Need [.bool false] H = .panic failV H := by
 rw [view_Need_R];refine nrm_throw ⟨H, ?_, Ext.refl H⟩ Flat.fail.alive;simp -implicitDefEqProofs [view_Need]
attribute [simp] Need_true Need_false
def behind (b : List Int) (i : Int) : Int := if 0 > IntKind.i64.wrap ((b.length : Int) - i) then 0 else IntKind.i64.wrap ((b.length : Int) - i)
end Go.Sw
end
section
namespace Go.Sw
open Go.RowKit
@[simp] theorem neb_4 (a b : Bool) (h : Heap) : binR Prog .neq 4 (.bool a) (.bool b) h = .ok (.bool (a != b)) h := by cases a <;> cases b <;> kernel_rfl
section
variable {α β γ δ : Type} {E : Heap → Prop} {o : Option β} {f : β → Value} {r : Res Value} {H : Heap} {Q : δ → γ → Heap → Prop}
end
section
variable {β : Type} {H : Heap} {r : Res Value} {o : Option β} {f : β → Value}
end
end Go.Sw
end
section
namespace Go.Sw
open Go.RowKit
section
variable {α : Type} {enc : α → List Value}
end
section
variable {α : Type} {enc : α → List Value}
theorem Sl.lenL {H : Heap} {m : Nat} {v : Value} {l : List α} (h : Sl H m v enc l) : Go.Sw.lenL v = some l.length := by
 rcases h with rfl | ⟨rfl, rfl | rfl | rfl⟩ | ⟨b, off, cap, k, rfl, _⟩ <;> rfl
theorem Sl.first {H : Heap} {m : Nat} {v : Value} {l : List α} (he : ∀ x, (enc x).length = m) (h : Sl H m v enc l) : firstV m l.length v H = some (rows enc l) := by
 rcases h with rfl | ⟨rfl, rfl | rfl | rfl⟩ | ⟨b, off, cap, k, rfl, hc, hk, hr⟩
 ·exact lv_first he l H
 ·rfl
 ·rfl
 ·rfl
 ·unfold firstV;dsimp only;have hl := rows_length he l;split
  ·rename_i h0;rw [List.length_eq_zero_iff.1 (hl.trans h0)]
  ·rename_i h0;rw [cellsAt_eq, hk, Option.bind_some, hr, if_pos];have := congrArg List.length hr;rw [hl] at this;simp at this;omega
theorem clone_sl {m bytes : Nat} (he : ∀ x, (enc x).length = m) {H : Heap} {v : Value} {l : List α} (h : Sl H m v enc l) (h31 : l.length ≤ 2 ^ 31) (hby : bytes ≤ 2 ^ 10) :
  ∃ s' H', cloneV m bytes [v] H = .ok s' H' ∧ Own H H' m s' enc l ∧ Ext H H' := by
 unfold cloneV;dsimp only;rw [h.lenL];cases hl : l.length with
 | zero =>
  have := List.length_eq_zero_iff.1 hl;subst this;exact ⟨_, _, rfl, .inl ⟨rfl, .inr (.inr rfl)⟩, Ext.refl H⟩
 | succ n =>
  obtain ⟨s', H', h1, h2, h3, _⟩ := apR_own (bytes := bytes) he (Own.bare H H m) (Ext.refl H) (b := v) (l2 := l) (lenL_lenV h.lenL) (h.first he) (by simp; omega) hby;exact ⟨s', H', h1, by simpa using h2, h3⟩
theorem Star.more_own {H0 H H' : Heap} {L : List It} (h : Star H0 H L) {m : Nat} {s : Value} {l : List α} (ho : Own H H' m s enc l) (he : Ext H H') : ∃ o, Star H0 H' (L ++ [itRow o m s enc l]) := by
 obtain ⟨o, h1, h2⟩ := ho.toO;exact ⟨o, h.more_row he h1 fun b hb => ⟨h2 b hb, h1.lt b hb⟩⟩
end
theorem at2_0 (L : List It) (a b : It) : (L ++ [a, b])[L.length]? = some a := by simp
theorem at2_1 (L : List It) (a b : It) : (L ++ [a, b])[L.length + 1]? = some b := by rw [List.getElem?_append_right (by omega)]; simp
theorem take_snoc {α : Type} {l : List α} {j : Nat} {p : α} (h : l[j]? = some p) : l.take (j + 1) = l.take j ++ [p] := by
 rw [List.take_add_one, h]; rfl
theorem nrm_of {H H' : Heap} {r : Res Value} {v : Value} (h : r = .ok v H') : nrm .no H r = .ok v H' := by rw [h]; rfl
theorem Star.join2 {α : Type} {enc : α → List Value} {H0 H : Heap} {L : List It} {o : Option Nat} {m c : Nat} {s : Value} {l : List α} (pre : List Value) (h : Star H0 H (L ++ [itRow o m s enc l, itBlk c ⟨pre ++ [s], 1, false⟩])) : Star H0 H (L ++ [itBox c pre o m enc l]) := by
 have g := h.join L.length (L.length + 1) (L.length + 1) (by omega) (by omega) (at2_0 _ _ _) (at2_1 _ _ _);rw [show L ++ [itRow o m s enc l, itBlk c ⟨pre ++ [s], 1, false⟩] = (L ++ [itRow o m s enc l]) ++ [itBlk c ⟨pre ++ [s], 1, false⟩] by simp, List.take_left' (by simp), set_at_end] at g;exact g
end Go.Sw
end
section
set_option maxRecDepth 100000
set_option linter.unusedVariables false
namespace Go.Sw
noncomputable section
def line_Of (k : Nat) (call : Caller) (a0 : Value) (h : Heap) : Res Value :=
 (call F.slices_Clone_of_api_Glyph_api_Glyph [a0] h).bind fun v1 h2 =>
 (buildR Prog 164 [(0, v1)] h2).bind fun v3 h4 =>
 (boxR v3 h4).bind fun v5 h6 =>
 .ok v5 h6
theorem line_Of_R (k : Nat) (a0 : Value) (h : Heap) : R (T k) F.line_Of [a0] h = nrm .no h (line_Of k (R (T k)) a0 h) :=
 (R_body (t := T k) (T_scott k) (by kernel_rfl) (by kernel_rfl) _ _).trans (by kernel_rfl)
def line_Line_Turn (k : Nat) (call : Caller) (a0 : Value) (h : Heap) : Res Value :=
 (nilR a0 h).bind fun v1 h2 =>
 (fieldAddrR Prog 164 v1 0 h2).bind fun v3 h4 =>
 (loadR Prog 22 v3 h4).bind fun v5 h6 =>
 (call F.slices_Reverse_of_api_Glyph_api_Glyph [v5] h6).bind fun v7 h8 =>
 .ok (.tuple #[]) h8
theorem line_Line_Turn_R (k : Nat) (a0 : Value) (h : Heap) : R (T k) F.line_Line_Turn [a0] h = nrm .no h (line_Line_Turn k (R (T k)) a0 h) :=
 (R_body (t := T k) (T_scott k) (by kernel_rfl) (by kernel_rfl) _ _).trans (by kernel_rfl)
def line_Line_Glyphs (k : Nat) (call : Caller) (a0 : Value) (h : Heap) : Res Value :=
 (nilR a0 h).bind fun v1 h2 =>
 (fieldAddrR Prog 164 v1 0 h2).bind fun v3 h4 =>
 (loadR Prog 22 v3 h4).bind fun v5 h6 =>
 (call F.slices_Clone_of_api_Glyph_api_Glyph [v5] h6).bind fun v7 h8 =>
 .ok v7 h8
theorem line_Line_Glyphs_R (k : Nat) (a0 : Value) (h : Heap) : R (T k) F.line_Line_Glyphs [a0] h = nrm (own k) h (line_Line_Glyphs k (R (T k)) a0 h) :=
 (R_body (t := T k) (T_scott k) (by kernel_rfl) (by kernel_rfl) _ _).trans (by kernel_rfl)
def line_Line_Clean (k : Nat) (call : Caller) (a0 : Value) (h : Heap) : Res Value :=
 (nilR a0 h).bind fun v1 h2 =>
 (fieldAddrR Prog 164 v1 0 h2).bind fun v3 h4 =>
 (loadR Prog 22 v3 h4).bind fun v5 h6 =>
 (call F.slices_DeleteFunc_of_api_Glyph_api_Glyph [v5, (.func (.func F.line_Line_Clean_in1) #[] #[])] h6).bind fun v7 h8 =>
 (nilR a0 h8).bind fun v9 h10 =>
 (fieldAddrR Prog 164 v9 0 h10).bind fun v11 h12 =>
 (storeR Prog 22 v11 v7 h12).bind fun _v13 h14 =>
 .ok (.tuple #[]) h14
theorem line_Line_Clean_R (k : Nat) (a0 : Value) (h : Heap) : R (T k) F.line_Line_Clean [a0] h = nrm .no h (line_Line_Clean k (R (T k)) a0 h) :=
 (R_body (t := T k) (T_scott k) (by kernel_rfl) (by kernel_rfl) _ _).trans (by kernel_rfl)
def line_Line_Insert_j1 (k : Nat) (call : Caller) (a0 a1 a2 a7 : Value) (h : Heap) : Res Value :=
 kSeq (pieceK (C k) call F.line_Line_Insert [1, 1, 1, 1]) (kDone Prog (resOf Prog F.line_Line_Insert)) .normal [(0, a0), (1, a1), (2, a2), (7, a7)] h
def line_Line_Insert_j2 (k : Nat) (call : Caller) (a0 a1 a2 a7 a30 : Value) (h : Heap) : Res Value :=
 kSeq (pieceK (C k) call F.line_Line_Insert [1, 1, 1, 1]) (kDone Prog (resOf Prog F.line_Line_Insert)) .normal [(0, a0), (1, a1), (2, a2), (7, a7), (30, a30)] h
def line_Line_Insert_l1 (k : Nat) (call : Caller) : Env → Heap → Res (AExit × Env) := loopB (C k) call F.line_Line_Insert [1, 1, 1, 1, 1, 0, 1, 0, 0]
def line_Line_Insert_l1k (k : Nat) (call : Caller) : Kont Value := kBlock 0 (kSeq (pieceK (C k) call F.line_Line_Insert [1, 1, 1, 1, 1, 1]) (kDone Prog (resOf Prog F.line_Line_Insert)))
def line_Line_Insert (k : Nat) (call : Caller) (a0 a1 a2 : Value) (h : Heap) : Res Value :=
 (binR Prog .lss 3 a1 (.int .i64 0) h).bind fun v1 h2 =>
 ((bif wantVal v1 false then Res.ok a1 h2 else Res.ok undef h2)).bind fun v3 h4 =>
 ((bif wantVal v1 false then Res.ok a0 h4 else Res.ok undef h4)).bind fun v5 h6 =>
 ((bif wantVal v1 false then nilR v5 h6 else Res.ok undef h6)).bind fun v7 h8 =>
 ((bif wantVal v1 false then fieldAddrR Prog 164 v7 0 h8 else Res.ok undef h8)).bind fun v9 h10 =>
 ((bif wantVal v1 false then loadR Prog 22 v9 h10 else Res.ok undef h10)).bind fun v11 h12 =>
 ((bif wantVal v1 false then builtinV Prog .len [22] [v11] h12 else Res.ok undef h12)).bind fun v13 h14 =>
 ((bif wantVal v1 false then binR Prog .gtr 3 v3 v13 h14 else Res.ok undef h14)).bind fun v15 h16 =>
 (condV (some v1) (Res.ok (.bool true) h16) (Res.ok v15 h16)).bind fun v17 h18 =>
 condV (some v17) (
 .ok (.bool false) h18)
 (
 (call F.line_Line_At [a0, a1] h18).bind fun v19 h20 =>
 (extractR v19 0 h20).bind fun v21 h22 =>
 (extractR v19 1 h22).bind fun v23 h24 =>
 (allocR Prog 57 h24).bind fun v25 h26 =>
 (storeR Prog 57 v25 v21 h26).bind fun _v27 h28 =>
 (unR .not v23 h28).bind fun v29 h30 =>
 condV (some v29) (
 (binR Prog .sub 3 a1 (.int .i64 1) h30).bind fun v31 h32 =>
 (call F.line_Line_At [a0, v31] h32).bind fun v33 h34 =>
 (extractR v33 0 h34).bind fun v35 h36 =>
 (extractR v33 1 h36).bind fun v37 h38 =>
 (storeR Prog 57 v25 v35 h38).bind fun _v39 h40 =>
 line_Line_Insert_j1 k call a0 a1 a2 v25 h40)
 (
 line_Line_Insert_j2 k call a0 a1 a2 v25 v29 h30))
theorem line_Line_Insert_R (k : Nat) (a0 a1 a2 : Value) (h : Heap) : R (T k) F.line_Line_Insert [a0, a1, a2] h = nrm .no h (line_Line_Insert k (R (T k)) a0 a1 a2 h) :=
 (R_body (t := T k) (T_scott k) (by kernel_rfl) (by kernel_rfl) _ _).trans (by kernel_rfl)
theorem line_Line_Insert_j1_eq (k : Nat) (call : Caller) (a0 a1 a2 a7 : Value) (h : Heap) : line_Line_Insert_j1 k call a0 a1 a2 a7 h =
 (builtinV Prog .len [23] [a2] h).bind fun v41 h42 =>
 (loopN (line_Line_Insert_l1 k call) loopFuel [(0, a0), (1, a1), (7, a7), (9, (.slice none 0 0)), (38, a2), (39, v41), (40, (.int .i64 0))] h42).bind fun r43 h44 =>
 line_Line_Insert_l1k k call r43.1 r43.2 h44 := by kernel_rfl
theorem line_Line_Insert_j2_eq (k : Nat) (call : Caller) (a0 a1 a2 a7 a30 : Value) (h : Heap) : line_Line_Insert_j2 k call a0 a1 a2 a7 a30 h =
 (builtinV Prog .len [23] [a2] h).bind fun v45 h46 =>
 (loopN (line_Line_Insert_l1 k call) loopFuel [(0, a0), (1, a1), (7, a7), (9, (.slice none 0 0)), (38, a2), (39, v45), (40, (.int .i64 0))] h46).bind fun r47 h48 =>
 line_Line_Insert_l1k k call r47.1 r47.2 h48 := by kernel_rfl
theorem line_Line_Insert_l1_eq (k : Nat) (call : Caller) (a0 a1 a7 a9 a38 a39 a40 : Value) (h : Heap) : line_Line_Insert_l1 k call [(0, a0), (1, a1), (7, a7), (9, a9), (38, a38), (39, a39), (40, a40)] h =
 (binR Prog .lss 3 a40 a39 h).bind fun v49 h50 =>
 condV (some v49) (
 (indexAddrR Prog 23 a38 a40 h50).bind fun v51 h52 =>
 (loadR Prog 3 v51 h52).bind fun v53 h54 =>
 (fieldAddrR Prog 57 a7 1 h54).bind fun v55 h56 =>
 (loadR Prog 3 v55 h56).bind fun v57 h58 =>
 (buildR Prog 57 [(0, v53), (1, v57)] h58).bind fun v59 h60 =>
 (buildSliceR Prog 22 1 [(0, v59)] h60).bind fun v61 h62 =>
 (builtinV Prog .append [22, 22] [a9, v61] h62).bind fun v63 h64 =>
 (binR Prog .add 3 a40 (.int .i64 1) h64).bind fun v65 h66 =>
 .ok (.normal, [(0, a0), (1, a1), (7, a7), (9, v63), (38, a38), (39, a39), (40, v65)]) h66)
 (
 .ok ((.exit 0), [(0, a0), (1, a1), (7, a7), (9, a9), (38, a38), (39, a39), (40, a40), (41, v49)]) h50) :=
 (loopB_eq _ _).trans (by kernel_rfl)
theorem line_Line_Insert_l1k_x0 (k : Nat) (call : Caller) (a0 a1 a7 a9 a38 a39 a40 a41 : Value) (h : Heap) : line_Line_Insert_l1k k call (.exit 0) [(0, a0), (1, a1), (7, a7), (9, a9), (38, a38), (39, a39), (40, a40), (41, a41)] h =
 (nilR a0 h).bind fun v67 h68 =>
 (fieldAddrR Prog 164 v67 0 h68).bind fun v69 h70 =>
 (loadR Prog 22 v69 h70).bind fun v71 h72 =>
 (call F.slices_Insert_of_api_Glyph_api_Glyph [v71, a1, a9] h72).bind fun v73 h74 =>
 (nilR a0 h74).bind fun v75 h76 =>
 (fieldAddrR Prog 164 v75 0 h76).bind fun v77 h78 =>
 (storeR Prog 22 v77 v73 h78).bind fun _v79 h80 =>
 .ok (.bool true) h80 := by kernel_rfl
def line_Line_At (k : Nat) (call : Caller) (a0 a1 : Value) (h : Heap) : Res Value :=
 (allocR Prog 57 h).bind fun v1 h2 =>
 (call F.line_Line_in [a0, a1] h2).bind fun v3 h4 =>
 (unR .not v3 h4).bind fun v5 h6 =>
 condV (some v5) (
 (buildR Prog 57 [] h6).bind fun v7 h8 =>
 (storeR Prog 57 v1 v7 h8).bind fun _v9 h10 =>
 (loadR Prog 57 v1 h10).bind fun v11 h12 =>
 .ok (.tuple #[v11, (.bool false)]) h12)
 (
 (nilR a0 h6).bind fun v13 h14 =>
 (fieldAddrR Prog 164 v13 0 h14).bind fun v15 h16 =>
 (loadR Prog 22 v15 h16).bind fun v17 h18 =>
 (indexAddrR Prog 22 v17 a1 h18).bind fun v19 h20 =>
 (loadR Prog 57 v19 h20).bind fun v21 h22 =>
 (storeR Prog 57 v1 v21 h22).bind fun _v23 h24 =>
 (loadR Prog 57 v1 h24).bind fun v25 h26 =>
 .ok (.tuple #[v25, (.bool true)]) h26)
theorem line_Line_At_R (k : Nat) (a0 a1 : Value) (h : Heap) : R (T k) F.line_Line_At [a0, a1] h = nrm .gc h (line_Line_At k (R (T k)) a0 a1 h) :=
 (R_body (t := T k) (T_scott k) (by kernel_rfl) (by kernel_rfl) _ _).trans (by kernel_rfl)
def line_Line_Clean_in1 (k : Nat) (call : Caller) (a0 : Value) (h : Heap) : Res Value :=
 (boxR a0 h).bind fun v1 h2 =>
 (fieldAddrR Prog 57 v1 0 h2).bind fun v3 h4 =>
 (loadR Prog 3 v3 h4).bind fun v5 h6 =>
 (binR Prog .eql 3 v5 (.int .i64 65535) h6).bind fun v7 h8 =>
 .ok v7 h8
theorem line_Line_Clean_in1_R (k : Nat) (a0 : Value) (h : Heap) : R (T k) F.line_Line_Clean_in1 [a0] h = nrm .no h (line_Line_Clean_in1 k (R (T k)) a0 h) :=
 (R_body (t := T k) (T_scott k) (by kernel_rfl) (by kernel_rfl) _ _).trans (by kernel_rfl)
def line_Line_in (k : Nat) (call : Caller) (a0 a1 : Value) (h : Heap) : Res Value :=
 (binR Prog .geq 3 a1 (.int .i64 0) h).bind fun v1 h2 =>
 ((bif wantVal v1 true then Res.ok a1 h2 else Res.ok undef h2)).bind fun v3 h4 =>
 ((bif wantVal v1 true then Res.ok a0 h4 else Res.ok undef h4)).bind fun v5 h6 =>
 ((bif wantVal v1 true then nilR v5 h6 else Res.ok undef h6)).bind fun v7 h8 =>
 ((bif wantVal v1 true then fieldAddrR Prog 164 v7 0 h8 else Res.ok undef h8)).bind fun v9 h10 =>
 ((bif wantVal v1 true then loadR Prog 22 v9 h10 else Res.ok undef h10)).bind fun v11 h12 =>
 ((bif wantVal v1 true then builtinV Prog .len [22] [v11] h12 else Res.ok undef h12)).bind fun v13 h14 =>
 ((bif wantVal v1 true then binR Prog .lss 3 v3 v13 h14 else Res.ok undef h14)).bind fun v15 h16 =>
 (condV (some v1) (Res.ok v15 h16) (Res.ok (.bool false) h16)).bind fun v17 h18 =>
 .ok v17 h18
theorem line_Line_in_R (k : Nat) (a0 a1 : Value) (h : Heap) : R (T k) F.line_Line_in [a0, a1] h = nrm .gc h (line_Line_in k (R (T k)) a0 a1 h) :=
 (R_body (t := T k) (T_scott k) (by kernel_rfl) (by kernel_rfl) _ _).trans (by kernel_rfl)
end
end Go.Sw
end
section
set_option maxRecDepth 100000
set_option linter.unusedVariables false
namespace Go.Sw
noncomputable section
def slices_Clone_of_api_Glyph_api_Glyph (k : Nat) (call : Caller) (a0 : Value) (h : Heap) : Res Value :=
 (binR Prog .eql 22 a0 (.slice none 0 0) h).bind fun v1 h2 =>
 condV (some v1) (
 .ok (.slice none 0 0) h2)
 (
 (buildSliceR Prog 22 0 [] h2).bind fun v3 h4 =>
 (builtinV Prog .append [22, 22] [v3, a0] h4).bind fun v5 h6 =>
 .ok v5 h6)
theorem slices_Clone_of_api_Glyph_api_Glyph_body (k : Nat) (sp : FuncId → Option Sp) (call : Caller) (a0 : Value) (h : Heap) : bodyK { P := Prog, kp := kpS, sp := sp } call F.slices_Clone_of_api_Glyph_api_Glyph [a0] h = slices_Clone_of_api_Glyph_api_Glyph k call a0 h := by kernel_rfl
def slices_Reverse_of_api_Glyph_api_Glyph_l1 (k : Nat) (call : Caller) : Env → Heap → Res (AExit × Env) := loopB (C k) call F.slices_Reverse_of_api_Glyph_api_Glyph [1, 0, 0]
def slices_Reverse_of_api_Glyph_api_Glyph_l1k (k : Nat) (call : Caller) : Kont Value := kBlock 0 (kDone Prog (resOf Prog F.slices_Reverse_of_api_Glyph_api_Glyph))
def slices_Reverse_of_api_Glyph_api_Glyph (k : Nat) (call : Caller) (a0 : Value) (h : Heap) : Res Value :=
 (builtinV Prog .len [22] [a0] h).bind fun v1 h2 =>
 (binR Prog .sub 3 v1 (.int .i64 1) h2).bind fun v3 h4 =>
 (loopN (slices_Reverse_of_api_Glyph_api_Glyph_l1 k call) loopFuel [(0, a0), (2, (.int .i64 0)), (3, v3)] h4).bind fun r5 h6 =>
 slices_Reverse_of_api_Glyph_api_Glyph_l1k k call r5.1 r5.2 h6
theorem slices_Reverse_of_api_Glyph_api_Glyph_R (k : Nat) (a0 : Value) (h : Heap) : R (T k) F.slices_Reverse_of_api_Glyph_api_Glyph [a0] h = nrm .no h (slices_Reverse_of_api_Glyph_api_Glyph k (R (T k)) a0 h) :=
 (R_body (t := T k) (T_scott k) (by kernel_rfl) (by kernel_rfl) _ _).trans (by kernel_rfl)
theorem slices_Reverse_of_api_Glyph_api_Glyph_l1_eq (k : Nat) (call : Caller) (a0 a2 a3 : Value) (h : Heap) : slices_Reverse_of_api_Glyph_api_Glyph_l1 k call [(0, a0), (2, a2), (3, a3)] h =
 (binR Prog .lss 3 a2 a3 h).bind fun v7 h8 =>
 condV (some v7) (
 (indexAddrR Prog 22 a0 a3 h8).bindN fun v9 h10 =>
 (loadR Prog 57 v9 h10).bindN fun v11 h12 =>
 (indexAddrR Prog 22 a0 a2 h12).bindN fun v13 h14 =>
 (loadR Prog 57 v13 h14).bindN fun v15 h16 =>
 (indexAddrR Prog 22 a0 a2 h16).bindN fun v17 h18 =>
 (storeR Prog 57 v17 v11 h18).bindN fun _v19 h20 =>
 (indexAddrR Prog 22 a0 a3 h20).bindN fun v21 h22 =>
 (storeR Prog 57 v21 v15 h22).bindN fun _v23 h24 =>
 (binR Prog .add 3 a2 (.int .i64 1) h24).bind fun v25 h26 =>
 (binR Prog .sub 3 a3 (.int .i64 1) h26).bind fun v27 h28 =>
 .ok (.normal, [(0, a0), (2, v25), (3, v27)]) h28)
 (
 .ok ((.exit 0), [(0, a0), (2, a2), (3, a3), (9, v7)]) h8) :=
 (loopB_eq _ _).trans (by kernel_rfl)
theorem slices_Reverse_of_api_Glyph_api_Glyph_l1k_x0 (k : Nat) (call : Caller) (a0 a2 a3 a9 : Value) (h : Heap) : slices_Reverse_of_api_Glyph_api_Glyph_l1k k call (.exit 0) [(0, a0), (2, a2), (3, a3), (9, a9)] h =
 .ok (.tuple #[]) h := by kernel_rfl
def slices_DeleteFunc_of_api_Glyph_api_Glyph_l1 (k : Nat) (call : Caller) : Env → Heap → Res (AExit × Env) := loopB (C k) call F.slices_DeleteFunc_of_api_Glyph_api_Glyph [1, 1, 1, 0, 1, 0, 0]
def slices_DeleteFunc_of_api_Glyph_api_Glyph_l1k (k : Nat) (call : Caller) : Kont Value := kBlock 0 (kSeq (pieceK (C k) call F.slices_DeleteFunc_of_api_Glyph_api_Glyph [1, 1, 1, 1]) (kDone Prog (resOf Prog F.slices_DeleteFunc_of_api_Glyph_api_Glyph)))
def slices_DeleteFunc_of_api_Glyph_api_Glyph_j1 (k : Nat) (call : Caller) (a0 a1 a5 a6 : Value) (h : Heap) : Res (AExit × Env) :=
 kSeq (pieceK (C k) call F.slices_DeleteFunc_of_api_Glyph_api_Glyph [1, 1, 1, 0, 1, 0, 0, 1, 1]) (kRound (ownOf (C k) F.slices_DeleteFunc_of_api_Glyph_api_Glyph [1, 1, 1, 0, 1, 0, 0])) .normal [(0, a0), (1, a1), (5, a5), (6, a6)] h
def slices_DeleteFunc_of_api_Glyph_api_Glyph_j2 (k : Nat) (call : Caller) (a0 a1 a5 a6 a7 a29 : Value) (h : Heap) : Res (AExit × Env) :=
 kSeq (pieceK (C k) call F.slices_DeleteFunc_of_api_Glyph_api_Glyph [1, 1, 1, 0, 1, 0, 0, 1, 1]) (kRound (ownOf (C k) F.slices_DeleteFunc_of_api_Glyph_api_Glyph [1, 1, 1, 0, 1, 0, 0])) .normal [(0, a0), (1, a1), (5, a5), (6, a6), (7, a7), (29, a29)] h
def slices_DeleteFunc_of_api_Glyph_api_Glyph (k : Nat) (call : Caller) (a0 a1 : Value) (h : Heap) : Res Value :=
 (call F.slices_IndexFunc_of_api_Glyph_api_Glyph [a0, a1] h).bind fun v1 h2 =>
 (binR Prog .eql 3 v1 (.int .i64 (-1)) h2).bind fun v3 h4 =>
 condV (some v3) (
 .ok a0 h4)
 (
 (binR Prog .add 3 v1 (.int .i64 1) h4).bind fun v5 h6 =>
 (loopN (slices_DeleteFunc_of_api_Glyph_api_Glyph_l1 k call) loopFuel [(0, a0), (1, a1), (5, v1), (6, v5)] h6).bind fun r7 h8 =>
 slices_DeleteFunc_of_api_Glyph_api_Glyph_l1k k call r7.1 r7.2 h8)
theorem slices_DeleteFunc_of_api_Glyph_api_Glyph_body (k : Nat) (sp : FuncId → Option Sp) (call : Caller) (a0 a1 : Value) (h : Heap) : bodyK { P := Prog, kp := kpS, sp := sp } call F.slices_DeleteFunc_of_api_Glyph_api_Glyph [a0, a1] h = slices_DeleteFunc_of_api_Glyph_api_Glyph k call a0 a1 h := by kernel_rfl
theorem slices_DeleteFunc_of_api_Glyph_api_Glyph_l1_eq (k : Nat) (call : Caller) (a0 a1 a5 a6 : Value) (h : Heap) : slices_DeleteFunc_of_api_Glyph_api_Glyph_l1 k call [(0, a0), (1, a1), (5, a5), (6, a6)] h =
 (builtinV Prog .len [22] [a0] h).bind fun v9 h10 =>
 (binR Prog .lss 3 a6 v9 h10).bind fun v11 h12 =>
 condV (some v11) (
 (indexAddrR Prog 22 a0 a6 h12).bind fun v13 h14 =>
 (loadR Prog 57 v13 h14).bind fun v15 h16 =>
 (allocR Prog 57 h16).bind fun v17 h18 =>
 (storeR Prog 57 v17 v15 h18).bind fun _v19 h20 =>
 (loadR Prog 57 v17 h20).bind fun v21 h22 =>
 (callV call a1 [v21] h22).bind fun v23 h24 =>
 (unR .not v23 h24).bind fun v25 h26 =>
 condV (some v25) (
 (loadR Prog 57 v17 h26).bind fun v27 h28 =>
 (indexAddrR Prog 22 a0 a5 h28).bind fun v29 h30 =>
 (storeR Prog 57 v29 v27 h30).bind fun _v31 h32 =>
 (binR Prog .add 3 a5 (.int .i64 1) h32).bind fun v33 h34 =>
 slices_DeleteFunc_of_api_Glyph_api_Glyph_j1 k call a0 a1 v33 a6 h34)
 (
 slices_DeleteFunc_of_api_Glyph_api_Glyph_j2 k call a0 a1 a5 a6 v17 v25 h26))
 (
 .ok ((.exit 0), [(0, a0), (1, a1), (5, a5), (6, a6), (19, v11)]) h12) :=
 (loopB_eq _ _).trans (by kernel_rfl)
theorem slices_DeleteFunc_of_api_Glyph_api_Glyph_j1_eq (k : Nat) (call : Caller) (a0 a1 a5 a6 : Value) (h : Heap) : slices_DeleteFunc_of_api_Glyph_api_Glyph_j1 k call a0 a1 a5 a6 h =
 (binR Prog .add 3 a6 (.int .i64 1) h).bind fun v35 h36 =>
 .ok (.normal, [(0, a0), (1, a1), (5, a5), (6, v35)]) h36 := by kernel_rfl
theorem slices_DeleteFunc_of_api_Glyph_api_Glyph_j2_eq (k : Nat) (call : Caller) (a0 a1 a5 a6 a7 a29 : Value) (h : Heap) : slices_DeleteFunc_of_api_Glyph_api_Glyph_j2 k call a0 a1 a5 a6 a7 a29 h =
 (binR Prog .add 3 a6 (.int .i64 1) h).bind fun v37 h38 =>
 .ok (.normal, [(0, a0), (1, a1), (5, a5), (6, v37)]) h38 := by kernel_rfl
theorem slices_DeleteFunc_of_api_Glyph_api_Glyph_l1k_x0 (k : Nat) (call : Caller) (a0 a1 a5 a6 a19 : Value) (h : Heap) : slices_DeleteFunc_of_api_Glyph_api_Glyph_l1k k call (.exit 0) [(0, a0), (1, a1), (5, a5), (6, a6), (19, a19)] h =
 (sliceR Prog 22 a0 (some a5) none none h).bind fun v39 h40 =>
 (builtinV Prog .clear [22] [v39] h40).bind fun _v41 h42 =>
 (sliceR Prog 22 a0 none (some a5) none h42).bind fun v43 h44 =>
 .ok v43 h44 := by kernel_rfl
def slices_Clone_of_api_Place_api_Place (k : Nat) (call : Caller) (a0 : Value) (h : Heap) : Res Value :=
 (binR Prog .eql 98 a0 (.slice none 0 0) h).bind fun v1 h2 =>
 condV (some v1) (
 .ok (.slice none 0 0) h2)
 (
 (buildSliceR Prog 98 0 [] h2).bind fun v3 h4 =>
 (builtinV Prog .append [98, 98] [v3, a0] h4).bind fun v5 h6 =>
 .ok v5 h6)
theorem slices_Clone_of_api_Place_api_Place_body (k : Nat) (sp : FuncId → Option Sp) (call : Caller) (a0 : Value) (h : Heap) : bodyK { P := Prog, kp := kpS, sp := sp } call F.slices_Clone_of_api_Place_api_Place [a0] h = slices_Clone_of_api_Place_api_Place k call a0 h := by kernel_rfl
def slices_Clone_of_sfnt_Part_sfnt_Part (k : Nat) (call : Caller) (a0 : Value) (h : Heap) : Res Value :=
 (binR Prog .eql 142 a0 (.slice none 0 0) h).bind fun v1 h2 =>
 condV (some v1) (
 .ok (.slice none 0 0) h2)
 (
 (buildSliceR Prog 142 0 [] h2).bind fun v3 h4 =>
 (builtinV Prog .append [142, 142] [v3, a0] h4).bind fun v5 h6 =>
 .ok v5 h6)
theorem slices_Clone_of_sfnt_Part_sfnt_Part_body (k : Nat) (sp : FuncId → Option Sp) (call : Caller) (a0 : Value) (h : Heap) : bodyK { P := Prog, kp := kpS, sp := sp } call F.slices_Clone_of_sfnt_Part_sfnt_Part [a0] h = slices_Clone_of_sfnt_Part_sfnt_Part k call a0 h := by kernel_rfl
def slices_IndexFunc_of_api_Glyph_api_Glyph_l1 (k : Nat) (call : Caller) : Env → Heap → Res (AExit × Env) := loopB (C k) call F.slices_IndexFunc_of_api_Glyph_api_Glyph [1, 0, 1, 0, 0]
def slices_IndexFunc_of_api_Glyph_api_Glyph_l1k (k : Nat) (call : Caller) : Kont Value := kBlock 0 (kSeq (pieceK (C k) call F.slices_IndexFunc_of_api_Glyph_api_Glyph [1, 1]) (kDone Prog (resOf Prog F.slices_IndexFunc_of_api_Glyph_api_Glyph)))
def slices_IndexFunc_of_api_Glyph_api_Glyph (k : Nat) (call : Caller) (a0 a1 : Value) (h : Heap) : Res Value :=
 (builtinV Prog .len [22] [a0] h).bind fun v1 h2 =>
 (loopN (slices_IndexFunc_of_api_Glyph_api_Glyph_l1 k call) loopFuel [(0, a0), (1, a1), (7, v1), (8, (.int .i64 0))] h2).bind fun r3 h4 =>
 slices_IndexFunc_of_api_Glyph_api_Glyph_l1k k call r3.1 r3.2 h4
theorem slices_IndexFunc_of_api_Glyph_api_Glyph_R (k : Nat) (a0 a1 : Value) (h : Heap) : R (T k) F.slices_IndexFunc_of_api_Glyph_api_Glyph [a0, a1] h = nrm .no h (slices_IndexFunc_of_api_Glyph_api_Glyph k (R (T k)) a0 a1 h) :=
 (R_body (t := T k) (T_scott k) (by kernel_rfl) (by kernel_rfl) _ _).trans (by kernel_rfl)
theorem slices_IndexFunc_of_api_Glyph_api_Glyph_l1_eq (k : Nat) (call : Caller) (a0 a1 a7 a8 : Value) (h : Heap) : slices_IndexFunc_of_api_Glyph_api_Glyph_l1 k call [(0, a0), (1, a1), (7, a7), (8, a8)] h =
 (binR Prog .lss 3 a8 a7 h).bind fun v5 h6 =>
 condV (some v5) (
 (indexAddrR Prog 22 a0 a8 h6).bind fun v7 h8 =>
 (loadR Prog 57 v7 h8).bind fun v9 h10 =>
 (callV call a1 [v9] h10).bind fun v11 h12 =>
 condV (some v11) (
 .ok (.ret, [(4, a8)]) h12)
 (
 (binR Prog .add 3 a8 (.int .i64 1) h12).bind fun v13 h14 =>
 .ok (.normal, [(0, a0), (1, a1), (7, a7), (8, v13)]) h14))
 (
 .ok ((.exit 0), [(0, a0), (1, a1), (7, a7), (8, a8), (9, v5)]) h6) :=
 (loopB_eq _ _).trans (by kernel_rfl)
theorem slices_IndexFunc_of_api_Glyph_api_Glyph_l1k_r (k : Nat) (call : Caller) (a4 : Value) (h : Heap) : slices_IndexFunc_of_api_Glyph_api_Glyph_l1k k call .ret [(4, a4)] h =
 .ok a4 h := by kernel_rfl
theorem slices_IndexFunc_of_api_Glyph_api_Glyph_l1k_x0 (k : Nat) (call : Caller) (a0 a1 a7 a8 a9 : Value) (h : Heap) : slices_IndexFunc_of_api_Glyph_api_Glyph_l1k k call (.exit 0) [(0, a0), (1, a1), (7, a7), (8, a8), (9, a9)] h =
 .ok (.int .i64 (-1)) h := by kernel_rfl
end
end Go.Sw
end
section
set_option maxRecDepth 100000
set_option linter.unusedVariables false
namespace Go.Sw
noncomputable section
def swashref11_Same_l1 (k : Nat) (call : Caller) : Env → Heap → Res (AExit × Env) := loopB (C k) call F.swashref11_Same [1, 1, 0, 1, 0, 0]
def swashref11_Same_l1k (k : Nat) (call : Caller) : Kont Value := kBlock 0 (kSeq (pieceK (C k) call F.swashref11_Same [1, 1, 1]) (kDone Prog (resOf Prog F.swashref11_Same)))
def swashref11_Same (k : Nat) (call : Caller) (a0 a1 : Value) (h : Heap) : Res Value :=
 (builtinV Prog .len [22] [a0] h).bind fun v1 h2 =>
 (builtinV Prog .len [22] [a1] h2).bind fun v3 h4 =>
 (binR Prog .neq 3 v1 v3 h4).bind fun v5 h6 =>
 condV (some v5) (
 .ok (.bool false) h6)
 (
 (loopN (swashref11_Same_l1 k call) loopFuel [(0, a0), (1, a1), (5, (.int .i64 0))] h6).bind fun r7 h8 =>
 swashref11_Same_l1k k call r7.1 r7.2 h8)
theorem swashref11_Same_R (k : Nat) (a0 a1 : Value) (h : Heap) : R (T k) F.swashref11_Same [a0, a1] h = nrm .fz h (swashref11_Same k (R (T k)) a0 a1 h) :=
 (R_body (t := T k) (T_scott k) (by kernel_rfl) (by kernel_rfl) _ _).trans (by kernel_rfl)
theorem swashref11_Same_l1_eq (k : Nat) (call : Caller) (a0 a1 a5 : Value) (h : Heap) : swashref11_Same_l1 k call [(0, a0), (1, a1), (5, a5)] h =
 (builtinV Prog .len [22] [a0] h).bind fun v9 h10 =>
 (binR Prog .lss 3 a5 v9 h10).bind fun v11 h12 =>
 condV (some v11) (
 (indexAddrR Prog 22 a0 a5 h12).bindN fun v13 h14 =>
 (loadR Prog 57 v13 h14).bindN fun v15 h16 =>
 (indexAddrR Prog 22 a1 a5 h16).bindN fun v17 h18 =>
 (loadR Prog 57 v17 h18).bindN fun v19 h20 =>
 (binR Prog .neq 57 v15 v19 h20).bindN fun v21 h22 =>
 condV (some v21) (
 .ok (.ret, [(4, (.bool false))]) h22)
 (
 (binR Prog .add 3 a5 (.int .i64 1) h22).bind fun v23 h24 =>
 .ok (.normal, [(0, a0), (1, a1), (5, v23)]) h24))
 (
 .ok ((.exit 0), [(0, a0), (1, a1), (5, a5), (14, v11)]) h12) :=
 (loopB_eq _ _).trans (by kernel_rfl)
theorem swashref11_Same_l1k_r (k : Nat) (call : Caller) (a4 : Value) (h : Heap) : swashref11_Same_l1k k call .ret [(4, a4)] h =
 .ok a4 h := by kernel_rfl
theorem swashref11_Same_l1k_x0 (k : Nat) (call : Caller) (a0 a1 a5 a14 : Value) (h : Heap) : swashref11_Same_l1k k call (.exit 0) [(0, a0), (1, a1), (5, a5), (14, a14)] h =
 .ok (.bool true) h := by kernel_rfl
end
end Go.Sw
end
section
namespace Go.Sw
open Go.RowKit
structure Gl where
 id : Int
 cl : Int
deriving DecidableEq
abbrev encG (g : Gl) : List Value := [.int .i64 g.id, .int .i64 g.cl]
theorem encG_len (g : Gl) : (encG g).length = 2 := rfl
theorem encG_still (l : List Gl) : ∀ p, p ∈ l → ∀ v, v ∈ encG p → Still v := fun p _ v hv => by
 simp [encG] at hv;rcases hv with rfl | rfl <;> trivial
theorem Flat.Gls (l : List Gl) : Flat (Go.Sw.lv encG l) := .lv fun p _ => .cons (.int _ _) (.cons (.int _ _) .nil)
abbrev itLine (c : Nat) (o : Option Nat) (l : List Gl) : It := itBox c [] o 2 encG l
abbrev ptrV (c : Nat) : Value := .pointer (some ⟨c, 0, none⟩)
theorem cloneG_R (k : Nat) {v s : Value} {H H' : Heap} (h : cloneV 2 16 [v] H = .ok s H') : R (T k) F.slices_Clone_of_api_Glyph_api_Glyph [v] H = .ok s H' :=
 (R_sp (t := T k) (T_scott k) (s := fun _ args H => cloneV 2 16 args H) (by kernel_rfl) [v] H).trans (by
  show nrm (mdS k F.slices_Clone_of_api_Glyph_api_Glyph) H _ = _;rw [show mdS k F.slices_Clone_of_api_Glyph_api_Glyph = .no from by kernel_rfl];exact nrm_of h)
theorem lineOf_star (k : Nat) {H0 H : Heap} {L : List It} (h : Star H0 H L) {v : Value} {l : List Gl} (hv : Sl H 2 v encG l) (hl : l.length ≤ 2 ^ 31) :
  ∃ c o H', R (T k) F.line_Of [v] H = .ok (ptrV c) H' ∧ Star H0 H' (L ++ [itLine c o l]) := by
 obtain ⟨s, H1, e1, o1, x1⟩ := clone_sl (bytes := 16) encG_len hv hl (by decide);obtain ⟨o, g⟩ := h.more_own o1 x1;have st := o1.toO.choose_spec.1.storable;have ce := o1.toO.choose_spec.1.cells;have g := g.push ⟨[s], 1, false⟩;rw [List.append_assoc] at g;have g := Star.join2 [] g;refine ⟨H1.n, o, _, ?_, g⟩;rw [line_Of_R];refine nrm_of ?_;simp -implicitDefEqProofs [line_Of, cloneG_R k e1, st, ce]
theorem lineIn_run (k : Nat) {H0 H : Heap} {L : List It} (h : Star H0 H L) (i : Nat) {c : Nat} {o : Option Nat} {l : List Gl} (hi : L[i]? = some (itLine c o l)) {H' : Heap} (hx : Ext H H') (j : Int) :
  R (T k) F.line_Line_in [ptrV c, .int .i64 j] H' = .ok (.bool (decide (0 ≤ j ∧ j < l.length))) H' := by
 obtain ⟨_, s, h1, h2⟩ := h.box i hi;simp at h1;have h1 := hx.get h1;rw [line_Line_in_R];refine nrm_gc ⟨H', ?_, Ext.refl H'⟩ (.bool _);by_cases hj : j ≥ 0
 ·simp -implicitDefEqProofs [line_Line_in, h1, h2.len, hj]
 ·simp -implicitDefEqProofs [line_Line_in, hj]
def atG (l : List Gl) (j : Int) : Option Gl := if 0 ≤ j ∧ j < l.length then l[j.toNat]? else none
def encA (o : Option Gl) : Value := .agg (encG (o.getD ⟨0, 0⟩)).toArray
theorem lineAt_run (k : Nat) {H0 H : Heap} {L : List It} (h : Star H0 H L) (i : Nat) {c : Nat} {o : Option Nat} {l : List Gl} (hi : L[i]? = some (itLine c o l)) (j : Int) :
  R (T k) F.line_Line_At [ptrV c, .int .i64 j] H = .ok (.tuple #[encA (atG l j), .bool (atG l j).isSome]) H := by
 obtain ⟨_, s, h1, h2⟩ := h.box i hi;simp at h1;have hx : Ext H (H.push ⟨[.int .i64 0, .int .i64 0], 1, false⟩) := (Ext.refl H).push _;have hin := lineIn_run k h i hi hx j;have hcn : ¬ c = H.n := by have := Heap.get_lt h1; omega
 rw [line_Line_At_R];have hfl : ∀ o, Flat (.tuple #[encA o, .bool o.isSome]) := fun o => .tupleL (.cons (.aggL (.cons (.int _ _) (.cons (.int _ _) .nil))) (.cons (.bool _) .nil));unfold atG;by_cases hj : 0 ≤ j ∧ j < l.length
 ·obtain ⟨n, rfl⟩ := Int.eq_ofNat_of_zero_le hj.1;obtain ⟨g, hg⟩ : ∃ g, l[n]? = some g := ⟨_, List.getElem?_eq_getElem (by omega)⟩
  obtain ⟨b, rfl, hs, hb, i1⟩ := h2.ix .i64 n (by omega);have hbn : ¬ b = H.n := by have := Heap.get_lt hb; omega
  have hld := fun (H' : Heap) (hH : H'.get b = some ⟨rows encG l, 2, false⟩) => ldA_row encG_len hH hg;rw [if_pos hj, Int.toNat_natCast, hg];refine nrm_gc ⟨H.push ⟨encG g, 1, false⟩, ?_, (Ext.refl H).push _⟩ (hfl (some g)).alive;have e2 : ldA 2 (.pointer (some ⟨H.n, 0, none⟩)) (H.push ⟨encG g, 1, false⟩) = .ok (.agg (encG g).toArray) (H.push ⟨encG g, 1, false⟩) := by simp
  rw [decide_eq_true hj] at hin;have e1 := hld (H.push ⟨[.int .i64 0, .int .i64 0], 1, false⟩) (by rw [get_push_ne _ _ _ hbn]; exact hb);simp -implicitDefEqProofs [-ldA_ptr, line_Line_At, hin, h1, hcn, i1, e1, e2];rfl
 ·rw [if_neg hj];refine nrm_gc ⟨_, ?_, hx⟩ (hfl none).alive;rw [decide_eq_false hj] at hin;simp -implicitDefEqProofs [line_Line_At, hin];rfl
theorem lineGlyphs_run (k : Nat) (hk : k < 1000000) {H0 H : Heap} {L : List It} (h : Star H0 H L) (i : Nat) {c : Nat} {o : Option Nat} {l : List Gl} (hi : L[i]? = some (itLine c o l)) (hl : l.length ≤ 2 ^ 31) : R (T k) F.line_Line_Glyphs [ptrV c] H = .ok (lv encG l) H := by
 obtain ⟨_, s, h1, h2⟩ := h.box i hi;simp at h1;have ho : own k = .fz := by unfold own; rw [show Nat.blt k 1000000 = true from Nat.ble_eq_true_of_le hk]; rfl
 obtain ⟨s', H1, e1, o1, x1⟩ := clone_sl (bytes := 16) encG_len (h2.sl encG_len) hl (by decide);obtain ⟨M, hf⟩ := o1.freeze encG_len (encG_still _) 6;rw [line_Line_Glyphs_R, ho];refine nrm_fz (v := s') (H' := H1) ?_ hf x1 (Flat.Gls l).alive;simp -implicitDefEqProofs [line_Line_Glyphs, h1, cloneG_R k e1]
theorem ReverseG_run (k : Nat) {H : Heap} {o : Option Nat} {s : Value} {l : List Gl} (h : OwnO H o 2 s encG l) (hl : l.length < 2 ^ 31) :
  ∃ H', R (T k) F.slices_Reverse_of_api_Glyph_api_Glyph [s] H = .ok (.tuple #[]) H' ∧ OwnO H' o 2 s encG l.reverse ∧ H'.n = H.n ∧ ∀ c, o ≠ some c → H'.get c = H.get c := by
 rw [slices_Reverse_of_api_Glyph_api_Glyph_R];have hlen := h.len;rcases h with ⟨h0, rfl, hs⟩ | ⟨b, rfl, rfl, hb⟩
 ·refine ⟨H, ?_, .inl ⟨h0, rfl, hs⟩, rfl, fun _ _ => rfl⟩
  obtain ⟨x, e', H1, hr, rfl, rfl, v, rfl⟩ := loop_up (body := slices_Reverse_of_api_Glyph_api_Glyph_l1 k (R (T k))) 0
   (fun _ e H' => H' = H ∧ e = [(0, s), (2, .int .i64 0), (3, .int .i64 (-1))]) (fun x e H' => H' = H ∧ x = .exit 0 ∧ ∃ v, e = [(0, s), (2, .int .i64 0), (3, .int .i64 (-1)), (9, v)]) (e0 := [(0, s), (2, .int .i64 0), (3, .int .i64 (-1))]) (H0 := H) ⟨rfl, rfl⟩ (by omega) (fun i _ _ hi _ => by omega)
   (fun e H' ⟨hH, he⟩ => by
    subst hH he;refine ⟨.exit 0, _, _, ?_, by simp, rfl, rfl, .bool false, rfl⟩;rw [slices_Reverse_of_api_Glyph_api_Glyph_l1_eq];simp -implicitDefEqProofs)
  simp -implicitDefEqProofs [slices_Reverse_of_api_Glyph_api_Glyph, hlen, hr, slices_Reverse_of_api_Glyph_api_Glyph_l1k_x0]
 ·have ix : ∀ (i : Nat) (H' : Heap), i < l.length → ixS 2 (.slice (some ⟨b, 0, none⟩) l.length l.length) (.int .i64 i) H' = .ok (.pointer (some ⟨b, i * 2, none⟩)) H' := fun i H' hi => by
   unfold ixS;dsimp only;rw [if_pos ⟨by omega, by omega⟩];simp
  obtain ⟨x, e', H1, hr, rfl, ⟨a1, v, rfl⟩, a2, a3⟩ := loop_up (body := slices_Reverse_of_api_Glyph_api_Glyph_l1 k (R (T k))) (l.length / 2)
   (fun i e H' => e = [(0, .slice (some ⟨b, 0, none⟩) l.length l.length), (2, .int .i64 i), (3, .int .i64 (l.length - 1 - i))] ∧ (∃ r, RevTo l r i ∧ H'.get b = some ⟨rows encG r, 2, false⟩) ∧ H'.n = H.n ∧ ∀ c, c ≠ b → H'.get c = H.get c)
   (fun x e H' => x = .exit 0 ∧ (∃ a v, e = [(0, .slice (some ⟨b, 0, none⟩) l.length l.length), (2, a), (3, v), (9, .bool false)]) ∧ H'.get b = some ⟨rows encG l.reverse, 2, false⟩ ∧ H'.n = H.n ∧ ∀ c, c ≠ b → H'.get c = H.get c)
   (e0 := [(0, .slice (some ⟨b, 0, none⟩) l.length l.length), (2, .int .i64 0), (3, .int .i64 (l.length - 1))]) (H0 := H) ⟨by simp, ⟨l, .zero l, hb⟩, rfl, fun _ _ => rfl⟩ (by omega)
   (fun i e H' hi ⟨he, ⟨r, hr, hg⟩, hn, hk⟩ => by
    subst he;obtain ⟨x, y, e1, e2, hr'⟩ := hr.step (by omega);obtain ⟨H2, H3, s1, s2, g3, k3, n3⟩ := swap_row encG_len (fun _ => rfl) hg e1 e2;have hlt : (i : Int) < l.length - 1 - i := by omega
    have hj : ((l.length : Int) - 1 - i) = ((l.length - 1 - i : Nat) : Int) := by omega
    have i1 := fun H' => ix i H' (by omega);have i2 := fun H' => ix (l.length - 1 - i) H' (by omega);rw [← hj] at i2;have l1 := ldA_row encG_len hg e1;have l2 := ldA_row encG_len hg e2;refine .inl ⟨_, H3, ?_, rfl, ⟨_, hr', g3⟩, by rw [n3, hn], fun c hc => by rw [k3 c hc, hk c hc]⟩;rw [slices_Reverse_of_api_Glyph_api_Glyph_l1_eq];simp -implicitDefEqProofs (disch := omega) [-ldA_ptr, -stR_ptr, hlt, i1, i2, l1, l2, s1, s2];omega)
   (fun e H' ⟨he, ⟨r, hr, hg⟩, hn, hk⟩ => by
    subst he;have hlt : ¬ ((l.length / 2 : Nat) : Int) < l.length - 1 - (l.length / 2 : Nat) := by omega
    refine ⟨.exit 0, _, H', ?_, by simp, rfl, ⟨.int .i64 (l.length / 2 : Nat), .int .i64 (l.length - 1 - (l.length / 2 : Nat)), rfl⟩, by rw [← hr.done]; exact hg, hn, hk⟩;rw [slices_Reverse_of_api_Glyph_api_Glyph_l1_eq];simp -implicitDefEqProofs (disch := omega) only [bin_lss, Res.bind_ok, hlt, decide_false, condV_bool, Bool.false_eq_true, if_false])
  refine ⟨H1, ?_, .inr ⟨b, rfl, by simp, a2⟩, a3.1, fun c hc => a3.2 c fun e => hc (by rw [e])⟩;have hlt : 1 ≤ l.length + 1 := by omega
  simp -implicitDefEqProofs (disch := omega) [slices_Reverse_of_api_Glyph_api_Glyph, hr, slices_Reverse_of_api_Glyph_api_Glyph_l1k_x0]
theorem lineTurn_star (k : Nat) {H0 H : Heap} {L : List It} (h : Star H0 H L) (i : Nat) {c : Nat} {o : Option Nat} {l : List Gl} (hi : L[i]? = some (itLine c o l)) (hl : l.length < 2 ^ 31) :
  ∃ H', R (T k) F.line_Line_Turn [ptrV c] H = .ok (.tuple #[]) H' ∧ Star H0 H' (L.set i (itLine c o l.reverse)) := by
 obtain ⟨hne, s, h1, h2⟩ := h.box i hi;obtain ⟨H', e1, e2, e3, e4⟩ := ReverseG_run k h2 hl;refine ⟨H', ?_, h.step i hi (by omega) (fun d _ hd => e4 d fun e => hd (List.mem_cons_of_mem _ (Option.mem_toList.2 e))) _ ⟨hne, s, by rw [e4 c hne]; exact h1, e2⟩ fun b hb => .inl hb⟩;simp at h1;rw [line_Line_Turn_R];refine nrm_of ?_;simp -implicitDefEqProofs [line_Line_Turn, h1, e1]
theorem Same_run (k : Nat) {H : Heap} {u v : Value} {l m : List Gl} (hu : Rd H 2 u encG l) (hv : Rd H 2 v encG m) (hl : l.length < 2 ^ 62) (hm : m.length < 2 ^ 62) : R (T k) F.swashref11_Same [u, v] H = .ok (.bool (decide (l = m))) H := by
 rw [swashref11_Same_R];have fl : Flat (.bool (decide (l = m))) := .bool _;by_cases hlen : l.length = m.length;rotate_left
 ·have hne : l ≠ m := fun e => hlen (by rw [e]);have hne' : ((l.length : Int) == (m.length : Int)) = false := by rw [beq_eq_false_iff_ne]; omega
  refine nrm_fz (v := .bool false) (H' := H) ?_ (by rw [decide_eq_false hne]; rfl) (Ext.refl H) fl.alive;simp -implicitDefEqProofs [swashref11_Same, hu.1, hv.1, bne, hne']
 ·obtain ⟨x, e', H1, hr, rfl, hq⟩ := loop_up (body := swashref11_Same_l1 k (R (T k))) l.length
   (fun j e H' => H' = H ∧ e = [(0, u), (1, v), (5, .int .i64 j)] ∧ l.take j = m.take j)
   (fun x e H' => H' = H ∧ ((x = .ret ∧ e = [(4, .bool false)] ∧ l ≠ m) ∨ (x = .exit 0 ∧ (∃ a, e = [(0, u), (1, v), (5, .int .i64 l.length), (14, a)]) ∧ l = m)))
   (e0 := [(0, u), (1, v), (5, .int .i64 0)]) (H0 := H) ⟨rfl, rfl, by simp⟩ (by omega)
   (fun j e H' hj ⟨hH, he, ht⟩ => by
    subst he hH;have hlt : (j : Int) < l.length := by omega
    obtain ⟨a, ha⟩ : ∃ a, l[j]? = some a := ⟨_, List.getElem?_eq_getElem hj⟩
    obtain ⟨b, hb⟩ : ∃ b, m[j]? = some b := ⟨_, List.getElem?_eq_getElem (by omega)⟩
    obtain ⟨p, p1, p2⟩ := hu.2 j a ha;obtain ⟨q, q1, q2⟩ := hv.2 j b hb;by_cases hab : a = b
    ·subst hab;refine .inl ⟨_, _, ?_, rfl, rfl, by rw [take_snoc ha, take_snoc hb, ht]⟩;rw [swashref11_Same_l1_eq];simp -implicitDefEqProofs (disch := omega) [hlt, hu.1, p1, p2, q1, q2]
    ·refine .inr ⟨.ret, _, _, ?_, by simp, rfl, .inl ⟨rfl, rfl, fun e => hab (by rw [e, hb] at ha; injection ha with ha; exact ha.symm)⟩⟩;have hne : (!(a.id == b.id) || !(a.cl == b.cl)) = true := by
      by_cases h1 : a.id = b.id
      ·have : a.cl ≠ b.cl := fun h2 => hab (by cases a; cases b; simp_all);simp [h1, this]
      ·simp [h1]
     rw [swashref11_Same_l1_eq];simp -implicitDefEqProofs (disch := omega) [hlt, hu.1, p1, p2, q1, q2, hne])
   (fun e H' ⟨hH, he, ht⟩ => by
    subst he hH;refine ⟨.exit 0, _, _, ?_, by simp, rfl, .inr ⟨rfl, ⟨.bool false, rfl⟩, ?_⟩⟩
    ·rw [swashref11_Same_l1_eq];simp -implicitDefEqProofs [hu.1]
    ·rwa [List.take_length, hlen, List.take_length] at ht)
  rcases hq with ⟨rfl, rfl, hne⟩ | ⟨rfl, ⟨a, rfl⟩, heq⟩
  ·refine nrm_fz (v := .bool false) (H' := H1) ?_ (by rw [decide_eq_false hne]; rfl) (Ext.refl H1) fl.alive;simp -implicitDefEqProofs [swashref11_Same, hu.1, hv.1, hlen, bne, hr, swashref11_Same_l1k_r]
  ·refine nrm_fz (v := .bool true) (H' := H1) ?_ (by rw [decide_eq_true heq]; rfl) (Ext.refl H1) fl.alive;simp -implicitDefEqProofs [swashref11_Same, hu.1, hv.1, hlen, bne, hr, swashref11_Same_l1k_x0]
end Go.Sw
end
section
set_option maxRecDepth 100000
set_option linter.unusedVariables false
namespace Go.Sw
noncomputable section
end
end Go.Sw
end
section
namespace Go.Sw
open Go.RowKit
end Go.Sw
end
section
set_option maxRecDepth 100000
set_option linter.unusedVariables false
namespace Go.Sw
noncomputable section
end
end Go.Sw
end
section
namespace Go.Sw
open Go.RowKit
end Go.Sw
end
section
namespace Go.Sw
open Go.RowKit
structure Pt where
 first : Int
 last : Int
 vals : List Int
def risesS : List Pt → Bool
 | [] => true
 | [_] => true
 | p :: q :: l => decide (p.last < q.first) && risesS (q :: l)
def Pt.num (p : Pt) (id : Int) : Option Int := p.vals[(min (id - p.first) ((p.vals.length : Int) - 1)).toNat]?
def Pt.ok (p : Pt) : Prop := 0 ≤ p.first ∧ p.first ≤ p.last ∧ p.last < 65536 ∧ p.vals ≠ [] ∧ (p.vals.length : Int) ≤ 65536 ∧ ∀ x, x ∈ p.vals → 0 ≤ x ∧ x < 4294967296
theorem Pt.num_some {p : Pt} (h : p.ok) {id : Int} (hf : p.first ≤ id) : ∃ x, p.num id = some x ∧ 0 ≤ x ∧ x < 4294967296 := by
 obtain ⟨h1, h2, h3, h4, h5, h6⟩ := h;have hl : 0 < p.vals.length := List.length_pos_iff.2 h4;unfold Pt.num;have hi : (min (id - p.first) ((p.vals.length : Int) - 1)).toNat < p.vals.length := by omega
 exact ⟨p.vals[(min (id - p.first) ((p.vals.length : Int) - 1)).toNat], List.getElem?_eq_getElem hi, h6 _ (List.getElem_mem _)⟩
end Go.Sw
end
section
namespace Go.Sw
open Go.RowKit
def gU (b : List Int) (i n : Int) : Int := (uS b i n).getD (-1)
structure RP where
 first : Int
 last : Int
 pos : Int
 size : Int
 step : Int
end Go.Sw
end
section
namespace Go.Sw
open Go.RowKit
structure Pr where
 id : Int
 x : Int
def Pr.ok (p : Pr) : Prop := 0 ≤ p.id ∧ p.id < 65536 ∧ 0 ≤ p.x ∧ p.x < 65536
end Go.Sw
end
section
set_option maxRecDepth 100000
set_option linter.unusedVariables false
namespace Go.Sw
noncomputable section
end
end Go.Sw
end
section
namespace Go.Sw
open Go.RowKit
end Go.Sw
end
section
namespace Go.Sw
open Go.RowKit
structure En where
 next : Int
 flags : Int
 a : Int
 b : Int
structure Mach where
 classes : Int
 tab : Int × List Pt
 rows : List (List Int)
 ents : List En
structure Mach.ok (m : Mach) : Prop where
 cl : 4 ≤ m.classes ∧ m.classes ≤ 65535
 pts : ∀ p, p ∈ m.tab.2 → p.ok
 rise : risesS m.tab.2 = true
 plen : m.tab.2.length < 2 ^ 31
 two : 2 ≤ m.rows.length ∧ m.rows.length ≤ 65536
 row : ∀ r, r ∈ m.rows → (r.length : Int) = m.classes ∧ ∀ x, x ∈ r → 0 ≤ x ∧ x < m.ents.length
 ent : ∀ e, e ∈ m.ents → 0 ≤ e.next ∧ e.next < m.rows.length ∧ 0 ≤ e.flags ∧ e.flags < 65536 ∧ 0 ≤ e.a ∧ e.a < 65536 ∧ 0 ≤ e.b ∧ e.b < 65536
 elen : m.ents.length ≤ 65536
end Go.Sw
end
section
set_option maxRecDepth 100000
set_option linter.unusedVariables false
namespace Go.Sw
noncomputable section
end
end Go.Sw
end
section
namespace Go.Sw
open Go.RowKit
end Go.Sw
end
section
namespace Go.Sw
open Go.RowKit
end Go.Sw
end
section
namespace Go.Sw
open Go.RowKit
end Go.Sw
end
section
namespace Go.Sw
open Go.RowKit
end Go.Sw
end
section
namespace Go.Sw
open Go.RowKit
end Go.Sw
end
section
namespace Go.Sw
open Go.RowKit
end Go.Sw
end
section
set_option maxRecDepth 100000
set_option linter.unusedVariables false
namespace Go.Sw
noncomputable section
end
end Go.Sw
end
section
namespace Go.Sw
open Go.RowKit
theorem Star.memP {H0 H : Heap} {L : List It} (h : Star H0 H L) {x : It} (hx : x ∈ L) : x.P H := by
 obtain ⟨i, hi⟩ := List.getElem?_of_mem hx;exact h.at i hi
theorem Star.memBlk {H0 H : Heap} {L : List It} (h : Star H0 H L) {c : Nat} {k : Blk} (hx : itBlk c k ∈ L) : H.get c = some k := h.memP hx
end Go.Sw
end
section
namespace Go.Sw
open Go.RowKit
section
variable (k : Nat) {H0 : Heap} {X : List It} {c r : Nat} {n : Int} {tab vR vE : Value} {rv ev : List Int} {w : Int}
 (hn : 0 ≤ n ∧ n ≤ 65535) (hw : w = 0 ∨ w = 1 ∨ w = 2) (hvR : Sl H0 1 vR encB rv) (hvE : Sl H0 1 vE encB ev) (hbR : Byt rv) (hbE : Byt ev) (hlR : rv.length < 2 ^ 31) (hlE : ev.length < 2 ^ 31)
 (hX : itBlk r ⟨[ptrV c, vR, vE, .int .i64 w], 1, false⟩ ∈ X)
include hn hvR hvE hbR hlR hX
end
section
variable (k : Nat) {H0 : Heap} {X : List It} {c r : Nat} {n : Int} {tab vR vE : Value} {rv ev : List Int} {w : Int}
 (hn : 0 ≤ n ∧ n ≤ 65535) (hw : w = 0 ∨ w = 1 ∨ w = 2) (hvR : Sl H0 1 vR encB rv) (hvE : Sl H0 1 vE encB ev) (hbR : Byt rv) (hbE : Byt ev) (hlR : rv.length < 2 ^ 31) (hlE : ev.length < 2 ^ 31)
 (hX : itBlk r ⟨[ptrV c, vR, vE, .int .i64 w], 1, false⟩ ∈ X)
include hw hvR hvE hbE hlE hX
end
section
variable (k : Nat) {H0 : Heap} {X : List It} {c r : Nat} {n : Int} {tab vR vE : Value} {rv ev : List Int} {w : Int}
 (hn : 0 ≤ n ∧ n ≤ 65535) (hw : w = 0 ∨ w = 1 ∨ w = 2) (hvR : Sl H0 1 vR encB rv) (hvE : Sl H0 1 vE encB ev) (hbR : Byt rv) (hbE : Byt ev) (hlR : rv.length < 2 ^ 31) (hlE : ev.length < 2 ^ 31)
 (hX : itBlk r ⟨[ptrV c, vR, vE, .int .i64 w], 1, false⟩ ∈ X)
include hn hw hvR hvE hbR hbE hlR hlE hX
end
end Go.Sw
end
section
namespace Go.Sw
open Go.RowKit
end Go.Sw
end
section
namespace Go.Sw
open Go.RowKit
end Go.Sw
end
section
set_option maxRecDepth 100000
set_option linter.unusedVariables false
namespace Go.Sw
noncomputable section
end
end Go.Sw
end
section
namespace Go.Sw
open Go.RowKit
structure Plan where
 cls : List Int
 rows : List (List Int)
 ents : List En
 wide : Int
def Plan.ok (p : Plan) : Prop := Byt p.cls ∧ (∀ r, r ∈ p.rows → Byt r) ∧ 0 ≤ p.wide ∧ p.wide < 256
end Go.Sw
end
section
namespace Go.Sw
open Go.RowKit
theorem set_same {L : List It} {i : Nat} {a : It} (h : L[i]? = some a) : L.set i a = L := by
 apply List.ext_getElem?;intro j;by_cases hj : i = j
 ·subst hj;rw [List.getElem?_set_self (List.getElem?_eq_some_iff.1 h).1, h]
 ·rw [List.getElem?_set_ne hj]
end Go.Sw
end
section
set_option maxRecDepth 100000
set_option linter.unusedVariables false
namespace Go.Sw
noncomputable section
end
end Go.Sw
end
section
namespace Go.Sw
open Go.RowKit
variable {σ : Type}
end Go.Sw
end
section
namespace Go.Sw
open Go.RowKit
variable {σ : Type}
end Go.Sw
end
section
set_option maxRecDepth 100000
set_option linter.unusedVariables false
namespace Go.Sw
noncomputable section
end
end Go.Sw
end
section
namespace Go.Sw
open Go.RowKit
end Go.Sw
end
section
set_option maxRecDepth 100000
set_option linter.unusedVariables false
namespace Go.Sw
noncomputable section
end
end Go.Sw
end
section
namespace Go.Sw
open Go.RowKit
end Go.Sw
end
section
namespace Go.Sw
open Go.RowKit
end Go.Sw
end
section
namespace Go.Sw
open Go.RowKit
def RP.ok (r : RP) : Prop := -1 ≤ r.first ∧ r.first ≤ 65536 ∧ -1 ≤ r.last ∧ r.last ≤ 65536 ∧ -1 ≤ r.pos ∧ r.pos < 2 ^ 35 ∧ 0 ≤ r.step ∧ r.step ≤ 4 ∧ 0 ≤ r.size ∧ r.size ≤ 4
end Go.Sw
end
section
namespace Go.Sw
open Go.RowKit
end Go.Sw
end
section
namespace Go.Sw
open Go.RowKit
end Go.Sw
end
section
set_option maxRecDepth 100000
set_option linter.unusedVariables false
namespace Go.Sw
noncomputable section
end
end Go.Sw
end
section
namespace Go.Sw
open Go.RowKit
end Go.Sw
end
section
namespace Go.Sw
open Go.RowKit
end Go.Sw
end
section
namespace Go.Sw
theorem row_I {r : List Da} {cs : List Value} (h : LayRow [.int .i64] r cs) : ∃ n : Int, cs = encI n ∧ (Lit.int .i64 n).wf = true := by
 obtain ⟨d, v, ds, vs, rfl, h1, h2⟩ := h.head;obtain rfl := h2.done;obtain ⟨n, rfl, w⟩ := h1.intv;exact ⟨n, rfl, w⟩
theorem arg_I {v : Value} (h : ArgLay (.one (.slice [.int .i64])) v) : ∃ l, v = lv encI l ∧ ∀ n, n ∈ l → (Lit.int .i64 n).wf = true := by
 obtain ⟨d, h1⟩ := h.cell;exact Lay.list (enc := encI) (ok := fun n => (Lit.int .i64 n).wf = true) (fun r cs h => row_I h) h1
theorem arg_i {k : IntKind} {v : Value} (h : ArgLay (.one (.int k)) v) : ∃ n, v = .int k n ∧ (Lit.int k n).wf = true := by
 obtain ⟨d, h1⟩ := h.cell;exact h1.intv
end Go.Sw
end
section
namespace Go.Sw
open Go.RowKit
end Go.Sw
end
section
namespace Go.Sw
open Go.RowKit
end Go.Sw
end
section
namespace Go.Sw
open Go.RowKit
variable {σ : Type}
end Go.Sw
end
section
namespace Go.Sw
open Go.RowKit
end Go.Sw
end
section
namespace Go.Sw
open Go.RowKit
variable {σ : Type}
end Go.Sw
end
section
namespace Go.Sw
open Go.RowKit
structure ITab where
 m : Mach
 list : List Int
def hereS (e : En) : Int := if e.a = 65535 then 0 else e.flags / 32 % 32
def markS (e : En) : Int := if e.b = 65535 then 0 else e.flags % 32
structure ITab.ok (t : ITab) : Prop where
 m : t.m.ok
 byt : Byt t.list
 len : t.list.length < 2 ^ 31
 has : ∀ e, e ∈ t.m.ents → (0 < hereS e → 2 * e.a + hereS e * 2 ≤ t.list.length) ∧ (0 < markS e → 2 * e.b + markS e * 2 ≤ t.list.length)
def insCl (l : List Gl) (i : Int) : Int := match atG l i with | some g => g.cl | none => ((atG l (i - 1)).getD ⟨0, 0⟩).cl
def insertG (l : List Gl) (i : Int) (ids : List Int) : List Gl := if 0 ≤ i ∧ i ≤ l.length then l.take i.toNat ++ (ids.map (fun x => (⟨x, insCl l i⟩ : Gl)) ++ l.drop i.toNat) else l
def listN (list : List Int) (at_ n : Int) : List Int := (List.range n.toNat).map fun (i : Nat) => gU list (2 * (at_ + (i : Int))) 2
end Go.Sw
end
section
namespace Go.Sw
open Go.RowKit
theorem insertV_R (k : Nat) {args : List Value} {s : Value} {H H' : Heap} (h : insertV 2 16 args H = .ok s H') : R (T k) F.slices_Insert_of_api_Glyph_api_Glyph args H = .ok s H' :=
 (R_sp (t := T k) (T_scott k) (s := fun _ args H => insertV 2 16 args H) (by kernel_rfl) args H).trans (by
  show nrm (mdS k F.slices_Insert_of_api_Glyph_api_Glyph) H _ = _;rw [show mdS k F.slices_Insert_of_api_Glyph_api_Glyph = .no from by kernel_rfl];exact nrm_of h)
set_option maxHeartbeats 2000000 in
theorem lineInsert_starG (k : Nat) {H0 H : Heap} {L : List It} (h : Star H0 H L) (il : Nat) {c : Nat} {o : Option Nat} {l : List Gl} (hil : L[il]? = some (itLine c o l)) (i : Int) {vI : Value} {ids : List Int} (hv : ∀ H' L', Star H0 H' (L ++ L') → Sl H' 1 vI encI ids) (hb : l.length + ids.length ≤ 2 ^ 30) :
  ∃ o' H', R (T k) F.line_Line_Insert [ptrV c, .int .i64 i, vI] H = .ok (.bool (decide (0 ≤ i ∧ i ≤ l.length))) H' ∧ Star H0 H' (L.set il (itLine c o' (insertG l i ids))) := by
 have hlt := (List.getElem?_eq_some_iff.1 hil).1;obtain ⟨_, s0, h1, h2⟩ := h.box il hil;simp at h1;have hlen := h2.len;rw [line_Line_Insert_R];by_cases hi : 0 ≤ i ∧ i ≤ l.length;rotate_left
 ·refine ⟨o, H, nrm_of ?_, ?_⟩
  ·rw [decide_eq_false hi];by_cases d : i < 0
   ·simp -implicitDefEqProofs [line_Line_Insert, d]
   ·have d2 : i > (l.length : Int) := by omega
    simp -implicitDefEqProofs [line_Line_Insert, d, h1, hlen, d2]
  ·unfold insertG;rw [if_neg hi, set_same hil];exact h
 rw [decide_eq_true hi];have d1 : ¬ i < 0 := by omega
 have d2 : ¬ i > (l.length : Int) := by omega
 obtain ⟨p, rfl⟩ := Int.eq_ofNat_of_zero_le hi.1;have hat := lineAt_run k h il hil (p : Int);have hcn : ¬ c = H.n := by have := Heap.get_lt h1; omega
 -- whatever glyph stands there
 have key : ∀ q : Gl, q.cl = insCl l p → ∃ o' H', (loopN (line_Line_Insert_l1 k (R (T k))) loopFuel [(0, ptrV c), (1, .int .i64 p), (7, ptrV H.n), (9, .slice none 0 0), (38, vI), (39, .int .i64 ids.length), (40, .int .i64 0)] (H.push ⟨encG q, 1, false⟩)).bind (fun r h' => line_Line_Insert_l1k k (R (T k)) r.1 r.2 h') = .ok (.bool true) H' ∧ Star H0 H' (L.set il (itLine c o' (insertG l p ids))) := by
  intro q hq;have g := (h.push ⟨encG q, 1, false⟩).more_row (Ext.refl _) (OwnO.nil encG _ 2) (fun b hb => by cases hb)
  obtain ⟨xx, e', H1, hr, rfl, s, o1, rfl, g⟩ := loop_up (body := line_Line_Insert_l1 k (R (T k))) ids.length
   (fun j e H' => ∃ s o1, e = [(0, ptrV c), (1, .int .i64 p), (7, ptrV H.n), (9, s), (38, vI), (39, .int .i64 ids.length), (40, .int .i64 j)] ∧ Star H0 H' (L ++ [itBlk H.n ⟨encG q, 1, false⟩] ++ [itRow o1 2 s encG ((ids.take j).map fun x => (⟨x, q.cl⟩ : Gl))]))
   (fun xx e H' => xx = .exit 0 ∧ ∃ s o1, e = [(0, ptrV c), (1, .int .i64 p), (7, ptrV H.n), (9, s), (38, vI), (39, .int .i64 ids.length), (40, .int .i64 ids.length), (41, .bool false)] ∧ Star H0 H' (L ++ [itBlk H.n ⟨encG q, 1, false⟩] ++ [itRow o1 2 s encG (ids.map fun x => (⟨x, q.cl⟩ : Gl))]))
   (e0 := [(0, ptrV c), (1, .int .i64 p), (7, ptrV H.n), (9, .slice none 0 0), (38, vI), (39, .int .i64 ids.length), (40, .int .i64 0)]) (H0 := H.push ⟨encG q, 1, false⟩) ⟨_, none, rfl, by simpa using g⟩ (by omega)
   (fun j e H' hj ⟨s, o1, he, g⟩ => by
    subst he;have hjl : (j : Int) < ids.length := by omega
    obtain ⟨x, hx⟩ : ∃ x, ids[j]? = some x := ⟨_, List.getElem?_eq_getElem hj⟩
    obtain ⟨pp, i1, i2⟩ := (hv H' ([itBlk H.n ⟨encG q, 1, false⟩] ++ [itRow o1 2 s encG ((ids.take j).map fun x => (⟨x, q.cl⟩ : Gl))]) (by rw [← List.append_assoc]; exact g)).ix1 encI_len j x hx _ rfl;have i2 := i2 H' (Ext.refl _);have gb := g.memBlk (c := H.n) (k := ⟨encG q, 1, false⟩) (by simp);have hne : ¬ H.n = H'.n := by have := Heap.get_lt gb; omega
    have hrw : (L ++ [itBlk H.n ⟨encG q, 1, false⟩] ++ [itRow o1 2 s encG ((ids.take j).map fun x => (⟨x, q.cl⟩ : Gl))])[L.length + 1]? = some (itRow o1 2 s encG ((ids.take j).map fun x => (⟨x, q.cl⟩ : Gl))) := by
     rw [List.getElem?_append_right (by simp), List.length_append, List.length_singleton, Nat.sub_self];rfl
    obtain ⟨s2, o2, H2, e2, g2⟩ := g.append1 (bytes := 16) (L.length + 1) encG_len hrw (⟨x, q.cl⟩ : Gl) (by rw [List.length_map, List.length_take]; omega) (by decide);rw [List.set_append_right _ _ (by simp)] at g2;have hm : (ids.take j).map (fun x => (⟨x, q.cl⟩ : Gl)) ++ [⟨x, q.cl⟩] = (ids.take (j + 1)).map fun x => (⟨x, q.cl⟩ : Gl) := by rw [take_snoc hx, List.map_append]; rfl
    rw [hm] at g2;simp only [List.length_append, List.length_singleton, Nat.sub_self, List.set_cons_zero] at g2;refine .inl ⟨_, H2, ?_, s2, o2, rfl, g2⟩;rw [line_Line_Insert_l1_eq];have e2 : apR 2 16 s (.slice (some ⟨H'.n, 0, none⟩) 1 1) (H'.push ⟨[.int .i64 x, .int .i64 q.cl], 2, false⟩) = .ok s2 H2 := e2;simp -implicitDefEqProofs (disch := omega) [hjl, i1, i2, gb, hne, e2])
   (fun e H' ⟨s, o1, he, g⟩ => by
    subst he;rw [List.take_length] at g;refine ⟨.exit 0, _, H', ?_, by simp, rfl, s, o1, rfl, g⟩;rw [line_Line_Insert_l1_eq];simp -implicitDefEqProofs)
  have hil2 : (L ++ [itBlk H.n ⟨encG q, 1, false⟩] ++ [itRow o1 2 s encG (ids.map fun x => (⟨x, q.cl⟩ : Gl))])[il]? = some (itLine c o l) := by rw [List.append_assoc, List.getElem?_append_left hlt]; exact hil
  obtain ⟨s3, g3⟩ := g.split il hil2;have hc3 := g3.memBlk (c := c) (k := ⟨[s3], 1, false⟩) (by simp);have hrow : ((L ++ [itBlk H.n ⟨encG q, 1, false⟩] ++ [itRow o1 2 s encG (ids.map fun x => (⟨x, q.cl⟩ : Gl))]).set il (itRow o 2 s3 encG l) ++ [itBlk c ⟨[] ++ [s3], 1, false⟩])[il]? = some (itRow o 2 s3 encG l) := by
   rw [List.getElem?_append_left (by simp; omega), List.getElem?_set_self (by simp; omega)]
  have hins : ((L ++ [itBlk H.n ⟨encG q, 1, false⟩] ++ [itRow o1 2 s encG (ids.map fun x => (⟨x, q.cl⟩ : Gl))]).set il (itRow o 2 s3 encG l) ++ [itBlk c ⟨[] ++ [s3], 1, false⟩])[L.length + 1]? = some (itRow o1 2 s encG (ids.map fun x => (⟨x, q.cl⟩ : Gl))) := by
   rw [List.getElem?_append_left (by simp), List.getElem?_set_ne (by omega), List.getElem?_append_right (by simp)];simp
  obtain ⟨s4, o4, H4, e4, g4⟩ := g3.insertRow (bytes := 16) il (L.length + 1) encG_len (by omega) hrow hins (p := p) (by omega) (by simp; omega) (by decide);have hblk : ((((L ++ [itBlk H.n ⟨encG q, 1, false⟩] ++ [itRow o1 2 s encG (ids.map fun x => (⟨x, q.cl⟩ : Gl))]).set il (itRow o 2 s3 encG l) ++ [itBlk c ⟨[] ++ [s3], 1, false⟩]).set il (itRow o4 2 s4 encG (l.take p ++ ((ids.map fun x => (⟨x, q.cl⟩ : Gl)) ++ l.drop p)))))[L.length + 2]? = some (itBlk c ⟨[] ++ [s3], 1, false⟩) := by
   rw [List.getElem?_set_ne (by omega), List.getElem?_append_right (by simp)];simp
  have hrow4 : ((((L ++ [itBlk H.n ⟨encG q, 1, false⟩] ++ [itRow o1 2 s encG (ids.map fun x => (⟨x, q.cl⟩ : Gl))]).set il (itRow o 2 s3 encG l) ++ [itBlk c ⟨[] ++ [s3], 1, false⟩]).set il (itRow o4 2 s4 encG (l.take p ++ ((ids.map fun x => (⟨x, q.cl⟩ : Gl)) ++ l.drop p)))))[il]? = some (itRow o4 2 s4 encG (l.take p ++ ((ids.map fun x => (⟨x, q.cl⟩ : Gl)) ++ l.drop p))) := List.getElem?_set_self (by simp; omega);have hc4 := g4.get (L.length + 2) hblk;have st4 := (g4.row il hrow4).storable;have ce4 := (g4.row il hrow4).cells;have g5 := g4.setBlk (L.length + 2) hblk ⟨[] ++ [s4], 1, false⟩;have g6 := g5.join il (L.length + 2) L.length hlt (by omega) (by rw [List.getElem?_set_ne (by omega)]; exact hrow4) (List.getElem?_set_self (by simp));have hfin : insertG l p ids = l.take p ++ ((ids.map fun x => (⟨x, q.cl⟩ : Gl)) ++ l.drop p) := by
   unfold insertG;rw [if_pos hi, Int.toNat_natCast, hq]
  refine ⟨o4, H4.set c (some ⟨[] ++ [s4], 1, false⟩), ?_, ?_⟩;rotate_left
  ·rw [hfin];have e : ∀ (x y z z' R R4 : It), (((L ++ [x] ++ [y]).set il R ++ [z]).set il R4).set (L.length + 2) z' = L.set il R4 ++ [x, y, z'] := by
    intro x y z z' R R4;rw [List.append_assoc L, List.set_append_left _ _ hlt, List.append_assoc (L.set il R), List.set_append_left _ _ (by simpa using hlt), List.set_set, List.set_append_right _ _ (by simp)];simp
   rw [e, List.take_left' (by simp), List.set_set] at g6;exact g6
  ·have e4 := insertV_R k e4;simp -implicitDefEqProofs (disch := omega) [hr, line_Line_Insert_l1k_x0, hc3, e4, hc4, st4, ce4]
 have hlv := fun H' => (hv H [] (by rw [List.append_nil]; exact h)).len H';cases hq : atG l p with
 | some q =>
  rw [hq] at hat;obtain ⟨o', H', e1, g1⟩ := key q (by unfold insCl; rw [hq]);refine ⟨o', H', nrm_of ?_, g1⟩;simp -implicitDefEqProofs [line_Line_Insert, d1, h1, hlen, d2, hat, encA, line_Line_Insert_j2_eq, hlv, e1]
 | none =>
  rw [hq] at hat;have hxp : Ext H (H.push ⟨[.int .i64 0, .int .i64 0], 1, false⟩) := (Ext.refl H).push _;have hat2 := lineAt_run k (h.rest hxp) il hil ((p : Int) - 1);obtain ⟨o', H', e1, g1⟩ := key ((atG l ((p : Int) - 1)).getD ⟨0, 0⟩) (by unfold insCl; rw [hq]);refine ⟨o', H', nrm_of ?_, g1⟩;have hw : IntKind.i64.wrap ((p : Int) - 1) = (p : Int) - 1 := wrap_i64 (by omega) (by omega);simp -implicitDefEqProofs [line_Line_Insert, d1, h1, hlen, d2, hat, encA, line_Line_Insert_j1_eq, hlv, hw, hat2, e1]
end Go.Sw
end
section
set_option maxRecDepth 100000
set_option linter.unusedVariables false
namespace Go.Sw
noncomputable section
def swashlaw11_LineTwice_l1 (k : Nat) (call : Caller) : Env → Heap → Res (AExit × Env) := loopB (C k) call F.swashlaw11_LineTwice [1, 1, 1, 1, 1, 1, 1, 1, 0, 1, 0, 0]
def swashlaw11_LineTwice_l1k (k : Nat) (call : Caller) : Kont Value := kBlock 0 (kSeq (pieceK (C k) call F.swashlaw11_LineTwice [1, 1, 1, 1, 1, 1, 1, 1, 1]) (kDone Prog (resOf Prog F.swashlaw11_LineTwice)))
def swashlaw11_LineTwice (k : Nat) (call : Caller) (a0 a1 a2 : Value) (h : Heap) : Res Value :=
 (call F.swashlaw11_speaks [] h).bind fun v1 h2 =>
 (unR .not v1 h2).bind fun v3 h4 =>
 condV (some v3) (
 .ok (.bool false) h4)
 (
 (builtinV Prog .len [22] [a0] h4).bind fun v5 h6 =>
 (binR Prog .gtr 3 v5 (.int .i64 60) h6).bind fun v7 h8 =>
 ((bif wantVal v7 false then Res.ok a2 h8 else Res.ok undef h8)).bind fun v9 h10 =>
 ((bif wantVal v7 false then builtinV Prog .len [23] [v9] h10 else Res.ok undef h10)).bind fun v11 h12 =>
 ((bif wantVal v7 false then binR Prog .gtr 3 v11 (.int .i64 40) h12 else Res.ok undef h12)).bind fun v13 h14 =>
 (condV (some v7) (Res.ok (.bool true) h14) (Res.ok v13 h14)).bind fun v15 h16 =>
 condV (some v15) (
 .ok (.bool true) h16)
 (
 (call F.line_Of [a0] h16).bind fun v17 h18 =>
 (call F.line_Line_Turn [v17] h18).bind fun v19 h20 =>
 (call F.line_Line_Turn [v17] h20).bind fun v21 h22 =>
 (call F.line_Line_Glyphs [v17] h22).bind fun v23 h24 =>
 (call F.swashref11_Same [v23, a0] h24).bind fun v25 h26 =>
 (unR .not v25 h26).bind fun v27 h28 =>
 condV (some v27) (
 .ok (.bool false) h28)
 (
 (builtinV Prog .len [23] [a2] h28).bind fun v29 h30 =>
 (loopN (swashlaw11_LineTwice_l1 k call) loopFuel [(0, a0), (1, a1), (7, v17), (8, (.slice none 0 0)), (33, v29), (34, (.int .i64 0))] h30).bind fun r31 h32 =>
 swashlaw11_LineTwice_l1k k call r31.1 r31.2 h32)))
theorem swashlaw11_LineTwice_R (k : Nat) (a0 a1 a2 : Value) (h : Heap) : R (T k) F.swashlaw11_LineTwice [a0, a1, a2] h = nrm .gc h (swashlaw11_LineTwice k (R (T k)) a0 a1 a2 h) :=
 (R_body (t := T k) (T_scott k) (by kernel_rfl) (by kernel_rfl) _ _).trans (by kernel_rfl)
theorem swashlaw11_LineTwice_l1_eq (k : Nat) (call : Caller) (a0 a1 a7 a8 a33 a34 : Value) (h : Heap) : swashlaw11_LineTwice_l1 k call [(0, a0), (1, a1), (7, a7), (8, a8), (33, a33), (34, a34)] h =
 (binR Prog .lss 3 a34 a33 h).bind fun v33 h34 =>
 condV (some v33) (
 (buildSliceR Prog 23 1 [(0, (.int .i64 65535))] h34).bind fun v35 h36 =>
 (builtinV Prog .append [23, 23] [a8, v35] h36).bind fun v37 h38 =>
 (binR Prog .add 3 a34 (.int .i64 1) h38).bind fun v39 h40 =>
 .ok (.normal, [(0, a0), (1, a1), (7, a7), (8, v37), (33, a33), (34, v39)]) h40)
 (
 .ok ((.exit 0), [(0, a0), (1, a1), (7, a7), (8, a8), (33, a33), (34, a34), (35, v33)]) h34) :=
 (loopB_eq _ _).trans (by kernel_rfl)
theorem swashlaw11_LineTwice_l1k_x0 (k : Nat) (call : Caller) (a0 a1 a7 a8 a33 a34 a35 : Value) (h : Heap) : swashlaw11_LineTwice_l1k k call (.exit 0) [(0, a0), (1, a1), (7, a7), (8, a8), (33, a33), (34, a34), (35, a35)] h =
 (call F.line_Of [a0] h).bind fun v41 h42 =>
 (call F.line_Line_Clean [v41] h42).bind fun v43 h44 =>
 (call F.line_Line_Glyphs [v41] h44).bind fun v45 h46 =>
 (call F.line_Line_Insert [a7, a1, a8] h46).bind fun v47 h48 =>
 (binR Prog .geq 3 a1 (.int .i64 0) h48).bind fun v49 h50 =>
 ((bif wantVal v49 true then Res.ok a1 h50 else Res.ok undef h50)).bind fun v51 h52 =>
 ((bif wantVal v49 true then Res.ok a0 h52 else Res.ok undef h52)).bind fun v53 h54 =>
 ((bif wantVal v49 true then builtinV Prog .len [22] [v53] h54 else Res.ok undef h54)).bind fun v55 h56 =>
 ((bif wantVal v49 true then binR Prog .leq 3 v51 v55 h56 else Res.ok undef h56)).bind fun v57 h58 =>
 (condV (some v49) (Res.ok v57 h58) (Res.ok (.bool false) h58)).bind fun v59 h60 =>
 (binR Prog .neq 4 v47 v59 h60).bind fun v61 h62 =>
 condV (some v61) (
 .ok (.bool false) h62)
 (
 (call F.line_Line_Clean [a7] h62).bind fun v63 h64 =>
 (call F.line_Line_Glyphs [a7] h64).bind fun v65 h66 =>
 (call F.swashref11_Same [v65, v45] h66).bind fun v67 h68 =>
 .ok v67 h68) := by kernel_rfl
end
end Go.Sw
end
section
namespace Go.Sw
open Go.RowKit
theorem speaks11_run (k : Nat) (hk : k % 1000000 = F.swashlaw11_speaks) (H : Heap) : R (T k) F.swashlaw11_speaks [] H = .ok (.bool true) H :=
 (R_sp (t := T k) (T_scott k) (s := constSp (.bool true)) (by unfold T C; dsimp only; rw [hk]; kernel_rfl) [] H).trans (nrm_gc (Pure.of rfl) (.bool _))
theorem row_G {r : List Da} {cs : List Value} (h : LayRow [.int .i64, .int .i64] r cs) : ∃ g : Gl, cs = encG g ∧ True := by
 obtain ⟨_, v1, _, _, rfl, h1, h⟩ := h.head;obtain ⟨_, v2, _, _, rfl, h2, h⟩ := h.head;obtain rfl := h.done;obtain ⟨a, rfl, _⟩ := h1.intv;obtain ⟨b, rfl, _⟩ := h2.intv;exact ⟨⟨a, b⟩, rfl, trivial⟩
theorem arg_G {v : Value} (h : ArgLay (.one (.slice [.int .i64, .int .i64])) v) : ∃ l : List Gl, v = lv encG l := by
 cases h with
 | one s d v h =>
  obtain ⟨a, rfl, _⟩ := Lay.list (enc := encG) (ok := fun _ => True) (fun r cs h => row_G h) h;exact ⟨a, rfl⟩
end Go.Sw
end
