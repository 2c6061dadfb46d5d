/-
  Functions' forms, and what is proved of them, part 10.
-/
import Derived.Test.YtnaodjnimkndbaaSwCfg
import Derived.Test.YtnaodjnimkndbaaSwW2
import Derived.Test.YtnaodjnimkndbaaSwW6
import Derived.Test.YtnaodjnimkndbaaSwW9
set_option linter.unusedSimpArgs false
set_option linter.unusedVariables false
set_option linter.unusedSectionVars false
section
set_option maxRecDepth 100000
set_option linter.unusedVariables false
namespace Go.Sw
noncomputable section
def ζ32 (k : Nat) (call : Caller) : Env → Heap → Res (AExit × Env) := loopB (C k) call F.ζ2 [1, 1, 1, 1, 1, 1, 0, 1, 0, 0]
def ζ79 (k : Nat) (call : Caller) : Kont Value := kBlock 0 (kSeq (pieceK (C k) call F.ζ2 [1, 1, 1, 1, 1, 1, 1]) (kDone Prog (resOf Prog F.ζ2)))
def ζ33 (k : Nat) (call : Caller) : Env → Heap → Res (AExit × Env) := loopB (C k) call F.ζ2 [1, 1, 1, 1, 1, 1, 0, 1, 0, 0, 1, 0, 0, 1, 0, 1, 0, 0]
def ζ7a (k : Nat) (call : Caller) : Kont (AExit × Env) := kBlock 2 (kSeq (pieceK (C k) call F.ζ2 [1, 1, 1, 1, 1, 1, 0, 1, 0, 0, 1, 0, 0, 1, 1]) (kBlock 1 (kSeq (pieceK (C k) call F.ζ2 [1, 1, 1, 1, 1, 1, 0, 1, 0, 0, 1, 1]) (kRound (ownOf (C k) F.ζ2 [1, 1, 1, 1, 1, 1, 0, 1, 0, 0])))))
def ζ4r (k : Nat) (call : Caller) (a0 a6 a7 a8 a9 a10 a11 a12 : Value) (h : Heap) : Res (AExit × Env) :=
 kSeq (pieceK (C k) call F.ζ2 [1, 1, 1, 1, 1, 1, 0, 1, 0, 0, 1, 0, 0, 1, 0, 1, 0, 0, 1, 1]) (kRound (ownOf (C k) F.ζ2 [1, 1, 1, 1, 1, 1, 0, 1, 0, 0, 1, 0, 0, 1, 0, 1, 0, 0])) .normal [(0, a0), (6, a6), (7, a7), (8, a8), (9, a9), (10, a10), (11, a11), (12, a12)] h
def ζ7s (k : Nat) (call : Caller) (a0 a6 a7 a8 a9 a10 a11 a13 : Value) (h : Heap) : Res (AExit × Env) :=
 kSeq (pieceK (C k) call F.ζ2 [1, 1, 1, 1, 1, 1, 0, 1, 0, 0, 1, 0, 0, 1, 1, 1, 1]) (kBlock 1 (kSeq (pieceK (C k) call F.ζ2 [1, 1, 1, 1, 1, 1, 0, 1, 0, 0, 1, 1]) (kRound (ownOf (C k) F.ζ2 [1, 1, 1, 1, 1, 1, 0, 1, 0, 0])))) .normal [(0, a0), (6, a6), (7, a7), (8, a8), (9, a9), (10, a10), (11, a11), (13, a13)] h
def ζ7t (k : Nat) (call : Caller) (a0 a6 a7 a8 a9 a10 a11 a13 a84 : Value) (h : Heap) : Res (AExit × Env) :=
 kSeq (pieceK (C k) call F.ζ2 [1, 1, 1, 1, 1, 1, 0, 1, 0, 0, 1, 0, 0, 1, 1, 1, 1]) (kBlock 1 (kSeq (pieceK (C k) call F.ζ2 [1, 1, 1, 1, 1, 1, 0, 1, 0, 0, 1, 1]) (kRound (ownOf (C k) F.ζ2 [1, 1, 1, 1, 1, 1, 0, 1, 0, 0])))) .normal [(0, a0), (6, a6), (7, a7), (8, a8), (9, a9), (10, a10), (11, a11), (13, a13), (84, a84)] h
def ζ1n (k : Nat) (call : Caller) : Env → Heap → Res (AExit × Env) := loopB (C k) call F.ζ2 [1, 1, 1, 1, 1, 1, 0, 1, 0, 0, 1, 0, 0, 1, 1, 1, 1, 1, 0, 0]
def ζ3v (k : Nat) (call : Caller) : Kont (AExit × Env) := kBlock 4 (kBlock 1 (kSeq (pieceK (C k) call F.ζ2 [1, 1, 1, 1, 1, 1, 0, 1, 0, 0, 1, 1]) (kRound (ownOf (C k) F.ζ2 [1, 1, 1, 1, 1, 1, 0, 1, 0, 0]))))
def ζ2 (k : Nat) (call : Caller) (a0 a1 : Value) (h : Heap) : Res Value :=
 (buildSliceR Prog 313 16 [(0, (.string ⟨#[]⟩)), (1, (.string ⟨#[65, 120]⟩)), (2, (.string ⟨#[120, 68]⟩)), (3, (.string ⟨#[65, 120, 68]⟩)), (4, (.string ⟨#[65, 66, 120]⟩)), (5, (.string ⟨#[65, 66, 120]⟩)), (6, (.string ⟨#[120, 67, 68]⟩)), (7, (.string ⟨#[120, 67, 68]⟩)), (8, (.string ⟨#[65, 120, 67, 68]⟩)), (9, (.string ⟨#[65, 120, 67, 68]⟩)), (10, (.string ⟨#[65, 66, 120, 68]⟩)), (11, (.string ⟨#[65, 66, 120, 68]⟩)), (12, (.string ⟨#[65, 66, 120, 67, 68]⟩)), (13, (.string ⟨#[65, 66, 120, 67, 68]⟩)), (14, (.string ⟨#[65, 66, 120, 67, 68]⟩)), (15, (.string ⟨#[65, 66, 120, 67, 68]⟩))] h).bind fun v1 h2 =>
 (buildSliceR Prog 313 16 [(0, (.string ⟨#[]⟩)), (1, (.string ⟨#[120, 65]⟩)), (2, (.string ⟨#[68, 120]⟩)), (3, (.string ⟨#[68, 120, 65]⟩)), (4, (.string ⟨#[120, 65, 66]⟩)), (5, (.string ⟨#[120, 66, 65]⟩)), (6, (.string ⟨#[67, 68, 120]⟩)), (7, (.string ⟨#[68, 67, 120]⟩)), (8, (.string ⟨#[67, 68, 120, 65]⟩)), (9, (.string ⟨#[68, 67, 120, 65]⟩)), (10, (.string ⟨#[68, 120, 65, 66]⟩)), (11, (.string ⟨#[68, 120, 66, 65]⟩)), (12, (.string ⟨#[67, 68, 120, 65, 66]⟩)), (13, (.string ⟨#[67, 68, 120, 66, 65]⟩)), (14, (.string ⟨#[68, 67, 120, 65, 66]⟩)), (15, (.string ⟨#[68, 67, 120, 66, 65]⟩))] h2).bind fun v3 h4 =>
 (binR Prog .leq 3 a0 (.int .i64 0) h4).bind fun v5 h6 =>
 ((bif wantVal v5 false then Res.ok a0 h6 else Res.ok undef h6)).bind fun v7 h8 =>
 ((bif wantVal v5 false then binR Prog .geq 3 v7 (.int .i64 16) h8 else Res.ok undef h8)).bind fun v9 h10 =>
 (condV (some v5) (Res.ok (.bool true) h10) (Res.ok v9 h10)).bind fun v11 h12 =>
 ((bif wantVal v11 false then Res.ok a1 h12 else Res.ok undef h12)).bind fun v13 h14 =>
 ((bif wantVal v11 false then Res.ok v1 h14 else Res.ok undef h14)).bind fun v15 h16 =>
 ((bif wantVal v11 false then Res.ok a0 h16 else Res.ok undef h16)).bind fun v17 h18 =>
 ((bif wantVal v11 false then indexAddrR Prog 313 v15 v17 h18 else Res.ok undef h18)).bind fun v19 h20 =>
 ((bif wantVal v11 false then loadR Prog 9 v19 h20 else Res.ok undef h20)).bind fun v21 h22 =>
 ((bif wantVal v11 false then builtinV Prog .len [9] [v21] h22 else Res.ok undef h22)).bind fun v23 h24 =>
 ((bif wantVal v11 false then binR Prog .sub 3 v23 (.int .i64 1) h24 else Res.ok undef h24)).bind fun v25 h26 =>
 ((bif wantVal v11 false then binR Prog .lss 3 v13 v25 h26 else Res.ok undef h26)).bind fun v27 h28 =>
 (condV (some v11) (Res.ok (.bool true) h28) (Res.ok v27 h28)).bind fun v29 h30 =>
 condV (some v29) (
 .ok (.tuple #[(.slice none 0 0), (.bool false)]) h30)
 (
 (indexAddrR Prog 313 v1 a0 h30).bind fun v31 h32 =>
 (loadR Prog 9 v31 h32).bind fun v33 h34 =>
 (builtinV Prog .len [9] [v33] h34).bind fun v35 h36 =>
 (binR Prog .sub 3 v35 (.int .i64 1) h36).bind fun v37 h38 =>
 (binR Prog .sub 3 a1 v37 h38).bind fun v39 h40 =>
 (buildSliceR Prog 28 0 [] h40).bind fun v41 h42 =>
 (loopN (ζ32 k call) loopFuel [(0, a0), (6, v1), (7, v3), (8, v39), (9, v41), (10, (.int .i64 0))] h42).bind fun r43 h44 =>
 ζ79 k call r43.1 r43.2 h44)
theorem ζcw (k : Nat) (a0 a1 : Value) (h : Heap) : R (T k) F.ζ2 [a0, a1] h = nrm .fz h (ζ2 k (R (T k)) a0 a1 h) :=
 (R_body (t := T k) (T_scott k) (by kernel_rfl) (by kernel_rfl) _ _).trans (by kernel_rfl)
theorem ζ3d (k : Nat) (call : Caller) (a0 a6 a7 a8 a9 a10 : Value) (h : Heap) : ζ32 k call [(0, a0), (6, a6), (7, a7), (8, a8), (9, a9), (10, a10)] h =
 (indexAddrR Prog 313 a7 a0 h).bind fun v45 h46 =>
 (loadR Prog 9 v45 h46).bind fun v47 h48 =>
 (builtinV Prog .len [9] [v47] h48).bind fun v49 h50 =>
 (binR Prog .lss 3 a10 v49 h50).bind fun v51 h52 =>
 condV (some v51) (
 (loopN (ζ33 k call) loopFuel [(0, a0), (6, a6), (7, a7), (8, a8), (9, a9), (10, a10), (11, (.int .i64 0)), (12, (.int .i64 0))] h52).bind fun r53 h54 =>
 ζ7a k call r53.1 r53.2 h54)
 (
 .ok ((.exit 0), [(0, a0), (6, a6), (7, a7), (8, a8), (9, a9), (10, a10), (48, v51)]) h52) :=
 (loopB_eq _ _).trans (by kernel_rfl)
theorem ζ5w (k : Nat) (call : Caller) (a0 a6 a7 a8 a9 a10 a11 a12 : Value) (h : Heap) : ζ33 k call [(0, a0), (6, a6), (7, a7), (8, a8), (9, a9), (10, a10), (11, a11), (12, a12)] h =
 (indexAddrR Prog 313 a6 a0 h).bindN fun v55 h56 =>
 (loadR Prog 9 v55 h56).bindN fun v57 h58 =>
 (indexR Prog 9 v57 a12 h58).bindN fun v59 h60 =>
 (indexAddrR Prog 313 a7 a0 h60).bindN fun v61 h62 =>
 (loadR Prog 9 v61 h62).bindN fun v63 h64 =>
 (indexR Prog 9 v63 a10 h64).bindN fun v65 h66 =>
 (binR Prog .neq 5 v59 v65 h66).bindN fun v67 h68 =>
 condV (some v67) (
 (indexAddrR Prog 313 a6 a0 h68).bind fun v69 h70 =>
 (loadR Prog 9 v69 h70).bind fun v71 h72 =>
 (indexR Prog 9 v71 a12 h72).bind fun v73 h74 =>
 (binR Prog .eql 5 v73 (.int .u8 120) h74).bind fun v75 h76 =>
 condV (some v75) (
 (binR Prog .add 3 a11 a8 h76).bind fun v77 h78 =>
 ζ4r k call a0 a6 a7 a8 a9 a10 v77 a12 h78)
 (
 (binR Prog .add 3 a11 (.int .i64 1) h76).bind fun v79 h80 =>
 ζ4r k call a0 a6 a7 a8 a9 a10 v79 a12 h80))
 (
 .ok ((.exit 2), [(0, a0), (6, a6), (7, a7), (8, a8), (9, a9), (10, a10), (11, a11), (12, a12), (63, v67)]) h68) :=
 (loopB_eq _ _).trans (by kernel_rfl)
theorem ζ5v (k : Nat) (call : Caller) (a0 a6 a7 a8 a9 a10 a11 a12 : Value) (h : Heap) : ζ4r k call a0 a6 a7 a8 a9 a10 a11 a12 h =
 (binR Prog .add 3 a12 (.int .i64 1) h).bind fun v81 h82 =>
 .ok (.normal, [(0, a0), (6, a6), (7, a7), (8, a8), (9, a9), (10, a10), (11, a11), (12, v81)]) h82 := by kernel_rfl
theorem ζ9f (k : Nat) (call : Caller) (a0 a6 a7 a8 a9 a10 a48 : Value) (h : Heap) : ζ79 k call (.exit 0) [(0, a0), (6, a6), (7, a7), (8, a8), (9, a9), (10, a10), (48, a48)] h =
 .ok (.tuple #[a9, (.bool true)]) h := by kernel_rfl
theorem ζ4u (k : Nat) (call : Caller) (a0 a6 a7 a8 a9 a10 a11 a12 a63 : Value) (h : Heap) : ζ7a k call (.exit 2) [(0, a0), (6, a6), (7, a7), (8, a8), (9, a9), (10, a10), (11, a11), (12, a12), (63, a63)] h =
 (indexAddrR Prog 313 a7 a0 h).bind fun v83 h84 =>
 (loadR Prog 9 v83 h84).bind fun v85 h86 =>
 (indexR Prog 9 v85 a10 h86).bind fun v87 h88 =>
 (binR Prog .eql 5 v87 (.int .u8 120) h88).bind fun v89 h90 =>
 condV (some v89) (
 ζ7s k call a0 a6 a7 a8 a9 a10 a11 a8 h90)
 (
 ζ7t k call a0 a6 a7 a8 a9 a10 a11 (.int .i64 1) v89 h90) := by kernel_rfl
theorem ζa5 (k : Nat) (call : Caller) (a0 a6 a7 a8 a9 a10 a11 a13 : Value) (h : Heap) : ζ7s k call a0 a6 a7 a8 a9 a10 a11 a13 h =
 (loopN (ζ1n k call) loopFuel [(0, a0), (6, a6), (7, a7), (8, a8), (9, a9), (10, a10), (11, a11), (13, a13), (14, (.int .i64 0))] h).bind fun r91 h92 =>
 ζ3v k call r91.1 r91.2 h92 := by kernel_rfl
theorem ζa6 (k : Nat) (call : Caller) (a0 a6 a7 a8 a9 a10 a11 a13 a84 : Value) (h : Heap) : ζ7t k call a0 a6 a7 a8 a9 a10 a11 a13 a84 h =
 (loopN (ζ1n k call) loopFuel [(0, a0), (6, a6), (7, a7), (8, a8), (9, a9), (10, a10), (11, a11), (13, a13), (14, (.int .i64 0))] h).bind fun r93 h94 =>
 ζ3v k call r93.1 r93.2 h94 := by kernel_rfl
theorem ζ5x (k : Nat) (call : Caller) (a0 a6 a7 a8 a9 a10 a11 a13 a14 : Value) (h : Heap) : ζ1n k call [(0, a0), (6, a6), (7, a7), (8, a8), (9, a9), (10, a10), (11, a11), (13, a13), (14, a14)] h =
 (binR Prog .lss 3 a14 a13 h).bind fun v95 h96 =>
 condV (some v95) (
 (binR Prog .add 3 a11 a14 h96).bind fun v97 h98 =>
 (buildSliceR Prog 28 1 [(0, v97)] h98).bind fun v99 h100 =>
 (builtinV Prog .append [28, 28] [a9, v99] h100).bind fun v101 h102 =>
 (binR Prog .add 3 a14 (.int .i64 1) h102).bind fun v103 h104 =>
 .ok (.normal, [(0, a0), (6, a6), (7, a7), (8, a8), (9, v101), (10, a10), (11, a11), (13, a13), (14, v103)]) h104)
 (
 .ok ((.exit 4), [(0, a0), (6, a6), (7, a7), (8, a8), (9, a9), (10, a10), (11, a11), (13, a13), (14, a14), (88, v95)]) h96) :=
 (loopB_eq _ _).trans (by kernel_rfl)
theorem ζ4v (k : Nat) (call : Caller) (a0 a6 a7 a8 a9 a10 a11 a13 a14 a88 : Value) (h : Heap) : ζ3v k call (.exit 4) [(0, a0), (6, a6), (7, a7), (8, a8), (9, a9), (10, a10), (11, a11), (13, a13), (14, a14), (88, a88)] h =
 (binR Prog .add 3 a10 (.int .i64 1) h).bind fun v105 h106 =>
 .ok (.normal, [(0, a0), (6, a6), (7, a7), (8, a8), (9, a9), (10, v105)]) h106 := by kernel_rfl
end
end Go.Sw
end
section
namespace Go.Sw
open Go.RowKit
def strB (l : List Nat) : ByteArray := ⟨(l.map UInt8.ofNat).toArray⟩
abbrev strC (l : List Nat) : Value := .string (strB l)
theorem lnStr_B (l : List Nat) (H : Heap) : lnStr (strC l) H = .ok (.int .i64 l.length) H := by
 show Res.ok (Value.int .i64 ((strB l).size : Nat)) H = _
 unfold strB ByteArray.size
 simp
theorem ixStr_B {l : List Nat} (hb : ∀ c, c ∈ l → c < 256) (k : IntKind) {i : Nat} {c : Nat} (h : l[i]? = some c) (H : Heap) : ixStr (strC l) (.int k i) H = .ok (.int .u8 c) H := by
 have hi := (List.getElem?_eq_some_iff.1 h).1
 have hc := hb c (List.mem_of_getElem? h)
 have e : (strB l)[i]? = some (UInt8.ofNat c) := by
  have hs : i < (strB l).size := by unfold strB ByteArray.size; simpa using hi
  rw [getElem?_pos (strB l) i hs]
  congr 1
  show ((l.map UInt8.ofNat).toArray)[i]'(by simpa using hi) = _
  have := (List.getElem?_eq_some_iff.1 h).2
  simp [this]
 unfold ixStr
 dsimp only
 rw [if_pos (Int.natCast_nonneg _), Int.toNat_natCast, e]
 simp [opt]
 omega
theorem ζei (c : Nat) {mid : Int} (h0 : 0 ≤ mid) : ∀ fr : List Nat, 0 ≤ posD c mid fr ∧ posD c mid fr ≤ fr.length * (mid + 1)
 | [] => by simp [posD]
 | f :: fs => by
  have ih := ζei c h0 fs
  have e : ((f :: fs).length : Int) * (mid + 1) = fs.length * (mid + 1) + (mid + 1) := by rw [List.length_cons, Int.natCast_succ, Int.add_mul, Int.one_mul]
  rw [e]
  generalize (fs.length : Int) * (mid + 1) = y at ih ⊢
  unfold posD
  split
  ·omega
  ·split <;> omega
theorem ζmp (c : Nat) (mid : Int) {fr : List Nat} {j f : Nat} (h : fr[j]? = some f) (hf : f ≠ c) : posD c mid (fr.drop j) = (if f = 120 then mid else 1) + posD c mid (fr.drop (j + 1)) := by
 have hj := (List.getElem?_eq_some_iff.1 h).1
 rw [List.drop_eq_getElem_cons hj, (List.getElem?_eq_some_iff.1 h).2]
 show (if f = c then 0 else (if f = 120 then mid else 1) + posD c mid (fr.drop (j + 1))) = _
 rw [if_neg hf]
theorem posD_at (c : Nat) (mid : Int) {fr : List Nat} {j : Nat} (h : fr[j]? = some c) : posD c mid (fr.drop j) = 0 := by
 have hj := (List.getElem?_eq_some_iff.1 h).1
 rw [List.drop_eq_getElem_cons hj, (List.getElem?_eq_some_iff.1 h).2]
 show (if c = c then 0 else _) = _
 rw [if_pos rfl]
theorem ζej (c : Nat) {mid : Int} (h0 : 0 ≤ mid) (fr : List Nat) (hf : fr.length ≤ 6) (j : Nat) : 0 ≤ posD c mid (fr.drop j) ∧ posD c mid (fr.drop j) ≤ 6 * (mid + 1) := by
 have := ζei c h0 (fr.drop j)
 refine ⟨this.1, Int.le_trans this.2 (Int.mul_le_mul_of_nonneg_right ?_ (by omega))⟩
 rw [List.length_drop]
 omega
theorem letters {v : Int} (h : ¬ (v ≤ 0 ∨ v ≥ 16)) : (∀ c, c ∈ frS v → c < 256) ∧ (∀ c, c ∈ toS v → c < 256 ∧ c ∈ frS v) ∧ (frS v).length ≤ 5 ∧ (toS v).length ≤ 5 := by
 rcases ζa7 h with rfl | rfl | rfl | rfl | rfl | rfl | rfl | rfl | rfl | rfl | rfl | rfl | rfl | rfl | rfl <;> decide
def pieceD (fr : List Nat) (mid : Int) (c : Nat) : List Int := (List.range (if c = 120 then mid.toNat else 1)).map fun (k : Nat) => posD c mid fr + k
theorem ζm8 (fr : List Nat) (mid : Int) {to : List Nat} {j c : Nat} (h : to[j]? = some c) : docO fr mid (to.take (j + 1)) = docO fr mid (to.take j) ++ pieceD fr mid c := by
 rw [ζ1c h]
 unfold docO pieceD
 simp
theorem docO_len {fr : List Nat} {mid : Int} (h0 : 0 ≤ mid) : ∀ to : List Nat, ((docO fr mid to).length : Int) ≤ to.length * (mid + 1)
 | [] => by simp [docO]
 | c :: cs => by
  have ih := docO_len (fr := fr) h0 cs
  have e : ((c :: cs).length : Int) * (mid + 1) = cs.length * (mid + 1) + (mid + 1) := by rw [List.length_cons, Int.natCast_succ, Int.add_mul, Int.one_mul]
  have e2 : docO fr mid (c :: cs) = pieceD fr mid c ++ docO fr mid cs := by simp [docO, pieceD]
  have e3 : ((pieceD fr mid c).length : Int) ≤ mid + 1 := by unfold pieceD; simp; split <;> omega
  rw [e, e2, List.length_append]
  generalize (cs.length : Int) * (mid + 1) = y at ih ⊢
  omega
structure Tabs (H : Heap) (v : Nat) (s6 s7 : Value) : Prop where
 fr : ∀ H', Ext H H' → ∃ p, ixS 1 s6 (.int .i64 v) H' = .ok p H' ∧ ld1 p H' = .ok (strC (frS v)) H'
 to : ∀ H', Ext H H' → ∃ p, ixS 1 s7 (.int .i64 v) H' = .ok p H' ∧ ld1 p H' = .ok (strC (toS v)) H'
theorem first_at {c : Nat} : ∀ {l : List Nat}, c ∈ l → ∃ w : Nat, l[w]? = some c ∧ ∀ j : Nat, j < w → l[j]? ≠ some c
 | [], h => by cases h
 | a :: l, h => by
  by_cases hac : a = c
  ·exact ⟨0, by rw [hac]; rfl, fun j hj => absurd hj (Nat.not_lt_zero j)⟩
  ·obtain ⟨w, h1, h2⟩ := first_at (l := l) ((List.mem_cons.1 h).resolve_left fun e => hac e.symm)
   refine ⟨w + 1, h1, fun j hj => ?_⟩
   cases j with
   | zero => simpa using hac
   | succ j => exact h2 j (by omega)
theorem ref13_l2 (k : Nat) {H0 H : Heap} {v : Nat} {s6 s7 : Value} (ht : Tabs H0 v s6 s7) (hx : Ext H0 H) (hv : ¬ ((v : Int) ≤ 0 ∨ (v : Int) ≥ 16)) {mid : Int} (h0 : 0 ≤ mid) (h1 : mid < 2 ^ 40) {i c : Nat} (hc : (toS v)[i]? = some c) (a9 : Value) :
  ∃ z, loopN (ζ33 k (R (T k))) loopFuel [(0, .int .i64 v), (6, s6), (7, s7), (8, .int .i64 mid), (9, a9), (10, .int .i64 i), (11, .int .i64 0), (12, .int .i64 0)] H =
   .ok (.exit 2, [(0, .int .i64 v), (6, s6), (7, s7), (8, .int .i64 mid), (9, a9), (10, .int .i64 i), (11, .int .i64 (posD c mid (frS v))), (12, z), (63, .bool false)]) H := by
 obtain ⟨l1, l2, l3, l4⟩ := letters hv
 obtain ⟨w, hw, hmin⟩ := first_at (l2 c (List.mem_of_getElem? hc)).2
 have hwl := (List.getElem?_eq_some_iff.1 hw).1
 obtain ⟨p6, f1, f2⟩ := ht.fr H hx
 obtain ⟨p7, t1, t2⟩ := ht.to H hx
 have tc := ixStr_B (fun c hc => (l2 c hc).1) .i64 hc H
 obtain ⟨xx, e', H1, hr1, rfl, ⟨z, rfl⟩, rfl⟩ := loop_up (body := ζ33 k (R (T k))) w
  (fun j e H' => e = [(0, .int .i64 v), (6, s6), (7, s7), (8, .int .i64 mid), (9, a9), (10, .int .i64 i), (11, .int .i64 (posD c mid (frS v) - posD c mid ((frS v).drop j))), (12, .int .i64 j)] ∧ H' = H)
  (fun xx e H' => xx = .exit 2 ∧ (∃ z, e = [(0, .int .i64 v), (6, s6), (7, s7), (8, .int .i64 mid), (9, a9), (10, .int .i64 i), (11, .int .i64 (posD c mid (frS v))), (12, z), (63, .bool false)]) ∧ H' = H)
  (e0 := [(0, .int .i64 v), (6, s6), (7, s7), (8, .int .i64 mid), (9, a9), (10, .int .i64 i), (11, .int .i64 0), (12, .int .i64 0)]) (H0 := H) ⟨by simp, rfl⟩ (by omega)
  (fun j e H' hj ⟨he, hH⟩ => by
   subst he hH
   obtain ⟨f, hf⟩ : ∃ f, (frS v)[j]? = some f := ⟨_, List.getElem?_eq_getElem (by omega)⟩
   have hfc : f ≠ c := fun e => hmin j hj (by rw [hf, e])
   have fc := ixStr_B l1 .i64 hf H'
   have hd := ζmp c mid hf hfc
   have b0 := ζej c h0 (frS v) (by omega) 0
   have b1 := ζej c h0 (frS v) (by omega) j
   have b2 := ζej c h0 (frS v) (by omega) (j + 1)
   rw [List.drop_zero] at b0
   have hfb := l1 f (List.mem_of_getElem? hf)
   have hcb := (l2 c (List.mem_of_getElem? hc)).1
   have hne : ((f : Int) != (c : Int)) = true := by rw [bne_iff_ne]; omega
   generalize posD c mid (frS v) = A at b0 ⊢
   generalize posD c mid ((frS v).drop j) = B at hd b1 ⊢
   generalize posD c mid ((frS v).drop (j + 1)) = D at hd b2 ⊢
   refine .inl ⟨_, H', ?_, rfl, rfl⟩
   rw [ζ5w]
   by_cases hx : f = 120
   ·subst hx
    rw [if_pos rfl] at hd
    have hne : ((120 : Int) != (c : Int)) = true := hne
    have e1 : A - B + mid = A - D := by omega
    simp -implicitDefEqProofs (disch := omega) [f1, f2, fc, t1, t2, tc, hne, ζ5v, e1]
   ·rw [if_neg hx] at hd
    have hx' : ((f : Int) == 120) = false := by rw [beq_eq_false_iff_ne]; omega
    have e1 : A - B + 1 = A - D := by omega
    simp -implicitDefEqProofs (disch := omega) [f1, f2, fc, t1, t2, tc, hne, hx', ζ5v, e1])
  (fun e H' ⟨he, hH⟩ => by
   subst he hH
   have fc := ixStr_B l1 .i64 hw H'
   rw [posD_at c mid hw, Int.sub_zero]
   refine ⟨.exit 2, _, H', ?_, by simp, rfl, ⟨.int .i64 w, rfl⟩, rfl⟩
   rw [ζ5w]
   simp -implicitDefEqProofs (disch := omega) [f1, f2, fc, t1, t2, tc])
 exact ⟨z, hr1⟩
theorem ref13_l3 (k : Nat) {H0 H : Heap} {s9 : Value} {o9 : Option Nat} {l9 : List Int} (g : Star H0 H [itRow o9 1 s9 encI l9]) (A : Int) (h0 : 0 ≤ A) (h1 : A < 2 ^ 50) (w : Nat) (hw : w < 2 ^ 30) (hl : l9.length < 2 ^ 30) (a0 a6 a7 a8 a10 : Value) :
  ∃ s o z H', loopN (ζ1n k (R (T k))) loopFuel [(0, a0), (6, a6), (7, a7), (8, a8), (9, s9), (10, a10), (11, .int .i64 A), (13, .int .i64 w), (14, .int .i64 0)] H =
   .ok (.exit 4, [(0, a0), (6, a6), (7, a7), (8, a8), (9, s), (10, a10), (11, .int .i64 A), (13, .int .i64 w), (14, z), (88, .bool false)]) H' ∧ Star H0 H' [itRow o 1 s encI (l9 ++ (List.range w).map fun (k : Nat) => A + k)] := by
 obtain ⟨xx, e', H1, hr1, rfl, s, o, z, rfl, g⟩ := loop_up (body := ζ1n k (R (T k))) w
  (fun j e H' => ∃ s o, e = [(0, a0), (6, a6), (7, a7), (8, a8), (9, s), (10, a10), (11, .int .i64 A), (13, .int .i64 w), (14, .int .i64 j)] ∧ Star H0 H' [itRow o 1 s encI (l9 ++ (List.range j).map fun (k : Nat) => A + k)])
  (fun xx e H' => xx = .exit 4 ∧ ∃ s o z, e = [(0, a0), (6, a6), (7, a7), (8, a8), (9, s), (10, a10), (11, .int .i64 A), (13, .int .i64 w), (14, z), (88, .bool false)] ∧ Star H0 H' [itRow o 1 s encI (l9 ++ (List.range w).map fun (k : Nat) => A + k)])
  (e0 := [(0, a0), (6, a6), (7, a7), (8, a8), (9, s9), (10, a10), (11, .int .i64 A), (13, .int .i64 w), (14, .int .i64 0)]) (H0 := H) ⟨s9, o9, rfl, by simpa using g⟩ (by omega)
  (fun j e H' hj ⟨s, o, he, g⟩ => by
   subst he
   have hjl : (j : Int) < w := by omega
   obtain ⟨s', o', H2, e2, g2⟩ := g.append1 (bytes := 8) 0 encI_len rfl (A + j) (by simp; omega) (by decide)
   simp only [List.set_cons_zero] at g2
   rw [List.append_assoc, ← show (List.range (j + 1)).map (fun (k : Nat) => A + (k : Int)) = (List.range j).map (fun (k : Nat) => A + (k : Int)) ++ [A + j] by simp [List.range_succ]] at g2
   refine .inl ⟨_, H2, ?_, s', o', rfl, g2⟩
   rw [ζ5x]
   simp -implicitDefEqProofs (disch := omega) [hjl, e2])
  (fun e H' ⟨s, o, he, g⟩ => by
   subst he
   refine ⟨.exit 4, _, H', ?_, by simp, rfl, s, o, .int .i64 w, rfl, g⟩
   rw [ζ5x]
   simp -implicitDefEqProofs)
 exact ⟨s, o, z, H1, hr1, g⟩
theorem ref13_l1 (k : Nat) {H0 H : Heap} {v : Nat} {s6 s7 : Value} (ht : Tabs H0 v s6 s7) (hv : ¬ ((v : Int) ≤ 0 ∨ (v : Int) ≥ 16)) {mid : Int} (h0 : 0 ≤ mid) (h1 : mid < 2 ^ 26) (g : Star H0 H [itRow none 1 bareV encI []]) :
  ∃ s o z H', loopN (ζ32 k (R (T k))) loopFuel [(0, .int .i64 v), (6, s6), (7, s7), (8, .int .i64 mid), (9, bareV), (10, .int .i64 0)] H =
   .ok (.exit 0, [(0, .int .i64 v), (6, s6), (7, s7), (8, .int .i64 mid), (9, s), (10, z), (48, .bool false)]) H' ∧ Star H0 H' [itRow o 1 s encI (docO (frS v) mid (toS v))] := by
 obtain ⟨l1, l2, l3, l4⟩ := letters hv
 obtain ⟨xx, e', H1, hr1, rfl, s, o, z, rfl, g⟩ := loop_up (body := ζ32 k (R (T k))) (toS v).length
  (fun j e H' => ∃ s o, e = [(0, .int .i64 v), (6, s6), (7, s7), (8, .int .i64 mid), (9, s), (10, .int .i64 j)] ∧ Star H0 H' [itRow o 1 s encI (docO (frS v) mid ((toS v).take j))])
  (fun xx e H' => xx = .exit 0 ∧ ∃ s o z, e = [(0, .int .i64 v), (6, s6), (7, s7), (8, .int .i64 mid), (9, s), (10, z), (48, .bool false)] ∧ Star H0 H' [itRow o 1 s encI (docO (frS v) mid (toS v))])
  (e0 := [(0, .int .i64 v), (6, s6), (7, s7), (8, .int .i64 mid), (9, bareV), (10, .int .i64 0)]) (H0 := H) ⟨bareV, none, rfl, by simpa [docO] using g⟩ (by omega)
  (fun j e H' hj ⟨s, o, he, g⟩ => by
   subst he
   have hjl : (j : Int) < (toS v).length := by omega
   obtain ⟨c, hc⟩ : ∃ c, (toS v)[j]? = some c := ⟨_, List.getElem?_eq_getElem hj⟩
   obtain ⟨p7, t1, t2⟩ := ht.to H' g.ext
   have tl := lnStr_B (toS v) H'
   obtain ⟨zz, e2⟩ := ref13_l2 k ht g.ext hv h0 (by omega) hc s
   have tc := ixStr_B (fun c hc => (l2 c hc).1) .i64 hc H'
   have hcb := (l2 c (List.mem_of_getElem? hc)).1
   have hlen := docO_len (fr := frS v) h0 ((toS v).take j)
   have hA := ζei c h0 (frS v)
   have hA2 : ((frS v).length : Int) * (mid + 1) ≤ 5 * (mid + 1) := Int.mul_le_mul_of_nonneg_right (by omega) (by omega)
   have hL2 : (((toS v).take j).length : Int) * (mid + 1) ≤ 5 * (mid + 1) := Int.mul_le_mul_of_nonneg_right (by rw [List.length_take]; omega) (by omega)
   generalize (((toS v).take j).length : Int) * (mid + 1) = y1 at hlen hL2
   generalize ((frS v).length : Int) * (mid + 1) = y2 at hA hA2
   have hsn := ζm8 (frS v) mid hc
   unfold pieceD at hsn
   by_cases hx : c = 120
   ·subst hx
    rw [if_pos rfl] at hsn
    obtain ⟨s', o', z', H3, e3, g3⟩ := ref13_l3 k g (posD 120 mid (frS v)) (by omega) (by omega) mid.toNat (by omega) (by omega) (.int .i64 v) s6 s7 (.int .i64 mid) (.int .i64 j)
    rw [← hsn] at g3
    rw [Int.toNat_of_nonneg h0] at e3
    refine .inl ⟨_, H3, ?_, s', o', rfl, g3⟩
    rw [ζ3d]
    simp -implicitDefEqProofs (disch := omega) [t1, t2, tl, hjl, e2, ζ4u, tc, ζa5, e3, ζ4v]
   ·rw [if_neg hx] at hsn
    have hx' : ((c : Int) == 120) = false := by rw [beq_eq_false_iff_ne]; omega
    obtain ⟨s', o', z', H3, e3, g3⟩ := ref13_l3 k g (posD c mid (frS v)) (by omega) (by omega) 1 (by omega) (by omega) (.int .i64 v) s6 s7 (.int .i64 mid) (.int .i64 j)
    rw [← hsn] at g3
    have e3 : loopN (ζ1n k (R (T k))) loopFuel [(0, .int .i64 v), (6, s6), (7, s7), (8, .int .i64 mid), (9, s), (10, .int .i64 j), (11, .int .i64 (posD c mid (frS v))), (13, .int .i64 1), (14, .int .i64 0)] H' = _ := e3
    refine .inl ⟨_, H3, ?_, s', o', rfl, g3⟩
    rw [ζ3d]
    simp -implicitDefEqProofs (disch := omega) [t1, t2, tl, hjl, e2, ζ4u, tc, hx', ζa6, e3, ζ4v])
  (fun e H' ⟨s, o, he, g⟩ => by
   subst he
   rw [List.take_length] at g
   obtain ⟨p7, t1, t2⟩ := ht.to H' g.ext
   have tl := lnStr_B (toS v) H'
   refine ⟨.exit 0, _, H', ?_, by simp, rfl, s, o, .int .i64 (toS v).length, rfl, g⟩
   rw [ζ3d]
   simp -implicitDefEqProofs [t1, t2, tl])
 exact ⟨s, o, z, H1, hr1, g⟩
theorem tab_at (H : Heap) (p : Nat) (l : List (List Nat)) (h : l.length = 16) (hg : H.get p = some ⟨l.map strC, 1, false⟩) {v : Nat} (hv : v < 16) :
  ∀ H', Ext H H' → ∃ q, ixS 1 (.slice (some ⟨p, 0, none⟩) 16 16) (.int .i64 v) H' = .ok q H' ∧ ld1 q H' = .ok (strC ((l[v]?).getD [])) H' := fun H' hx => by
 have hg := hx.get hg
 refine ⟨.pointer (some ⟨p, v, none⟩), ?_, ?_⟩
 ·unfold ixS
  dsimp only
  rw [if_pos ⟨by omega, by omega⟩]
  simp
 ·have : (l.map strC)[v]? = some (strC ((l[v]?).getD [])) := by
   rw [List.getElem?_map, List.getElem?_eq_getElem (by omega)]
   rfl
  simp -implicitDefEqProofs [hg, this]
set_option maxRecDepth 10000 in
theorem be_fr (h : Heap) : buildSliceR Prog 313 16 [(0, (.string ⟨#[]⟩)), (1, (.string ⟨#[65, 120]⟩)), (2, (.string ⟨#[120, 68]⟩)), (3, (.string ⟨#[65, 120, 68]⟩)), (4, (.string ⟨#[65, 66, 120]⟩)), (5, (.string ⟨#[65, 66, 120]⟩)), (6, (.string ⟨#[120, 67, 68]⟩)), (7, (.string ⟨#[120, 67, 68]⟩)), (8, (.string ⟨#[65, 120, 67, 68]⟩)), (9, (.string ⟨#[65, 120, 67, 68]⟩)), (10, (.string ⟨#[65, 66, 120, 68]⟩)), (11, (.string ⟨#[65, 66, 120, 68]⟩)), (12, (.string ⟨#[65, 66, 120, 67, 68]⟩)), (13, (.string ⟨#[65, 66, 120, 67, 68]⟩)), (14, (.string ⟨#[65, 66, 120, 67, 68]⟩)), (15, (.string ⟨#[65, 66, 120, 67, 68]⟩))] h = .ok (.slice (some ⟨h.n, 0, none⟩) 16 16) (h.push ⟨frT.map strC, 1, false⟩) :=
 (ζaa _ h).trans rfl
set_option maxRecDepth 10000 in
theorem be_to (h : Heap) : buildSliceR Prog 313 16 [(0, (.string ⟨#[]⟩)), (1, (.string ⟨#[120, 65]⟩)), (2, (.string ⟨#[68, 120]⟩)), (3, (.string ⟨#[68, 120, 65]⟩)), (4, (.string ⟨#[120, 65, 66]⟩)), (5, (.string ⟨#[120, 66, 65]⟩)), (6, (.string ⟨#[67, 68, 120]⟩)), (7, (.string ⟨#[68, 67, 120]⟩)), (8, (.string ⟨#[67, 68, 120, 65]⟩)), (9, (.string ⟨#[68, 67, 120, 65]⟩)), (10, (.string ⟨#[68, 120, 65, 66]⟩)), (11, (.string ⟨#[68, 120, 66, 65]⟩)), (12, (.string ⟨#[67, 68, 120, 65, 66]⟩)), (13, (.string ⟨#[67, 68, 120, 66, 65]⟩)), (14, (.string ⟨#[68, 67, 120, 65, 66]⟩)), (15, (.string ⟨#[68, 67, 120, 66, 65]⟩))] h = .ok (.slice (some ⟨h.n, 0, none⟩) 16 16) (h.push ⟨toT.map strC, 1, false⟩) :=
 (ζaa _ h).trans rfl
theorem ζmw (k : Nat) (v n : Int) (hv : -2 ^ 62 < v ∧ v < 2 ^ 62) (hn : -2 ^ 26 < n ∧ n < 2 ^ 26) (H : Heap) :
  R (T k) F.ζ2 [.int .i64 v, .int .i64 n] H = .ok (.tuple #[lv encI ((orderS v n).getD []), .bool (orderS v n).isSome]) H := by
 rw [ζcw]
 have fl : ∀ (l : List Int) b, Flat (.tuple #[lv encI l, .bool b]) := fun l b => Flat.tupleL (l := [lv encI l, .bool b]) (.cons (Flat.lv fun p _ => .cons (.int _ _) .nil) (.cons (.bool _) .nil))
 obtain ⟨H1, hH1⟩ : ∃ H1, H1 = (H.push ⟨frT.map strC, 1, false⟩).push ⟨toT.map strC, 1, false⟩ := ⟨_, rfl⟩
 have hx1 : Ext H H1 := by rw [hH1]; exact ((Ext.refl H).push _).push _
 have hH1' : (H.push ⟨frT.map strC, 1, false⟩).push ⟨toT.map strC, 1, false⟩ = H1 := hH1.symm
 have g6 : H1.get H.n = some ⟨frT.map strC, 1, false⟩ := by rw [hH1]; exact ((Ext.refl _).push _).get (ζc _ _ _ rfl)
 have g7 : H1.get (H.n + 1) = some ⟨toT.map strC, 1, false⟩ := by rw [hH1]; exact ζc _ _ _ (by simp)
 unfold orderS
 by_cases c0 : v ≤ 0
 ·rw [if_pos (.inl c0)]
  refine nrm_fz (v := .tuple #[.slice none 0 0, .bool false]) (u := .tuple #[lv encI [], .bool false]) (L := []) (H' := H1) ?_ rfl hx1 (fl [] false).alive
  simp -implicitDefEqProofs (disch := omega) [-ζaa, be_fr, be_to, ζ2, c0, hH1']
 by_cases c1 : v ≥ 16
 ·rw [if_pos (.inr (.inl c1))]
  refine nrm_fz (v := .tuple #[.slice none 0 0, .bool false]) (u := .tuple #[lv encI [], .bool false]) (L := []) (H' := H1) ?_ rfl hx1 (fl [] false).alive
  simp -implicitDefEqProofs (disch := omega) [-ζaa, be_fr, be_to, ζ2, c0, c1, hH1']
 obtain ⟨w, rfl⟩ := Int.eq_ofNat_of_zero_le (show 0 ≤ v by omega)
 have hw0 : ¬ w = 0 := by omega
 have hvv : ¬ ((w : Int) ≤ 0 ∨ (w : Int) ≥ 16) := by omega
 have ht : Tabs H1 w (.slice (some ⟨H.n, 0, none⟩) 16 16) (.slice (some ⟨H.n + 1, 0, none⟩) 16 16) := by
  have e1 : frS (w : Int) = (frT[w]?).getD [] := by unfold frS; rw [Int.toNat_natCast]
  have e2 : toS (w : Int) = (toT[w]?).getD [] := by unfold toS; rw [Int.toNat_natCast]
  refine ⟨fun H' hx => ?_, fun H' hx => ?_⟩
  ·rw [e1]; exact tab_at H1 H.n frT rfl g6 (by omega) H' hx
  ·rw [e2]; exact tab_at H1 (H.n + 1) toT rfl g7 (by omega) H' hx
 obtain ⟨p6, f1, f2⟩ := ht.fr H1 (Ext.refl _)
 have fln := lnStr_B (frS w) H1
 have hfl := fr_len hvv
 have hed := ζbn hvv
 by_cases c2 : n < (endsS w).1 + (endsS w).2.1
 ·rw [if_pos (.inr (.inr c2))]
  have c2' : n < ((frS w).length : Int) - 1 := by omega
  refine nrm_fz (v := .tuple #[.slice none 0 0, .bool false]) (u := .tuple #[lv encI [], .bool false]) (L := []) (H' := H1) ?_ rfl hx1 (fl [] false).alive
  simp -implicitDefEqProofs (disch := omega) [-ζaa, be_fr, be_to, ζ2, c0, c1, hw0, hH1', f1, f2, fln, c2']
 rw [if_neg (by omega)]
 have c2' : ¬ n < ((frS w).length : Int) - 1 := by omega
 have hdoc := ζmn hvv n c2
 rw [← hdoc]
 have hmid : n - ((endsS (w : Int)).1 + (endsS (w : Int)).2.1) = n - (((frS w).length : Int) - 1) := by omega
 rw [hmid]
 have g := (Star.nil H1).more_row (Ext.refl _) (OwnO.bare encI _ 1) (fun b hb => by cases hb)
 simp only [List.nil_append] at g
 obtain ⟨s, o, z, H2, e2, g⟩ := ref13_l1 k ht hvv (mid := n - (((frS w).length : Int) - 1)) (by omega) (by omega) g
 have hown : Own H H2 1 s encI (docO (frS w) (n - (((frS w).length : Int) - 1)) (toS w)) := (g.own 0 rfl).base hx1.n
 obtain ⟨L, hf⟩ := hown.freeze encI_len (fun p _ v hv => by simp at hv; subst hv; trivial) 5
 have hft : fzV H.n H2 fzDepth (.tuple #[s, .bool true]) = some (.tuple #[lv encI (docO (frS w) (n - (((frS w).length : Int) - 1)) (toS w)), .bool true], L ++ []) :=
  fz_tuple (l := [s, .bool true]) (r := [_, .bool true]) (ζ1a hf (ζ82 fun v hv => by simp at hv; subst hv; trivial))
 refine nrm_fz (v := .tuple #[s, .bool true]) (H' := H2) ?_ hft (hx1.trans g.ext) (fl _ _).alive
 generalize hm : n - (((frS w).length : Int) - 1) = mid at e2
 generalize docO (frS w) mid (toS w) = dd
 simp -implicitDefEqProofs (disch := omega) [-ζaa, be_fr, be_to, ζ2, c0, c1, hw0, hH1', f1, f2, fln, c2', hm, e2, ζ9f]
end Go.Sw
end
section
set_option maxRecDepth 100000
set_option linter.unusedVariables false
namespace Go.Sw
noncomputable section
def ζ2k (k : Nat) (call : Caller) (a0 : Value) (h : Heap) : Res Value :=
 (allocR Prog 288 h).bind fun v1 h2 =>
 (binR Prog .mul 3 (.int .i64 2) a0 h2).bind fun v3 h4 =>
 (binR Prog .add 3 v3 (.int .i64 128) h4).bind fun v5 h6 =>
 (buildR Prog 288 [(4, v5)] h6).bind fun v7 h8 =>
 (storeR Prog 288 v1 v7 h8).bind fun _v9 h10 =>
 (loadR Prog 288 v1 h10).bind fun v11 h12 =>
 .ok v11 h12
theorem ζcv (k : Nat) (a0 : Value) (h : Heap) : R (T k) F.ζ2k [a0] h = nrm .gc h (ζ2k k (R (T k)) a0 h) :=
 (R_body (t := T k) (T_scott k) (by kernel_rfl) (by kernel_rfl) _ _).trans (by kernel_rfl)
def ζ8l (k : Nat) (call : Caller) (a3 a4 a6 a8 : Value) (h : Heap) : Res Value :=
 kSeq (pieceK (C k) call F.ζ16 [1, 1, 1, 1]) (kDone Prog (resOf Prog F.ζ16)) .normal [(3, a3), (4, a4), (6, a6), (8, a8)] h
def ζ8m (k : Nat) (call : Caller) (a2 a3 a4 a6 a8 a18 : Value) (h : Heap) : Res Value :=
 kSeq (pieceK (C k) call F.ζ16 [1, 1, 1, 1]) (kDone Prog (resOf Prog F.ζ16)) .normal [(2, a2), (3, a3), (4, a4), (6, a6), (8, a8), (18, a18)] h
def ζ16 (k : Nat) (call : Caller) (a0 a1 a2 : Value) (h : Heap) : Res Value :=
 (boxR a0 h).bind fun v1 h2 =>
 (boxR a1 h2).bind fun v3 h4 =>
 (allocR Prog 150 h4).bind fun v5 h6 =>
 (fieldAddrR Prog 288 v3 5 h6).bind fun v7 h8 =>
 (loadR Prog 4 v7 h8).bind fun v9 h10 =>
 condV (some v9) (
 (buildR Prog 150 [] h10).bind fun v11 h12 =>
 (storeR Prog 150 v5 v11 h12).bind fun _v13 h14 =>
 (loadR Prog 150 v5 h14).bind fun v15 h16 =>
 .ok (.tuple #[v15, (.bool false)]) h16)
 (
 (fieldAddrR Prog 288 v3 1 h10).bind fun v17 h18 =>
 (loadR Prog 3 v17 h18).bind fun v19 h20 =>
 (builtinV Prog .len [50] [a2] h20).bind fun v21 h22 =>
 (binR Prog .lss 3 v19 v21 h22).bind fun v23 h24 =>
 condV (some v23) (
 (loadR Prog 137 v1 h24).bindN fun v25 h26 =>
 (fieldAddrR Prog 288 v3 1 h26).bindN fun v27 h28 =>
 (loadR Prog 3 v27 h28).bindN fun v29 h30 =>
 (indexAddrR Prog 50 a2 v29 h30).bindN fun v31 h32 =>
 (fieldAddrR Prog 55 v31 0 h32).bindN fun v33 h34 =>
 (loadR Prog 3 v33 h34).bindN fun v35 h36 =>
 (call F.ζ1b [v25, v35] h36).bindT (fun p39 h40 => .panic p39 h40) fun v37 h38 =>
 ζ8l k call v1 v3 v5 v37 h38)
 (
 ζ8m k call a2 v1 v3 v5 (.int .i64 0) v23 h24))
theorem ζdf (k : Nat) (a0 a1 a2 : Value) (h : Heap) : R (T k) F.ζ16 [a0, a1, a2] h = nrm .gc h (ζ16 k (R (T k)) a0 a1 a2 h) :=
 (R_body (t := T k) (T_scott k) (by kernel_rfl) (by kernel_rfl) _ _).trans (by kernel_rfl)
theorem ζay (k : Nat) (call : Caller) (a3 a4 a6 a8 : Value) (h : Heap) : ζ8l k call a3 a4 a6 a8 h =
 (loadR Prog 137 a3 h).bind fun v41 h42 =>
 (fieldAddrR Prog 288 a4 0 h42).bind fun v43 h44 =>
 (loadR Prog 3 v43 h44).bind fun v45 h46 =>
 (call F.ζ14 [v41, v45, a8] h46).bind fun v47 h48 =>
 (extractR v47 0 h48).bind fun v49 h50 =>
 (extractR v47 1 h50).bind fun v51 h52 =>
 (allocR Prog 150 h52).bind fun v53 h54 =>
 (storeR Prog 150 v53 v49 h54).bind fun _v55 h56 =>
 (loadR Prog 150 v53 h56).bind fun v57 h58 =>
 (storeR Prog 150 a6 v57 h58).bind fun _v59 h60 =>
 (loadR Prog 150 a6 h60).bind fun v61 h62 =>
 .ok (.tuple #[v61, v51]) h62 := by kernel_rfl
theorem ζaz (k : Nat) (call : Caller) (a2 a3 a4 a6 a8 a18 : Value) (h : Heap) : ζ8m k call a2 a3 a4 a6 a8 a18 h =
 (loadR Prog 137 a3 h).bind fun v63 h64 =>
 (fieldAddrR Prog 288 a4 0 h64).bind fun v65 h66 =>
 (loadR Prog 3 v65 h66).bind fun v67 h68 =>
 (call F.ζ14 [v63, v67, a8] h68).bind fun v69 h70 =>
 (extractR v69 0 h70).bind fun v71 h72 =>
 (extractR v69 1 h72).bind fun v73 h74 =>
 (allocR Prog 150 h74).bind fun v75 h76 =>
 (storeR Prog 150 v75 v71 h76).bind fun _v77 h78 =>
 (loadR Prog 150 v75 h78).bind fun v79 h80 =>
 (storeR Prog 150 a6 v79 h80).bind fun _v81 h82 =>
 (loadR Prog 150 a6 h82).bind fun v83 h84 =>
 .ok (.tuple #[v83, v73]) h84 := by kernel_rfl
def ζ77 (k : Nat) (call : Caller) (a5 a10 a11 : Value) (h : Heap) : Res Value :=
 kSeq (pieceK (C k) call F.ζb [1, 1, 1, 1, 1]) (kDone Prog (resOf Prog F.ζb)) .normal [(5, a5), (10, a10), (11, a11)] h
def ζa3 (k : Nat) (call : Caller) (a5 a10 a11 : Value) (h : Heap) : Res Value :=
 kSeq (pieceK (C k) call F.ζb [1, 1, 1, 1, 1, 1]) (kDone Prog (resOf Prog F.ζb)) .normal [(5, a5), (10, a10), (11, a11)] h
def ζa4 (k : Nat) (call : Caller) (a5 a10 a11 a39 : Value) (h : Heap) : Res Value :=
 kSeq (pieceK (C k) call F.ζb [1, 1, 1, 1, 1, 1]) (kDone Prog (resOf Prog F.ζb)) .normal [(5, a5), (10, a10), (11, a11), (39, a39)] h
def ζ3c (k : Nat) (call : Caller) (a5 a10 : Value) (h : Heap) : Res Value :=
 kSeq (pieceK (C k) call F.ζb [1, 1, 1, 1, 1, 1, 1]) (kDone Prog (resOf Prog F.ζb)) .normal [(5, a5), (10, a10)] h
def ζ78 (k : Nat) (call : Caller) (a5 a10 a52 : Value) (h : Heap) : Res Value :=
 kSeq (pieceK (C k) call F.ζb [1, 1, 1, 1, 1, 1, 1]) (kDone Prog (resOf Prog F.ζb)) .normal [(5, a5), (10, a10), (52, a52)] h
def ζb (k : Nat) (call : Caller) (a0 a1 a2 a3 a4 : Value) (h : Heap) : Res Value :=
 (boxR a0 h).bind fun v1 h2 =>
 (boxR a1 h2).bind fun v3 h4 =>
 (allocR Prog 288 h4).bind fun v5 h6 =>
 (fieldAddrR Prog 288 v1 1 h6).bind fun v7 h8 =>
 (loadR Prog 3 v7 h8).bind fun v9 h10 =>
 (binR Prog .geq 3 v9 a2 h10).bind fun v11 h12 =>
 (fieldAddrR Prog 288 v1 2 h12).bind fun v13 h14 =>
 (loadR Prog 3 v13 h14).bind fun v15 h16 =>
 (binR Prog .add 3 v15 (.int .i64 1) h16).bind fun v17 h18 =>
 (fieldAddrR Prog 288 v1 2 h18).bind fun v19 h20 =>
 (storeR Prog 3 v19 v17 h20).bind fun _v21 h22 =>
 (fieldAddrR Prog 150 v3 0 h22).bind fun v23 h24 =>
 (loadR Prog 3 v23 h24).bind fun v25 h26 =>
 (fieldAddrR Prog 288 v1 0 h26).bind fun v27 h28 =>
 (storeR Prog 3 v27 v25 h28).bind fun _v29 h30 =>
 (fieldAddrR Prog 150 v3 1 h30).bind fun v31 h32 =>
 (loadR Prog 3 v31 h32).bind fun v33 h34 =>
 (binR Prog .quo 3 v33 (.int .i64 16384) h34).bind fun v35 h36 =>
 (binR Prog .rem 3 v35 (.int .i64 2) h36).bind fun v37 h38 =>
 (binR Prog .eql 3 v37 (.int .i64 1) h38).bind fun v39 h40 =>
 condV (some v39) (
 (fieldAddrR Prog 288 v1 3 h40).bind fun v41 h42 =>
 (loadR Prog 3 v41 h42).bind fun v43 h44 =>
 (binR Prog .add 3 v43 (.int .i64 1) h44).bind fun v45 h46 =>
 (fieldAddrR Prog 288 v1 3 h46).bind fun v47 h48 =>
 (storeR Prog 3 v47 v45 h48).bind fun _v49 h50 =>
 (fieldAddrR Prog 288 v1 1 h50).bind fun v51 h52 =>
 (storeR Prog 3 v51 a3 h52).bind fun _v53 h54 =>
 ζ77 k call v1 v5 (.bool false) h54)
 (
 (fieldAddrR Prog 288 v1 3 h40).bind fun v55 h56 =>
 (storeR Prog 3 v55 (.int .i64 0) h56).bind fun _v57 h58 =>
 (fieldAddrR Prog 288 v1 1 h58).bind fun v59 h60 =>
 (storeR Prog 3 v59 a4 h60).bind fun _v61 h62 =>
 ζ77 k call v1 v5 v11 h62)
theorem ζfj (k : Nat) (a0 a1 a2 a3 a4 : Value) (h : Heap) : R (T k) F.ζb [a0, a1, a2, a3, a4] h = nrm .gc h (ζb k (R (T k)) a0 a1 a2 a3 a4 h) :=
 (R_body (t := T k) (T_scott k) (by kernel_rfl) (by kernel_rfl) _ _).trans (by kernel_rfl)
theorem ζj (k : Nat) (call : Caller) (a5 a10 a11 : Value) (h : Heap) : ζ77 k call a5 a10 a11 h =
 (fieldAddrR Prog 288 a5 1 h).bind fun v63 h64 =>
 (loadR Prog 3 v63 h64).bind fun v65 h66 =>
 (binR Prog .lss 3 v65 (.int .i64 0) h66).bind fun v67 h68 =>
 condV (some v67) (
 (fieldAddrR Prog 288 a5 1 h68).bind fun v69 h70 =>
 (storeR Prog 3 v69 (.int .i64 0) h70).bind fun _v71 h72 =>
 ζa3 k call a5 a10 a11 h72)
 (
 ζa4 k call a5 a10 a11 v67 h68) := by kernel_rfl
theorem ζ1l (k : Nat) (call : Caller) (a5 a10 a11 : Value) (h : Heap) : ζa3 k call a5 a10 a11 h =
 condV (some a11) (
 (fieldAddrR Prog 288 a5 5 h).bind fun v73 h74 =>
 (storeR Prog 4 v73 (.bool true) h74).bind fun _v75 h76 =>
 ζ3c k call a5 a10 h76)
 (
 (fieldAddrR Prog 288 a5 2 h).bind fun v77 h78 =>
 (loadR Prog 3 v77 h78).bind fun v79 h80 =>
 (fieldAddrR Prog 288 a5 4 h80).bind fun v81 h82 =>
 (loadR Prog 3 v81 h82).bind fun v83 h84 =>
 (binR Prog .geq 3 v79 v83 h84).bind fun v85 h86 =>
 ((bif wantVal v85 false then fieldAddrR Prog 288 a5 3 h86 else Res.ok undef h86)).bind fun v87 h88 =>
 ((bif wantVal v85 false then loadR Prog 3 v87 h88 else Res.ok undef h88)).bind fun v89 h90 =>
 ((bif wantVal v85 false then binR Prog .gtr 3 v89 (.int .i64 64) h90 else Res.ok undef h90)).bind fun v91 h92 =>
 (condV (some v85) (Res.ok (.bool true) h92) (Res.ok v91 h92)).bind fun v93 h94 =>
 condV (some v93) (
 (fieldAddrR Prog 288 a5 5 h94).bind fun v95 h96 =>
 (storeR Prog 4 v95 (.bool true) h96).bind fun _v97 h98 =>
 (fieldAddrR Prog 288 a5 6 h98).bind fun v99 h100 =>
 (storeR Prog 3 v99 (.int .i64 4) h100).bind fun _v101 h102 =>
 ζ3c k call a5 a10 h102)
 (
 ζ78 k call a5 a10 v93 h94)) := by kernel_rfl
theorem ζ1m (k : Nat) (call : Caller) (a5 a10 a11 a39 : Value) (h : Heap) : ζa4 k call a5 a10 a11 a39 h =
 condV (some a11) (
 (fieldAddrR Prog 288 a5 5 h).bind fun v103 h104 =>
 (storeR Prog 4 v103 (.bool true) h104).bind fun _v105 h106 =>
 ζ3c k call a5 a10 h106)
 (
 (fieldAddrR Prog 288 a5 2 h).bind fun v107 h108 =>
 (loadR Prog 3 v107 h108).bind fun v109 h110 =>
 (fieldAddrR Prog 288 a5 4 h110).bind fun v111 h112 =>
 (loadR Prog 3 v111 h112).bind fun v113 h114 =>
 (binR Prog .geq 3 v109 v113 h114).bind fun v115 h116 =>
 ((bif wantVal v115 false then fieldAddrR Prog 288 a5 3 h116 else Res.ok undef h116)).bind fun v117 h118 =>
 ((bif wantVal v115 false then loadR Prog 3 v117 h118 else Res.ok undef h118)).bind fun v119 h120 =>
 ((bif wantVal v115 false then binR Prog .gtr 3 v119 (.int .i64 64) h120 else Res.ok undef h120)).bind fun v121 h122 =>
 (condV (some v115) (Res.ok (.bool true) h122) (Res.ok v121 h122)).bind fun v123 h124 =>
 condV (some v123) (
 (fieldAddrR Prog 288 a5 5 h124).bind fun v125 h126 =>
 (storeR Prog 4 v125 (.bool true) h126).bind fun _v127 h128 =>
 (fieldAddrR Prog 288 a5 6 h128).bind fun v129 h130 =>
 (storeR Prog 3 v129 (.int .i64 4) h130).bind fun _v131 h132 =>
 ζ3c k call a5 a10 h132)
 (
 ζ78 k call a5 a10 v123 h124)) := by kernel_rfl
theorem ζ13 (k : Nat) (call : Caller) (a5 a10 : Value) (h : Heap) : ζ3c k call a5 a10 h =
 (loadR Prog 288 a5 h).bind fun v133 h134 =>
 (storeR Prog 288 a10 v133 h134).bind fun _v135 h136 =>
 (loadR Prog 288 a10 h136).bind fun v137 h138 =>
 .ok v137 h138 := by kernel_rfl
theorem ζ31 (k : Nat) (call : Caller) (a5 a10 a52 : Value) (h : Heap) : ζ78 k call a5 a10 a52 h =
 (loadR Prog 288 a5 h).bind fun v139 h140 =>
 (storeR Prog 288 a10 v139 h140).bind fun _v141 h142 =>
 (loadR Prog 288 a10 h142).bind fun v143 h144 =>
 .ok v143 h144 := by kernel_rfl
end
end Go.Sw
end
section
namespace Go.Sw
open Go.RowKit
structure Way where
 st : Int
 pl : Int
 stp : Int
 rest : Int
 most : Int
 over : Bool
 code : Int
abbrev wayC (w : Way) : List Value := [.int .i64 w.st, .int .i64 w.pl, .int .i64 w.stp, .int .i64 w.rest, .int .i64 w.most, .bool w.over, .int .i64 w.code]
abbrev wayV (w : Way) : Value := .agg (wayC w).toArray
theorem Flat.way (w : Way) : Flat (wayV w) := .aggL (.cons (.int _ _) (.cons (.int _ _) (.cons (.int _ _) (.cons (.int _ _) (.cons (.int _ _) (.cons (.bool _) (.cons (.int _ _) .nil)))))))
theorem ζlr (k : Nat) (n : Int) (h0 : 0 ≤ n) (h1 : n < 2 ^ 40) (H : Heap) : R (T k) F.ζ2k [.int .i64 n] H = .ok (wayV ⟨0, 0, 0, 0, 2 * n + 128, false, 0⟩) H := by
 rw [ζcv]
 refine nrm_gc ⟨H.push ⟨wayC ⟨0, 0, 0, 0, 2 * n + 128, false, 0⟩, 1, false⟩, ?_, (Ext.refl H).push _⟩ (Flat.way _).alive
 simp -implicitDefEqProofs (disch := omega) [ζ2k]
def goS (w : Way) (e : En) (n stay on : Int) : Way :=
 let s : Bool := decide (e.flags / 16384 % 2 = 1)
 let rest := if s then w.rest + 1 else 0
 let pl := max (if s then stay else on) 0
 let fin : Bool := !s && decide (w.pl ≥ n)
 if fin then ⟨e.next, pl, w.stp + 1, rest, w.most, true, w.code⟩
 else if w.stp + 1 ≥ w.most ∨ rest > 64 then ⟨e.next, pl, w.stp + 1, rest, w.most, true, 4⟩
 else ⟨e.next, pl, w.stp + 1, rest, w.most, w.over, w.code⟩
set_option maxHeartbeats 1000000 in
theorem Go_run (k : Nat) (w : Way) (e : En) (n stay on : Int) (hw : 0 ≤ w.stp ∧ w.stp < 2 ^ 50 ∧ 0 ≤ w.rest ∧ w.rest < 2 ^ 50) (he : 0 ≤ e.flags ∧ e.flags < 65536) (H : Heap) :
  R (T k) F.ζb [wayV w, encE e, .int .i64 n, .int .i64 stay, .int .i64 on] H = .ok (wayV (goS w e n stay on)) H := by
 rw [ζfj]
 have q1 := fun H => bin_quo Prog 3 H .i64 e.flags 16384 (by decide)
 rw [Int.tdiv_eq_ediv_of_nonneg he.1] at q1
 have hq : 0 ≤ e.flags / 16384 := Int.ediv_nonneg he.1 (by decide)
 have q2 := fun H => bin_rem Prog 3 H .i64 (e.flags / 16384) 2 (by decide)
 rw [Int.tmod_eq_emod_of_nonneg hq] at q2
 refine nrm_gc ⟨((H.push ⟨wayC (goS w e n stay on), 1, false⟩).push ⟨encEn e, 1, false⟩).push ⟨wayC (goS w e n stay on), 1, false⟩, ?_, (((Ext.refl H).push _).push _).push _⟩ (Flat.way _).alive
 unfold goS
 by_cases c1 : e.flags / 16384 % 2 = 1
 ·have m1 : max stay 0 = if stay < 0 then 0 else stay := by split <;> omega
  by_cases c2 : stay < 0
  ·by_cases c3 : w.stp + 1 ≥ w.most
   ·simp -implicitDefEqProofs (disch := omega) [ζb, q1, q2, c1, m1, c2, c3, ζj, ζ1l, ζ13]
   ·by_cases c4 : w.rest + 1 > 64
    ·simp -implicitDefEqProofs (disch := omega) [ζb, q1, q2, c1, m1, c2, c3, c4, ζj, ζ1l, ζ13]
    ·simp -implicitDefEqProofs (disch := omega) [ζb, q1, q2, c1, m1, c2, c3, c4, ζj, ζ1l, ζ31]
  ·by_cases c3 : w.stp + 1 ≥ w.most
   ·simp -implicitDefEqProofs (disch := omega) [ζb, q1, q2, c1, m1, c2, c3, ζj, ζ1m, ζ13]
   ·by_cases c4 : w.rest + 1 > 64
    ·simp -implicitDefEqProofs (disch := omega) [ζb, q1, q2, c1, m1, c2, c3, c4, ζj, ζ1m, ζ13]
    ·simp -implicitDefEqProofs (disch := omega) [ζb, q1, q2, c1, m1, c2, c3, c4, ζj, ζ1m, ζ31]
 ·have c1' : (e.flags / 16384 % 2 == 1) = false := by simpa using c1
  have m1 : max on 0 = if on < 0 then 0 else on := by split <;> omega
  by_cases c5 : w.pl ≥ n
  ·by_cases c2 : on < 0
   ·simp -implicitDefEqProofs (disch := omega) [ζb, q1, q2, c1, c1', m1, c2, c5, ζj, ζ1l, ζ13]
   ·simp -implicitDefEqProofs (disch := omega) [ζb, q1, q2, c1, c1', m1, c2, c5, ζj, ζ1m, ζ13]
  ·by_cases c3 : w.stp + 1 ≥ w.most
   ·by_cases c2 : on < 0
    ·simp -implicitDefEqProofs (disch := omega) [ζb, q1, q2, c1, c1', m1, c2, c3, c5, ζj, ζ1l, ζ13]
    ·simp -implicitDefEqProofs (disch := omega) [ζb, q1, q2, c1, c1', m1, c2, c3, c5, ζj, ζ1m, ζ13]
   ·by_cases c2 : on < 0
    ·simp -implicitDefEqProofs (disch := omega) [ζb, q1, q2, c1, c1', m1, c2, c3, c5, ζj, ζ1l, ζ31]
    ·simp -implicitDefEqProofs (disch := omega) [ζb, q1, q2, c1, c1', m1, c2, c3, c5, ζj, ζ1m, ζ31]
end Go.Sw
end
section
namespace Go.Sw
open Go.RowKit
theorem ζm2 (m : Mach) (l : List Gl) (pl : Int) (h : 0 ≤ pl) : (clsS m l pl).1 = if pl < l.length then (match l[pl.toNat]? with | some g => classS m g.id | none => 0) else 0 := by
 unfold clsS atG
 by_cases h2 : pl < l.length
 ·rw [if_pos ⟨h, h2⟩, if_pos h2]
  obtain ⟨g, hg⟩ : ∃ g, l[pl.toNat]? = some g := ⟨_, List.getElem?_eq_getElem (by omega)⟩
  rw [hg]
 ·rw [if_neg (fun hc => h2 hc.2), if_neg h2]
set_option maxHeartbeats 1000000 in
theorem Next_run (k : Nat) {b : List Int} (hb : Byt b) {g w : Int} (hg : 1 ≤ g ∧ g ≤ 65535) (hw : w = 0 ∨ w = 1 ∨ w = 2) (hl : b.length < 2 ^ 31) {m : Mach} (hm : m.ok) (h : machS b g w = some m) (y : Way) (hy : y.over = false) (hp : 0 ≤ y.pl) (l : List Gl) (hll : l.length < 2 ^ 40) (H : Heap) :
  R (T k) F.ζ16 [rmV (rmOf b g w m), wayV y, lv encG l] H = .ok (.tuple #[encEA (stepS m y.st (clsS m l y.pl).1), .bool (stepS m y.st (clsS m l y.pl).1).isSome]) H := by
 rw [ζdf]
 have hstep := fun c H' => ζn4 k hb hw hl hm h y.st c H'
 have hcls := fun id H' => ζkk k hb hg hl hm h id H'
 have hc := ζm2 m l y.pl hp
 obtain ⟨st, pl, stp, rest, most, over, code⟩ := y
 dsimp only at hy hp hstep hc ⊢
 subst hy
 generalize rmOf b g w m = r at hstep hcls ⊢
 have fl : ∀ o : Option En, Flat (.tuple #[encEA o, .bool o.isSome]) := fun o => .tupleL (.cons (ζe1 _) (.cons (.bool _) .nil))
 by_cases h2 : pl < l.length
 ·rw [if_pos h2] at hc
  obtain ⟨gl, hgl⟩ : ∃ gl, l[pl.toNat]? = some gl := ⟨_, List.getElem?_eq_getElem (by omega)⟩
  rw [hgl] at hc
  dsimp only at hc
  have i1 := fun H' => ixS_lv encG_len l .i64 pl gl hp hgl H'
  rw [hc]
  generalize hs : stepS m st (classS m gl.id) = o
  have hst := fun H' => hstep (classS m gl.id) H'
  rw [hs] at hst
  have fo := fl o
  unfold encEA at hst fo ⊢
  generalize o.isSome = z at hst fo ⊢
  generalize o.getD ⟨0, 0, 0, 0⟩ = e at hst fo ⊢
  refine nrm_gc ⟨((((H.push ⟨rmCells r.b r.cl r.rowsAt r.entsAt r.states r.n r.words r.tb r.parts, 1, false⟩).push ⟨[.int .i64 st, .int .i64 pl, .int .i64 stp, .int .i64 rest, .int .i64 most, .bool false, .int .i64 code], 1, false⟩).push ⟨encEn e, 1, false⟩).push ⟨encEn e, 1, false⟩), ?_, ((((Ext.refl H).push _).push _).push _).push _⟩ fo.alive
  simp -implicitDefEqProofs (disch := omega) [ζ16, h2, i1, hcls, ζay, hst]
 ·rw [if_neg h2] at hc
  rw [hc]
  generalize hs : stepS m st 0 = o
  have hst := fun H' => hstep 0 H'
  rw [hs] at hst
  have fo := fl o
  unfold encEA at hst fo ⊢
  generalize o.isSome = z at hst fo ⊢
  generalize o.getD ⟨0, 0, 0, 0⟩ = e at hst fo ⊢
  refine nrm_gc ⟨((((H.push ⟨rmCells r.b r.cl r.rowsAt r.entsAt r.states r.n r.words r.tb r.parts, 1, false⟩).push ⟨[.int .i64 st, .int .i64 pl, .int .i64 stp, .int .i64 rest, .int .i64 most, .bool false, .int .i64 code], 1, false⟩).push ⟨encEn e, 1, false⟩).push ⟨encEn e, 1, false⟩), ?_, ((((Ext.refl H).push _).push _).push _).push _⟩ fo.alive
  simp -implicitDefEqProofs (disch := omega) [ζ16, h2, ζaz, hst]
end Go.Sw
end
section
namespace Go.Sw
open Go.RowKit
variable {σ : Type}
abbrev drvW (y : Way) : Drv := ⟨y.st, y.pl, y.stp, y.rest⟩
def docStepG (m : Mach) (ln : σ → List Gl) (f : σ → Int → En → σ × Int × Int) (x : σ × Way) : σ × Way :=
 ((f x.1 x.2.pl (entS m (ln x.1) (drvW x.2))).1, goS x.2 (entS m (ln x.1) (drvW x.2)) ((ln x.1).length : Int) (f x.1 x.2.pl (entS m (ln x.1) (drvW x.2))).2.1 (f x.1 x.2.pl (entS m (ln x.1) (drvW x.2))).2.2)
def docRG (m : Mach) (ln : σ → List Gl) (f : σ → Int → En → σ × Int × Int) : Nat → σ × Way → σ × Way
 | 0, x => x
 | n + 1, x => if x.2.over = true then x else docRG m ln f n (docStepG m ln f x)
theorem ζ9g (m : Mach) (ln : σ → List Gl) (f : σ → Int → En → σ × Int × Int) (n : Nat) (x : σ × Way) (h : x.2.over = true) : docRG m ln f n x = x := by
 cases n with
 | zero => rfl
 | succ n => unfold docRG; rw [if_pos h]
theorem clsS_end (m : Mach) (l : List Gl) (p : Int) (h : 0 ≤ p) : (clsS m l p).2 = decide (p ≥ l.length) := by
 unfold clsS atG
 by_cases h2 : p < l.length
 ·obtain ⟨g, hg⟩ : ∃ g, l[p.toNat]? = some g := ⟨_, List.getElem?_eq_getElem (by omega)⟩
  rw [if_pos ⟨h, h2⟩, hg, decide_eq_false (by omega)]
 ·rw [if_neg (fun hc => h2 hc.2), decide_eq_true (by omega)]
theorem doc_runG (m : Mach) (ln : σ → List Gl) (f : σ → Int → En → σ × Int × Int) (N : Int) : ∀ (n : Nat) (s : σ) (y : Way), y.over = false → y.code = 0 → 0 ≤ y.pl → y.most = N → y.stp < N → N - y.stp ≤ n →
  runD m ln f N n (s, drvW y) = ((docRG m ln f n (s, y)).2.stp, (docRG m ln f n (s, y)).2.code, (docRG m ln f n (s, y)).1)
 | 0, s, y, _, _, _, _, h1, h2 => by omega
 | n + 1, s, y, hov, hc0, hp, hN, hlt, hn => by
  have hend := clsS_end m (ln s) y.pl hp
  have hd : docRG m ln f (n + 1) (s, y) = docRG m ln f n (docStepG m ln f (s, y)) := by
   show (if y.over = true then (s, y) else docRG m ln f n (docStepG m ln f (s, y))) = _
   rw [if_neg (by rw [hov]; simp)]
  rw [hd]
  unfold runD
  rw [if_pos hlt]
  unfold docStepG stepD
  dsimp only
  generalize entS m (ln s) (drvW y) = e
  generalize f s y.pl e = r
  rw [hend]
  unfold goS
  dsimp only
  by_cases c1 : e.flags / 16384 % 2 = 1
  ·rw [if_pos c1, decide_eq_true c1]
   simp only [Bool.not_true, Bool.false_and, Bool.false_eq_true, if_false, if_true]
   by_cases c2 : y.rest + 1 > 64
   ·rw [if_pos c2, if_pos (Or.inr c2)]
    rw [ζ9g _ _ _ _ _ rfl]
   ·rw [if_neg c2]
    by_cases c3 : y.stp + 1 ≥ y.most
    ·rw [if_pos (Or.inl c3), ζ9g _ _ _ _ _ rfl]
     cases n with
     | zero => rfl
     | succ n => unfold runD; dsimp only; rw [if_neg (by omega)]
    ·rw [if_neg (by omega)]
     exact doc_runG m ln f N n _ ⟨e.next, max r.2.1 0, y.stp + 1, y.rest + 1, y.most, y.over, y.code⟩ hov hc0 (by dsimp only; omega) hN (by dsimp only; omega) (by dsimp only; omega)
  ·rw [if_neg c1, decide_eq_false c1]
   simp only [Bool.not_false, Bool.true_and, Bool.false_eq_true, if_false]
   by_cases c4 : y.pl ≥ (ln s).length
   ·rw [decide_eq_true c4]
    simp only [if_true]
    rw [ζ9g _ _ _ _ _ rfl, hc0]
   ·rw [decide_eq_false c4]
    simp only [Bool.false_eq_true, if_false]
    rw [if_neg (show ¬ (0 : Int) > 64 by decide)]
    by_cases c3 : y.stp + 1 ≥ y.most
    ·rw [if_pos (Or.inl c3), ζ9g _ _ _ _ _ rfl]
     cases n with
     | zero => rfl
     | succ n => unfold runD; dsimp only; rw [if_neg (by omega)]
    ·rw [if_neg (by omega)]
     exact doc_runG m ln f N n _ ⟨e.next, max r.2.2 0, y.stp + 1, 0, y.most, y.over, y.code⟩ hov hc0 (by dsimp only; omega) hN (by dsimp only; omega) (by dsimp only; omega)
theorem goS_all (y : Way) (e : En) (n stay on : Int) (hr : 0 ≤ y.rest) : let z := goS y e n stay on
  z.most = y.most ∧ z.stp = y.stp + 1 ∧ z.st = e.next ∧ 0 ≤ z.pl ∧ z.pl ≤ max (max stay on) 0 ∧ 0 ≤ z.rest ∧ z.rest ≤ y.rest + 1 ∧ (z.over = false → z.stp < z.most ∧ z.rest ≤ 64) := by
 intro z
 have hz : z = goS y e n stay on := rfl
 clear_value z
 unfold goS at hz
 dsimp only at hz
 by_cases c1 : e.flags / 16384 % 2 = 1
 ·rw [decide_eq_true c1] at hz
  simp only [Bool.not_true, Bool.false_and, Bool.false_eq_true, if_false, if_true] at hz
  split at hz <;> subst hz <;> dsimp only <;> refine ⟨rfl, rfl, rfl, by omega, by omega, by omega, by omega, fun h => ?_⟩
  ·cases h
  ·omega
 ·rw [decide_eq_false c1] at hz
  simp only [Bool.not_false, Bool.true_and, Bool.false_eq_true, if_false] at hz
  split at hz
  ·subst hz; dsimp only; exact ⟨rfl, rfl, rfl, by omega, by omega, by omega, by omega, fun h => by cases h⟩
  ·split at hz <;> subst hz <;> dsimp only <;> refine ⟨rfl, rfl, rfl, by omega, by omega, by omega, by omega, fun h => ?_⟩
   ·cases h
   ·omega
def WayOk (m : Mach) (N j : Nat) (y : Way) : Prop := y.over = false → y.stp = j ∧ y.stp < N ∧ y.most = N ∧ 0 ≤ y.pl ∧ y.pl ≤ 128 * j ∧ 0 ≤ y.rest ∧ y.rest ≤ j ∧ 0 ≤ y.st ∧ y.st < m.rows.length
theorem doc_loop {body : Env → Heap → Res (AExit × Env)} (m : Mach) (hm : m.ok) (ln : σ → List Gl) (f : σ → Int → En → σ × Int × Int) (N : Nat) (h0N : 0 < N) (hN : N < 2 ^ 42)
  (At : σ × Way → Env → Heap → Prop) (Inv : σ → Prop) (Q : σ × Way → AExit → Env → Heap → Prop)
  (hover : ∀ x e H, At x e H → Inv x.1 → x.2.over = true → ∃ xx e' H', body e H = .ok (xx, e') H' ∧ xx ≠ .normal ∧ Q x xx e' H')
  (hstep : ∀ s y en e H, At (s, y) e H → Inv s → y.over = false → 0 ≤ y.pl → y.pl < 2 ^ 50 → 0 ≤ y.stp → y.stp < 2 ^ 50 → 0 ≤ y.rest → y.rest < 2 ^ 50 → en ∈ m.ents → en = entS m (ln s) (drvW y) →
   ∃ e' H', body e H = .ok (.normal, e') H' ∧ At ((f s y.pl en).1, goS y en ((ln s).length : Int) (f s y.pl en).2.1 (f s y.pl en).2.2) e' H' ∧ Inv (f s y.pl en).1 ∧ (f s y.pl en).2.1 ≤ y.pl + 128 ∧ (f s y.pl en).2.2 ≤ y.pl + 128)
  (s0 : σ) {e0 : Env} {H0 : Heap} (hA : At (s0, ⟨0, 0, 0, 0, N, false, 0⟩) e0 H0) (hI : Inv s0) :
  ∃ xx e' H', loopN body loopFuel e0 H0 = .ok (xx, e') H' ∧ Q (docRG m ln f N (s0, ⟨0, 0, 0, 0, N, false, 0⟩)) xx e' H' := by
 generalize hr0 : docRG m ln f N (s0, ⟨0, 0, 0, 0, N, false, 0⟩) = r
 exact loop_up (body := body) N
  (fun j e H' => ∃ x : σ × Way, At x e H' ∧ Inv x.1 ∧ docRG m ln f (N - j) x = r ∧ WayOk m N j x.2)
  (fun xx e H' => Q r xx e H')
  ⟨_, hA, hI, by rw [Nat.sub_zero]; exact hr0, fun _ => by have := hm.two; dsimp only; omega⟩ (by omega)
  (fun j e H' hj ⟨x, hA, hI, hd, hnot⟩ => by
   obtain ⟨s, y⟩ := x
   dsimp only at hI hnot
   cases hov : y.over with
   | true =>
    rw [ζ9g _ _ _ _ _ hov] at hd
    subst hd
    obtain ⟨xx, e', H2, h1, h2, h3⟩ := hover (s, y) e H' hA hI hov
    exact .inr ⟨xx, e', H2, h1, h2, h3⟩
   | false =>
    obtain ⟨n1, n2, n3, n4, n5, n6, n7, n8, n9⟩ := hnot hov
    have hNj : N - j = (N - (j + 1)) + 1 := by omega
    rw [hNj] at hd
    have hd2 : docRG m ln f (N - (j + 1)) (docStepG m ln f (s, y)) = r := by
     rw [← hd]
     show _ = (if y.over = true then _ else docRG m ln f (N - (j + 1)) (docStepG m ln f (s, y)))
     rw [if_neg (by rw [hov]; simp)]
    unfold docStepG at hd2
    dsimp only at hd2
    have hmem := entS_mem hm (ln s) (drvW y) ⟨n8, n9⟩
    have hent := hm.ent _ hmem
    obtain ⟨e', H2, h1, h2, h3, h4, h5⟩ := hstep s y _ e H' hA hI hov n4 (by omega) (by omega) (by omega) n6 (by omega) hmem rfl
    refine .inl ⟨e', H2, h1, _, h2, h3, hd2, fun hz => ?_⟩
    have g := goS_all y (entS m (ln s) (drvW y)) ((ln s).length : Int) (f s y.pl (entS m (ln s) (drvW y))).2.1 (f s y.pl (entS m (ln s) (drvW y))).2.2 n6
    dsimp only at g hz ⊢
    obtain ⟨g1, g2, g3, g4, g5, g6, g7, g8⟩ := g
    have := g8 hz
    refine ⟨by omega, by omega, by omega, g4, by omega, g6, by omega, by omega, by omega⟩)
  (fun e H' ⟨x, hA, hI, hd, hnot⟩ => by
   rw [Nat.sub_self] at hd
   have hd : x = r := hd
   subst hd
   have hov : x.2.over = true := by
    cases h : x.2.over with
    | true => rfl
    | false => have := hnot h; omega
   exact hover x e H' hA hI hov)
end Go.Sw
end
section
set_option maxRecDepth 100000
set_option linter.unusedVariables false
namespace Go.Sw
noncomputable section
def ζ65 (k : Nat) (call : Caller) : Env → Heap → Res (AExit × Env) := loopB (C k) call F.ζg [1, 1, 1, 0, 0, 0]
def ζ8n (k : Nat) (call : Caller) : Kont Value := kBlock 0 (kSeq (pieceK (C k) call F.ζg [1, 1, 1, 1]) (kDone Prog (resOf Prog F.ζg)))
def ζ93 (k : Nat) (call : Caller) (a1 a2 a6 a7 a8 a9 : Value) (h : Heap) : Res (AExit × Env) :=
 kSeq (pieceK (C k) call F.ζg [1, 1, 1, 0, 0, 0, 1, 0, 1, 1]) (kBlock 1 (kRound (ownOf (C k) F.ζg [1, 1, 1, 0, 0, 0]))) .normal [(1, a1), (2, a2), (6, a6), (7, a7), (8, a8), (9, a9)] h
def ζ94 (k : Nat) (call : Caller) (a1 a2 a6 a7 a8 a9 a28 : Value) (h : Heap) : Res (AExit × Env) :=
 kSeq (pieceK (C k) call F.ζg [1, 1, 1, 0, 0, 0, 1, 0, 1, 1]) (kBlock 1 (kRound (ownOf (C k) F.ζg [1, 1, 1, 0, 0, 0]))) .normal [(1, a1), (2, a2), (6, a6), (7, a7), (8, a8), (9, a9), (28, a28)] h
def ζ61 (k : Nat) (call : Caller) (a1 a2 a6 a7 a8 a9 : Value) (h : Heap) : Res (AExit × Env) :=
 kSeq (pieceK (C k) call F.ζg [1, 1, 1, 0, 0, 0, 1, 0, 1, 1, 1]) (kBlock 1 (kRound (ownOf (C k) F.ζg [1, 1, 1, 0, 0, 0]))) .normal [(1, a1), (2, a2), (6, a6), (7, a7), (8, a8), (9, a9)] h
def ζ62 (k : Nat) (call : Caller) (a1 a2 a6 a7 a8 a9 a38 : Value) (h : Heap) : Res (AExit × Env) :=
 kSeq (pieceK (C k) call F.ζg [1, 1, 1, 0, 0, 0, 1, 0, 1, 1, 1]) (kBlock 1 (kRound (ownOf (C k) F.ζg [1, 1, 1, 0, 0, 0]))) .normal [(1, a1), (2, a2), (6, a6), (7, a7), (8, a8), (9, a9), (38, a38)] h
def ζ63 (k : Nat) (call : Caller) (a1 a2 a6 a7 a8 a9 : Value) (h : Heap) : Res (AExit × Env) :=
 kSeq (pieceK (C k) call F.ζg [1, 1, 1, 0, 0, 0, 1, 0, 1, 1, 1, 1, 1]) (kBlock 1 (kRound (ownOf (C k) F.ζg [1, 1, 1, 0, 0, 0]))) .normal [(1, a1), (2, a2), (6, a6), (7, a7), (8, a8), (9, a9)] h
def ζ64 (k : Nat) (call : Caller) (a1 a2 a6 a7 a8 a9 a11 a55 : Value) (h : Heap) : Res (AExit × Env) :=
 kSeq (pieceK (C k) call F.ζg [1, 1, 1, 0, 0, 0, 1, 0, 1, 1, 1, 1, 1]) (kBlock 1 (kRound (ownOf (C k) F.ζg [1, 1, 1, 0, 0, 0]))) .normal [(1, a1), (2, a2), (6, a6), (7, a7), (8, a8), (9, a9), (11, a11), (55, a55)] h
def ζg (k : Nat) (call : Caller) (a0 a1 : Value) (h : Heap) : Res Value :=
 (boxR a0 h).bind fun v1 h2 =>
 (builtinV Prog .len [50] [a1] h2).bind fun v3 h4 =>
 (call F.ζ2k [v3] h4).bind fun v5 h6 =>
 (allocR Prog 288 h6).bind fun v7 h8 =>
 (storeR Prog 288 v7 v5 h8).bind fun _v9 h10 =>
 (loopN (ζ65 k call) loopFuel [(1, a1), (2, v1), (6, v7), (7, (.int .i64 0)), (8, (.int .i64 0))] h10).bind fun r11 h12 =>
 ζ8n k call r11.1 r11.2 h12
theorem ζf4 (k : Nat) (a0 a1 : Value) (h : Heap) : R (T k) F.ζg [a0, a1] h = nrm .fz h (ζg k (R (T k)) a0 a1 h) :=
 (R_body (t := T k) (T_scott k) (by kernel_rfl) (by kernel_rfl) _ _).trans (by kernel_rfl)
theorem ζ7b (k : Nat) (call : Caller) (a1 a2 a6 a7 a8 : Value) (h : Heap) : ζ65 k call [(1, a1), (2, a2), (6, a6), (7, a7), (8, a8)] h =
 (fieldAddrR Prog 288 a6 5 h).bind fun v13 h14 =>
 (loadR Prog 4 v13 h14).bind fun v15 h16 =>
 (unR .not v15 h16).bind fun v17 h18 =>
 condV (some v17) (
 (loadR Prog 137 a2 h18).bind fun v19 h20 =>
 (loadR Prog 288 a6 h20).bind fun v21 h22 =>
 (call F.ζ16 [v19, v21, a1] h22).bind fun v23 h24 =>
 (extractR v23 0 h24).bind fun v25 h26 =>
 (extractR v23 1 h26).bind fun v27 h28 =>
 (allocR Prog 150 h28).bind fun v29 h30 =>
 (storeR Prog 150 v29 v25 h30).bind fun _v31 h32 =>
 (fieldAddrR Prog 150 v29 1 h32).bind fun v33 h34 =>
 (loadR Prog 3 v33 h34).bind fun v35 h36 =>
 (binR Prog .geq 3 v35 (.int .i64 32768) h36).bind fun v37 h38 =>
 condV (some v37) (
 (fieldAddrR Prog 288 a6 1 h38).bind fun v39 h40 =>
 (loadR Prog 3 v39 h40).bind fun v41 h42 =>
 (builtinV Prog .len [50] [a1] h42).bind fun v43 h44 =>
 (builtinV Prog .min [3, 3] [v41, v43] h44).bind fun v45 h46 =>
 ζ93 k call a1 a2 a6 v45 a8 v29 h46)
 (
 ζ94 k call a1 a2 a6 a7 a8 v29 v37 h38))
 (
 .ok ((.exit 0), [(1, a1), (2, a2), (6, a6), (7, a7), (8, a8), (18, v17)]) h18) :=
 (loopB_eq _ _).trans (by kernel_rfl)
theorem ζ2o (k : Nat) (call : Caller) (a1 a2 a6 a7 a8 a9 : Value) (h : Heap) : ζ93 k call a1 a2 a6 a7 a8 a9 h =
 (fieldAddrR Prog 150 a9 1 h).bind fun v47 h48 =>
 (loadR Prog 3 v47 h48).bind fun v49 h50 =>
 (binR Prog .quo 3 v49 (.int .i64 8192) h50).bind fun v51 h52 =>
 (binR Prog .rem 3 v51 (.int .i64 2) h52).bind fun v53 h54 =>
 (binR Prog .eql 3 v53 (.int .i64 1) h54).bind fun v55 h56 =>
 condV (some v55) (
 (fieldAddrR Prog 288 a6 1 h56).bind fun v57 h58 =>
 (loadR Prog 3 v57 h58).bind fun v59 h60 =>
 (binR Prog .add 3 v59 (.int .i64 1) h60).bind fun v61 h62 =>
 (builtinV Prog .len [50] [a1] h62).bind fun v63 h64 =>
 (builtinV Prog .min [3, 3] [v61, v63] h64).bind fun v65 h66 =>
 ζ61 k call a1 a2 a6 a7 v65 a9 h66)
 (
 ζ62 k call a1 a2 a6 a7 a8 a9 v55 h56) := by kernel_rfl
theorem ζ2p (k : Nat) (call : Caller) (a1 a2 a6 a7 a8 a9 a28 : Value) (h : Heap) : ζ94 k call a1 a2 a6 a7 a8 a9 a28 h =
 (fieldAddrR Prog 150 a9 1 h).bind fun v67 h68 =>
 (loadR Prog 3 v67 h68).bind fun v69 h70 =>
 (binR Prog .quo 3 v69 (.int .i64 8192) h70).bind fun v71 h72 =>
 (binR Prog .rem 3 v71 (.int .i64 2) h72).bind fun v73 h74 =>
 (binR Prog .eql 3 v73 (.int .i64 1) h74).bind fun v75 h76 =>
 condV (some v75) (
 (fieldAddrR Prog 288 a6 1 h76).bind fun v77 h78 =>
 (loadR Prog 3 v77 h78).bind fun v79 h80 =>
 (binR Prog .add 3 v79 (.int .i64 1) h80).bind fun v81 h82 =>
 (builtinV Prog .len [50] [a1] h82).bind fun v83 h84 =>
 (builtinV Prog .min [3, 3] [v81, v83] h84).bind fun v85 h86 =>
 ζ61 k call a1 a2 a6 a7 v85 a9 h86)
 (
 ζ62 k call a1 a2 a6 a7 a8 a9 v75 h76) := by kernel_rfl
theorem ζ2q (k : Nat) (call : Caller) (a1 a2 a6 a7 a8 a9 : Value) (h : Heap) : ζ61 k call a1 a2 a6 a7 a8 a9 h =
 (fieldAddrR Prog 150 a9 1 h).bind fun v87 h88 =>
 (loadR Prog 3 v87 h88).bind fun v89 h90 =>
 (binR Prog .rem 3 v89 (.int .i64 16) h90).bind fun v91 h92 =>
 (binR Prog .sub 3 a8 a7 h92).bind fun v93 h94 =>
 (call F.ζ2 [v91, v93] h94).bind fun v95 h96 =>
 (extractR v95 0 h96).bind fun v97 h98 =>
 (extractR v95 1 h98).bind fun v99 h100 =>
 condV (some v99) (
 (call F.ζf [a1, a7, v97] h100).bind fun v101 h102 =>
 (extractR v101 0 h102).bind fun v103 h104 =>
 (extractR v101 1 h104).bind fun v105 h106 =>
 ζ63 k call v103 a2 a6 a7 a8 a9 h106)
 (
 ζ64 k call a1 a2 a6 a7 a8 a9 v97 v99 h100) := by kernel_rfl
theorem ζ2r (k : Nat) (call : Caller) (a1 a2 a6 a7 a8 a9 a38 : Value) (h : Heap) : ζ62 k call a1 a2 a6 a7 a8 a9 a38 h =
 (fieldAddrR Prog 150 a9 1 h).bind fun v107 h108 =>
 (loadR Prog 3 v107 h108).bind fun v109 h110 =>
 (binR Prog .rem 3 v109 (.int .i64 16) h110).bind fun v111 h112 =>
 (binR Prog .sub 3 a8 a7 h112).bind fun v113 h114 =>
 (call F.ζ2 [v111, v113] h114).bind fun v115 h116 =>
 (extractR v115 0 h116).bind fun v117 h118 =>
 (extractR v115 1 h118).bind fun v119 h120 =>
 condV (some v119) (
 (call F.ζf [a1, a7, v117] h120).bind fun v121 h122 =>
 (extractR v121 0 h122).bind fun v123 h124 =>
 (extractR v121 1 h124).bind fun v125 h126 =>
 ζ63 k call v123 a2 a6 a7 a8 a9 h126)
 (
 ζ64 k call a1 a2 a6 a7 a8 a9 v117 v119 h120) := by kernel_rfl
theorem ζ2s (k : Nat) (call : Caller) (a1 a2 a6 a7 a8 a9 : Value) (h : Heap) : ζ63 k call a1 a2 a6 a7 a8 a9 h =
 (loadR Prog 288 a6 h).bind fun v127 h128 =>
 (loadR Prog 150 a9 h128).bind fun v129 h130 =>
 (builtinV Prog .len [50] [a1] h130).bind fun v131 h132 =>
 (fieldAddrR Prog 288 a6 1 h132).bind fun v133 h134 =>
 (loadR Prog 3 v133 h134).bind fun v135 h136 =>
 (fieldAddrR Prog 288 a6 1 h136).bind fun v137 h138 =>
 (loadR Prog 3 v137 h138).bind fun v139 h140 =>
 (binR Prog .add 3 v139 (.int .i64 1) h140).bind fun v141 h142 =>
 (call F.ζb [v127, v129, v131, v135, v141] h142).bind fun v143 h144 =>
 (storeR Prog 288 a6 v143 h144).bind fun _v145 h146 =>
 .ok (.normal, [(1, a1), (2, a2), (6, a6), (7, a7), (8, a8)]) h146 := by kernel_rfl
theorem ζ2t (k : Nat) (call : Caller) (a1 a2 a6 a7 a8 a9 a11 a55 : Value) (h : Heap) : ζ64 k call a1 a2 a6 a7 a8 a9 a11 a55 h =
 (loadR Prog 288 a6 h).bind fun v147 h148 =>
 (loadR Prog 150 a9 h148).bind fun v149 h150 =>
 (builtinV Prog .len [50] [a1] h150).bind fun v151 h152 =>
 (fieldAddrR Prog 288 a6 1 h152).bind fun v153 h154 =>
 (loadR Prog 3 v153 h154).bind fun v155 h156 =>
 (fieldAddrR Prog 288 a6 1 h156).bind fun v157 h158 =>
 (loadR Prog 3 v157 h158).bind fun v159 h160 =>
 (binR Prog .add 3 v159 (.int .i64 1) h160).bind fun v161 h162 =>
 (call F.ζb [v147, v149, v151, v155, v161] h162).bind fun v163 h164 =>
 (storeR Prog 288 a6 v163 h164).bind fun _v165 h166 =>
 .ok (.normal, [(1, a1), (2, a2), (6, a6), (7, a7), (8, a8)]) h166 := by kernel_rfl
theorem ζb0 (k : Nat) (call : Caller) (a1 a2 a6 a7 a8 a18 : Value) (h : Heap) : ζ8n k call (.exit 0) [(1, a1), (2, a2), (6, a6), (7, a7), (8, a8), (18, a18)] h =
 (fieldAddrR Prog 288 a6 6 h).bindN fun v167 h168 =>
 (loadR Prog 3 v167 h168).bindN fun v169 h170 =>
 .ok (.tuple #[a1, v169]) h170 := by kernel_rfl
end
end Go.Sw
end
section
namespace Go.Sw
open Go.RowKit
set_option maxHeartbeats 2000000 in
theorem ζn1 (k : Nat) {b : List Int} (hb : Byt b) (hbl : b.length < 2 ^ 31) {g : Int} (hg : 1 ≤ g ∧ g ≤ 65535) {m : Mach} (hm : m.ok) (h : machS b g 0 = some m) (l : List Gl) (hl : l.length < 2 ^ 24) (H : Heap) :
  R (T k) F.ζg [rmV (rmOf b g 0 m), lv encG l] H = .ok (.tuple #[lv encG (runR m l).1, .int .i64 (runR m l).2]) H := by
 rw [ζf4]
 obtain ⟨N, hN⟩ : ∃ N, N = 2 * l.length + 128 := ⟨_, rfl⟩
 have hpure := doc_runG m (fun s : List Gl × Int × Int => s.1) (fun s i e => (doR s i e, i, i + 1)) (N : Int) N (l, 0, 0) ⟨0, 0, 0, 0, N, false, 0⟩ rfl rfl (Int.le_refl _) rfl (by dsimp only; omega) (by dsimp only; omega)
 have hrun : runR m l = ((docRG m (fun s : List Gl × Int × Int => s.1) (fun s i e => (doR s i e, i, i + 1)) N ((l, 0, 0), ⟨0, 0, 0, 0, N, false, 0⟩)).1.1, (docRG m (fun s : List Gl × Int × Int => s.1) (fun s i e => (doR s i e, i, i + 1)) N ((l, 0, 0), ⟨0, 0, 0, 0, N, false, 0⟩)).2.code) := by
  unfold runR runRr
  rw [show (2 * (l.length : Int) + 128) = (N : Int) by omega, ← hN]
  have : runD m (fun s : List Gl × Int × Int => s.1) (fun s i e => (doR s i e, i, i + 1)) (N : Int) N ((l, 0, 0), ⟨0, 0, 0, 0⟩) = _ := hpure
  rw [this]
 rw [hrun]
 clear hrun hpure
 have hnext := fun y hy hp l hl H' => Next_run k hb hg (.inl rfl) hbl hm h y hy hp l hl H'
 have hbegin := fun H' => ζlr k l.length (by omega) (by omega) H'
 rw [show (2 * (l.length : Int) + 128) = (N : Int) by omega] at hbegin
 generalize rmOf b g 0 m = rm at hnext ⊢
 have st := ((Star.nil H).push ⟨rmCells rm.b rm.cl rm.rowsAt rm.entsAt rm.states rm.n rm.words rm.tb rm.parts, 1, false⟩).push ⟨wayC ⟨0, 0, 0, 0, N, false, 0⟩, 1, false⟩
 simp only [List.nil_append, List.cons_append, hn_push] at st
 obtain ⟨xx, e', H1, hr1, rfl, rfl, g1⟩ := doc_loop (body := ζ65 k (R (T k))) m hm (fun s : List Gl × Int × Int => s.1) (fun s i e => (doR s i e, i, i + 1)) N (by omega) (by omega)
  (fun x e H' => e = [(1, lv encG x.1.1), (2, ptrV H.n), (6, ptrV (H.n + 1)), (7, .int .i64 x.1.2.1), (8, .int .i64 x.1.2.2)] ∧ Star H H' [itBlk H.n ⟨rmCells rm.b rm.cl rm.rowsAt rm.entsAt rm.states rm.n rm.words rm.tb rm.parts, 1, false⟩, itBlk (H.n + 1) ⟨wayC x.2, 1, false⟩])
  (RearOk (l.length : Int))
  (fun x xx e H' => xx = .exit 0 ∧ e = [(1, lv encG x.1.1), (2, ptrV H.n), (6, ptrV (H.n + 1)), (7, .int .i64 x.1.2.1), (8, .int .i64 x.1.2.2), (18, .bool false)] ∧ Star H H' [itBlk H.n ⟨rmCells rm.b rm.cl rm.rowsAt rm.entsAt rm.states rm.n rm.words rm.tb rm.parts, 1, false⟩, itBlk (H.n + 1) ⟨wayC x.2, 1, false⟩])
  (fun x e H' ⟨he, g⟩ _ hov => by
   subst he
   have b2 := g.get 1 rfl
   refine ⟨.exit 0, _, H', ?_, by simp, rfl, rfl, g⟩
   rw [ζ7b]
   simp -implicitDefEqProofs (disch := omega) [b2, hov])
  (fun s y en e H' ⟨he, g⟩ hI hov n1 n2 n3 n4 n5 n6 hmem hen => by
   subst he
   obtain ⟨lj, A0, B0⟩ := s
   obtain ⟨k1, k2, k3, k4, k5⟩ := hI
   dsimp only at k1 k2 k3 k4 k5 g hen ⊢
   have hok := (doR_ok (n := (l.length : Int)) (s := (lj, A0, B0)) ⟨k1, k2, k3, k4, k5⟩ n1 en).1
   have hent := hm.ent _ hmem
   have hne := hnext y hov n1 lj (by omega)
   have hee : encEA (stepS m y.st (clsS m lj y.pl).1) = encE (entS m lj (drvW y)) := rfl
   rw [hee, ← hen] at hne
   generalize (stepS m y.st (clsS m lj y.pl).1).isSome = zz at hne
   have b1 := g.get 0 rfl
   have b2 := g.get 1 rfl
   have hgo := fun (lk : List Gl) (hlk : lk.length = lj.length) H' => Go_run k y en (lk.length : Int) y.pl (y.pl + 1) (by omega) ⟨hent.2.2.1, hent.2.2.2.1⟩ H'
   have hgl : ((doR (lj, A0, B0) y.pl en).1.length : Int) = lj.length := by rw [hok.1, k1]
   have q1 := fun H => bin_quo Prog 3 H .i64 en.flags 8192 (by decide)
   rw [Int.tdiv_eq_ediv_of_nonneg hent.2.2.1] at q1
   have q2 := fun H => bin_rem Prog 3 H .i64 (en.flags / 8192) 2 (by decide)
   rw [Int.tmod_eq_emod_of_nonneg (by omega)] at q2
   have q3 := fun H => bin_rem Prog 3 H .i64 en.flags 16 (by decide)
   rw [Int.tmod_eq_emod_of_nonneg hent.2.2.1] at q3
   have hnn : ¬ H.n + 1 = H'.n := by have := Heap.get_lt b2; omega
   have hnm : ¬ H.n = H'.n := by have := Heap.get_lt b1; omega
   have hov' : (!y.over) = true := by rw [hov]; rfl
   obtain ⟨A, hA⟩ : ∃ A, A = if en.flags ≥ 32768 then min y.pl (lj.length : Int) else A0 := ⟨_, rfl⟩
   obtain ⟨B, hB⟩ : ∃ B, B = if en.flags / 8192 % 2 = 1 then min (y.pl + 1) (lj.length : Int) else B0 := ⟨_, rfl⟩
   have hAb : 0 ≤ A ∧ A ≤ l.length := by rw [hA]; split <;> omega
   have hBb : 0 ≤ B ∧ B ≤ l.length := by rw [hB]; split <;> omega
   have hdo : doR (lj, A0, B0) y.pl en = (match orderS (en.flags % 16) (B - A) with | some o => (orderG lj A o).getD lj | none => lj, A, B) := by unfold doR; rw [hA, hB] <;> rfl
   have hord := fun H => ζmw k (en.flags % 16) (B - A) (by omega) (by omega) H
   rw [hdo] at hok hgl ⊢
   dsimp only at hok hgl ⊢
   have st2 := (g.push ⟨encEn en, 1, false⟩).setBlk 1 rfl ⟨wayC (goS y en (lj.length : Int) y.pl (y.pl + 1)), 1, false⟩
   simp only [List.cons_append, List.nil_append, List.set_cons_zero, List.set_cons_succ] at st2
   have st3 := st2.take 2
   simp only [List.take_succ_cons, List.take_zero] at st3
   have m1 : (if (lj.length : Int) < y.pl then (lj.length : Int) else y.pl) = min y.pl (lj.length : Int) := by split <;> omega
   have m2 : (if (lj.length : Int) < y.pl + 1 then (lj.length : Int) else y.pl + 1) = min (y.pl + 1) (lj.length : Int) := by split <;> omega
   refine ⟨_, _, ?_, ⟨rfl, st3⟩, hok, by omega, by omega⟩
   rw [ζ7b]
   cases ho : orderS (en.flags % 16) (B - A) with
   | none =>
    rw [ho] at hord
    simp only [Option.isSome_none, Option.getD_none] at hord
    dsimp only
    have hgo' := fun H' => hgo lj rfl H'
    by_cases d1 : en.flags ≥ 32768
    ·rw [if_pos d1] at hA
     subst hA
     by_cases d2 : en.flags / 8192 % 2 = 1
     ·rw [if_pos d2] at hB
      subst hB
      simp -implicitDefEqProofs (disch := omega) [b1, b2, hnn, hnm, hov', hne, q1, q2, q3, m1, m2, hord, hgo', d1, d2, ζ2o, ζ2q, ζ2t]
     ·rw [if_neg d2] at hB
      subst hB
      have d2' : (en.flags / 8192 % 2 == 1) = false := by rw [beq_eq_false_iff_ne]; exact d2
      simp -implicitDefEqProofs (disch := omega) [b1, b2, hnn, hnm, hov', hne, q1, q2, q3, m1, m2, hord, hgo', d1, d2', ζ2o, ζ2r, ζ2t]
    ·rw [if_neg d1] at hA
     subst hA
     by_cases d2 : en.flags / 8192 % 2 = 1
     ·rw [if_pos d2] at hB
      subst hB
      simp -implicitDefEqProofs (disch := omega) [b1, b2, hnn, hnm, hov', hne, q1, q2, q3, m1, m2, hord, hgo', d1, d2, ζ2p, ζ2q, ζ2t]
     ·rw [if_neg d2] at hB
      subst hB
      have d2' : (en.flags / 8192 % 2 == 1) = false := by rw [beq_eq_false_iff_ne]; exact d2
      simp -implicitDefEqProofs (disch := omega) [b1, b2, hnn, hnm, hov', hne, q1, q2, q3, m1, m2, hord, hgo', d1, d2', ζ2p, ζ2r, ζ2t]
   | some o =>
    rw [ho] at hord hgl
    simp only [Option.isSome_some, Option.getD_some] at hord
    dsimp only at hgl ⊢
    have hol := (order_ok ho).2.1
    have hre := fun H' => ζi7 k lj (by omega) A o (by omega) (by omega) H'
    have hgo' := fun H' => hgo ((orderG lj A o).getD lj) (by omega) H'
    rw [hgl] at hgo'
    generalize (orderG lj A o).isSome = bb at hre
    generalize (orderG lj A o).getD lj = lk at hre hgo' hgl ⊢
    by_cases d1 : en.flags ≥ 32768
    ·rw [if_pos d1] at hA
     subst hA
     by_cases d2 : en.flags / 8192 % 2 = 1
     ·rw [if_pos d2] at hB
      subst hB
      simp -implicitDefEqProofs (disch := omega) [b1, b2, hnn, hnm, hov', hne, q1, q2, q3, m1, m2, hord, hgo', d1, d2, ζ2o, ζ2q, hre, hgl, ζ2s]
     ·rw [if_neg d2] at hB
      subst hB
      have d2' : (en.flags / 8192 % 2 == 1) = false := by rw [beq_eq_false_iff_ne]; exact d2
      simp -implicitDefEqProofs (disch := omega) [b1, b2, hnn, hnm, hov', hne, q1, q2, q3, m1, m2, hord, hgo', d1, d2', ζ2o, ζ2r, hre, hgl, ζ2s]
    ·rw [if_neg d1] at hA
     subst hA
     by_cases d2 : en.flags / 8192 % 2 = 1
     ·rw [if_pos d2] at hB
      subst hB
      simp -implicitDefEqProofs (disch := omega) [b1, b2, hnn, hnm, hov', hne, q1, q2, q3, m1, m2, hord, hgo', d1, d2, ζ2p, ζ2q, hre, hgl, ζ2s]
     ·rw [if_neg d2] at hB
      subst hB
      have d2' : (en.flags / 8192 % 2 == 1) = false := by rw [beq_eq_false_iff_ne]; exact d2
      simp -implicitDefEqProofs (disch := omega) [b1, b2, hnn, hnm, hov', hne, q1, q2, q3, m1, m2, hord, hgo', d1, d2', ζ2p, ζ2r, hre, hgl, ζ2s])
  (l, 0, 0) (H0 := (H.push ⟨rmCells rm.b rm.cl rm.rowsAt rm.entsAt rm.states rm.n rm.words rm.tb rm.parts, 1, false⟩).push ⟨wayC ⟨0, 0, 0, 0, N, false, 0⟩, 1, false⟩)
  (e0 := [(1, lv encG l), (2, ptrV H.n), (6, ptrV (H.n + 1)), (7, .int .i64 0), (8, .int .i64 0)]) ⟨rfl, st⟩ ⟨rfl, by dsimp only; omega⟩
 generalize docRG m (fun s : List Gl × Int × Int => s.1) (fun s i e => (doR s i e, i, i + 1)) N ((l, 0, 0), ⟨0, 0, 0, 0, N, false, 0⟩) = r at hr1 g1 ⊢
 have b2 := g1.get 1 rfl
 refine nrm_fz (v := .tuple #[lv encG r.1.1, .int .i64 r.2.code]) (L := []) (H' := H1) ?_ rfl g1.ext (Flat.tupleL (.cons (Flat.Gls _) (.cons (.int _ _) .nil))).alive
 simp -implicitDefEqProofs (disch := omega) [ζg, hbegin, hr1, ζb0, b2]
end Go.Sw
end
