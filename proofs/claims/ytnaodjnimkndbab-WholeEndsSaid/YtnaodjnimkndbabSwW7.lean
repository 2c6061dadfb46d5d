/-
  Functions' forms, and what is proved of them, part 7.
-/
import Derived.Test.YtnaodjnimkndbabSwW5
import Derived.Test.YtnaodjnimkndbabSwW6
import Derived.Test.YtnaodjnimkndbabSwCfg
set_option linter.unusedSimpArgs false
set_option linter.unusedVariables false
set_option linter.unusedSectionVars false
section
namespace Go.Sw
open Go.RowKit
theorem and_pow (n k : Nat) : n &&& 2 ^ k = if n.testBit k then 2 ^ k else 0 := by
 apply Nat.eq_of_testBit_eq
 intro i
 rw [Nat.testBit_and, Nat.testBit_two_pow]
 by_cases h : k = i
 ·subst h
  cases hb : n.testBit k
  ·simp
  ·simp
 ·cases hb : n.testBit k
  ·simp [h]
  ·simp only [h, decide_false, Bool.and_false, if_true, Nat.testBit_two_pow]
theorem bin_andP (P : Program) (t : TypeId) (H : Heap) (k : Nat) (hk : k < 62) {a : Int} (h0 : 0 ≤ a) (h1 : a < 2 ^ 62) (m : Int) (hm : m = ((2 ^ k : Nat) : Int)) :
  binR P .and t (.int .i64 a) (.int .i64 m) H = .ok (.int .i64 (if a / m % 2 = 1 then m else 0)) H := by
 obtain ⟨n, rfl⟩ := Int.eq_ofNat_of_zero_le h0
 have hp : 2 ^ k ≤ 2 ^ 61 := Nat.pow_le_pow_right (by decide) (by omega)
 have hp0 : 0 < 2 ^ k := Nat.two_pow_pos k
 have e : (BitVec.ofInt 64 (n : Int) &&& BitVec.ofInt 64 m).toNat = if n.testBit k then 2 ^ k else 0 := by
  rw [BitVec.toNat_and, BitVec.toNat_ofInt, BitVec.toNat_ofInt, hm]
  rw [show (((n : Int)) % ((2 ^ 64 : Nat) : Int)).toNat = n by omega, show ((((2 ^ k : Nat) : Int)) % ((2 ^ 64 : Nat) : Int)).toNat = 2 ^ k by omega, and_pow]
 have e1 : binV P .and t (.int .i64 (n : Int)) (.int .i64 m) = some (.int .i64 (IntKind.i64.wrap (BitVec.ofInt 64 (n : Int) &&& BitVec.ofInt 64 m).toNat)) := rfl
 unfold binR
 rw [e1, e, Nat.testBit_eq_decide_div_mod_eq]
 have hd : (n : Int) / m = ((n / 2 ^ k : Nat) : Int) := by rw [hm, Int.natCast_ediv]
 rw [hd]
 by_cases h : n / 2 ^ k % 2 = 1
 ·rw [decide_eq_true h, if_pos rfl, if_pos (by omega), wrap_i64 (by omega) (by omega), hm]; rfl
 ·rw [decide_eq_false h, if_neg (by simp), if_neg (by omega)]; rfl
theorem and13 (P : Program) (t : TypeId) (H : Heap) {a : Int} (h0 : 0 ≤ a) (h1 : a < 65536) : binR P .and t (.int .i64 a) (.int .i64 8192) H = .ok (.int .i64 (if a / 8192 % 2 = 1 then 8192 else 0)) H := bin_andP P t H 13 (by decide) h0 (by omega) 8192 rfl
theorem bin_andL (P : Program) (t : TypeId) (H : Heap) (k : Nat) (hk : k < 62) {a : Int} (h0 : 0 ≤ a) (h1 : a < 2 ^ 62) (m : Int) (hm : m = ((2 ^ k : Nat) : Int) - 1) : binR P .and t (.int .i64 a) (.int .i64 m) H = .ok (.int .i64 (a % ((2 ^ k : Nat) : Int))) H := by
 obtain ⟨n, rfl⟩ := Int.eq_ofNat_of_zero_le h0
 have hp : 2 ^ k ≤ 2 ^ 61 := Nat.pow_le_pow_right (by decide) (by omega)
 have hp0 : 0 < 2 ^ k := Nat.two_pow_pos k
 have e : (BitVec.ofInt 64 (n : Int) &&& BitVec.ofInt 64 m).toNat = n % 2 ^ k := by
  rw [BitVec.toNat_and, BitVec.toNat_ofInt, BitVec.toNat_ofInt, hm]
  rw [show (((n : Int)) % ((2 ^ 64 : Nat) : Int)).toNat = n by omega, show ((((2 ^ k : Nat) : Int) - 1) % ((2 ^ 64 : Nat) : Int)).toNat = 2 ^ k - 1 by omega, Nat.and_two_pow_sub_one_eq_mod]
 have e1 : binV P .and t (.int .i64 (n : Int)) (.int .i64 m) = some (.int .i64 (IntKind.i64.wrap (BitVec.ofInt 64 (n : Int) &&& BitVec.ofInt 64 m).toNat)) := rfl
 have hlt : n % 2 ^ k < 2 ^ k := Nat.mod_lt _ hp0
 unfold binR
 rw [e1, e, wrap_i64 (by omega) (by omega), Int.natCast_emod]
 rfl
theorem and4 (P : Program) (t : TypeId) (H : Heap) {a : Int} (h0 : 0 ≤ a) (h1 : a < 65536) : binR P .and t (.int .i64 a) (.int .i64 15) H = .ok (.int .i64 (a % 16)) H := bin_andL P t H 4 (by decide) h0 (by omega) 15 rfl
end Go.Sw
end
section
namespace Go.Sw
open Go.RowKit
theorem and_two15 (n : Nat) : n &&& 2 ^ 15 = if n.testBit 15 then 2 ^ 15 else 0 := by
 apply Nat.eq_of_testBit_eq
 intro i
 rw [Nat.testBit_and, Nat.testBit_two_pow]
 by_cases h : 15 = i
 ·subst h
  cases hb : n.testBit 15 <;> simp <;> decide
 ·cases hb : n.testBit 15
  ·simp [h]
  ·simp only [h, decide_false, Bool.and_false, if_true, Nat.testBit_two_pow]
theorem and15 (P : Program) (t : TypeId) (H : Heap) {a : Int} (h0 : 0 ≤ a) (h1 : a < 65536) : binR P .and t (.int .i64 a) (.int .i64 32768) H = .ok (.int .i64 (if a ≥ 32768 then 32768 else 0)) H := by
 have e : (BitVec.ofInt 64 a &&& BitVec.ofInt 64 32768).toNat = (if a ≥ 32768 then 32768 else 0) := by
  rw [BitVec.toNat_and, BitVec.toNat_ofInt, BitVec.toNat_ofInt]
  rw [show ((32768 : Int) % ((2 ^ 64 : Nat) : Int)).toNat = 2 ^ 15 from by decide, and_two15, Nat.testBit_eq_decide_div_mod_eq]
  obtain ⟨n, rfl⟩ := Int.eq_ofNat_of_zero_le h0
  rw [show (((n : Int)) % ((2 ^ 64 : Nat) : Int)).toNat = n by omega]
  by_cases h : (n : Int) ≥ 32768
  ·rw [if_pos h, decide_eq_true (show n / 2 ^ 15 % 2 = 1 by omega)]; rfl
  ·rw [if_neg h, decide_eq_false (show ¬ n / 2 ^ 15 % 2 = 1 by omega)]; rfl
 have e1 : binV P .and t (.int .i64 a) (.int .i64 32768) = some (.int .i64 (IntKind.i64.wrap (BitVec.ofInt 64 a &&& BitVec.ofInt 64 32768).toNat)) := rfl
 unfold binR
 rw [e1, e]
 by_cases h : a ≥ 32768
 ·simp [h]
 ·simp [h]
end Go.Sw
end
section
namespace Go.Sw
open Go.RowKit
theorem plainNew (k : Nat) (f : Fn) (a b : Array Value) (H : Heap) : R (T k) F.drive_Plain [.func f a b] H = .ok (.func (.func F.drive_Plain_in1) #[] #[ptrV H.n]) (H.push ⟨[.func f a b], 1, false⟩) := by
 rw [drive_Plain_R]
 have e : drive_Plain k (R (T k)) (.func f a b) H = .ok (.func (.func F.drive_Plain_in1) #[] #[ptrV H.n]) (H.push ⟨[.func f a b], 1, false⟩) := by
  simp -implicitDefEqProofs [drive_Plain]
 rw [e]
 have dead : ¬ Alive H (.func (.func F.drive_Plain_in1) #[] #[ptrV H.n]) := fun h => by
  cases h with
  | func fn xs ys h1 h2 =>
   have := h2 0 (ptrV H.n) rfl
   cases this with
   | ptr b off k hg => have := Heap.get_lt hg; omega
 unfold nrm
 exact if_neg fun hc => dead hc.2
end Go.Sw
end
section
namespace Go.Sw
open Go.RowKit
theorem veq_Ens (l : List En) : veq (lv encEn l) (lv encEn l) = true := veq_lv fun p _ v hv => by
 simp [encEn] at hv
 rcases hv with rfl | rfl | rfl | rfl <;> simp
theorem veq_Is (l : List Int) : veq (lv encI l) (lv encI l) = true := veq_lv fun p _ v hv => by
 simp [encI] at hv
 subst hv; simp
theorem veq_Rows (l : List (List Int)) : veq (lv encRow l) (lv encRow l) = true := veq_lv fun p _ v hv => by
 simp [encRow] at hv
 subst hv; exact veq_Is p
theorem veq_mach (m : Mach) : veq (machV m) (machV m) = true := veq_boxV (l := [.int .i64 m.classes, tabV m.tab, lv encRow m.rows, lv encEn m.ents]) fun v hv => by
 simp at hv
 rcases hv with rfl | rfl | rfl | rfl
 ·simp
 ·exact veq_tab _
 ·exact veq_Rows _
 ·exact veq_Ens _
end Go.Sw
end
section
set_option maxRecDepth 100000
set_option linter.unusedVariables false
namespace Go.Sw
noncomputable section
def rear_Read (k : Nat) (call : Caller) (a0 a1 : Value) (h : Heap) : Res Value :=
 (call F.state_Read [a0, a1, (.int .i64 0)] h).bind fun v1 h2 =>
 (extractR v1 0 h2).bind fun v3 h4 =>
 (extractR v1 1 h4).bind fun v5 h6 =>
 (binR Prog .neq 34 v5 (.int .i64 0) h6).bind fun v7 h8 =>
 condV (some v7) (
 .ok (.tuple #[(.pointer none), v5]) h8)
 (
 (buildR Prog 184 [(0, v3)] h8).bind fun v9 h10 =>
 (boxR v9 h10).bind fun v11 h12 =>
 .ok (.tuple #[v11, (.int .i64 0)]) h12)
theorem rear_Read_R (k : Nat) (a0 a1 : Value) (h : Heap) : R (T k) F.rear_Read [a0, a1] h = nrm .fz h (rear_Read k (R (T k)) a0 a1 h) :=
 (R_body (t := T k) (T_scott k) (by kernel_rfl) (by kernel_rfl) _ _).trans (by kernel_rfl)
def rear_Table_Run (k : Nat) (call : Caller) (a0 a1 : Value) (h : Heap) : Res Value :=
 (boxR a1 h).bind fun v1 h2 =>
 (allocR Prog 3 h2).bind fun v3 h4 =>
 (allocR Prog 3 h4).bind fun v5 h6 =>
 (storeR Prog 3 v3 (.int .i64 0) h6).bind fun _v7 h8 =>
 (storeR Prog 3 v5 (.int .i64 0) h8).bind fun _v9 h10 =>
 (nilR a0 h10).bindN fun v11 h12 =>
 (fieldAddrR Prog 184 v11 0 h12).bindN fun v13 h14 =>
 (loadR Prog 180 v13 h14).bindN fun v15 h16 =>
 (loadR Prog 44 v1 h16).bindN fun v17 h18 =>
 (call F.drive_Plain [(.func (.func F.rear_Table_Run_in1) #[] #[v1, v3, v5])] h18).bindT (fun p21 h22 => .panic p21 h22) fun v19 h20 =>
 (call F.drive_Run [v15, v17, v19] h20).bindT (fun p25 h26 => chkR ((okVal (loadR Prog 180 v13 h20) v15 && true) && ((okVal (loadR Prog 44 v1 h20) v17 && true) && true)) (.panic p25 h26)) fun v23 h24 =>
 (extractR v23 0 h24).bindN fun v27 h28 =>
 (extractR v23 1 h28).bindN fun v29 h30 =>
 chkR ((okVal (loadR Prog 180 v13 h20) v15 && true) && ((okVal (loadR Prog 44 v1 h20) v17 && true) && true)) (
 .ok v29 h30)
theorem rear_Table_Run_R (k : Nat) (a0 a1 : Value) (h : Heap) : R (T k) F.rear_Table_Run [a0, a1] h = nrm .no h (rear_Table_Run k (R (T k)) a0 a1 h) :=
 (R_body (t := T k) (T_scott k) (by kernel_rfl) (by kernel_rfl) _ _).trans (by kernel_rfl)
def rear_Table_Run_in1_j1 (k : Nat) (call : Caller) (a0 a2 a3 a4 a6 : Value) (h : Heap) : Res Value :=
 kSeq (pieceK (C k) call F.rear_Table_Run_in1 [1, 1]) (kDone Prog (resOf Prog F.rear_Table_Run_in1)) .normal [(0, a0), (2, a2), (3, a3), (4, a4), (6, a6)] h
def rear_Table_Run_in1_j2 (k : Nat) (call : Caller) (a0 a2 a3 a4 a6 a12 : Value) (h : Heap) : Res Value :=
 kSeq (pieceK (C k) call F.rear_Table_Run_in1 [1, 1]) (kDone Prog (resOf Prog F.rear_Table_Run_in1)) .normal [(0, a0), (2, a2), (3, a3), (4, a4), (6, a6), (12, a12)] h
def rear_Table_Run_in1_j3 (k : Nat) (call : Caller) (a2 a3 a4 a6 : Value) (h : Heap) : Res Value :=
 kSeq (pieceK (C k) call F.rear_Table_Run_in1 [1, 1, 1]) (kDone Prog (resOf Prog F.rear_Table_Run_in1)) .normal [(2, a2), (3, a3), (4, a4), (6, a6)] h
def rear_Table_Run_in1_j4 (k : Nat) (call : Caller) (a0 a2 a3 a4 a6 a20 : Value) (h : Heap) : Res Value :=
 kSeq (pieceK (C k) call F.rear_Table_Run_in1 [1, 1, 1]) (kDone Prog (resOf Prog F.rear_Table_Run_in1)) .normal [(0, a0), (2, a2), (3, a3), (4, a4), (6, a6), (20, a20)] h
def rear_Table_Run_in1 (k : Nat) (call : Caller) (a0 a1 a2 a3 a4 : Value) (h : Heap) : Res Value :=
 (boxR a1 h).bind fun v1 h2 =>
 (fieldAddrR Prog 31 v1 1 h2).bind fun v3 h4 =>
 (loadR Prog 3 v3 h4).bind fun v5 h6 =>
 (binR Prog .and 3 v5 (.int .i64 32768) h6).bind fun v7 h8 =>
 (binR Prog .neq 3 v7 (.int .i64 0) h8).bind fun v9 h10 =>
 condV (some v9) (
 (loadR Prog 44 a2 h10).bind fun v11 h12 =>
 (call F.line_Line_Len [v11] h12).bind fun v13 h14 =>
 (builtinV Prog .min [3, 3] [a0, v13] h14).bind fun v15 h16 =>
 (storeR Prog 3 a3 v15 h16).bind fun _v17 h18 =>
 rear_Table_Run_in1_j1 k call a0 a2 a3 a4 v1 h18)
 (
 rear_Table_Run_in1_j2 k call a0 a2 a3 a4 v1 v9 h10)
theorem rear_Table_Run_in1_R (k : Nat) (a0 a1 a2 a3 a4 : Value) (h : Heap) : R (T k) F.rear_Table_Run_in1 [a0, a1, a2, a3, a4] h = nrm .no h (rear_Table_Run_in1 k (R (T k)) a0 a1 a2 a3 a4 h) :=
 (R_body (t := T k) (T_scott k) (by kernel_rfl) (by kernel_rfl) _ _).trans (by kernel_rfl)
theorem rear_Table_Run_in1_j1_eq (k : Nat) (call : Caller) (a0 a2 a3 a4 a6 : Value) (h : Heap) : rear_Table_Run_in1_j1 k call a0 a2 a3 a4 a6 h =
 (fieldAddrR Prog 31 a6 1 h).bind fun v19 h20 =>
 (loadR Prog 3 v19 h20).bind fun v21 h22 =>
 (binR Prog .and 3 v21 (.int .i64 8192) h22).bind fun v23 h24 =>
 (binR Prog .neq 3 v23 (.int .i64 0) h24).bind fun v25 h26 =>
 condV (some v25) (
 (binR Prog .add 3 a0 (.int .i64 1) h26).bind fun v27 h28 =>
 (loadR Prog 44 a2 h28).bind fun v29 h30 =>
 (call F.line_Line_Len [v29] h30).bind fun v31 h32 =>
 (builtinV Prog .min [3, 3] [v27, v31] h32).bind fun v33 h34 =>
 (storeR Prog 3 a4 v33 h34).bind fun _v35 h36 =>
 rear_Table_Run_in1_j3 k call a2 a3 a4 a6 h36)
 (
 rear_Table_Run_in1_j4 k call a0 a2 a3 a4 a6 v25 h26) := by kernel_rfl
theorem rear_Table_Run_in1_j2_eq (k : Nat) (call : Caller) (a0 a2 a3 a4 a6 a12 : Value) (h : Heap) : rear_Table_Run_in1_j2 k call a0 a2 a3 a4 a6 a12 h =
 (fieldAddrR Prog 31 a6 1 h).bind fun v37 h38 =>
 (loadR Prog 3 v37 h38).bind fun v39 h40 =>
 (binR Prog .and 3 v39 (.int .i64 8192) h40).bind fun v41 h42 =>
 (binR Prog .neq 3 v41 (.int .i64 0) h42).bind fun v43 h44 =>
 condV (some v43) (
 (binR Prog .add 3 a0 (.int .i64 1) h44).bind fun v45 h46 =>
 (loadR Prog 44 a2 h46).bind fun v47 h48 =>
 (call F.line_Line_Len [v47] h48).bind fun v49 h50 =>
 (builtinV Prog .min [3, 3] [v45, v49] h50).bind fun v51 h52 =>
 (storeR Prog 3 a4 v51 h52).bind fun _v53 h54 =>
 rear_Table_Run_in1_j3 k call a2 a3 a4 a6 h54)
 (
 rear_Table_Run_in1_j4 k call a0 a2 a3 a4 a6 v43 h44) := by kernel_rfl
theorem rear_Table_Run_in1_j3_eq (k : Nat) (call : Caller) (a2 a3 a4 a6 : Value) (h : Heap) : rear_Table_Run_in1_j3 k call a2 a3 a4 a6 h =
 (fieldAddrR Prog 31 a6 1 h).bind fun v55 h56 =>
 (loadR Prog 3 v55 h56).bind fun v57 h58 =>
 (binR Prog .and 3 v57 (.int .i64 15) h58).bind fun v59 h60 =>
 (loadR Prog 3 a4 h60).bind fun v61 h62 =>
 (loadR Prog 3 a3 h62).bind fun v63 h64 =>
 (binR Prog .sub 3 v61 v63 h64).bind fun v65 h66 =>
 (call F.verb_Order [v59, v65] h66).bind fun v67 h68 =>
 (extractR v67 0 h68).bind fun v69 h70 =>
 (extractR v67 1 h70).bind fun v71 h72 =>
 condV (some v71) (
 (loadR Prog 44 a2 h72).bind fun v73 h74 =>
 (loadR Prog 3 a3 h74).bind fun v75 h76 =>
 (call F.line_Line_Order [v73, v75, v69] h76).bind fun v77 h78 =>
 .ok (.tuple #[]) h78)
 (
 .ok (.tuple #[]) h72) := by kernel_rfl
theorem rear_Table_Run_in1_j4_eq (k : Nat) (call : Caller) (a0 a2 a3 a4 a6 a20 : Value) (h : Heap) : rear_Table_Run_in1_j4 k call a0 a2 a3 a4 a6 a20 h =
 (fieldAddrR Prog 31 a6 1 h).bind fun v79 h80 =>
 (loadR Prog 3 v79 h80).bind fun v81 h82 =>
 (binR Prog .and 3 v81 (.int .i64 15) h82).bind fun v83 h84 =>
 (loadR Prog 3 a4 h84).bind fun v85 h86 =>
 (loadR Prog 3 a3 h86).bind fun v87 h88 =>
 (binR Prog .sub 3 v85 v87 h88).bind fun v89 h90 =>
 (call F.verb_Order [v83, v89] h90).bind fun v91 h92 =>
 (extractR v91 0 h92).bind fun v93 h94 =>
 (extractR v91 1 h94).bind fun v95 h96 =>
 condV (some v95) (
 (loadR Prog 44 a2 h96).bind fun v97 h98 =>
 (loadR Prog 3 a3 h98).bind fun v99 h100 =>
 (call F.line_Line_Order [v97, v99, v93] h100).bind fun v101 h102 =>
 .ok (.tuple #[]) h102)
 (
 .ok (.tuple #[]) h96) := by kernel_rfl
end
end Go.Sw
end
section
namespace Go.Sw
open Go.RowKit
abbrev rearV (m : Mach) : Value := boxV #[machV m]
def rearP (o : Option Mach) : Value := match o with | some m => rearV m | none => .pointer none
theorem rearP_flat (o : Option Mach) : Flat (rearP o) := by
 cases o with
 | none => exact .nilPtr
 | some m => exact .boxV (l := [machV m]) (.cons (Flat.mach m) .nil)
theorem rearRead_run (k : Nat) (b : List Int) (hb : Byt b) (g : Int) (hg : 1 ≤ g ∧ g ≤ 65535) (hl : b.length < 2 ^ 31) (H : Heap) :
  R (T k) F.rear_Read [lv encB b, .int .i64 g] H = .ok (.tuple #[rearP (machS b g 0), .int .i64 (if (machS b g 0).isSome then 0 else 2)]) H := by
 rw [rear_Read_R]
 have hrd := fun H' => stateRead_run k (H := H') (Sl.lv H' 1 b) hb g 0 hl
 have hbad : badM g 0 = false := by unfold badM; simp; omega
 unfold machO machN at hrd
 rw [hbad] at hrd
 have al : ∀ o n, Alive H (.tuple #[rearP o, .int .i64 n]) := fun o n => (Flat.tupleL (l := [rearP o, .int .i64 n]) (.cons (rearP_flat o) (.cons (.int _ _) .nil))).alive
 cases h : machS b g 0 with
 | none =>
  rw [h] at hrd
  simp [machP] at hrd
  refine nrm_fz (v := .tuple #[.pointer none, .int .i64 2]) (L := []) (H' := H) ?_ rfl (Ext.refl _) (al none 2)
  simp -implicitDefEqProofs (disch := omega) [rear_Read, hrd]
 | some m =>
  rw [h] at hrd
  simp [machP] at hrd
  have hx : Ext H (H.push ⟨[machV m], 1, false⟩) := (Ext.refl H).push _
  have hft : fzV H.n (H.push ⟨[machV m], 1, false⟩) fzDepth (.tuple #[ptrV H.n, .int .i64 0]) = some (.tuple #[rearV m, .int .i64 0], [H.n]) := by
   have hp : fzV H.n (H.push ⟨[machV m], 1, false⟩) 7 (ptrV H.n) = some (rearV m, [H.n]) := by
    unfold ptrV fzV
    dsimp only
    rw [show Nat.blt H.n H.n = false from by
     cases hb : Nat.blt H.n H.n with
     | false => rfl
     | true => exact absurd (Nat.le_of_ble_eq_true hb) (by omega), get_push_eq _ _ _ rfl]
    rfl
   exact fz_tuple (l := [ptrV H.n, .int .i64 0]) (r := [rearV m, .int .i64 0]) (mapF_cons (L1 := [H.n]) hp (mapF_one (L := []) rfl))
  refine nrm_fz (v := .tuple #[ptrV H.n, .int .i64 0]) (H' := H.push ⟨[machV m], 1, false⟩) ?_ hft hx (al (some m) 0)
  simp -implicitDefEqProofs (disch := omega) [rear_Read, hrd]
def rearW (L : List It) (i c : Nat) (o : Option Nat) (p1 p3 p4 : Nat) (s : List Gl × Int × Int) : List It :=
 L.set i (itLine c o s.1) ++ [itBlk p1 ⟨[ptrV c], 1, false⟩, itBlk p3 ⟨[.int .i64 s.2.1], 1, false⟩, itBlk p4 ⟨[.int .i64 s.2.2], 1, false⟩]
theorem rear_tail (k : Nat) {H0 H : Heap} {L : List It} {i c : Nat} {o : Option Nat} (hi : i < L.length) {p1 p3 p4 q : Nat} {l : List Gl} {A B : Int} {e : En} {X : List It} (hf : 0 ≤ e.flags ∧ e.flags < 65536) (hA : 0 ≤ A ∧ A ≤ l.length) (hB : 0 ≤ B ∧ B ≤ l.length) (hl : l.length < 2 ^ 25)
  (st : Star H0 H (L.set i (itLine c o l) ++ ([itBlk p1 ⟨[ptrV c], 1, false⟩, itBlk p3 ⟨[.int .i64 A], 1, false⟩, itBlk p4 ⟨[.int .i64 B], 1, false⟩] ++ (X ++ [itBlk q ⟨encEn e, 1, false⟩])))) :
  ∃ H', rear_Table_Run_in1_j3 k (R (T k)) (ptrV p1) (ptrV p3) (ptrV p4) (ptrV q) H = .ok (.tuple #[]) H' ∧ (∀ a0 a20, rear_Table_Run_in1_j4 k (R (T k)) a0 (ptrV p1) (ptrV p3) (ptrV p4) (ptrV q) a20 H = .ok (.tuple #[]) H') ∧
   Star H0 H' (L.set i (itLine c o (match orderS (e.flags % 16) (B - A) with | some r => (orderG l A r).getD l | none => l)) ++ ([itBlk p1 ⟨[ptrV c], 1, false⟩, itBlk p3 ⟨[.int .i64 A], 1, false⟩, itBlk p4 ⟨[.int .i64 B], 1, false⟩] ++ (X ++ [itBlk q ⟨encEn e, 1, false⟩]))) := by
 have g1 := st.memBlk (c := p1) (k := ⟨[ptrV c], 1, false⟩) (by simp)
 have g3 := st.memBlk (c := p3) (k := ⟨[.int .i64 A], 1, false⟩) (by simp)
 have g4 := st.memBlk (c := p4) (k := ⟨[.int .i64 B], 1, false⟩) (by simp)
 have ge := st.memBlk (c := q) (k := ⟨encEn e, 1, false⟩) (by simp)
 have han := fun H => and4 Prog 3 H hf.1 hf.2
 have hord := fun H => verbOrder_run k (e.flags % 16) (B - A) (by omega) (by omega) H
 cases ho : orderS (e.flags % 16) (B - A) with
 | none =>
  rw [ho] at hord
  simp only [Option.isSome_none, Option.getD_none] at hord
  refine ⟨H, ?_, fun a0 a20 => ?_, st⟩
  ·rw [rear_Table_Run_in1_j3_eq]
   simp -implicitDefEqProofs (disch := omega) [g1, g3, g4, ge, han, hord]
  ·rw [rear_Table_Run_in1_j4_eq]
   simp -implicitDefEqProofs (disch := omega) [g1, g3, g4, ge, han, hord]
 | some r =>
  rw [ho] at hord
  simp only [Option.isSome_some, Option.getD_some] at hord
  have hrl := (order_ok ho).2.1
  have hline : (L.set i (itLine c o l) ++ ([itBlk p1 ⟨[ptrV c], 1, false⟩, itBlk p3 ⟨[.int .i64 A], 1, false⟩, itBlk p4 ⟨[.int .i64 B], 1, false⟩] ++ (X ++ [itBlk q ⟨encEn e, 1, false⟩])))[i]? = some (itLine c o l) := by
   rw [List.getElem?_append_left (by simpa using hi), List.getElem?_set_self hi]
  obtain ⟨H', e1, st2⟩ := lineOrder_star k st i hline (by omega) A r (by omega) (by omega)
  rw [List.set_append_left _ _ (by simpa using hi), List.set_set] at st2
  refine ⟨H', ?_, fun a0 a20 => ?_, st2⟩
  ·rw [rear_Table_Run_in1_j3_eq]
   simp -implicitDefEqProofs (disch := omega) [g1, g3, g4, ge, han, hord, e1]
  ·rw [rear_Table_Run_in1_j4_eq]
   simp -implicitDefEqProofs (disch := omega) [g1, g3, g4, ge, han, hord, e1]
set_option maxHeartbeats 1000000 in
theorem rear_do (k : Nat) (m : Mach) (hm : m.ok) (L : List It) (i c : Nat) (o : Option Nat) (hi : i < L.length) (p1 p3 p4 n : Nat) (hn : n < 2 ^ 25) {H0 : Heap} :
  DoOk k m H0 (rearW L i c o p1 p3 p4) (RearOk (n : Int)) (.func (.func F.rear_Table_Run_in1) #[] #[ptrV p1, ptrV p3, ptrV p4]) doR := by
 intro s j e H X hI st h0 h1 he
 have hok := (doR_ok hI h0 e).1
 obtain ⟨l, a, b⟩ := s
 obtain ⟨k1, k2, k3, k4, k5⟩ := hI
 dsimp only at k1 k2 k3 k4 k5
 have heb := hm.ent e he
 unfold rearW at st
 dsimp only at st
 obtain ⟨S, hS⟩ : ∃ S : List Gl → Int → Int → List It, S = fun l' a' b' => L.set i (itLine c o l') ++ ([itBlk p1 ⟨[ptrV c], 1, false⟩, itBlk p3 ⟨[.int .i64 a'], 1, false⟩, itBlk p4 ⟨[.int .i64 b'], 1, false⟩] ++ (X ++ [itBlk H.n ⟨encEn e, 1, false⟩])) := ⟨_, rfl⟩
 have hSv : ∀ l' a' b', S l' a' b' = L.set i (itLine c o l') ++ ([itBlk p1 ⟨[ptrV c], 1, false⟩, itBlk p3 ⟨[.int .i64 a'], 1, false⟩, itBlk p4 ⟨[.int .i64 b'], 1, false⟩] ++ (X ++ [itBlk H.n ⟨encEn e, 1, false⟩])) := fun _ _ _ => by rw [hS]
 have hline : ∀ l' a' b', (S l' a' b')[i]? = some (itLine c o l') := fun l' a' b' => by
  rw [hSv, List.getElem?_append_left (by simpa using hi), List.getElem?_set_self hi]
 have storeA : ∀ {H' : Heap} {a' b' : Int} (v : Int), Star H0 H' (S l a' b') → ∃ H'', stR 1 (ptrV p3) (.int .i64 v) H' = .ok undef H'' ∧ Star H0 H'' (S l v b') := fun {H' a' b'} v h => by
  rw [hSv] at h
  rw [show L.set i (itLine c o l) ++ ([itBlk p1 ⟨[ptrV c], 1, false⟩, itBlk p3 ⟨[.int .i64 a'], 1, false⟩, itBlk p4 ⟨[.int .i64 b'], 1, false⟩] ++ (X ++ [itBlk H.n ⟨encEn e, 1, false⟩])) =
   (L.set i (itLine c o l) ++ [itBlk p1 ⟨[ptrV c], 1, false⟩]) ++ itBlk p3 ⟨[.int .i64 a'], 1, false⟩ :: (itBlk p4 ⟨[.int .i64 b'], 1, false⟩ :: (X ++ [itBlk H.n ⟨encEn e, 1, false⟩])) by simp] at h
  obtain ⟨H'', e1, h2⟩ := h.stEnd 0 (v := .int .i64 v) rfl rfl (by simp)
  refine ⟨H'', e1, ?_⟩
  rw [hSv]
  simpa using h2
 have storeB : ∀ {H' : Heap} {a' b' : Int} (v : Int), Star H0 H' (S l a' b') → ∃ H'', stR 1 (ptrV p4) (.int .i64 v) H' = .ok undef H'' ∧ Star H0 H'' (S l a' v) := fun {H' a' b'} v h => by
  rw [hSv] at h
  rw [show L.set i (itLine c o l) ++ ([itBlk p1 ⟨[ptrV c], 1, false⟩, itBlk p3 ⟨[.int .i64 a'], 1, false⟩, itBlk p4 ⟨[.int .i64 b'], 1, false⟩] ++ (X ++ [itBlk H.n ⟨encEn e, 1, false⟩])) =
   (L.set i (itLine c o l) ++ [itBlk p1 ⟨[ptrV c], 1, false⟩, itBlk p3 ⟨[.int .i64 a'], 1, false⟩]) ++ itBlk p4 ⟨[.int .i64 b'], 1, false⟩ :: (X ++ [itBlk H.n ⟨encEn e, 1, false⟩]) by simp] at h
  obtain ⟨H'', e1, h2⟩ := h.stEnd 0 (v := .int .i64 v) rfl rfl (by simp)
  refine ⟨H'', e1, ?_⟩
  rw [hSv]
  simpa using h2
 have look : ∀ {H' : Heap} {a' b' : Int}, Star H0 H' (S l a' b') → H'.get p1 = some ⟨[ptrV c], 1, false⟩ ∧ H'.get H.n = some ⟨encEn e, 1, false⟩ ∧ R (T k) F.line_Line_Len [ptrV c] H' = .ok (.int .i64 l.length) H' := fun {H' a' b'} h => by
  refine ⟨?_, ?_, lineLen_run k h i (hline _ _ _)⟩
  ·rw [hSv] at h; exact h.memBlk (c := p1) (k := ⟨[ptrV c], 1, false⟩) (by simp)
  ·rw [hSv] at h; exact h.memBlk (c := H.n) (k := ⟨encEn e, 1, false⟩) (by simp)
 have fin : ∀ {H' : Heap} {l' : List Gl} {a' b' : Int}, Star H0 H' (S l' a' b') → Star H0 H' (L.set i (itLine c o l') ++ [itBlk p1 ⟨[ptrV c], 1, false⟩, itBlk p3 ⟨[.int .i64 a'], 1, false⟩, itBlk p4 ⟨[.int .i64 b'], 1, false⟩] ++ X) := fun {H' l' a' b'} h => by
  rw [hSv, ← List.append_assoc, ← List.append_assoc] at h
  exact h.drop_last
 have st2 : Star H0 (H.push ⟨encEn e, 1, false⟩) (S l a b) := by
  have := st.push ⟨encEn e, 1, false⟩
  rw [List.append_assoc, List.append_assoc] at this
  rw [hSv]
  exact this
 have ha15 := fun H => and15 Prog 3 H heb.2.2.1 heb.2.2.2.1
 have ha13 := fun H => and13 Prog 3 H heb.2.2.1 heb.2.2.2.1
 have m1 : (if (l.length : Int) < j then (l.length : Int) else j) = min j (l.length : Int) := by split <;> omega
 have m2 : (if (l.length : Int) < j + 1 then (l.length : Int) else j + 1) = min (j + 1) (l.length : Int) := by split <;> omega
 obtain ⟨A, hA⟩ : ∃ A, A = if e.flags ≥ 32768 then min j (l.length : Int) else a := ⟨_, rfl⟩
 obtain ⟨B, hB⟩ : ∃ B, B = if e.flags / 8192 % 2 = 1 then min (j + 1) (l.length : Int) else b := ⟨_, rfl⟩
 have hAb : 0 ≤ A ∧ A ≤ (l.length : Int) := by rw [hA]; split <;> omega
 have hBb : 0 ≤ B ∧ B ≤ (l.length : Int) := by rw [hB]; split <;> omega
 have hdo : doR (l, a, b) j e = (match orderS (e.flags % 16) (B - A) with | some o => (orderG l A o).getD l | none => l, A, B) := by unfold doR; rw [hA, hB] <;> rfl
 have tail : ∀ {H' : Heap}, Star H0 H' (S l A B) → ∃ H'', rear_Table_Run_in1_j3 k (R (T k)) (ptrV p1) (ptrV p3) (ptrV p4) (ptrV H.n) H' = .ok (.tuple #[]) H'' ∧ (∀ a0 a20, rear_Table_Run_in1_j4 k (R (T k)) a0 (ptrV p1) (ptrV p3) (ptrV p4) (ptrV H.n) a20 H' = .ok (.tuple #[]) H'') ∧
   Star H0 H'' (rearW L i c o p1 p3 p4 (doR (l, a, b) j e) ++ X) := fun {H'} h => by
  rw [hSv] at h
  obtain ⟨H'', e1, e2, h3⟩ := rear_tail k hi ⟨heb.2.2.1, heb.2.2.2.1⟩ hAb hBb (by omega) h
  rw [← hSv] at h3
  refine ⟨H'', e1, e2, ?_⟩
  rw [hdo]
  exact fin h3
 obtain ⟨v1, v2, v3⟩ := look st2
 clear st
 by_cases d1 : e.flags ≥ 32768
 ·rw [if_pos d1] at hA ha15
  obtain ⟨H1, e1, st3⟩ := storeA (min j (l.length : Int)) st2
  obtain ⟨w1, w2, w3⟩ := look st3
  by_cases d2 : e.flags / 8192 % 2 = 1
  ·rw [if_pos d2] at hB ha13
   obtain ⟨H2, e2, st4⟩ := storeB (min (j + 1) (l.length : Int)) st3
   rw [← hA, ← hB] at st4
   obtain ⟨H3, t1, _, st5⟩ := tail st4
   refine ⟨.tuple #[], H3, ?_, st5, hok⟩
   simp only [callV, List.nil_append, List.cons_append]
   rw [rear_Table_Run_in1_R, nrm_of]
   simp -implicitDefEqProofs (disch := omega) [-stR_ptr, rear_Table_Run_in1, v1, v2, v3, ha15, bne, m1, e1, rear_Table_Run_in1_j1_eq, w1, w2, w3, ha13, m2, e2, t1]
  ·rw [if_neg d2] at hB ha13
   rw [← hA, ← hB] at st3
   obtain ⟨H3, _, t1, st5⟩ := tail st3
   refine ⟨.tuple #[], H3, ?_, st5, hok⟩
   simp only [callV, List.nil_append, List.cons_append]
   rw [rear_Table_Run_in1_R, nrm_of]
   simp -implicitDefEqProofs (disch := omega) [-stR_ptr, rear_Table_Run_in1, v1, v2, v3, ha15, bne, m1, e1, rear_Table_Run_in1_j1_eq, w1, w2, w3, ha13, t1]
 ·rw [if_neg d1] at hA ha15
  by_cases d2 : e.flags / 8192 % 2 = 1
  ·rw [if_pos d2] at hB ha13
   obtain ⟨H2, e2, st4⟩ := storeB (min (j + 1) (l.length : Int)) st2
   rw [← hA, ← hB] at st4
   obtain ⟨H3, t1, _, st5⟩ := tail st4
   refine ⟨.tuple #[], H3, ?_, st5, hok⟩
   simp only [callV, List.nil_append, List.cons_append]
   rw [rear_Table_Run_in1_R, nrm_of]
   simp -implicitDefEqProofs (disch := omega) [-stR_ptr, rear_Table_Run_in1, v1, v2, v3, ha15, bne, rear_Table_Run_in1_j2_eq, ha13, m2, e2, t1]
  ·rw [if_neg d2] at hB ha13
   rw [← hA, ← hB] at st2
   obtain ⟨H3, _, t1, st5⟩ := tail st2
   refine ⟨.tuple #[], H3, ?_, st5, hok⟩
   simp only [callV, List.nil_append, List.cons_append]
   rw [rear_Table_Run_in1_R, nrm_of]
   simp -implicitDefEqProofs (disch := omega) [-stR_ptr, rear_Table_Run_in1, v1, v2, v3, ha15, bne, rear_Table_Run_in1_j2_eq, ha13, t1]
set_option maxHeartbeats 1000000 in
theorem rearRun_star (k : Nat) (m : Mach) (hm : m.ok) {H0 H : Heap} {L : List It} (h : Star H0 H L) (i : Nat) {c : Nat} {o : Option Nat} {l : List Gl} (hi : L[i]? = some (itLine c o l)) (hl : l.length < 2 ^ 25) :
  ∃ H', R (T k) F.rear_Table_Run [rearV m, ptrV c] H = .ok (.int .i64 (runR m l).2) H' ∧ Star H0 H' (L.set i (itLine c o (runR m l).1)) ∧ (runR m l).1.length = l.length := by
 have hlt := (List.getElem?_eq_some_iff.1 hi).1
 have same : L.set i (itLine c o l) = L := by
  obtain ⟨hlt, hx⟩ := List.getElem?_eq_some_iff.1 hi
  rw [← hx, List.set_getElem_self]
 have st := ((h.push ⟨[ptrV c], 1, false⟩).push ⟨[.int .i64 0], 1, false⟩).push ⟨[.int .i64 0], 1, false⟩
 simp only [hn_push] at st
 obtain ⟨H3, hH3⟩ : ∃ H3, H3 = ((H.push ⟨[ptrV c], 1, false⟩).push ⟨[.int .i64 0], 1, false⟩).push ⟨[.int .i64 0], 1, false⟩ := ⟨_, rfl⟩
 rw [← hH3] at st
 have hn3 : H3.n = H.n + 3 := by rw [hH3]; simp
 have ePl := plainNew k (.func F.rear_Table_Run_in1) #[] #[ptrV H.n, ptrV (H.n + 1), ptrV (H.n + 2)] H3
 have st4 := st.push ⟨[.func (.func F.rear_Table_Run_in1) #[] #[ptrV H.n, ptrV (H.n + 1), ptrV (H.n + 2)]], 1, false⟩
 have g1 := st4.memBlk (c := H.n) (k := ⟨[ptrV c], 1, false⟩) (by simp)
 have hact := plain_ok k (rear_do k m hm L i c o hlt H.n (H.n + 1) (H.n + 2) l.length hl (H0 := H0)) H3.n
 obtain ⟨H5, eR, st5, hI5⟩ := driveRun_star k m hm (fun s : List Gl × Int × Int => rearW L i c o H.n (H.n + 1) (H.n + 2) s ++ [itBlk H3.n ⟨[.func (.func F.rear_Table_Run_in1) #[] #[ptrV H.n, ptrV (H.n + 1), ptrV (H.n + 2)]], 1, false⟩]) (RearOk (l.length : Int)) (fun s => s.1) c
  (fun s => ⟨i, o, by
   unfold rearW
   rw [List.append_assoc, List.getElem?_append_left (by simpa using hlt), List.getElem?_set_self hlt]⟩) _ _ hact [] (l, 0, 0) ⟨rfl, by dsimp only; omega⟩ (by
   unfold rearW
   rw [same]
   simpa [List.append_assoc] using st4) (by dsimp only; omega)
 have hr : runD m (fun s : List Gl × Int × Int => s.1) (fun s i e => (doR s i e, i, i + 1)) (2 * (l.length : Int) + 128) (2 * l.length + 128) ((l, 0, 0), ⟨0, 0, 0, 0⟩) = runRr m l := by unfold runRr; rfl
 dsimp only at eR st5 hI5
 rw [hr] at eR st5 hI5
 refine ⟨H5, ?_, ?_, ?_⟩
 ·rw [rear_Table_Run_R, nrm_of]
  have v2 := veq_mach m
  unfold runR
  generalize runRr m l = r at eR ⊢
  rw [hH3] at ePl eR g1
  simp only [hn_push] at ePl eR
  simp -implicitDefEqProofs (disch := omega) [rear_Table_Run, ePl, eR, v2]
 ·unfold runR
  generalize runRr m l = r at st5 ⊢
  unfold rearW at st5
  have := st5.take L.length
  rw [List.append_assoc, List.append_assoc, List.take_append_of_le_length (by simp), List.take_of_length_le (by simp)] at this
  exact this
 ·exact (runR_perm hm l).length_eq
end Go.Sw
end
