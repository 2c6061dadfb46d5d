/-
  Functions' forms, and what is proved of them, part 5.
-/
import Derived.Test.YtnaodjnimkndbabSwW4
import Derived.Test.YtnaodjnimkndbabSwCfg
import Derived.Test.YtnaodjnimkndbabSwW1
import Derived.Test.YtnaodjnimkndbabSwLib8
import Derived.Tactics
import Derived.Tactics2
import Derived.Defers
import Derived.Recover
import Derived.Laws.Pointers
import Derived.Test.YtnaodjnimkndbabSwW2
set_option linter.unusedSimpArgs false
set_option linter.unusedVariables false
set_option linter.unusedSectionVars false
section
namespace Go.Sw
open Go.RowKit
def RP.ok (r : RP) : Prop := -1 ≤ r.first ∧ r.first ≤ 65536 ∧ -1 ≤ r.last ∧ r.last ≤ 65536 ∧ -1 ≤ r.pos ∧ r.pos < 2 ^ 35 ∧ 0 ≤ r.step ∧ r.step ≤ 4 ∧ 0 ≤ r.size ∧ r.size ≤ 4
end Go.Sw
end
section
namespace Go.Sw
open Go.RowKit
end Go.Sw
end
section
namespace Go.Sw
open Go.RowKit
def planRoom (p : Plan) (w : Int) (rm : List Int) : List Int :=
 bytesOf (planN p : Int) 4 ++ (bytesOf (16 + rm.length : Int) 4 ++ (bytesOf (16 + rm.length + (ofS p.cls).length : Int) 4 ++ (bytesOf (16 + rm.length + (ofS p.cls).length + (rowsL (planN p) p.rows).length : Int) 4 ++ (rm ++ (ofS p.cls ++ (rowsL (planN p) p.rows ++ entsB w p.ents))))))
theorem planBytes_room (p : Plan) (w : Int) (room : Nat) : planBytes p w room = planRoom p w (List.replicate room 0) := by
 unfold planBytes planRoom
 simp [List.append_assoc]
end Go.Sw
end
section
namespace Go.Sw
open Go.RowKit
end Go.Sw
end
section
namespace Go.Sw
open Go.RowKit
end Go.Sw
end
section
set_option maxRecDepth 100000
set_option linter.unusedVariables false
namespace Go.Sw
noncomputable section
def drive_Run_l1 (k : Nat) (call : Caller) : Env → Heap → Res (AExit × Env) := loopB (C k) call F.drive_Run [1, 1, 1, 0, 0, 0]
def drive_Run_l1k (k : Nat) (call : Caller) : Kont Value := kBlock 0 (kSeq (pieceK (C k) call F.drive_Run [1, 1, 1, 1]) (kDone Prog (resOf Prog F.drive_Run)))
def drive_Run (k : Nat) (call : Caller) (a0 a1 a2 : Value) (h : Heap) : Res Value :=
 (buildR Prog 297 [(0, a0), (1, a1)] h).bind fun v1 h2 =>
 (boxR v1 h2).bind fun v3 h4 =>
 (call F.line_Line_Len [a1] h4).bind fun v5 h6 =>
 (binR Prog .mul 3 (.int .i64 2) v5 h6).bind fun v7 h8 =>
 (binR Prog .add 3 v7 (.int .i64 128) h8).bind fun v9 h10 =>
 (loopN (drive_Run_l1 k call) loopFuel [(2, a2), (8, v3), (9, v9)] h10).bind fun r11 h12 =>
 drive_Run_l1k k call r11.1 r11.2 h12
theorem drive_Run_R (k : Nat) (a0 a1 a2 : Value) (h : Heap) : R (T k) F.drive_Run [a0, a1, a2] h = nrm .no h (drive_Run k (R (T k)) a0 a1 a2 h) :=
 (R_body (t := T k) (T_scott k) (by kernel_rfl) (by kernel_rfl) _ _).trans (by kernel_rfl)
theorem drive_Run_l1_eq (k : Nat) (call : Caller) (a2 a8 a9 : Value) (h : Heap) : drive_Run_l1 k call [(2, a2), (8, a8), (9, a9)] h =
 (nilR a8 h).bind fun v13 h14 =>
 (fieldAddrR Prog 297 v13 4 h14).bind fun v15 h16 =>
 (loadR Prog 3 v15 h16).bind fun v17 h18 =>
 (binR Prog .lss 3 v17 a9 h18).bind fun v19 h20 =>
 condV (some v19) (
 (call F.drive_driver_step [a8, a2] h20).bind fun v21 h22 =>
 condV (some v21) (
 (nilR a8 h22).bind fun v23 h24 =>
 (fieldAddrR Prog 297 v23 4 h24).bind fun v25 h26 =>
 (loadR Prog 3 v25 h26).bind fun v27 h28 =>
 .ok (.ret, [(6, v27), (7, (.int .i64 0))]) h28)
 (
 (nilR a8 h22).bind fun v29 h30 =>
 (fieldAddrR Prog 297 v29 5 h30).bind fun v31 h32 =>
 (loadR Prog 3 v31 h32).bind fun v33 h34 =>
 (binR Prog .gtr 3 v33 (.int .i64 64) h34).bind fun v35 h36 =>
 condV (some v35) (
 .ok ((.exit 0), [(2, a2), (8, a8), (9, a9), (35, v35)]) h36)
 (
 .ok (.normal, [(2, a2), (8, a8), (9, a9)]) h36)))
 (
 .ok ((.exit 0), [(2, a2), (8, a8), (9, a9), (23, v19)]) h20) :=
 (loopB_eq _ _).trans (by kernel_rfl)
theorem drive_Run_l1k_r (k : Nat) (call : Caller) (a6 a7 : Value) (h : Heap) : drive_Run_l1k k call .ret [(6, a6), (7, a7)] h =
 .ok (.tuple #[a6, a7]) h := by kernel_rfl
theorem drive_Run_l1k_x0 (k : Nat) (call : Caller) (a2 a8 a9 a35 : Value) (h : Heap) : drive_Run_l1k k call (.exit 0) [(2, a2), (8, a8), (9, a9), (35, a35)] h =
 (nilR a8 h).bind fun v37 h38 =>
 (fieldAddrR Prog 297 v37 4 h38).bind fun v39 h40 =>
 (loadR Prog 3 v39 h40).bind fun v41 h42 =>
 .ok (.tuple #[v41, (.int .i64 4)]) h42 := by kernel_rfl
theorem drive_Run_l1k_x0_1 (k : Nat) (call : Caller) (a2 a8 a9 a23 : Value) (h : Heap) : drive_Run_l1k k call (.exit 0) [(2, a2), (8, a8), (9, a9), (23, a23)] h =
 (nilR a8 h).bind fun v43 h44 =>
 (fieldAddrR Prog 297 v43 4 h44).bind fun v45 h46 =>
 (loadR Prog 3 v45 h46).bind fun v47 h48 =>
 .ok (.tuple #[v47, (.int .i64 4)]) h48 := by kernel_rfl
def drive_Plain (k : Nat) (call : Caller) (a0 : Value) (h : Heap) : Res Value :=
 (boxR a0 h).bind fun v1 h2 =>
 .ok (.func (.func F.drive_Plain_in1) #[] #[v1]) h2
theorem drive_Plain_R (k : Nat) (a0 : Value) (h : Heap) : R (T k) F.drive_Plain [a0] h = nrm .gc h (drive_Plain k (R (T k)) a0 h) :=
 (R_body (t := T k) (T_scott k) (by kernel_rfl) (by kernel_rfl) _ _).trans (by kernel_rfl)
def drive_driver_step (k : Nat) (call : Caller) (a0 a1 : Value) (h : Heap) : Res Value :=
 (call F.drive_driver_class [a0] h).bind fun v1 h2 =>
 (extractR v1 0 h2).bind fun v3 h4 =>
 (extractR v1 1 h4).bind fun v5 h6 =>
 (nilR a0 h6).bindN fun v7 h8 =>
 (fieldAddrR Prog 297 v7 0 h8).bindN fun v9 h10 =>
 (loadR Prog 180 v9 h10).bindN fun v11 h12 =>
 (nilR a0 h12).bindN fun v13 h14 =>
 (fieldAddrR Prog 297 v13 2 h14).bindN fun v15 h16 =>
 (loadR Prog 3 v15 h16).bindN fun v17 h18 =>
 (call F.state_Machine_Step [v11, v17, v3] h18).bindT (fun p21 h22 => (allocR Prog 31 h18).bindN fun v23 h24 => .panic p21 h22) fun v19 h20 =>
 (extractR v19 0 h20).bindN fun v25 h26 =>
 (extractR v19 1 h26).bindN fun v27 h28 =>
 (allocR Prog 31 h28).bindN fun v29 h30 =>
 (storeR Prog 31 v29 v25 h30).bindN fun _v31 h32 =>
 (nilR a0 h32).bind fun v33 h34 =>
 (fieldAddrR Prog 297 v33 4 h34).bind fun v35 h36 =>
 (loadR Prog 3 v35 h36).bind fun v37 h38 =>
 (binR Prog .add 3 v37 (.int .i64 1) h38).bind fun v39 h40 =>
 (nilR a0 h40).bind fun v41 h42 =>
 (fieldAddrR Prog 297 v41 4 h42).bind fun v43 h44 =>
 (storeR Prog 3 v43 v39 h44).bind fun _v45 h46 =>
 (fieldAddrR Prog 31 v29 0 h46).bind fun v47 h48 =>
 (loadR Prog 3 v47 h48).bind fun v49 h50 =>
 (nilR a0 h50).bind fun v51 h52 =>
 (fieldAddrR Prog 297 v51 2 h52).bind fun v53 h54 =>
 (storeR Prog 3 v53 v49 h54).bind fun _v55 h56 =>
 (nilR a0 h56).bindN fun v57 h58 =>
 (fieldAddrR Prog 297 v57 3 h58).bindN fun v59 h60 =>
 (loadR Prog 3 v59 h60).bindN fun v61 h62 =>
 (loadR Prog 31 v29 h62).bindN fun v63 h64 =>
 (callV call a1 [v61, v63] h64).bindT (fun p67 h68 => .panic p67 h68) fun v65 h66 =>
 (extractR v65 0 h66).bindN fun v69 h70 =>
 (extractR v65 1 h70).bindN fun v71 h72 =>
 (fieldAddrR Prog 31 v29 1 h72).bind fun v73 h74 =>
 (loadR Prog 3 v73 h74).bind fun v75 h76 =>
 (binR Prog .and 3 v75 (.int .i64 16384) h76).bind fun v77 h78 =>
 (binR Prog .neq 3 v77 (.int .i64 0) h78).bind fun v79 h80 =>
 condV (some v79) (
 (builtinV Prog .max [3, 3] [v69, (.int .i64 0)] h80).bind fun v81 h82 =>
 (nilR a0 h82).bind fun v83 h84 =>
 (fieldAddrR Prog 297 v83 3 h84).bind fun v85 h86 =>
 (storeR Prog 3 v85 v81 h86).bind fun _v87 h88 =>
 (nilR a0 h88).bind fun v89 h90 =>
 (fieldAddrR Prog 297 v89 5 h90).bind fun v91 h92 =>
 (loadR Prog 3 v91 h92).bind fun v93 h94 =>
 (binR Prog .add 3 v93 (.int .i64 1) h94).bind fun v95 h96 =>
 (nilR a0 h96).bind fun v97 h98 =>
 (fieldAddrR Prog 297 v97 5 h98).bind fun v99 h100 =>
 (storeR Prog 3 v99 v95 h100).bind fun _v101 h102 =>
 .ok (.bool false) h102)
 (
 (builtinV Prog .max [3, 3] [v71, (.int .i64 0)] h80).bind fun v103 h104 =>
 (nilR a0 h104).bind fun v105 h106 =>
 (fieldAddrR Prog 297 v105 3 h106).bind fun v107 h108 =>
 (storeR Prog 3 v107 v103 h108).bind fun _v109 h110 =>
 (nilR a0 h110).bind fun v111 h112 =>
 (fieldAddrR Prog 297 v111 5 h112).bind fun v113 h114 =>
 (storeR Prog 3 v113 (.int .i64 0) h114).bind fun _v115 h116 =>
 .ok v5 h116)
theorem drive_driver_step_R (k : Nat) (a0 a1 : Value) (h : Heap) : R (T k) F.drive_driver_step [a0, a1] h = nrm .no h (drive_driver_step k (R (T k)) a0 a1 h) :=
 (R_body (t := T k) (T_scott k) (by kernel_rfl) (by kernel_rfl) _ _).trans (by kernel_rfl)
def drive_Plain_in1 (k : Nat) (call : Caller) (a0 a1 a2 : Value) (h : Heap) : Res Value :=
 (boxR a1 h).bind fun v1 h2 =>
 (loadR Prog 197 a2 h2).bind fun v3 h4 =>
 (loadR Prog 31 v1 h4).bind fun v5 h6 =>
 (callV call v3 [a0, v5] h6).bind fun v7 h8 =>
 (binR Prog .add 3 a0 (.int .i64 1) h8).bind fun v9 h10 =>
 .ok (.tuple #[a0, v9]) h10
theorem drive_Plain_in1_R (k : Nat) (a0 a1 a2 : Value) (h : Heap) : R (T k) F.drive_Plain_in1 [a0, a1, a2] h = nrm .no h (drive_Plain_in1 k (R (T k)) a0 a1 a2 h) :=
 (R_body (t := T k) (T_scott k) (by kernel_rfl) (by kernel_rfl) _ _).trans (by kernel_rfl)
def drive_driver_class (k : Nat) (call : Caller) (a0 : Value) (h : Heap) : Res Value :=
 (nilR a0 h).bindN fun v1 h2 =>
 (fieldAddrR Prog 297 v1 1 h2).bindN fun v3 h4 =>
 (loadR Prog 44 v3 h4).bindN fun v5 h6 =>
 (nilR a0 h6).bindN fun v7 h8 =>
 (fieldAddrR Prog 297 v7 3 h8).bindN fun v9 h10 =>
 (loadR Prog 3 v9 h10).bindN fun v11 h12 =>
 (call F.line_Line_At [v5, v11] h12).bindT (fun p15 h16 => (allocR Prog 115 h12).bindN fun v17 h18 => .panic p15 h16) fun v13 h14 =>
 (extractR v13 0 h14).bindN fun v19 h20 =>
 (extractR v13 1 h20).bindN fun v21 h22 =>
 (allocR Prog 115 h22).bindN fun v23 h24 =>
 (storeR Prog 115 v23 v19 h24).bindN fun _v25 h26 =>
 (unR .not v21 h26).bind fun v27 h28 =>
 condV (some v27) (
 .ok (.tuple #[(.int .i64 0), (.bool true)]) h28)
 (
 (nilR a0 h28).bindN fun v29 h30 =>
 (fieldAddrR Prog 297 v29 0 h30).bindN fun v31 h32 =>
 (loadR Prog 180 v31 h32).bindN fun v33 h34 =>
 (fieldAddrR Prog 115 v23 0 h34).bindN fun v35 h36 =>
 (loadR Prog 3 v35 h36).bindN fun v37 h38 =>
 (call F.state_Machine_Class [v33, v37] h38).bindT (fun p41 h42 => .panic p41 h42) fun v39 h40 =>
 .ok (.tuple #[v39, (.bool false)]) h40)
theorem drive_driver_class_R (k : Nat) (a0 : Value) (h : Heap) : R (T k) F.drive_driver_class [a0] h = nrm .gc h (drive_driver_class k (R (T k)) a0 h) :=
 (R_body (t := T k) (T_scott k) (by kernel_rfl) (by kernel_rfl) _ _).trans (by kernel_rfl)
end
end Go.Sw
end
section
namespace Go.Sw
open Go.RowKit
theorem Star.stEnd {H0 H : Heap} {A B : List It} {c : Nat} {cells : List Value} {e : Nat} (h : Star H0 H (A ++ itBlk c ⟨cells, e, false⟩ :: B)) (off : Nat) {v : Value} (hs : storable v = true) (hc : v.cells = #[v]) (ho : off < cells.length) :
  ∃ H', stR 1 (.pointer (some ⟨c, off, none⟩)) v H = .ok undef H' ∧ Star H0 H' (A ++ itBlk c ⟨cells.set off v, e, false⟩ :: B) := by
 obtain ⟨H', h1, h2, _⟩ := h.stCell A.length (c := c) (cells := cells) (e := e) (by simp) off hs hc ho
 exact ⟨H', h1, by simpa using h2⟩
structure Drv where
 st : Int
 pl : Int
 stp : Int
 rest : Int
abbrev drvC (m : Mach) (c : Nat) (d : Drv) : List Value := [machV m, ptrV c, .int .i64 d.st, .int .i64 d.pl, .int .i64 d.stp, .int .i64 d.rest]
def clsS (m : Mach) (l : List Gl) (pl : Int) : Int × Bool := match atG l pl with | some g => (classS m g.id, false) | none => (0, true)
def entS (m : Mach) (l : List Gl) (d : Drv) : En := (stepS m d.st (clsS m l d.pl).1).getD ⟨0, 0, 0, 0⟩
abbrev encE (e : En) : Value := .agg (encEn e).toArray
theorem take_mid {α : Type} (x : α) (B : List α) : ∀ A : List α, (A ++ x :: B).take (A.length + 1) = A ++ [x]
 | [] => rfl
 | a :: A => by simp [take_mid x B A]
theorem and_two14 (n : Nat) : n &&& 2 ^ 14 = if n.testBit 14 then 2 ^ 14 else 0 := by
 apply Nat.eq_of_testBit_eq
 intro i
 rw [Nat.testBit_and, Nat.testBit_two_pow]
 by_cases h : 14 = i
 ·subst h
  cases hb : n.testBit 14 <;> simp <;> decide
 ·cases hb : n.testBit 14
  ·simp [h]
  ·simp only [h, decide_false, Bool.and_false, if_true, Nat.testBit_two_pow]
theorem and14 (P : Program) (t : TypeId) (H : Heap) {a : Int} (h0 : 0 ≤ a) (h1 : a < 65536) : binR P .and t (.int .i64 a) (.int .i64 16384) H = .ok (.int .i64 (if a / 16384 % 2 = 1 then 16384 else 0)) H := by
 have e : (BitVec.ofInt 64 a &&& BitVec.ofInt 64 16384).toNat = (if a / 16384 % 2 = 1 then 16384 else 0) := by
  rw [BitVec.toNat_and, BitVec.toNat_ofInt, BitVec.toNat_ofInt]
  rw [show ((16384 : Int) % ((2 ^ 64 : Nat) : Int)).toNat = 2 ^ 14 from by decide, and_two14, Nat.testBit_eq_decide_div_mod_eq]
  obtain ⟨n, rfl⟩ := Int.eq_ofNat_of_zero_le h0
  rw [show (((n : Int)) % ((2 ^ 64 : Nat) : Int)).toNat = n by omega]
  by_cases h : (n : Int) / 16384 % 2 = 1
  ·rw [if_pos h, decide_eq_true (show n / 2 ^ 14 % 2 = 1 by omega)]; rfl
  ·rw [if_neg h, decide_eq_false (show ¬ n / 2 ^ 14 % 2 = 1 by omega)]; rfl
 have e1 : binV P .and t (.int .i64 a) (.int .i64 16384) = some (.int .i64 (IntKind.i64.wrap (BitVec.ofInt 64 a &&& BitVec.ofInt 64 16384).toNat)) := rfl
 unfold binR
 rw [e1, e]
 by_cases h : a / 16384 % 2 = 1
 ·simp [h]
 ·simp [h]
theorem driverClass_run (k : Nat) (m : Mach) (hm : m.ok) {H0 H : Heap} {L : List It} (h : Star H0 H L) {c q : Nat} {o : Option Nat} {l : List Gl} {d : Drv} (i : Nat) (hi : L[i]? = some (itLine c o l)) (hq : H.get q = some ⟨drvC m c d, 1, false⟩) :
  R (T k) F.drive_driver_class [ptrV q] H = .ok (.tuple #[.int .i64 (clsS m l d.pl).1, .bool (clsS m l d.pl).2]) H := by
 rw [drive_driver_class_R]
 have hat := lineAt_run k h i hi d.pl
 have fl : ∀ (a : Int) b, Flat (.tuple #[.int .i64 a, .bool b]) := fun a b => .tupleL (.cons (.int _ _) (.cons (.bool _) .nil))
 unfold clsS
 have hqn : ¬ q = H.n := by have := Heap.get_lt hq; omega
 cases ha : atG l d.pl with
 | none =>
  rw [ha] at hat
  refine nrm_gc ⟨H.push ⟨[.int .i64 0, .int .i64 0], 1, false⟩, ?_, (Ext.refl H).push _⟩ (fl _ _).alive
  unfold encA at hat
  simp at hat
  simp -implicitDefEqProofs (disch := omega) [drive_driver_class, hq, hat]
 | some g =>
  rw [ha] at hat
  have hc := fun H' => Class_run k m hm g.id H'
  refine nrm_gc ⟨H.push ⟨encG g, 1, false⟩, ?_, (Ext.refl H).push _⟩ (fl _ _).alive
  unfold encA at hat
  simp at hat
  simp -implicitDefEqProofs (disch := omega) [drive_driver_class, hq, hqn, hat, hc]
theorem entS_bound {m : Mach} (hm : m.ok) (l : List Gl) (d : Drv) : let e := entS m l d; 0 ≤ e.next ∧ e.next < 65536 ∧ 0 ≤ e.flags ∧ e.flags < 65536 ∧ 0 ≤ e.a ∧ e.a < 65536 ∧ 0 ≤ e.b ∧ e.b < 65536 := by
 dsimp only
 unfold entS
 cases h : stepS m d.st (clsS m l d.pl).1 with
 | none => simp
 | some x =>
  have hx : x ∈ m.ents := by
   unfold stepS at h
   split at h
   ·obtain ⟨r, _, h⟩ := Option.bind_eq_some_iff.1 h
    obtain ⟨y, _, h⟩ := Option.bind_eq_some_iff.1 h
    exact List.mem_of_getElem? h
   ·cases h
  have := hm.ent x hx
  have := hm.two
  simp only [Option.getD_some]
  omega
theorem getS_pos {ps : List Pt} (hok : ∀ p, p ∈ ps → p.ok) {id x : Int} (h : getS ps id = some x) : 0 ≤ x := by
 unfold getS at h
 obtain ⟨p, hp, h⟩ := Option.bind_eq_some_iff.1 h
 split at h
 ·exact ((hok p (List.mem_of_find?_eq_some hp)).2.2.2.2.2 x (List.mem_of_getElem? h)).1
 ·cases h
theorem classS_bound {m : Mach} (hm : m.ok) (id : Int) : 0 ≤ classS m id ∧ classS m id < m.classes := by
 have := hm.cl
 unfold classS
 split
 ·omega
 ·split
  ·rename_i c hc
   have := getS_pos hm.pts hc
   split <;> omega
  ·omega
theorem clsS_bound {m : Mach} (hm : m.ok) (l : List Gl) (p : Int) : 0 ≤ (clsS m l p).1 ∧ (clsS m l p).1 < m.classes := by
 have := hm.cl
 unfold clsS
 split
 ·exact classS_bound hm _
 ·dsimp only; omega
theorem entS_mem {m : Mach} (hm : m.ok) (l : List Gl) (d : Drv) (h : 0 ≤ d.st ∧ d.st < m.rows.length) : entS m l d ∈ m.ents := by
 have hc := clsS_bound hm l d.pl
 obtain ⟨r, x, e, _, _, _, he, hs⟩ := stepS_some hm (s := d.st) (c := (clsS m l d.pl).1) ⟨h.1, h.2, hc.1, hc.2⟩
 unfold entS
 rw [hs]
 exact List.mem_of_getElem? he
variable {σ : Type}
def ActOk (k : Nat) (m : Mach) (H0 : Heap) (W : σ → List It) (Inv : σ → Prop) (a : Value) (f : σ → Int → En → σ × Int × Int) : Prop :=
 ∀ s i e H X, Inv s → Star H0 H (W s ++ X) → 0 ≤ i → i < 2 ^ 50 → e ∈ m.ents →
  ∃ H', callV (R (T k)) a [.int .i64 i, encE e] H = .ok (.tuple #[.int .i64 (f s i e).2.1, .int .i64 (f s i e).2.2]) H' ∧ Star H0 H' (W (f s i e).1 ++ X) ∧ Inv (f s i e).1 ∧ (f s i e).2.1 ≤ i + 128 ∧ (f s i e).2.2 ≤ i + 128
def stepD (m : Mach) (ln : σ → List Gl) (f : σ → Int → En → σ × Int × Int) (x : σ × Drv) : (σ × Drv) × Bool :=
 if (entS m (ln x.1) x.2).flags / 16384 % 2 = 1 then (((f x.1 x.2.pl (entS m (ln x.1) x.2)).1, ⟨(entS m (ln x.1) x.2).next, max (f x.1 x.2.pl (entS m (ln x.1) x.2)).2.1 0, x.2.stp + 1, x.2.rest + 1⟩), false)
 else (((f x.1 x.2.pl (entS m (ln x.1) x.2)).1, ⟨(entS m (ln x.1) x.2).next, max (f x.1 x.2.pl (entS m (ln x.1) x.2)).2.2 0, x.2.stp + 1, 0⟩), (clsS m (ln x.1) x.2.pl).2)
set_option maxHeartbeats 2000000 in
theorem driverStep_run (k : Nat) (m : Mach) (hm : m.ok) {H0 H : Heap} (W : σ → List It) (Inv : σ → Prop) (ln : σ → List Gl) (c : Nat) (hW : ∀ s, ∃ (i : Nat) (o : Option Nat), (W s)[i]? = some (itLine c o (ln s))) (a : Value) (f : σ → Int → En → σ × Int × Int) (ha : ActOk k m H0 W Inv a f)
  (X : List It) (q : Nat) (s : σ) (d : Drv) (hI : Inv s) (h : Star H0 H (W s ++ X ++ [itBlk q ⟨drvC m c d, 1, false⟩])) (hp : 0 ≤ d.pl ∧ d.pl < 2 ^ 50) (hst : 0 ≤ d.stp ∧ d.stp < 2 ^ 50) (hr : 0 ≤ d.rest ∧ d.rest < 2 ^ 50) (hse : 0 ≤ d.st ∧ d.st < m.rows.length) :
  ∃ H', R (T k) F.drive_driver_step [ptrV q, a] H = .ok (.bool (stepD m ln f (s, d)).2) H' ∧ Star H0 H' (W (stepD m ln f (s, d)).1.1 ++ X ++ [itBlk q ⟨drvC m c (stepD m ln f (s, d)).1.2, 1, false⟩]) ∧ Inv (stepD m ln f (s, d)).1.1 ∧ (stepD m ln f (s, d)).1.2.pl ≤ d.pl + 128 ∧ 0 ≤ (stepD m ln f (s, d)).1.2.st ∧ (stepD m ln f (s, d)).1.2.st < m.rows.length := by
 obtain ⟨i, o, ho⟩ := hW s
 have hq := h.memBlk (c := q) (k := ⟨drvC m c d, 1, false⟩) (by simp)
 have hline : (W s ++ X ++ [itBlk q ⟨drvC m c d, 1, false⟩])[i]? = some (itLine c o (ln s)) := by
  have h0 : i < (W s).length := (List.getElem?_eq_some_iff.1 ho).1
  rw [List.append_assoc, List.getElem?_append_left h0]
  exact ho
 have hcls := driverClass_run k m hm h i hline hq
 have hstep := fun H' => Step_run k m hm d.st (clsS m (ln s) d.pl).1 H'
 have heb := entS_bound hm (ln s) d
 have hmem := entS_mem hm (ln s) d hse
 have hnx := hm.ent _ hmem
 have hee : encEA (stepS m d.st (clsS m (ln s) d.pl).1) = encE (entS m (ln s) d) := rfl
 rw [hee] at hstep
 have hx := ha s d.pl (entS m (ln s) d)
 unfold stepD
 dsimp only
 generalize (stepS m d.st (clsS m (ln s) d.pl).1).isSome = z at hstep
 generalize (clsS m (ln s) d.pl) = cl at hcls hstep
 generalize entS m (ln s) d = e at hstep heb hx hmem hnx ⊢
 dsimp only at heb
 generalize f s d.pl e = r at hx ⊢
 have g := h.push ⟨encEn e, 1, false⟩
 rw [List.append_assoc, List.singleton_append] at g
 have hqn : ¬ q = H.n := by have := Heap.get_lt hq; omega
 obtain ⟨H2, e2, g⟩ := g.stEnd 4 (v := .int .i64 (d.stp + 1)) rfl rfl (by simp)
 simp only [List.set_cons_zero, List.set_cons_succ] at g
 have he2 := g.memBlk (c := H.n) (k := ⟨encEn e, 1, false⟩) (by simp)
 have hq2 := g.memBlk (c := q) (k := ⟨[machV m, ptrV c, .int .i64 d.st, .int .i64 d.pl, .int .i64 (d.stp + 1), .int .i64 d.rest], 1, false⟩) (by simp)
 obtain ⟨H3, e3, g⟩ := g.stEnd 2 (v := .int .i64 e.next) rfl rfl (by simp)
 simp only [List.set_cons_zero, List.set_cons_succ] at g
 have hq3 := g.memBlk (c := q) (k := ⟨[machV m, ptrV c, .int .i64 e.next, .int .i64 d.pl, .int .i64 (d.stp + 1), .int .i64 d.rest], 1, false⟩) (by simp)
 have he3 := g.memBlk (c := H.n) (k := ⟨encEn e, 1, false⟩) (by simp)
 rw [List.append_assoc] at g
 obtain ⟨H4, e4, g4, hI4, hs4, ho4⟩ := hx H3 _ hI g hp.1 hp.2 hmem
 rw [← List.append_assoc] at g4
 have hq4 := g4.memBlk (c := q) (k := ⟨[machV m, ptrV c, .int .i64 e.next, .int .i64 d.pl, .int .i64 (d.stp + 1), .int .i64 d.rest], 1, false⟩) (by simp)
 have he4 := g4.memBlk (c := H.n) (k := ⟨encEn e, 1, false⟩) (by simp)
 have han := fun H => and14 Prog 3 H heb.2.2.1 heb.2.2.2.1
 rw [List.append_assoc] at g4
 by_cases hfl : e.flags / 16384 % 2 = 1
 ·rw [if_pos hfl]
  rw [if_pos hfl] at han
  have hmx : (if 0 > r.2.1 then 0 else r.2.1) = max r.2.1 0 := by split <;> omega
  obtain ⟨H5, e5, g5⟩ := Star.stEnd (A := W r.1 ++ X) (by simpa using g4) 3 (v := .int .i64 (max r.2.1 0)) rfl rfl (by simp)
  simp only [List.set_cons_zero, List.set_cons_succ] at g5
  have hq5 := g5.memBlk (c := q) (k := ⟨[machV m, ptrV c, .int .i64 e.next, .int .i64 (max r.2.1 0), .int .i64 (d.stp + 1), .int .i64 d.rest], 1, false⟩) (by simp)
  obtain ⟨H6, e6, g6⟩ := g5.stEnd 5 (v := .int .i64 (d.rest + 1)) rfl rfl (by simp)
  simp only [List.set_cons_zero, List.set_cons_succ] at g6
  refine ⟨H6, ?_, ?_, hI4, by dsimp only; omega, hnx.1, hnx.2.1⟩
  ·rw [drive_driver_step_R]
   simp -implicitDefEqProofs (disch := omega) [-stR_ptr, drive_driver_step, hcls, hq, hqn, hstep, stR_ptr 4 H.n 0, e2, hq2, he2, e3, hq3, he3, e4, hq4, he4, han, hmx, e5, hq5, e6]
  ·have := g6.take ((W r.1 ++ X).length + 1)
   rw [take_mid] at this
   exact this
 ·rw [if_neg hfl]
  rw [if_neg hfl] at han
  have hmx : (if 0 > r.2.2 then 0 else r.2.2) = max r.2.2 0 := by split <;> omega
  obtain ⟨H5, e5, g5⟩ := Star.stEnd (A := W r.1 ++ X) (by simpa using g4) 3 (v := .int .i64 (max r.2.2 0)) rfl rfl (by simp)
  simp only [List.set_cons_zero, List.set_cons_succ] at g5
  have hq5 := g5.memBlk (c := q) (k := ⟨[machV m, ptrV c, .int .i64 e.next, .int .i64 (max r.2.2 0), .int .i64 (d.stp + 1), .int .i64 d.rest], 1, false⟩) (by simp)
  obtain ⟨H6, e6, g6⟩ := g5.stEnd 5 (v := .int .i64 0) rfl rfl (by simp)
  simp only [List.set_cons_zero, List.set_cons_succ] at g6
  refine ⟨H6, ?_, ?_, hI4, by dsimp only; omega, hnx.1, hnx.2.1⟩
  ·rw [drive_driver_step_R]
   simp -implicitDefEqProofs (disch := omega) [-stR_ptr, drive_driver_step, hcls, hq, hqn, hstep, stR_ptr 4 H.n 0, e2, hq2, he2, e3, hq3, he3, e4, hq4, he4, han, hmx, bne, e5, hq5, e6]
  ·have := g6.take ((W r.1 ++ X).length + 1)
   rw [take_mid] at this
   exact this
end Go.Sw
end
section
namespace Go.Sw
open Go.RowKit
variable {σ : Type}
def runD (m : Mach) (ln : σ → List Gl) (f : σ → Int → En → σ × Int × Int) (most : Int) : Nat → σ × Drv → Int × Int × σ
  | 0, x => (x.2.stp, 4, x.1)
  | n + 1, x => if x.2.stp < most then
      (if (stepD m ln f x).2 then ((stepD m ln f x).1.2.stp, 0, (stepD m ln f x).1.1)
       else if (stepD m ln f x).1.2.rest > 64 then ((stepD m ln f x).1.2.stp, 4, (stepD m ln f x).1.1)
       else runD m ln f most n (stepD m ln f x).1)
    else (x.2.stp, 4, x.1)
theorem stepD_stp (m : Mach) (ln : σ → List Gl) (f : σ → Int → En → σ × Int × Int) (x : σ × Drv) : (stepD m ln f x).1.2.stp = x.2.stp + 1 := by unfold stepD; split <;> rfl
theorem stepD_pl (m : Mach) (ln : σ → List Gl) (f : σ → Int → En → σ × Int × Int) (x : σ × Drv) : 0 ≤ (stepD m ln f x).1.2.pl := by unfold stepD; split <;> (dsimp only; omega)
theorem stepD_rest (m : Mach) (ln : σ → List Gl) (f : σ → Int → En → σ × Int × Int) (x : σ × Drv) (h : 0 ≤ x.2.rest) : 0 ≤ (stepD m ln f x).1.2.rest ∧ (stepD m ln f x).1.2.rest ≤ x.2.rest + 1 := by unfold stepD; split <;> (dsimp only; omega)
set_option maxHeartbeats 1000000 in
theorem driveRun_star (k : Nat) (m : Mach) (hm : m.ok) {H0 H : Heap} (W : σ → List It) (Inv : σ → Prop) (ln : σ → List Gl) (c : Nat) (hW : ∀ s, ∃ (i : Nat) (o : Option Nat), (W s)[i]? = some (itLine c o (ln s))) (a : Value) (f : σ → Int → En → σ × Int × Int) (ha : ActOk k m H0 W Inv a f)
  (X : List It) (s : σ) (hI : Inv s) (h : Star H0 H (W s ++ X)) (hl : (ln s).length < 2 ^ 40) :
  ∃ H', R (T k) F.drive_Run [machV m, ptrV c, a] H = .ok (.tuple #[.int .i64 (runD m ln f (2 * (ln s).length + 128) (2 * (ln s).length + 128) (s, ⟨0, 0, 0, 0⟩)).1, .int .i64 (runD m ln f (2 * (ln s).length + 128) (2 * (ln s).length + 128) (s, ⟨0, 0, 0, 0⟩)).2.1]) H' ∧
   Star H0 H' (W (runD m ln f (2 * (ln s).length + 128) (2 * (ln s).length + 128) (s, ⟨0, 0, 0, 0⟩)).2.2 ++ X) ∧ Inv (runD m ln f (2 * (ln s).length + 128) (2 * (ln s).length + 128) (s, ⟨0, 0, 0, 0⟩)).2.2 := by
 rw [drive_Run_R]
 obtain ⟨N, hN⟩ : ∃ N, N = 2 * (ln s).length + 128 := ⟨_, rfl⟩
 have hNi : (2 * ((ln s).length : Int) + 128) = (N : Int) := by omega
 obtain ⟨x0, hx0⟩ : ∃ x0 : σ × Drv, x0 = (s, ⟨0, 0, 0, 0⟩) := ⟨_, rfl⟩
 rw [← hN, hNi, ← hx0]
 generalize hR0 : runD m ln f (N : Int) N x0 = R0
 have g := h.push ⟨drvC m c ⟨0, 0, 0, 0⟩, 1, false⟩
 obtain ⟨i, o, ho⟩ := hW s
 have hline : (W s ++ X ++ [itBlk H.n ⟨drvC m c ⟨0, 0, 0, 0⟩, 1, false⟩])[i]? = some (itLine c o (ln s)) := by
  have h0 : i < (W s).length := (List.getElem?_eq_some_iff.1 ho).1
  rw [List.append_assoc, List.getElem?_append_left h0]
  exact ho
 have hlen := lineLen_run k g i hline
 obtain ⟨e, eE, H1, hr1, hQ⟩ := loop_up (body := drive_Run_l1 k (R (T k))) N
  (fun j e H' => e = [(2, a), (8, ptrV H.n), (9, .int .i64 N)] ∧ ∃ x : σ × Drv, Star H0 H' (W x.1 ++ X ++ [itBlk H.n ⟨drvC m c x.2, 1, false⟩]) ∧ Inv x.1 ∧ x.2.stp = j ∧ 0 ≤ x.2.pl ∧ x.2.pl ≤ 128 * j ∧ 0 ≤ x.2.rest ∧ x.2.rest ≤ j ∧ (0 ≤ x.2.st ∧ x.2.st < m.rows.length) ∧ runD m ln f N (N - j) x = R0)
  (fun x' e H' => ∃ r : Int × Int × σ, r = R0 ∧ ∃ d : Drv, Star H0 H' (W r.2.2 ++ X ++ [itBlk H.n ⟨drvC m c d, 1, false⟩]) ∧ Inv r.2.2 ∧
   ((x' = .ret ∧ e = [(6, .int .i64 r.1), (7, .int .i64 0)] ∧ r.2.1 = 0) ∨ (x' = .exit 0 ∧ d.stp = r.1 ∧ r.2.1 = 4 ∧ (e = [(2, a), (8, ptrV H.n), (9, .int .i64 N), (35, .bool true)] ∨ e = [(2, a), (8, ptrV H.n), (9, .int .i64 N), (23, .bool false)]))))
  (e0 := [(2, a), (8, ptrV H.n), (9, .int .i64 N)]) (H0 := H.push ⟨drvC m c ⟨0, 0, 0, 0⟩, 1, false⟩)
  ⟨rfl, x0, by rw [hx0]; exact g, by rw [hx0]; exact hI, by rw [hx0]; rfl, by rw [hx0]; exact Int.le_refl _, by rw [hx0]; exact Int.le_refl _, by rw [hx0]; exact Int.le_refl _, by rw [hx0]; exact Int.le_refl _, by rw [hx0]; have := hm.two; dsimp only; omega, by rw [Nat.sub_zero]; exact hR0⟩ (by omega)
  (fun j e H' hj ⟨he, x, g, hI, h1, h2, h3, h4, h5, hse, hrun⟩ => by
   subst he
   obtain ⟨H2, e2, g2, hI2, h6, h7⟩ := driverStep_run k m hm W Inv ln c hW a f ha X H.n x.1 x.2 hI g (by omega) (by omega) (by omega) hse
   have hq := g.memBlk (c := H.n) (k := ⟨drvC m c x.2, 1, false⟩) (by simp)
   have p1 := stepD_stp m ln f x
   have p2 := stepD_pl m ln f x
   have p3 := stepD_rest m ln f x h4
   have hlt : x.2.stp < (N : Int) := by omega
   have hNj : N - j = (N - (j + 1)) + 1 := by omega
   rw [hNj] at hrun
   unfold runD at hrun
   rw [if_pos hlt] at hrun
   have hxx : (x.1, x.2) = x := rfl
   rw [hxx] at e2 g2 hI2 h6 h7
   generalize stepD m ln f x = y at *
   have hq2 := g2.memBlk (c := H.n) (k := ⟨drvC m c y.1.2, 1, false⟩) (by simp)
   cases hy : y.2 with
   | true =>
    rw [hy] at hrun e2
    simp only [if_true] at hrun
    refine .inr ⟨.ret, _, H2, ?_, by simp, _, hrun, y.1.2, g2, hI2, .inl ⟨rfl, rfl, rfl⟩⟩
    rw [drive_Run_l1_eq]
    simp -implicitDefEqProofs (disch := omega) [hq, hlt, e2, hq2]
   | false =>
    rw [hy] at hrun e2
    simp only [Bool.false_eq_true, if_false] at hrun
    by_cases hr : y.1.2.rest > 64
    ·rw [if_pos hr] at hrun
     refine .inr ⟨.exit 0, _, H2, ?_, by simp, _, hrun, y.1.2, g2, hI2, .inr ⟨rfl, rfl, rfl, .inl rfl⟩⟩
     rw [drive_Run_l1_eq]
     simp -implicitDefEqProofs (disch := omega) [hq, hlt, e2, hq2, hr]
    ·rw [if_neg hr] at hrun
     refine .inl ⟨_, H2, ?_, rfl, y.1, g2, hI2, by omega, p2, by omega, p3.1, by omega, h7, hrun⟩
     rw [drive_Run_l1_eq]
     simp -implicitDefEqProofs (disch := omega) [hq, hlt, e2, hq2, hr])
  (fun e H' ⟨he, x, g, hI, h1, h2, h3, h4, h5, hse, hrun⟩ => by
   subst he
   rw [Nat.sub_self] at hrun
   have hq := g.memBlk (c := H.n) (k := ⟨drvC m c x.2, 1, false⟩) (by simp)
   refine ⟨.exit 0, _, H', ?_, by simp, _, hrun, x.2, g, hI, .inr ⟨rfl, rfl, rfl, .inr rfl⟩⟩
   have hnl : ¬ x.2.stp < (N : Int) := by omega
   rw [drive_Run_l1_eq]
   simp -implicitDefEqProofs (disch := omega) [hq, hnl])
 obtain ⟨r, hr, d, g, hIr, hcase⟩ := hQ
 subst hr
 have hq := g.memBlk (c := H.n) (k := ⟨drvC m c d, 1, false⟩) (by simp)
 have gX : Star H0 H1 (W r.2.2 ++ X) := g.drop_last
 refine ⟨H1, ?_, gX, hIr⟩
 rcases hcase with ⟨rfl, rfl, hc⟩ | ⟨rfl, hd, hc, rfl | rfl⟩
 ·rw [hc]
  simp -implicitDefEqProofs (disch := omega) [drive_Run, hlen, hNi, hr1, drive_Run_l1k_r]
 ·rw [hc]
  simp -implicitDefEqProofs (disch := omega) [drive_Run, hlen, hNi, hr1, drive_Run_l1k_x0, hq, hd]
 ·rw [hc]
  simp -implicitDefEqProofs (disch := omega) [drive_Run, hlen, hNi, hr1, drive_Run_l1k_x0_1, hq, hd]
end Go.Sw
end
section
set_option maxRecDepth 100000
set_option linter.unusedVariables false
namespace Go.Sw
noncomputable section
end
end Go.Sw
end
section
namespace Go.Sw
open Go.RowKit
end Go.Sw
end
section
namespace Go.Sw
open Go.RowKit
end Go.Sw
end
section
namespace Go.Sw
theorem row_I {r : List Da} {cs : List Value} (h : LayRow [.int .i64] r cs) : ∃ n : Int, cs = encI n ∧ (Lit.int .i64 n).wf = true := by
 obtain ⟨d, v, ds, vs, rfl, h1, h2⟩ := h.head
 obtain rfl := h2.done
 obtain ⟨n, rfl, w⟩ := h1.intv
 exact ⟨n, rfl, w⟩
theorem wf_u8 {n : Int} (h : (Lit.int .u8 n).wf = true) : 0 ≤ n ∧ n < 256 := by
 simp [Lit.wf, IntKind.min, IntKind.max, IntKind.signed, IntKind.bits] at h
 omega
theorem row_B {r : List Da} {cs : List Value} (h : LayRow [.int .u8] r cs) : ∃ n : Int, cs = encB n ∧ (0 ≤ n ∧ n < 256) := by
 obtain ⟨d, v, ds, vs, rfl, h1, h2⟩ := h.head
 obtain rfl := h2.done
 obtain ⟨n, rfl, w⟩ := h1.intv
 exact ⟨n, rfl, wf_u8 w⟩
theorem arg_B {v : Value} (h : ArgLay (.one (.slice [.int .u8])) v) : ∃ b, v = lv encB b ∧ Byt b := by
 obtain ⟨d, h1⟩ := h.cell
 obtain ⟨b, rfl, hb⟩ := Lay.list (enc := encB) (ok := fun n => 0 ≤ n ∧ n < 256) (fun r cs h => row_B h) h1
 exact ⟨b, rfl, hb⟩
theorem arg_I {v : Value} (h : ArgLay (.one (.slice [.int .i64])) v) : ∃ l, v = lv encI l ∧ ∀ n, n ∈ l → (Lit.int .i64 n).wf = true := by
 obtain ⟨d, h1⟩ := h.cell
 exact Lay.list (enc := encI) (ok := fun n => (Lit.int .i64 n).wf = true) (fun r cs h => row_I h) h1
end Go.Sw
end
section
namespace Go.Sw
open Go.RowKit
end Go.Sw
end
section
namespace Go.Sw
open Go.RowKit
theorem planRoom_byt {p : Plan} (hp : p.ok) (w : Int) {rm : List Int} (hrm : Byt rm) : Byt (planRoom p w rm) := by
 have tw : ∀ l, Byt (twos l) := fun l => Byt.flat fun r hr => by obtain ⟨c, _, rfl⟩ := List.mem_map.1 hr; exact bytesOf_byt _ _
 unfold planRoom
 refine (bytesOf_byt _ _).app ((bytesOf_byt _ _).app ((bytesOf_byt _ _).app ((bytesOf_byt _ _).app (hrm.app (Byt.app ?_ (Byt.app ?_ ?_))))))
 ·unfold ofS
  exact (((bytesOf_byt _ _).app (bytesOf_byt _ _)).app (bytesOf_byt _ _)).app (tw _)
 ·exact Byt.flat fun r hr => by obtain ⟨c, _, rfl⟩ := List.mem_map.1 hr; exact tw _
 ·refine Byt.flat fun r hr => ?_
  obtain ⟨e, _, rfl⟩ := List.mem_map.1 hr
  unfold entB
  refine (((bytesOf_byt _ _).app (bytesOf_byt _ _)).app ?_).app ?_
  ·split
   ·exact bytesOf_byt _ _
   ·exact Byt.nil
  ·split
   ·exact bytesOf_byt _ _
   ·exact Byt.nil
theorem planRoom_len {p : Plan} (hp : p.ok) (w : Int) {rm : List Int} (hrm : rm.length ≤ 1000) (h1 : p.cls.length ≤ 1000) (h2 : p.rows.length ≤ 1000) (h3 : p.ents.length ≤ 1000) : (planRoom p w rm).length ≤ 100000 := by
 have hN := planN_eq p hp.2.2
 have hofl : (ofS p.cls).length = 6 + p.cls.length * 2 := by unfold ofS; simp [twos_len]; omega
 have hrl : (rowsL (planN p) p.rows).length ≤ 1000 * 22 := by rw [rowsL_len]; exact Nat.mul_le_mul h2 (by omega)
 have hel := entsB_len w p.ents
 unfold planRoom
 simp
 omega
theorem row_En {r : List Da} {cs : List Value} (h : LayRow [.int .i64, .int .i64, .int .i64, .int .i64] r cs) : ∃ p : En, cs = encEn p ∧ True := by
 obtain ⟨_, v1, _, _, rfl, h1, h⟩ := h.head
 obtain ⟨_, v2, _, _, rfl, h2, h⟩ := h.head
 obtain ⟨_, v3, _, _, rfl, h3, h⟩ := h.head
 obtain ⟨_, v4, _, _, rfl, h4, h⟩ := h.head
 obtain rfl := h.done
 obtain ⟨a, rfl, _⟩ := h1.intv
 obtain ⟨b, rfl, _⟩ := h2.intv
 obtain ⟨c, rfl, _⟩ := h3.intv
 obtain ⟨d, rfl, _⟩ := h4.intv
 exact ⟨⟨a, b, c, d⟩, rfl, trivial⟩
theorem row_BR {r : List Da} {cs : List Value} (h : LayRow [.slice [.int .u8]] r cs) : ∃ b : List Int, cs = encBR b ∧ Byt b := by
 obtain ⟨_, v1, _, _, rfl, h1, h⟩ := h.head
 obtain rfl := h.done
 obtain ⟨b, rfl, hb⟩ := Lay.list (enc := encB) (ok := fun n => 0 ≤ n ∧ n < 256) (fun r cs h => row_B h) h1
 exact ⟨b, rfl, hb⟩
end Go.Sw
end
section
namespace Go.Sw
open Go.RowKit
variable {σ : Type}
def DoOk (k : Nat) (m : Mach) (H0 : Heap) (W : σ → List It) (Inv : σ → Prop) (a : Value) (g : σ → Int → En → σ) : Prop :=
 ∀ s i e H X, Inv s → Star H0 H (W s ++ X) → 0 ≤ i → i < 2 ^ 50 → e ∈ m.ents →
  ∃ v H', callV (R (T k)) a [.int .i64 i, encE e] H = .ok v H' ∧ Star H0 H' (W (g s i e) ++ X) ∧ Inv (g s i e)
theorem plain_ok (k : Nat) {m : Mach} {H0 : Heap} {W : σ → List It} {Inv : σ → Prop} {a : Value} {g : σ → Int → En → σ} (h : DoOk k m H0 W Inv a g) (p : Nat) :
  ActOk k m H0 (fun s => W s ++ [itBlk p ⟨[a], 1, false⟩]) Inv (.func (.func F.drive_Plain_in1) #[] #[ptrV p]) (fun s i e => (g s i e, i, i + 1)) := by
 intro s i e H X hI st h0 h1 he
 have st2 := st.push ⟨encEn e, 1, false⟩
 have hp := st2.memBlk (c := p) (k := ⟨[a], 1, false⟩) (by simp)
 have hpn : ¬ p = H.n := by have := Heap.get_lt (st.memBlk (c := p) (k := ⟨[a], 1, false⟩) (by simp)); omega
 obtain ⟨v, H', e1, st3, hI2⟩ := h s i e (H.push ⟨encEn e, 1, false⟩) ([itBlk p ⟨[a], 1, false⟩] ++ X ++ [itBlk H.n ⟨encEn e, 1, false⟩]) hI (by simpa [List.append_assoc] using st2) h0 h1 he
 have st4 : Star H0 H' (W (g s i e) ++ [itBlk p ⟨[a], 1, false⟩] ++ X) := by
  have : W (g s i e) ++ ([itBlk p ⟨[a], 1, false⟩] ++ X ++ [itBlk H.n ⟨encEn e, 1, false⟩]) = (W (g s i e) ++ [itBlk p ⟨[a], 1, false⟩] ++ X) ++ [itBlk H.n ⟨encEn e, 1, false⟩] := by simp
  rw [this] at st3
  exact st3.drop_last
 refine ⟨H', ?_, st4, hI2, by dsimp only; omega, by dsimp only; omega⟩
 simp only [callV, List.nil_append, List.cons_append]
 rw [drive_Plain_in1_R, nrm_of]
 simp -implicitDefEqProofs (disch := omega) [drive_Plain_in1, hp, hpn, e1]
end Go.Sw
end
section
namespace Go.Sw
open Go.RowKit Go.Proofs
set_option maxRecDepth 20000 in
theorem catch_short (p : Addr) (b : Bool) (w : World) (hc : (w.alloc (.cells #[] 200)).cell? p = some (.bool b)) (hz : (w.alloc (.cells #[] 200)).frozen? p = false) :
  CallsD Prog 105 #[.pointer (some p)] (.panicking [{ v := .iface 200 (.agg #[]), recovered := false }]) w fun e u' w' =>
   e = .returned (.tuple #[]) ∧ u' = .panicking [{ v := .iface 200 (.agg #[]), recovered := true }] ∧ w' = (w.alloc (.cells #[] 200)).setCell p (.bool false) := by
 refine callsD_of_wpS Try.func105 rfl fun c₀ cs hu => ?_
 apply wpS_seq
 apply wpS_region
 simp [wpOpsS, go_sem, recoverD, hu, Try.ntmps105, Exit.thenS]
 have hta : ∀ w, (Instr.typeAssert (.iface 200 (.agg #[])) 20 200 true).run Prog w = .ok (.tuple #[.agg #[], .bool true]) w := fun w => by kernel_rfl
 refine wpS_of_wp ?_
 go_wp2
 cases c₀
 simp_all [bodyPostS, results, Try.results105]
theorem catch_idle (p : Addr) (w : World) :
  CallsD Prog 105 #[.pointer (some p)] .returning w fun e u' w' => e = .returned (.tuple #[]) ∧ u' = .returning ∧ w' = w := by
 refine callsD_of_wpS Try.func105 rfl fun c₀ cs hu => ?_
 apply wpS_seq
 apply wpS_region
 simp [wpOpsS, go_sem, recoverD, hu, Try.ntmps105, Exit.thenS]
 refine wpS_of_wp ?_
 go_wp2
 cases c₀
 simp_all [bodyPostS, results, Try.results105]
set_option maxRecDepth 20000 in
theorem try_walk (g : FuncId) (first cap : Array Value) (w : World) (R : Ending → World → Prop)
  (hcf : (callFunc g (first ++ cap)).run Prog (w.alloc (.cells #[.bool false] 4)) = .ok (.enter g (first ++ cap)) (w.alloc (.cells #[.bool false] 4)))
  (hcall : Calls Prog g (first ++ cap) (w.alloc (.cells #[.bool false] 4)) fun e w' => match e with
   | .returned _ => w'.heap[w.heap.size]? = some (.cells #[.bool false] 4 (0, 0)) ∧ R (.returned (.bool true)) (w'.setCell ⟨w.heap.size, 0, none⟩ (.bool true))
   | .panicked chain => chain = [{ v := .iface 200 (.agg #[]), recovered := false }] ∧ w'.heap[w.heap.size]? = some (.cells #[.bool false] 4 (0, 0)) ∧ R (.returned (.bool false)) ((w'.alloc (.cells #[] 200)).setCell ⟨w.heap.size, 0, none⟩ (.bool false))
   | .outgrown => False) :
  Calls Prog 35 #[.func (.func g) first cap] w R := by
 have hmf : ∀ (fn : Fn) (first cap : Array Value) (w : World), (Instr.makeFunc fn first cap).run Prog w = .ok (.func fn first cap) w := fun _ _ _ _ => rfl
 go_enter_defers Try.func35, Try.ntmps35
 go_wp2
 rename_i K2 hK2 K1 hK1
 refine hcall.mono fun e w' he => ?_
 cases e with
 | returned v =>
  obtain ⟨h1, h2⟩ := he
  have hc : w'.cell? ⟨w.heap.size, 0, none⟩ = some (.bool false) := by simp [World.cell?, h1]
  have hz : w'.frozen? ⟨w.heap.size, 0, none⟩ = false := by simp [World.frozen?, h1]
  apply hK1
  apply hK2
  go_wp2
  have hc2 : (w'.setCell ⟨w.heap.size, 0, none⟩ (.bool true)).cell? ⟨w.heap.size, 0, none⟩ = some (.bool true) := World.cell?_setCell_same _ _ _ hc
  refine leaves_cons (f := 105) (args := #[.pointer (some ⟨w.heap.size, 0, none⟩)]) (by simp) (by simp [go_sem]) ?_
  refine (catch_idle ⟨w.heap.size, 0, none⟩ _).mono ?_
  rintro e u' w'' ⟨rfl, rfl, rfl⟩
  simp [Leaves, settle, results, Try.results35, go_sem, hc2]
  exact h2
 | panicked chain =>
  obtain ⟨h0, h1, h2⟩ := he
  subst h0
  have hlt : w.heap.size < w'.heap.size := by
   rcases Nat.lt_or_ge w.heap.size w'.heap.size with h | h
   ·exact h
   ·rw [Array.getElem?_eq_none h] at h1; cases h1
  have h3 : (w'.alloc (.cells #[] 200)).heap[w.heap.size]? = some (.cells #[.bool false] 4 (0, 0)) := by
   rw [heap_alloc_lt _ _ _ hlt]; exact h1
  have hc : (w'.alloc (.cells #[] 200)).cell? ⟨w.heap.size, 0, none⟩ = some (.bool false) := by simp only [World.cell?, h3]; rfl
  have hz : (w'.alloc (.cells #[] 200)).frozen? ⟨w.heap.size, 0, none⟩ = false := by simp [World.frozen?, h3]
  have hc2 : ((w'.alloc (.cells #[] 200)).setCell ⟨w.heap.size, 0, none⟩ (.bool false)).cell? ⟨w.heap.size, 0, none⟩ = some (.bool false) := World.cell?_setCell_same _ _ _ hc
  show Leaves _ _ _ _ _ _ _
  refine leaves_cons (f := 105) (args := #[.pointer (some ⟨w.heap.size, 0, none⟩)]) (by simp) (by simp [go_sem]) ?_
  refine (catch_short ⟨w.heap.size, 0, none⟩ false _ hc hz).mono ?_
  rintro e u' w'' ⟨rfl, rfl, rfl⟩
  simp [Leaves, settle, results, Try.results35, go_sem, hc2]
  exact h2
 | outgrown => exact he.elim
theorem try_is : SpIs Prog 35 (tryV 200) := try_of (bt := 4) Try.func35 rfl (by kernel_rfl) try_walk
end Go.Sw
end
section
namespace Go.Sw
open Go.RowKit
structure CTab.ok (t : CTab) : Prop where
 m : t.m.ok
 subs : ∀ x, x ∈ t.subs → (∀ p, p ∈ x.2 → p.ok) ∧ risesS x.2 = true ∧ x.2.length < 2 ^ 31
 has : ∀ e, e ∈ t.m.ents → (e.a = 65535 ∨ e.a < t.subs.length) ∧ (e.b = 65535 ∨ e.b < t.subs.length)
end Go.Sw
end
section
namespace Go.Sw
open Go.RowKit
end Go.Sw
end
section
namespace Go.Sw
open Go.RowKit
variable {σ : Type}
theorem runD_inv (m : Mach) (hm : m.ok) (ln : σ → List Gl) (f : σ → Int → En → σ × Int × Int) (P : σ → Prop) (hf : ∀ s i e, P s → 0 ≤ i → e ∈ m.ents → P (f s i e).1) (most : Int) :
  ∀ (n : Nat) (x : σ × Drv), P x.1 → 0 ≤ x.2.pl → 0 ≤ x.2.st → x.2.st < m.rows.length → P (runD m ln f most n x).2.2
 | 0, x, h, _, _, _ => h
 | n + 1, x, h, hp, h0, h1 => by
  have hmem := entS_mem hm (ln x.1) x.2 ⟨h0, h1⟩
  have hent := hm.ent _ hmem
  have hP : P (stepD m ln f x).1.1 := by unfold stepD; split <;> exact hf _ _ _ h hp hmem
  have hst : 0 ≤ (stepD m ln f x).1.2.st ∧ (stepD m ln f x).1.2.st < m.rows.length := by unfold stepD; split <;> exact ⟨hent.1, hent.2.1⟩
  have hpl := stepD_pl m ln f x
  unfold runD
  split
  ·split
   ·exact hP
   ·split
    ·exact hP
    ·exact runD_inv m hm ln f P hf most n _ hP hpl hst.1 hst.2
  ·exact h
end Go.Sw
end
section
namespace Go.Sw
open Go.RowKit
theorem planRoom_size (p : Plan) (w : Int) (rm rm' : List Int) (h : rm.length = rm'.length) : (planRoom p w rm).length = (planRoom p w rm').length := by
 unfold planRoom
 simp [h]
end Go.Sw
end
section
namespace Go.Sw
open Go.RowKit
theorem room_split (p : Plan) (w : Int) (n : Nat) : ∃ hd tl : List Int, hd.length = 16 ∧ ∀ rm : List Int, rm.length = n → planRoom p w rm = hd ++ (rm ++ tl) := by
 refine ⟨bytesOf (planN p : Int) 4 ++ (bytesOf (16 + n : Int) 4 ++ (bytesOf (16 + n + (ofS p.cls).length : Int) 4 ++ bytesOf (16 + n + (ofS p.cls).length + (rowsL (planN p) p.rows).length : Int) 4)), ofS p.cls ++ (rowsL (planN p) p.rows ++ entsB w p.ents), by simp, fun rm h => ?_⟩
 unfold planRoom
 rw [h]
 simp only [List.append_assoc]
theorem twos_byt (l : List Int) : Byt (twos l) := Byt.flat fun r hr => by
 obtain ⟨x, _, rfl⟩ := List.mem_map.1 hr
 exact bytesOf_byt _ _
def roomB (p : Plan) (w : Int) (hi : Int) (l : List Int) : List Int := planRoom p w (bytesOf (hi + (planRoom p w (List.replicate 4 0)).length : Int) 4) ++ twos l
theorem room4_size (p : Plan) (w n : Int) : (planRoom p w (bytesOf n 4)).length = (planRoom p w (List.replicate 4 0)).length := planRoom_size p w _ _ (by simp)
theorem roomB_byt {p : Plan} (hp : p.ok) (w hi : Int) (l : List Int) : Byt (roomB p w hi l) := (planRoom_byt hp w (bytesOf_byt _ _)).app (twos_byt l)
theorem roomB_len {p : Plan} (hp : p.ok) (w hi : Int) {l : List Int} (h1 : p.cls.length ≤ 1000) (h2 : p.rows.length ≤ 1000) (h3 : p.ents.length ≤ 1000) (h4 : l.length ≤ 1000) : (roomB p w hi l).length ≤ 102000 := by
 have := planRoom_len hp w (rm := List.replicate 4 0) (by simp) h1 h2 h3
 unfold roomB
 rw [List.length_append, room4_size, twos_len]
 omega
end Go.Sw
end
section
set_option maxRecDepth 100000
set_option linter.unusedVariables false
namespace Go.Sw
noncomputable section
def swashlaw23_StackTakes (k : Nat) (call : Caller) (a0 a1 : Value) (h : Heap) : Res Value :=
 (boxR a0 h).bind fun v1 h2 =>
 (call F.swashlaw23_speaks [] h2).bind fun v3 h4 =>
 (unR .not v3 h4).bind fun v5 h6 =>
 condV (some v5) (
 .ok (.bool false) h6)
 (
 (loadR Prog 22 v1 h6).bind fun v7 h8 =>
 (builtinV Prog .len [22] [v7] h8).bind fun v9 h10 =>
 (binR Prog .gtr 3 v9 (.int .i64 800) h10).bind fun v11 h12 =>
 ((bif wantVal v11 false then Res.ok a1 h12 else Res.ok undef h12)).bind fun v13 h14 =>
 ((bif wantVal v11 false then builtinV Prog .len [27] [v13] h14 else Res.ok undef h14)).bind fun v15 h16 =>
 ((bif wantVal v11 false then binR Prog .gtr 3 v15 (.int .i64 40) h16 else Res.ok undef h16)).bind fun v17 h18 =>
 (condV (some v11) (Res.ok (.bool true) h18) (Res.ok v17 h18)).bind fun v19 h20 =>
 condV (some v19) (
 .ok (.bool true) h20)
 (
 (allocR Prog 72 h20).bind fun v21 h22 =>
 (call F.view_Try [(.func (.func F.swashlaw23_StackTakes_in1) #[] #[v1, v21])] h22).bind fun v23 h24 =>
 (loadR Prog 22 v1 h24).bind fun v25 h26 =>
 (call F.stack_Read [v25, (.int .i64 40)] h26).bind fun v27 h28 =>
 (extractR v27 0 h28).bind fun v29 h30 =>
 (extractR v27 1 h30).bind fun v31 h32 =>
 (binR Prog .eql 34 v31 (.int .i64 0) h32).bind fun v33 h34 =>
 (binR Prog .neq 4 v23 v33 h34).bind fun v35 h36 =>
 ((bif wantVal v35 false then Res.ok v23 h36 else Res.ok undef h36)).bind fun v37 h38 =>
 ((bif wantVal v35 false then loadR Prog 72 v21 h38 else Res.ok undef h38)).bind fun v39 h40 =>
 ((bif wantVal v35 false then binR Prog .neq 72 v39 (.pointer none) h40 else Res.ok undef h40)).bind fun v41 h42 =>
 ((bif wantVal v35 false then binR Prog .neq 4 v37 v41 h42 else Res.ok undef h42)).bind fun v43 h44 =>
 (condV (some v35) (Res.ok (.bool true) h44) (Res.ok v43 h44)).bind fun v45 h46 =>
 ((bif wantVal v45 false then Res.ok v23 h46 else Res.ok undef h46)).bind fun v47 h48 =>
 ((bif wantVal v45 false then Res.ok v29 h48 else Res.ok undef h48)).bind fun v49 h50 =>
 ((bif wantVal v45 false then binR Prog .neq 72 v49 (.pointer none) h50 else Res.ok undef h50)).bind fun v51 h52 =>
 ((bif wantVal v45 false then binR Prog .neq 4 v47 v51 h52 else Res.ok undef h52)).bind fun v53 h54 =>
 (condV (some v45) (Res.ok (.bool true) h54) (Res.ok v53 h54)).bind fun v55 h56 =>
 condV (some v55) (
 .ok (.bool false) h56)
 (
 (unR .not v23 h56).bind fun v57 h58 =>
 condV (some v57) (
 .ok (.bool true) h58)
 (
 (builtinV Prog .len [27] [a1] h58).bind fun v59 h60 =>
 (makeSliceV Prog 27 v59 v59 h60).bind fun v61 h62 =>
 (call F.place_New [(.int .i64 0), v61] h62).bind fun v63 h64 =>
 (call F.place_New [(.int .i64 0), v61] h64).bind fun v65 h66 =>
 (loadR Prog 72 v21 h66).bindN fun v67 h68 =>
 (call F.line_New [a1] h68).bindT (fun p71 h72 => .panic p71 h72) fun v69 h70 =>
 (call F.stack_Table_Run [v67, v69, v63, (.bool true)] h70).bindT (fun p75 h76 => chkR ((okVal (loadR Prog 72 v21 h70) v67 && true) && true) (.panic p75 h76)) fun v73 h74 =>
 (call F.line_New [a1] h74).bindT (fun p79 h80 => chkR ((okVal (loadR Prog 72 v21 h70) v67 && true) && true) (.panic p79 h80)) fun v77 h78 =>
 (call F.stack_Table_Run [v29, v77, v65, (.bool true)] h78).bindT (fun p83 h84 => chkR ((okVal (loadR Prog 72 v21 h70) v67 && true) && true) (.panic p83 h84)) fun v81 h82 =>
 (binR Prog .eql 34 v73 v81 h82).bindN fun v85 h86 =>
 ((bif wantVal v85 true then Res.ok v63 h86 else Res.ok undef h86)).bindN fun v87 h88 =>
 ((bif wantVal v85 true then call F.place_Places_All [v87] h88 else Res.ok undef h88)).bindT (fun p91 h92 => ((bif wantVal v85 true then Res.ok v65 h88 else Res.ok undef h88)).bindN fun v93 h94 => chkR ((okVal (loadR Prog 72 v21 h70) v67 && true) && true) (.panic p91 h92)) fun v89 h90 =>
 ((bif wantVal v85 true then Res.ok v65 h90 else Res.ok undef h90)).bindN fun v95 h96 =>
 ((bif wantVal v85 true then call F.place_Places_All [v95] h96 else Res.ok undef h96)).bindT (fun p99 h100 => chkR ((okVal (loadR Prog 72 v21 h70) v67 && true) && true) (.panic p99 h100)) fun v97 h98 =>
 ((bif wantVal v85 true then call F.swashref21_Same [v89, v97] h98 else Res.ok undef h98)).bindT (fun p103 h104 => chkR ((okVal (loadR Prog 72 v21 h70) v67 && true) && true) (.panic p103 h104)) fun v101 h102 =>
 (condV (some v85) (Res.ok v101 h102) (Res.ok (.bool false) h102)).bindN fun v105 h106 =>
 chkR ((okVal (loadR Prog 72 v21 h70) v67 && true) && true) (
 .ok v105 h106)))))
theorem swashlaw23_StackTakes_R (k : Nat) (a0 a1 : Value) (h : Heap) : R (T k) F.swashlaw23_StackTakes [a0, a1] h = nrm .gc h (swashlaw23_StackTakes k (R (T k)) a0 a1 h) :=
 (R_body (t := T k) (T_scott k) (by kernel_rfl) (by kernel_rfl) _ _).trans (by kernel_rfl)
def swashlaw23_StackSides_l1 (k : Nat) (call : Caller) : Env → Heap → Res (AExit × Env) := loopB (C k) call F.swashlaw23_StackSides [1, 1, 1, 1, 1, 1, 1, 0, 1, 0, 0]
def swashlaw23_StackSides_l1k (k : Nat) (call : Caller) : Kont Value := kBlock 0 (kSeq (pieceK (C k) call F.swashlaw23_StackSides [1, 1, 1, 1, 1, 1, 1, 1]) (kDone Prog (resOf Prog F.swashlaw23_StackSides)))
def swashlaw23_StackSides (k : Nat) (call : Caller) (a0 a1 a2 : Value) (h : Heap) : Res Value :=
 (boxR a0 h).bind fun v1 h2 =>
 (boxR a2 h2).bind fun v3 h4 =>
 (call F.swashlaw23_speaks [] h4).bind fun v5 h6 =>
 (unR .not v5 h6).bind fun v7 h8 =>
 condV (some v7) (
 .ok (.bool false) h8)
 (
 (loadR Prog 87 v1 h8).bind fun v9 h10 =>
 (call F.swashlaw23_small [v9, a1] h10).bind fun v11 h12 =>
 (unR .not v11 h12).bind fun v13 h14 =>
 condV (some v13) (
 .ok (.bool true) h14)
 (
 (loadR Prog 87 v1 h14).bind fun v15 h16 =>
 (call F.swashlaw23_Write [v15] h16).bind fun v17 h18 =>
 (call F.stack_Read [v17, (.int .i64 40)] h18).bind fun v19 h20 =>
 (extractR v19 0 h20).bind fun v21 h22 =>
 (extractR v19 1 h22).bind fun v23 h24 =>
 (binR Prog .eql 72 v21 (.pointer none) h24).bind fun v25 h26 =>
 condV (some v25) (
 .ok (.bool true) h26)
 (
 (fieldAddrR Prog 95 v3 0 h26).bindN fun v27 h28 =>
 (loadR Prog 3 v27 h28).bindN fun v29 h30 =>
 (call F.swashlaw23_advances [a1] h30).bindT (fun p33 h34 => .panic p33 h34) fun v31 h32 =>
 (call F.place_New [v29, v31] h32).bindT (fun p37 h38 => chkR ((okVal (loadR Prog 3 v27 h32) v29 && true) && true) (.panic p37 h38)) fun v35 h36 =>
 chkR ((okVal (loadR Prog 3 v27 h32) v29 && true) && true) (
 (call F.line_New [a1] h36).bindT (fun p41 h42 => (fieldAddrR Prog 95 v3 1 h36).bindN fun v43 h44 => (loadR Prog 4 v43 h44).bindN fun v45 h46 => chkR ((okVal (loadR Prog 4 v43 h36) v45 && true) && true) (.panic p41 h42)) fun v39 h40 =>
 (fieldAddrR Prog 95 v3 1 h40).bindN fun v47 h48 =>
 (loadR Prog 4 v47 h48).bindN fun v49 h50 =>
 (call F.stack_Table_Run [v21, v39, v35, v49] h50).bindT (fun p53 h54 => chkR ((okVal (loadR Prog 4 v47 h36) v49 && true) && true) (.panic p53 h54)) fun v51 h52 =>
 chkR ((okVal (loadR Prog 4 v47 h36) v49 && true) && true) (
 (call F.place_Places_All [v35] h52).bind fun v55 h56 =>
 (builtinV Prog .len [70] [v55] h56).bind fun v57 h58 =>
 (loopN (swashlaw23_StackSides_l1 k call) loopFuel [(1, a1), (5, v3), (9, v35), (39, v55), (40, v57), (41, (.int .i64 0))] h58).bind fun r59 h60 =>
 swashlaw23_StackSides_l1k k call r59.1 r59.2 h60)))))
theorem swashlaw23_StackSides_R (k : Nat) (a0 a1 a2 : Value) (h : Heap) : R (T k) F.swashlaw23_StackSides [a0, a1, a2] h = nrm .gc h (swashlaw23_StackSides k (R (T k)) a0 a1 a2 h) :=
 (R_body (t := T k) (T_scott k) (by kernel_rfl) (by kernel_rfl) _ _).trans (by kernel_rfl)
theorem swashlaw23_StackSides_l1_eq (k : Nat) (call : Caller) (a1 a5 a9 a39 a40 a41 : Value) (h : Heap) : swashlaw23_StackSides_l1 k call [(1, a1), (5, a5), (9, a9), (39, a39), (40, a40), (41, a41)] h =
 (binR Prog .lss 3 a41 a40 h).bind fun v61 h62 =>
 condV (some v61) (
 (indexAddrR Prog 70 a39 a41 h62).bind fun v63 h64 =>
 (loadR Prog 91 v63 h64).bind fun v65 h66 =>
 (allocR Prog 91 h66).bind fun v67 h68 =>
 (storeR Prog 91 v67 v65 h68).bind fun _v69 h70 =>
 (fieldAddrR Prog 95 a5 1 h70).bind fun v71 h72 =>
 (loadR Prog 4 v71 h72).bind fun v73 h74 =>
 ((bif wantVal v73 true then fieldAddrR Prog 91 v67 0 h74 else Res.ok undef h74)).bind fun v75 h76 =>
 ((bif wantVal v73 true then loadR Prog 21 v75 h76 else Res.ok undef h76)).bind fun v77 h78 =>
 ((bif wantVal v73 true then convR Prog 21 3 v77 h78 else Res.ok undef h78)).bind fun v79 h80 =>
 ((bif wantVal v73 true then Res.ok a41 h80 else Res.ok undef h80)).bind fun v81 h82 =>
 ((bif wantVal v73 true then binR Prog .mul 3 (.int .i64 100) v81 h82 else Res.ok undef h82)).bind fun v83 h84 =>
 ((bif wantVal v73 true then binR Prog .neq 3 v79 v83 h84 else Res.ok undef h84)).bind fun v85 h86 =>
 (condV (some v73) (Res.ok v85 h86) (Res.ok (.bool false) h86)).bind fun v87 h88 =>
 ((bif wantVal v87 false then fieldAddrR Prog 95 a5 1 h88 else Res.ok undef h88)).bind fun v89 h90 =>
 ((bif wantVal v87 false then loadR Prog 4 v89 h90 else Res.ok undef h90)).bind fun v91 h92 =>
 ((bif wantVal v87 false then unR .not v91 h92 else Res.ok undef h92)).bind fun v93 h94 =>
 ((bif wantVal v87 false then Res.ok v93 h94 else Res.ok undef h94)).bind fun v95 h96 =>
 ((bif wantVal v95 true then fieldAddrR Prog 91 v67 1 h96 else Res.ok undef h96)).bind fun v97 h98 =>
 ((bif wantVal v95 true then loadR Prog 21 v97 h98 else Res.ok undef h98)).bind fun v99 h100 =>
 ((bif wantVal v95 true then binR Prog .neq 21 v99 (.int .i32 0) h100 else Res.ok undef h100)).bind fun v101 h102 =>
 ((bif wantVal v95 true then Res.ok v101 h102 else Res.ok undef h102)).bind fun v103 h104 =>
 ((bif wantVal v103 false then fieldAddrR Prog 91 v67 2 h104 else Res.ok undef h104)).bind fun v105 h106 =>
 ((bif wantVal v103 false then loadR Prog 21 v105 h106 else Res.ok undef h106)).bind fun v107 h108 =>
 ((bif wantVal v103 false then binR Prog .neq 21 v107 (.int .i32 0) h108 else Res.ok undef h108)).bind fun v109 h110 =>
 ((bif wantVal v95 true then condV (some v103) (Res.ok (.bool true) h110) (Res.ok v109 h110) else Res.ok undef h110)).bind fun v111 h112 =>
 ((bif wantVal v87 false then condV (some v95) (Res.ok v111 h112) (Res.ok (.bool false) h112) else Res.ok undef h112)).bind fun v113 h114 =>
 (condV (some v87) (Res.ok (.bool true) h114) (Res.ok v113 h114)).bind fun v115 h116 =>
 ((bif wantVal v115 false then fieldAddrR Prog 95 a5 0 h116 else Res.ok undef h116)).bind fun v117 h118 =>
 ((bif wantVal v115 false then loadR Prog 3 v117 h118 else Res.ok undef h118)).bind fun v119 h120 =>
 ((bif wantVal v115 false then binR Prog .eql 3 v119 (.int .i64 2) h120 else Res.ok undef h120)).bind fun v121 h122 =>
 ((bif wantVal v115 false then Res.ok v121 h122 else Res.ok undef h122)).bind fun v123 h124 =>
 ((bif wantVal v123 true then fieldAddrR Prog 91 v67 2 h124 else Res.ok undef h124)).bind fun v125 h126 =>
 ((bif wantVal v123 true then loadR Prog 21 v125 h126 else Res.ok undef h126)).bind fun v127 h128 =>
 ((bif wantVal v123 true then binR Prog .neq 21 v127 (.int .i32 0) h128 else Res.ok undef h128)).bind fun v129 h130 =>
 ((bif wantVal v115 false then condV (some v123) (Res.ok v129 h130) (Res.ok (.bool false) h130) else Res.ok undef h130)).bind fun v131 h132 =>
 (condV (some v115) (Res.ok (.bool true) h132) (Res.ok v131 h132)).bind fun v133 h134 =>
 ((bif wantVal v133 false then fieldAddrR Prog 95 a5 0 h134 else Res.ok undef h134)).bind fun v135 h136 =>
 ((bif wantVal v133 false then loadR Prog 3 v135 h136 else Res.ok undef h136)).bind fun v137 h138 =>
 ((bif wantVal v133 false then binR Prog .neq 3 v137 (.int .i64 2) h138 else Res.ok undef h138)).bind fun v139 h140 =>
 ((bif wantVal v133 false then Res.ok v139 h140 else Res.ok undef h140)).bind fun v141 h142 =>
 ((bif wantVal v141 true then fieldAddrR Prog 91 v67 1 h142 else Res.ok undef h142)).bind fun v143 h144 =>
 ((bif wantVal v141 true then loadR Prog 21 v143 h144 else Res.ok undef h144)).bind fun v145 h146 =>
 ((bif wantVal v141 true then binR Prog .neq 21 v145 (.int .i32 0) h146 else Res.ok undef h146)).bind fun v147 h148 =>
 ((bif wantVal v133 false then condV (some v141) (Res.ok v147 h148) (Res.ok (.bool false) h148) else Res.ok undef h148)).bind fun v149 h150 =>
 (condV (some v133) (Res.ok (.bool true) h150) (Res.ok v149 h150)).bind fun v151 h152 =>
 condV (some v151) (
 .ok (.ret, [(6, (.bool false))]) h152)
 (
 (binR Prog .add 3 a41 (.int .i64 1) h152).bind fun v153 h154 =>
 .ok (.normal, [(1, a1), (5, a5), (9, a9), (39, a39), (40, a40), (41, v153)]) h154))
 (
 .ok ((.exit 0), [(1, a1), (5, a5), (9, a9), (39, a39), (40, a40), (41, a41), (42, v61)]) h62) :=
 (loopB_eq _ _).trans (by kernel_rfl)
theorem swashlaw23_StackSides_l1k_x0 (k : Nat) (call : Caller) (a1 a5 a9 a39 a40 a41 a42 : Value) (h : Heap) : swashlaw23_StackSides_l1k k call (.exit 0) [(1, a1), (5, a5), (9, a9), (39, a39), (40, a40), (41, a41), (42, a42)] h =
 (call F.place_Places_Len [a9] h).bind fun v155 h156 =>
 (builtinV Prog .len [27] [a1] h156).bind fun v157 h158 =>
 (binR Prog .eql 3 v155 v157 h158).bind fun v159 h160 =>
 .ok v159 h160 := by kernel_rfl
def swashlaw23_advances_l1 (k : Nat) (call : Caller) : Env → Heap → Res (AExit × Env) := loopB (C k) call F.swashlaw23_advances [1, 1, 0, 1, 0, 0]
def swashlaw23_advances_l1k (k : Nat) (call : Caller) : Kont Value := kBlock 0 (kSeq (pieceK (C k) call F.swashlaw23_advances [1, 1, 1]) (kDone Prog (resOf Prog F.swashlaw23_advances)))
def swashlaw23_advances (k : Nat) (call : Caller) (a0 : Value) (h : Heap) : Res Value :=
 (builtinV Prog .len [27] [a0] h).bind fun v1 h2 =>
 (loopN (swashlaw23_advances_l1 k call) loopFuel [(3, (.slice none 0 0)), (6, v1), (7, (.int .i64 0))] h2).bind fun r3 h4 =>
 swashlaw23_advances_l1k k call r3.1 r3.2 h4
theorem swashlaw23_advances_R (k : Nat) (a0 : Value) (h : Heap) : R (T k) F.swashlaw23_advances [a0] h = nrm .fz h (swashlaw23_advances k (R (T k)) a0 h) :=
 (R_body (t := T k) (T_scott k) (by kernel_rfl) (by kernel_rfl) _ _).trans (by kernel_rfl)
theorem swashlaw23_advances_l1_eq (k : Nat) (call : Caller) (a3 a6 a7 : Value) (h : Heap) : swashlaw23_advances_l1 k call [(3, a3), (6, a6), (7, a7)] h =
 (binR Prog .lss 3 a7 a6 h).bind fun v5 h6 =>
 condV (some v5) (
 (binR Prog .mul 3 (.int .i64 100) a7 h6).bind fun v7 h8 =>
 (buildSliceR Prog 27 1 [(0, v7)] h8).bind fun v9 h10 =>
 (builtinV Prog .append [27, 27] [a3, v9] h10).bind fun v11 h12 =>
 (binR Prog .add 3 a7 (.int .i64 1) h12).bind fun v13 h14 =>
 .ok (.normal, [(3, v11), (6, a6), (7, v13)]) h14)
 (
 .ok ((.exit 0), [(3, a3), (6, a6), (7, a7), (8, v5)]) h6) :=
 (loopB_eq _ _).trans (by kernel_rfl)
theorem swashlaw23_advances_l1k_x0 (k : Nat) (call : Caller) (a3 a6 a7 a8 : Value) (h : Heap) : swashlaw23_advances_l1k k call (.exit 0) [(3, a3), (6, a6), (7, a7), (8, a8)] h =
 .ok a3 h := by kernel_rfl
def swashlaw23_Write_l1 (k : Nat) (call : Caller) : Env → Heap → Res (AExit × Env) := loopB (C k) call F.swashlaw23_Write [1, 1, 1, 0, 1, 0, 0]
def swashlaw23_Write_l1k (k : Nat) (call : Caller) : Kont Value := kBlock 0 (kSeq (pieceK (C k) call F.swashlaw23_Write [1, 1, 1, 1]) (kDone Prog (resOf Prog F.swashlaw23_Write)))
def swashlaw23_Write (k : Nat) (call : Caller) (a0 : Value) (h : Heap) : Res Value :=
 (boxR a0 h).bind fun v1 h2 =>
 (fieldAddrR Prog 87 v1 0 h2).bind fun v3 h4 =>
 (loadR Prog 26 v3 h4).bind fun v5 h6 =>
 (call F.swashlaw07_Write [v5, (.int .i64 1), (.int .i64 4)] h6).bind fun v7 h8 =>
 (sliceR Prog 22 v7 (some (.int .i64 16)) (some (.int .i64 20)) none h8).bindN fun v9 h10 =>
 (builtinV Prog .len [22] [v7] h10).bindN fun v11 h12 =>
 (call F.swashref02_Put [(.slice none 0 0), v11, (.int .i64 4)] h12).bindT (fun p15 h16 => .panic p15 h16) fun v13 h14 =>
 (builtinV Prog .copy [22, 22] [v9, v13] h14).bindN fun v17 h18 =>
 chkR ((okVal (sliceR Prog 22 v7 (some (.int .i64 16)) (some (.int .i64 20)) none h14) v9 && true) && true) (
 (fieldAddrR Prog 87 v1 1 h18).bind fun v19 h20 =>
 (loadR Prog 85 v19 h20).bind fun v21 h22 =>
 (builtinV Prog .len [85] [v21] h22).bind fun v23 h24 =>
 (loopN (swashlaw23_Write_l1 k call) loopFuel [(3, v7), (16, v21), (17, v23), (18, (.int .i64 0))] h24).bind fun r25 h26 =>
 swashlaw23_Write_l1k k call r25.1 r25.2 h26)
theorem swashlaw23_Write_R (k : Nat) (a0 : Value) (h : Heap) : R (T k) F.swashlaw23_Write [a0] h = nrm (own k) h (swashlaw23_Write k (R (T k)) a0 h) :=
 (R_body (t := T k) (T_scott k) (by kernel_rfl) (by kernel_rfl) _ _).trans (by kernel_rfl)
theorem swashlaw23_Write_l1_eq (k : Nat) (call : Caller) (a3 a16 a17 a18 : Value) (h : Heap) : swashlaw23_Write_l1 k call [(3, a3), (16, a16), (17, a17), (18, a18)] h =
 (binR Prog .lss 3 a18 a17 h).bind fun v27 h28 =>
 condV (some v27) (
 (indexAddrR Prog 85 a16 a18 h28).bind fun v29 h30 =>
 (loadR Prog 88 v29 h30).bind fun v31 h32 =>
 (convR Prog 88 154 v31 h32).bind fun v33 h34 =>
 (convR Prog 154 3 v33 h34).bind fun v35 h36 =>
 (call F.swashref02_Put [a3, v35, (.int .i64 2)] h36).bind fun v37 h38 =>
 (binR Prog .add 3 a18 (.int .i64 1) h38).bind fun v39 h40 =>
 .ok (.normal, [(3, v37), (16, a16), (17, a17), (18, v39)]) h40)
 (
 .ok ((.exit 0), [(3, a3), (16, a16), (17, a17), (18, a18), (19, v27)]) h28) :=
 (loopB_eq _ _).trans (by kernel_rfl)
theorem swashlaw23_Write_l1k_x0 (k : Nat) (call : Caller) (a3 a16 a17 a18 a19 : Value) (h : Heap) : swashlaw23_Write_l1k k call (.exit 0) [(3, a3), (16, a16), (17, a17), (18, a18), (19, a19)] h =
 .ok a3 h := by kernel_rfl
def swashlaw23_StackTakes_in1 (k : Nat) (call : Caller) (a0 a1 : Value) (h : Heap) : Res Value :=
 (loadR Prog 22 a0 h).bind fun v1 h2 =>
 (call F.view_Of [v1] h2).bind fun v3 h4 =>
 (call F.stack_Take [v3, (.int .i64 40)] h4).bind fun v5 h6 =>
 (storeR Prog 72 a1 v5 h6).bind fun _v7 h8 =>
 .ok (.tuple #[]) h8
theorem swashlaw23_StackTakes_in1_R (k : Nat) (a0 a1 : Value) (h : Heap) : R (T k) F.swashlaw23_StackTakes_in1 [a0, a1] h = nrm .no h (swashlaw23_StackTakes_in1 k (R (T k)) a0 a1 h) :=
 (R_body (t := T k) (T_scott k) (by kernel_rfl) (by kernel_rfl) _ _).trans (by kernel_rfl)
def swashlaw23_small (k : Nat) (call : Caller) (a0 a1 : Value) (h : Heap) : Res Value :=
 (boxR a0 h).bind fun v1 h2 =>
 (fieldAddrR Prog 87 v1 0 h2).bind fun v3 h4 =>
 (fieldAddrR Prog 26 v3 0 h4).bind fun v5 h6 =>
 (loadR Prog 22 v5 h6).bind fun v7 h8 =>
 (builtinV Prog .len [22] [v7] h8).bind fun v9 h10 =>
 (binR Prog .leq 3 v9 (.int .i64 40) h10).bind fun v11 h12 =>
 ((bif wantVal v11 true then fieldAddrR Prog 87 v1 0 h12 else Res.ok undef h12)).bind fun v13 h14 =>
 ((bif wantVal v11 true then fieldAddrR Prog 26 v13 1 h14 else Res.ok undef h14)).bind fun v15 h16 =>
 ((bif wantVal v11 true then loadR Prog 23 v15 h16 else Res.ok undef h16)).bind fun v17 h18 =>
 ((bif wantVal v11 true then builtinV Prog .len [23] [v17] h18 else Res.ok undef h18)).bind fun v19 h20 =>
 ((bif wantVal v11 true then binR Prog .leq 3 v19 (.int .i64 20) h20 else Res.ok undef h20)).bind fun v21 h22 =>
 (condV (some v11) (Res.ok v21 h22) (Res.ok (.bool false) h22)).bind fun v23 h24 =>
 ((bif wantVal v23 true then fieldAddrR Prog 87 v1 0 h24 else Res.ok undef h24)).bind fun v25 h26 =>
 ((bif wantVal v23 true then fieldAddrR Prog 26 v25 2 h26 else Res.ok undef h26)).bind fun v27 h28 =>
 ((bif wantVal v23 true then loadR Prog 24 v27 h28 else Res.ok undef h28)).bind fun v29 h30 =>
 ((bif wantVal v23 true then builtinV Prog .len [24] [v29] h30 else Res.ok undef h30)).bind fun v31 h32 =>
 ((bif wantVal v23 true then binR Prog .leq 3 v31 (.int .i64 40) h32 else Res.ok undef h32)).bind fun v33 h34 =>
 (condV (some v23) (Res.ok v33 h34) (Res.ok (.bool false) h34)).bind fun v35 h36 =>
 ((bif wantVal v35 true then fieldAddrR Prog 87 v1 1 h36 else Res.ok undef h36)).bind fun v37 h38 =>
 ((bif wantVal v35 true then loadR Prog 85 v37 h38 else Res.ok undef h38)).bind fun v39 h40 =>
 ((bif wantVal v35 true then builtinV Prog .len [85] [v39] h40 else Res.ok undef h40)).bind fun v41 h42 =>
 ((bif wantVal v35 true then binR Prog .leq 3 v41 (.int .i64 100) h42 else Res.ok undef h42)).bind fun v43 h44 =>
 (condV (some v35) (Res.ok v43 h44) (Res.ok (.bool false) h44)).bind fun v45 h46 =>
 ((bif wantVal v45 true then Res.ok a1 h46 else Res.ok undef h46)).bind fun v47 h48 =>
 ((bif wantVal v45 true then builtinV Prog .len [27] [v47] h48 else Res.ok undef h48)).bind fun v49 h50 =>
 ((bif wantVal v45 true then binR Prog .leq 3 v49 (.int .i64 60) h50 else Res.ok undef h50)).bind fun v51 h52 =>
 (condV (some v45) (Res.ok v51 h52) (Res.ok (.bool false) h52)).bind fun v53 h54 =>
 .ok v53 h54
theorem swashlaw23_small_R (k : Nat) (a0 a1 : Value) (h : Heap) : R (T k) F.swashlaw23_small [a0, a1] h = nrm .gc h (swashlaw23_small k (R (T k)) a0 a1 h) :=
 (R_body (t := T k) (T_scott k) (by kernel_rfl) (by kernel_rfl) _ _).trans (by kernel_rfl)
end
end Go.Sw
end
section
namespace Go.Sw
open Go.RowKit
theorem planRoom_copyN (p : Plan) (w : Int) (rm r x : List Int) (h : rm.length = r.length) : ((planRoom p w rm) ++ x).take 16 ++ (r ++ ((planRoom p w rm) ++ x).drop (16 + r.length)) = planRoom p w r ++ x := by
 obtain ⟨hd, tl, h16, hs⟩ := room_split p w r.length
 rw [hs rm h, hs r rfl]
 rw [← h16, show hd ++ (rm ++ tl) ++ x = hd ++ (rm ++ (tl ++ x)) by simp, List.take_left, ← h]
 rw [show hd ++ (rm ++ (tl ++ x)) = (hd ++ rm) ++ (tl ++ x) by simp, show hd.length + rm.length = (hd ++ rm).length by simp, List.drop_left]
 simp
theorem twos_takeN (s : List Int) {j : Nat} {x : Int} (h : s[j]? = some x) : twos (s.take (j + 1)) = twos (s.take j) ++ bytesOf x 2 := by rw [take_snoc h, twos_snoc]
theorem wrap16 (x : Int) : IntKind.u16.wrap x = m16 x := by
 unfold IntKind.wrap m16
 simp [IntKind.signed, IntKind.bits]
theorem m16_lt (x : Int) : 0 ≤ m16 x ∧ m16 x < 65536 := by unfold m16; omega
abbrev enc16 (n : Int) : List Value := [.int .i16 n]
theorem enc16_len (n : Int) : (enc16 n).length = 1 := rfl
theorem w23_l1 (k : Nat) {H0 H : Heap} {o : Option Nat} {s7 : Value} {lk : List Int} (g : Star H0 H [itRow o 1 s7 encB lk]) {v : Value} {s : List Int} (hv : Sl H0 1 v enc16 s) (hl : lk.length + 2 * s.length < 2 ^ 29) :
  ∃ s' o' zz H', loopN (swashlaw23_Write_l1 k (R (T k))) loopFuel [(3, s7), (16, v), (17, .int .i64 s.length), (18, .int .i64 0)] H =
   .ok (.exit 0, [(3, s'), (16, v), (17, .int .i64 s.length), (18, zz), (19, .bool false)]) H' ∧ Star H0 H' [itRow o' 1 s' encB (lk ++ twos (s.map m16))] := by
 obtain ⟨xx, e', H1, hr1, rfl, s', o', rfl, g1⟩ := loop_up (body := swashlaw23_Write_l1 k (R (T k))) s.length
  (fun j e H' => ∃ s' o', e = [(3, s'), (16, v), (17, .int .i64 s.length), (18, .int .i64 j)] ∧ Star H0 H' [itRow o' 1 s' encB (lk ++ twos ((s.map m16).take j))])
  (fun xx e H' => xx = .exit 0 ∧ ∃ s' o', e = [(3, s'), (16, v), (17, .int .i64 s.length), (18, .int .i64 s.length), (19, .bool false)] ∧ Star H0 H' [itRow o' 1 s' encB (lk ++ twos (s.map m16))])
  (e0 := [(3, s7), (16, v), (17, .int .i64 s.length), (18, .int .i64 0)]) (H0 := H) ⟨s7, o, rfl, by simpa [twos] using g⟩ (by omega)
  (fun j e H' hj ⟨s', o', he, g⟩ => by
   subst he
   have hjl : (j : Int) < s.length := by omega
   obtain ⟨x, hx⟩ : ∃ x, s[j]? = some x := ⟨_, List.getElem?_eq_getElem hj⟩
   have hx2 : (s.map m16)[j]? = some (m16 x) := by rw [List.getElem?_map, hx]; rfl
   have hxb := m16_lt x
   obtain ⟨p, i1, i2⟩ := hv.ix1 enc16_len j x hx _ rfl
   have i2 := i2 H' g.ext
   have hw := wrap16 x
   obtain ⟨s2, o2, H2, e2, g2⟩ := Put_star k g 0 rfl (m16 x) 2 2 rfl hxb.1 (by omega) (by omega) (by rw [List.length_append, twos_len, List.length_take, List.length_map]; omega)
   simp only [List.set_cons_zero] at g2
   rw [List.append_assoc, ← twos_takeN _ hx2] at g2
   have hw64 : IntKind.i64.wrap (m16 x) = m16 x := wrap_i64 (by omega) (by omega)
   refine .inl ⟨_, H2, ?_, s2, o2, rfl, g2⟩
   rw [swashlaw23_Write_l1_eq]
   simp -implicitDefEqProofs (disch := omega) [hjl, i1, i2, hw, hw64, e2])
  (fun e H' ⟨s', o', he, g⟩ => by
   subst he
   rw [List.take_of_length_le (by simp)] at g
   refine ⟨.exit 0, _, H', ?_, by simp, rfl, s', o', rfl, g⟩
   rw [swashlaw23_Write_l1_eq]
   simp -implicitDefEqProofs)
 exact ⟨s', o', _, H1, hr1, g1⟩
set_option maxRecDepth 20000 in
set_option maxHeartbeats 1000000 in
theorem write23_core (k : Nat) (hW : ownW k = .no) (p : Plan) (hp : p.ok) (h1 : p.cls.length ≤ 1000) (h2 : p.rows.length ≤ 1000) (h3 : p.ents.length ≤ 1000) {H : Heap} {vC vR sE : Value} {rv : List (List Int × Value)} (hP : PlanSl H p vC vR sE rv)
  {vV : Value} {vals : List Int} (hV : Sl H 1 vV enc16 vals) (h4 : vals.length ≤ 1000) :
  ∃ s o H', swashlaw23_Write k (R (T k)) (.agg #[vC, vR, sE, .int .u8 p.wide, vV]) H = .ok s H' ∧ Star H H' [itRow o 1 s encB (roomB p 1 0 (vals.map m16))] := by
 obtain ⟨H1, hH1⟩ : ∃ H1, H1 = H.push ⟨[vC, vR, sE, .int .u8 p.wide, vV], 1, false⟩ := ⟨_, rfl⟩
 have hx1 : Ext H H1 := by rw [hH1]; exact (Ext.refl H).push _
 have hg1 : H1.get H.n = some ⟨[vC, vR, sE, .int .u8 p.wide, vV], 1, false⟩ := by rw [hH1]; exact get_push_eq _ _ _ rfl
 obtain ⟨N, hN⟩ : ∃ N, N = (planRoom p 1 (List.replicate 4 0)).length := ⟨_, rfl⟩
 have hNb : N ≤ 100000 := by rw [hN]; exact planRoom_len hp 1 (by simp) h1 h2 h3
 obtain ⟨s0, o0, J0, e0, g, _⟩ := Write_starG k hW p hp 1 (by omega) 4 (by omega) h1 h2 h3 (Star.nil H1) (hP.up hx1)
 rw [planBytes_room] at g
 simp only [List.nil_append] at g
 have gx0 := g.ext
 have hln0 : ∀ H', lnS s0 H' = .ok (.int .i64 N) H' := by rw [hN]; exact (g.row 0 rfl).len
 have hlnV : ∀ H', lnS vV H' = .ok (.int .i64 vals.length) H' := fun H' => hV.len H'
 have hN16 : 20 ≤ N := by rw [hN]; unfold planRoom; simp; omega
 obtain ⟨c5, rfl, hs5, cut1⟩ := g.cut1 0 rfl 16 4 (by omega) (by omega) .i64 .i64
 have g := g.more_row (Ext.refl _) (OwnO.nil encB _ 1) (fun b hb => by cases hb)
 simp only [List.cons_append, List.nil_append] at g
 obtain ⟨t6, u6, J6, f6, g⟩ := Put_star k g 1 rfl N 4 4 rfl (by omega) (by omega) (by omega) (by simp)
 simp only [List.set_cons_zero, List.set_cons_succ, List.nil_append] at g
 obtain ⟨c6, h6, _, cut2⟩ := g.cut1 0 rfl 16 4 (by omega) (by omega) .i64 .i64
 have h6 := Option.some.inj h6
 subst h6
 obtain ⟨J7, f7, g⟩ := g.copy1 0 1 rfl rfl 16 4 ((planRoom p 1 (List.replicate 4 0)).length - 16) (by simp) (by omega) (by omega)
 simp only [List.set_cons_zero] at g
 have hcopy := planRoom_copyN p 1 (List.replicate 4 0) (bytesOf (N : Int) 4) [] (by simp)
 rw [bytesOf_len, List.append_nil, List.append_nil] at hcopy
 rw [hcopy] at g
 have hrl : (planRoom p 1 (bytesOf (N : Int) 4)).length = N := by rw [hN]; exact planRoom_size p 1 _ _ (by simp)
 have g0 := g.take 1
 simp only [List.take_succ_cons, List.take_zero] at g0
 have hv7 := g0.get
 obtain ⟨s', o', zz, J8, f8, g8⟩ := w23_l1 k g0 (hV.up hx1) (by rw [hrl]; omega)
 have hfin : planRoom p 1 (bytesOf (N : Int) 4) ++ twos (vals.map m16) = roomB p 1 0 (vals.map m16) := by unfold roomB; rw [← hN, Int.zero_add]
 rw [hfin] at g8
 have g1' : J7.get H.n = some ⟨[vC, vR, sE, .int .u8 p.wide, vV], 1, false⟩ := g.ext.get hg1
 refine ⟨s', o', J8, ?_, ?_⟩
 rotate_left
 ·have ho := (g8.own 0 rfl).base hx1.n
  obtain ⟨o2, ho2, hlt⟩ := ho.toO
  have hst : Star H J8 ([] ++ [itRow o2 1 s' encB (roomB p 1 0 (vals.map m16))]) := (Star.nil H).more_row (hx1.trans g8.ext) ho2 fun b hb => ⟨hlt b hb, ho2.lt b hb⟩
  have h7 : o2 = o' := by
   have hr := g8.row 0 rfl
   rcases hr with ⟨r1, r2, r3⟩ | ⟨b, r1, r2, r3⟩
   ·exfalso
    have := congrArg List.length r2
    unfold roomB at this
    rw [List.length_append, room4_size, ← hN] at this
    simp at this
    omega
   ·rcases ho2 with ⟨q1, q2, q3⟩ | ⟨b2, q1, q2, q3⟩
    ·exfalso
     have := congrArg List.length q2
     unfold roomB at this
     rw [List.length_append, room4_size, ← hN] at this
     simp at this
     omega
    ·rw [r1, q1]
     rw [r2] at q2
     injection q2 with q2
     injection q2 with q2
     injection q2 with q2
     rw [q2]
  subst h7
  simpa using hst
 have hv5 : veq (.slice (some ⟨c5, 16, none⟩) 4 ((planRoom p 1 (List.replicate 4 0)).length - 16)) (.slice (some ⟨c5, 16, none⟩) 4 ((planRoom p 1 (List.replicate 4 0)).length - 16)) = true := by simp
 generalize (planRoom p 1 (List.replicate 4 0)).length - 16 = cap at cut1 cut2 f7 hv5
 have cut1 : slS 1 s0 (some (.int .i64 16)) (some (.int .i64 20)) none J0 = .ok (.slice (some ⟨c5, 16, none⟩) 4 cap) J0 := cut1
 have cut2 : slS 1 s0 (some (.int .i64 16)) (some (.int .i64 20)) none J6 = .ok (.slice (some ⟨c5, 16, none⟩) 4 cap) J6 := cut2
 rw [hH1] at e0
 have e0 : R (T k) F.swashlaw07_Write [.agg #[vC, vR, sE, .int .u8 p.wide], .int .i64 1, .int .i64 4] (H.push ⟨[vC, vR, sE, .int .u8 p.wide, vV], 1, false⟩) = .ok s0 J0 := e0
 simp -implicitDefEqProofs (disch := omega) [swashlaw23_Write, e0, hln0, cut1, f6, cut2, f7, hv5, g1', hlnV, f8, swashlaw23_Write_l1k_x0]
theorem write23_fz (k : Nat) (hk : k < 1000000) (hW : ownW k = .no) (p : Plan) (hp : p.ok) (h1 : p.cls.length ≤ 1000) (h2 : p.rows.length ≤ 1000) (h3 : p.ents.length ≤ 1000) {H : Heap} {vC vR sE : Value} {rv : List (List Int × Value)} (hP : PlanSl H p vC vR sE rv)
  {vV : Value} {vals : List Int} (hV : Sl H 1 vV enc16 vals) (h4 : vals.length ≤ 1000) :
  R (T k) F.swashlaw23_Write [.agg #[vC, vR, sE, .int .u8 p.wide, vV]] H = .ok (lv encB (roomB p 1 0 (vals.map m16))) H := by
 obtain ⟨s, o, H', e, g⟩ := write23_core k hW p hp h1 h2 h3 hP hV h4
 rw [swashlaw23_Write_R]
 have ho : own k = .fz := by
  unfold own
  rw [show Nat.blt k 1000000 = true from Nat.ble_eq_true_of_le hk]
  rfl
 rw [ho]
 obtain ⟨L, hf⟩ := (g.own 0 rfl).freeze encB_len (fun n _ v hv => by simp at hv; subst hv; trivial) 6
 exact nrm_fz (v := s) (H' := H') e hf g.ext (Flat.B _).alive
structure SPlan where
 p : Plan
 vals : List Int
def SPlan.ok (x : SPlan) : Prop := x.p.ok
abbrev splC (x : SPlan) : List Value := [lv encB x.p.cls, lv encBR x.p.rows, lv encEn x.p.ents, .int .u8 x.p.wide, lv enc16 x.vals]
abbrev splV (x : SPlan) : Value := .agg (splC x).toArray
def SSmall (x : SPlan) (n : Nat) : Prop := x.p.cls.length ≤ 40 ∧ x.p.rows.length ≤ 20 ∧ x.p.ents.length ≤ 40 ∧ x.vals.length ≤ 100 ∧ n ≤ 60
instance (x : SPlan) (n : Nat) : Decidable (SSmall x n) := by unfold SSmall; exact inferInstance
theorem speaks23_run (k : Nat) (hk : k % 1000000 = F.swashlaw23_speaks) (H : Heap) : R (T k) F.swashlaw23_speaks [] H = .ok (.bool true) H :=
 (R_sp (t := T k) (T_scott k) (s := constSp (.bool true)) (by unfold T C; dsimp only; rw [hk]; kernel_rfl) [] H).trans (nrm_gc (Pure.of rfl) (.bool _))
theorem small23_run (k : Nat) (x : SPlan) (ids : List Int) (H : Heap) : R (T k) F.swashlaw23_small [splV x, lv encI ids] H = .ok (.bool (decide (SSmall x ids.length))) H := by
 rw [swashlaw23_small_R]
 refine nrm_gc ⟨_, ?_, (Ext.refl H).push ⟨splC x, 1, false⟩⟩ (.bool _)
 unfold SSmall
 by_cases h1 : x.p.cls.length ≤ 40
 ·have h1' : (x.p.cls.length : Int) ≤ 40 := by omega
  by_cases h2 : x.p.rows.length ≤ 20
  ·have h2' : (x.p.rows.length : Int) ≤ 20 := by omega
   by_cases h3 : x.p.ents.length ≤ 40
   ·have h3' : (x.p.ents.length : Int) ≤ 40 := by omega
    by_cases h4 : x.vals.length ≤ 100
    ·have h4' : (x.vals.length : Int) ≤ 100 := by omega
     by_cases h5 : ids.length ≤ 60
     ·have h5' : (ids.length : Int) ≤ 60 := by omega
      simp -implicitDefEqProofs [swashlaw23_small, h1, h2, h3, h4, h5, h1', h2', h3', h4', h5']
     ·have h5' : ¬ (ids.length : Int) ≤ 60 := by omega
      simp -implicitDefEqProofs [swashlaw23_small, h1, h2, h3, h4, h5, h1', h2', h3', h4', h5']
    ·have h4' : ¬ (x.vals.length : Int) ≤ 100 := by omega
     simp -implicitDefEqProofs [swashlaw23_small, h1, h2, h3, h4, h1', h2', h3', h4']
   ·have h3' : ¬ (x.p.ents.length : Int) ≤ 40 := by omega
    simp -implicitDefEqProofs [swashlaw23_small, h1, h2, h3, h1', h2', h3']
  ·have h2' : ¬ (x.p.rows.length : Int) ≤ 20 := by omega
   simp -implicitDefEqProofs [swashlaw23_small, h1, h2, h1', h2']
 ·have h1' : ¬ (x.p.cls.length : Int) ≤ 40 := by omega
  simp -implicitDefEqProofs [swashlaw23_small, h1, h1']
def advL (n : Nat) : List Int := (List.range n).map fun (i : Nat) => 100 * (i : Int)
theorem advL_len (n : Nat) : (advL n).length = n := by simp [advL]
theorem advL_snoc (n : Nat) : advL (n + 1) = advL n ++ [100 * (n : Int)] := by simp [advL, List.range_succ]
theorem advances_run (k : Nat) (ids : List Int) (hl : ids.length < 2 ^ 30) (H : Heap) : R (T k) F.swashlaw23_advances [lv encI ids] H = .ok (lv encI (advL ids.length)) H := by
 rw [swashlaw23_advances_R]
 have st := (Star.nil H).more_row (Ext.refl H) (OwnO.nil encI H 1) (fun b hb => by cases hb)
 simp only [List.nil_append] at st
 obtain ⟨xx, e', H1, hr, rfl, s, o, rfl, g⟩ := loop_up (body := swashlaw23_advances_l1 k (R (T k))) ids.length
  (fun j e H' => ∃ s o, e = [(3, s), (6, .int .i64 ids.length), (7, .int .i64 j)] ∧ Star H H' [itRow o 1 s encI (advL j)])
  (fun xx e H' => xx = .exit 0 ∧ ∃ s o, e = [(3, s), (6, .int .i64 ids.length), (7, .int .i64 ids.length), (8, .bool false)] ∧ Star H H' [itRow o 1 s encI (advL ids.length)])
  (e0 := [(3, .slice none 0 0), (6, .int .i64 ids.length), (7, .int .i64 0)]) (H0 := H) ⟨_, none, rfl, st⟩ (by omega)
  (fun j e H' hj ⟨s, o, he, g⟩ => by
   subst he
   have hjl : (j : Int) < ids.length := by omega
   obtain ⟨s2, o2, H2, e2, g2⟩ := g.append1 (bytes := 8) 0 encI_len rfl (100 * (j : Int)) (by rw [advL_len]; omega) (by decide)
   simp only [List.set_cons_zero] at g2
   rw [← advL_snoc] at g2
   refine .inl ⟨_, H2, ?_, s2, o2, rfl, g2⟩
   rw [swashlaw23_advances_l1_eq]
   simp -implicitDefEqProofs (disch := omega) [hjl, e2])
  (fun e H' ⟨s, o, he, g⟩ => by
   subst he
   refine ⟨.exit 0, _, H', ?_, by simp, rfl, s, o, rfl, g⟩
   rw [swashlaw23_advances_l1_eq]
   simp -implicitDefEqProofs)
 obtain ⟨L, hf⟩ := (g.own 0 rfl).freeze encI_len (fun n hn v hv => encI_still _ n hn v hv) 6
 refine nrm_fz (v := s) (H' := H1) ?_ hf g.ext (Flat.I _).alive
 simp -implicitDefEqProofs [swashlaw23_advances, hr, swashlaw23_advances_l1k_x0]
end Go.Sw
end
