/-
  Functions' forms, and what is proved of them, part 7.
-/
import Derived.Test.YtnaodjnimkndbabSwCfg
import Derived.Test.YtnaodjnimkndbabSwW5
import Derived.Test.YtnaodjnimkndbabSwW6
import Derived.Test.YtnaodjnimkndbabSwW1
import Derived.Test.YtnaodjnimkndbabSwLib8
set_option linter.unusedSimpArgs false
set_option linter.unusedVariables false
set_option linter.unusedSectionVars false
section
set_option maxRecDepth 100000
set_option linter.unusedVariables false
namespace Go.Sw
noncomputable section
def ζe7 (k : Nat) (call : Caller) : Env → Heap → Res (AExit × Env) := loopB (C k) call F.ζ4k [1, 1, 1, 0, 0, 0]
def ζ7m (k : Nat) (call : Caller) : Kont Value := kBlock 0 (kSeq (pieceK (C k) call F.ζ4k [1, 1, 1, 1]) (kDone Prog (resOf Prog F.ζ4k)))
def ζ4k (k : Nat) (call : Caller) (a0 a1 a2 : Value) (h : Heap) : Res Value :=
 (buildR Prog 297 [(0, a0), (1, a1)] h).bind fun v1 h2 =>
 (boxR v1 h2).bind fun v3 h4 =>
 (call F.ζ39 [a1] h4).bind fun v5 h6 =>
 (binR Prog .mul 3 (.int .i64 2) v5 h6).bind fun v7 h8 =>
 (binR Prog .add 3 v7 (.int .i64 128) h8).bind fun v9 h10 =>
 (loopN (ζe7 k call) loopFuel [(2, a2), (8, v3), (9, v9)] h10).bind fun r11 h12 =>
 ζ7m k call r11.1 r11.2 h12
theorem ζmy (k : Nat) (a0 a1 a2 : Value) (h : Heap) : R (T k) F.ζ4k [a0, a1, a2] h = nrm .no h (ζ4k k (R (T k)) a0 a1 a2 h) :=
 (R_body (t := T k) (T_scott k) (by kernel_rfl) (by kernel_rfl) _ _).trans (by kernel_rfl)
theorem ζ5o (k : Nat) (call : Caller) (a2 a8 a9 : Value) (h : Heap) : ζe7 k call [(2, a2), (8, a8), (9, a9)] h =
 (nilR a8 h).bind fun v13 h14 =>
 (fieldAddrR Prog 297 v13 4 h14).bind fun v15 h16 =>
 (loadR Prog 3 v15 h16).bind fun v17 h18 =>
 (binR Prog .lss 3 v17 a9 h18).bind fun v19 h20 =>
 condV (some v19) (
 (call F.ζ29 [a8, a2] h20).bind fun v21 h22 =>
 condV (some v21) (
 (nilR a8 h22).bind fun v23 h24 =>
 (fieldAddrR Prog 297 v23 4 h24).bind fun v25 h26 =>
 (loadR Prog 3 v25 h26).bind fun v27 h28 =>
 .ok (.ret, [(6, v27), (7, (.int .i64 0))]) h28)
 (
 (nilR a8 h22).bind fun v29 h30 =>
 (fieldAddrR Prog 297 v29 5 h30).bind fun v31 h32 =>
 (loadR Prog 3 v31 h32).bind fun v33 h34 =>
 (binR Prog .gtr 3 v33 (.int .i64 64) h34).bind fun v35 h36 =>
 condV (some v35) (
 .ok ((.exit 0), [(2, a2), (8, a8), (9, a9), (35, v35)]) h36)
 (
 .ok (.normal, [(2, a2), (8, a8), (9, a9)]) h36)))
 (
 .ok ((.exit 0), [(2, a2), (8, a8), (9, a9), (23, v19)]) h20) :=
 (loopB_eq _ _).trans (by kernel_rfl)
theorem ζii (k : Nat) (call : Caller) (a6 a7 : Value) (h : Heap) : ζ7m k call .ret [(6, a6), (7, a7)] h =
 .ok (.tuple #[a6, a7]) h := by kernel_rfl
theorem ζh2 (k : Nat) (call : Caller) (a2 a8 a9 a35 : Value) (h : Heap) : ζ7m k call (.exit 0) [(2, a2), (8, a8), (9, a9), (35, a35)] h =
 (nilR a8 h).bind fun v37 h38 =>
 (fieldAddrR Prog 297 v37 4 h38).bind fun v39 h40 =>
 (loadR Prog 3 v39 h40).bind fun v41 h42 =>
 .ok (.tuple #[v41, (.int .i64 4)]) h42 := by kernel_rfl
theorem ζfb (k : Nat) (call : Caller) (a2 a8 a9 a23 : Value) (h : Heap) : ζ7m k call (.exit 0) [(2, a2), (8, a8), (9, a9), (23, a23)] h =
 (nilR a8 h).bind fun v43 h44 =>
 (fieldAddrR Prog 297 v43 4 h44).bind fun v45 h46 =>
 (loadR Prog 3 v45 h46).bind fun v47 h48 =>
 .ok (.tuple #[v47, (.int .i64 4)]) h48 := by kernel_rfl
def ζ5a (k : Nat) (call : Caller) (a0 : Value) (h : Heap) : Res Value :=
 (boxR a0 h).bind fun v1 h2 =>
 .ok (.func (.func F.ζ1z) #[] #[v1]) h2
theorem ζkd (k : Nat) (a0 : Value) (h : Heap) : R (T k) F.ζ5a [a0] h = nrm .gc h (ζ5a k (R (T k)) a0 h) :=
 (R_body (t := T k) (T_scott k) (by kernel_rfl) (by kernel_rfl) _ _).trans (by kernel_rfl)
def ζ29 (k : Nat) (call : Caller) (a0 a1 : Value) (h : Heap) : Res Value :=
 (call F.ζ1y [a0] h).bind fun v1 h2 =>
 (extractR v1 0 h2).bind fun v3 h4 =>
 (extractR v1 1 h4).bind fun v5 h6 =>
 (nilR a0 h6).bindN fun v7 h8 =>
 (fieldAddrR Prog 297 v7 0 h8).bindN fun v9 h10 =>
 (loadR Prog 180 v9 h10).bindN fun v11 h12 =>
 (nilR a0 h12).bindN fun v13 h14 =>
 (fieldAddrR Prog 297 v13 2 h14).bindN fun v15 h16 =>
 (loadR Prog 3 v15 h16).bindN fun v17 h18 =>
 (call F.ζ15 [v11, v17, v3] h18).bindT (fun p21 h22 => (allocR Prog 31 h18).bindN fun v23 h24 => .panic p21 h22) fun v19 h20 =>
 (extractR v19 0 h20).bindN fun v25 h26 =>
 (extractR v19 1 h26).bindN fun v27 h28 =>
 (allocR Prog 31 h28).bindN fun v29 h30 =>
 (storeR Prog 31 v29 v25 h30).bindN fun _v31 h32 =>
 (nilR a0 h32).bind fun v33 h34 =>
 (fieldAddrR Prog 297 v33 4 h34).bind fun v35 h36 =>
 (loadR Prog 3 v35 h36).bind fun v37 h38 =>
 (binR Prog .add 3 v37 (.int .i64 1) h38).bind fun v39 h40 =>
 (nilR a0 h40).bind fun v41 h42 =>
 (fieldAddrR Prog 297 v41 4 h42).bind fun v43 h44 =>
 (storeR Prog 3 v43 v39 h44).bind fun _v45 h46 =>
 (fieldAddrR Prog 31 v29 0 h46).bind fun v47 h48 =>
 (loadR Prog 3 v47 h48).bind fun v49 h50 =>
 (nilR a0 h50).bind fun v51 h52 =>
 (fieldAddrR Prog 297 v51 2 h52).bind fun v53 h54 =>
 (storeR Prog 3 v53 v49 h54).bind fun _v55 h56 =>
 (nilR a0 h56).bindN fun v57 h58 =>
 (fieldAddrR Prog 297 v57 3 h58).bindN fun v59 h60 =>
 (loadR Prog 3 v59 h60).bindN fun v61 h62 =>
 (loadR Prog 31 v29 h62).bindN fun v63 h64 =>
 (callV call a1 [v61, v63] h64).bindT (fun p67 h68 => .panic p67 h68) fun v65 h66 =>
 (extractR v65 0 h66).bindN fun v69 h70 =>
 (extractR v65 1 h70).bindN fun v71 h72 =>
 (fieldAddrR Prog 31 v29 1 h72).bind fun v73 h74 =>
 (loadR Prog 3 v73 h74).bind fun v75 h76 =>
 (binR Prog .and 3 v75 (.int .i64 16384) h76).bind fun v77 h78 =>
 (binR Prog .neq 3 v77 (.int .i64 0) h78).bind fun v79 h80 =>
 condV (some v79) (
 (builtinV Prog .max [3, 3] [v69, (.int .i64 0)] h80).bind fun v81 h82 =>
 (nilR a0 h82).bind fun v83 h84 =>
 (fieldAddrR Prog 297 v83 3 h84).bind fun v85 h86 =>
 (storeR Prog 3 v85 v81 h86).bind fun _v87 h88 =>
 (nilR a0 h88).bind fun v89 h90 =>
 (fieldAddrR Prog 297 v89 5 h90).bind fun v91 h92 =>
 (loadR Prog 3 v91 h92).bind fun v93 h94 =>
 (binR Prog .add 3 v93 (.int .i64 1) h94).bind fun v95 h96 =>
 (nilR a0 h96).bind fun v97 h98 =>
 (fieldAddrR Prog 297 v97 5 h98).bind fun v99 h100 =>
 (storeR Prog 3 v99 v95 h100).bind fun _v101 h102 =>
 .ok (.bool false) h102)
 (
 (builtinV Prog .max [3, 3] [v71, (.int .i64 0)] h80).bind fun v103 h104 =>
 (nilR a0 h104).bind fun v105 h106 =>
 (fieldAddrR Prog 297 v105 3 h106).bind fun v107 h108 =>
 (storeR Prog 3 v107 v103 h108).bind fun _v109 h110 =>
 (nilR a0 h110).bind fun v111 h112 =>
 (fieldAddrR Prog 297 v111 5 h112).bind fun v113 h114 =>
 (storeR Prog 3 v113 (.int .i64 0) h114).bind fun _v115 h116 =>
 .ok v5 h116)
theorem ζ7n (k : Nat) (a0 a1 : Value) (h : Heap) : R (T k) F.ζ29 [a0, a1] h = nrm .no h (ζ29 k (R (T k)) a0 a1 h) :=
 (R_body (t := T k) (T_scott k) (by kernel_rfl) (by kernel_rfl) _ _).trans (by kernel_rfl)
def ζ1z (k : Nat) (call : Caller) (a0 a1 a2 : Value) (h : Heap) : Res Value :=
 (boxR a1 h).bind fun v1 h2 =>
 (loadR Prog 197 a2 h2).bind fun v3 h4 =>
 (loadR Prog 31 v1 h4).bind fun v5 h6 =>
 (callV call v3 [a0, v5] h6).bind fun v7 h8 =>
 (binR Prog .add 3 a0 (.int .i64 1) h8).bind fun v9 h10 =>
 .ok (.tuple #[a0, v9]) h10
theorem ζg3 (k : Nat) (a0 a1 a2 : Value) (h : Heap) : R (T k) F.ζ1z [a0, a1, a2] h = nrm .no h (ζ1z k (R (T k)) a0 a1 a2 h) :=
 (R_body (t := T k) (T_scott k) (by kernel_rfl) (by kernel_rfl) _ _).trans (by kernel_rfl)
def ζ1y (k : Nat) (call : Caller) (a0 : Value) (h : Heap) : Res Value :=
 (nilR a0 h).bindN fun v1 h2 =>
 (fieldAddrR Prog 297 v1 1 h2).bindN fun v3 h4 =>
 (loadR Prog 44 v3 h4).bindN fun v5 h6 =>
 (nilR a0 h6).bindN fun v7 h8 =>
 (fieldAddrR Prog 297 v7 3 h8).bindN fun v9 h10 =>
 (loadR Prog 3 v9 h10).bindN fun v11 h12 =>
 (call F.ζ3b [v5, v11] h12).bindT (fun p15 h16 => (allocR Prog 115 h12).bindN fun v17 h18 => .panic p15 h16) fun v13 h14 =>
 (extractR v13 0 h14).bindN fun v19 h20 =>
 (extractR v13 1 h20).bindN fun v21 h22 =>
 (allocR Prog 115 h22).bindN fun v23 h24 =>
 (storeR Prog 115 v23 v19 h24).bindN fun _v25 h26 =>
 (unR .not v21 h26).bind fun v27 h28 =>
 condV (some v27) (
 .ok (.tuple #[(.int .i64 0), (.bool true)]) h28)
 (
 (nilR a0 h28).bindN fun v29 h30 =>
 (fieldAddrR Prog 297 v29 0 h30).bindN fun v31 h32 =>
 (loadR Prog 180 v31 h32).bindN fun v33 h34 =>
 (fieldAddrR Prog 115 v23 0 h34).bindN fun v35 h36 =>
 (loadR Prog 3 v35 h36).bindN fun v37 h38 =>
 (call F.ζ17 [v33, v37] h38).bindT (fun p41 h42 => .panic p41 h42) fun v39 h40 =>
 .ok (.tuple #[v39, (.bool false)]) h40)
theorem ζe8 (k : Nat) (a0 : Value) (h : Heap) : R (T k) F.ζ1y [a0] h = nrm .gc h (ζ1y k (R (T k)) a0 h) :=
 (R_body (t := T k) (T_scott k) (by kernel_rfl) (by kernel_rfl) _ _).trans (by kernel_rfl)
end
end Go.Sw
end
section
namespace Go.Sw
open Go.RowKit
theorem Star.stEnd {H0 H : Heap} {A B : List It} {c : Nat} {cells : List Value} {e : Nat} (h : Star H0 H (A ++ itBlk c ⟨cells, e, false⟩ :: B)) (off : Nat) {v : Value} (hs : storable v = true) (hc : v.cells = #[v]) (ho : off < cells.length) :
  ∃ H', stR 1 (.pointer (some ⟨c, off, none⟩)) v H = .ok undef H' ∧ Star H0 H' (A ++ itBlk c ⟨cells.set off v, e, false⟩ :: B) := by
 obtain ⟨H', h1, h2, _⟩ := h.stCell A.length (c := c) (cells := cells) (e := e) (by simp) off hs hc ho;exact ⟨H', h1, by simpa using h2⟩
structure Drv where
 st : Int
 pl : Int
 stp : Int
 rest : Int
abbrev drvC (m : Mach) (c : Nat) (d : Drv) : List Value := [machV m, ptrV c, .int .i64 d.st, .int .i64 d.pl, .int .i64 d.stp, .int .i64 d.rest]
def clsS (m : Mach) (l : List Gl) (pl : Int) : Int × Bool := match atG l pl with | some g => (classS m g.id, false) | none => (0, true)
def entS (m : Mach) (l : List Gl) (d : Drv) : En := (stepS m d.st (clsS m l d.pl).1).getD ⟨0, 0, 0, 0⟩
abbrev encE (e : En) : Value := .agg (encEn e).toArray
theorem take_mid {α : Type} (x : α) (B : List α) : ∀ A : List α, (A ++ x :: B).take (A.length + 1) = A ++ [x]
 | [] => rfl
 | a :: A => by simp [take_mid x B A]
theorem ζp5 (n : Nat) : n &&& 2 ^ 14 = if n.testBit 14 then 2 ^ 14 else 0 := by
 apply Nat.eq_of_testBit_eq;intro i;rw [Nat.testBit_and, Nat.testBit_two_pow];by_cases h : 14 = i
 ·subst h;cases hb : n.testBit 14 <;> simp <;> decide
 ·cases hb : n.testBit 14
  ·simp [h]
  ·simp only [h, decide_false, Bool.and_false, if_true, Nat.testBit_two_pow]
theorem and14 (P : Program) (t : TypeId) (H : Heap) {a : Int} (h0 : 0 ≤ a) (h1 : a < 65536) : binR P .and t (.int .i64 a) (.int .i64 16384) H = .ok (.int .i64 (if a / 16384 % 2 = 1 then 16384 else 0)) H := by
 have e : (BitVec.ofInt 64 a &&& BitVec.ofInt 64 16384).toNat = (if a / 16384 % 2 = 1 then 16384 else 0) := by
  rw [BitVec.toNat_and, BitVec.toNat_ofInt, BitVec.toNat_ofInt];rw [show ((16384 : Int) % ((2 ^ 64 : Nat) : Int)).toNat = 2 ^ 14 from by decide, ζp5, Nat.testBit_eq_decide_div_mod_eq];obtain ⟨n, rfl⟩ := Int.eq_ofNat_of_zero_le h0;rw [show (((n : Int)) % ((2 ^ 64 : Nat) : Int)).toNat = n by omega];by_cases h : (n : Int) / 16384 % 2 = 1
  ·rw [if_pos h, decide_eq_true (show n / 2 ^ 14 % 2 = 1 by omega)]; rfl
  ·rw [if_neg h, decide_eq_false (show ¬ n / 2 ^ 14 % 2 = 1 by omega)]; rfl
 have e1 : binV P .and t (.int .i64 a) (.int .i64 16384) = some (.int .i64 (IntKind.i64.wrap (BitVec.ofInt 64 a &&& BitVec.ofInt 64 16384).toNat)) := rfl;unfold binR;rw [e1, e];by_cases h : a / 16384 % 2 = 1
 ·simp [h]
 ·simp [h]
theorem ζij (k : Nat) (m : Mach) (hm : m.ok) {H0 H : Heap} {L : List It} (h : Star H0 H L) {c q : Nat} {o : Option Nat} {l : List Gl} {d : Drv} (i : Nat) (hi : L[i]? = some (itLine c o l)) (hq : H.get q = some ⟨drvC m c d, 1, false⟩) :
  R (T k) F.ζ1y [ptrV q] H = .ok (.tuple #[.int .i64 (clsS m l d.pl).1, .bool (clsS m l d.pl).2]) H := by
 rw [ζe8];have hat := ζhh k h i hi d.pl;have fl : ∀ (a : Int) b, Flat (.tuple #[.int .i64 a, .bool b]) := fun a b => .tupleL (.cons (.int _ _) (.cons (.bool _) .nil));unfold clsS;have hqn : ¬ q = H.n := by have := Heap.get_lt hq; omega
 cases ha : atG l d.pl with
 | none =>
  rw [ha] at hat;refine nrm_gc ⟨H.push ⟨[.int .i64 0, .int .i64 0], 1, false⟩, ?_, (Ext.refl H).push _⟩ (fl _ _).alive;unfold encA at hat;simp at hat;simp -implicitDefEqProofs (disch := omega) [ζ1y, hq, hat]
 | some g =>
  rw [ha] at hat;have hc := fun H' => ζp1 k m hm g.id H';refine nrm_gc ⟨H.push ⟨encG g, 1, false⟩, ?_, (Ext.refl H).push _⟩ (fl _ _).alive;unfold encA at hat;simp at hat;simp -implicitDefEqProofs (disch := omega) [ζ1y, hq, hqn, hat, hc]
theorem ζo3 {m : Mach} (hm : m.ok) (l : List Gl) (d : Drv) : let e := entS m l d; 0 ≤ e.next ∧ e.next < 65536 ∧ 0 ≤ e.flags ∧ e.flags < 65536 ∧ 0 ≤ e.a ∧ e.a < 65536 ∧ 0 ≤ e.b ∧ e.b < 65536 := by
 dsimp only;unfold entS;cases h : stepS m d.st (clsS m l d.pl).1 with
 | none => simp
 | some x =>
  have hx : x ∈ m.ents := by
   unfold stepS at h;split at h
   ·obtain ⟨r, _, h⟩ := Option.bind_eq_some_iff.1 h;obtain ⟨y, _, h⟩ := Option.bind_eq_some_iff.1 h;exact List.mem_of_getElem? h
   ·cases h
  have := hm.ent x hx;have := hm.two;simp only [Option.getD_some];omega
theorem getS_pos {ps : List Pt} (hok : ∀ p, p ∈ ps → p.ok) {id x : Int} (h : getS ps id = some x) : 0 ≤ x := by
 unfold getS at h;obtain ⟨p, hp, h⟩ := Option.bind_eq_some_iff.1 h;split at h
 ·exact ((hok p (List.mem_of_find?_eq_some hp)).2.2.2.2.2 x (List.mem_of_getElem? h)).1
 ·cases h
theorem ζlg {m : Mach} (hm : m.ok) (id : Int) : 0 ≤ classS m id ∧ classS m id < m.classes := by
 have := hm.cl;unfold classS;split
 ·omega
 ·split
  ·rename_i c hc;have := getS_pos hm.pts hc;split <;> omega
  ·omega
theorem ζnz {m : Mach} (hm : m.ok) (l : List Gl) (p : Int) : 0 ≤ (clsS m l p).1 ∧ (clsS m l p).1 < m.classes := by
 have := hm.cl;unfold clsS;split
 ·exact ζlg hm _
 ·dsimp only; omega
theorem entS_mem {m : Mach} (hm : m.ok) (l : List Gl) (d : Drv) (h : 0 ≤ d.st ∧ d.st < m.rows.length) : entS m l d ∈ m.ents := by
 have hc := ζnz hm l d.pl;obtain ⟨r, x, e, _, _, _, he, hs⟩ := ζi6 hm (s := d.st) (c := (clsS m l d.pl).1) ⟨h.1, h.2, hc.1, hc.2⟩;unfold entS;rw [hs];exact List.mem_of_getElem? he
variable {σ : Type}
def stepD (m : Mach) (ln : σ → List Gl) (f : σ → Int → En → σ × Int × Int) (x : σ × Drv) : (σ × Drv) × Bool :=
 if (entS m (ln x.1) x.2).flags / 16384 % 2 = 1 then (((f x.1 x.2.pl (entS m (ln x.1) x.2)).1, ⟨(entS m (ln x.1) x.2).next, max (f x.1 x.2.pl (entS m (ln x.1) x.2)).2.1 0, x.2.stp + 1, x.2.rest + 1⟩), false)
 else (((f x.1 x.2.pl (entS m (ln x.1) x.2)).1, ⟨(entS m (ln x.1) x.2).next, max (f x.1 x.2.pl (entS m (ln x.1) x.2)).2.2 0, x.2.stp + 1, 0⟩), (clsS m (ln x.1) x.2.pl).2)
end Go.Sw
end
section
namespace Go.Sw
open Go.RowKit
variable {σ : Type}
def runD (m : Mach) (ln : σ → List Gl) (f : σ → Int → En → σ × Int × Int) (most : Int) : Nat → σ × Drv → Int × Int × σ
  | 0, x => (x.2.stp, 4, x.1)
  | n + 1, x => if x.2.stp < most then
      (if (stepD m ln f x).2 then ((stepD m ln f x).1.2.stp, 0, (stepD m ln f x).1.1)
       else if (stepD m ln f x).1.2.rest > 64 then ((stepD m ln f x).1.2.stp, 4, (stepD m ln f x).1.1)
       else runD m ln f most n (stepD m ln f x).1)
    else (x.2.stp, 4, x.1)
theorem ζqe (m : Mach) (ln : σ → List Gl) (f : σ → Int → En → σ × Int × Int) (x : σ × Drv) : (stepD m ln f x).1.2.stp = x.2.stp + 1 := by unfold stepD; split <;> rfl
theorem stepD_pl (m : Mach) (ln : σ → List Gl) (f : σ → Int → En → σ × Int × Int) (x : σ × Drv) : 0 ≤ (stepD m ln f x).1.2.pl := by unfold stepD; split <;> (dsimp only; omega)
theorem ζot (m : Mach) (ln : σ → List Gl) (f : σ → Int → En → σ × Int × Int) (x : σ × Drv) (h : 0 ≤ x.2.rest) : 0 ≤ (stepD m ln f x).1.2.rest ∧ (stepD m ln f x).1.2.rest ≤ x.2.rest + 1 := by unfold stepD; split <;> (dsimp only; omega)
end Go.Sw
end
section
set_option maxRecDepth 100000
set_option linter.unusedVariables false
namespace Go.Sw
noncomputable section
def ζ2g (k : Nat) (call : Caller) : Env → Heap → Res (AExit × Env) := loopB (C k) call F.ζ4 [1, 1, 1, 1, 1, 1, 1, 0, 0, 0]
def ζ51 (k : Nat) (call : Caller) : Kont Value := kBlock 0 (kSeq (pieceK (C k) call F.ζ4 [1, 1, 1, 1, 1, 1, 1, 1]) (kDone Prog (resOf Prog F.ζ4)))
def ζ8k (k : Nat) (call : Caller) (a0 a6 a8 a11 a12 a13 : Value) (h : Heap) : Res (AExit × Env) :=
 kSeq (pieceK (C k) call F.ζ4 [1, 1, 1, 1, 1, 1, 1, 0, 0, 0, 1, 0, 1, 1, 1]) (kBlock 1 (kRound (ownOf (C k) F.ζ4 [1, 1, 1, 1, 1, 1, 1, 0, 0, 0]))) .normal [(0, a0), (6, a6), (8, a8), (11, a11), (12, a12), (13, a13)] h
def ζ8l (k : Nat) (call : Caller) (a0 a6 a8 a11 a12 a13 a93 : Value) (h : Heap) : Res (AExit × Env) :=
 kSeq (pieceK (C k) call F.ζ4 [1, 1, 1, 1, 1, 1, 1, 0, 0, 0, 1, 0, 1, 1, 1]) (kBlock 1 (kRound (ownOf (C k) F.ζ4 [1, 1, 1, 1, 1, 1, 1, 0, 0, 0]))) .normal [(0, a0), (6, a6), (8, a8), (11, a11), (12, a12), (13, a13), (93, a93)] h
def ζ5k (k : Nat) (call : Caller) (a0 a6 a8 a11 a12 a13 : Value) (h : Heap) : Res (AExit × Env) :=
 kSeq (pieceK (C k) call F.ζ4 [1, 1, 1, 1, 1, 1, 1, 0, 0, 0, 1, 0, 1, 1, 1, 1]) (kBlock 1 (kRound (ownOf (C k) F.ζ4 [1, 1, 1, 1, 1, 1, 1, 0, 0, 0]))) .normal [(0, a0), (6, a6), (8, a8), (11, a11), (12, a12), (13, a13)] h
def ζ5l (k : Nat) (call : Caller) (a0 a6 a8 a11 a12 a13 a115 : Value) (h : Heap) : Res (AExit × Env) :=
 kSeq (pieceK (C k) call F.ζ4 [1, 1, 1, 1, 1, 1, 1, 0, 0, 0, 1, 0, 1, 1, 1, 1]) (kBlock 1 (kRound (ownOf (C k) F.ζ4 [1, 1, 1, 1, 1, 1, 1, 0, 0, 0]))) .normal [(0, a0), (6, a6), (8, a8), (11, a11), (12, a12), (13, a13), (115, a115)] h
def ζ4 (k : Nat) (call : Caller) (a0 a1 a2 : Value) (h : Heap) : Res Value :=
 (allocR Prog 41 h).bind fun v1 h2 =>
 (call F.ζ1 [a0, (.int .i64 0), (.int .i64 4)] h2).bind fun v3 h4 =>
 (call F.ζ1 [a0, (.int .i64 8), (.int .i64 4)] h4).bind fun v5 h6 =>
 (call F.ζ1 [a0, (.int .i64 12), (.int .i64 4)] h6).bind fun v7 h8 =>
 (buildR Prog 41 [(0, a0), (1, v3), (2, v5), (3, v7), (4, (.int .i64 2)), (6, a2)] h8).bind fun v9 h10 =>
 (allocR Prog 41 h10).bind fun v11 h12 =>
 (storeR Prog 41 v11 v9 h12).bind fun _v13 h14 =>
 (call F.ζ1 [a0, (.int .i64 4), (.int .i64 4)] h14).bind fun v15 h16 =>
 (fieldAddrR Prog 41 v11 1 h16).bind fun v17 h18 =>
 (loadR Prog 3 v17 h18).bind fun v19 h20 =>
 (binR Prog .lss 3 v19 (.int .i64 4) h20).bind fun v21 h22 =>
 ((bif wantVal v21 false then fieldAddrR Prog 41 v11 1 h22 else Res.ok undef h22)).bind fun v23 h24 =>
 ((bif wantVal v21 false then loadR Prog 3 v23 h24 else Res.ok undef h24)).bind fun v25 h26 =>
 ((bif wantVal v21 false then binR Prog .gtr 3 v25 (.int .i64 65535) h26 else Res.ok undef h26)).bind fun v27 h28 =>
 (condV (some v21) (Res.ok (.bool true) h28) (Res.ok v27 h28)).bind fun v29 h30 =>
 ((bif wantVal v29 false then fieldAddrR Prog 41 v11 2 h30 else Res.ok undef h30)).bind fun v31 h32 =>
 ((bif wantVal v29 false then loadR Prog 3 v31 h32 else Res.ok undef h32)).bind fun v33 h34 =>
 ((bif wantVal v29 false then binR Prog .lss 3 v33 (.int .i64 0) h34 else Res.ok undef h34)).bind fun v35 h36 =>
 (condV (some v29) (Res.ok (.bool true) h36) (Res.ok v35 h36)).bind fun v37 h38 =>
 ((bif wantVal v37 false then fieldAddrR Prog 41 v11 3 h38 else Res.ok undef h38)).bind fun v39 h40 =>
 ((bif wantVal v37 false then loadR Prog 3 v39 h40 else Res.ok undef h40)).bind fun v41 h42 =>
 ((bif wantVal v37 false then binR Prog .lss 3 v41 (.int .i64 0) h42 else Res.ok undef h42)).bind fun v43 h44 =>
 (condV (some v37) (Res.ok (.bool true) h44) (Res.ok v43 h44)).bind fun v45 h46 =>
 ((bif wantVal v45 false then fieldAddrR Prog 41 v11 2 h46 else Res.ok undef h46)).bind fun v47 h48 =>
 ((bif wantVal v45 false then loadR Prog 3 v47 h48 else Res.ok undef h48)).bind fun v49 h50 =>
 ((bif wantVal v45 false then Res.ok a0 h50 else Res.ok undef h50)).bind fun v51 h52 =>
 ((bif wantVal v45 false then builtinV Prog .len [22] [v51] h52 else Res.ok undef h52)).bind fun v53 h54 =>
 ((bif wantVal v45 false then binR Prog .gtr 3 v49 v53 h54 else Res.ok undef h54)).bind fun v55 h56 =>
 (condV (some v45) (Res.ok (.bool true) h56) (Res.ok v55 h56)).bind fun v57 h58 =>
 ((bif wantVal v57 false then fieldAddrR Prog 41 v11 3 h58 else Res.ok undef h58)).bind fun v59 h60 =>
 ((bif wantVal v57 false then loadR Prog 3 v59 h60 else Res.ok undef h60)).bind fun v61 h62 =>
 ((bif wantVal v57 false then Res.ok a0 h62 else Res.ok undef h62)).bind fun v63 h64 =>
 ((bif wantVal v57 false then builtinV Prog .len [22] [v63] h64 else Res.ok undef h64)).bind fun v65 h66 =>
 ((bif wantVal v57 false then binR Prog .gtr 3 v61 v65 h66 else Res.ok undef h66)).bind fun v67 h68 =>
 (condV (some v57) (Res.ok (.bool true) h68) (Res.ok v67 h68)).bind fun v69 h70 =>
 ((bif wantVal v69 false then Res.ok v15 h70 else Res.ok undef h70)).bind fun v71 h72 =>
 ((bif wantVal v69 false then binR Prog .lss 3 v71 (.int .i64 0) h72 else Res.ok undef h72)).bind fun v73 h74 =>
 (condV (some v69) (Res.ok (.bool true) h74) (Res.ok v73 h74)).bind fun v75 h76 =>
 ((bif wantVal v75 false then Res.ok v15 h76 else Res.ok undef h76)).bind fun v77 h78 =>
 ((bif wantVal v75 false then Res.ok a0 h78 else Res.ok undef h78)).bind fun v79 h80 =>
 ((bif wantVal v75 false then builtinV Prog .len [22] [v79] h80 else Res.ok undef h80)).bind fun v81 h82 =>
 ((bif wantVal v75 false then binR Prog .gtr 3 v77 v81 h82 else Res.ok undef h82)).bind fun v83 h84 =>
 (condV (some v75) (Res.ok (.bool true) h84) (Res.ok v83 h84)).bind fun v85 h86 =>
 condV (some v85) (
 (buildR Prog 41 [] h86).bind fun v87 h88 =>
 (storeR Prog 41 v1 v87 h88).bind fun _v89 h90 =>
 (loadR Prog 41 v1 h90).bind fun v91 h92 =>
 .ok (.tuple #[v91, (.bool false)]) h92)
 (
 (sliceR Prog 22 a0 (some v15) none none h86).bind fun v93 h94 =>
 (call F.ζs [v93, a1, (.int .i64 2)] h94).bind fun v95 h96 =>
 (extractR v95 0 h96).bind fun v97 h98 =>
 (extractR v95 1 h98).bind fun v99 h100 =>
 (allocR Prog 39 h100).bind fun v101 h102 =>
 (storeR Prog 39 v101 v97 h102).bind fun _v103 h104 =>
 (loadR Prog 39 v101 h104).bind fun v105 h106 =>
 (fieldAddrR Prog 41 v11 7 h106).bind fun v107 h108 =>
 (storeR Prog 39 v107 v105 h108).bind fun _v109 h110 =>
 (binR Prog .mul 3 (.int .i64 2) a2 h110).bind fun v111 h112 =>
 (binR Prog .add 3 (.int .i64 4) v111 h112).bind fun v113 h114 =>
 (loopN (ζ2g k call) loopFuel [(0, a0), (6, v1), (8, v11), (11, v99), (12, v113)] h114).bind fun r115 h116 =>
 ζ51 k call r115.1 r115.2 h116)
theorem ζge (k : Nat) (a0 a1 a2 : Value) (h : Heap) : R (T k) F.ζ4 [a0, a1, a2] h = nrm .fz h (ζ4 k (R (T k)) a0 a1 a2 h) :=
 (R_body (t := T k) (T_scott k) (by kernel_rfl) (by kernel_rfl) _ _).trans (by kernel_rfl)
theorem ζ1i (k : Nat) (call : Caller) (a0 a6 a8 a11 a12 : Value) (h : Heap) : ζ2g k call [(0, a0), (6, a6), (8, a8), (11, a11), (12, a12)] h =
 condV (some a11) (
 (loadR Prog 41 a8 h).bind fun v117 h118 =>
 (allocR Prog 41 h118).bind fun v119 h120 =>
 (storeR Prog 41 v119 v117 h120).bind fun _v121 h122 =>
 (builtinV Prog .len [22] [a0] h122).bind fun v123 h124 =>
 (fieldAddrR Prog 41 a8 2 h124).bind fun v125 h126 =>
 (loadR Prog 3 v125 h126).bind fun v127 h128 =>
 (fieldAddrR Prog 41 a8 4 h128).bind fun v129 h130 =>
 (loadR Prog 3 v129 h130).bind fun v131 h132 =>
 (fieldAddrR Prog 41 a8 1 h132).bind fun v133 h134 =>
 (loadR Prog 3 v133 h134).bind fun v135 h136 =>
 (binR Prog .mul 3 (.int .i64 2) v135 h136).bind fun v137 h138 =>
 (call F.ζk [v123, v127, v131, v137] h138).bind fun v139 h140 =>
 condV (some v139) (
 (fieldAddrR Prog 41 a8 5 h140).bindN fun v141 h142 =>
 (loadR Prog 3 v141 h142).bindN fun v143 h144 =>
 (fieldAddrR Prog 41 a8 2 h144).bindN fun v145 h146 =>
 (loadR Prog 3 v145 h146).bindN fun v147 h148 =>
 (fieldAddrR Prog 41 a8 4 h148).bindN fun v149 h150 =>
 (loadR Prog 3 v149 h150).bindN fun v151 h152 =>
 (fieldAddrR Prog 41 a8 1 h152).bindN fun v153 h154 =>
 (loadR Prog 3 v153 h154).bindN fun v155 h156 =>
 (binR Prog .mul 3 v151 v155 h156).bindN fun v157 h158 =>
 (call F.ζ1b [a0, v147, v157, (.int .i64 2)] h158).bindT (fun p161 h162 => .panic p161 h162) fun v159 h160 =>
 (builtinV Prog .max [3, 3] [v143, v159] h160).bindN fun v163 h164 =>
 (fieldAddrR Prog 41 a8 5 h164).bindN fun v165 h166 =>
 (storeR Prog 3 v165 v163 h166).bindN fun _v167 h168 =>
 chkR ((okVal (loadR Prog 3 v141 h160) v143 && true) && true) (
 (builtinV Prog .len [22] [a0] h168).bind fun v169 h170 =>
 (fieldAddrR Prog 41 a8 3 h170).bind fun v171 h172 =>
 (loadR Prog 3 v171 h172).bind fun v173 h174 =>
 (fieldAddrR Prog 41 a8 5 h174).bind fun v175 h176 =>
 (loadR Prog 3 v175 h176).bind fun v177 h178 =>
 (call F.ζk [v169, v173, v177, a12] h178).bind fun v179 h180 =>
 ζ8k k call a0 a6 a8 v179 a12 v119 h180))
 (
 ζ8l k call a0 a6 a8 v139 a12 v119 v139 h140))
 (
 .ok ((.exit 0), [(0, a0), (6, a6), (8, a8), (12, a12), (81, a11)]) h) :=
 (loopB_eq _ _).trans (by kernel_rfl)
theorem ζ2w (k : Nat) (call : Caller) (a0 a6 a8 a11 a12 a13 : Value) (h : Heap) : ζ8k k call a0 a6 a8 a11 a12 a13 h =
 condV (some a11) (
 (fieldAddrR Prog 41 a8 4 h).bindN fun v181 h182 =>
 (loadR Prog 3 v181 h182).bindN fun v183 h184 =>
 (fieldAddrR Prog 41 a8 3 h184).bindN fun v185 h186 =>
 (loadR Prog 3 v185 h186).bindN fun v187 h188 =>
 (fieldAddrR Prog 41 a8 5 h188).bindN fun v189 h190 =>
 (loadR Prog 3 v189 h190).bindN fun v191 h192 =>
 (call F.ζ1b [a0, v187, v191, a12] h192).bindT (fun p195 h196 => .panic p195 h196) fun v193 h194 =>
 (builtinV Prog .max [3, 3] [v183, v193] h194).bindN fun v197 h198 =>
 (fieldAddrR Prog 41 a8 4 h198).bindN fun v199 h200 =>
 (storeR Prog 3 v199 v197 h200).bindN fun _v201 h202 =>
 chkR ((okVal (loadR Prog 3 v181 h194) v183 && true) && true) (
 ζ5k k call a0 a6 a8 a11 a12 a13 h202))
 (
 ζ5l k call a0 a6 a8 a11 a12 a13 a11 h) := by kernel_rfl
theorem ζdc (k : Nat) (call : Caller) (a0 a6 a8 a11 a12 a13 a93 : Value) (h : Heap) : ζ8l k call a0 a6 a8 a11 a12 a13 a93 h =
 condV (some a11) (
 (fieldAddrR Prog 41 a8 4 h).bindN fun v203 h204 =>
 (loadR Prog 3 v203 h204).bindN fun v205 h206 =>
 (fieldAddrR Prog 41 a8 3 h206).bindN fun v207 h208 =>
 (loadR Prog 3 v207 h208).bindN fun v209 h210 =>
 (fieldAddrR Prog 41 a8 5 h210).bindN fun v211 h212 =>
 (loadR Prog 3 v211 h212).bindN fun v213 h214 =>
 (call F.ζ1b [a0, v209, v213, a12] h214).bindT (fun p217 h218 => .panic p217 h218) fun v215 h216 =>
 (builtinV Prog .max [3, 3] [v205, v215] h216).bindN fun v219 h220 =>
 (fieldAddrR Prog 41 a8 4 h220).bindN fun v221 h222 =>
 (storeR Prog 3 v221 v219 h222).bindN fun _v223 h224 =>
 chkR ((okVal (loadR Prog 3 v203 h216) v205 && true) && true) (
 ζ5k k call a0 a6 a8 a11 a12 a13 h224))
 (
 ζ5l k call a0 a6 a8 a11 a12 a13 a11 h) := by kernel_rfl
theorem ζ3z (k : Nat) (call : Caller) (a0 a6 a8 a11 a12 a13 : Value) (h : Heap) : ζ5k k call a0 a6 a8 a11 a12 a13 h =
 ((bif wantVal a11 true then fieldAddrR Prog 41 a8 4 h else Res.ok undef h)).bind fun v225 h226 =>
 ((bif wantVal a11 true then loadR Prog 3 v225 h226 else Res.ok undef h226)).bind fun v227 h228 =>
 ((bif wantVal a11 true then fieldAddrR Prog 41 a13 4 h228 else Res.ok undef h228)).bind fun v229 h230 =>
 ((bif wantVal a11 true then loadR Prog 3 v229 h230 else Res.ok undef h230)).bind fun v231 h232 =>
 ((bif wantVal a11 true then binR Prog .eql 3 v227 v231 h232 else Res.ok undef h232)).bind fun v233 h234 =>
 (condV (some a11) (Res.ok v233 h234) (Res.ok (.bool false) h234)).bind fun v235 h236 =>
 ((bif wantVal v235 true then fieldAddrR Prog 41 a8 5 h236 else Res.ok undef h236)).bind fun v237 h238 =>
 ((bif wantVal v235 true then loadR Prog 3 v237 h238 else Res.ok undef h238)).bind fun v239 h240 =>
 ((bif wantVal v235 true then fieldAddrR Prog 41 a13 5 h240 else Res.ok undef h240)).bind fun v241 h242 =>
 ((bif wantVal v235 true then loadR Prog 3 v241 h242 else Res.ok undef h242)).bind fun v243 h244 =>
 ((bif wantVal v235 true then binR Prog .eql 3 v239 v243 h244 else Res.ok undef h244)).bind fun v245 h246 =>
 (condV (some v235) (Res.ok v245 h246) (Res.ok (.bool false) h246)).bind fun v247 h248 =>
 condV (some v247) (
 (loadR Prog 41 a8 h248).bind fun v249 h250 =>
 (storeR Prog 41 a6 v249 h250).bind fun _v251 h252 =>
 .ok (.ret, [(6, a6), (7, (.bool true))]) h252)
 (
 .ok (.normal, [(0, a0), (6, a6), (8, a8), (11, a11), (12, a12)]) h248) := by kernel_rfl
theorem ζ6q (k : Nat) (call : Caller) (a0 a6 a8 a11 a12 a13 a115 : Value) (h : Heap) : ζ5l k call a0 a6 a8 a11 a12 a13 a115 h =
 ((bif wantVal a11 true then fieldAddrR Prog 41 a8 4 h else Res.ok undef h)).bind fun v253 h254 =>
 ((bif wantVal a11 true then loadR Prog 3 v253 h254 else Res.ok undef h254)).bind fun v255 h256 =>
 ((bif wantVal a11 true then fieldAddrR Prog 41 a13 4 h256 else Res.ok undef h256)).bind fun v257 h258 =>
 ((bif wantVal a11 true then loadR Prog 3 v257 h258 else Res.ok undef h258)).bind fun v259 h260 =>
 ((bif wantVal a11 true then binR Prog .eql 3 v255 v259 h260 else Res.ok undef h260)).bind fun v261 h262 =>
 (condV (some a11) (Res.ok v261 h262) (Res.ok (.bool false) h262)).bind fun v263 h264 =>
 ((bif wantVal v263 true then fieldAddrR Prog 41 a8 5 h264 else Res.ok undef h264)).bind fun v265 h266 =>
 ((bif wantVal v263 true then loadR Prog 3 v265 h266 else Res.ok undef h266)).bind fun v267 h268 =>
 ((bif wantVal v263 true then fieldAddrR Prog 41 a13 5 h268 else Res.ok undef h268)).bind fun v269 h270 =>
 ((bif wantVal v263 true then loadR Prog 3 v269 h270 else Res.ok undef h270)).bind fun v271 h272 =>
 ((bif wantVal v263 true then binR Prog .eql 3 v267 v271 h272 else Res.ok undef h272)).bind fun v273 h274 =>
 (condV (some v263) (Res.ok v273 h274) (Res.ok (.bool false) h274)).bind fun v275 h276 =>
 condV (some v275) (
 (loadR Prog 41 a8 h276).bind fun v277 h278 =>
 (storeR Prog 41 a6 v277 h278).bind fun _v279 h280 =>
 .ok (.ret, [(6, a6), (7, (.bool true))]) h280)
 (
 .ok (.normal, [(0, a0), (6, a6), (8, a8), (11, a11), (12, a12)]) h276) := by kernel_rfl
theorem ζ66 (k : Nat) (call : Caller) (a0 a6 a8 a12 a81 : Value) (h : Heap) : ζ51 k call (.exit 0) [(0, a0), (6, a6), (8, a8), (12, a12), (81, a81)] h =
 (buildR Prog 41 [] h).bind fun v281 h282 =>
 (storeR Prog 41 a6 v281 h282).bind fun _v283 h284 =>
 (loadR Prog 41 a6 h284).bind fun v285 h286 =>
 .ok (.tuple #[v285, (.bool false)]) h286 := by kernel_rfl
theorem ζdd (k : Nat) (call : Caller) (a6 a7 : Value) (h : Heap) : ζ51 k call .ret [(6, a6), (7, a7)] h =
 (loadR Prog 41 a6 h).bind fun v287 h288 =>
 .ok (.tuple #[v287, a7]) h288 := by kernel_rfl
def ζ52 (k : Nat) (call : Caller) : Env → Heap → Res (AExit × Env) := loopB (C k) call F.ζ1b [1, 1, 0, 1, 0, 0]
def ζ7d (k : Nat) (call : Caller) : Kont Value := kBlock 0 (kSeq (pieceK (C k) call F.ζ1b [1, 1, 1]) (kDone Prog (resOf Prog F.ζ1b)))
def ζ1b (k : Nat) (call : Caller) (a0 a1 a2 a3 : Value) (h : Heap) : Res Value :=
 (loopN (ζ52 k call) loopFuel [(0, a0), (1, a1), (2, a2), (3, a3), (9, (.int .i64 0)), (10, (.int .i64 0))] h).bind fun r1 h2 =>
 ζ7d k call r1.1 r1.2 h2
theorem ζft (k : Nat) (a0 a1 a2 a3 : Value) (h : Heap) : R (T k) F.ζ1b [a0, a1, a2, a3] h = nrm .gc h (ζ1b k (R (T k)) a0 a1 a2 a3 h) :=
 (R_body (t := T k) (T_scott k) (by kernel_rfl) (by kernel_rfl) _ _).trans (by kernel_rfl)
theorem ζ67 (k : Nat) (call : Caller) (a0 a1 a2 a3 a9 a10 : Value) (h : Heap) : ζ52 k call [(0, a0), (1, a1), (2, a2), (3, a3), (9, a9), (10, a10)] h =
 (binR Prog .lss 3 a10 a2 h).bind fun v3 h4 =>
 condV (some v3) (
 (binR Prog .mul 3 a10 a3 h4).bind fun v5 h6 =>
 (binR Prog .add 3 a1 v5 h6).bind fun v7 h8 =>
 (call F.ζ1 [a0, v7, (.int .i64 2)] h8).bind fun v9 h10 =>
 (binR Prog .add 3 v9 (.int .i64 1) h10).bind fun v11 h12 =>
 (builtinV Prog .max [3, 3] [a9, v11] h12).bind fun v13 h14 =>
 (binR Prog .add 3 a10 (.int .i64 1) h14).bind fun v15 h16 =>
 .ok (.normal, [(0, a0), (1, a1), (2, a2), (3, a3), (9, v13), (10, v15)]) h16)
 (
 .ok ((.exit 0), [(0, a0), (1, a1), (2, a2), (3, a3), (9, a9), (10, a10), (13, v3)]) h4) :=
 (loopB_eq _ _).trans (by kernel_rfl)
theorem ζ9q (k : Nat) (call : Caller) (a0 a1 a2 a3 a9 a10 a13 : Value) (h : Heap) : ζ7d k call (.exit 0) [(0, a0), (1, a1), (2, a2), (3, a3), (9, a9), (10, a10), (13, a13)] h =
 .ok a9 h := by kernel_rfl
def ζ7s (k : Nat) (call : Caller) (a2 a4 a5 a6 : Value) (h : Heap) : Res Value :=
 kSeq (pieceK (C k) call F.ζf [1, 1, 1, 1]) (kDone Prog (resOf Prog F.ζf)) .normal [(2, a2), (4, a4), (5, a5), (6, a6)] h
def ζ7t (k : Nat) (call : Caller) (a2 a4 a5 a6 a28 : Value) (h : Heap) : Res Value :=
 kSeq (pieceK (C k) call F.ζf [1, 1, 1, 1]) (kDone Prog (resOf Prog F.ζf)) .normal [(2, a2), (4, a4), (5, a5), (6, a6), (28, a28)] h
def ζ4z (k : Nat) (call : Caller) (a4 a6 : Value) (h : Heap) : Res Value :=
 kSeq (pieceK (C k) call F.ζf [1, 1, 1, 1, 1]) (kDone Prog (resOf Prog F.ζf)) .normal [(4, a4), (6, a6)] h
def ζ50 (k : Nat) (call : Caller) (a2 a4 a5 a6 a37 : Value) (h : Heap) : Res Value :=
 kSeq (pieceK (C k) call F.ζf [1, 1, 1, 1, 1]) (kDone Prog (resOf Prog F.ζf)) .normal [(2, a2), (4, a4), (5, a5), (6, a6), (37, a37)] h
def ζf (k : Nat) (call : Caller) (a0 a1 : Value) (h : Heap) : Res Value :=
 (boxR a0 h).bind fun v1 h2 =>
 (allocR Prog 31 h2).bind fun v3 h4 =>
 (fieldAddrR Prog 41 v1 3 h4).bind fun v5 h6 =>
 (loadR Prog 3 v5 h6).bind fun v7 h8 =>
 (fieldAddrR Prog 41 v1 6 h8).bind fun v9 h10 =>
 (loadR Prog 3 v9 h10).bind fun v11 h12 =>
 (binR Prog .mul 3 (.int .i64 2) v11 h12).bind fun v13 h14 =>
 (binR Prog .add 3 (.int .i64 4) v13 h14).bind fun v15 h16 =>
 (binR Prog .mul 3 a1 v15 h16).bind fun v17 h18 =>
 (binR Prog .add 3 v7 v17 h18).bind fun v19 h20 =>
 (fieldAddrR Prog 41 v1 0 h20).bindN fun v21 h22 =>
 (loadR Prog 22 v21 h22).bindN fun v23 h24 =>
 (call F.ζ1 [v23, v19, (.int .i64 2)] h24).bindT (fun p27 h28 => (fieldAddrR Prog 41 v1 0 h24).bindN fun v29 h30 => (loadR Prog 22 v29 h30).bindN fun v31 h32 => (binR Prog .add 3 v19 (.int .i64 2) h32).bindN fun v33 h34 => (allocR Prog 31 h34).bindN fun v35 h36 => chkR ((okVal (loadR Prog 22 v29 h20) v31 && true) && true) (.panic p27 h28)) fun v25 h26 =>
 (fieldAddrR Prog 41 v1 0 h26).bindN fun v37 h38 =>
 (loadR Prog 22 v37 h38).bindN fun v39 h40 =>
 (binR Prog .add 3 v19 (.int .i64 2) h40).bindN fun v41 h42 =>
 (call F.ζ1 [v39, v41, (.int .i64 2)] h42).bindT (fun p45 h46 => (allocR Prog 31 h42).bindN fun v47 h48 => chkR ((okVal (loadR Prog 22 v37 h20) v39 && true) && true) (.panic p45 h46)) fun v43 h44 =>
 (buildR Prog 31 [(0, v25), (1, v43)] h44).bindN fun v49 h50 =>
 (allocR Prog 31 h50).bindN fun v51 h52 =>
 (storeR Prog 31 v51 v49 h52).bindN fun _v53 h54 =>
 chkR ((okVal (loadR Prog 22 v37 h20) v39 && true) && true) (
 (fieldAddrR Prog 41 v1 6 h54).bind fun v55 h56 =>
 (loadR Prog 3 v55 h56).bind fun v57 h58 =>
 (binR Prog .gtr 3 v57 (.int .i64 0) h58).bind fun v59 h60 =>
 condV (some v59) (
 (fieldAddrR Prog 41 v1 0 h60).bind fun v61 h62 =>
 (loadR Prog 22 v61 h62).bind fun v63 h64 =>
 (binR Prog .add 3 v19 (.int .i64 4) h64).bind fun v65 h66 =>
 (call F.ζ1 [v63, v65, (.int .i64 2)] h66).bind fun v67 h68 =>
 (fieldAddrR Prog 31 v51 2 h68).bind fun v69 h70 =>
 (storeR Prog 3 v69 v67 h70).bind fun _v71 h72 =>
 ζ7s k call v1 v3 v19 v51 h72)
 (
 ζ7t k call v1 v3 v19 v51 v59 h60))
theorem ζfs (k : Nat) (a0 a1 : Value) (h : Heap) : R (T k) F.ζf [a0, a1] h = nrm .gc h (ζf k (R (T k)) a0 a1 h) :=
 (R_body (t := T k) (T_scott k) (by kernel_rfl) (by kernel_rfl) _ _).trans (by kernel_rfl)
theorem ζ64 (k : Nat) (call : Caller) (a2 a4 a5 a6 : Value) (h : Heap) : ζ7s k call a2 a4 a5 a6 h =
 (fieldAddrR Prog 41 a2 6 h).bind fun v73 h74 =>
 (loadR Prog 3 v73 h74).bind fun v75 h76 =>
 (binR Prog .gtr 3 v75 (.int .i64 1) h76).bind fun v77 h78 =>
 condV (some v77) (
 (fieldAddrR Prog 41 a2 0 h78).bind fun v79 h80 =>
 (loadR Prog 22 v79 h80).bind fun v81 h82 =>
 (binR Prog .add 3 a5 (.int .i64 6) h82).bind fun v83 h84 =>
 (call F.ζ1 [v81, v83, (.int .i64 2)] h84).bind fun v85 h86 =>
 (fieldAddrR Prog 31 a6 3 h86).bind fun v87 h88 =>
 (storeR Prog 3 v87 v85 h88).bind fun _v89 h90 =>
 ζ4z k call a4 a6 h90)
 (
 ζ50 k call a2 a4 a5 a6 v77 h78) := by kernel_rfl
theorem ζa4 (k : Nat) (call : Caller) (a2 a4 a5 a6 a28 : Value) (h : Heap) : ζ7t k call a2 a4 a5 a6 a28 h =
 (fieldAddrR Prog 41 a2 6 h).bind fun v91 h92 =>
 (loadR Prog 3 v91 h92).bind fun v93 h94 =>
 (binR Prog .gtr 3 v93 (.int .i64 1) h94).bind fun v95 h96 =>
 condV (some v95) (
 (fieldAddrR Prog 41 a2 0 h96).bind fun v97 h98 =>
 (loadR Prog 22 v97 h98).bind fun v99 h100 =>
 (binR Prog .add 3 a5 (.int .i64 6) h100).bind fun v101 h102 =>
 (call F.ζ1 [v99, v101, (.int .i64 2)] h102).bind fun v103 h104 =>
 (fieldAddrR Prog 31 a6 3 h104).bind fun v105 h106 =>
 (storeR Prog 3 v105 v103 h106).bind fun _v107 h108 =>
 ζ4z k call a4 a6 h108)
 (
 ζ50 k call a2 a4 a5 a6 v95 h96) := by kernel_rfl
theorem ζa5 (k : Nat) (call : Caller) (a4 a6 : Value) (h : Heap) : ζ4z k call a4 a6 h =
 (loadR Prog 31 a6 h).bind fun v109 h110 =>
 (storeR Prog 31 a4 v109 h110).bind fun _v111 h112 =>
 (loadR Prog 31 a4 h112).bind fun v113 h114 =>
 .ok v113 h114 := by kernel_rfl
theorem ζ65 (k : Nat) (call : Caller) (a2 a4 a5 a6 a37 : Value) (h : Heap) : ζ50 k call a2 a4 a5 a6 a37 h =
 (loadR Prog 31 a6 h).bind fun v115 h116 =>
 (storeR Prog 31 a4 v115 h116).bind fun _v117 h118 =>
 (loadR Prog 31 a4 h118).bind fun v119 h120 =>
 .ok v119 h120 := by kernel_rfl
def ζ1u (k : Nat) (call : Caller) (a0 a1 : Value) (h : Heap) : Res Value :=
 (boxR a0 h).bind fun v1 h2 =>
 (binR Prog .eql 3 a1 (.int .i64 65535) h2).bind fun v3 h4 =>
 condV (some v3) (
 .ok (.int .i64 2) h4)
 (
 (fieldAddrR Prog 41 v1 7 h4).bind fun v5 h6 =>
 (loadR Prog 39 v5 h6).bind fun v7 h8 =>
 (call F.ζ22 [v7, a1] h8).bind fun v9 h10 =>
 (extractR v9 0 h10).bind fun v11 h12 =>
 (extractR v9 1 h12).bind fun v13 h14 =>
 (unR .not v13 h14).bind fun v15 h16 =>
 ((bif wantVal v15 false then Res.ok v11 h16 else Res.ok undef h16)).bind fun v17 h18 =>
 ((bif wantVal v15 false then fieldAddrR Prog 41 v1 1 h18 else Res.ok undef h18)).bind fun v19 h20 =>
 ((bif wantVal v15 false then loadR Prog 3 v19 h20 else Res.ok undef h20)).bind fun v21 h22 =>
 ((bif wantVal v15 false then binR Prog .geq 3 v17 v21 h22 else Res.ok undef h22)).bind fun v23 h24 =>
 (condV (some v15) (Res.ok (.bool true) h24) (Res.ok v23 h24)).bind fun v25 h26 =>
 condV (some v25) (
 .ok (.int .i64 1) h26)
 (
 .ok v11 h26))
theorem ζfr (k : Nat) (a0 a1 : Value) (h : Heap) : R (T k) F.ζ1u [a0, a1] h = nrm .gc h (ζ1u k (R (T k)) a0 a1 h) :=
 (R_body (t := T k) (T_scott k) (by kernel_rfl) (by kernel_rfl) _ _).trans (by kernel_rfl)
def ζ1n (k : Nat) (call : Caller) (a0 a1 a2 : Value) (h : Heap) : Res Value :=
 (boxR a0 h).bind fun v1 h2 =>
 (allocR Prog 31 h2).bind fun v3 h4 =>
 (binR Prog .lss 3 a1 (.int .i64 0) h4).bind fun v5 h6 =>
 ((bif wantVal v5 false then Res.ok a1 h6 else Res.ok undef h6)).bind fun v7 h8 =>
 ((bif wantVal v5 false then fieldAddrR Prog 41 v1 4 h8 else Res.ok undef h8)).bind fun v9 h10 =>
 ((bif wantVal v5 false then loadR Prog 3 v9 h10 else Res.ok undef h10)).bind fun v11 h12 =>
 ((bif wantVal v5 false then binR Prog .geq 3 v7 v11 h12 else Res.ok undef h12)).bind fun v13 h14 =>
 (condV (some v5) (Res.ok (.bool true) h14) (Res.ok v13 h14)).bind fun v15 h16 =>
 ((bif wantVal v15 false then Res.ok a2 h16 else Res.ok undef h16)).bind fun v17 h18 =>
 ((bif wantVal v15 false then binR Prog .lss 3 v17 (.int .i64 0) h18 else Res.ok undef h18)).bind fun v19 h20 =>
 (condV (some v15) (Res.ok (.bool true) h20) (Res.ok v19 h20)).bind fun v21 h22 =>
 ((bif wantVal v21 false then Res.ok a2 h22 else Res.ok undef h22)).bind fun v23 h24 =>
 ((bif wantVal v21 false then fieldAddrR Prog 41 v1 1 h24 else Res.ok undef h24)).bind fun v25 h26 =>
 ((bif wantVal v21 false then loadR Prog 3 v25 h26 else Res.ok undef h26)).bind fun v27 h28 =>
 ((bif wantVal v21 false then binR Prog .geq 3 v23 v27 h28 else Res.ok undef h28)).bind fun v29 h30 =>
 (condV (some v21) (Res.ok (.bool true) h30) (Res.ok v29 h30)).bind fun v31 h32 =>
 condV (some v31) (
 (buildR Prog 31 [] h32).bind fun v33 h34 =>
 (storeR Prog 31 v3 v33 h34).bind fun _v35 h36 =>
 (loadR Prog 31 v3 h36).bind fun v37 h38 =>
 .ok (.tuple #[v37, (.bool false)]) h38)
 (
 (loadR Prog 41 v1 h32).bindN fun v39 h40 =>
 (fieldAddrR Prog 41 v1 0 h40).bindN fun v41 h42 =>
 (loadR Prog 22 v41 h42).bindN fun v43 h44 =>
 (fieldAddrR Prog 41 v1 2 h44).bindN fun v45 h46 =>
 (loadR Prog 3 v45 h46).bindN fun v47 h48 =>
 (fieldAddrR Prog 41 v1 1 h48).bindN fun v49 h50 =>
 (loadR Prog 3 v49 h50).bindN fun v51 h52 =>
 (binR Prog .mul 3 a1 v51 h52).bindN fun v53 h54 =>
 (binR Prog .add 3 v53 a2 h54).bindN fun v55 h56 =>
 (binR Prog .mul 3 (.int .i64 2) v55 h56).bindN fun v57 h58 =>
 (binR Prog .add 3 v47 v57 h58).bindN fun v59 h60 =>
 (call F.ζ1 [v43, v59, (.int .i64 2)] h60).bindT (fun p63 h64 => .panic p63 h64) fun v61 h62 =>
 (call F.ζf [v39, v61] h62).bindT (fun p67 h68 => chkR ((okVal (loadR Prog 41 v1 h62) v39 && true) && true) (.panic p67 h68)) fun v65 h66 =>
 (storeR Prog 31 v3 v65 h66).bindN fun _v69 h70 =>
 chkR ((okVal (loadR Prog 41 v1 h62) v39 && true) && true) (
 (loadR Prog 31 v3 h70).bind fun v71 h72 =>
 .ok (.tuple #[v71, (.bool true)]) h72))
theorem ζgf (k : Nat) (a0 a1 a2 : Value) (h : Heap) : R (T k) F.ζ1n [a0, a1, a2] h = nrm .gc h (ζ1n k (R (T k)) a0 a1 a2 h) :=
 (R_body (t := T k) (T_scott k) (by kernel_rfl) (by kernel_rfl) _ _).trans (by kernel_rfl)
end
end Go.Sw
end
section
namespace Go.Sw
open Go.RowKit
theorem Star.stAll {H0 H : Heap} {L : List It} (h : Star H0 H L) (i : Nat) {c : Nat} {cells : List Value} {e : Nat} (hi : L[i]? = some (itBlk c ⟨cells, e, false⟩)) (vs : List Value) (n : Nat) (hn : cells.length = n) (hv : vs.length = n) :
  ∃ H', stR n (.pointer (some ⟨c, 0, none⟩)) (.agg vs.toArray) H = .ok undef H' ∧ Star H0 H' (L.set i (itBlk c ⟨vs, e, false⟩)) ∧ H'.n = H.n := by
 have hg := h.get i hi;refine ⟨H.set c (some ⟨vs, e, false⟩), ?_, h.step i hi (by simp) (fun d _ hd => ?_) _ ?_ fun b hb => .inl hb, by simp⟩
 ·have hd : cells.drop vs.length = [] := by rw [List.drop_eq_nil_iff]; omega
  simp [hg, hv, hd];rw [hv] at hd;rw [if_pos (by omega), hd];simp
 ·rw [ζ23];exact fun e => hd (show d ∈ [c] by simp [e])
 ·exact ζ5t _ _ _ (by rw [hg]; rfl)
theorem ζmg (k : Nat) (b : List Int) (hb : Byt b) (i step : Int) (n : Nat) (hi : 0 ≤ i ∧ i < 2 ^ 32) (hs : 0 ≤ step ∧ step ≤ 8) (hn : n < 2 ^ 33) (hl : b.length < 2 ^ 31) (H : Heap) :
  R (T k) F.ζ1b [lv encB b, .int .i64 i, .int .i64 n, .int .i64 step] H = .ok (.int .i64 (needsS b i step n)) H := by
 have hU := fun j H' => refU_run k (H := H') (Sl.lv H' 1 b) hb j 2 (by omega) (by omega);rw [ζft]
 obtain ⟨x, e', H1, hr, rfl, rfl, a, rfl⟩ := loop_up (body := ζ52 k (R (T k))) n
  (fun j e H' => H' = H ∧ e = [(0, lv encB b), (1, .int .i64 i), (2, .int .i64 n), (3, .int .i64 step), (9, .int .i64 (needsS b i step j)), (10, .int .i64 j)])
  (fun x e H' => H' = H ∧ x = .exit 0 ∧ ∃ a, e = [(0, lv encB b), (1, .int .i64 i), (2, .int .i64 n), (3, .int .i64 step), (9, .int .i64 (needsS b i step n)), (10, a), (13, .bool false)])
  (e0 := [(0, lv encB b), (1, .int .i64 i), (2, .int .i64 n), (3, .int .i64 step), (9, .int .i64 0), (10, .int .i64 0)]) (H0 := H) ⟨rfl, rfl⟩ (by omega)
  (fun j e H' hj ⟨hH, he⟩ => by
   subst he hH;have hlt : (j : Int) < n := by omega
   have hm0 : 0 ≤ (j : Int) * step := Int.mul_nonneg (by omega) hs.1;have hm1 : (j : Int) * step ≤ 8589934592 * 8 := Int.mul_le_mul (by omega) (by omega) (by omega) (by omega);have hu : ∀ H', R (T k) F.ζ1 [lv encB b, .int .i64 (i + (j : Int) * step), .int .i64 2] H' = .ok (.int .i64 (gU b (i + (j : Int) * step) 2)) H' := fun H' => hU _ H';have hg := gU_two hb (i + (j : Int) * step);have hN : needsS b i step (j + 1) = (if gU b (i + (j : Int) * step) 2 + 1 > needsS b i step j then gU b (i + (j : Int) * step) 2 + 1 else needsS b i step j) := by
    unfold needsS;rw [List.range_succ, List.map_append, List.map_singleton, ζhp];split <;> omega
   refine .inl ⟨_, H', ?_, rfl, rfl⟩;rw [ζ67, hN];generalize gU b (i + (j : Int) * step) 2 = y at *;simp -implicitDefEqProofs (disch := omega) [hlt, hu])
  (fun e H' ⟨hH, he⟩ => by
   subst he hH;refine ⟨.exit 0, _, H', ?_, by simp, rfl, rfl, .int .i64 n, rfl⟩;rw [ζ67];simp -implicitDefEqProofs)
 refine nrm_gc (Pure.of ?_) (.int _ _);simp -implicitDefEqProofs [ζ1b, hr, ζ9q]
abbrev rmCells (b : List Int) (n j q S N w : Int) (tb : List Int) (ps : List RP) : List Value :=
 [lv encB b, .int .i64 n, .int .i64 j, .int .i64 q, .int .i64 S, .int .i64 N, .int .i64 w, lv encB tb, lv encRP ps]
abbrev rmV (r : RMach) : Value := .agg (rmCells r.b r.cl r.rowsAt r.entsAt r.states r.n r.words r.tb r.parts).toArray
theorem Flat.rm (r : RMach) : Flat (rmV r) := .aggL (.cons (Flat.B _) (.cons (.int _ _) (.cons (.int _ _) (.cons (.int _ _) (.cons (.int _ _) (.cons (.int _ _) (.cons (.int _ _) (.cons (Flat.B _) (.cons (Flat.RPs _) .nil)))))))))
abbrev rmZ : RMach := ⟨[], 0, 0, 0, 0, 0, 0, [], []⟩
def rmO (o : Option RMach) : Value := rmV (o.getD rmZ)
abbrev zCells : List Value := [.slice none 0 0, .int .i64 0, .int .i64 0, .int .i64 0, .int .i64 0, .int .i64 0, .int .i64 0, .slice none 0 0, .slice none 0 0]
set_option maxHeartbeats 1000000 in
theorem ζq6 (k : Nat) (b : List Int) (hb : Byt b) (hl : b.length < 2 ^ 31) {n w j q : Int} (hn : 4 ≤ n ∧ n ≤ 65535) (hw : 0 ≤ w ∧ w ≤ 2) {rv ev : List Int} (hrv : restS b j = some rv) (hev : restS b q = some ev) (tb : List Int) (ps : List RP) {H0 H : Heap} {z c : Nat}
  (g : Star H0 H [itBlk z ⟨zCells, 1, false⟩, itBlk c ⟨rmCells b n j q 2 0 w tb ps, 1, false⟩]) :
  match closeA rv ev n w 2 with
  | some x => ∃ H' S N, loopN (ζ2g k (R (T k))) loopFuel [(0, lv encB b), (6, ptrV z), (8, ptrV c), (11, .bool true), (12, .int .i64 (4 + 2 * w))] H = .ok (.ret, [(6, ptrV z), (7, .bool true)]) H' ∧ Ext H0 H' ∧ H'.get z = some ⟨rmCells b n j q S N w tb ps, 1, false⟩ ∧ S = x.1.length ∧ N = x.2.length
  | none => ∃ H', loopN (ζ2g k (R (T k))) loopFuel [(0, lv encB b), (6, ptrV z), (8, ptrV c), (11, .bool true), (12, .int .i64 (4 + 2 * w))] H = .ok (.exit 0, [(0, lv encB b), (6, ptrV z), (8, ptrV c), (12, .int .i64 (4 + 2 * w)), (81, .bool false)]) H' ∧ Ext H0 H' ∧ H'.get z = some ⟨zCells, 1, false⟩ := by
 have hj := (ζ2t.1 hrv).1;have hq := (ζ2t.1 hev).1;have hbE := hb.rest hev;have hbR := hb.rest hrv;obtain ⟨n, rfl⟩ := Int.eq_ofNat_of_zero_le (show 0 ≤ n by omega);have hRows := fun i n z H' => ζ88 k b.length i n z (by omega) (by omega) H'
 obtain ⟨x, e', H1, hr, hQ⟩ := loopDec (body := ζ2g k (R (T k)))
  (fun m e H' => ∃ (S N : Nat) (fl : Bool), e = [(0, lv encB b), (6, ptrV z), (8, ptrV c), (11, .bool fl), (12, .int .i64 (4 + 2 * w))] ∧ 2 ≤ S ∧ S ≤ 65536 ∧ N ≤ 65536 ∧ Star H0 H' [itBlk z ⟨zCells, 1, false⟩, itBlk c ⟨rmCells b n j q S N w tb ps, 1, false⟩] ∧
   (fl = true → m = (65537 - S) * 65538 + (65537 - N) + 1 ∧ closeA rv ev n w 2 = closeA rv ev n w S ∧ ∀ rs, rowsTo rv n S = some rs → (N : Int) ≤ needR rs) ∧ (fl = false → m = 0 ∧ closeA rv ev n w 2 = none))
  (fun x e H' => (∃ (y : List (List Int) × List En) (S N : Int), closeA rv ev n w 2 = some y ∧ x = .ret ∧ e = [(6, ptrV z), (7, .bool true)] ∧ Ext H0 H' ∧ H'.get z = some ⟨rmCells b n j q S N w tb ps, 1, false⟩ ∧ S = y.1.length ∧ N = y.2.length) ∨
   (closeA rv ev n w 2 = none ∧ x = .exit 0 ∧ e = [(0, lv encB b), (6, ptrV z), (8, ptrV c), (12, .int .i64 (4 + 2 * w)), (81, .bool false)] ∧ Ext H0 H' ∧ H'.get z = some ⟨zCells, 1, false⟩))
  ((65537 - 2) * 65538 + 65537 + 1) (e0 := [(0, lv encB b), (6, ptrV z), (8, ptrV c), (11, .bool true), (12, .int .i64 (4 + 2 * w))]) (H0 := H) ⟨2, 0, true, rfl, by omega, by omega, by omega, g, fun _ => ⟨rfl, rfl, fun rs _ => ζ75 rs⟩, fun h => by cases h⟩ (by omega)
  (fun m e H' ⟨S, N, fl, he, hS2, hS6, hN6, g, ht, hf⟩ => by
   subst he;cases fl with
   | false =>
    obtain ⟨hm, hc⟩ := hf rfl;refine .inr ⟨.exit 0, _, H', ?_, by simp, .inr ⟨hc, rfl, rfl, g.ext, g.get 0 rfl⟩⟩;rw [ζ1i];simp -implicitDefEqProofs
   | true =>
    obtain ⟨hm, hc, hNle⟩ := ht rfl;clear hf ht;have hcA := ζlu (rv := rv) hbE (n := (n : Int)) (w := w) hS6;have hM := g.get 1 rfl;have hcn : ¬ c = H'.n := by have := Heap.get_lt hM; omega
    have e0 : stR 9 (.pointer (some ⟨H'.n, 0, none⟩)) (.agg (rmCells b n j q S N w tb ps).toArray) (H'.push ⟨zCells, 1, false⟩) = .ok undef (H'.push ⟨rmCells b n j q S N w tb ps, 1, false⟩) := by simp
    have g1 := g.push ⟨rmCells b n j q S N w tb ps, 1, false⟩;obtain ⟨P, hP⟩ : ∃ P, P = H'.push ⟨rmCells b n j q S N w tb ps, 1, false⟩ := ⟨_, rfl⟩
    rw [← hP] at g1 e0;simp only [List.cons_append, List.nil_append] at g1;have hMP := g1.get 1 rfl;have hWP := g1.get 2 rfl;have hre := ζoq hrv (show (0 : Int) < n by omega) (s := S) (by omega);have hR1 := fun H' => hRows j S (2 * n) H';cases hrt : rowsTo rv n S with
    | none =>
     rw [hrt] at hre;simp at hre;rw [hre] at hR1;rw [hrt] at hcA;refine .inl ⟨0, _, P, ?_, by omega, S, N, false, rfl, hS2, hS6, hN6, g1.take 2, (fun h => by cases h), fun _ => ⟨rfl, by rw [hc, hcA]; rfl⟩⟩;rw [ζ1i];simp -implicitDefEqProofs (disch := omega) [-stR_ptr, hM, e0, hMP, hR1, ζdc, ζ6q]
    | some rs =>
     rw [hrt] at hre;simp at hre;rw [hre] at hR1;rw [hrt, Option.bind_some] at hcA;have hrl : rs.length = S := by have := mapO_len hrt; simpa using this
     have hneed := ζop hrv (show (0 : Int) < n by omega) hrt;have hNle := hNle rs hrt;have hn6 := ζfo hbR hrt;have hn0 := ζ75 rs;have hSn : (S : Int) * (n : Int) = ((S * n : Nat) : Int) := by simp
     have hSnb : S * n ≤ 65536 * 65535 := Nat.mul_le_mul (by omega) (by omega);rw [Int.toNat_natCast] at hneed;have hnr := fun H' => ζmg k b hb j 2 (S * n) (by omega) (by omega) (by omega) hl H';rw [hneed, ← hSn] at hnr;obtain ⟨N', hN'⟩ : ∃ N' : Nat, (N' : Int) = needR rs := ⟨(needR rs).toNat, by omega⟩
     have hmx : (if needR rs > N then needR rs else (N : Int)) = (N' : Int) := by rw [hN']; split <;> omega
     obtain ⟨P2, e2, g2, _⟩ := g1.stCell 1 rfl 5 (v := .int .i64 N') rfl rfl (by simp);simp only [List.set_cons_zero, List.set_cons_succ] at g2;have hMP2 := g2.get 1 rfl;have hWP2 := g2.get 2 rfl;have hR2 := fun H' => hRows q N' (4 + 2 * w) H';have hee := ζo5 hev hw.1 N';have hb1 : (S : Int) * (n : Int) ≤ 65536 * 65535 := by omega
     have hb0 : 0 ≤ (S : Int) * (n : Int) := by omega
     rw [show (needR rs).toNat = N' by omega] at hcA;cases het : entsTo ev w N' with
     | none =>
      rw [het] at hee;simp at hee;rw [hee] at hR2;rw [het] at hcA;refine .inl ⟨0, _, P2, ?_, by omega, S, N', false, rfl, hS2, hS6, by omega, g2.take 2, (fun h => by cases h), fun _ => ⟨rfl, by rw [hc, hcA]; rfl⟩⟩;rw [ζ1i];simp -implicitDefEqProofs (disch := omega) [-stR_ptr, hM, e0, hMP, hR1, hnr, hmx, e2, hMP2, hR2, ζ2w, ζ6q]
     | some es =>
      rw [het] at hee;simp at hee;rw [hee] at hR2;rw [het, Option.bind_some] at hcA;have hel : es.length = N' := by have := mapO_len het; simpa using this
      have hE := needE_le hbE het;have hneed2 := ζo4 hev hw het;have hnr2 := fun H' => ζmg k b hb q (4 + 2 * w) N' (by omega) (by omega) (by omega) hl H';rw [hneed2] at hnr2;obtain ⟨S', hS'⟩ : ∃ S' : Nat, (S' : Int) = max (S : Int) (needE es) := ⟨(max (S : Int) (needE es)).toNat, by omega⟩
      have hEe : needE es = max 2 (needL (es.map En.next)) := rfl;have hmx2 : (if needL (es.map En.next) > S then needL (es.map En.next) else (S : Int)) = (S' : Int) := by rw [hS', hEe]; split <;> omega
      have hL6 : needL (es.map En.next) ≤ 65536 := by omega
      obtain ⟨P3, e3, g3, _⟩ := g2.stCell 1 rfl 4 (v := .int .i64 S') rfl rfl (by simp);simp only [List.set_cons_zero, List.set_cons_succ] at g3;have hMP3 := g3.get 1 rfl;have hWP3 := g3.get 2 rfl;by_cases hsame : S' = S ∧ N' = N
      ·obtain ⟨rfl, rfl⟩ := hsame;rw [if_pos (by omega)] at hcA;obtain ⟨P4, e4, g4, _⟩ := g3.stAll 0 rfl (rmCells b n j q S' N' w tb ps) 9 rfl rfl;simp only [List.set_cons_zero, List.set_cons_succ] at g4;refine .inr ⟨.ret, _, P4, ?_, by simp, .inl ⟨_, S', N', by rw [hc, hcA], rfl, rfl, g4.ext, g4.get 0 rfl, by rw [hrl], by rw [hel]⟩⟩;rw [ζ1i];simp -implicitDefEqProofs (disch := omega) [-stR_ptr, hM, e0, hMP, hR1, hnr, hmx, e2, hMP2, hR2, ζ2w, hnr2, hmx2, e3, hMP3, hWP3, ζ3z, e4]
      ·refine .inl ⟨(65537 - S') * 65538 + (65537 - N') + 1, _, P3, ?_, ?_, S', N', true, rfl, by omega, by omega, by omega, g3.take 2, fun _ => ⟨rfl, ?_, ?_⟩, fun h => by cases h⟩
       ·by_cases hs1 : S' = S
        ·have hs2 : ((N' : Int) == (N : Int)) = false := by simp; omega
         subst hs1;rw [ζ1i];simp -implicitDefEqProofs (disch := omega) [-stR_ptr, hM, e0, hMP, hR1, hnr, hmx, e2, hMP2, hR2, ζ2w, hnr2, hmx2, e3, hMP3, hWP3, ζ3z, hs2]
        ·have hs2 : ((S' : Int) == (S : Int)) = false := by simp; omega
         rw [ζ1i];simp -implicitDefEqProofs (disch := omega) [-stR_ptr, hM, e0, hMP, hR1, hnr, hmx, e2, hMP2, hR2, ζ2w, hnr2, hmx2, e3, hMP3, hWP3, ζ3z, hs2]
       ·omega
       ·rw [hc];by_cases hcl : (needE es).toNat ≤ S
        ·rw [show S' = S by omega]
        ·rw [hcA, if_neg hcl, show S' = (needE es).toNat by omega]
       ·intro rt hrt2;have := ζog (s := S) (t := S') (by omega) hrt hrt2;omega)
 rcases hQ with ⟨y, S, N, h1, rfl, rfl, h2, h3, h4⟩ | ⟨h1, rfl, rfl, h2, h3⟩
 ·rw [h1]; exact ⟨H1, S, N, hr, h2, h3, h4⟩
 ·rw [h1]; exact ⟨H1, hr, h2, h3⟩
end Go.Sw
end
section
namespace Go.Sw
open Go.RowKit
theorem gU_four {b : List Int} (hb : Byt b) (i : Int) : -1 ≤ gU b i 4 ∧ gU b i 4 < 4294967296 := by
 unfold gU;cases h : uS b i 4 with
 | none => simp
 | some x => have := uS_four hb h; simp; omega
theorem gU_lt {b : List Int} {i : Int} (h : ¬ gU b i 4 < 0) : uS b i 4 = some (gU b i 4) := by
 unfold gU at h ⊢;cases hu : uS b i 4 with
 | none => rw [hu] at h; simp at h
 | some x => rfl
set_option maxHeartbeats 1000000 in
theorem ζlp (k : Nat) (b : List Int) (hb : Byt b) (g w : Int) (hg : 1 ≤ g ∧ g ≤ 65535) (hw : w = 0 ∨ w = 1 ∨ w = 2) (hl : b.length < 2 ^ 31) (H : Heap) :
  R (T k) F.ζ4 [lv encB b, .int .i64 g, .int .i64 w] H = .ok (.tuple #[rmO (refMachS b g w), .bool (refMachS b g w).isSome]) H := by
 rw [ζge];have hU := fun j H' => refU_run k (H := H') (Sl.lv H' 1 b) hb j 4 (by omega) (by omega);have u0 : ∀ H', R (T k) F.ζ1 [lv encB b, .int .i64 0, .int .i64 4] H' = .ok (.int .i64 (gU b 0 4)) H' := fun H' => hU _ H';have u4 : ∀ H', R (T k) F.ζ1 [lv encB b, .int .i64 4, .int .i64 4] H' = .ok (.int .i64 (gU b 4 4)) H' := fun H' => hU _ H';have u8 : ∀ H', R (T k) F.ζ1 [lv encB b, .int .i64 8, .int .i64 4] H' = .ok (.int .i64 (gU b 8 4)) H' := fun H' => hU _ H';have u12 : ∀ H', R (T k) F.ζ1 [lv encB b, .int .i64 12, .int .i64 4] H' = .ok (.int .i64 (gU b 12 4)) H' := fun H' => hU _ H';have b0 := gU_four hb 0;have b4 := gU_four hb 4;have b8 := gU_four hb 8;have b12 := gU_four hb 12;have fl : ∀ o : Option RMach, Flat (.tuple #[rmO o, .bool o.isSome]) := fun o => .tupleL (.cons (Flat.rm _) (.cons (.bool _) .nil));obtain ⟨n, hn⟩ : ∃ n, gU b 0 4 = n := ⟨_, rfl⟩
 obtain ⟨i, hi⟩ : ∃ i, gU b 4 4 = i := ⟨_, rfl⟩
 obtain ⟨j, hj⟩ : ∃ j, gU b 8 4 = j := ⟨_, rfl⟩
 obtain ⟨q, hq⟩ : ∃ q, gU b 12 4 = q := ⟨_, rfl⟩
 rw [hn] at u0 b0;rw [hi] at u4 b4;rw [hj] at u8 b8;rw [hq] at u12 b12;obtain ⟨M1, hM1⟩ : ∃ M1 : Blk, M1 = ⟨[lv encB b, .int .i64 n, .int .i64 j, .int .i64 q, .int .i64 2, .int .i64 0, .int .i64 w, .slice none 0 0, .slice none 0 0], 1, false⟩ := ⟨_, rfl⟩
 have hx2 : Ext H ((H.push ⟨zCells, 1, false⟩).push M1) := ((Ext.refl H).push _).push _
 -- one thing is not as it should be
 have no : machS b g w = none → ζ4 k (R (T k)) (lv encB b) (.int .i64 g) (.int .i64 w) H = .ok (.tuple #[.agg zCells.toArray, .bool false]) ((H.push ⟨zCells, 1, false⟩).push M1) → nrm .fz H (ζ4 k (R (T k)) (lv encB b) (.int .i64 g) (.int .i64 w) H) = .ok (.tuple #[rmO (refMachS b g w), .bool (refMachS b g w).isSome]) H := fun h1 h2 => by
  have : refMachS b g w = none := by unfold refMachS; rw [h1]; rfl
  rw [this];exact nrm_fz (L := []) h2 rfl hx2 (fl none).alive
 have n0 : ∀ m, machS b g w = some m → (4 ≤ n ∧ n ≤ 65535) ∧ 0 ≤ i ∧ i ≤ b.length ∧ 0 ≤ j ∧ j ≤ b.length ∧ 0 ≤ q ∧ q ≤ b.length := fun m hm => by
  obtain ⟨i', j', q', tb, rv, ev, x, h0, h1, h2, h3, h4, h5, h6, h7, h8, h9, _⟩ := ζfj hm;have e0 := gU_some h0;have e3 := gU_some h3;have e6 := gU_some h6;have e8 := gU_some h8;rw [hn] at e0;rw [hi] at e3;rw [hj] at e6;rw [hq] at e8;have r4 := (ζ2t.1 h4).1;have r7 := (ζ2t.1 h7).1;have r9 := (ζ2t.1 h9).1;omega
 have nn : ¬ ((4 ≤ n ∧ n ≤ 65535) ∧ 0 ≤ i ∧ i ≤ b.length ∧ 0 ≤ j ∧ j ≤ b.length ∧ 0 ≤ q ∧ q ≤ b.length) → machS b g w = none := fun h => by
  cases hm : machS b g w with
  | none => rfl
  | some m => exact absurd (n0 m hm) h
 by_cases c1 : n < 4
 ·refine no (nn (by omega)) ?_;rw [hM1];simp -implicitDefEqProofs (disch := omega) [ζ4, u0, u4, u8, u12, c1]
 by_cases c2 : n > 65535
 ·refine no (nn (by omega)) ?_;rw [hM1];simp -implicitDefEqProofs (disch := omega) [ζ4, u0, u4, u8, u12, c1, c2]
 by_cases c3 : j < 0
 ·refine no (nn (by omega)) ?_;rw [hM1];simp -implicitDefEqProofs (disch := omega) [ζ4, u0, u4, u8, u12, c1, c2, c3]
 by_cases c4 : q < 0
 ·refine no (nn (by omega)) ?_;rw [hM1];simp -implicitDefEqProofs (disch := omega) [ζ4, u0, u4, u8, u12, c1, c2, c3, c4]
 by_cases c5 : j > b.length
 ·refine no (nn (by omega)) ?_;rw [hM1];simp -implicitDefEqProofs (disch := omega) [ζ4, u0, u4, u8, u12, c1, c2, c3, c4, c5]
 by_cases c6 : q > b.length
 ·refine no (nn (by omega)) ?_;rw [hM1];simp -implicitDefEqProofs (disch := omega) [ζ4, u0, u4, u8, u12, c1, c2, c3, c4, c5, c6]
 by_cases c7 : i < 0
 ·refine no (nn (by omega)) ?_;rw [hM1];simp -implicitDefEqProofs (disch := omega) [ζ4, u0, u4, u8, u12, c1, c2, c3, c4, c5, c6, c7]
 by_cases c8 : i > b.length
 ·refine no (nn (by omega)) ?_;rw [hM1];simp -implicitDefEqProofs (disch := omega) [ζ4, u0, u4, u8, u12, c1, c2, c3, c4, c5, c6, c7, c8]
 clear no nn n0;have hU0 := gU_lt (b := b) (i := 0) (by omega);have hU4 := gU_lt (b := b) (i := 4) (by omega);have hU8 := gU_lt (b := b) (i := 8) (by omega);have hU12 := gU_lt (b := b) (i := 12) (by omega);rw [hn] at hU0;rw [hi] at hU4;rw [hj] at hU8;rw [hq] at hU12;obtain ⟨tb, htb⟩ : ∃ tb, tb = b.drop i.toNat := ⟨_, rfl⟩
 have r4 : restS b i = some tb := ζ2t.2 ⟨by omega, htb⟩;have r8 : restS b j = some (b.drop j.toNat) := ζ2t.2 ⟨by omega, rfl⟩;have r12 : restS b q = some (b.drop q.toNat) := ζ2t.2 ⟨by omega, rfl⟩;have hsl := fun H' => slS_lv encB_len b (some (.int .i64 i)) none none i.toNat b.length b.length (by unfold boundOf; dsimp only; rw [if_pos (by omega)]) rfl rfl (fun h => by cases h) (by omega) (Nat.le_refl _) (Nat.le_refl _) H';rw [List.take_length, ← htb] at hsl;have htbb : Byt tb := hb.rest r4;have htbl : tb.length < 2 ^ 31 := by rw [htb]; simp; omega
 have hrd := fun H' => ζol k tb htbb g 2 hg (.inl rfl) htbl H';have hlr := look_ref htbb hg.1 hg.2 (.inl rfl : (2 : Int) = 2 ∨ (2 : Int) = 4);have hmach : machS b g w = (lookS tb g 2).bind fun tab => (closeA (b.drop j.toNat) (b.drop q.toNat) n w 2).map fun x => ⟨n, tab, x.1, x.2⟩ := by
  unfold machS;rw [hU0, Option.bind_some, if_pos (by omega), hU4, Option.bind_some, r4, Option.bind_some];congr 1;funext tab;rw [hU8, Option.bind_some, r8, Option.bind_some, hU12, Option.bind_some, r12, Option.bind_some]
 cases hlk : lookS tb g 2 with
 | none =>
  have hm : refMachS b g w = none := by unfold refMachS; rw [hmach, hlk]; rfl
  rw [hm];have hrr := hlr.2 hlk;rw [hrr] at hrd;simp only [tabRO, Option.isSome_none] at hrd
  obtain ⟨x, e', H1, hr, rfl, rfl, rfl⟩ := loopDec (body := ζ2g k (R (T k)))
   (fun m e H' => H' = (((H.push ⟨zCells, 1, false⟩).push ⟨rmCells b n j q 2 0 w [] [], 1, false⟩).push ⟨[lv encB [], lv encRP []], 1, false⟩) ∧ e = [(0, lv encB b), (6, ptrV H.n), (8, ptrV (H.n + 1)), (11, .bool false), (12, .int .i64 (4 + 2 * w))])
   (fun x e H' => H' = (((H.push ⟨zCells, 1, false⟩).push ⟨rmCells b n j q 2 0 w [] [], 1, false⟩).push ⟨[lv encB [], lv encRP []], 1, false⟩) ∧ x = .exit 0 ∧ e = [(0, lv encB b), (6, ptrV H.n), (8, ptrV (H.n + 1)), (12, .int .i64 (4 + 2 * w)), (81, .bool false)])
   0 (e0 := [(0, lv encB b), (6, ptrV H.n), (8, ptrV (H.n + 1)), (11, .bool false), (12, .int .i64 (4 + 2 * w))]) (H0 := (((H.push ⟨zCells, 1, false⟩).push ⟨rmCells b n j q 2 0 w [] [], 1, false⟩).push ⟨[lv encB [], lv encRP []], 1, false⟩)) ⟨rfl, rfl⟩ (by omega)
   (fun m e H' ⟨hH, he⟩ => by
    subst hH he;refine .inr ⟨.exit 0, _, _, ?_, by simp, rfl, rfl, rfl⟩;rw [ζ1i];simp -implicitDefEqProofs)
  refine nrm_fz (L := []) (v := .tuple #[.agg zCells.toArray, .bool false]) (H' := ((H.push ⟨zCells, 1, false⟩).push ⟨rmCells b n j q 2 0 w [] [], 1, false⟩).push ⟨[lv encB [], lv encRP []], 1, false⟩) ?_ rfl ((((Ext.refl H).push _).push _).push _) (fl none).alive;simp -implicitDefEqProofs (disch := omega) [ζ4, u0, u4, u8, u12, c1, c2, c3, c4, c5, c6, c7, c8, hsl, hrd, hr, ζ66]
 | some tab =>
  obtain ⟨ps, hps, hrel⟩ := hlr.1 tab hlk;rw [hps] at hrd;simp only [tabRO, Option.isSome_some] at hrd;have st := ((Star.nil H).push ⟨zCells, 1, false⟩).push ⟨rmCells b n j q 2 0 w tb ps, 1, false⟩;have st := st.rest ((Ext.refl _).push ⟨[lv encB tb, lv encRP ps], 1, false⟩);have hlp := ζq6 k b hb hl (n := n) (w := w) (by omega) (by omega) r8 r12 tb ps (by simpa using st);cases hcl : closeA (b.drop j.toNat) (b.drop q.toNat) n w 2 with
  | none =>
   have hm : refMachS b g w = none := by unfold refMachS; rw [hmach, hlk, Option.bind_some, hcl]; rfl
   rw [hm];rw [hcl] at hlp;obtain ⟨H2, hr, hx, hz⟩ := hlp;have hgs : (H2.set H.n (some ⟨zCells, 1, false⟩)).get H.n = some ⟨zCells, 1, false⟩ := ζ5t _ _ _ (by rw [hz]; rfl);have hx3 : Ext H (H2.set H.n (some ⟨zCells, 1, false⟩)) := ⟨by simpa using hx.1, fun d hd hs => by rw [ζ23 _ _ _ _ (by omega)]; exact hx.2 d hd hs⟩
   refine nrm_fz (L := []) (v := .tuple #[.agg zCells.toArray, .bool false]) (H' := H2.set H.n (some ⟨zCells, 1, false⟩)) ?_ rfl hx3 (fl none).alive;simp -implicitDefEqProofs (disch := omega) [ζ4, u0, u4, u8, u12, c1, c2, c3, c4, c5, c6, c7, c8, hsl, hrd, hr, ζ66, hz, hgs]
  | some x =>
   have hm : refMachS b g w = some (rmOf b g w ⟨n, tab, x.1, x.2⟩) := by unfold refMachS; rw [hmach, hlk, Option.bind_some, hcl]; rfl
   rw [hm];rw [hcl] at hlp;obtain ⟨H2, S, N, hr, hx, hz, rfl, rfl⟩ := hlp;have hrm : rmO (some (rmOf b g w ⟨n, tab, x.1, x.2⟩)) = .agg (rmCells b n j q x.1.length x.2.length w tb ps).toArray := by
    unfold rmO rmOf;rw [hj, hq, hi, ← htb, hps];rfl
   have fl2 := fl (some (rmOf b g w ⟨n, tab, x.1, x.2⟩));rw [hrm] at fl2 ⊢;refine nrm_fz (L := []) (v := .tuple #[.agg (rmCells b n j q x.1.length x.2.length w tb ps).toArray, .bool true]) (H' := H2) ?_ rfl hx fl2.alive;simp -implicitDefEqProofs (disch := omega) [ζ4, u0, u4, u8, u12, c1, c2, c3, c4, c5, c6, c7, c8, hsl, hrd, hr, ζdd, hz]
theorem mach_at {b : List Int} (hb : Byt b) {g w : Int} (hw : 0 ≤ w ∧ w ≤ 2) {m : Mach} (h : machS b g w = some m) :
  (0 ≤ gU b 8 4 ∧ gU b 8 4 ≤ b.length) ∧ (0 ≤ gU b 12 4 ∧ gU b 12 4 ≤ b.length) ∧
  (∀ (i : Nat) e, m.ents[i]? = some e → e = ⟨gU b (gU b 12 4 + (i : Int) * (4 + 2 * w)) 2, gU b (gU b 12 4 + (i : Int) * (4 + 2 * w) + 2) 2, if 0 < w then gU b (gU b 12 4 + (i : Int) * (4 + 2 * w) + 4) 2 else 0, if 1 < w then gU b (gU b 12 4 + (i : Int) * (4 + 2 * w) + 6) 2 else 0⟩) ∧
  ∀ (s c : Nat) r x, m.rows[s]? = some r → r[c]? = some x → x = gU b (gU b 8 4 + (m.classes * s + (c : Nat)) * 2) 2 := by
 obtain ⟨i, j, q, tb, rv, ev, x, h0, h1, h2, h3, h4, h5, h6, h7, h8, h9, h10, h11, h12⟩ := ζfj h;have e6 := gU_some h6;have e8 := gU_some h8;rw [e6, e8];obtain ⟨c1, c2, c3, c4, c5, c6, c7, _⟩ := ζjr (hb.rest h7) (hb.rest h9) (by omega) hw _ _ x (by omega) (by omega) h10;refine ⟨(ζ2t.1 h7).1, (ζ2t.1 h9).1, fun i e he => ?_, fun s c r x' hr hx => ?_⟩
 ·rw [h12] at he;obtain ⟨y, g1, g2⟩ := mapO_at c7 (List.getElem?_eq_some_iff.1 he).1;rw [he] at g2;injection g2 with g2;subst g2;exact ent_at h9 hw g1
 ·rw [h11] at hr;obtain ⟨y, g1, g2⟩ := mapO_at c6 (List.getElem?_eq_some_iff.1 hr).1;rw [hr] at g2;injection g2 with g2;subst g2;have hra := row_at h7 (by omega) g1;have hlt := (List.getElem?_eq_some_iff.1 hx).1;rw [hra] at hx hlt;simp at hlt;rw [List.getElem?_map, List.getElem?_range (by omega)] at hx;injection hx with hx;exact hx.symm
theorem ζke (k : Nat) {b : List Int} (hb : Byt b) {g w : Int} (hw : w = 0 ∨ w = 1 ∨ w = 2) (hl : b.length < 2 ^ 31) {m : Mach} (h : machS b g w = some m) {i : Int} (hi0 : 0 ≤ i) (hi6 : i ≤ 65536) {e : En} (he : m.ents[i.toNat]? = some e) (H : Heap) :
  R (T k) F.ζf [rmV (rmOf b g w m), .int .i64 i] H = .ok (.agg (encEn e).toArray) H := by
 obtain ⟨_, hq, hat, _⟩ := mach_at hb (by omega) h;have he := hat _ _ he;clear hat;obtain ⟨i, rfl⟩ := Int.eq_ofNat_of_zero_le hi0;rw [Int.toNat_natCast] at he;obtain ⟨p, hp⟩ : ∃ p, p = gU b 12 4 + (i : Int) * (4 + 2 * w) := ⟨_, rfl⟩
 have hm0 : 0 ≤ (i : Int) * (4 + 2 * w) := Int.mul_nonneg (by omega) (by omega);have hm1 : (i : Int) * (4 + 2 * w) ≤ 65536 * 8 := Int.mul_le_mul (by omega) (by omega) (by omega) (by omega);have hU := fun j H' => refU_run k (H := H') (Sl.lv H' 1 b) hb j 2 (by omega) (by omega);have hu : ∀ j H', R (T k) F.ζ1 [lv encB b, .int .i64 j, .int .i64 2] H' = .ok (.int .i64 (gU b j 2)) H' := fun j H' => hU j H';rw [ζfs];rw [← hp] at he;have hx : Ext H (((H.push ⟨rmCells b m.classes (gU b 8 4) (gU b 12 4) m.rows.length m.ents.length w (b.drop (gU b 4 4).toNat) ((refReadS (b.drop (gU b 4 4).toNat) g 2).getD []), 1, false⟩).push ⟨encEn e, 1, false⟩).push ⟨encEn e, 1, false⟩) := (((Ext.refl H).push _).push _).push _;refine nrm_gc ⟨_, ?_, hx⟩ (Flat.ofEn e).alive;subst he;unfold rmOf;rcases hw with rfl | rfl | rfl
 ·simp -implicitDefEqProofs at hm0 hm1 hp;simp -implicitDefEqProofs (disch := omega) [ζf, ← hp, hu, ζa4, ζ65]
 ·simp -implicitDefEqProofs at hm0 hm1 hp;simp -implicitDefEqProofs (disch := omega) [ζf, ← hp, hu, ζ64, ζ65]
 ·simp -implicitDefEqProofs at hm0 hm1 hp;simp -implicitDefEqProofs (disch := omega) [ζf, ← hp, hu, ζ64, ζa5]
theorem ζny (k : Nat) {b : List Int} (hb : Byt b) {g w : Int} (hg : 1 ≤ g ∧ g ≤ 65535) (hl : b.length < 2 ^ 31) {m : Mach} (hm : m.ok) (h : machS b g w = some m) (id : Int) (H : Heap) :
  R (T k) F.ζ1u [rmV (rmOf b g w m), .int .i64 id] H = .ok (.int .i64 (classS m id)) H := by
 obtain ⟨i, j, q, tb, rv, ev, x, h0, h1, h2, h3, h4, h5, _⟩ := ζfj h;have e3 := gU_some h3;obtain ⟨hi, htb⟩ := ζ2t.1 h4;have htbb : Byt tb := hb.rest h4;have htbl := ζ7o h4;obtain ⟨ps, hps, hrel⟩ := (look_ref htbb hg.1 hg.2 (.inl rfl : (2 : Int) = 2 ∨ (2 : Int) = 4)).1 _ h5;have hget := fun H' => ζpp k tb htbb ps (ζon htbb hg (.inl rfl) hps) (ζnj htbb hg (.inl rfl) h5 hps) (by omega) id H';rw [← get_ref (id := id) hrel hm.pts hm.rise] at hget;have hrm : rmV (rmOf b g w m) = .agg (rmCells b m.classes (gU b 8 4) (gU b 12 4) m.rows.length m.ents.length w tb ps).toArray := by
  unfold rmOf;rw [e3, ← htb, hps];rfl
 rw [hrm, ζfr];refine nrm_gc ⟨_, ?_, (Ext.refl H).push ⟨rmCells b m.classes (gU b 8 4) (gU b 12 4) m.rows.length m.ents.length w tb ps, 1, false⟩⟩ (.int _ _);unfold classS;by_cases h : id = 65535
 ·subst h;simp -implicitDefEqProofs (disch := omega) [ζ1u]
 ·have h' : (id == 65535) = false := by simpa using h
  rw [if_neg h];cases hg : getS m.tab.2 id with
  | none =>
   rw [hg] at hget;simp -implicitDefEqProofs (disch := omega) [ζ1u, h', hget]
  | some x =>
   rw [hg] at hget;dsimp only;by_cases hx : x < m.classes
   ·have hx' : ¬ x ≥ m.classes := by omega
    simp -implicitDefEqProofs (disch := omega) [ζ1u, h', hget, hx, hx']
   ·have hx' : x ≥ m.classes := by omega
    simp -implicitDefEqProofs (disch := omega) [ζ1u, h', hget, hx, hx']
end Go.Sw
end
section
namespace Go.Sw
theorem row_I {r : List Da} {cs : List Value} (h : LayRow [.int .i64] r cs) : ∃ n : Int, cs = encI n ∧ (Lit.int .i64 n).wf = true := by
 obtain ⟨d, v, ds, vs, rfl, h1, h2⟩ := h.head;obtain rfl := h2.done;obtain ⟨n, rfl, w⟩ := h1.intv;exact ⟨n, rfl, w⟩
theorem wf_u8 {n : Int} (h : (Lit.int .u8 n).wf = true) : 0 ≤ n ∧ n < 256 := by
 simp [Lit.wf, IntKind.min, IntKind.max, IntKind.signed, IntKind.bits] at h;omega
theorem row_B {r : List Da} {cs : List Value} (h : LayRow [.int .u8] r cs) : ∃ n : Int, cs = encB n ∧ (0 ≤ n ∧ n < 256) := by
 obtain ⟨d, v, ds, vs, rfl, h1, h2⟩ := h.head;obtain rfl := h2.done;obtain ⟨n, rfl, w⟩ := h1.intv;exact ⟨n, rfl, wf_u8 w⟩
theorem arg_B {v : Value} (h : ArgLay (.one (.slice [.int .u8])) v) : ∃ b, v = lv encB b ∧ Byt b := by
 obtain ⟨d, h1⟩ := h.cell;obtain ⟨b, rfl, hb⟩ := Lay.list (enc := encB) (ok := fun n => 0 ≤ n ∧ n < 256) (fun r cs h => row_B h) h1;exact ⟨b, rfl, hb⟩
theorem arg_I {v : Value} (h : ArgLay (.one (.slice [.int .i64])) v) : ∃ l, v = lv encI l ∧ ∀ n, n ∈ l → (Lit.int .i64 n).wf = true := by
 obtain ⟨d, h1⟩ := h.cell;exact Lay.list (enc := encI) (ok := fun n => (Lit.int .i64 n).wf = true) (fun r cs h => row_I h) h1
theorem arg_i {k : IntKind} {v : Value} (h : ArgLay (.one (.int k)) v) : ∃ n, v = .int k n ∧ (Lit.int k n).wf = true := by
 obtain ⟨d, h1⟩ := h.cell;exact h1.intv
end Go.Sw
end
section
namespace Go.Sw
open Go.RowKit
theorem veq_RP (l : List RP) : veq (lv encRP l) (lv encRP l) = true := veq_lv fun p _ v hv => by
 simp [encRP] at hv;rcases hv with rfl | rfl | rfl | rfl | rfl <;> simp
theorem veq_rm (r : RMach) : veq (rmV r) (rmV r) = true := veq_agg fun v hv => by
 simp [rmCells] at hv;rcases hv with rfl | rfl | rfl | rfl | rfl | rfl | rfl | rfl | rfl
 ·simp
 ·simp
 ·simp
 ·simp
 ·simp
 ·simp
 ·simp
 ·simp
 ·exact veq_RP _
theorem ζqd (k : Nat) {b : List Int} (hb : Byt b) {g w : Int} (hw : w = 0 ∨ w = 1 ∨ w = 2) (hl : b.length < 2 ^ 31) {m : Mach} (hm : m.ok) (h : machS b g w = some m) (s c : Int) (H : Heap) :
  R (T k) F.ζ1n [rmV (rmOf b g w m), .int .i64 s, .int .i64 c] H = .ok (.tuple #[encEA (stepS m s c), .bool (stepS m s c).isSome]) H := by
 rw [ζgf];have fl : Flat (.tuple #[encEA (stepS m s c), .bool (stepS m s c).isSome]) := .tupleL (.cons (ζh3 _) (.cons (.bool _) .nil));have no : ¬ (0 ≤ s ∧ s < m.rows.length ∧ 0 ≤ c ∧ c < m.classes) → stepS m s c = none := fun h => by unfold stepS; rw [if_neg h]
 have hx1 : Ext H (H.push ⟨rmCells b m.classes (gU b 8 4) (gU b 12 4) m.rows.length m.ents.length w (b.drop (gU b 4 4).toNat) ((refReadS (b.drop (gU b 4 4).toNat) g 2).getD []), 1, false⟩) := (Ext.refl H).push _;have hx := hx1.push ⟨[.int .i64 0, .int .i64 0, .int .i64 0, .int .i64 0], 1, false⟩;obtain ⟨r, hr⟩ : ∃ r, r = rmOf b g w m := ⟨_, rfl⟩
 have hent := fun i h0 h6 e he H => ζke k hb (g := g) hw hl h (i := i) h0 h6 (e := e) he H;rw [← hr] at hent ⊢;have r1 : r.states = m.rows.length := by rw [hr]; rfl
 have r2 : r.cl = m.classes := by rw [hr]; rfl
 have r3 : r.rowsAt = gU b 8 4 := by rw [hr]; rfl
 have r4 : r.b = b := by rw [hr]; rfl
 have hx1 : Ext H (H.push ⟨rmCells r.b r.cl r.rowsAt r.entsAt r.states r.n r.words r.tb r.parts, 1, false⟩) := (Ext.refl H).push _;have hx := hx1.push ⟨[.int .i64 0, .int .i64 0, .int .i64 0, .int .i64 0], 1, false⟩;have hcl := hm.cl;by_cases h1 : s < 0
 ·rw [no (by omega)] at fl ⊢;refine nrm_gc ⟨_, ?_, hx⟩ fl.alive;simp -implicitDefEqProofs (disch := omega) [ζ1n, h1, encEA]
 by_cases h2 : s ≥ m.rows.length
 ·rw [no (by omega)] at fl ⊢;refine nrm_gc ⟨_, ?_, hx⟩ fl.alive;simp -implicitDefEqProofs (disch := omega) [ζ1n, h1, h2, r1, encEA]
 by_cases h3 : c < 0
 ·rw [no (by omega)] at fl ⊢;refine nrm_gc ⟨_, ?_, hx⟩ fl.alive;simp -implicitDefEqProofs (disch := omega) [ζ1n, h1, h2, h3, r1, encEA]
 by_cases h4 : c ≥ m.classes
 ·rw [no (by omega)] at fl ⊢;refine nrm_gc ⟨_, ?_, hx⟩ fl.alive;simp -implicitDefEqProofs (disch := omega) [ζ1n, h1, h2, h3, h4, r1, r2, encEA]
 obtain ⟨row, x, e, hrow, hxx, hx0, he, hs⟩ := ζi6 hm (s := s) (c := c) (by omega);rw [hs] at fl ⊢;obtain ⟨hj, _, _, hat⟩ := mach_at hb (by omega) h;have hpos := hat s.toNat c.toNat row x hrow hxx;have hxm := (hm.row row (List.mem_of_getElem? hrow)).2 x (List.mem_of_getElem? hxx);have hel := hm.elen;have htwo := hm.two;obtain ⟨s, rfl⟩ := Int.eq_ofNat_of_zero_le (show 0 ≤ s by omega);obtain ⟨c, rfl⟩ := Int.eq_ofNat_of_zero_le (show 0 ≤ c by omega);simp only [Int.toNat_natCast] at hpos;have hm0 : 0 ≤ (s : Int) * m.classes := Int.mul_nonneg (by omega) (by omega);have hm1 : (s : Int) * m.classes ≤ 65536 * 65535 := Int.mul_le_mul (by omega) (by omega) (by omega) (by omega);have hpe : gU b 8 4 + (m.classes * (s : Int) + (c : Nat)) * 2 = gU b 8 4 + 2 * ((s : Int) * m.classes + (c : Int)) := by rw [Int.mul_comm m.classes]; omega
 rw [hpe] at hpos;have hU := fun j H' => refU_run k (H := H') (Sl.lv H' 1 b) hb j 2 (by omega) (by omega);have hu : ∀ H', R (T k) F.ζ1 [lv encB b, .int .i64 (gU b 8 4 + 2 * ((s : Int) * m.classes + (c : Int))), .int .i64 2] H' = .ok (.int .i64 x) H' := fun H' => by
  rw [hU]; unfold gU at hpos; rw [hpos]; rfl
 have he' := hent x hx0 (by omega) e he;have hq := veq_rm r;refine nrm_gc ⟨(H.push ⟨rmCells r.b r.cl r.rowsAt r.entsAt r.states r.n r.words r.tb r.parts, 1, false⟩).push ⟨encEn e, 1, false⟩, ?_, hx1.push _⟩ fl.alive;simp only [rmV, rmCells, r1, r2, r3, r4] at he' hq ⊢;simp -implicitDefEqProofs (disch := omega) at he' hq ⊢;simp -implicitDefEqProofs (disch := omega) [ζ1n, h1, h2, h3, h4, hu, he', hq, encEA]
end Go.Sw
end
section
namespace Go.Sw
open Go.RowKit
end Go.Sw
end
section
namespace Go.Sw
open Go.RowKit
variable {σ : Type}
end Go.Sw
end
